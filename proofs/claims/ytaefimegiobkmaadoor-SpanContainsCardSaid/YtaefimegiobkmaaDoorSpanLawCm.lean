/-
  SpanContains: the walk of the statement.
  Conditions: each theorem's own.
-/
import Derived.Test.YtaefimegiobkmaaDoorMA6
namespace Go.Proofs.YtaefimegiobkmaaDoor
open Go.RowKit Go.ChangeShapes Go.WideShapes

set_option maxRecDepth 100000 in
set_option maxHeartbeats 3200000 in
theorem spancontains_big (va : Value) (na ma nax max : Nat) (vb : Value) (nb mb nbx mbx : Nat) (k0 : Nat) (k1 : Nat) (w : World) (ha : SpSz va na ma nax max) (hb : SpSz vb nb mb nbx mbx) (hk0 : k0 < 256) (hk1 : k1 < 256) (hbig : 6 < na ∨ 6 < ma ∨ 6 < nax ∨ 6 < max ∨ 6 < nb ∨ 6 < mb ∨ 6 < nbx ∨ 6 < mbx) :
    Calls Tryd.prog 5 #[va, vb, .agg #[.int .u8 (k0 : Nat), .int .u8 (k1 : Nat)]] w (RetV w (.bool true)) := by
  have HBW := Lib.hid (Below.refl w.heap.size w)
  have kz0 : rl 0 ≤ 1 := by rw [rl_zero]; exact Nat.le_refl _
  obtain ⟨qa, oa, ka, pa, ra, qax, oax, kax, pax, rax, rfl, Za⟩ := ha
  obtain ⟨qb, ob, kb, pb, rb, qbx, obx, kbx, pbx, rbx, rfl, Zb⟩ := hb
  have HBIG := Lib.hid hbig; clear hbig
  obtain ⟨w1, hw1⟩ : ∃ w1, w1 = w.alloc (.cells #[.bool qa, .slice oa na ka, .slice pa ma ra, .bool qax, .slice oax nax kax, .slice pax max rax] 26) := ⟨_, rfl⟩
  have hb1 : Below w.heap.size w w1 := by rw [hw1]; exact (Below.refl _ _).alloc (Nat.le_refl _) _
  have hx1 := heap_alloc_new w (.cells #[.bool qa, .slice oa na ka, .slice pa ma ra, .bool qax, .slice oax nax kax, .slice pax max rax] 26)
  obtain ⟨g1, hg1⟩ : ∃ g, g = w.heap.size := ⟨_, rfl⟩
  rw [← hw1, ← hg1] at hx1
  have lw1 : w.heap.size ≤ g1 := by rw [hg1]; exact HBW.out.size
  have HW1 := Lib.hid hw1; have HG1 := Lib.hid hg1; clear hw1 hg1
  have HB1 := Lib.hid (HBW.out.step hb1)
  have BX1 := Lib.hid hx1; clear hb1 hx1
  obtain ⟨w2, hw2⟩ : ∃ w2, w2 = w1.alloc (.cells #[.bool qb, .slice ob nb kb, .slice pb mb rb, .bool qbx, .slice obx nbx kbx, .slice pbx mbx rbx] 26) := ⟨_, rfl⟩
  have hb2 : Below w1.heap.size w1 w2 := by rw [hw2]; exact (Below.refl _ _).alloc (Nat.le_refl _) _
  have hx2 := heap_alloc_new w1 (.cells #[.bool qb, .slice ob nb kb, .slice pb mb rb, .bool qbx, .slice obx nbx kbx, .slice pbx mbx rbx] 26)
  obtain ⟨g2, hg2⟩ : ∃ g, g = w1.heap.size := ⟨_, rfl⟩
  rw [← hw2, ← hg2] at hx2
  have lw2 : w.heap.size ≤ g2 := by rw [hg2]; exact HB1.out.size
  have ltBX12 : g1 < g2 := by rw [hg2]; exact below_lt BX1.out
  have hs2 : g2 = w.heap.size + 1 := by rw [hg2, HW1.out]; simp
  have HS2 := Lib.hid hs2; clear hs2
  have HW2 := Lib.hid hw2; have HG2 := Lib.hid hg2; clear hw2 hg2
  have HB2 := Lib.hid (HB1.out.step hb2)
  have BX1 := Lib.hid (heap_below BX1.out hb2)
  have BX2 := Lib.hid hx2; clear hb2 hx2
  obtain ⟨w3, hw3⟩ : ∃ w3, w3 = w2.alloc (.cells #[.int .u8 (k0 : Nat), .int .u8 (k1 : Nat)] 43) := ⟨_, rfl⟩
  have hb3 : Below w2.heap.size w2 w3 := by rw [hw3]; exact (Below.refl _ _).alloc (Nat.le_refl _) _
  have hx3 := heap_alloc_new w2 (.cells #[.int .u8 (k0 : Nat), .int .u8 (k1 : Nat)] 43)
  obtain ⟨g3, hg3⟩ : ∃ g, g = w2.heap.size := ⟨_, rfl⟩
  rw [← hw3, ← hg3] at hx3
  have lw3 : w.heap.size ≤ g3 := by rw [hg3]; exact HB2.out.size
  have ltBX13 : g1 < g3 := by rw [hg3]; exact below_lt BX1.out
  have ltBX23 : g2 < g3 := by rw [hg3]; exact below_lt BX2.out
  have hs3 : g3 = w.heap.size + 2 := by rw [hg3, HW2.out, HW1.out]; simp
  have HS3 := Lib.hid hs3; clear hs3
  have HW3 := Lib.hid hw3; have HG3 := Lib.hid hg3; clear hw3 hg3
  have HB3 := Lib.hid (HB2.out.step hb3)
  have BX1 := Lib.hid (heap_below BX1.out hb3)
  have BX2 := Lib.hid (heap_below BX2.out hb3)
  have BX3 := Lib.hid hx3; clear hb3 hx3
  go_enter Tryd.func5, Tryd.ntmps5
  have hs := awake03 w3
  have HS := Lib.hid hs; clear hs
  go_wp2_with (with_reducible first | refine pauseCall ?_ | refine pauseLoop ?_ | refine pauseDraw ?_ | refine pauseBody ?_ | refine pauseRounds ?_)
  try rw [← HW1.out]
  try rw [← HW2.out]
  try rw [← HW3.out]
  try rw [← HS3.out]
  try rw [← HS2.out]
  try rw [← HG1.out]
  try rw [← HG2.out]
  try rw [← HG3.out]
  refine Pause.mk ?_
  (with_reducible refine HS.out.mono ?_); rintro e w4 ⟨rfl, hb4⟩
  clear HS
  have HB4 := Lib.hid (HB3.out.step hb4)
  have BX1 := Lib.hid (heap_below BX1.out hb4)
  have BX2 := Lib.hid (heap_below BX2.out hb4)
  have BX3 := Lib.hid (heap_below BX3.out hb4)
  clear hb4
  obtain ⟨x1_0, x1_1, x1_2, x1_3, x1_4, x1_5⟩ := row6 BX1.out
  obtain ⟨x2_0, x2_1, x2_2, x2_3, x2_4, x2_5⟩ := row6 BX2.out
  obtain ⟨w5, hw5⟩ : ∃ w5, w5 = w4.alloc (.cells #[.bool qa, .slice oa na ka, .slice pa ma ra, .bool qax, .slice oax nax kax, .slice pax max rax, .bool qb, .slice ob nb kb, .slice pb mb rb, .bool qbx, .slice obx nbx kbx, .slice pbx mbx rbx] 26) := ⟨_, rfl⟩
  have hb5 : Below w4.heap.size w4 w5 := by rw [hw5]; exact (Below.refl _ _).alloc (Nat.le_refl _) _
  have hx5 := heap_alloc_new w4 (.cells #[.bool qa, .slice oa na ka, .slice pa ma ra, .bool qax, .slice oax nax kax, .slice pax max rax, .bool qb, .slice ob nb kb, .slice pb mb rb, .bool qbx, .slice obx nbx kbx, .slice pbx mbx rbx] 26)
  obtain ⟨g5, hg5⟩ : ∃ g, g = w4.heap.size := ⟨_, rfl⟩
  rw [← hw5, ← hg5] at hx5
  have lw5 : w.heap.size ≤ g5 := by rw [hg5]; exact HB4.out.size
  have ltBX15 : g1 < g5 := by rw [hg5]; exact below_lt BX1.out
  have ltBX25 : g2 < g5 := by rw [hg5]; exact below_lt BX2.out
  have ltBX35 : g3 < g5 := by rw [hg5]; exact below_lt BX3.out
  have HW5 := Lib.hid hw5; have HG5 := Lib.hid hg5; clear hw5 hg5
  have HB5 := Lib.hid (HB4.out.step hb5)
  have BX1 := Lib.hid (heap_below BX1.out hb5)
  have BX2 := Lib.hid (heap_below BX2.out hb5)
  have BX3 := Lib.hid (heap_below BX3.out hb5)
  have BX5 := Lib.hid hx5; clear hb5 hx5
  have hs := slarge2b BX5.out Za Zb HBIG.out
  have HS := Lib.hid hs; clear hs
  try rw [HG5.out] at x1_0
  try rw [HG5.out] at x1_1
  try rw [HG5.out] at x1_2
  try rw [HG5.out] at x1_3
  try rw [HG5.out] at x1_4
  try rw [HG5.out] at x1_5
  try rw [HG5.out] at x2_0
  try rw [HG5.out] at x2_1
  try rw [HG5.out] at x2_2
  try rw [HG5.out] at x2_3
  try rw [HG5.out] at x2_4
  try rw [HG5.out] at x2_5
  go_wp2_with (with_reducible first | refine pauseCall ?_ | refine pauseLoop ?_ | refine pauseDraw ?_ | refine pauseBody ?_ | refine pauseRounds ?_)
  try rw [← HW5.out]
  try rw [← HG5.out]
  clear x1_0 x1_1 x1_2 x1_3 x1_4 x1_5 x2_0 x2_1 x2_2 x2_3 x2_4 x2_5
  refine Pause.mk ?_
  (with_reducible refine HS.out.mono ?_); rintro e w6 ⟨rfl, hb6⟩
  clear HS
  have HB6 := Lib.hid (HB5.out.step hb6)
  have BX1 := Lib.hid (heap_below BX1.out hb6)
  have BX2 := Lib.hid (heap_below BX2.out hb6)
  have BX3 := Lib.hid (heap_below BX3.out hb6)
  have BX5 := Lib.hid (heap_below BX5.out hb6)
  clear BX5
  clear hb6
  have hs := awake03 w6
  have HS := Lib.hid hs; clear hs
  go_wp2_with (with_reducible first | refine pauseCall ?_ | refine pauseLoop ?_ | refine pauseDraw ?_ | refine pauseBody ?_ | refine pauseRounds ?_)
  refine Pause.mk ?_
  (with_reducible refine HS.out.mono ?_); rintro e w7 ⟨rfl, hb7⟩
  clear HS
  have HB7 := Lib.hid (HB6.out.step hb7)
  have BX1 := Lib.hid (heap_below BX1.out hb7)
  have BX2 := Lib.hid (heap_below BX2.out hb7)
  have BX3 := Lib.hid (heap_below BX3.out hb7)
  clear hb7
  go_wp2_with (with_reducible first | refine pauseCall ?_ | refine pauseLoop ?_ | refine pauseDraw ?_ | refine pauseBody ?_ | refine pauseRounds ?_)
  refine Pause.mk ?_
  go_ret
  exact ⟨by first | rfl | (simp; done), HB7.out⟩
set_option maxRecDepth 100000 in
set_option maxHeartbeats 3200000 in
theorem spancontains_noa (va : Value) (sa : Bool) (aa ba : List Nat) (ta : Bool) (ca da : List Nat) (vb : Value) (sb : Bool) (ab bb : List Nat) (tb : Bool) (cb db : List Nat) (k0 : Nat) (k1 : Nat) (w : World) (ha : SpV w va sa aa ba ta ca da) (la1 : aa.length ≤ 6) (la2 : ba.length ≤ 6) (la3 : ca.length ≤ 6) (la4 : da.length ≤ 6) (hb : SpV w vb sb ab bb tb cb db) (lb1 : ab.length ≤ 6) (lb2 : bb.length ≤ 6) (lb3 : cb.length ≤ 6) (lb4 : db.length ≤ 6) (hk0 : k0 < 256) (hk1 : k1 < 256)  (hva : ¬ (Vld sa aa ba ∧ Vld ta ca da ∧ rq sa aa ba ≤ rq ta ca da)) :
    Calls Tryd.prog 5 #[va, vb, .agg #[.int .u8 (k0 : Nat), .int .u8 (k1 : Nat)]] w (RetV w (.bool true)) := by
  have HBW := Lib.hid (Below.refl w.heap.size w)
  have kz0 : rl 0 ≤ 1 := by rw [rl_zero]; exact Nat.le_refl _
  have za := ha.sz.2
  obtain ⟨qa, oa, na, ka, pa, ma, ra, qax, oax, nax, kax, pax, max, rax, rfl⟩ := ha.shape
  have Za : na ≤ 6 ∧ ma ≤ 6 ∧ nax ≤ 6 ∧ max ≤ 6 := by have e1 : na = _ := congrArg (·.1) za; have e2 : ma = _ := congrArg (·.2.1) za; have e3 : nax = _ := congrArg (·.2.2.1) za; have e4 : max = _ := congrArg (·.2.2.2) za; rw [e1, e2, e3, e4]; exact ⟨la1, la2, la3, la4⟩
  clear za
  have hla1 : rl (rq sa aa ba) ≤ 6 := rl_rq ha.lt.1.1 ha.lt.1.2 la1 la2 (by decide); have hla2 : rl (rq ta ca da) ≤ 6 := rl_rq ha.lt.2.1 ha.lt.2.2 la3 la4 (by decide)
  obtain ⟨S_a, hSa⟩ : ∃ S, S = sq sa aa ba ta ca da := ⟨_, rfl⟩
  have hsa : rl S_a.1 ≤ 6 ∧ rl S_a.2 ≤ 6 := by rw [hSa]; exact rl_sq ha.lt.1.1 ha.lt.1.2 ha.lt.2.1 ha.lt.2.2 la1 la2 la3 la4 (by decide)
  obtain ⟨hsa1, hsa2⟩ := hsa
  have Fa := Lib.hid (show SpIs w _ S_a from ⟨_, _, _, _, _, _, ha, hSa.symm, by omega, by omega, by omega, by omega⟩); clear hSa
  have HOa := Lib.hid Fa.out.ok
  obtain ⟨p_a, hpa⟩ : ∃ p, p = rq sa aa ba := ⟨_, rfl⟩; obtain ⟨r_a, hra⟩ : ∃ r, r = rq ta ca da := ⟨_, rfl⟩
  have Fal := Lib.hid (show RatIs w _ p_a from hpa ▸ (spV_ends ha).1.is (by omega) (by omega)); have Fah := Lib.hid (show RatIs w _ r_a from hra ▸ (spV_ends ha).2.is (by omega) (by omega))
  have hla1 : rl p_a ≤ 6 := by rw [hpa]; exact hla1
  have hla2 : rl r_a ≤ 6 := by rw [hra]; exact hla2
  have FaV := Lib.hid ha; clear ha hpa hra
  have zb := hb.sz.2
  obtain ⟨qb, ob, nb, kb, pb, mb, rb, qbx, obx, nbx, kbx, pbx, mbx, rbx, rfl⟩ := hb.shape
  have Zb : nb ≤ 6 ∧ mb ≤ 6 ∧ nbx ≤ 6 ∧ mbx ≤ 6 := by have e1 : nb = _ := congrArg (·.1) zb; have e2 : mb = _ := congrArg (·.2.1) zb; have e3 : nbx = _ := congrArg (·.2.2.1) zb; have e4 : mbx = _ := congrArg (·.2.2.2) zb; rw [e1, e2, e3, e4]; exact ⟨lb1, lb2, lb3, lb4⟩
  clear zb
  have hlb1 : rl (rq sb ab bb) ≤ 6 := rl_rq hb.lt.1.1 hb.lt.1.2 lb1 lb2 (by decide); have hlb2 : rl (rq tb cb db) ≤ 6 := rl_rq hb.lt.2.1 hb.lt.2.2 lb3 lb4 (by decide)
  obtain ⟨S_b, hSb⟩ : ∃ S, S = sq sb ab bb tb cb db := ⟨_, rfl⟩
  have hsb : rl S_b.1 ≤ 6 ∧ rl S_b.2 ≤ 6 := by rw [hSb]; exact rl_sq hb.lt.1.1 hb.lt.1.2 hb.lt.2.1 hb.lt.2.2 lb1 lb2 lb3 lb4 (by decide)
  obtain ⟨hsb1, hsb2⟩ := hsb
  have Fb := Lib.hid (show SpIs w _ S_b from ⟨_, _, _, _, _, _, hb, hSb.symm, by omega, by omega, by omega, by omega⟩); clear hSb
  have HOb := Lib.hid Fb.out.ok
  obtain ⟨p_b, hpb⟩ : ∃ p, p = rq sb ab bb := ⟨_, rfl⟩; obtain ⟨r_b, hrb⟩ : ∃ r, r = rq tb cb db := ⟨_, rfl⟩
  have Fbl := Lib.hid (show RatIs w _ p_b from hpb ▸ (spV_ends hb).1.is (by omega) (by omega)); have Fbh := Lib.hid (show RatIs w _ r_b from hrb ▸ (spV_ends hb).2.is (by omega) (by omega))
  have hlb1 : rl p_b ≤ 6 := by rw [hpb]; exact hlb1
  have hlb2 : rl r_b ≤ 6 := by rw [hrb]; exact hlb2
  have FbV := Lib.hid hb; clear hb hpb hrb
  have HVa := Lib.hid (decide_eq_false hva); clear hva
  obtain ⟨w1, hw1⟩ : ∃ w1, w1 = w.alloc (.cells #[.bool qa, .slice oa na ka, .slice pa ma ra, .bool qax, .slice oax nax kax, .slice pax max rax] 26) := ⟨_, rfl⟩
  have hb1 : Below w.heap.size w w1 := by rw [hw1]; exact (Below.refl _ _).alloc (Nat.le_refl _) _
  have hx1 := heap_alloc_new w (.cells #[.bool qa, .slice oa na ka, .slice pa ma ra, .bool qax, .slice oax nax kax, .slice pax max rax] 26)
  obtain ⟨g1, hg1⟩ : ∃ g, g = w.heap.size := ⟨_, rfl⟩
  rw [← hw1, ← hg1] at hx1
  have lw1 : w.heap.size ≤ g1 := by rw [hg1]; exact HBW.out.size
  have HW1 := Lib.hid hw1; have HG1 := Lib.hid hg1; clear hw1 hg1
  have HB1 := Lib.hid (HBW.out.step hb1)
  have Fa := Lib.hid (Fa.out.below hb1)
  have Fal := Lib.hid (Fal.out.below hb1)
  have Fah := Lib.hid (Fah.out.below hb1)
  have FaV := Lib.hid (FaV.out.below hb1)
  have Fb := Lib.hid (Fb.out.below hb1)
  have Fbl := Lib.hid (Fbl.out.below hb1)
  have Fbh := Lib.hid (Fbh.out.below hb1)
  have FbV := Lib.hid (FbV.out.below hb1)
  have BX1 := Lib.hid hx1; clear hb1 hx1
  obtain ⟨w2, hw2⟩ : ∃ w2, w2 = w1.alloc (.cells #[.bool qb, .slice ob nb kb, .slice pb mb rb, .bool qbx, .slice obx nbx kbx, .slice pbx mbx rbx] 26) := ⟨_, rfl⟩
  have hb2 : Below w1.heap.size w1 w2 := by rw [hw2]; exact (Below.refl _ _).alloc (Nat.le_refl _) _
  have hx2 := heap_alloc_new w1 (.cells #[.bool qb, .slice ob nb kb, .slice pb mb rb, .bool qbx, .slice obx nbx kbx, .slice pbx mbx rbx] 26)
  obtain ⟨g2, hg2⟩ : ∃ g, g = w1.heap.size := ⟨_, rfl⟩
  rw [← hw2, ← hg2] at hx2
  have lw2 : w.heap.size ≤ g2 := by rw [hg2]; exact HB1.out.size
  have ltBX12 : g1 < g2 := by rw [hg2]; exact below_lt BX1.out
  have hs2 : g2 = w.heap.size + 1 := by rw [hg2, HW1.out]; simp
  have HS2 := Lib.hid hs2; clear hs2
  have HW2 := Lib.hid hw2; have HG2 := Lib.hid hg2; clear hw2 hg2
  have HB2 := Lib.hid (HB1.out.step hb2)
  have Fa := Lib.hid (Fa.out.below hb2)
  have Fal := Lib.hid (Fal.out.below hb2)
  have Fah := Lib.hid (Fah.out.below hb2)
  have FaV := Lib.hid (FaV.out.below hb2)
  have Fb := Lib.hid (Fb.out.below hb2)
  have Fbl := Lib.hid (Fbl.out.below hb2)
  have Fbh := Lib.hid (Fbh.out.below hb2)
  have FbV := Lib.hid (FbV.out.below hb2)
  have BX1 := Lib.hid (heap_below BX1.out hb2)
  have BX2 := Lib.hid hx2; clear hb2 hx2
  obtain ⟨w3, hw3⟩ : ∃ w3, w3 = w2.alloc (.cells #[.int .u8 (k0 : Nat), .int .u8 (k1 : Nat)] 43) := ⟨_, rfl⟩
  have hb3 : Below w2.heap.size w2 w3 := by rw [hw3]; exact (Below.refl _ _).alloc (Nat.le_refl _) _
  have hx3 := heap_alloc_new w2 (.cells #[.int .u8 (k0 : Nat), .int .u8 (k1 : Nat)] 43)
  obtain ⟨g3, hg3⟩ : ∃ g, g = w2.heap.size := ⟨_, rfl⟩
  rw [← hw3, ← hg3] at hx3
  have lw3 : w.heap.size ≤ g3 := by rw [hg3]; exact HB2.out.size
  have ltBX13 : g1 < g3 := by rw [hg3]; exact below_lt BX1.out
  have ltBX23 : g2 < g3 := by rw [hg3]; exact below_lt BX2.out
  have hs3 : g3 = w.heap.size + 2 := by rw [hg3, HW2.out, HW1.out]; simp
  have HS3 := Lib.hid hs3; clear hs3
  have HW3 := Lib.hid hw3; have HG3 := Lib.hid hg3; clear hw3 hg3
  have HB3 := Lib.hid (HB2.out.step hb3)
  have Fa := Lib.hid (Fa.out.below hb3)
  have Fal := Lib.hid (Fal.out.below hb3)
  have Fah := Lib.hid (Fah.out.below hb3)
  have FaV := Lib.hid (FaV.out.below hb3)
  have Fb := Lib.hid (Fb.out.below hb3)
  have Fbl := Lib.hid (Fbl.out.below hb3)
  have Fbh := Lib.hid (Fbh.out.below hb3)
  have FbV := Lib.hid (FbV.out.below hb3)
  have BX1 := Lib.hid (heap_below BX1.out hb3)
  have BX2 := Lib.hid (heap_below BX2.out hb3)
  have BX3 := Lib.hid hx3; clear hb3 hx3
  go_enter Tryd.func5, Tryd.ntmps5
  have hs := awake03 w3
  have HS := Lib.hid hs; clear hs
  go_wp2_with (with_reducible first | refine pauseCall ?_ | refine pauseLoop ?_ | refine pauseDraw ?_ | refine pauseBody ?_ | refine pauseRounds ?_)
  try rw [← HW1.out]
  try rw [← HW2.out]
  try rw [← HW3.out]
  try rw [← HS3.out]
  try rw [← HS2.out]
  try rw [← HG1.out]
  try rw [← HG2.out]
  try rw [← HG3.out]
  refine Pause.mk ?_
  (with_reducible refine HS.out.mono ?_); rintro e w4 ⟨rfl, hb4⟩
  clear HS
  have HB4 := Lib.hid (HB3.out.step hb4)
  have Fa := Lib.hid (Fa.out.below hb4)
  have Fal := Lib.hid (Fal.out.below hb4)
  have Fah := Lib.hid (Fah.out.below hb4)
  have FaV := Lib.hid (FaV.out.below hb4)
  have Fb := Lib.hid (Fb.out.below hb4)
  have Fbl := Lib.hid (Fbl.out.below hb4)
  have Fbh := Lib.hid (Fbh.out.below hb4)
  have FbV := Lib.hid (FbV.out.below hb4)
  have BX1 := Lib.hid (heap_below BX1.out hb4)
  have BX2 := Lib.hid (heap_below BX2.out hb4)
  have BX3 := Lib.hid (heap_below BX3.out hb4)
  clear hb4
  obtain ⟨x1_0, x1_1, x1_2, x1_3, x1_4, x1_5⟩ := row6 BX1.out
  obtain ⟨x2_0, x2_1, x2_2, x2_3, x2_4, x2_5⟩ := row6 BX2.out
  obtain ⟨w5, hw5⟩ : ∃ w5, w5 = w4.alloc (.cells #[.bool qa, .slice oa na ka, .slice pa ma ra, .bool qax, .slice oax nax kax, .slice pax max rax, .bool qb, .slice ob nb kb, .slice pb mb rb, .bool qbx, .slice obx nbx kbx, .slice pbx mbx rbx] 26) := ⟨_, rfl⟩
  have hb5 : Below w4.heap.size w4 w5 := by rw [hw5]; exact (Below.refl _ _).alloc (Nat.le_refl _) _
  have hx5 := heap_alloc_new w4 (.cells #[.bool qa, .slice oa na ka, .slice pa ma ra, .bool qax, .slice oax nax kax, .slice pax max rax, .bool qb, .slice ob nb kb, .slice pb mb rb, .bool qbx, .slice obx nbx kbx, .slice pbx mbx rbx] 26)
  obtain ⟨g5, hg5⟩ : ∃ g, g = w4.heap.size := ⟨_, rfl⟩
  rw [← hw5, ← hg5] at hx5
  have lw5 : w.heap.size ≤ g5 := by rw [hg5]; exact HB4.out.size
  have ltBX15 : g1 < g5 := by rw [hg5]; exact below_lt BX1.out
  have ltBX25 : g2 < g5 := by rw [hg5]; exact below_lt BX2.out
  have ltBX35 : g3 < g5 := by rw [hg5]; exact below_lt BX3.out
  have HW5 := Lib.hid hw5; have HG5 := Lib.hid hg5; clear hw5 hg5
  have HB5 := Lib.hid (HB4.out.step hb5)
  have Fa := Lib.hid (Fa.out.below hb5)
  have Fal := Lib.hid (Fal.out.below hb5)
  have Fah := Lib.hid (Fah.out.below hb5)
  have FaV := Lib.hid (FaV.out.below hb5)
  have Fb := Lib.hid (Fb.out.below hb5)
  have Fbl := Lib.hid (Fbl.out.below hb5)
  have Fbh := Lib.hid (Fbh.out.below hb5)
  have FbV := Lib.hid (FbV.out.below hb5)
  have BX1 := Lib.hid (heap_below BX1.out hb5)
  have BX2 := Lib.hid (heap_below BX2.out hb5)
  have BX3 := Lib.hid (heap_below BX3.out hb5)
  have BX5 := Lib.hid hx5; clear hb5 hx5
  have hs := slarge2s BX5.out Za Zb
  have HS := Lib.hid hs; clear hs
  try rw [HG5.out] at x1_0
  try rw [HG5.out] at x1_1
  try rw [HG5.out] at x1_2
  try rw [HG5.out] at x1_3
  try rw [HG5.out] at x1_4
  try rw [HG5.out] at x1_5
  try rw [HG5.out] at x2_0
  try rw [HG5.out] at x2_1
  try rw [HG5.out] at x2_2
  try rw [HG5.out] at x2_3
  try rw [HG5.out] at x2_4
  try rw [HG5.out] at x2_5
  go_wp2_with (with_reducible first | refine pauseCall ?_ | refine pauseLoop ?_ | refine pauseDraw ?_ | refine pauseBody ?_ | refine pauseRounds ?_)
  try rw [← HW5.out]
  try rw [← HG5.out]
  clear x1_0 x1_1 x1_2 x1_3 x1_4 x1_5 x2_0 x2_1 x2_2 x2_3 x2_4 x2_5
  refine Pause.mk ?_
  (with_reducible refine HS.out.mono ?_); rintro e w6 ⟨rfl, hb6⟩
  clear HS
  have HB6 := Lib.hid (HB5.out.step hb6)
  have Fa := Lib.hid (Fa.out.below hb6)
  have Fal := Lib.hid (Fal.out.below hb6)
  have Fah := Lib.hid (Fah.out.below hb6)
  have FaV := Lib.hid (FaV.out.below hb6)
  have Fb := Lib.hid (Fb.out.below hb6)
  have Fbl := Lib.hid (Fbl.out.below hb6)
  have Fbh := Lib.hid (Fbh.out.below hb6)
  have FbV := Lib.hid (FbV.out.below hb6)
  have BX1 := Lib.hid (heap_below BX1.out hb6)
  have BX2 := Lib.hid (heap_below BX2.out hb6)
  have BX3 := Lib.hid (heap_below BX3.out hb6)
  have BX5 := Lib.hid (heap_below BX5.out hb6)
  clear BX5
  clear hb6
  obtain ⟨x3_0, x3_1, x3_2, x3_3, x3_4, x3_5⟩ := row6 BX1.out
  have hs := svalid_any _ sa aa ba ta ca da w6 FaV.out (by omega) (by omega) (by omega) (by omega)
  rw [HVa.out] at hs
  have HS := Lib.hid hs; clear hs
  go_wp2_with (with_reducible first | refine pauseCall ?_ | refine pauseLoop ?_ | refine pauseDraw ?_ | refine pauseBody ?_ | refine pauseRounds ?_)
  clear x3_0 x3_1 x3_2 x3_3 x3_4 x3_5
  refine Pause.mk ?_
  (with_reducible refine HS.out.mono ?_); rintro e w7 ⟨rfl, hb7⟩
  clear HS
  have HB7 := Lib.hid (HB6.out.step hb7)
  have Fa := Lib.hid (Fa.out.below hb7)
  have Fal := Lib.hid (Fal.out.below hb7)
  have Fah := Lib.hid (Fah.out.below hb7)
  have FaV := Lib.hid (FaV.out.below hb7)
  have Fb := Lib.hid (Fb.out.below hb7)
  have Fbl := Lib.hid (Fbl.out.below hb7)
  have Fbh := Lib.hid (Fbh.out.below hb7)
  have FbV := Lib.hid (FbV.out.below hb7)
  have BX1 := Lib.hid (heap_below BX1.out hb7)
  have BX2 := Lib.hid (heap_below BX2.out hb7)
  have BX3 := Lib.hid (heap_below BX3.out hb7)
  clear hb7
  have hs := awake03 w7
  have HS := Lib.hid hs; clear hs
  go_wp2_with (with_reducible first | refine pauseCall ?_ | refine pauseLoop ?_ | refine pauseDraw ?_ | refine pauseBody ?_ | refine pauseRounds ?_)
  refine Pause.mk ?_
  (with_reducible refine HS.out.mono ?_); rintro e w8 ⟨rfl, hb8⟩
  clear HS
  have HB8 := Lib.hid (HB7.out.step hb8)
  have Fa := Lib.hid (Fa.out.below hb8)
  have Fal := Lib.hid (Fal.out.below hb8)
  have Fah := Lib.hid (Fah.out.below hb8)
  have FaV := Lib.hid (FaV.out.below hb8)
  have Fb := Lib.hid (Fb.out.below hb8)
  have Fbl := Lib.hid (Fbl.out.below hb8)
  have Fbh := Lib.hid (Fbh.out.below hb8)
  have FbV := Lib.hid (FbV.out.below hb8)
  have BX1 := Lib.hid (heap_below BX1.out hb8)
  have BX2 := Lib.hid (heap_below BX2.out hb8)
  have BX3 := Lib.hid (heap_below BX3.out hb8)
  clear hb8
  go_wp2_with (with_reducible first | refine pauseCall ?_ | refine pauseLoop ?_ | refine pauseDraw ?_ | refine pauseBody ?_ | refine pauseRounds ?_)
  refine Pause.mk ?_
  go_ret
  exact ⟨by first | rfl | (simp; done), HB8.out⟩
set_option maxRecDepth 100000 in
set_option maxHeartbeats 3200000 in
theorem spancontains_nob (va : Value) (sa : Bool) (aa ba : List Nat) (ta : Bool) (ca da : List Nat) (vb : Value) (sb : Bool) (ab bb : List Nat) (tb : Bool) (cb db : List Nat) (k0 : Nat) (k1 : Nat) (w : World) (ha : SpV w va sa aa ba ta ca da) (la1 : aa.length ≤ 6) (la2 : ba.length ≤ 6) (la3 : ca.length ≤ 6) (la4 : da.length ≤ 6) (hb : SpV w vb sb ab bb tb cb db) (lb1 : ab.length ≤ 6) (lb2 : bb.length ≤ 6) (lb3 : cb.length ≤ 6) (lb4 : db.length ≤ 6) (hk0 : k0 < 256) (hk1 : k1 < 256) (hva : Vld sa aa ba ∧ Vld ta ca da ∧ rq sa aa ba ≤ rq ta ca da) (hvb : ¬ (Vld sb ab bb ∧ Vld tb cb db ∧ rq sb ab bb ≤ rq tb cb db)) :
    Calls Tryd.prog 5 #[va, vb, .agg #[.int .u8 (k0 : Nat), .int .u8 (k1 : Nat)]] w (RetV w (.bool true)) := by
  have HBW := Lib.hid (Below.refl w.heap.size w)
  have kz0 : rl 0 ≤ 1 := by rw [rl_zero]; exact Nat.le_refl _
  have za := ha.sz.2
  obtain ⟨qa, oa, na, ka, pa, ma, ra, qax, oax, nax, kax, pax, max, rax, rfl⟩ := ha.shape
  have Za : na ≤ 6 ∧ ma ≤ 6 ∧ nax ≤ 6 ∧ max ≤ 6 := by have e1 : na = _ := congrArg (·.1) za; have e2 : ma = _ := congrArg (·.2.1) za; have e3 : nax = _ := congrArg (·.2.2.1) za; have e4 : max = _ := congrArg (·.2.2.2) za; rw [e1, e2, e3, e4]; exact ⟨la1, la2, la3, la4⟩
  clear za
  have hla1 : rl (rq sa aa ba) ≤ 6 := rl_rq ha.lt.1.1 ha.lt.1.2 la1 la2 (by decide); have hla2 : rl (rq ta ca da) ≤ 6 := rl_rq ha.lt.2.1 ha.lt.2.2 la3 la4 (by decide)
  obtain ⟨S_a, hSa⟩ : ∃ S, S = sq sa aa ba ta ca da := ⟨_, rfl⟩
  have hsa : rl S_a.1 ≤ 6 ∧ rl S_a.2 ≤ 6 := by rw [hSa]; exact rl_sq ha.lt.1.1 ha.lt.1.2 ha.lt.2.1 ha.lt.2.2 la1 la2 la3 la4 (by decide)
  obtain ⟨hsa1, hsa2⟩ := hsa
  have Fa := Lib.hid (show SpIs w _ S_a from ⟨_, _, _, _, _, _, ha, hSa.symm, by omega, by omega, by omega, by omega⟩); clear hSa
  have HOa := Lib.hid Fa.out.ok
  obtain ⟨p_a, hpa⟩ : ∃ p, p = rq sa aa ba := ⟨_, rfl⟩; obtain ⟨r_a, hra⟩ : ∃ r, r = rq ta ca da := ⟨_, rfl⟩
  have Fal := Lib.hid (show RatIs w _ p_a from hpa ▸ (spV_ends ha).1.is (by omega) (by omega)); have Fah := Lib.hid (show RatIs w _ r_a from hra ▸ (spV_ends ha).2.is (by omega) (by omega))
  have hla1 : rl p_a ≤ 6 := by rw [hpa]; exact hla1
  have hla2 : rl r_a ≤ 6 := by rw [hra]; exact hla2
  have FaV := Lib.hid ha; clear ha hpa hra
  have zb := hb.sz.2
  obtain ⟨qb, ob, nb, kb, pb, mb, rb, qbx, obx, nbx, kbx, pbx, mbx, rbx, rfl⟩ := hb.shape
  have Zb : nb ≤ 6 ∧ mb ≤ 6 ∧ nbx ≤ 6 ∧ mbx ≤ 6 := by have e1 : nb = _ := congrArg (·.1) zb; have e2 : mb = _ := congrArg (·.2.1) zb; have e3 : nbx = _ := congrArg (·.2.2.1) zb; have e4 : mbx = _ := congrArg (·.2.2.2) zb; rw [e1, e2, e3, e4]; exact ⟨lb1, lb2, lb3, lb4⟩
  clear zb
  have hlb1 : rl (rq sb ab bb) ≤ 6 := rl_rq hb.lt.1.1 hb.lt.1.2 lb1 lb2 (by decide); have hlb2 : rl (rq tb cb db) ≤ 6 := rl_rq hb.lt.2.1 hb.lt.2.2 lb3 lb4 (by decide)
  obtain ⟨S_b, hSb⟩ : ∃ S, S = sq sb ab bb tb cb db := ⟨_, rfl⟩
  have hsb : rl S_b.1 ≤ 6 ∧ rl S_b.2 ≤ 6 := by rw [hSb]; exact rl_sq hb.lt.1.1 hb.lt.1.2 hb.lt.2.1 hb.lt.2.2 lb1 lb2 lb3 lb4 (by decide)
  obtain ⟨hsb1, hsb2⟩ := hsb
  have Fb := Lib.hid (show SpIs w _ S_b from ⟨_, _, _, _, _, _, hb, hSb.symm, by omega, by omega, by omega, by omega⟩); clear hSb
  have HOb := Lib.hid Fb.out.ok
  obtain ⟨p_b, hpb⟩ : ∃ p, p = rq sb ab bb := ⟨_, rfl⟩; obtain ⟨r_b, hrb⟩ : ∃ r, r = rq tb cb db := ⟨_, rfl⟩
  have Fbl := Lib.hid (show RatIs w _ p_b from hpb ▸ (spV_ends hb).1.is (by omega) (by omega)); have Fbh := Lib.hid (show RatIs w _ r_b from hrb ▸ (spV_ends hb).2.is (by omega) (by omega))
  have hlb1 : rl p_b ≤ 6 := by rw [hpb]; exact hlb1
  have hlb2 : rl r_b ≤ 6 := by rw [hrb]; exact hlb2
  have FbV := Lib.hid hb; clear hb hpb hrb
  have HVa := Lib.hid (decide_eq_true hva); clear hva
  have HVb := Lib.hid (decide_eq_false hvb); clear hvb
  obtain ⟨w1, hw1⟩ : ∃ w1, w1 = w.alloc (.cells #[.bool qa, .slice oa na ka, .slice pa ma ra, .bool qax, .slice oax nax kax, .slice pax max rax] 26) := ⟨_, rfl⟩
  have hb1 : Below w.heap.size w w1 := by rw [hw1]; exact (Below.refl _ _).alloc (Nat.le_refl _) _
  have hx1 := heap_alloc_new w (.cells #[.bool qa, .slice oa na ka, .slice pa ma ra, .bool qax, .slice oax nax kax, .slice pax max rax] 26)
  obtain ⟨g1, hg1⟩ : ∃ g, g = w.heap.size := ⟨_, rfl⟩
  rw [← hw1, ← hg1] at hx1
  have lw1 : w.heap.size ≤ g1 := by rw [hg1]; exact HBW.out.size
  have HW1 := Lib.hid hw1; have HG1 := Lib.hid hg1; clear hw1 hg1
  have HB1 := Lib.hid (HBW.out.step hb1)
  have Fa := Lib.hid (Fa.out.below hb1)
  have Fal := Lib.hid (Fal.out.below hb1)
  have Fah := Lib.hid (Fah.out.below hb1)
  have FaV := Lib.hid (FaV.out.below hb1)
  have Fb := Lib.hid (Fb.out.below hb1)
  have Fbl := Lib.hid (Fbl.out.below hb1)
  have Fbh := Lib.hid (Fbh.out.below hb1)
  have FbV := Lib.hid (FbV.out.below hb1)
  have BX1 := Lib.hid hx1; clear hb1 hx1
  obtain ⟨w2, hw2⟩ : ∃ w2, w2 = w1.alloc (.cells #[.bool qb, .slice ob nb kb, .slice pb mb rb, .bool qbx, .slice obx nbx kbx, .slice pbx mbx rbx] 26) := ⟨_, rfl⟩
  have hb2 : Below w1.heap.size w1 w2 := by rw [hw2]; exact (Below.refl _ _).alloc (Nat.le_refl _) _
  have hx2 := heap_alloc_new w1 (.cells #[.bool qb, .slice ob nb kb, .slice pb mb rb, .bool qbx, .slice obx nbx kbx, .slice pbx mbx rbx] 26)
  obtain ⟨g2, hg2⟩ : ∃ g, g = w1.heap.size := ⟨_, rfl⟩
  rw [← hw2, ← hg2] at hx2
  have lw2 : w.heap.size ≤ g2 := by rw [hg2]; exact HB1.out.size
  have ltBX12 : g1 < g2 := by rw [hg2]; exact below_lt BX1.out
  have hs2 : g2 = w.heap.size + 1 := by rw [hg2, HW1.out]; simp
  have HS2 := Lib.hid hs2; clear hs2
  have HW2 := Lib.hid hw2; have HG2 := Lib.hid hg2; clear hw2 hg2
  have HB2 := Lib.hid (HB1.out.step hb2)
  have Fa := Lib.hid (Fa.out.below hb2)
  have Fal := Lib.hid (Fal.out.below hb2)
  have Fah := Lib.hid (Fah.out.below hb2)
  have FaV := Lib.hid (FaV.out.below hb2)
  have Fb := Lib.hid (Fb.out.below hb2)
  have Fbl := Lib.hid (Fbl.out.below hb2)
  have Fbh := Lib.hid (Fbh.out.below hb2)
  have FbV := Lib.hid (FbV.out.below hb2)
  have BX1 := Lib.hid (heap_below BX1.out hb2)
  have BX2 := Lib.hid hx2; clear hb2 hx2
  obtain ⟨w3, hw3⟩ : ∃ w3, w3 = w2.alloc (.cells #[.int .u8 (k0 : Nat), .int .u8 (k1 : Nat)] 43) := ⟨_, rfl⟩
  have hb3 : Below w2.heap.size w2 w3 := by rw [hw3]; exact (Below.refl _ _).alloc (Nat.le_refl _) _
  have hx3 := heap_alloc_new w2 (.cells #[.int .u8 (k0 : Nat), .int .u8 (k1 : Nat)] 43)
  obtain ⟨g3, hg3⟩ : ∃ g, g = w2.heap.size := ⟨_, rfl⟩
  rw [← hw3, ← hg3] at hx3
  have lw3 : w.heap.size ≤ g3 := by rw [hg3]; exact HB2.out.size
  have ltBX13 : g1 < g3 := by rw [hg3]; exact below_lt BX1.out
  have ltBX23 : g2 < g3 := by rw [hg3]; exact below_lt BX2.out
  have hs3 : g3 = w.heap.size + 2 := by rw [hg3, HW2.out, HW1.out]; simp
  have HS3 := Lib.hid hs3; clear hs3
  have HW3 := Lib.hid hw3; have HG3 := Lib.hid hg3; clear hw3 hg3
  have HB3 := Lib.hid (HB2.out.step hb3)
  have Fa := Lib.hid (Fa.out.below hb3)
  have Fal := Lib.hid (Fal.out.below hb3)
  have Fah := Lib.hid (Fah.out.below hb3)
  have FaV := Lib.hid (FaV.out.below hb3)
  have Fb := Lib.hid (Fb.out.below hb3)
  have Fbl := Lib.hid (Fbl.out.below hb3)
  have Fbh := Lib.hid (Fbh.out.below hb3)
  have FbV := Lib.hid (FbV.out.below hb3)
  have BX1 := Lib.hid (heap_below BX1.out hb3)
  have BX2 := Lib.hid (heap_below BX2.out hb3)
  have BX3 := Lib.hid hx3; clear hb3 hx3
  go_enter Tryd.func5, Tryd.ntmps5
  have hs := awake03 w3
  have HS := Lib.hid hs; clear hs
  go_wp2_with (with_reducible first | refine pauseCall ?_ | refine pauseLoop ?_ | refine pauseDraw ?_ | refine pauseBody ?_ | refine pauseRounds ?_)
  try rw [← HW1.out]
  try rw [← HW2.out]
  try rw [← HW3.out]
  try rw [← HS3.out]
  try rw [← HS2.out]
  try rw [← HG1.out]
  try rw [← HG2.out]
  try rw [← HG3.out]
  refine Pause.mk ?_
  (with_reducible refine HS.out.mono ?_); rintro e w4 ⟨rfl, hb4⟩
  clear HS
  have HB4 := Lib.hid (HB3.out.step hb4)
  have Fa := Lib.hid (Fa.out.below hb4)
  have Fal := Lib.hid (Fal.out.below hb4)
  have Fah := Lib.hid (Fah.out.below hb4)
  have FaV := Lib.hid (FaV.out.below hb4)
  have Fb := Lib.hid (Fb.out.below hb4)
  have Fbl := Lib.hid (Fbl.out.below hb4)
  have Fbh := Lib.hid (Fbh.out.below hb4)
  have FbV := Lib.hid (FbV.out.below hb4)
  have BX1 := Lib.hid (heap_below BX1.out hb4)
  have BX2 := Lib.hid (heap_below BX2.out hb4)
  have BX3 := Lib.hid (heap_below BX3.out hb4)
  clear hb4
  obtain ⟨x1_0, x1_1, x1_2, x1_3, x1_4, x1_5⟩ := row6 BX1.out
  obtain ⟨x2_0, x2_1, x2_2, x2_3, x2_4, x2_5⟩ := row6 BX2.out
  obtain ⟨w5, hw5⟩ : ∃ w5, w5 = w4.alloc (.cells #[.bool qa, .slice oa na ka, .slice pa ma ra, .bool qax, .slice oax nax kax, .slice pax max rax, .bool qb, .slice ob nb kb, .slice pb mb rb, .bool qbx, .slice obx nbx kbx, .slice pbx mbx rbx] 26) := ⟨_, rfl⟩
  have hb5 : Below w4.heap.size w4 w5 := by rw [hw5]; exact (Below.refl _ _).alloc (Nat.le_refl _) _
  have hx5 := heap_alloc_new w4 (.cells #[.bool qa, .slice oa na ka, .slice pa ma ra, .bool qax, .slice oax nax kax, .slice pax max rax, .bool qb, .slice ob nb kb, .slice pb mb rb, .bool qbx, .slice obx nbx kbx, .slice pbx mbx rbx] 26)
  obtain ⟨g5, hg5⟩ : ∃ g, g = w4.heap.size := ⟨_, rfl⟩
  rw [← hw5, ← hg5] at hx5
  have lw5 : w.heap.size ≤ g5 := by rw [hg5]; exact HB4.out.size
  have ltBX15 : g1 < g5 := by rw [hg5]; exact below_lt BX1.out
  have ltBX25 : g2 < g5 := by rw [hg5]; exact below_lt BX2.out
  have ltBX35 : g3 < g5 := by rw [hg5]; exact below_lt BX3.out
  have HW5 := Lib.hid hw5; have HG5 := Lib.hid hg5; clear hw5 hg5
  have HB5 := Lib.hid (HB4.out.step hb5)
  have Fa := Lib.hid (Fa.out.below hb5)
  have Fal := Lib.hid (Fal.out.below hb5)
  have Fah := Lib.hid (Fah.out.below hb5)
  have FaV := Lib.hid (FaV.out.below hb5)
  have Fb := Lib.hid (Fb.out.below hb5)
  have Fbl := Lib.hid (Fbl.out.below hb5)
  have Fbh := Lib.hid (Fbh.out.below hb5)
  have FbV := Lib.hid (FbV.out.below hb5)
  have BX1 := Lib.hid (heap_below BX1.out hb5)
  have BX2 := Lib.hid (heap_below BX2.out hb5)
  have BX3 := Lib.hid (heap_below BX3.out hb5)
  have BX5 := Lib.hid hx5; clear hb5 hx5
  have hs := slarge2s BX5.out Za Zb
  have HS := Lib.hid hs; clear hs
  try rw [HG5.out] at x1_0
  try rw [HG5.out] at x1_1
  try rw [HG5.out] at x1_2
  try rw [HG5.out] at x1_3
  try rw [HG5.out] at x1_4
  try rw [HG5.out] at x1_5
  try rw [HG5.out] at x2_0
  try rw [HG5.out] at x2_1
  try rw [HG5.out] at x2_2
  try rw [HG5.out] at x2_3
  try rw [HG5.out] at x2_4
  try rw [HG5.out] at x2_5
  go_wp2_with (with_reducible first | refine pauseCall ?_ | refine pauseLoop ?_ | refine pauseDraw ?_ | refine pauseBody ?_ | refine pauseRounds ?_)
  try rw [← HW5.out]
  try rw [← HG5.out]
  clear x1_0 x1_1 x1_2 x1_3 x1_4 x1_5 x2_0 x2_1 x2_2 x2_3 x2_4 x2_5
  refine Pause.mk ?_
  (with_reducible refine HS.out.mono ?_); rintro e w6 ⟨rfl, hb6⟩
  clear HS
  have HB6 := Lib.hid (HB5.out.step hb6)
  have Fa := Lib.hid (Fa.out.below hb6)
  have Fal := Lib.hid (Fal.out.below hb6)
  have Fah := Lib.hid (Fah.out.below hb6)
  have FaV := Lib.hid (FaV.out.below hb6)
  have Fb := Lib.hid (Fb.out.below hb6)
  have Fbl := Lib.hid (Fbl.out.below hb6)
  have Fbh := Lib.hid (Fbh.out.below hb6)
  have FbV := Lib.hid (FbV.out.below hb6)
  have BX1 := Lib.hid (heap_below BX1.out hb6)
  have BX2 := Lib.hid (heap_below BX2.out hb6)
  have BX3 := Lib.hid (heap_below BX3.out hb6)
  have BX5 := Lib.hid (heap_below BX5.out hb6)
  clear BX5
  clear hb6
  obtain ⟨x3_0, x3_1, x3_2, x3_3, x3_4, x3_5⟩ := row6 BX1.out
  have hs := svalid_any _ sa aa ba ta ca da w6 FaV.out (by omega) (by omega) (by omega) (by omega)
  rw [HVa.out] at hs
  have HS := Lib.hid hs; clear hs
  go_wp2_with (with_reducible first | refine pauseCall ?_ | refine pauseLoop ?_ | refine pauseDraw ?_ | refine pauseBody ?_ | refine pauseRounds ?_)
  clear x3_0 x3_1 x3_2 x3_3 x3_4 x3_5
  refine Pause.mk ?_
  (with_reducible refine HS.out.mono ?_); rintro e w7 ⟨rfl, hb7⟩
  clear HS
  have HB7 := Lib.hid (HB6.out.step hb7)
  have Fa := Lib.hid (Fa.out.below hb7)
  have Fal := Lib.hid (Fal.out.below hb7)
  have Fah := Lib.hid (Fah.out.below hb7)
  have FaV := Lib.hid (FaV.out.below hb7)
  have Fb := Lib.hid (Fb.out.below hb7)
  have Fbl := Lib.hid (Fbl.out.below hb7)
  have Fbh := Lib.hid (Fbh.out.below hb7)
  have FbV := Lib.hid (FbV.out.below hb7)
  have BX1 := Lib.hid (heap_below BX1.out hb7)
  have BX2 := Lib.hid (heap_below BX2.out hb7)
  have BX3 := Lib.hid (heap_below BX3.out hb7)
  clear hb7
  obtain ⟨x4_0, x4_1, x4_2, x4_3, x4_4, x4_5⟩ := row6 BX2.out
  have hs := svalid_any _ sb ab bb tb cb db w7 FbV.out (by omega) (by omega) (by omega) (by omega)
  rw [HVb.out] at hs
  have HS := Lib.hid hs; clear hs
  go_wp2_with (with_reducible first | refine pauseCall ?_ | refine pauseLoop ?_ | refine pauseDraw ?_ | refine pauseBody ?_ | refine pauseRounds ?_)
  clear x4_0 x4_1 x4_2 x4_3 x4_4 x4_5
  refine Pause.mk ?_
  (with_reducible refine HS.out.mono ?_); rintro e w8 ⟨rfl, hb8⟩
  clear HS
  have HB8 := Lib.hid (HB7.out.step hb8)
  have Fa := Lib.hid (Fa.out.below hb8)
  have Fal := Lib.hid (Fal.out.below hb8)
  have Fah := Lib.hid (Fah.out.below hb8)
  have FaV := Lib.hid (FaV.out.below hb8)
  have Fb := Lib.hid (Fb.out.below hb8)
  have Fbl := Lib.hid (Fbl.out.below hb8)
  have Fbh := Lib.hid (Fbh.out.below hb8)
  have FbV := Lib.hid (FbV.out.below hb8)
  have BX1 := Lib.hid (heap_below BX1.out hb8)
  have BX2 := Lib.hid (heap_below BX2.out hb8)
  have BX3 := Lib.hid (heap_below BX3.out hb8)
  clear hb8
  have hs := awake03 w8
  have HS := Lib.hid hs; clear hs
  go_wp2_with (with_reducible first | refine pauseCall ?_ | refine pauseLoop ?_ | refine pauseDraw ?_ | refine pauseBody ?_ | refine pauseRounds ?_)
  refine Pause.mk ?_
  (with_reducible refine HS.out.mono ?_); rintro e w9 ⟨rfl, hb9⟩
  clear HS
  have HB9 := Lib.hid (HB8.out.step hb9)
  have Fa := Lib.hid (Fa.out.below hb9)
  have Fal := Lib.hid (Fal.out.below hb9)
  have Fah := Lib.hid (Fah.out.below hb9)
  have FaV := Lib.hid (FaV.out.below hb9)
  have Fb := Lib.hid (Fb.out.below hb9)
  have Fbl := Lib.hid (Fbl.out.below hb9)
  have Fbh := Lib.hid (Fbh.out.below hb9)
  have FbV := Lib.hid (FbV.out.below hb9)
  have BX1 := Lib.hid (heap_below BX1.out hb9)
  have BX2 := Lib.hid (heap_below BX2.out hb9)
  have BX3 := Lib.hid (heap_below BX3.out hb9)
  clear hb9
  go_wp2_with (with_reducible first | refine pauseCall ?_ | refine pauseLoop ?_ | refine pauseDraw ?_ | refine pauseBody ?_ | refine pauseRounds ?_)
  refine Pause.mk ?_
  go_ret
  exact ⟨by first | rfl | (simp; done), HB9.out⟩
set_option maxRecDepth 100000 in
set_option maxHeartbeats 12800000 in
theorem spancontains_ok1 (va : Value) (sa : Bool) (aa ba : List Nat) (ta : Bool) (ca da : List Nat) (vb : Value) (sb : Bool) (ab bb : List Nat) (tb : Bool) (cb db : List Nat) (k0 : Nat) (k1 : Nat) (w : World) (ha : SpV w va sa aa ba ta ca da) (la1 : aa.length ≤ 6) (la2 : ba.length ≤ 6) (la3 : ca.length ≤ 6) (la4 : da.length ≤ 6) (hva : Vld sa aa ba ∧ Vld ta ca da ∧ rq sa aa ba ≤ rq ta ca da) (hb : SpV w vb sb ab bb tb cb db) (lb1 : ab.length ≤ 6) (lb2 : bb.length ≤ 6) (lb3 : cb.length ≤ 6) (lb4 : db.length ≤ 6) (hvb : Vld sb ab bb ∧ Vld tb cb db ∧ rq sb ab bb ≤ rq tb cb db) (hk0 : k0 < 256) (hk1 : k1 < 256) (hz : inS (rq sb ab bb, rq tb cb db) 0) (hy0 : inK (rq sb ab bb, rq tb cb db) k1 = 0) :
    Calls Tryd.prog 5 #[va, vb, .agg #[.int .u8 (k0 : Nat), .int .u8 (k1 : Nat)]] w (RetV w (.bool true)) := by
  have HBW := Lib.hid (Below.refl w.heap.size w)
  have kz0 : rl 0 ≤ 1 := by rw [rl_zero]; exact Nat.le_refl _
  have za := ha.sz.2
  obtain ⟨qa, oa, na, ka, pa, ma, ra, qax, oax, nax, kax, pax, max, rax, rfl⟩ := ha.shape
  have Za : na ≤ 6 ∧ ma ≤ 6 ∧ nax ≤ 6 ∧ max ≤ 6 := by have e1 : na = _ := congrArg (·.1) za; have e2 : ma = _ := congrArg (·.2.1) za; have e3 : nax = _ := congrArg (·.2.2.1) za; have e4 : max = _ := congrArg (·.2.2.2) za; rw [e1, e2, e3, e4]; exact ⟨la1, la2, la3, la4⟩
  clear za
  have hla1 : rl (rq sa aa ba) ≤ 6 := rl_rq ha.lt.1.1 ha.lt.1.2 la1 la2 (by decide); have hla2 : rl (rq ta ca da) ≤ 6 := rl_rq ha.lt.2.1 ha.lt.2.2 la3 la4 (by decide)
  have FaI := spV_isSp ha hva.1 hva.2.1
  have hoa := hva.2.2
  have HVa := Lib.hid (decide_eq_true hva); clear hva
  have FaV := Lib.hid ha; clear ha
  obtain ⟨p_a, hpa⟩ : ∃ p, p = rq sa aa ba := ⟨_, rfl⟩; obtain ⟨r_a, hra⟩ : ∃ r, r = rq ta ca da := ⟨_, rfl⟩
  rw [← hpa, ← hra] at FaI; rw [← hpa] at hla1 hoa; rw [← hra] at hla2 hoa
  try rw [← hpa] at hz
  try rw [← hra] at hz
  try rw [← hpa] at hy0
  try rw [← hra] at hy0
  clear hpa hra
  have HOa := Lib.hid hoa; clear hoa
  have Fal := Lib.hid (show IsR _ _ p_a from (isSp_ends FaI).1); have Fah := Lib.hid (show IsR _ _ r_a from (isSp_ends FaI).2); have Fa := Lib.hid FaI; clear FaI
  have zb := hb.sz.2
  obtain ⟨qb, ob, nb, kb, pb, mb, rb, qbx, obx, nbx, kbx, pbx, mbx, rbx, rfl⟩ := hb.shape
  have Zb : nb ≤ 6 ∧ mb ≤ 6 ∧ nbx ≤ 6 ∧ mbx ≤ 6 := by have e1 : nb = _ := congrArg (·.1) zb; have e2 : mb = _ := congrArg (·.2.1) zb; have e3 : nbx = _ := congrArg (·.2.2.1) zb; have e4 : mbx = _ := congrArg (·.2.2.2) zb; rw [e1, e2, e3, e4]; exact ⟨lb1, lb2, lb3, lb4⟩
  clear zb
  have hlb1 : rl (rq sb ab bb) ≤ 6 := rl_rq hb.lt.1.1 hb.lt.1.2 lb1 lb2 (by decide); have hlb2 : rl (rq tb cb db) ≤ 6 := rl_rq hb.lt.2.1 hb.lt.2.2 lb3 lb4 (by decide)
  have FbI := spV_isSp hb hvb.1 hvb.2.1
  have hob := hvb.2.2
  have HVb := Lib.hid (decide_eq_true hvb); clear hvb
  have FbV := Lib.hid hb; clear hb
  obtain ⟨p_b, hpb⟩ : ∃ p, p = rq sb ab bb := ⟨_, rfl⟩; obtain ⟨r_b, hrb⟩ : ∃ r, r = rq tb cb db := ⟨_, rfl⟩
  rw [← hpb, ← hrb] at FbI; rw [← hpb] at hlb1 hob; rw [← hrb] at hlb2 hob
  try rw [← hpb] at hz
  try rw [← hrb] at hz
  try rw [← hpb] at hy0
  try rw [← hrb] at hy0
  clear hpb hrb
  have HOb := Lib.hid hob; clear hob
  have Fbl := Lib.hid (show IsR _ _ p_b from (isSp_ends FbI).1); have Fbh := Lib.hid (show IsR _ _ r_b from (isSp_ends FbI).2); have Fb := Lib.hid FbI; clear FbI
  have hX : inS (p_a, r_a) (inK (p_a, r_a) k0) := inK_in HOa.out (by omega)
  have hY : inS (p_b, r_b) (inK (p_b, r_b) k1) := inK_in HOb.out (by omega)
  have HI1 := Lib.hid (decide_eq_true (show inS ((p_a, r_a)) (inK ((p_a, r_a)) k0) from hX))
  have HI2 := Lib.hid (decide_eq_true (show inS ((p_b, r_b)) (inK ((p_b, r_b)) k1) from hY))
  have HI3 := Lib.hid (decide_eq_true (show inS (sAdd ((p_a, r_a)) ((p_b, r_b))) ((inK ((p_a, r_a)) k0) + (inK ((p_b, r_b)) k1)) from in_add hX hY))
  have HI4 := Lib.hid (decide_eq_true (show inS (sSub ((p_a, r_a)) ((p_b, r_b))) ((inK ((p_a, r_a)) k0) - (inK ((p_b, r_b)) k1)) from in_sub hX hY))
  have HI5 := Lib.hid (decide_eq_true (show inS (sMul ((p_a, r_a)) ((p_b, r_b))) ((inK ((p_a, r_a)) k0) * (inK ((p_b, r_b)) k1)) from in_mul hX hY))
  have HI6 := Lib.hid (decide_eq_true (show inS (sNot ((p_a, r_a))) ((((1 : Int) : Rat)) - (inK ((p_a, r_a)) k0)) from (show inS (1 - r_a, 1 - p_a) (1 - inK (p_a, r_a) k0) from by unfold inS at hX ⊢; obtain ⟨q1, q2⟩ := hX; constructor <;> grind)))
  have HI7 := Lib.hid (decide_eq_true (show inS ((p_b, r_b)) (0) from hz))
  have HS := Lib.hid (show sdC ((p_b, r_b)) = 8 from if_pos hz)
  have HD := Lib.hid (show dc (inK ((p_b, r_b)) k1) = 8 from if_pos hy0)
  clear hX hY hz hy0
  obtain ⟨w1, hw1⟩ : ∃ w1, w1 = w.alloc (.cells #[.bool qa, .slice oa na ka, .slice pa ma ra, .bool qax, .slice oax nax kax, .slice pax max rax] 26) := ⟨_, rfl⟩
  have hb1 : Below w.heap.size w w1 := by rw [hw1]; exact (Below.refl _ _).alloc (Nat.le_refl _) _
  have hx1 := heap_alloc_new w (.cells #[.bool qa, .slice oa na ka, .slice pa ma ra, .bool qax, .slice oax nax kax, .slice pax max rax] 26)
  obtain ⟨g1, hg1⟩ : ∃ g, g = w.heap.size := ⟨_, rfl⟩
  rw [← hw1, ← hg1] at hx1
  have lw1 : w.heap.size ≤ g1 := by rw [hg1]; exact HBW.out.size
  have HW1 := Lib.hid hw1; have HG1 := Lib.hid hg1; clear hw1 hg1
  have HB1 := Lib.hid (HBW.out.step hb1)
  have Fa := Lib.hid (Fa.out.below hb1)
  have Fal := Lib.hid (Fal.out.below hb1)
  have Fah := Lib.hid (Fah.out.below hb1)
  have FaV := Lib.hid (FaV.out.below hb1)
  have Fb := Lib.hid (Fb.out.below hb1)
  have Fbl := Lib.hid (Fbl.out.below hb1)
  have Fbh := Lib.hid (Fbh.out.below hb1)
  have FbV := Lib.hid (FbV.out.below hb1)
  have BX1 := Lib.hid hx1; clear hb1 hx1
  obtain ⟨w2, hw2⟩ : ∃ w2, w2 = w1.alloc (.cells #[.bool qb, .slice ob nb kb, .slice pb mb rb, .bool qbx, .slice obx nbx kbx, .slice pbx mbx rbx] 26) := ⟨_, rfl⟩
  have hb2 : Below w1.heap.size w1 w2 := by rw [hw2]; exact (Below.refl _ _).alloc (Nat.le_refl _) _
  have hx2 := heap_alloc_new w1 (.cells #[.bool qb, .slice ob nb kb, .slice pb mb rb, .bool qbx, .slice obx nbx kbx, .slice pbx mbx rbx] 26)
  obtain ⟨g2, hg2⟩ : ∃ g, g = w1.heap.size := ⟨_, rfl⟩
  rw [← hw2, ← hg2] at hx2
  have lw2 : w.heap.size ≤ g2 := by rw [hg2]; exact HB1.out.size
  have ltBX12 : g1 < g2 := by rw [hg2]; exact below_lt BX1.out
  have hs2 : g2 = w.heap.size + 1 := by rw [hg2, HW1.out]; simp
  have HS2 := Lib.hid hs2; clear hs2
  have HW2 := Lib.hid hw2; have HG2 := Lib.hid hg2; clear hw2 hg2
  have HB2 := Lib.hid (HB1.out.step hb2)
  have Fa := Lib.hid (Fa.out.below hb2)
  have Fal := Lib.hid (Fal.out.below hb2)
  have Fah := Lib.hid (Fah.out.below hb2)
  have FaV := Lib.hid (FaV.out.below hb2)
  have Fb := Lib.hid (Fb.out.below hb2)
  have Fbl := Lib.hid (Fbl.out.below hb2)
  have Fbh := Lib.hid (Fbh.out.below hb2)
  have FbV := Lib.hid (FbV.out.below hb2)
  have BX1 := Lib.hid (heap_below BX1.out hb2)
  have BX2 := Lib.hid hx2; clear hb2 hx2
  obtain ⟨w3, hw3⟩ : ∃ w3, w3 = w2.alloc (.cells #[.int .u8 (k0 : Nat), .int .u8 (k1 : Nat)] 43) := ⟨_, rfl⟩
  have hb3 : Below w2.heap.size w2 w3 := by rw [hw3]; exact (Below.refl _ _).alloc (Nat.le_refl _) _
  have hx3 := heap_alloc_new w2 (.cells #[.int .u8 (k0 : Nat), .int .u8 (k1 : Nat)] 43)
  obtain ⟨g3, hg3⟩ : ∃ g, g = w2.heap.size := ⟨_, rfl⟩
  rw [← hw3, ← hg3] at hx3
  have lw3 : w.heap.size ≤ g3 := by rw [hg3]; exact HB2.out.size
  have ltBX13 : g1 < g3 := by rw [hg3]; exact below_lt BX1.out
  have ltBX23 : g2 < g3 := by rw [hg3]; exact below_lt BX2.out
  have hs3 : g3 = w.heap.size + 2 := by rw [hg3, HW2.out, HW1.out]; simp
  have HS3 := Lib.hid hs3; clear hs3
  have HW3 := Lib.hid hw3; have HG3 := Lib.hid hg3; clear hw3 hg3
  have HB3 := Lib.hid (HB2.out.step hb3)
  have Fa := Lib.hid (Fa.out.below hb3)
  have Fal := Lib.hid (Fal.out.below hb3)
  have Fah := Lib.hid (Fah.out.below hb3)
  have FaV := Lib.hid (FaV.out.below hb3)
  have Fb := Lib.hid (Fb.out.below hb3)
  have Fbl := Lib.hid (Fbl.out.below hb3)
  have Fbh := Lib.hid (Fbh.out.below hb3)
  have FbV := Lib.hid (FbV.out.below hb3)
  have BX1 := Lib.hid (heap_below BX1.out hb3)
  have BX2 := Lib.hid (heap_below BX2.out hb3)
  have BX3 := Lib.hid hx3; clear hb3 hx3
  go_enter Tryd.func5, Tryd.ntmps5
  have hs := awake03 w3
  have HS := Lib.hid hs; clear hs
  go_wp2_with (with_reducible first | refine pauseCall ?_ | refine pauseLoop ?_ | refine pauseDraw ?_ | refine pauseBody ?_ | refine pauseRounds ?_)
  try rw [← HW1.out]
  try rw [← HW2.out]
  try rw [← HW3.out]
  try rw [← HS3.out]
  try rw [← HS2.out]
  try rw [← HG1.out]
  try rw [← HG2.out]
  try rw [← HG3.out]
  refine Pause.mk ?_
  (with_reducible refine HS.out.mono ?_); rintro e w4 ⟨rfl, hb4⟩
  clear HS
  have HB4 := Lib.hid (HB3.out.step hb4)
  have Fa := Lib.hid (Fa.out.below hb4)
  have Fal := Lib.hid (Fal.out.below hb4)
  have Fah := Lib.hid (Fah.out.below hb4)
  have FaV := Lib.hid (FaV.out.below hb4)
  have Fb := Lib.hid (Fb.out.below hb4)
  have Fbl := Lib.hid (Fbl.out.below hb4)
  have Fbh := Lib.hid (Fbh.out.below hb4)
  have FbV := Lib.hid (FbV.out.below hb4)
  have BX1 := Lib.hid (heap_below BX1.out hb4)
  have BX2 := Lib.hid (heap_below BX2.out hb4)
  have BX3 := Lib.hid (heap_below BX3.out hb4)
  clear hb4
  obtain ⟨x1_0, x1_1, x1_2, x1_3, x1_4, x1_5⟩ := row6 BX1.out
  obtain ⟨x2_0, x2_1, x2_2, x2_3, x2_4, x2_5⟩ := row6 BX2.out
  obtain ⟨w5, hw5⟩ : ∃ w5, w5 = w4.alloc (.cells #[.bool qa, .slice oa na ka, .slice pa ma ra, .bool qax, .slice oax nax kax, .slice pax max rax, .bool qb, .slice ob nb kb, .slice pb mb rb, .bool qbx, .slice obx nbx kbx, .slice pbx mbx rbx] 26) := ⟨_, rfl⟩
  have hb5 : Below w4.heap.size w4 w5 := by rw [hw5]; exact (Below.refl _ _).alloc (Nat.le_refl _) _
  have hx5 := heap_alloc_new w4 (.cells #[.bool qa, .slice oa na ka, .slice pa ma ra, .bool qax, .slice oax nax kax, .slice pax max rax, .bool qb, .slice ob nb kb, .slice pb mb rb, .bool qbx, .slice obx nbx kbx, .slice pbx mbx rbx] 26)
  obtain ⟨g5, hg5⟩ : ∃ g, g = w4.heap.size := ⟨_, rfl⟩
  rw [← hw5, ← hg5] at hx5
  have lw5 : w.heap.size ≤ g5 := by rw [hg5]; exact HB4.out.size
  have ltBX15 : g1 < g5 := by rw [hg5]; exact below_lt BX1.out
  have ltBX25 : g2 < g5 := by rw [hg5]; exact below_lt BX2.out
  have ltBX35 : g3 < g5 := by rw [hg5]; exact below_lt BX3.out
  have HW5 := Lib.hid hw5; have HG5 := Lib.hid hg5; clear hw5 hg5
  have HB5 := Lib.hid (HB4.out.step hb5)
  have Fa := Lib.hid (Fa.out.below hb5)
  have Fal := Lib.hid (Fal.out.below hb5)
  have Fah := Lib.hid (Fah.out.below hb5)
  have FaV := Lib.hid (FaV.out.below hb5)
  have Fb := Lib.hid (Fb.out.below hb5)
  have Fbl := Lib.hid (Fbl.out.below hb5)
  have Fbh := Lib.hid (Fbh.out.below hb5)
  have FbV := Lib.hid (FbV.out.below hb5)
  have BX1 := Lib.hid (heap_below BX1.out hb5)
  have BX2 := Lib.hid (heap_below BX2.out hb5)
  have BX3 := Lib.hid (heap_below BX3.out hb5)
  have BX5 := Lib.hid hx5; clear hb5 hx5
  have hs := slarge2s BX5.out Za Zb
  have HS := Lib.hid hs; clear hs
  try rw [HG5.out] at x1_0
  try rw [HG5.out] at x1_1
  try rw [HG5.out] at x1_2
  try rw [HG5.out] at x1_3
  try rw [HG5.out] at x1_4
  try rw [HG5.out] at x1_5
  try rw [HG5.out] at x2_0
  try rw [HG5.out] at x2_1
  try rw [HG5.out] at x2_2
  try rw [HG5.out] at x2_3
  try rw [HG5.out] at x2_4
  try rw [HG5.out] at x2_5
  go_wp2_with (with_reducible first | refine pauseCall ?_ | refine pauseLoop ?_ | refine pauseDraw ?_ | refine pauseBody ?_ | refine pauseRounds ?_)
  try rw [← HW5.out]
  try rw [← HG5.out]
  clear x1_0 x1_1 x1_2 x1_3 x1_4 x1_5 x2_0 x2_1 x2_2 x2_3 x2_4 x2_5
  refine Pause.mk ?_
  (with_reducible refine HS.out.mono ?_); rintro e w6 ⟨rfl, hb6⟩
  clear HS
  have HB6 := Lib.hid (HB5.out.step hb6)
  have Fa := Lib.hid (Fa.out.below hb6)
  have Fal := Lib.hid (Fal.out.below hb6)
  have Fah := Lib.hid (Fah.out.below hb6)
  have FaV := Lib.hid (FaV.out.below hb6)
  have Fb := Lib.hid (Fb.out.below hb6)
  have Fbl := Lib.hid (Fbl.out.below hb6)
  have Fbh := Lib.hid (Fbh.out.below hb6)
  have FbV := Lib.hid (FbV.out.below hb6)
  have BX1 := Lib.hid (heap_below BX1.out hb6)
  have BX2 := Lib.hid (heap_below BX2.out hb6)
  have BX3 := Lib.hid (heap_below BX3.out hb6)
  have BX5 := Lib.hid (heap_below BX5.out hb6)
  clear BX5
  clear hb6
  obtain ⟨x3_0, x3_1, x3_2, x3_3, x3_4, x3_5⟩ := row6 BX1.out
  obtain ⟨kp4, kp4x⟩ : rl (((p_a), (r_a)) : Rat × Rat).1 ≤ rl (p_a) ∧ rl (((p_a), (r_a)) : Rat × Rat).2 ≤ rl (r_a) := ⟨Nat.le_refl _, Nat.le_refl _⟩
  have hs := svalid_any _ sa aa ba ta ca da w6 FaV.out (by omega) (by omega) (by omega) (by omega)
  rw [HVa.out] at hs
  have HS := Lib.hid hs; clear hs
  go_wp2_with (with_reducible first | refine pauseCall ?_ | refine pauseLoop ?_ | refine pauseDraw ?_ | refine pauseBody ?_ | refine pauseRounds ?_)
  clear x3_0 x3_1 x3_2 x3_3 x3_4 x3_5
  refine Pause.mk ?_
  (with_reducible refine HS.out.mono ?_); rintro e w7 ⟨rfl, hb7⟩
  clear HS
  have HB7 := Lib.hid (HB6.out.step hb7)
  have Fa := Lib.hid (Fa.out.below hb7)
  have Fal := Lib.hid (Fal.out.below hb7)
  have Fah := Lib.hid (Fah.out.below hb7)
  have FaV := Lib.hid (FaV.out.below hb7)
  have Fb := Lib.hid (Fb.out.below hb7)
  have Fbl := Lib.hid (Fbl.out.below hb7)
  have Fbh := Lib.hid (Fbh.out.below hb7)
  have FbV := Lib.hid (FbV.out.below hb7)
  have BX1 := Lib.hid (heap_below BX1.out hb7)
  have BX2 := Lib.hid (heap_below BX2.out hb7)
  have BX3 := Lib.hid (heap_below BX3.out hb7)
  clear hb7
  obtain ⟨x5_0, x5_1, x5_2, x5_3, x5_4, x5_5⟩ := row6 BX2.out
  obtain ⟨kp6, kp6x⟩ : rl (((p_b), (r_b)) : Rat × Rat).1 ≤ rl (p_b) ∧ rl (((p_b), (r_b)) : Rat × Rat).2 ≤ rl (r_b) := ⟨Nat.le_refl _, Nat.le_refl _⟩
  have hs := svalid_any _ sb ab bb tb cb db w7 FbV.out (by omega) (by omega) (by omega) (by omega)
  rw [HVb.out] at hs
  have HS := Lib.hid hs; clear hs
  go_wp2_with (with_reducible first | refine pauseCall ?_ | refine pauseLoop ?_ | refine pauseDraw ?_ | refine pauseBody ?_ | refine pauseRounds ?_)
  clear x5_0 x5_1 x5_2 x5_3 x5_4 x5_5
  refine Pause.mk ?_
  (with_reducible refine HS.out.mono ?_); rintro e w8 ⟨rfl, hb8⟩
  clear HS
  have HB8 := Lib.hid (HB7.out.step hb8)
  have Fa := Lib.hid (Fa.out.below hb8)
  have Fal := Lib.hid (Fal.out.below hb8)
  have Fah := Lib.hid (Fah.out.below hb8)
  have FaV := Lib.hid (FaV.out.below hb8)
  have Fb := Lib.hid (Fb.out.below hb8)
  have Fbl := Lib.hid (Fbl.out.below hb8)
  have Fbh := Lib.hid (Fbh.out.below hb8)
  have FbV := Lib.hid (FbV.out.below hb8)
  have BX1 := Lib.hid (heap_below BX1.out hb8)
  have BX2 := Lib.hid (heap_below BX2.out hb8)
  have BX3 := Lib.hid (heap_below BX3.out hb8)
  clear hb8
  go_wp2_with (with_reducible first | refine pauseCall ?_ | refine pauseLoop ?_ | refine pauseDraw ?_ | refine pauseBody ?_ | refine pauseRounds ?_)
  refine Pause.mk ?_
  obtain ⟨kp8, kp8x⟩ : rl (((p_a), (r_a)) : Rat × Rat).1 ≤ rl (p_a) ∧ rl (((p_a), (r_a)) : Rat × Rat).2 ≤ rl (r_a) := ⟨Nat.le_refl _, Nat.le_refl _⟩
  have k7 := rl_inK ((p_a, r_a)) k0 (by omega)
  obtain ⟨kp10, kp10x⟩ : rl (((p_b), (r_b)) : Rat × Rat).1 ≤ rl (p_b) ∧ rl (((p_b), (r_b)) : Rat × Rat).2 ≤ rl (r_b) := ⟨Nat.le_refl _, Nat.le_refl _⟩
  have k9 := rl_inK ((p_b, r_b)) k1 (by omega)
  refine wp_region_facts (A := ?aa11) (w := w8) 10 [] (by kernel_rfl) (Fl [KEq (.agg #[.bool qa, .slice oa na ka, .slice pa ma ra, .bool qax, .slice oax nax kax, .slice pax max rax]), KEq (.pointer (some ⟨g3, 0, none⟩)), KEq (.int .u8 (k0 : Nat)), KIs (inK ((p_a, r_a)) k0), KEq (.agg #[.bool qb, .slice ob nb kb, .slice pb mb rb, .bool qbx, .slice obx nbx kbx, .slice pbx mbx rbx]), KEq (.pointer (some ⟨g3, 1, none⟩)), KEq (.int .u8 (k1 : Nat)), KIs (inK ((p_b, r_b)) k1), KNew w8.heap.size #[.bool false, .slice none 0 0, .slice none 0 0] 24, KNew w8.heap.size #[.bool false, .slice none 0 0, .slice none 0 0] 24]) (fun i => i == 8 || i == 9) (by kernel_rfl) ?hq11 (monoL (monoC (kEq _) (monoC (kEq _) (monoC (kEq _) (monoC (kIs _) (monoC (kEq _) (monoC (kEq _) (monoC (kEq _) (monoC (kIs _) (monoC (kNew _ _ _) (monoC (kNew _ _ _) monoN))))))))))) ?ha11 ?st11 ?tl11
  case hq11 =>
    intro c a d v w h
    first | (simp only [Exit.then] at h ⊢; exact h) | (simp only [Exit.inBlock, Exit.then] at h ⊢; exact h) | exact h
  case ha11 =>
    intro vals
    simp only [putsTo, dstOf, if_true, Act.put, List.setIfInBounds_toArray, List.set_cons_zero, List.set_cons_succ, List.getElem?_toArray, List.getElem?_cons_zero, List.getElem?_cons_succ, Option.bind_some]
    exact rfl
  case st11 =>
    simp only [List.take_succ_cons, List.take_zero]
    refine stepsOK_cons rfl rfl ?_ (stepsOK_cons rfl rfl ?_ (stepsOK_cons rfl rfl ?_ (stepsOK_cons rfl rfl ?_ (stepsOK_cons rfl rfl ?_ (stepsOK_cons rfl rfl ?_ (stepsOK_cons rfl rfl ?_ (stepsOK_cons rfl rfl ?_ (stepsOK_cons rfl rfl ?_ (stepsOK_cons rfl rfl ?_ (stepsOK_nil))))))))))
    · intro vals w1 hb hd
      obtain ⟨e0, e1, e2, e3, e4, e5⟩ := row6 (heap_below BX1.out hb)
      refine stepOK_value (v := .agg #[.bool qa, .slice oa na ka, .slice pa ma ra, .bool qax, .slice oax nax kax, .slice pax max rax]) (w' := w1) (by go_simp) (leaves_mk (Below.refl _ _) rfl (fun h => by cases h))
    · intro vals w1 hb hd
      refine stepOK_value (v := (.pointer (some ⟨g3, 0, none⟩))) (w' := w1) (by go_simp) (leaves_mk (Below.refl _ _) rfl (fun h => by cases h))
    · intro vals w1 hb hd
      have d1 : KEq (.pointer (some ⟨g3, 0, none⟩)) (vals 1) w1 := hd 1 (by kernel_rfl)
      rw [show vals 1 = _ from d1]
      obtain ⟨e0, e1⟩ := row2 (heap_below BX3.out hb)
      refine stepOK_value (v := .int .u8 (k0 : Nat)) (w' := w1) (by go_simp) (leaves_mk (Below.refl _ _) rfl (fun h => by cases h))
    · intro vals w1 hb hd
      have d0 : KEq (.agg #[.bool qa, .slice oa na ka, .slice pa ma ra, .bool qax, .slice oax nax kax, .slice pax max rax]) (vals 0) w1 := hd 0 (by kernel_rfl)
      have d2 : KEq (.int .u8 (k0 : Nat)) (vals 2) w1 := hd 2 (by kernel_rfl)
      have z0 : vals 0 = _ := d0
      have z2 : vals 2 = _ := d2
      have hs := inK_any _ ((p_a, r_a)) k0 w1 (Fa.out.below hb) (by omega) (by omega) (by omega)
      have HS := Lib.hid hs; clear hs
      rw [z0]; clear z0
      rw [z2]; clear z2
      clear d0 d2 hd
      refine stepOK_call (by go_simp; first | done | exact ⟨⟨rfl, rfl⟩, rfl⟩) ?_
      (with_reducible refine HS.out.mono ?_); rintro e w2 ⟨v, rfl, hb2, hn⟩
      exact ⟨v, rfl, leaves_mk hb2 hn (fun h => by cases h)⟩
    · intro vals w1 hb hd
      obtain ⟨e0, e1, e2, e3, e4, e5⟩ := row6 (heap_below BX2.out hb)
      refine stepOK_value (v := .agg #[.bool qb, .slice ob nb kb, .slice pb mb rb, .bool qbx, .slice obx nbx kbx, .slice pbx mbx rbx]) (w' := w1) (by go_simp) (leaves_mk (Below.refl _ _) rfl (fun h => by cases h))
    · intro vals w1 hb hd
      refine stepOK_value (v := (.pointer (some ⟨g3, 1, none⟩))) (w' := w1) (by go_simp) (leaves_mk (Below.refl _ _) rfl (fun h => by cases h))
    · intro vals w1 hb hd
      have d5 : KEq (.pointer (some ⟨g3, 1, none⟩)) (vals 5) w1 := hd 5 (by kernel_rfl)
      rw [show vals 5 = _ from d5]
      obtain ⟨e0, e1⟩ := row2 (heap_below BX3.out hb)
      refine stepOK_value (v := .int .u8 (k1 : Nat)) (w' := w1) (by go_simp) (leaves_mk (Below.refl _ _) rfl (fun h => by cases h))
    · intro vals w1 hb hd
      have d4 : KEq (.agg #[.bool qb, .slice ob nb kb, .slice pb mb rb, .bool qbx, .slice obx nbx kbx, .slice pbx mbx rbx]) (vals 4) w1 := hd 4 (by kernel_rfl)
      have d6 : KEq (.int .u8 (k1 : Nat)) (vals 6) w1 := hd 6 (by kernel_rfl)
      have z4 : vals 4 = _ := d4
      have z6 : vals 6 = _ := d6
      have hs := inK_any _ ((p_b, r_b)) k1 w1 (Fb.out.below hb) (by omega) (by omega) (by omega)
      have HS := Lib.hid hs; clear hs
      rw [z4]; clear z4
      rw [z6]; clear z6
      clear d4 d6 hd
      refine stepOK_call (by go_simp; first | done | exact ⟨⟨rfl, rfl⟩, rfl⟩) ?_
      (with_reducible refine HS.out.mono ?_); rintro e w2 ⟨v, rfl, hb2, hn⟩
      exact ⟨v, rfl, leaves_mk hb2 hn (fun h => by cases h)⟩
    · intro vals w1 hb hd
      refine stepOK_value (v := .pointer (some ⟨w1.heap.size, 0, none⟩)) (w' := w1.alloc (.cells #[.bool false, .slice none 0 0, .slice none 0 0] 24)) (by go_simp) (leaves_mk ((Below.refl _ _).alloc (Nat.le_refl _) _) ⟨_, hb.size, rfl, heap_alloc_new _ _⟩ (fun _ => ⟨rfl, by simp⟩))
    · intro vals w1 hb hd
      refine stepOK_value (v := .pointer (some ⟨w1.heap.size, 0, none⟩)) (w' := w1.alloc (.cells #[.bool false, .slice none 0 0, .slice none 0 0] 24)) (by go_simp) (leaves_mk ((Below.refl _ _).alloc (Nat.le_refl _) _) ⟨_, hb.size, rfl, heap_alloc_new _ _⟩ (fun _ => ⟨rfl, by simp⟩))
  case tl11 =>
    intro vals w9 hb9 hf hdis
    simp only [List.drop_succ_cons, List.drop_zero]
    obtain ⟨u11_3, hu3⟩ : ∃ u, u = vals 3 := ⟨_, rfl⟩
    have hn11_3 : IsR w9 (vals 3) (inK ((p_a, r_a)) k0) := hf 3 (by decide)
    rw [← hu3] at hn11_3 ⊢; clear hu3
    obtain ⟨u11_7, hu7⟩ : ∃ u, u = vals 7 := ⟨_, rfl⟩
    have hn11_7 : IsR w9 (vals 7) (inK ((p_b, r_b)) k1) := hf 7 (by decide)
    rw [← hu7] at hn11_7 ⊢; clear hu7
    obtain ⟨g11_8, hg11_8, ev8, hz11_8⟩ : KNew w8.heap.size #[.bool false, .slice none 0 0, .slice none 0 0] 24 (vals 8) w9 := hf 8 (by decide)
    have eq8 := ev8
    rw [ev8]; clear ev8
    have lw11_8 : w.heap.size ≤ g11_8 := Nat.le_trans HB8.out.size hg11_8
    have ltBX111_8 : g1 < g11_8 := Nat.lt_of_lt_of_le (below_lt BX1.out) hg11_8
    have ltBX211_8 : g2 < g11_8 := Nat.lt_of_lt_of_le (below_lt BX2.out) hg11_8
    have ltBX311_8 : g3 < g11_8 := Nat.lt_of_lt_of_le (below_lt BX3.out) hg11_8
    obtain ⟨g11_9, hg11_9, ev9, hz11_9⟩ : KNew w8.heap.size #[.bool false, .slice none 0 0, .slice none 0 0] 24 (vals 9) w9 := hf 9 (by decide)
    have ne8_9 : g11_8 ≠ g11_9 := fun e => hdis 8 9 (by decide) (by decide) (by decide) (by decide) (by decide) (by rw [eq8, ev9, e])
    have eq9 := ev9
    rw [ev9]; clear ev9
    have lw11_9 : w.heap.size ≤ g11_9 := Nat.le_trans HB8.out.size hg11_9
    have ltBX111_9 : g1 < g11_9 := Nat.lt_of_lt_of_le (below_lt BX1.out) hg11_9
    have ltBX211_9 : g2 < g11_9 := Nat.lt_of_lt_of_le (below_lt BX2.out) hg11_9
    have ltBX311_9 : g3 < g11_9 := Nat.lt_of_lt_of_le (below_lt BX3.out) hg11_9
    clear hf hdis eq8 eq9
    have HB9 := Lib.hid (HB8.out.step hb9)
    have Fa := Lib.hid (Fa.out.below hb9)
    have Fal := Lib.hid (Fal.out.below hb9)
    have Fah := Lib.hid (Fah.out.below hb9)
    have FaV := Lib.hid (FaV.out.below hb9)
    have Fb := Lib.hid (Fb.out.below hb9)
    have Fbl := Lib.hid (Fbl.out.below hb9)
    have Fbh := Lib.hid (Fbh.out.below hb9)
    have FbV := Lib.hid (FbV.out.below hb9)
    have BX1 := Lib.hid (heap_below BX1.out hb9)
    have BX2 := Lib.hid (heap_below BX2.out hb9)
    have BX3 := Lib.hid (heap_below BX3.out hb9)
    clear hb9
    have BX11_8 := Lib.hid hz11_8; clear hz11_8 hg11_8
    have BX11_9 := Lib.hid hz11_9; clear hz11_9 hg11_9
    have N11_3 := Lib.hid hn11_3; clear hn11_3
    obtain ⟨s12, o12, n12, c12, a12, m12, d12, rfl⟩ := N11_3.out.shape
    have N11_7 := Lib.hid hn11_7; clear hn11_7
    obtain ⟨s13, o13, n13, c13, a13, m13, d13, rfl⟩ := N11_7.out.shape
    skip
    go_wp2_with (with_reducible refine wpList_pauseS ?_)
    refine wpList_stL g11_8 0 [.bool s12, .slice o12 n12 c12, .slice a12 m12 d12] BX11_8.out rfl rfl (Nat.le_of_ble_eq_true rfl) (by kernel_rfl) rfl ?_
    intro w10 hp10
    have Fa := Lib.hid (putL_SI hp10 Fa.out BX11_8.out noW3)
    have Fal := Lib.hid (putL_I hp10 Fal.out BX11_8.out noW3)
    have Fah := Lib.hid (putL_I hp10 Fah.out BX11_8.out noW3)
    have FaV := Lib.hid (putL_SV hp10 FaV.out BX11_8.out noW3)
    have Fb := Lib.hid (putL_SI hp10 Fb.out BX11_8.out noW3)
    have Fbl := Lib.hid (putL_I hp10 Fbl.out BX11_8.out noW3)
    have Fbh := Lib.hid (putL_I hp10 Fbh.out BX11_8.out noW3)
    have FbV := Lib.hid (putL_SV hp10 FbV.out BX11_8.out noW3)
    have N11_3 := Lib.hid (putL_I hp10 N11_3.out BX11_8.out noW3)
    have N11_7 := Lib.hid (putL_I hp10 N11_7.out BX11_8.out noW3)
    have BX1 := Lib.hid (putLx hp10 BX1.out (by omega))
    have BX2 := Lib.hid (putLx hp10 BX2.out (by omega))
    have BX3 := Lib.hid (putLx hp10 BX3.out (by omega))
    have BX11_9 := Lib.hid (putLx hp10 BX11_9.out (by omega))
    have nx10 : w10.heap[g11_8]? = some (.cells #[.bool s12, .slice o12 n12 c12, .slice a12 m12 d12] 24) := by rw [hp10]; exact putL_r BX11_8.out
    have BX11_8 := Lib.hid nx10; clear nx10
    have HB10 := Lib.hid (putLb hp10 HB9.out (by omega))
    clear hp10
    go_wp2_with (with_reducible refine wpList_pauseS ?_)
    refine wpList_stL g11_9 0 [.bool s13, .slice o13 n13 c13, .slice a13 m13 d13] BX11_9.out rfl rfl (Nat.le_of_ble_eq_true rfl) (by kernel_rfl) rfl ?_
    intro w11 hp11
    have Fa := Lib.hid (putL_SI hp11 Fa.out BX11_9.out noW3)
    have Fal := Lib.hid (putL_I hp11 Fal.out BX11_9.out noW3)
    have Fah := Lib.hid (putL_I hp11 Fah.out BX11_9.out noW3)
    have FaV := Lib.hid (putL_SV hp11 FaV.out BX11_9.out noW3)
    have Fb := Lib.hid (putL_SI hp11 Fb.out BX11_9.out noW3)
    have Fbl := Lib.hid (putL_I hp11 Fbl.out BX11_9.out noW3)
    have Fbh := Lib.hid (putL_I hp11 Fbh.out BX11_9.out noW3)
    have FbV := Lib.hid (putL_SV hp11 FbV.out BX11_9.out noW3)
    have N11_3 := Lib.hid (putL_I hp11 N11_3.out BX11_9.out noW3)
    have N11_7 := Lib.hid (putL_I hp11 N11_7.out BX11_9.out noW3)
    have BX1 := Lib.hid (putLx hp11 BX1.out (by omega))
    have BX2 := Lib.hid (putLx hp11 BX2.out (by omega))
    have BX3 := Lib.hid (putLx hp11 BX3.out (by omega))
    have BX11_8 := Lib.hid (putLx hp11 BX11_8.out (by omega))
    have nx11 : w11.heap[g11_9]? = some (.cells #[.bool s13, .slice o13 n13 c13, .slice a13 m13 d13] 24) := by rw [hp11]; exact putL_r BX11_9.out
    have BX11_9 := Lib.hid nx11; clear nx11
    have HB11 := Lib.hid (putLb hp11 HB10.out (by omega))
    clear hp11
    go_wp2_with (with_reducible first | refine pauseCall ?_ | refine pauseLoop ?_ | refine pauseDraw ?_ | refine pauseBody ?_ | refine pauseRounds ?_)
    refine Pause.mk ?_
    obtain ⟨kp14, kp14x⟩ : rl (((p_a), (r_a)) : Rat × Rat).1 ≤ rl (p_a) ∧ rl (((p_a), (r_a)) : Rat × Rat).2 ≤ rl (r_a) := ⟨Nat.le_refl _, Nat.le_refl _⟩
    obtain ⟨kp15, kp15x⟩ : rl (((p_b), (r_b)) : Rat × Rat).1 ≤ rl (p_b) ∧ rl (((p_b), (r_b)) : Rat × Rat).2 ≤ rl (r_b) := ⟨Nat.le_refl _, Nat.le_refl _⟩
    obtain ⟨kp18, kp18x⟩ : rl (((p_a), (r_a)) : Rat × Rat).1 ≤ rl (p_a) ∧ rl (((p_a), (r_a)) : Rat × Rat).2 ≤ rl (r_a) := ⟨Nat.le_refl _, Nat.le_refl _⟩
    obtain ⟨kp19, kp19x⟩ : rl (((p_b), (r_b)) : Rat × Rat).1 ≤ rl (p_b) ∧ rl (((p_b), (r_b)) : Rat × Rat).2 ≤ rl (r_b) := ⟨Nat.le_refl _, Nat.le_refl _⟩
    obtain ⟨k16, k17⟩ := rl_sAdd ((p_a, r_a)) ((p_b, r_b))
    have k20 := rl_add (inK ((p_a, r_a)) k0) (inK ((p_b, r_b)) k1)
    obtain ⟨kp23, kp23x⟩ : rl (((p_a), (r_a)) : Rat × Rat).1 ≤ rl (p_a) ∧ rl (((p_a), (r_a)) : Rat × Rat).2 ≤ rl (r_a) := ⟨Nat.le_refl _, Nat.le_refl _⟩
    obtain ⟨kp24, kp24x⟩ : rl (((p_b), (r_b)) : Rat × Rat).1 ≤ rl (p_b) ∧ rl (((p_b), (r_b)) : Rat × Rat).2 ≤ rl (r_b) := ⟨Nat.le_refl _, Nat.le_refl _⟩
    obtain ⟨k21, k22⟩ := rl_sSub ((p_a, r_a)) ((p_b, r_b))
    have k25 := rl_sub (inK ((p_a, r_a)) k0) (inK ((p_b, r_b)) k1)
    obtain ⟨kp28, kp28x⟩ : rl (((p_a), (r_a)) : Rat × Rat).1 ≤ rl (p_a) ∧ rl (((p_a), (r_a)) : Rat × Rat).2 ≤ rl (r_a) := ⟨Nat.le_refl _, Nat.le_refl _⟩
    obtain ⟨kp29, kp29x⟩ : rl (((p_b), (r_b)) : Rat × Rat).1 ≤ rl (p_b) ∧ rl (((p_b), (r_b)) : Rat × Rat).2 ≤ rl (r_b) := ⟨Nat.le_refl _, Nat.le_refl _⟩
    obtain ⟨k26, k27⟩ := rl_sMul ((p_a, r_a)) ((p_b, r_b))
    have k30 := rl_mul (inK ((p_a, r_a)) k0) (inK ((p_b, r_b)) k1)
    obtain ⟨kp33, kp33x⟩ : rl (((p_a), (r_a)) : Rat × Rat).1 ≤ rl (p_a) ∧ rl (((p_a), (r_a)) : Rat × Rat).2 ≤ rl (r_a) := ⟨Nat.le_refl _, Nat.le_refl _⟩
    obtain ⟨k31, k32⟩ := rl_sNot ((p_a, r_a))
    have k34 : rl ((1 : Int) : Rat) ≤ 2 := rl_small (by decide) (by decide)
    refine wp_region_facts (A := ?aa35) (w := w11) 45 [] (by kernel_rfl) (Fl [KEq (.agg #[.bool qa, .slice oa na ka, .slice pa ma ra, .bool qax, .slice oax nax kax, .slice pax max rax]), KEq (.agg #[.bool s12, .slice o12 n12 c12, .slice a12 m12 d12]), KEq (.bool true), KEq (.bool false), KEq (.bool false), KEq (.agg #[.bool qb, .slice ob nb kb, .slice pb mb rb, .bool qbx, .slice obx nbx kbx, .slice pbx mbx rbx]), KEq (.agg #[.bool s13, .slice o13 n13 c13, .slice a13 m13 d13]), KEq (.bool true), KEq (.bool false), KEq (.bool false), KEq (.bool false), KEq (.agg #[.bool qa, .slice oa na ka, .slice pa ma ra, .bool qax, .slice oax nax kax, .slice pax max rax]), KEq (.agg #[.bool qb, .slice ob nb kb, .slice pb mb rb, .bool qbx, .slice obx nbx kbx, .slice pbx mbx rbx]), KSp (sAdd ((p_a, r_a)) ((p_b, r_b))), KEq (.agg #[.bool s12, .slice o12 n12 c12, .slice a12 m12 d12]), KEq (.agg #[.bool s13, .slice o13 n13 c13, .slice a13 m13 d13]), KIs ((inK ((p_a, r_a)) k0) + (inK ((p_b, r_b)) k1)), KEq (.bool true), KEq (.bool false), KEq (.bool false), KEq (.bool false), KEq (.agg #[.bool qa, .slice oa na ka, .slice pa ma ra, .bool qax, .slice oax nax kax, .slice pax max rax]), KEq (.agg #[.bool qb, .slice ob nb kb, .slice pb mb rb, .bool qbx, .slice obx nbx kbx, .slice pbx mbx rbx]), KSp (sSub ((p_a, r_a)) ((p_b, r_b))), KEq (.agg #[.bool s12, .slice o12 n12 c12, .slice a12 m12 d12]), KEq (.agg #[.bool s13, .slice o13 n13 c13, .slice a13 m13 d13]), KIs ((inK ((p_a, r_a)) k0) - (inK ((p_b, r_b)) k1)), KEq (.bool true), KEq (.bool false), KEq (.bool false), KEq (.bool false), KEq (.agg #[.bool qa, .slice oa na ka, .slice pa ma ra, .bool qax, .slice oax nax kax, .slice pax max rax]), KEq (.agg #[.bool qb, .slice ob nb kb, .slice pb mb rb, .bool qbx, .slice obx nbx kbx, .slice pbx mbx rbx]), KSp (sMul ((p_a, r_a)) ((p_b, r_b))), KEq (.agg #[.bool s12, .slice o12 n12 c12, .slice a12 m12 d12]), KEq (.agg #[.bool s13, .slice o13 n13 c13, .slice a13 m13 d13]), KIs ((inK ((p_a, r_a)) k0) * (inK ((p_b, r_b)) k1)), KEq (.bool true), KEq (.bool false), KEq (.bool false), KEq (.bool false), KEq (.agg #[.bool qa, .slice oa na ka, .slice pa ma ra, .bool qax, .slice oax nax kax, .slice pax max rax]), KSp (sNot ((p_a, r_a))), KIs (((1 : Int) : Rat)), KEq (.agg #[.bool s12, .slice o12 n12 c12, .slice a12 m12 d12])]) (fun i => false) (by kernel_rfl) ?hq35 (monoL (monoC (kEq _) (monoC (kEq _) (monoC (kEq _) (monoC (kEq _) (monoC (kEq _) (monoC (kEq _) (monoC (kEq _) (monoC (kEq _) (monoC (kEq _) (monoC (kEq _) (monoC (kEq _) (monoC (kEq _) (monoC (kEq _) (monoC (kSp _) (monoC (kEq _) (monoC (kEq _) (monoC (kIs _) (monoC (kEq _) (monoC (kEq _) (monoC (kEq _) (monoC (kEq _) (monoC (kEq _) (monoC (kEq _) (monoC (kSp _) (monoC (kEq _) (monoC (kEq _) (monoC (kIs _) (monoC (kEq _) (monoC (kEq _) (monoC (kEq _) (monoC (kEq _) (monoC (kEq _) (monoC (kEq _) (monoC (kSp _) (monoC (kEq _) (monoC (kEq _) (monoC (kIs _) (monoC (kEq _) (monoC (kEq _) (monoC (kEq _) (monoC (kEq _) (monoC (kEq _) (monoC (kSp _) (monoC (kIs _) (monoC (kEq _) monoN)))))))))))))))))))))))))))))))))))))))))))))) ?ha35 ?st35 ?tl35
    case hq35 =>
      intro c a d v w h
      first | (simp only [Exit.then] at h ⊢; exact h) | (simp only [Exit.inBlock, Exit.then] at h ⊢; exact h) | exact h
    case ha35 =>
      intro vals
      simp only [putsTo, dstOf, if_true, Act.put, List.setIfInBounds_toArray, List.set_cons_zero, List.set_cons_succ, List.getElem?_toArray, List.getElem?_cons_zero, List.getElem?_cons_succ, Option.bind_some]
      exact rfl
    case st35 =>
      simp only [List.take_succ_cons, List.take_zero]
      refine stepsOK_cons rfl rfl ?_ (stepsOK_cons rfl rfl ?_ (stepsOK_cons rfl rfl ?_ (stepsOK_cons rfl rfl ?_ (stepsOK_cons rfl rfl ?_ (stepsOK_guard rfl ?_ (stepsOK_guard rfl ?_ (stepsOK_guard rfl ?_ (stepsOK_guard rfl ?_ (stepsOK_cons rfl rfl ?_ (stepsOK_cons rfl rfl ?_ (stepsOK_guard rfl ?_ (stepsOK_guard rfl ?_ (stepsOK_guard rfl ?_ (stepsOK_guard rfl ?_ (stepsOK_guard rfl ?_ (stepsOK_guard rfl ?_ (stepsOK_guard rfl ?_ (stepsOK_guard rfl ?_ (stepsOK_cons rfl rfl ?_ (stepsOK_cons rfl rfl ?_ (stepsOK_guard rfl ?_ (stepsOK_guard rfl ?_ (stepsOK_guard rfl ?_ (stepsOK_guard rfl ?_ (stepsOK_guard rfl ?_ (stepsOK_guard rfl ?_ (stepsOK_guard rfl ?_ (stepsOK_guard rfl ?_ (stepsOK_cons rfl rfl ?_ (stepsOK_cons rfl rfl ?_ (stepsOK_guard rfl ?_ (stepsOK_guard rfl ?_ (stepsOK_guard rfl ?_ (stepsOK_guard rfl ?_ (stepsOK_guard rfl ?_ (stepsOK_guard rfl ?_ (stepsOK_guard rfl ?_ (stepsOK_guard rfl ?_ (stepsOK_cons rfl rfl ?_ (stepsOK_cons rfl rfl ?_ (stepsOK_guard rfl ?_ (stepsOK_guard rfl ?_ (stepsOK_guard rfl ?_ (stepsOK_guard rfl ?_ (stepsOK_nil)))))))))))))))))))))))))))))))))))))))))))))
      · intro vals w1 hb hd
        obtain ⟨e0, e1, e2, e3, e4, e5⟩ := row6 (heap_below BX1.out hb)
        refine stepOK_value (v := .agg #[.bool qa, .slice oa na ka, .slice pa ma ra, .bool qax, .slice oax nax kax, .slice pax max rax]) (w' := w1) (by go_simp) (leaves_mk (Below.refl _ _) rfl (fun h => by cases h))
      · intro vals w1 hb hd
        obtain ⟨e0, e1, e2⟩ := row3 (heap_below BX11_8.out hb)
        refine stepOK_value (v := .agg #[.bool s12, .slice o12 n12 c12, .slice a12 m12 d12]) (w' := w1) (by go_simp) (leaves_mk (Below.refl _ _) rfl (fun h => by cases h))
      · intro vals w1 hb hd
        have d0 : KEq (.agg #[.bool qa, .slice oa na ka, .slice pa ma ra, .bool qax, .slice oax nax kax, .slice pax max rax]) (vals 0) w1 := hd 0 (by kernel_rfl)
        have d1 : KEq (.agg #[.bool s12, .slice o12 n12 c12, .slice a12 m12 d12]) (vals 1) w1 := hd 1 (by kernel_rfl)
        have z0 : vals 0 = _ := d0
        have z1 : vals 1 = _ := d1
        have hs := contains_any _ ((p_a, r_a)) _ (inK ((p_a, r_a)) k0) w1 ((Fa.out.below hb).is HOa.out (by omega) (by omega)) ((N11_3.out.below hb).is (by omega)) (by omega) (by omega) (by omega)
        rw [HI1.out] at hs
        have HS := Lib.hid hs; clear hs
        rw [z0]; clear z0
        rw [z1]; clear z1
        clear d0 d1 hd
        refine stepOK_call (by go_simp; first | done | exact ⟨⟨rfl, rfl⟩, rfl⟩) ?_
        (with_reducible refine HS.out.mono ?_); rintro e w2 ⟨rfl, hb2⟩
        exact ⟨_, rfl, leaves_mk hb2 rfl (fun h => by cases h)⟩
      · intro vals w1 hb hd
        have d2 : KEq (.bool true) (vals 2) w1 := hd 2 (by kernel_rfl)
        rw [show vals 2 = _ from d2]
        refine stepOK_value (v := (.bool false)) (w' := w1) (by go_simp) (leaves_mk (Below.refl _ _) rfl (fun h => by cases h))
      · intro vals w1 hb hd
        have d3 : KEq (.bool false) (vals 3) w1 := hd 3 (by kernel_rfl)
        rw [show vals 3 = _ from d3]
        refine stepOK_value (v := (.bool false)) (w' := w1) (by go_simp) (leaves_mk (Below.refl _ _) rfl (fun h => by cases h))
      · intro vals w1 hb hd
        have dg : KEq (.bool false) (vals 4) w1 := hd 4 (by kernel_rfl)
        refine stepG_yes (wanted_of rfl rfl (congrArg some dg) rfl) ?_
        clear dg
        obtain ⟨e0, e1, e2, e3, e4, e5⟩ := row6 (heap_below BX2.out hb)
        refine stepOK_value (v := .agg #[.bool qb, .slice ob nb kb, .slice pb mb rb, .bool qbx, .slice obx nbx kbx, .slice pbx mbx rbx]) (w' := w1) (by go_simp) (leaves_mk (Below.refl _ _) rfl (fun h => by cases h))
      · intro vals w1 hb hd
        have dg : KEq (.bool false) (vals 4) w1 := hd 4 (by kernel_rfl)
        refine stepG_yes (wanted_of rfl rfl (congrArg some dg) rfl) ?_
        clear dg
        obtain ⟨e0, e1, e2⟩ := row3 (heap_below BX11_9.out hb)
        refine stepOK_value (v := .agg #[.bool s13, .slice o13 n13 c13, .slice a13 m13 d13]) (w' := w1) (by go_simp) (leaves_mk (Below.refl _ _) rfl (fun h => by cases h))
      · intro vals w1 hb hd
        have dg : KEq (.bool false) (vals 4) w1 := hd 4 (by kernel_rfl)
        refine stepG_yes (wanted_of rfl rfl (congrArg some dg) rfl) ?_
        clear dg
        have d5 : KEq (.agg #[.bool qb, .slice ob nb kb, .slice pb mb rb, .bool qbx, .slice obx nbx kbx, .slice pbx mbx rbx]) (vals 5) w1 := hd 5 (by kernel_rfl)
        have d6 : KEq (.agg #[.bool s13, .slice o13 n13 c13, .slice a13 m13 d13]) (vals 6) w1 := hd 6 (by kernel_rfl)
        have z5 : vals 5 = _ := d5
        have z6 : vals 6 = _ := d6
        have hs := contains_any _ ((p_b, r_b)) _ (inK ((p_b, r_b)) k1) w1 ((Fb.out.below hb).is HOb.out (by omega) (by omega)) ((N11_7.out.below hb).is (by omega)) (by omega) (by omega) (by omega)
        rw [HI2.out] at hs
        have HS := Lib.hid hs; clear hs
        rw [z5]; clear z5
        rw [z6]; clear z6
        clear d5 d6 hd
        refine stepOK_call (by go_simp; first | done | exact ⟨⟨rfl, rfl⟩, rfl⟩) ?_
        (with_reducible refine HS.out.mono ?_); rintro e w2 ⟨rfl, hb2⟩
        exact ⟨_, rfl, leaves_mk hb2 rfl (fun h => by cases h)⟩
      · intro vals w1 hb hd
        have dg : KEq (.bool false) (vals 4) w1 := hd 4 (by kernel_rfl)
        refine stepG_yes (wanted_of rfl rfl (congrArg some dg) rfl) ?_
        clear dg
        have d7 : KEq (.bool true) (vals 7) w1 := hd 7 (by kernel_rfl)
        rw [show vals 7 = _ from d7]
        refine stepOK_value (v := (.bool false)) (w' := w1) (by go_simp) (leaves_mk (Below.refl _ _) rfl (fun h => by cases h))
      · intro vals w1 hb hd
        have d4 : KEq (.bool false) (vals 4) w1 := hd 4 (by kernel_rfl)
        have d8 : KEq (.bool false) (vals 8) w1 := hd 8 (by kernel_rfl)
        rw [show vals 4 = _ from d4]
        rw [show vals 8 = _ from d8]
        refine stepOK_value (v := (.bool false)) (w' := w1) (by go_simp) (leaves_mk (Below.refl _ _) rfl (fun h => by cases h))
      · intro vals w1 hb hd
        have d9 : KEq (.bool false) (vals 9) w1 := hd 9 (by kernel_rfl)
        rw [show vals 9 = _ from d9]
        refine stepOK_value (v := (.bool false)) (w' := w1) (by go_simp) (leaves_mk (Below.refl _ _) rfl (fun h => by cases h))
      · intro vals w1 hb hd
        have dg : KEq (.bool false) (vals 10) w1 := hd 10 (by kernel_rfl)
        refine stepG_yes (wanted_of rfl rfl (congrArg some dg) rfl) ?_
        clear dg
        obtain ⟨e0, e1, e2, e3, e4, e5⟩ := row6 (heap_below BX1.out hb)
        refine stepOK_value (v := .agg #[.bool qa, .slice oa na ka, .slice pa ma ra, .bool qax, .slice oax nax kax, .slice pax max rax]) (w' := w1) (by go_simp) (leaves_mk (Below.refl _ _) rfl (fun h => by cases h))
      · intro vals w1 hb hd
        have dg : KEq (.bool false) (vals 10) w1 := hd 10 (by kernel_rfl)
        refine stepG_yes (wanted_of rfl rfl (congrArg some dg) rfl) ?_
        clear dg
        obtain ⟨e0, e1, e2, e3, e4, e5⟩ := row6 (heap_below BX2.out hb)
        refine stepOK_value (v := .agg #[.bool qb, .slice ob nb kb, .slice pb mb rb, .bool qbx, .slice obx nbx kbx, .slice pbx mbx rbx]) (w' := w1) (by go_simp) (leaves_mk (Below.refl _ _) rfl (fun h => by cases h))
      · intro vals w1 hb hd
        have dg : KEq (.bool false) (vals 10) w1 := hd 10 (by kernel_rfl)
        refine stepG_yes (wanted_of rfl rfl (congrArg some dg) rfl) ?_
        clear dg
        have d11 : KEq (.agg #[.bool qa, .slice oa na ka, .slice pa ma ra, .bool qax, .slice oax nax kax, .slice pax max rax]) (vals 11) w1 := hd 11 (by kernel_rfl)
        have d12 : KEq (.agg #[.bool qb, .slice ob nb kb, .slice pb mb rb, .bool qbx, .slice obx nbx kbx, .slice pbx mbx rbx]) (vals 12) w1 := hd 12 (by kernel_rfl)
        have z11 : vals 11 = _ := d11
        have z12 : vals 12 = _ := d12
        have hs := sadd_any _ ((p_a, r_a)) _ ((p_b, r_b)) w1 ((Fa.out.below hb).is HOa.out (by omega) (by omega)) ((Fb.out.below hb).is HOb.out (by omega) (by omega)) (by omega) (by omega) (by omega) (by omega)
        have HS := Lib.hid hs; clear hs
        rw [z11]; clear z11
        rw [z12]; clear z12
        clear d11 d12 hd
        refine stepOK_call (by go_simp; first | done | exact ⟨⟨rfl, rfl⟩, rfl⟩) ?_
        (with_reducible refine HS.out.mono ?_); rintro e w2 ⟨v, rfl, hb2, hn⟩
        exact ⟨v, rfl, leaves_mk hb2 hn (fun h => by cases h)⟩
      · intro vals w1 hb hd
        have dg : KEq (.bool false) (vals 10) w1 := hd 10 (by kernel_rfl)
        refine stepG_yes (wanted_of rfl rfl (congrArg some dg) rfl) ?_
        clear dg
        obtain ⟨e0, e1, e2⟩ := row3 (heap_below BX11_8.out hb)
        refine stepOK_value (v := .agg #[.bool s12, .slice o12 n12 c12, .slice a12 m12 d12]) (w' := w1) (by go_simp) (leaves_mk (Below.refl _ _) rfl (fun h => by cases h))
      · intro vals w1 hb hd
        have dg : KEq (.bool false) (vals 10) w1 := hd 10 (by kernel_rfl)
        refine stepG_yes (wanted_of rfl rfl (congrArg some dg) rfl) ?_
        clear dg
        obtain ⟨e0, e1, e2⟩ := row3 (heap_below BX11_9.out hb)
        refine stepOK_value (v := .agg #[.bool s13, .slice o13 n13 c13, .slice a13 m13 d13]) (w' := w1) (by go_simp) (leaves_mk (Below.refl _ _) rfl (fun h => by cases h))
      · intro vals w1 hb hd
        have dg : KEq (.bool false) (vals 10) w1 := hd 10 (by kernel_rfl)
        refine stepG_yes (wanted_of rfl rfl (congrArg some dg) rfl) ?_
        clear dg
        have d14 : KEq (.agg #[.bool s12, .slice o12 n12 c12, .slice a12 m12 d12]) (vals 14) w1 := hd 14 (by kernel_rfl)
        have d15 : KEq (.agg #[.bool s13, .slice o13 n13 c13, .slice a13 m13 d13]) (vals 15) w1 := hd 15 (by kernel_rfl)
        have z14 : vals 14 = _ := d14
        have z15 : vals 15 = _ := d15
        have hs := addq_any _ (inK ((p_a, r_a)) k0) _ (inK ((p_b, r_b)) k1) w1 ((N11_3.out.below hb).is (by omega)) ((N11_7.out.below hb).is (by omega))
        have HS := Lib.hid hs; clear hs
        rw [z14]; clear z14
        rw [z15]; clear z15
        clear d14 d15 hd
        refine stepOK_call (by go_simp; first | done | exact ⟨⟨rfl, rfl⟩, rfl⟩) ?_
        (with_reducible refine HS.out.mono ?_); rintro e w2 ⟨v, rfl, hb2, hn⟩
        exact ⟨v, rfl, leaves_mk hb2 hn (fun h => by cases h)⟩
      · intro vals w1 hb hd
        have dg : KEq (.bool false) (vals 10) w1 := hd 10 (by kernel_rfl)
        refine stepG_yes (wanted_of rfl rfl (congrArg some dg) rfl) ?_
        clear dg
        have d13 : KSp (sAdd ((p_a, r_a)) ((p_b, r_b))) (vals 13) w1 := hd 13 (by kernel_rfl)
        have R13 : Hid (IsSp w1 (vals 13) (sAdd ((p_a, r_a)) ((p_b, r_b)))) := Lib.hid d13
        have d16 : KIs ((inK ((p_a, r_a)) k0) + (inK ((p_b, r_b)) k1)) (vals 16) w1 := hd 16 (by kernel_rfl)
        have R16 : Hid (IsR w1 (vals 16) ((inK ((p_a, r_a)) k0) + (inK ((p_b, r_b)) k1))) := Lib.hid d16
        have hs := contains_any _ (sAdd ((p_a, r_a)) ((p_b, r_b))) _ ((inK ((p_a, r_a)) k0) + (inK ((p_b, r_b)) k1)) w1 (R13.out.is (sAdd_ok HOa.out HOb.out) (by omega) (by omega)) (R16.out.is (by omega)) (by omega) (by omega) (by omega)
        rw [HI3.out] at hs
        have HS := Lib.hid hs; clear hs
        clear d13 d16 hd
        refine stepOK_call (by go_simp; first | done | exact ⟨⟨rfl, rfl⟩, rfl⟩) ?_
        (with_reducible refine HS.out.mono ?_); rintro e w2 ⟨rfl, hb2⟩
        exact ⟨_, rfl, leaves_mk hb2 rfl (fun h => by cases h)⟩
      · intro vals w1 hb hd
        have dg : KEq (.bool false) (vals 10) w1 := hd 10 (by kernel_rfl)
        refine stepG_yes (wanted_of rfl rfl (congrArg some dg) rfl) ?_
        clear dg
        have d17 : KEq (.bool true) (vals 17) w1 := hd 17 (by kernel_rfl)
        rw [show vals 17 = _ from d17]
        refine stepOK_value (v := (.bool false)) (w' := w1) (by go_simp) (leaves_mk (Below.refl _ _) rfl (fun h => by cases h))
      · intro vals w1 hb hd
        have d10 : KEq (.bool false) (vals 10) w1 := hd 10 (by kernel_rfl)
        have d18 : KEq (.bool false) (vals 18) w1 := hd 18 (by kernel_rfl)
        rw [show vals 10 = _ from d10]
        rw [show vals 18 = _ from d18]
        refine stepOK_value (v := (.bool false)) (w' := w1) (by go_simp) (leaves_mk (Below.refl _ _) rfl (fun h => by cases h))
      · intro vals w1 hb hd
        have d19 : KEq (.bool false) (vals 19) w1 := hd 19 (by kernel_rfl)
        rw [show vals 19 = _ from d19]
        refine stepOK_value (v := (.bool false)) (w' := w1) (by go_simp) (leaves_mk (Below.refl _ _) rfl (fun h => by cases h))
      · intro vals w1 hb hd
        have dg : KEq (.bool false) (vals 20) w1 := hd 20 (by kernel_rfl)
        refine stepG_yes (wanted_of rfl rfl (congrArg some dg) rfl) ?_
        clear dg
        obtain ⟨e0, e1, e2, e3, e4, e5⟩ := row6 (heap_below BX1.out hb)
        refine stepOK_value (v := .agg #[.bool qa, .slice oa na ka, .slice pa ma ra, .bool qax, .slice oax nax kax, .slice pax max rax]) (w' := w1) (by go_simp) (leaves_mk (Below.refl _ _) rfl (fun h => by cases h))
      · intro vals w1 hb hd
        have dg : KEq (.bool false) (vals 20) w1 := hd 20 (by kernel_rfl)
        refine stepG_yes (wanted_of rfl rfl (congrArg some dg) rfl) ?_
        clear dg
        obtain ⟨e0, e1, e2, e3, e4, e5⟩ := row6 (heap_below BX2.out hb)
        refine stepOK_value (v := .agg #[.bool qb, .slice ob nb kb, .slice pb mb rb, .bool qbx, .slice obx nbx kbx, .slice pbx mbx rbx]) (w' := w1) (by go_simp) (leaves_mk (Below.refl _ _) rfl (fun h => by cases h))
      · intro vals w1 hb hd
        have dg : KEq (.bool false) (vals 20) w1 := hd 20 (by kernel_rfl)
        refine stepG_yes (wanted_of rfl rfl (congrArg some dg) rfl) ?_
        clear dg
        have d21 : KEq (.agg #[.bool qa, .slice oa na ka, .slice pa ma ra, .bool qax, .slice oax nax kax, .slice pax max rax]) (vals 21) w1 := hd 21 (by kernel_rfl)
        have d22 : KEq (.agg #[.bool qb, .slice ob nb kb, .slice pb mb rb, .bool qbx, .slice obx nbx kbx, .slice pbx mbx rbx]) (vals 22) w1 := hd 22 (by kernel_rfl)
        have z21 : vals 21 = _ := d21
        have z22 : vals 22 = _ := d22
        have hs := ssub_any _ ((p_a, r_a)) _ ((p_b, r_b)) w1 ((Fa.out.below hb).is HOa.out (by omega) (by omega)) ((Fb.out.below hb).is HOb.out (by omega) (by omega)) (by omega) (by omega) (by omega) (by omega)
        have HS := Lib.hid hs; clear hs
        rw [z21]; clear z21
        rw [z22]; clear z22
        clear d21 d22 hd
        refine stepOK_call (by go_simp; first | done | exact ⟨⟨rfl, rfl⟩, rfl⟩) ?_
        (with_reducible refine HS.out.mono ?_); rintro e w2 ⟨v, rfl, hb2, hn⟩
        exact ⟨v, rfl, leaves_mk hb2 hn (fun h => by cases h)⟩
      · intro vals w1 hb hd
        have dg : KEq (.bool false) (vals 20) w1 := hd 20 (by kernel_rfl)
        refine stepG_yes (wanted_of rfl rfl (congrArg some dg) rfl) ?_
        clear dg
        obtain ⟨e0, e1, e2⟩ := row3 (heap_below BX11_8.out hb)
        refine stepOK_value (v := .agg #[.bool s12, .slice o12 n12 c12, .slice a12 m12 d12]) (w' := w1) (by go_simp) (leaves_mk (Below.refl _ _) rfl (fun h => by cases h))
      · intro vals w1 hb hd
        have dg : KEq (.bool false) (vals 20) w1 := hd 20 (by kernel_rfl)
        refine stepG_yes (wanted_of rfl rfl (congrArg some dg) rfl) ?_
        clear dg
        obtain ⟨e0, e1, e2⟩ := row3 (heap_below BX11_9.out hb)
        refine stepOK_value (v := .agg #[.bool s13, .slice o13 n13 c13, .slice a13 m13 d13]) (w' := w1) (by go_simp) (leaves_mk (Below.refl _ _) rfl (fun h => by cases h))
      · intro vals w1 hb hd
        have dg : KEq (.bool false) (vals 20) w1 := hd 20 (by kernel_rfl)
        refine stepG_yes (wanted_of rfl rfl (congrArg some dg) rfl) ?_
        clear dg
        have d24 : KEq (.agg #[.bool s12, .slice o12 n12 c12, .slice a12 m12 d12]) (vals 24) w1 := hd 24 (by kernel_rfl)
        have d25 : KEq (.agg #[.bool s13, .slice o13 n13 c13, .slice a13 m13 d13]) (vals 25) w1 := hd 25 (by kernel_rfl)
        have z24 : vals 24 = _ := d24
        have z25 : vals 25 = _ := d25
        have hs := subq_any _ (inK ((p_a, r_a)) k0) _ (inK ((p_b, r_b)) k1) w1 ((N11_3.out.below hb).is (by omega)) ((N11_7.out.below hb).is (by omega))
        have HS := Lib.hid hs; clear hs
        rw [z24]; clear z24
        rw [z25]; clear z25
        clear d24 d25 hd
        refine stepOK_call (by go_simp; first | done | exact ⟨⟨rfl, rfl⟩, rfl⟩) ?_
        (with_reducible refine HS.out.mono ?_); rintro e w2 ⟨v, rfl, hb2, hn⟩
        exact ⟨v, rfl, leaves_mk hb2 hn (fun h => by cases h)⟩
      · intro vals w1 hb hd
        have dg : KEq (.bool false) (vals 20) w1 := hd 20 (by kernel_rfl)
        refine stepG_yes (wanted_of rfl rfl (congrArg some dg) rfl) ?_
        clear dg
        have d23 : KSp (sSub ((p_a, r_a)) ((p_b, r_b))) (vals 23) w1 := hd 23 (by kernel_rfl)
        have R23 : Hid (IsSp w1 (vals 23) (sSub ((p_a, r_a)) ((p_b, r_b)))) := Lib.hid d23
        have d26 : KIs ((inK ((p_a, r_a)) k0) - (inK ((p_b, r_b)) k1)) (vals 26) w1 := hd 26 (by kernel_rfl)
        have R26 : Hid (IsR w1 (vals 26) ((inK ((p_a, r_a)) k0) - (inK ((p_b, r_b)) k1))) := Lib.hid d26
        have hs := contains_any _ (sSub ((p_a, r_a)) ((p_b, r_b))) _ ((inK ((p_a, r_a)) k0) - (inK ((p_b, r_b)) k1)) w1 (R23.out.is (sSub_ok HOa.out HOb.out) (by omega) (by omega)) (R26.out.is (by omega)) (by omega) (by omega) (by omega)
        rw [HI4.out] at hs
        have HS := Lib.hid hs; clear hs
        clear d23 d26 hd
        refine stepOK_call (by go_simp; first | done | exact ⟨⟨rfl, rfl⟩, rfl⟩) ?_
        (with_reducible refine HS.out.mono ?_); rintro e w2 ⟨rfl, hb2⟩
        exact ⟨_, rfl, leaves_mk hb2 rfl (fun h => by cases h)⟩
      · intro vals w1 hb hd
        have dg : KEq (.bool false) (vals 20) w1 := hd 20 (by kernel_rfl)
        refine stepG_yes (wanted_of rfl rfl (congrArg some dg) rfl) ?_
        clear dg
        have d27 : KEq (.bool true) (vals 27) w1 := hd 27 (by kernel_rfl)
        rw [show vals 27 = _ from d27]
        refine stepOK_value (v := (.bool false)) (w' := w1) (by go_simp) (leaves_mk (Below.refl _ _) rfl (fun h => by cases h))
      · intro vals w1 hb hd
        have d20 : KEq (.bool false) (vals 20) w1 := hd 20 (by kernel_rfl)
        have d28 : KEq (.bool false) (vals 28) w1 := hd 28 (by kernel_rfl)
        rw [show vals 20 = _ from d20]
        rw [show vals 28 = _ from d28]
        refine stepOK_value (v := (.bool false)) (w' := w1) (by go_simp) (leaves_mk (Below.refl _ _) rfl (fun h => by cases h))
      · intro vals w1 hb hd
        have d29 : KEq (.bool false) (vals 29) w1 := hd 29 (by kernel_rfl)
        rw [show vals 29 = _ from d29]
        refine stepOK_value (v := (.bool false)) (w' := w1) (by go_simp) (leaves_mk (Below.refl _ _) rfl (fun h => by cases h))
      · intro vals w1 hb hd
        have dg : KEq (.bool false) (vals 30) w1 := hd 30 (by kernel_rfl)
        refine stepG_yes (wanted_of rfl rfl (congrArg some dg) rfl) ?_
        clear dg
        obtain ⟨e0, e1, e2, e3, e4, e5⟩ := row6 (heap_below BX1.out hb)
        refine stepOK_value (v := .agg #[.bool qa, .slice oa na ka, .slice pa ma ra, .bool qax, .slice oax nax kax, .slice pax max rax]) (w' := w1) (by go_simp) (leaves_mk (Below.refl _ _) rfl (fun h => by cases h))
      · intro vals w1 hb hd
        have dg : KEq (.bool false) (vals 30) w1 := hd 30 (by kernel_rfl)
        refine stepG_yes (wanted_of rfl rfl (congrArg some dg) rfl) ?_
        clear dg
        obtain ⟨e0, e1, e2, e3, e4, e5⟩ := row6 (heap_below BX2.out hb)
        refine stepOK_value (v := .agg #[.bool qb, .slice ob nb kb, .slice pb mb rb, .bool qbx, .slice obx nbx kbx, .slice pbx mbx rbx]) (w' := w1) (by go_simp) (leaves_mk (Below.refl _ _) rfl (fun h => by cases h))
      · intro vals w1 hb hd
        have dg : KEq (.bool false) (vals 30) w1 := hd 30 (by kernel_rfl)
        refine stepG_yes (wanted_of rfl rfl (congrArg some dg) rfl) ?_
        clear dg
        have d31 : KEq (.agg #[.bool qa, .slice oa na ka, .slice pa ma ra, .bool qax, .slice oax nax kax, .slice pax max rax]) (vals 31) w1 := hd 31 (by kernel_rfl)
        have d32 : KEq (.agg #[.bool qb, .slice ob nb kb, .slice pb mb rb, .bool qbx, .slice obx nbx kbx, .slice pbx mbx rbx]) (vals 32) w1 := hd 32 (by kernel_rfl)
        have z31 : vals 31 = _ := d31
        have z32 : vals 32 = _ := d32
        have hs := smul_any _ ((p_a, r_a)) _ ((p_b, r_b)) w1 ((Fa.out.below hb).is HOa.out (by omega) (by omega)) ((Fb.out.below hb).is HOb.out (by omega) (by omega)) (by omega) (by omega) (by omega) (by omega)
        have HS := Lib.hid hs; clear hs
        rw [z31]; clear z31
        rw [z32]; clear z32
        clear d31 d32 hd
        refine stepOK_call (by go_simp; first | done | exact ⟨⟨rfl, rfl⟩, rfl⟩) ?_
        (with_reducible refine HS.out.mono ?_); rintro e w2 ⟨v, rfl, hb2, hn⟩
        exact ⟨v, rfl, leaves_mk hb2 hn (fun h => by cases h)⟩
      · intro vals w1 hb hd
        have dg : KEq (.bool false) (vals 30) w1 := hd 30 (by kernel_rfl)
        refine stepG_yes (wanted_of rfl rfl (congrArg some dg) rfl) ?_
        clear dg
        obtain ⟨e0, e1, e2⟩ := row3 (heap_below BX11_8.out hb)
        refine stepOK_value (v := .agg #[.bool s12, .slice o12 n12 c12, .slice a12 m12 d12]) (w' := w1) (by go_simp) (leaves_mk (Below.refl _ _) rfl (fun h => by cases h))
      · intro vals w1 hb hd
        have dg : KEq (.bool false) (vals 30) w1 := hd 30 (by kernel_rfl)
        refine stepG_yes (wanted_of rfl rfl (congrArg some dg) rfl) ?_
        clear dg
        obtain ⟨e0, e1, e2⟩ := row3 (heap_below BX11_9.out hb)
        refine stepOK_value (v := .agg #[.bool s13, .slice o13 n13 c13, .slice a13 m13 d13]) (w' := w1) (by go_simp) (leaves_mk (Below.refl _ _) rfl (fun h => by cases h))
      · intro vals w1 hb hd
        have dg : KEq (.bool false) (vals 30) w1 := hd 30 (by kernel_rfl)
        refine stepG_yes (wanted_of rfl rfl (congrArg some dg) rfl) ?_
        clear dg
        have d34 : KEq (.agg #[.bool s12, .slice o12 n12 c12, .slice a12 m12 d12]) (vals 34) w1 := hd 34 (by kernel_rfl)
        have d35 : KEq (.agg #[.bool s13, .slice o13 n13 c13, .slice a13 m13 d13]) (vals 35) w1 := hd 35 (by kernel_rfl)
        have z34 : vals 34 = _ := d34
        have z35 : vals 35 = _ := d35
        have hs := mulq_any _ (inK ((p_a, r_a)) k0) _ (inK ((p_b, r_b)) k1) w1 ((N11_3.out.below hb).is (by omega)) ((N11_7.out.below hb).is (by omega))
        have HS := Lib.hid hs; clear hs
        rw [z34]; clear z34
        rw [z35]; clear z35
        clear d34 d35 hd
        refine stepOK_call (by go_simp; first | done | exact ⟨⟨rfl, rfl⟩, rfl⟩) ?_
        (with_reducible refine HS.out.mono ?_); rintro e w2 ⟨v, rfl, hb2, hn⟩
        exact ⟨v, rfl, leaves_mk hb2 hn (fun h => by cases h)⟩
      · intro vals w1 hb hd
        have dg : KEq (.bool false) (vals 30) w1 := hd 30 (by kernel_rfl)
        refine stepG_yes (wanted_of rfl rfl (congrArg some dg) rfl) ?_
        clear dg
        have d33 : KSp (sMul ((p_a, r_a)) ((p_b, r_b))) (vals 33) w1 := hd 33 (by kernel_rfl)
        have R33 : Hid (IsSp w1 (vals 33) (sMul ((p_a, r_a)) ((p_b, r_b)))) := Lib.hid d33
        have d36 : KIs ((inK ((p_a, r_a)) k0) * (inK ((p_b, r_b)) k1)) (vals 36) w1 := hd 36 (by kernel_rfl)
        have R36 : Hid (IsR w1 (vals 36) ((inK ((p_a, r_a)) k0) * (inK ((p_b, r_b)) k1))) := Lib.hid d36
        have hs := contains_any _ (sMul ((p_a, r_a)) ((p_b, r_b))) _ ((inK ((p_a, r_a)) k0) * (inK ((p_b, r_b)) k1)) w1 (R33.out.is (around4_ok _ _ _ _) (by omega) (by omega)) (R36.out.is (by omega)) (by omega) (by omega) (by omega)
        rw [HI5.out] at hs
        have HS := Lib.hid hs; clear hs
        clear d33 d36 hd
        refine stepOK_call (by go_simp; first | done | exact ⟨⟨rfl, rfl⟩, rfl⟩) ?_
        (with_reducible refine HS.out.mono ?_); rintro e w2 ⟨rfl, hb2⟩
        exact ⟨_, rfl, leaves_mk hb2 rfl (fun h => by cases h)⟩
      · intro vals w1 hb hd
        have dg : KEq (.bool false) (vals 30) w1 := hd 30 (by kernel_rfl)
        refine stepG_yes (wanted_of rfl rfl (congrArg some dg) rfl) ?_
        clear dg
        have d37 : KEq (.bool true) (vals 37) w1 := hd 37 (by kernel_rfl)
        rw [show vals 37 = _ from d37]
        refine stepOK_value (v := (.bool false)) (w' := w1) (by go_simp) (leaves_mk (Below.refl _ _) rfl (fun h => by cases h))
      · intro vals w1 hb hd
        have d30 : KEq (.bool false) (vals 30) w1 := hd 30 (by kernel_rfl)
        have d38 : KEq (.bool false) (vals 38) w1 := hd 38 (by kernel_rfl)
        rw [show vals 30 = _ from d30]
        rw [show vals 38 = _ from d38]
        refine stepOK_value (v := (.bool false)) (w' := w1) (by go_simp) (leaves_mk (Below.refl _ _) rfl (fun h => by cases h))
      · intro vals w1 hb hd
        have d39 : KEq (.bool false) (vals 39) w1 := hd 39 (by kernel_rfl)
        rw [show vals 39 = _ from d39]
        refine stepOK_value (v := (.bool false)) (w' := w1) (by go_simp) (leaves_mk (Below.refl _ _) rfl (fun h => by cases h))
      · intro vals w1 hb hd
        have dg : KEq (.bool false) (vals 40) w1 := hd 40 (by kernel_rfl)
        refine stepG_yes (wanted_of rfl rfl (congrArg some dg) rfl) ?_
        clear dg
        obtain ⟨e0, e1, e2, e3, e4, e5⟩ := row6 (heap_below BX1.out hb)
        refine stepOK_value (v := .agg #[.bool qa, .slice oa na ka, .slice pa ma ra, .bool qax, .slice oax nax kax, .slice pax max rax]) (w' := w1) (by go_simp) (leaves_mk (Below.refl _ _) rfl (fun h => by cases h))
      · intro vals w1 hb hd
        have dg : KEq (.bool false) (vals 40) w1 := hd 40 (by kernel_rfl)
        refine stepG_yes (wanted_of rfl rfl (congrArg some dg) rfl) ?_
        clear dg
        have d41 : KEq (.agg #[.bool qa, .slice oa na ka, .slice pa ma ra, .bool qax, .slice oax nax kax, .slice pax max rax]) (vals 41) w1 := hd 41 (by kernel_rfl)
        have z41 : vals 41 = _ := d41
        have hs := snot_any _ ((p_a, r_a)) w1 ((Fa.out.below hb).is HOa.out (by omega) (by omega)) (by omega) (by omega)
        have HS := Lib.hid hs; clear hs
        rw [z41]; clear z41
        clear d41 hd
        refine stepOK_call (by go_simp; first | done | exact ⟨⟨rfl, rfl⟩, rfl⟩) ?_
        (with_reducible refine HS.out.mono ?_); rintro e w2 ⟨v, rfl, hb2, hn⟩
        exact ⟨v, rfl, leaves_mk hb2 hn (fun h => by cases h)⟩
      · intro vals w1 hb hd
        have dg : KEq (.bool false) (vals 40) w1 := hd 40 (by kernel_rfl)
        refine stepG_yes (wanted_of rfl rfl (congrArg some dg) rfl) ?_
        clear dg
        have hs := ofq_any 1 w1 (by decide) (by decide)
        have HS := Lib.hid hs; clear hs
        clear hd
        refine stepOK_call (by go_simp; first | done | exact ⟨⟨rfl, rfl⟩, rfl⟩) ?_
        (with_reducible refine HS.out.mono ?_); rintro e w2 ⟨v, rfl, hb2, hn⟩
        exact ⟨v, rfl, leaves_mk hb2 hn (fun h => by cases h)⟩
      · intro vals w1 hb hd
        have dg : KEq (.bool false) (vals 40) w1 := hd 40 (by kernel_rfl)
        refine stepG_yes (wanted_of rfl rfl (congrArg some dg) rfl) ?_
        clear dg
        obtain ⟨e0, e1, e2⟩ := row3 (heap_below BX11_8.out hb)
        refine stepOK_value (v := .agg #[.bool s12, .slice o12 n12 c12, .slice a12 m12 d12]) (w' := w1) (by go_simp) (leaves_mk (Below.refl _ _) rfl (fun h => by cases h))
    case tl35 =>
      intro vals w12 hb12 hf hdis
      simp only [List.drop_succ_cons, List.drop_zero]
      have z40 : vals 40 = _ := hf 40 (by decide)
      try rw [z40]
      clear z40
      obtain ⟨u35_42, hu42⟩ : ∃ u, u = vals 42 := ⟨_, rfl⟩
      have hn35_42 : IsSp w12 (vals 42) (sNot ((p_a, r_a))) := hf 42 (by decide)
      rw [← hu42] at hn35_42 ⊢; clear hu42
      obtain ⟨u35_43, hu43⟩ : ∃ u, u = vals 43 := ⟨_, rfl⟩
      have hn35_43 : IsR w12 (vals 43) (((1 : Int) : Rat)) := hf 43 (by decide)
      rw [← hu43] at hn35_43 ⊢; clear hu43
      have z44 : vals 44 = _ := hf 44 (by decide)
      try rw [z44]
      clear z44
      clear hf hdis
      have HB12 := Lib.hid (HB11.out.step hb12)
      have Fa := Lib.hid (Fa.out.below hb12)
      have Fal := Lib.hid (Fal.out.below hb12)
      have Fah := Lib.hid (Fah.out.below hb12)
      have FaV := Lib.hid (FaV.out.below hb12)
      have Fb := Lib.hid (Fb.out.below hb12)
      have Fbl := Lib.hid (Fbl.out.below hb12)
      have Fbh := Lib.hid (Fbh.out.below hb12)
      have FbV := Lib.hid (FbV.out.below hb12)
      have N11_3 := Lib.hid (N11_3.out.below hb12)
      have N11_7 := Lib.hid (N11_7.out.below hb12)
      have BX1 := Lib.hid (heap_below BX1.out hb12)
      have BX2 := Lib.hid (heap_below BX2.out hb12)
      have BX3 := Lib.hid (heap_below BX3.out hb12)
      have BX11_8 := Lib.hid (heap_below BX11_8.out hb12)
      have BX11_9 := Lib.hid (heap_below BX11_9.out hb12)
      clear hb12
      have N35_42 := Lib.hid hn35_42; clear hn35_42
      obtain ⟨s36, o36, n36, c36, a36, m36, d36, s36x, o36x, n36x, c36x, a36x, m36x, d36x, rfl⟩ := N35_42.out.shape
      have N35_42l := Lib.hid (isSp_ends N35_42.out).1; have N35_42h := Lib.hid (isSp_ends N35_42.out).2
      have N35_43 := Lib.hid hn35_43; clear hn35_43
      obtain ⟨s37, o37, n37, c37, a37, m37, d37, rfl⟩ := N35_43.out.shape
      skip
      have k38 := rl_sub (((1 : Int) : Rat)) (inK ((p_a, r_a)) k0)
      have hs := subq_any _ (((1 : Int) : Rat)) _ (inK ((p_a, r_a)) k0) w12 (N35_43.out.is (by omega)) (N11_3.out.is (by omega))
      have HS := Lib.hid hs; clear hs
      go_wp2_with (with_reducible first | refine pauseCall ?_ | refine pauseLoop ?_ | refine pauseDraw ?_ | refine pauseBody ?_ | refine pauseRounds ?_)
      refine Pause.mk ?_
      (with_reducible refine HS.out.mono ?_); rintro e w13 ⟨v13, rfl, hb13, hn13⟩
      clear HS
      have HB13 := Lib.hid (HB12.out.step hb13)
      have Fa := Lib.hid (Fa.out.below hb13)
      have Fal := Lib.hid (Fal.out.below hb13)
      have Fah := Lib.hid (Fah.out.below hb13)
      have FaV := Lib.hid (FaV.out.below hb13)
      have Fb := Lib.hid (Fb.out.below hb13)
      have Fbl := Lib.hid (Fbl.out.below hb13)
      have Fbh := Lib.hid (Fbh.out.below hb13)
      have FbV := Lib.hid (FbV.out.below hb13)
      have N11_3 := Lib.hid (N11_3.out.below hb13)
      have N11_7 := Lib.hid (N11_7.out.below hb13)
      have N35_42 := Lib.hid (N35_42.out.below hb13)
      have N35_42l := Lib.hid (N35_42l.out.below hb13)
      have N35_42h := Lib.hid (N35_42h.out.below hb13)
      have N35_43 := Lib.hid (N35_43.out.below hb13)
      have BX1 := Lib.hid (heap_below BX1.out hb13)
      have BX2 := Lib.hid (heap_below BX2.out hb13)
      have BX3 := Lib.hid (heap_below BX3.out hb13)
      have BX11_8 := Lib.hid (heap_below BX11_8.out hb13)
      have BX11_9 := Lib.hid (heap_below BX11_9.out hb13)
      have N13 := Lib.hid hn13; clear hn13
      obtain ⟨s39, o39, n39, c39, a39, m39, d39, rfl⟩ := N13.out.shape
      clear hb13
      have hs := contains_any _ (sNot ((p_a, r_a))) _ ((((1 : Int) : Rat)) - (inK ((p_a, r_a)) k0)) w13 (N35_42.out.is (sNot_ok HOa.out) (by omega) (by omega)) (N13.out.is (by omega)) (by omega) (by omega) (by omega)
      rw [HI6.out] at hs
      have HS := Lib.hid hs; clear hs
      go_wp2_with (with_reducible first | refine pauseCall ?_ | refine pauseLoop ?_ | refine pauseDraw ?_ | refine pauseBody ?_ | refine pauseRounds ?_)
      refine Pause.mk ?_
      (with_reducible refine HS.out.mono ?_); rintro e w14 ⟨rfl, hb14⟩
      clear HS
      have HB14 := Lib.hid (HB13.out.step hb14)
      have Fa := Lib.hid (Fa.out.below hb14)
      have Fal := Lib.hid (Fal.out.below hb14)
      have Fah := Lib.hid (Fah.out.below hb14)
      have FaV := Lib.hid (FaV.out.below hb14)
      have Fb := Lib.hid (Fb.out.below hb14)
      have Fbl := Lib.hid (Fbl.out.below hb14)
      have Fbh := Lib.hid (Fbh.out.below hb14)
      have FbV := Lib.hid (FbV.out.below hb14)
      have N11_3 := Lib.hid (N11_3.out.below hb14)
      have N11_7 := Lib.hid (N11_7.out.below hb14)
      have N35_42 := Lib.hid (N35_42.out.below hb14)
      have N35_42l := Lib.hid (N35_42l.out.below hb14)
      have N35_42h := Lib.hid (N35_42h.out.below hb14)
      have N35_43 := Lib.hid (N35_43.out.below hb14)
      have N13 := Lib.hid (N13.out.below hb14)
      have BX1 := Lib.hid (heap_below BX1.out hb14)
      have BX2 := Lib.hid (heap_below BX2.out hb14)
      have BX3 := Lib.hid (heap_below BX3.out hb14)
      have BX11_8 := Lib.hid (heap_below BX11_8.out hb14)
      have BX11_9 := Lib.hid (heap_below BX11_9.out hb14)
      clear hb14
      obtain ⟨x40_0, x40_1, x40_2, x40_3, x40_4, x40_5⟩ := row6 BX1.out
      obtain ⟨x41_0, x41_1, x41_2, x41_3, x41_4, x41_5⟩ := row6 BX2.out
      obtain ⟨kp44, kp44x⟩ : rl (((p_a), (r_a)) : Rat × Rat).1 ≤ rl (p_a) ∧ rl (((p_a), (r_a)) : Rat × Rat).2 ≤ rl (r_a) := ⟨Nat.le_refl _, Nat.le_refl _⟩
      obtain ⟨kp45, kp45x⟩ : rl (((p_b), (r_b)) : Rat × Rat).1 ≤ rl (p_b) ∧ rl (((p_b), (r_b)) : Rat × Rat).2 ≤ rl (r_b) := ⟨Nat.le_refl _, Nat.le_refl _⟩
      obtain ⟨k42, k43⟩ := rl_sdV ((p_a, r_a)) ((p_b, r_b))
      have hs := sdiv_any _ ((p_a, r_a)) _ ((p_b, r_b)) w14 (Fa.out.is HOa.out (by omega) (by omega)) (Fb.out.is HOb.out (by omega) (by omega)) (by omega) (by omega) (by omega) (by omega)
      rw [HS.out, errV_8] at hs
      have HS := Lib.hid hs; clear hs
      go_wp2_with (with_reducible first | refine pauseCall ?_ | refine pauseLoop ?_ | refine pauseDraw ?_ | refine pauseBody ?_ | refine pauseRounds ?_)
      clear x40_0 x40_1 x40_2 x40_3 x40_4 x40_5 x41_0 x41_1 x41_2 x41_3 x41_4 x41_5
      refine Pause.mk ?_
      (with_reducible refine HS.out.mono ?_); rintro e w15 ⟨v15, rfl, hb15, hn15⟩
      clear HS
      have HB15 := Lib.hid (HB14.out.step hb15)
      have Fa := Lib.hid (Fa.out.below hb15)
      have Fal := Lib.hid (Fal.out.below hb15)
      have Fah := Lib.hid (Fah.out.below hb15)
      have FaV := Lib.hid (FaV.out.below hb15)
      have Fb := Lib.hid (Fb.out.below hb15)
      have Fbl := Lib.hid (Fbl.out.below hb15)
      have Fbh := Lib.hid (Fbh.out.below hb15)
      have FbV := Lib.hid (FbV.out.below hb15)
      have N11_3 := Lib.hid (N11_3.out.below hb15)
      have N11_7 := Lib.hid (N11_7.out.below hb15)
      have N35_42 := Lib.hid (N35_42.out.below hb15)
      have N35_42l := Lib.hid (N35_42l.out.below hb15)
      have N35_42h := Lib.hid (N35_42h.out.below hb15)
      have N35_43 := Lib.hid (N35_43.out.below hb15)
      have N13 := Lib.hid (N13.out.below hb15)
      have BX1 := Lib.hid (heap_below BX1.out hb15)
      have BX2 := Lib.hid (heap_below BX2.out hb15)
      have BX3 := Lib.hid (heap_below BX3.out hb15)
      have BX11_8 := Lib.hid (heap_below BX11_8.out hb15)
      have BX11_9 := Lib.hid (heap_below BX11_9.out hb15)
      have N15 := Lib.hid hn15; clear hn15
      obtain ⟨s46, o46, n46, c46, a46, m46, d46, s46x, o46x, n46x, c46x, a46x, m46x, d46x, rfl⟩ := N15.out.shape
      have N15l := Lib.hid (isSp_ends N15.out).1; have N15h := Lib.hid (isSp_ends N15.out).2
      clear hb15
      obtain ⟨w16, hw16⟩ : ∃ w16, w16 = w15.alloc (.cells #[.bool s46, .slice o46 n46 c46, .slice a46 m46 d46, .bool s46x, .slice o46x n46x c46x, .slice a46x m46x d46x] 26) := ⟨_, rfl⟩
      have hb16 : Below w15.heap.size w15 w16 := by rw [hw16]; exact (Below.refl _ _).alloc (Nat.le_refl _) _
      have hx16 := heap_alloc_new w15 (.cells #[.bool s46, .slice o46 n46 c46, .slice a46 m46 d46, .bool s46x, .slice o46x n46x c46x, .slice a46x m46x d46x] 26)
      obtain ⟨g16, hg16⟩ : ∃ g, g = w15.heap.size := ⟨_, rfl⟩
      rw [← hw16, ← hg16] at hx16
      have lw16 : w.heap.size ≤ g16 := by rw [hg16]; exact HB15.out.size
      have ltBX116 : g1 < g16 := by rw [hg16]; exact below_lt BX1.out
      have ltBX216 : g2 < g16 := by rw [hg16]; exact below_lt BX2.out
      have ltBX316 : g3 < g16 := by rw [hg16]; exact below_lt BX3.out
      have ltBX11_816 : g11_8 < g16 := by rw [hg16]; exact below_lt BX11_8.out
      have ltBX11_916 : g11_9 < g16 := by rw [hg16]; exact below_lt BX11_9.out
      have HW16 := Lib.hid hw16; have HG16 := Lib.hid hg16; clear hw16 hg16
      have HB16 := Lib.hid (HB15.out.step hb16)
      have Fa := Lib.hid (Fa.out.below hb16)
      have Fal := Lib.hid (Fal.out.below hb16)
      have Fah := Lib.hid (Fah.out.below hb16)
      have FaV := Lib.hid (FaV.out.below hb16)
      have Fb := Lib.hid (Fb.out.below hb16)
      have Fbl := Lib.hid (Fbl.out.below hb16)
      have Fbh := Lib.hid (Fbh.out.below hb16)
      have FbV := Lib.hid (FbV.out.below hb16)
      have N11_3 := Lib.hid (N11_3.out.below hb16)
      have N11_7 := Lib.hid (N11_7.out.below hb16)
      have N35_42 := Lib.hid (N35_42.out.below hb16)
      have N35_42l := Lib.hid (N35_42l.out.below hb16)
      have N35_42h := Lib.hid (N35_42h.out.below hb16)
      have N35_43 := Lib.hid (N35_43.out.below hb16)
      have N13 := Lib.hid (N13.out.below hb16)
      have N15 := Lib.hid (N15.out.below hb16)
      have N15l := Lib.hid (N15l.out.below hb16)
      have N15h := Lib.hid (N15h.out.below hb16)
      have BX1 := Lib.hid (heap_below BX1.out hb16)
      have BX2 := Lib.hid (heap_below BX2.out hb16)
      have BX3 := Lib.hid (heap_below BX3.out hb16)
      have BX11_8 := Lib.hid (heap_below BX11_8.out hb16)
      have BX11_9 := Lib.hid (heap_below BX11_9.out hb16)
      have BX16 := Lib.hid hx16; clear hb16 hx16
      obtain ⟨x47_0, x47_1, x47_2⟩ := row3 BX11_8.out
      obtain ⟨x48_0, x48_1, x48_2⟩ := row3 BX11_9.out
      have k49 := rl_div' (inK ((p_a, r_a)) k0) (inK ((p_b, r_b)) k1)
      have hs := divq_any _ (inK ((p_a, r_a)) k0) _ (inK ((p_b, r_b)) k1) w16 (N11_3.out.is (by omega)) (N11_7.out.is (by omega))
      rw [HD.out, errV_8] at hs
      have HS := Lib.hid hs; clear hs
      try rw [HW16.out] at x47_0
      try rw [HG16.out] at x47_0
      try rw [HW16.out] at x47_1
      try rw [HG16.out] at x47_1
      try rw [HW16.out] at x47_2
      try rw [HG16.out] at x47_2
      try rw [HW16.out] at x48_0
      try rw [HG16.out] at x48_0
      try rw [HW16.out] at x48_1
      try rw [HG16.out] at x48_1
      try rw [HW16.out] at x48_2
      try rw [HG16.out] at x48_2
      go_wp2_with (with_reducible first | refine pauseCall ?_ | refine pauseLoop ?_ | refine pauseDraw ?_ | refine pauseBody ?_ | refine pauseRounds ?_)
      try rw [← HW16.out]
      try rw [← HG16.out]
      clear x47_0 x47_1 x47_2 x48_0 x48_1 x48_2
      refine Pause.mk ?_
      (with_reducible refine HS.out.mono ?_); rintro e w17 ⟨v17, rfl, hb17, hn17⟩
      clear HS
      have HB17 := Lib.hid (HB16.out.step hb17)
      have Fa := Lib.hid (Fa.out.below hb17)
      have Fal := Lib.hid (Fal.out.below hb17)
      have Fah := Lib.hid (Fah.out.below hb17)
      have FaV := Lib.hid (FaV.out.below hb17)
      have Fb := Lib.hid (Fb.out.below hb17)
      have Fbl := Lib.hid (Fbl.out.below hb17)
      have Fbh := Lib.hid (Fbh.out.below hb17)
      have FbV := Lib.hid (FbV.out.below hb17)
      have N11_3 := Lib.hid (N11_3.out.below hb17)
      have N11_7 := Lib.hid (N11_7.out.below hb17)
      have N35_42 := Lib.hid (N35_42.out.below hb17)
      have N35_42l := Lib.hid (N35_42l.out.below hb17)
      have N35_42h := Lib.hid (N35_42h.out.below hb17)
      have N35_43 := Lib.hid (N35_43.out.below hb17)
      have N13 := Lib.hid (N13.out.below hb17)
      have N15 := Lib.hid (N15.out.below hb17)
      have N15l := Lib.hid (N15l.out.below hb17)
      have N15h := Lib.hid (N15h.out.below hb17)
      have BX1 := Lib.hid (heap_below BX1.out hb17)
      have BX2 := Lib.hid (heap_below BX2.out hb17)
      have BX3 := Lib.hid (heap_below BX3.out hb17)
      have BX11_8 := Lib.hid (heap_below BX11_8.out hb17)
      have BX11_9 := Lib.hid (heap_below BX11_9.out hb17)
      have BX16 := Lib.hid (heap_below BX16.out hb17)
      have N17 := Lib.hid hn17; clear hn17
      obtain ⟨s50, o50, n50, c50, a50, m50, d50, rfl⟩ := N17.out.shape
      clear hb17
      obtain ⟨w18, hw18⟩ : ∃ w18, w18 = w17.alloc (.cells #[.bool s50, .slice o50 n50 c50, .slice a50 m50 d50] 24) := ⟨_, rfl⟩
      have hb18 : Below w17.heap.size w17 w18 := by rw [hw18]; exact (Below.refl _ _).alloc (Nat.le_refl _) _
      have hx18 := heap_alloc_new w17 (.cells #[.bool s50, .slice o50 n50 c50, .slice a50 m50 d50] 24)
      obtain ⟨g18, hg18⟩ : ∃ g, g = w17.heap.size := ⟨_, rfl⟩
      rw [← hw18, ← hg18] at hx18
      have lw18 : w.heap.size ≤ g18 := by rw [hg18]; exact HB17.out.size
      have ltBX118 : g1 < g18 := by rw [hg18]; exact below_lt BX1.out
      have ltBX218 : g2 < g18 := by rw [hg18]; exact below_lt BX2.out
      have ltBX318 : g3 < g18 := by rw [hg18]; exact below_lt BX3.out
      have ltBX11_818 : g11_8 < g18 := by rw [hg18]; exact below_lt BX11_8.out
      have ltBX11_918 : g11_9 < g18 := by rw [hg18]; exact below_lt BX11_9.out
      have ltBX1618 : g16 < g18 := by rw [hg18]; exact below_lt BX16.out
      have HW18 := Lib.hid hw18; have HG18 := Lib.hid hg18; clear hw18 hg18
      have HB18 := Lib.hid (HB17.out.step hb18)
      have Fa := Lib.hid (Fa.out.below hb18)
      have Fal := Lib.hid (Fal.out.below hb18)
      have Fah := Lib.hid (Fah.out.below hb18)
      have FaV := Lib.hid (FaV.out.below hb18)
      have Fb := Lib.hid (Fb.out.below hb18)
      have Fbl := Lib.hid (Fbl.out.below hb18)
      have Fbh := Lib.hid (Fbh.out.below hb18)
      have FbV := Lib.hid (FbV.out.below hb18)
      have N11_3 := Lib.hid (N11_3.out.below hb18)
      have N11_7 := Lib.hid (N11_7.out.below hb18)
      have N35_42 := Lib.hid (N35_42.out.below hb18)
      have N35_42l := Lib.hid (N35_42l.out.below hb18)
      have N35_42h := Lib.hid (N35_42h.out.below hb18)
      have N35_43 := Lib.hid (N35_43.out.below hb18)
      have N13 := Lib.hid (N13.out.below hb18)
      have N15 := Lib.hid (N15.out.below hb18)
      have N15l := Lib.hid (N15l.out.below hb18)
      have N15h := Lib.hid (N15h.out.below hb18)
      have N17 := Lib.hid (N17.out.below hb18)
      have BX1 := Lib.hid (heap_below BX1.out hb18)
      have BX2 := Lib.hid (heap_below BX2.out hb18)
      have BX3 := Lib.hid (heap_below BX3.out hb18)
      have BX11_8 := Lib.hid (heap_below BX11_8.out hb18)
      have BX11_9 := Lib.hid (heap_below BX11_9.out hb18)
      have BX16 := Lib.hid (heap_below BX16.out hb18)
      have BX18 := Lib.hid hx18; clear hb18 hx18
      have hs := is_any 8 8 8 w18 rfl (by decide)
      rw [show decide ((8 : Nat) = 8) = true from by decide, errV_8] at hs
      have HS := Lib.hid hs; clear hs
      go_wp2_with (with_reducible first | refine pauseCall ?_ | refine pauseLoop ?_ | refine pauseDraw ?_ | refine pauseBody ?_ | refine pauseRounds ?_)
      try rw [← HW18.out]
      try rw [← HG18.out]
      refine Pause.mk ?_
      (with_reducible refine HS.out.mono ?_); rintro e wx ⟨rfl, rfl⟩
      clear HS
      obtain ⟨x51_0, x51_1, x51_2, x51_3, x51_4, x51_5⟩ := row6 BX2.out
      obtain ⟨kp52, kp52x⟩ : rl (((p_b), (r_b)) : Rat × Rat).1 ≤ rl (p_b) ∧ rl (((p_b), (r_b)) : Rat × Rat).2 ≤ rl (r_b) := ⟨Nat.le_refl _, Nat.le_refl _⟩
      have hs := contains_any _ ((p_b, r_b)) _ (0) w18 (Fb.out.is HOb.out (by omega) (by omega)) ((isR_zero _).is (by rw [rl_zero]; decide)) (by omega) (by omega) (by omega)
      rw [HI7.out] at hs
      have HS := Lib.hid hs; clear hs
      go_wp2_with (with_reducible first | refine pauseCall ?_ | refine pauseLoop ?_ | refine pauseDraw ?_ | refine pauseBody ?_ | refine pauseRounds ?_)
      clear x51_0 x51_1 x51_2 x51_3 x51_4 x51_5
      refine Pause.mk ?_
      (with_reducible refine HS.out.mono ?_); rintro e w20 ⟨rfl, hb20⟩
      clear HS
      have HB20 := Lib.hid (HB18.out.step hb20)
      have Fa := Lib.hid (Fa.out.below hb20)
      have Fal := Lib.hid (Fal.out.below hb20)
      have Fah := Lib.hid (Fah.out.below hb20)
      have FaV := Lib.hid (FaV.out.below hb20)
      have Fb := Lib.hid (Fb.out.below hb20)
      have Fbl := Lib.hid (Fbl.out.below hb20)
      have Fbh := Lib.hid (Fbh.out.below hb20)
      have FbV := Lib.hid (FbV.out.below hb20)
      have N11_3 := Lib.hid (N11_3.out.below hb20)
      have N11_7 := Lib.hid (N11_7.out.below hb20)
      have N35_42 := Lib.hid (N35_42.out.below hb20)
      have N35_42l := Lib.hid (N35_42l.out.below hb20)
      have N35_42h := Lib.hid (N35_42h.out.below hb20)
      have N35_43 := Lib.hid (N35_43.out.below hb20)
      have N13 := Lib.hid (N13.out.below hb20)
      have N15 := Lib.hid (N15.out.below hb20)
      have N15l := Lib.hid (N15l.out.below hb20)
      have N15h := Lib.hid (N15h.out.below hb20)
      have N17 := Lib.hid (N17.out.below hb20)
      have BX1 := Lib.hid (heap_below BX1.out hb20)
      have BX2 := Lib.hid (heap_below BX2.out hb20)
      have BX3 := Lib.hid (heap_below BX3.out hb20)
      have BX11_8 := Lib.hid (heap_below BX11_8.out hb20)
      have BX11_9 := Lib.hid (heap_below BX11_9.out hb20)
      have BX16 := Lib.hid (heap_below BX16.out hb20)
      have BX18 := Lib.hid (heap_below BX18.out hb20)
      clear hb20
      go_wp2_with (with_reducible first | refine pauseCall ?_ | refine pauseLoop ?_ | refine pauseDraw ?_ | refine pauseBody ?_ | refine pauseRounds ?_)
      refine Pause.mk ?_
      go_ret
      exact ⟨by first | rfl | (simp; done), HB20.out⟩
set_option maxRecDepth 100000 in
set_option maxHeartbeats 12800000 in
theorem spancontains_ok2 (va : Value) (sa : Bool) (aa ba : List Nat) (ta : Bool) (ca da : List Nat) (vb : Value) (sb : Bool) (ab bb : List Nat) (tb : Bool) (cb db : List Nat) (k0 : Nat) (k1 : Nat) (w : World) (ha : SpV w va sa aa ba ta ca da) (la1 : aa.length ≤ 6) (la2 : ba.length ≤ 6) (la3 : ca.length ≤ 6) (la4 : da.length ≤ 6) (hva : Vld sa aa ba ∧ Vld ta ca da ∧ rq sa aa ba ≤ rq ta ca da) (hb : SpV w vb sb ab bb tb cb db) (lb1 : ab.length ≤ 6) (lb2 : bb.length ≤ 6) (lb3 : cb.length ≤ 6) (lb4 : db.length ≤ 6) (hvb : Vld sb ab bb ∧ Vld tb cb db ∧ rq sb ab bb ≤ rq tb cb db) (hk0 : k0 < 256) (hk1 : k1 < 256) (hz : inS (rq sb ab bb, rq tb cb db) 0) (hy0 : ¬ inK (rq sb ab bb, rq tb cb db) k1 = 0) :
    Calls Tryd.prog 5 #[va, vb, .agg #[.int .u8 (k0 : Nat), .int .u8 (k1 : Nat)]] w (RetV w (.bool true)) := by
  have HBW := Lib.hid (Below.refl w.heap.size w)
  have kz0 : rl 0 ≤ 1 := by rw [rl_zero]; exact Nat.le_refl _
  have za := ha.sz.2
  obtain ⟨qa, oa, na, ka, pa, ma, ra, qax, oax, nax, kax, pax, max, rax, rfl⟩ := ha.shape
  have Za : na ≤ 6 ∧ ma ≤ 6 ∧ nax ≤ 6 ∧ max ≤ 6 := by have e1 : na = _ := congrArg (·.1) za; have e2 : ma = _ := congrArg (·.2.1) za; have e3 : nax = _ := congrArg (·.2.2.1) za; have e4 : max = _ := congrArg (·.2.2.2) za; rw [e1, e2, e3, e4]; exact ⟨la1, la2, la3, la4⟩
  clear za
  have hla1 : rl (rq sa aa ba) ≤ 6 := rl_rq ha.lt.1.1 ha.lt.1.2 la1 la2 (by decide); have hla2 : rl (rq ta ca da) ≤ 6 := rl_rq ha.lt.2.1 ha.lt.2.2 la3 la4 (by decide)
  have FaI := spV_isSp ha hva.1 hva.2.1
  have hoa := hva.2.2
  have HVa := Lib.hid (decide_eq_true hva); clear hva
  have FaV := Lib.hid ha; clear ha
  obtain ⟨p_a, hpa⟩ : ∃ p, p = rq sa aa ba := ⟨_, rfl⟩; obtain ⟨r_a, hra⟩ : ∃ r, r = rq ta ca da := ⟨_, rfl⟩
  rw [← hpa, ← hra] at FaI; rw [← hpa] at hla1 hoa; rw [← hra] at hla2 hoa
  try rw [← hpa] at hz
  try rw [← hra] at hz
  try rw [← hpa] at hy0
  try rw [← hra] at hy0
  clear hpa hra
  have HOa := Lib.hid hoa; clear hoa
  have Fal := Lib.hid (show IsR _ _ p_a from (isSp_ends FaI).1); have Fah := Lib.hid (show IsR _ _ r_a from (isSp_ends FaI).2); have Fa := Lib.hid FaI; clear FaI
  have zb := hb.sz.2
  obtain ⟨qb, ob, nb, kb, pb, mb, rb, qbx, obx, nbx, kbx, pbx, mbx, rbx, rfl⟩ := hb.shape
  have Zb : nb ≤ 6 ∧ mb ≤ 6 ∧ nbx ≤ 6 ∧ mbx ≤ 6 := by have e1 : nb = _ := congrArg (·.1) zb; have e2 : mb = _ := congrArg (·.2.1) zb; have e3 : nbx = _ := congrArg (·.2.2.1) zb; have e4 : mbx = _ := congrArg (·.2.2.2) zb; rw [e1, e2, e3, e4]; exact ⟨lb1, lb2, lb3, lb4⟩
  clear zb
  have hlb1 : rl (rq sb ab bb) ≤ 6 := rl_rq hb.lt.1.1 hb.lt.1.2 lb1 lb2 (by decide); have hlb2 : rl (rq tb cb db) ≤ 6 := rl_rq hb.lt.2.1 hb.lt.2.2 lb3 lb4 (by decide)
  have FbI := spV_isSp hb hvb.1 hvb.2.1
  have hob := hvb.2.2
  have HVb := Lib.hid (decide_eq_true hvb); clear hvb
  have FbV := Lib.hid hb; clear hb
  obtain ⟨p_b, hpb⟩ : ∃ p, p = rq sb ab bb := ⟨_, rfl⟩; obtain ⟨r_b, hrb⟩ : ∃ r, r = rq tb cb db := ⟨_, rfl⟩
  rw [← hpb, ← hrb] at FbI; rw [← hpb] at hlb1 hob; rw [← hrb] at hlb2 hob
  try rw [← hpb] at hz
  try rw [← hrb] at hz
  try rw [← hpb] at hy0
  try rw [← hrb] at hy0
  clear hpb hrb
  have HOb := Lib.hid hob; clear hob
  have Fbl := Lib.hid (show IsR _ _ p_b from (isSp_ends FbI).1); have Fbh := Lib.hid (show IsR _ _ r_b from (isSp_ends FbI).2); have Fb := Lib.hid FbI; clear FbI
  have hX : inS (p_a, r_a) (inK (p_a, r_a) k0) := inK_in HOa.out (by omega)
  have hY : inS (p_b, r_b) (inK (p_b, r_b) k1) := inK_in HOb.out (by omega)
  have HI1 := Lib.hid (decide_eq_true (show inS ((p_a, r_a)) (inK ((p_a, r_a)) k0) from hX))
  have HI2 := Lib.hid (decide_eq_true (show inS ((p_b, r_b)) (inK ((p_b, r_b)) k1) from hY))
  have HI3 := Lib.hid (decide_eq_true (show inS (sAdd ((p_a, r_a)) ((p_b, r_b))) ((inK ((p_a, r_a)) k0) + (inK ((p_b, r_b)) k1)) from in_add hX hY))
  have HI4 := Lib.hid (decide_eq_true (show inS (sSub ((p_a, r_a)) ((p_b, r_b))) ((inK ((p_a, r_a)) k0) - (inK ((p_b, r_b)) k1)) from in_sub hX hY))
  have HI5 := Lib.hid (decide_eq_true (show inS (sMul ((p_a, r_a)) ((p_b, r_b))) ((inK ((p_a, r_a)) k0) * (inK ((p_b, r_b)) k1)) from in_mul hX hY))
  have HI6 := Lib.hid (decide_eq_true (show inS (sNot ((p_a, r_a))) ((((1 : Int) : Rat)) - (inK ((p_a, r_a)) k0)) from (show inS (1 - r_a, 1 - p_a) (1 - inK (p_a, r_a) k0) from by unfold inS at hX ⊢; obtain ⟨q1, q2⟩ := hX; constructor <;> grind)))
  have HI7 := Lib.hid (decide_eq_true (show inS ((p_b, r_b)) (0) from hz))
  have HS := Lib.hid (show sdC ((p_b, r_b)) = 8 from if_pos hz)
  have HD := Lib.hid (show dc (inK ((p_b, r_b)) k1) = 0 from if_neg hy0)
  clear hX hY hz hy0
  obtain ⟨w1, hw1⟩ : ∃ w1, w1 = w.alloc (.cells #[.bool qa, .slice oa na ka, .slice pa ma ra, .bool qax, .slice oax nax kax, .slice pax max rax] 26) := ⟨_, rfl⟩
  have hb1 : Below w.heap.size w w1 := by rw [hw1]; exact (Below.refl _ _).alloc (Nat.le_refl _) _
  have hx1 := heap_alloc_new w (.cells #[.bool qa, .slice oa na ka, .slice pa ma ra, .bool qax, .slice oax nax kax, .slice pax max rax] 26)
  obtain ⟨g1, hg1⟩ : ∃ g, g = w.heap.size := ⟨_, rfl⟩
  rw [← hw1, ← hg1] at hx1
  have lw1 : w.heap.size ≤ g1 := by rw [hg1]; exact HBW.out.size
  have HW1 := Lib.hid hw1; have HG1 := Lib.hid hg1; clear hw1 hg1
  have HB1 := Lib.hid (HBW.out.step hb1)
  have Fa := Lib.hid (Fa.out.below hb1)
  have Fal := Lib.hid (Fal.out.below hb1)
  have Fah := Lib.hid (Fah.out.below hb1)
  have FaV := Lib.hid (FaV.out.below hb1)
  have Fb := Lib.hid (Fb.out.below hb1)
  have Fbl := Lib.hid (Fbl.out.below hb1)
  have Fbh := Lib.hid (Fbh.out.below hb1)
  have FbV := Lib.hid (FbV.out.below hb1)
  have BX1 := Lib.hid hx1; clear hb1 hx1
  obtain ⟨w2, hw2⟩ : ∃ w2, w2 = w1.alloc (.cells #[.bool qb, .slice ob nb kb, .slice pb mb rb, .bool qbx, .slice obx nbx kbx, .slice pbx mbx rbx] 26) := ⟨_, rfl⟩
  have hb2 : Below w1.heap.size w1 w2 := by rw [hw2]; exact (Below.refl _ _).alloc (Nat.le_refl _) _
  have hx2 := heap_alloc_new w1 (.cells #[.bool qb, .slice ob nb kb, .slice pb mb rb, .bool qbx, .slice obx nbx kbx, .slice pbx mbx rbx] 26)
  obtain ⟨g2, hg2⟩ : ∃ g, g = w1.heap.size := ⟨_, rfl⟩
  rw [← hw2, ← hg2] at hx2
  have lw2 : w.heap.size ≤ g2 := by rw [hg2]; exact HB1.out.size
  have ltBX12 : g1 < g2 := by rw [hg2]; exact below_lt BX1.out
  have hs2 : g2 = w.heap.size + 1 := by rw [hg2, HW1.out]; simp
  have HS2 := Lib.hid hs2; clear hs2
  have HW2 := Lib.hid hw2; have HG2 := Lib.hid hg2; clear hw2 hg2
  have HB2 := Lib.hid (HB1.out.step hb2)
  have Fa := Lib.hid (Fa.out.below hb2)
  have Fal := Lib.hid (Fal.out.below hb2)
  have Fah := Lib.hid (Fah.out.below hb2)
  have FaV := Lib.hid (FaV.out.below hb2)
  have Fb := Lib.hid (Fb.out.below hb2)
  have Fbl := Lib.hid (Fbl.out.below hb2)
  have Fbh := Lib.hid (Fbh.out.below hb2)
  have FbV := Lib.hid (FbV.out.below hb2)
  have BX1 := Lib.hid (heap_below BX1.out hb2)
  have BX2 := Lib.hid hx2; clear hb2 hx2
  obtain ⟨w3, hw3⟩ : ∃ w3, w3 = w2.alloc (.cells #[.int .u8 (k0 : Nat), .int .u8 (k1 : Nat)] 43) := ⟨_, rfl⟩
  have hb3 : Below w2.heap.size w2 w3 := by rw [hw3]; exact (Below.refl _ _).alloc (Nat.le_refl _) _
  have hx3 := heap_alloc_new w2 (.cells #[.int .u8 (k0 : Nat), .int .u8 (k1 : Nat)] 43)
  obtain ⟨g3, hg3⟩ : ∃ g, g = w2.heap.size := ⟨_, rfl⟩
  rw [← hw3, ← hg3] at hx3
  have lw3 : w.heap.size ≤ g3 := by rw [hg3]; exact HB2.out.size
  have ltBX13 : g1 < g3 := by rw [hg3]; exact below_lt BX1.out
  have ltBX23 : g2 < g3 := by rw [hg3]; exact below_lt BX2.out
  have hs3 : g3 = w.heap.size + 2 := by rw [hg3, HW2.out, HW1.out]; simp
  have HS3 := Lib.hid hs3; clear hs3
  have HW3 := Lib.hid hw3; have HG3 := Lib.hid hg3; clear hw3 hg3
  have HB3 := Lib.hid (HB2.out.step hb3)
  have Fa := Lib.hid (Fa.out.below hb3)
  have Fal := Lib.hid (Fal.out.below hb3)
  have Fah := Lib.hid (Fah.out.below hb3)
  have FaV := Lib.hid (FaV.out.below hb3)
  have Fb := Lib.hid (Fb.out.below hb3)
  have Fbl := Lib.hid (Fbl.out.below hb3)
  have Fbh := Lib.hid (Fbh.out.below hb3)
  have FbV := Lib.hid (FbV.out.below hb3)
  have BX1 := Lib.hid (heap_below BX1.out hb3)
  have BX2 := Lib.hid (heap_below BX2.out hb3)
  have BX3 := Lib.hid hx3; clear hb3 hx3
  go_enter Tryd.func5, Tryd.ntmps5
  have hs := awake03 w3
  have HS := Lib.hid hs; clear hs
  go_wp2_with (with_reducible first | refine pauseCall ?_ | refine pauseLoop ?_ | refine pauseDraw ?_ | refine pauseBody ?_ | refine pauseRounds ?_)
  try rw [← HW1.out]
  try rw [← HW2.out]
  try rw [← HW3.out]
  try rw [← HS3.out]
  try rw [← HS2.out]
  try rw [← HG1.out]
  try rw [← HG2.out]
  try rw [← HG3.out]
  refine Pause.mk ?_
  (with_reducible refine HS.out.mono ?_); rintro e w4 ⟨rfl, hb4⟩
  clear HS
  have HB4 := Lib.hid (HB3.out.step hb4)
  have Fa := Lib.hid (Fa.out.below hb4)
  have Fal := Lib.hid (Fal.out.below hb4)
  have Fah := Lib.hid (Fah.out.below hb4)
  have FaV := Lib.hid (FaV.out.below hb4)
  have Fb := Lib.hid (Fb.out.below hb4)
  have Fbl := Lib.hid (Fbl.out.below hb4)
  have Fbh := Lib.hid (Fbh.out.below hb4)
  have FbV := Lib.hid (FbV.out.below hb4)
  have BX1 := Lib.hid (heap_below BX1.out hb4)
  have BX2 := Lib.hid (heap_below BX2.out hb4)
  have BX3 := Lib.hid (heap_below BX3.out hb4)
  clear hb4
  obtain ⟨x1_0, x1_1, x1_2, x1_3, x1_4, x1_5⟩ := row6 BX1.out
  obtain ⟨x2_0, x2_1, x2_2, x2_3, x2_4, x2_5⟩ := row6 BX2.out
  obtain ⟨w5, hw5⟩ : ∃ w5, w5 = w4.alloc (.cells #[.bool qa, .slice oa na ka, .slice pa ma ra, .bool qax, .slice oax nax kax, .slice pax max rax, .bool qb, .slice ob nb kb, .slice pb mb rb, .bool qbx, .slice obx nbx kbx, .slice pbx mbx rbx] 26) := ⟨_, rfl⟩
  have hb5 : Below w4.heap.size w4 w5 := by rw [hw5]; exact (Below.refl _ _).alloc (Nat.le_refl _) _
  have hx5 := heap_alloc_new w4 (.cells #[.bool qa, .slice oa na ka, .slice pa ma ra, .bool qax, .slice oax nax kax, .slice pax max rax, .bool qb, .slice ob nb kb, .slice pb mb rb, .bool qbx, .slice obx nbx kbx, .slice pbx mbx rbx] 26)
  obtain ⟨g5, hg5⟩ : ∃ g, g = w4.heap.size := ⟨_, rfl⟩
  rw [← hw5, ← hg5] at hx5
  have lw5 : w.heap.size ≤ g5 := by rw [hg5]; exact HB4.out.size
  have ltBX15 : g1 < g5 := by rw [hg5]; exact below_lt BX1.out
  have ltBX25 : g2 < g5 := by rw [hg5]; exact below_lt BX2.out
  have ltBX35 : g3 < g5 := by rw [hg5]; exact below_lt BX3.out
  have HW5 := Lib.hid hw5; have HG5 := Lib.hid hg5; clear hw5 hg5
  have HB5 := Lib.hid (HB4.out.step hb5)
  have Fa := Lib.hid (Fa.out.below hb5)
  have Fal := Lib.hid (Fal.out.below hb5)
  have Fah := Lib.hid (Fah.out.below hb5)
  have FaV := Lib.hid (FaV.out.below hb5)
  have Fb := Lib.hid (Fb.out.below hb5)
  have Fbl := Lib.hid (Fbl.out.below hb5)
  have Fbh := Lib.hid (Fbh.out.below hb5)
  have FbV := Lib.hid (FbV.out.below hb5)
  have BX1 := Lib.hid (heap_below BX1.out hb5)
  have BX2 := Lib.hid (heap_below BX2.out hb5)
  have BX3 := Lib.hid (heap_below BX3.out hb5)
  have BX5 := Lib.hid hx5; clear hb5 hx5
  have hs := slarge2s BX5.out Za Zb
  have HS := Lib.hid hs; clear hs
  try rw [HG5.out] at x1_0
  try rw [HG5.out] at x1_1
  try rw [HG5.out] at x1_2
  try rw [HG5.out] at x1_3
  try rw [HG5.out] at x1_4
  try rw [HG5.out] at x1_5
  try rw [HG5.out] at x2_0
  try rw [HG5.out] at x2_1
  try rw [HG5.out] at x2_2
  try rw [HG5.out] at x2_3
  try rw [HG5.out] at x2_4
  try rw [HG5.out] at x2_5
  go_wp2_with (with_reducible first | refine pauseCall ?_ | refine pauseLoop ?_ | refine pauseDraw ?_ | refine pauseBody ?_ | refine pauseRounds ?_)
  try rw [← HW5.out]
  try rw [← HG5.out]
  clear x1_0 x1_1 x1_2 x1_3 x1_4 x1_5 x2_0 x2_1 x2_2 x2_3 x2_4 x2_5
  refine Pause.mk ?_
  (with_reducible refine HS.out.mono ?_); rintro e w6 ⟨rfl, hb6⟩
  clear HS
  have HB6 := Lib.hid (HB5.out.step hb6)
  have Fa := Lib.hid (Fa.out.below hb6)
  have Fal := Lib.hid (Fal.out.below hb6)
  have Fah := Lib.hid (Fah.out.below hb6)
  have FaV := Lib.hid (FaV.out.below hb6)
  have Fb := Lib.hid (Fb.out.below hb6)
  have Fbl := Lib.hid (Fbl.out.below hb6)
  have Fbh := Lib.hid (Fbh.out.below hb6)
  have FbV := Lib.hid (FbV.out.below hb6)
  have BX1 := Lib.hid (heap_below BX1.out hb6)
  have BX2 := Lib.hid (heap_below BX2.out hb6)
  have BX3 := Lib.hid (heap_below BX3.out hb6)
  have BX5 := Lib.hid (heap_below BX5.out hb6)
  clear BX5
  clear hb6
  obtain ⟨x3_0, x3_1, x3_2, x3_3, x3_4, x3_5⟩ := row6 BX1.out
  obtain ⟨kp4, kp4x⟩ : rl (((p_a), (r_a)) : Rat × Rat).1 ≤ rl (p_a) ∧ rl (((p_a), (r_a)) : Rat × Rat).2 ≤ rl (r_a) := ⟨Nat.le_refl _, Nat.le_refl _⟩
  have hs := svalid_any _ sa aa ba ta ca da w6 FaV.out (by omega) (by omega) (by omega) (by omega)
  rw [HVa.out] at hs
  have HS := Lib.hid hs; clear hs
  go_wp2_with (with_reducible first | refine pauseCall ?_ | refine pauseLoop ?_ | refine pauseDraw ?_ | refine pauseBody ?_ | refine pauseRounds ?_)
  clear x3_0 x3_1 x3_2 x3_3 x3_4 x3_5
  refine Pause.mk ?_
  (with_reducible refine HS.out.mono ?_); rintro e w7 ⟨rfl, hb7⟩
  clear HS
  have HB7 := Lib.hid (HB6.out.step hb7)
  have Fa := Lib.hid (Fa.out.below hb7)
  have Fal := Lib.hid (Fal.out.below hb7)
  have Fah := Lib.hid (Fah.out.below hb7)
  have FaV := Lib.hid (FaV.out.below hb7)
  have Fb := Lib.hid (Fb.out.below hb7)
  have Fbl := Lib.hid (Fbl.out.below hb7)
  have Fbh := Lib.hid (Fbh.out.below hb7)
  have FbV := Lib.hid (FbV.out.below hb7)
  have BX1 := Lib.hid (heap_below BX1.out hb7)
  have BX2 := Lib.hid (heap_below BX2.out hb7)
  have BX3 := Lib.hid (heap_below BX3.out hb7)
  clear hb7
  obtain ⟨x5_0, x5_1, x5_2, x5_3, x5_4, x5_5⟩ := row6 BX2.out
  obtain ⟨kp6, kp6x⟩ : rl (((p_b), (r_b)) : Rat × Rat).1 ≤ rl (p_b) ∧ rl (((p_b), (r_b)) : Rat × Rat).2 ≤ rl (r_b) := ⟨Nat.le_refl _, Nat.le_refl _⟩
  have hs := svalid_any _ sb ab bb tb cb db w7 FbV.out (by omega) (by omega) (by omega) (by omega)
  rw [HVb.out] at hs
  have HS := Lib.hid hs; clear hs
  go_wp2_with (with_reducible first | refine pauseCall ?_ | refine pauseLoop ?_ | refine pauseDraw ?_ | refine pauseBody ?_ | refine pauseRounds ?_)
  clear x5_0 x5_1 x5_2 x5_3 x5_4 x5_5
  refine Pause.mk ?_
  (with_reducible refine HS.out.mono ?_); rintro e w8 ⟨rfl, hb8⟩
  clear HS
  have HB8 := Lib.hid (HB7.out.step hb8)
  have Fa := Lib.hid (Fa.out.below hb8)
  have Fal := Lib.hid (Fal.out.below hb8)
  have Fah := Lib.hid (Fah.out.below hb8)
  have FaV := Lib.hid (FaV.out.below hb8)
  have Fb := Lib.hid (Fb.out.below hb8)
  have Fbl := Lib.hid (Fbl.out.below hb8)
  have Fbh := Lib.hid (Fbh.out.below hb8)
  have FbV := Lib.hid (FbV.out.below hb8)
  have BX1 := Lib.hid (heap_below BX1.out hb8)
  have BX2 := Lib.hid (heap_below BX2.out hb8)
  have BX3 := Lib.hid (heap_below BX3.out hb8)
  clear hb8
  go_wp2_with (with_reducible first | refine pauseCall ?_ | refine pauseLoop ?_ | refine pauseDraw ?_ | refine pauseBody ?_ | refine pauseRounds ?_)
  refine Pause.mk ?_
  obtain ⟨kp8, kp8x⟩ : rl (((p_a), (r_a)) : Rat × Rat).1 ≤ rl (p_a) ∧ rl (((p_a), (r_a)) : Rat × Rat).2 ≤ rl (r_a) := ⟨Nat.le_refl _, Nat.le_refl _⟩
  have k7 := rl_inK ((p_a, r_a)) k0 (by omega)
  obtain ⟨kp10, kp10x⟩ : rl (((p_b), (r_b)) : Rat × Rat).1 ≤ rl (p_b) ∧ rl (((p_b), (r_b)) : Rat × Rat).2 ≤ rl (r_b) := ⟨Nat.le_refl _, Nat.le_refl _⟩
  have k9 := rl_inK ((p_b, r_b)) k1 (by omega)
  refine wp_region_facts (A := ?aa11) (w := w8) 10 [] (by kernel_rfl) (Fl [KEq (.agg #[.bool qa, .slice oa na ka, .slice pa ma ra, .bool qax, .slice oax nax kax, .slice pax max rax]), KEq (.pointer (some ⟨g3, 0, none⟩)), KEq (.int .u8 (k0 : Nat)), KIs (inK ((p_a, r_a)) k0), KEq (.agg #[.bool qb, .slice ob nb kb, .slice pb mb rb, .bool qbx, .slice obx nbx kbx, .slice pbx mbx rbx]), KEq (.pointer (some ⟨g3, 1, none⟩)), KEq (.int .u8 (k1 : Nat)), KIs (inK ((p_b, r_b)) k1), KNew w8.heap.size #[.bool false, .slice none 0 0, .slice none 0 0] 24, KNew w8.heap.size #[.bool false, .slice none 0 0, .slice none 0 0] 24]) (fun i => i == 8 || i == 9) (by kernel_rfl) ?hq11 (monoL (monoC (kEq _) (monoC (kEq _) (monoC (kEq _) (monoC (kIs _) (monoC (kEq _) (monoC (kEq _) (monoC (kEq _) (monoC (kIs _) (monoC (kNew _ _ _) (monoC (kNew _ _ _) monoN))))))))))) ?ha11 ?st11 ?tl11
  case hq11 =>
    intro c a d v w h
    first | (simp only [Exit.then] at h ⊢; exact h) | (simp only [Exit.inBlock, Exit.then] at h ⊢; exact h) | exact h
  case ha11 =>
    intro vals
    simp only [putsTo, dstOf, if_true, Act.put, List.setIfInBounds_toArray, List.set_cons_zero, List.set_cons_succ, List.getElem?_toArray, List.getElem?_cons_zero, List.getElem?_cons_succ, Option.bind_some]
    exact rfl
  case st11 =>
    simp only [List.take_succ_cons, List.take_zero]
    refine stepsOK_cons rfl rfl ?_ (stepsOK_cons rfl rfl ?_ (stepsOK_cons rfl rfl ?_ (stepsOK_cons rfl rfl ?_ (stepsOK_cons rfl rfl ?_ (stepsOK_cons rfl rfl ?_ (stepsOK_cons rfl rfl ?_ (stepsOK_cons rfl rfl ?_ (stepsOK_cons rfl rfl ?_ (stepsOK_cons rfl rfl ?_ (stepsOK_nil))))))))))
    · intro vals w1 hb hd
      obtain ⟨e0, e1, e2, e3, e4, e5⟩ := row6 (heap_below BX1.out hb)
      refine stepOK_value (v := .agg #[.bool qa, .slice oa na ka, .slice pa ma ra, .bool qax, .slice oax nax kax, .slice pax max rax]) (w' := w1) (by go_simp) (leaves_mk (Below.refl _ _) rfl (fun h => by cases h))
    · intro vals w1 hb hd
      refine stepOK_value (v := (.pointer (some ⟨g3, 0, none⟩))) (w' := w1) (by go_simp) (leaves_mk (Below.refl _ _) rfl (fun h => by cases h))
    · intro vals w1 hb hd
      have d1 : KEq (.pointer (some ⟨g3, 0, none⟩)) (vals 1) w1 := hd 1 (by kernel_rfl)
      rw [show vals 1 = _ from d1]
      obtain ⟨e0, e1⟩ := row2 (heap_below BX3.out hb)
      refine stepOK_value (v := .int .u8 (k0 : Nat)) (w' := w1) (by go_simp) (leaves_mk (Below.refl _ _) rfl (fun h => by cases h))
    · intro vals w1 hb hd
      have d0 : KEq (.agg #[.bool qa, .slice oa na ka, .slice pa ma ra, .bool qax, .slice oax nax kax, .slice pax max rax]) (vals 0) w1 := hd 0 (by kernel_rfl)
      have d2 : KEq (.int .u8 (k0 : Nat)) (vals 2) w1 := hd 2 (by kernel_rfl)
      have z0 : vals 0 = _ := d0
      have z2 : vals 2 = _ := d2
      have hs := inK_any _ ((p_a, r_a)) k0 w1 (Fa.out.below hb) (by omega) (by omega) (by omega)
      have HS := Lib.hid hs; clear hs
      rw [z0]; clear z0
      rw [z2]; clear z2
      clear d0 d2 hd
      refine stepOK_call (by go_simp; first | done | exact ⟨⟨rfl, rfl⟩, rfl⟩) ?_
      (with_reducible refine HS.out.mono ?_); rintro e w2 ⟨v, rfl, hb2, hn⟩
      exact ⟨v, rfl, leaves_mk hb2 hn (fun h => by cases h)⟩
    · intro vals w1 hb hd
      obtain ⟨e0, e1, e2, e3, e4, e5⟩ := row6 (heap_below BX2.out hb)
      refine stepOK_value (v := .agg #[.bool qb, .slice ob nb kb, .slice pb mb rb, .bool qbx, .slice obx nbx kbx, .slice pbx mbx rbx]) (w' := w1) (by go_simp) (leaves_mk (Below.refl _ _) rfl (fun h => by cases h))
    · intro vals w1 hb hd
      refine stepOK_value (v := (.pointer (some ⟨g3, 1, none⟩))) (w' := w1) (by go_simp) (leaves_mk (Below.refl _ _) rfl (fun h => by cases h))
    · intro vals w1 hb hd
      have d5 : KEq (.pointer (some ⟨g3, 1, none⟩)) (vals 5) w1 := hd 5 (by kernel_rfl)
      rw [show vals 5 = _ from d5]
      obtain ⟨e0, e1⟩ := row2 (heap_below BX3.out hb)
      refine stepOK_value (v := .int .u8 (k1 : Nat)) (w' := w1) (by go_simp) (leaves_mk (Below.refl _ _) rfl (fun h => by cases h))
    · intro vals w1 hb hd
      have d4 : KEq (.agg #[.bool qb, .slice ob nb kb, .slice pb mb rb, .bool qbx, .slice obx nbx kbx, .slice pbx mbx rbx]) (vals 4) w1 := hd 4 (by kernel_rfl)
      have d6 : KEq (.int .u8 (k1 : Nat)) (vals 6) w1 := hd 6 (by kernel_rfl)
      have z4 : vals 4 = _ := d4
      have z6 : vals 6 = _ := d6
      have hs := inK_any _ ((p_b, r_b)) k1 w1 (Fb.out.below hb) (by omega) (by omega) (by omega)
      have HS := Lib.hid hs; clear hs
      rw [z4]; clear z4
      rw [z6]; clear z6
      clear d4 d6 hd
      refine stepOK_call (by go_simp; first | done | exact ⟨⟨rfl, rfl⟩, rfl⟩) ?_
      (with_reducible refine HS.out.mono ?_); rintro e w2 ⟨v, rfl, hb2, hn⟩
      exact ⟨v, rfl, leaves_mk hb2 hn (fun h => by cases h)⟩
    · intro vals w1 hb hd
      refine stepOK_value (v := .pointer (some ⟨w1.heap.size, 0, none⟩)) (w' := w1.alloc (.cells #[.bool false, .slice none 0 0, .slice none 0 0] 24)) (by go_simp) (leaves_mk ((Below.refl _ _).alloc (Nat.le_refl _) _) ⟨_, hb.size, rfl, heap_alloc_new _ _⟩ (fun _ => ⟨rfl, by simp⟩))
    · intro vals w1 hb hd
      refine stepOK_value (v := .pointer (some ⟨w1.heap.size, 0, none⟩)) (w' := w1.alloc (.cells #[.bool false, .slice none 0 0, .slice none 0 0] 24)) (by go_simp) (leaves_mk ((Below.refl _ _).alloc (Nat.le_refl _) _) ⟨_, hb.size, rfl, heap_alloc_new _ _⟩ (fun _ => ⟨rfl, by simp⟩))
  case tl11 =>
    intro vals w9 hb9 hf hdis
    simp only [List.drop_succ_cons, List.drop_zero]
    obtain ⟨u11_3, hu3⟩ : ∃ u, u = vals 3 := ⟨_, rfl⟩
    have hn11_3 : IsR w9 (vals 3) (inK ((p_a, r_a)) k0) := hf 3 (by decide)
    rw [← hu3] at hn11_3 ⊢; clear hu3
    obtain ⟨u11_7, hu7⟩ : ∃ u, u = vals 7 := ⟨_, rfl⟩
    have hn11_7 : IsR w9 (vals 7) (inK ((p_b, r_b)) k1) := hf 7 (by decide)
    rw [← hu7] at hn11_7 ⊢; clear hu7
    obtain ⟨g11_8, hg11_8, ev8, hz11_8⟩ : KNew w8.heap.size #[.bool false, .slice none 0 0, .slice none 0 0] 24 (vals 8) w9 := hf 8 (by decide)
    have eq8 := ev8
    rw [ev8]; clear ev8
    have lw11_8 : w.heap.size ≤ g11_8 := Nat.le_trans HB8.out.size hg11_8
    have ltBX111_8 : g1 < g11_8 := Nat.lt_of_lt_of_le (below_lt BX1.out) hg11_8
    have ltBX211_8 : g2 < g11_8 := Nat.lt_of_lt_of_le (below_lt BX2.out) hg11_8
    have ltBX311_8 : g3 < g11_8 := Nat.lt_of_lt_of_le (below_lt BX3.out) hg11_8
    obtain ⟨g11_9, hg11_9, ev9, hz11_9⟩ : KNew w8.heap.size #[.bool false, .slice none 0 0, .slice none 0 0] 24 (vals 9) w9 := hf 9 (by decide)
    have ne8_9 : g11_8 ≠ g11_9 := fun e => hdis 8 9 (by decide) (by decide) (by decide) (by decide) (by decide) (by rw [eq8, ev9, e])
    have eq9 := ev9
    rw [ev9]; clear ev9
    have lw11_9 : w.heap.size ≤ g11_9 := Nat.le_trans HB8.out.size hg11_9
    have ltBX111_9 : g1 < g11_9 := Nat.lt_of_lt_of_le (below_lt BX1.out) hg11_9
    have ltBX211_9 : g2 < g11_9 := Nat.lt_of_lt_of_le (below_lt BX2.out) hg11_9
    have ltBX311_9 : g3 < g11_9 := Nat.lt_of_lt_of_le (below_lt BX3.out) hg11_9
    clear hf hdis eq8 eq9
    have HB9 := Lib.hid (HB8.out.step hb9)
    have Fa := Lib.hid (Fa.out.below hb9)
    have Fal := Lib.hid (Fal.out.below hb9)
    have Fah := Lib.hid (Fah.out.below hb9)
    have FaV := Lib.hid (FaV.out.below hb9)
    have Fb := Lib.hid (Fb.out.below hb9)
    have Fbl := Lib.hid (Fbl.out.below hb9)
    have Fbh := Lib.hid (Fbh.out.below hb9)
    have FbV := Lib.hid (FbV.out.below hb9)
    have BX1 := Lib.hid (heap_below BX1.out hb9)
    have BX2 := Lib.hid (heap_below BX2.out hb9)
    have BX3 := Lib.hid (heap_below BX3.out hb9)
    clear hb9
    have BX11_8 := Lib.hid hz11_8; clear hz11_8 hg11_8
    have BX11_9 := Lib.hid hz11_9; clear hz11_9 hg11_9
    have N11_3 := Lib.hid hn11_3; clear hn11_3
    obtain ⟨s12, o12, n12, c12, a12, m12, d12, rfl⟩ := N11_3.out.shape
    have N11_7 := Lib.hid hn11_7; clear hn11_7
    obtain ⟨s13, o13, n13, c13, a13, m13, d13, rfl⟩ := N11_7.out.shape
    skip
    go_wp2_with (with_reducible refine wpList_pauseS ?_)
    refine wpList_stL g11_8 0 [.bool s12, .slice o12 n12 c12, .slice a12 m12 d12] BX11_8.out rfl rfl (Nat.le_of_ble_eq_true rfl) (by kernel_rfl) rfl ?_
    intro w10 hp10
    have Fa := Lib.hid (putL_SI hp10 Fa.out BX11_8.out noW3)
    have Fal := Lib.hid (putL_I hp10 Fal.out BX11_8.out noW3)
    have Fah := Lib.hid (putL_I hp10 Fah.out BX11_8.out noW3)
    have FaV := Lib.hid (putL_SV hp10 FaV.out BX11_8.out noW3)
    have Fb := Lib.hid (putL_SI hp10 Fb.out BX11_8.out noW3)
    have Fbl := Lib.hid (putL_I hp10 Fbl.out BX11_8.out noW3)
    have Fbh := Lib.hid (putL_I hp10 Fbh.out BX11_8.out noW3)
    have FbV := Lib.hid (putL_SV hp10 FbV.out BX11_8.out noW3)
    have N11_3 := Lib.hid (putL_I hp10 N11_3.out BX11_8.out noW3)
    have N11_7 := Lib.hid (putL_I hp10 N11_7.out BX11_8.out noW3)
    have BX1 := Lib.hid (putLx hp10 BX1.out (by omega))
    have BX2 := Lib.hid (putLx hp10 BX2.out (by omega))
    have BX3 := Lib.hid (putLx hp10 BX3.out (by omega))
    have BX11_9 := Lib.hid (putLx hp10 BX11_9.out (by omega))
    have nx10 : w10.heap[g11_8]? = some (.cells #[.bool s12, .slice o12 n12 c12, .slice a12 m12 d12] 24) := by rw [hp10]; exact putL_r BX11_8.out
    have BX11_8 := Lib.hid nx10; clear nx10
    have HB10 := Lib.hid (putLb hp10 HB9.out (by omega))
    clear hp10
    go_wp2_with (with_reducible refine wpList_pauseS ?_)
    refine wpList_stL g11_9 0 [.bool s13, .slice o13 n13 c13, .slice a13 m13 d13] BX11_9.out rfl rfl (Nat.le_of_ble_eq_true rfl) (by kernel_rfl) rfl ?_
    intro w11 hp11
    have Fa := Lib.hid (putL_SI hp11 Fa.out BX11_9.out noW3)
    have Fal := Lib.hid (putL_I hp11 Fal.out BX11_9.out noW3)
    have Fah := Lib.hid (putL_I hp11 Fah.out BX11_9.out noW3)
    have FaV := Lib.hid (putL_SV hp11 FaV.out BX11_9.out noW3)
    have Fb := Lib.hid (putL_SI hp11 Fb.out BX11_9.out noW3)
    have Fbl := Lib.hid (putL_I hp11 Fbl.out BX11_9.out noW3)
    have Fbh := Lib.hid (putL_I hp11 Fbh.out BX11_9.out noW3)
    have FbV := Lib.hid (putL_SV hp11 FbV.out BX11_9.out noW3)
    have N11_3 := Lib.hid (putL_I hp11 N11_3.out BX11_9.out noW3)
    have N11_7 := Lib.hid (putL_I hp11 N11_7.out BX11_9.out noW3)
    have BX1 := Lib.hid (putLx hp11 BX1.out (by omega))
    have BX2 := Lib.hid (putLx hp11 BX2.out (by omega))
    have BX3 := Lib.hid (putLx hp11 BX3.out (by omega))
    have BX11_8 := Lib.hid (putLx hp11 BX11_8.out (by omega))
    have nx11 : w11.heap[g11_9]? = some (.cells #[.bool s13, .slice o13 n13 c13, .slice a13 m13 d13] 24) := by rw [hp11]; exact putL_r BX11_9.out
    have BX11_9 := Lib.hid nx11; clear nx11
    have HB11 := Lib.hid (putLb hp11 HB10.out (by omega))
    clear hp11
    go_wp2_with (with_reducible first | refine pauseCall ?_ | refine pauseLoop ?_ | refine pauseDraw ?_ | refine pauseBody ?_ | refine pauseRounds ?_)
    refine Pause.mk ?_
    obtain ⟨kp14, kp14x⟩ : rl (((p_a), (r_a)) : Rat × Rat).1 ≤ rl (p_a) ∧ rl (((p_a), (r_a)) : Rat × Rat).2 ≤ rl (r_a) := ⟨Nat.le_refl _, Nat.le_refl _⟩
    obtain ⟨kp15, kp15x⟩ : rl (((p_b), (r_b)) : Rat × Rat).1 ≤ rl (p_b) ∧ rl (((p_b), (r_b)) : Rat × Rat).2 ≤ rl (r_b) := ⟨Nat.le_refl _, Nat.le_refl _⟩
    obtain ⟨kp18, kp18x⟩ : rl (((p_a), (r_a)) : Rat × Rat).1 ≤ rl (p_a) ∧ rl (((p_a), (r_a)) : Rat × Rat).2 ≤ rl (r_a) := ⟨Nat.le_refl _, Nat.le_refl _⟩
    obtain ⟨kp19, kp19x⟩ : rl (((p_b), (r_b)) : Rat × Rat).1 ≤ rl (p_b) ∧ rl (((p_b), (r_b)) : Rat × Rat).2 ≤ rl (r_b) := ⟨Nat.le_refl _, Nat.le_refl _⟩
    obtain ⟨k16, k17⟩ := rl_sAdd ((p_a, r_a)) ((p_b, r_b))
    have k20 := rl_add (inK ((p_a, r_a)) k0) (inK ((p_b, r_b)) k1)
    obtain ⟨kp23, kp23x⟩ : rl (((p_a), (r_a)) : Rat × Rat).1 ≤ rl (p_a) ∧ rl (((p_a), (r_a)) : Rat × Rat).2 ≤ rl (r_a) := ⟨Nat.le_refl _, Nat.le_refl _⟩
    obtain ⟨kp24, kp24x⟩ : rl (((p_b), (r_b)) : Rat × Rat).1 ≤ rl (p_b) ∧ rl (((p_b), (r_b)) : Rat × Rat).2 ≤ rl (r_b) := ⟨Nat.le_refl _, Nat.le_refl _⟩
    obtain ⟨k21, k22⟩ := rl_sSub ((p_a, r_a)) ((p_b, r_b))
    have k25 := rl_sub (inK ((p_a, r_a)) k0) (inK ((p_b, r_b)) k1)
    obtain ⟨kp28, kp28x⟩ : rl (((p_a), (r_a)) : Rat × Rat).1 ≤ rl (p_a) ∧ rl (((p_a), (r_a)) : Rat × Rat).2 ≤ rl (r_a) := ⟨Nat.le_refl _, Nat.le_refl _⟩
    obtain ⟨kp29, kp29x⟩ : rl (((p_b), (r_b)) : Rat × Rat).1 ≤ rl (p_b) ∧ rl (((p_b), (r_b)) : Rat × Rat).2 ≤ rl (r_b) := ⟨Nat.le_refl _, Nat.le_refl _⟩
    obtain ⟨k26, k27⟩ := rl_sMul ((p_a, r_a)) ((p_b, r_b))
    have k30 := rl_mul (inK ((p_a, r_a)) k0) (inK ((p_b, r_b)) k1)
    obtain ⟨kp33, kp33x⟩ : rl (((p_a), (r_a)) : Rat × Rat).1 ≤ rl (p_a) ∧ rl (((p_a), (r_a)) : Rat × Rat).2 ≤ rl (r_a) := ⟨Nat.le_refl _, Nat.le_refl _⟩
    obtain ⟨k31, k32⟩ := rl_sNot ((p_a, r_a))
    have k34 : rl ((1 : Int) : Rat) ≤ 2 := rl_small (by decide) (by decide)
    refine wp_region_facts (A := ?aa35) (w := w11) 45 [] (by kernel_rfl) (Fl [KEq (.agg #[.bool qa, .slice oa na ka, .slice pa ma ra, .bool qax, .slice oax nax kax, .slice pax max rax]), KEq (.agg #[.bool s12, .slice o12 n12 c12, .slice a12 m12 d12]), KEq (.bool true), KEq (.bool false), KEq (.bool false), KEq (.agg #[.bool qb, .slice ob nb kb, .slice pb mb rb, .bool qbx, .slice obx nbx kbx, .slice pbx mbx rbx]), KEq (.agg #[.bool s13, .slice o13 n13 c13, .slice a13 m13 d13]), KEq (.bool true), KEq (.bool false), KEq (.bool false), KEq (.bool false), KEq (.agg #[.bool qa, .slice oa na ka, .slice pa ma ra, .bool qax, .slice oax nax kax, .slice pax max rax]), KEq (.agg #[.bool qb, .slice ob nb kb, .slice pb mb rb, .bool qbx, .slice obx nbx kbx, .slice pbx mbx rbx]), KSp (sAdd ((p_a, r_a)) ((p_b, r_b))), KEq (.agg #[.bool s12, .slice o12 n12 c12, .slice a12 m12 d12]), KEq (.agg #[.bool s13, .slice o13 n13 c13, .slice a13 m13 d13]), KIs ((inK ((p_a, r_a)) k0) + (inK ((p_b, r_b)) k1)), KEq (.bool true), KEq (.bool false), KEq (.bool false), KEq (.bool false), KEq (.agg #[.bool qa, .slice oa na ka, .slice pa ma ra, .bool qax, .slice oax nax kax, .slice pax max rax]), KEq (.agg #[.bool qb, .slice ob nb kb, .slice pb mb rb, .bool qbx, .slice obx nbx kbx, .slice pbx mbx rbx]), KSp (sSub ((p_a, r_a)) ((p_b, r_b))), KEq (.agg #[.bool s12, .slice o12 n12 c12, .slice a12 m12 d12]), KEq (.agg #[.bool s13, .slice o13 n13 c13, .slice a13 m13 d13]), KIs ((inK ((p_a, r_a)) k0) - (inK ((p_b, r_b)) k1)), KEq (.bool true), KEq (.bool false), KEq (.bool false), KEq (.bool false), KEq (.agg #[.bool qa, .slice oa na ka, .slice pa ma ra, .bool qax, .slice oax nax kax, .slice pax max rax]), KEq (.agg #[.bool qb, .slice ob nb kb, .slice pb mb rb, .bool qbx, .slice obx nbx kbx, .slice pbx mbx rbx]), KSp (sMul ((p_a, r_a)) ((p_b, r_b))), KEq (.agg #[.bool s12, .slice o12 n12 c12, .slice a12 m12 d12]), KEq (.agg #[.bool s13, .slice o13 n13 c13, .slice a13 m13 d13]), KIs ((inK ((p_a, r_a)) k0) * (inK ((p_b, r_b)) k1)), KEq (.bool true), KEq (.bool false), KEq (.bool false), KEq (.bool false), KEq (.agg #[.bool qa, .slice oa na ka, .slice pa ma ra, .bool qax, .slice oax nax kax, .slice pax max rax]), KSp (sNot ((p_a, r_a))), KIs (((1 : Int) : Rat)), KEq (.agg #[.bool s12, .slice o12 n12 c12, .slice a12 m12 d12])]) (fun i => false) (by kernel_rfl) ?hq35 (monoL (monoC (kEq _) (monoC (kEq _) (monoC (kEq _) (monoC (kEq _) (monoC (kEq _) (monoC (kEq _) (monoC (kEq _) (monoC (kEq _) (monoC (kEq _) (monoC (kEq _) (monoC (kEq _) (monoC (kEq _) (monoC (kEq _) (monoC (kSp _) (monoC (kEq _) (monoC (kEq _) (monoC (kIs _) (monoC (kEq _) (monoC (kEq _) (monoC (kEq _) (monoC (kEq _) (monoC (kEq _) (monoC (kEq _) (monoC (kSp _) (monoC (kEq _) (monoC (kEq _) (monoC (kIs _) (monoC (kEq _) (monoC (kEq _) (monoC (kEq _) (monoC (kEq _) (monoC (kEq _) (monoC (kEq _) (monoC (kSp _) (monoC (kEq _) (monoC (kEq _) (monoC (kIs _) (monoC (kEq _) (monoC (kEq _) (monoC (kEq _) (monoC (kEq _) (monoC (kEq _) (monoC (kSp _) (monoC (kIs _) (monoC (kEq _) monoN)))))))))))))))))))))))))))))))))))))))))))))) ?ha35 ?st35 ?tl35
    case hq35 =>
      intro c a d v w h
      first | (simp only [Exit.then] at h ⊢; exact h) | (simp only [Exit.inBlock, Exit.then] at h ⊢; exact h) | exact h
    case ha35 =>
      intro vals
      simp only [putsTo, dstOf, if_true, Act.put, List.setIfInBounds_toArray, List.set_cons_zero, List.set_cons_succ, List.getElem?_toArray, List.getElem?_cons_zero, List.getElem?_cons_succ, Option.bind_some]
      exact rfl
    case st35 =>
      simp only [List.take_succ_cons, List.take_zero]
      refine stepsOK_cons rfl rfl ?_ (stepsOK_cons rfl rfl ?_ (stepsOK_cons rfl rfl ?_ (stepsOK_cons rfl rfl ?_ (stepsOK_cons rfl rfl ?_ (stepsOK_guard rfl ?_ (stepsOK_guard rfl ?_ (stepsOK_guard rfl ?_ (stepsOK_guard rfl ?_ (stepsOK_cons rfl rfl ?_ (stepsOK_cons rfl rfl ?_ (stepsOK_guard rfl ?_ (stepsOK_guard rfl ?_ (stepsOK_guard rfl ?_ (stepsOK_guard rfl ?_ (stepsOK_guard rfl ?_ (stepsOK_guard rfl ?_ (stepsOK_guard rfl ?_ (stepsOK_guard rfl ?_ (stepsOK_cons rfl rfl ?_ (stepsOK_cons rfl rfl ?_ (stepsOK_guard rfl ?_ (stepsOK_guard rfl ?_ (stepsOK_guard rfl ?_ (stepsOK_guard rfl ?_ (stepsOK_guard rfl ?_ (stepsOK_guard rfl ?_ (stepsOK_guard rfl ?_ (stepsOK_guard rfl ?_ (stepsOK_cons rfl rfl ?_ (stepsOK_cons rfl rfl ?_ (stepsOK_guard rfl ?_ (stepsOK_guard rfl ?_ (stepsOK_guard rfl ?_ (stepsOK_guard rfl ?_ (stepsOK_guard rfl ?_ (stepsOK_guard rfl ?_ (stepsOK_guard rfl ?_ (stepsOK_guard rfl ?_ (stepsOK_cons rfl rfl ?_ (stepsOK_cons rfl rfl ?_ (stepsOK_guard rfl ?_ (stepsOK_guard rfl ?_ (stepsOK_guard rfl ?_ (stepsOK_guard rfl ?_ (stepsOK_nil)))))))))))))))))))))))))))))))))))))))))))))
      · intro vals w1 hb hd
        obtain ⟨e0, e1, e2, e3, e4, e5⟩ := row6 (heap_below BX1.out hb)
        refine stepOK_value (v := .agg #[.bool qa, .slice oa na ka, .slice pa ma ra, .bool qax, .slice oax nax kax, .slice pax max rax]) (w' := w1) (by go_simp) (leaves_mk (Below.refl _ _) rfl (fun h => by cases h))
      · intro vals w1 hb hd
        obtain ⟨e0, e1, e2⟩ := row3 (heap_below BX11_8.out hb)
        refine stepOK_value (v := .agg #[.bool s12, .slice o12 n12 c12, .slice a12 m12 d12]) (w' := w1) (by go_simp) (leaves_mk (Below.refl _ _) rfl (fun h => by cases h))
      · intro vals w1 hb hd
        have d0 : KEq (.agg #[.bool qa, .slice oa na ka, .slice pa ma ra, .bool qax, .slice oax nax kax, .slice pax max rax]) (vals 0) w1 := hd 0 (by kernel_rfl)
        have d1 : KEq (.agg #[.bool s12, .slice o12 n12 c12, .slice a12 m12 d12]) (vals 1) w1 := hd 1 (by kernel_rfl)
        have z0 : vals 0 = _ := d0
        have z1 : vals 1 = _ := d1
        have hs := contains_any _ ((p_a, r_a)) _ (inK ((p_a, r_a)) k0) w1 ((Fa.out.below hb).is HOa.out (by omega) (by omega)) ((N11_3.out.below hb).is (by omega)) (by omega) (by omega) (by omega)
        rw [HI1.out] at hs
        have HS := Lib.hid hs; clear hs
        rw [z0]; clear z0
        rw [z1]; clear z1
        clear d0 d1 hd
        refine stepOK_call (by go_simp; first | done | exact ⟨⟨rfl, rfl⟩, rfl⟩) ?_
        (with_reducible refine HS.out.mono ?_); rintro e w2 ⟨rfl, hb2⟩
        exact ⟨_, rfl, leaves_mk hb2 rfl (fun h => by cases h)⟩
      · intro vals w1 hb hd
        have d2 : KEq (.bool true) (vals 2) w1 := hd 2 (by kernel_rfl)
        rw [show vals 2 = _ from d2]
        refine stepOK_value (v := (.bool false)) (w' := w1) (by go_simp) (leaves_mk (Below.refl _ _) rfl (fun h => by cases h))
      · intro vals w1 hb hd
        have d3 : KEq (.bool false) (vals 3) w1 := hd 3 (by kernel_rfl)
        rw [show vals 3 = _ from d3]
        refine stepOK_value (v := (.bool false)) (w' := w1) (by go_simp) (leaves_mk (Below.refl _ _) rfl (fun h => by cases h))
      · intro vals w1 hb hd
        have dg : KEq (.bool false) (vals 4) w1 := hd 4 (by kernel_rfl)
        refine stepG_yes (wanted_of rfl rfl (congrArg some dg) rfl) ?_
        clear dg
        obtain ⟨e0, e1, e2, e3, e4, e5⟩ := row6 (heap_below BX2.out hb)
        refine stepOK_value (v := .agg #[.bool qb, .slice ob nb kb, .slice pb mb rb, .bool qbx, .slice obx nbx kbx, .slice pbx mbx rbx]) (w' := w1) (by go_simp) (leaves_mk (Below.refl _ _) rfl (fun h => by cases h))
      · intro vals w1 hb hd
        have dg : KEq (.bool false) (vals 4) w1 := hd 4 (by kernel_rfl)
        refine stepG_yes (wanted_of rfl rfl (congrArg some dg) rfl) ?_
        clear dg
        obtain ⟨e0, e1, e2⟩ := row3 (heap_below BX11_9.out hb)
        refine stepOK_value (v := .agg #[.bool s13, .slice o13 n13 c13, .slice a13 m13 d13]) (w' := w1) (by go_simp) (leaves_mk (Below.refl _ _) rfl (fun h => by cases h))
      · intro vals w1 hb hd
        have dg : KEq (.bool false) (vals 4) w1 := hd 4 (by kernel_rfl)
        refine stepG_yes (wanted_of rfl rfl (congrArg some dg) rfl) ?_
        clear dg
        have d5 : KEq (.agg #[.bool qb, .slice ob nb kb, .slice pb mb rb, .bool qbx, .slice obx nbx kbx, .slice pbx mbx rbx]) (vals 5) w1 := hd 5 (by kernel_rfl)
        have d6 : KEq (.agg #[.bool s13, .slice o13 n13 c13, .slice a13 m13 d13]) (vals 6) w1 := hd 6 (by kernel_rfl)
        have z5 : vals 5 = _ := d5
        have z6 : vals 6 = _ := d6
        have hs := contains_any _ ((p_b, r_b)) _ (inK ((p_b, r_b)) k1) w1 ((Fb.out.below hb).is HOb.out (by omega) (by omega)) ((N11_7.out.below hb).is (by omega)) (by omega) (by omega) (by omega)
        rw [HI2.out] at hs
        have HS := Lib.hid hs; clear hs
        rw [z5]; clear z5
        rw [z6]; clear z6
        clear d5 d6 hd
        refine stepOK_call (by go_simp; first | done | exact ⟨⟨rfl, rfl⟩, rfl⟩) ?_
        (with_reducible refine HS.out.mono ?_); rintro e w2 ⟨rfl, hb2⟩
        exact ⟨_, rfl, leaves_mk hb2 rfl (fun h => by cases h)⟩
      · intro vals w1 hb hd
        have dg : KEq (.bool false) (vals 4) w1 := hd 4 (by kernel_rfl)
        refine stepG_yes (wanted_of rfl rfl (congrArg some dg) rfl) ?_
        clear dg
        have d7 : KEq (.bool true) (vals 7) w1 := hd 7 (by kernel_rfl)
        rw [show vals 7 = _ from d7]
        refine stepOK_value (v := (.bool false)) (w' := w1) (by go_simp) (leaves_mk (Below.refl _ _) rfl (fun h => by cases h))
      · intro vals w1 hb hd
        have d4 : KEq (.bool false) (vals 4) w1 := hd 4 (by kernel_rfl)
        have d8 : KEq (.bool false) (vals 8) w1 := hd 8 (by kernel_rfl)
        rw [show vals 4 = _ from d4]
        rw [show vals 8 = _ from d8]
        refine stepOK_value (v := (.bool false)) (w' := w1) (by go_simp) (leaves_mk (Below.refl _ _) rfl (fun h => by cases h))
      · intro vals w1 hb hd
        have d9 : KEq (.bool false) (vals 9) w1 := hd 9 (by kernel_rfl)
        rw [show vals 9 = _ from d9]
        refine stepOK_value (v := (.bool false)) (w' := w1) (by go_simp) (leaves_mk (Below.refl _ _) rfl (fun h => by cases h))
      · intro vals w1 hb hd
        have dg : KEq (.bool false) (vals 10) w1 := hd 10 (by kernel_rfl)
        refine stepG_yes (wanted_of rfl rfl (congrArg some dg) rfl) ?_
        clear dg
        obtain ⟨e0, e1, e2, e3, e4, e5⟩ := row6 (heap_below BX1.out hb)
        refine stepOK_value (v := .agg #[.bool qa, .slice oa na ka, .slice pa ma ra, .bool qax, .slice oax nax kax, .slice pax max rax]) (w' := w1) (by go_simp) (leaves_mk (Below.refl _ _) rfl (fun h => by cases h))
      · intro vals w1 hb hd
        have dg : KEq (.bool false) (vals 10) w1 := hd 10 (by kernel_rfl)
        refine stepG_yes (wanted_of rfl rfl (congrArg some dg) rfl) ?_
        clear dg
        obtain ⟨e0, e1, e2, e3, e4, e5⟩ := row6 (heap_below BX2.out hb)
        refine stepOK_value (v := .agg #[.bool qb, .slice ob nb kb, .slice pb mb rb, .bool qbx, .slice obx nbx kbx, .slice pbx mbx rbx]) (w' := w1) (by go_simp) (leaves_mk (Below.refl _ _) rfl (fun h => by cases h))
      · intro vals w1 hb hd
        have dg : KEq (.bool false) (vals 10) w1 := hd 10 (by kernel_rfl)
        refine stepG_yes (wanted_of rfl rfl (congrArg some dg) rfl) ?_
        clear dg
        have d11 : KEq (.agg #[.bool qa, .slice oa na ka, .slice pa ma ra, .bool qax, .slice oax nax kax, .slice pax max rax]) (vals 11) w1 := hd 11 (by kernel_rfl)
        have d12 : KEq (.agg #[.bool qb, .slice ob nb kb, .slice pb mb rb, .bool qbx, .slice obx nbx kbx, .slice pbx mbx rbx]) (vals 12) w1 := hd 12 (by kernel_rfl)
        have z11 : vals 11 = _ := d11
        have z12 : vals 12 = _ := d12
        have hs := sadd_any _ ((p_a, r_a)) _ ((p_b, r_b)) w1 ((Fa.out.below hb).is HOa.out (by omega) (by omega)) ((Fb.out.below hb).is HOb.out (by omega) (by omega)) (by omega) (by omega) (by omega) (by omega)
        have HS := Lib.hid hs; clear hs
        rw [z11]; clear z11
        rw [z12]; clear z12
        clear d11 d12 hd
        refine stepOK_call (by go_simp; first | done | exact ⟨⟨rfl, rfl⟩, rfl⟩) ?_
        (with_reducible refine HS.out.mono ?_); rintro e w2 ⟨v, rfl, hb2, hn⟩
        exact ⟨v, rfl, leaves_mk hb2 hn (fun h => by cases h)⟩
      · intro vals w1 hb hd
        have dg : KEq (.bool false) (vals 10) w1 := hd 10 (by kernel_rfl)
        refine stepG_yes (wanted_of rfl rfl (congrArg some dg) rfl) ?_
        clear dg
        obtain ⟨e0, e1, e2⟩ := row3 (heap_below BX11_8.out hb)
        refine stepOK_value (v := .agg #[.bool s12, .slice o12 n12 c12, .slice a12 m12 d12]) (w' := w1) (by go_simp) (leaves_mk (Below.refl _ _) rfl (fun h => by cases h))
      · intro vals w1 hb hd
        have dg : KEq (.bool false) (vals 10) w1 := hd 10 (by kernel_rfl)
        refine stepG_yes (wanted_of rfl rfl (congrArg some dg) rfl) ?_
        clear dg
        obtain ⟨e0, e1, e2⟩ := row3 (heap_below BX11_9.out hb)
        refine stepOK_value (v := .agg #[.bool s13, .slice o13 n13 c13, .slice a13 m13 d13]) (w' := w1) (by go_simp) (leaves_mk (Below.refl _ _) rfl (fun h => by cases h))
      · intro vals w1 hb hd
        have dg : KEq (.bool false) (vals 10) w1 := hd 10 (by kernel_rfl)
        refine stepG_yes (wanted_of rfl rfl (congrArg some dg) rfl) ?_
        clear dg
        have d14 : KEq (.agg #[.bool s12, .slice o12 n12 c12, .slice a12 m12 d12]) (vals 14) w1 := hd 14 (by kernel_rfl)
        have d15 : KEq (.agg #[.bool s13, .slice o13 n13 c13, .slice a13 m13 d13]) (vals 15) w1 := hd 15 (by kernel_rfl)
        have z14 : vals 14 = _ := d14
        have z15 : vals 15 = _ := d15
        have hs := addq_any _ (inK ((p_a, r_a)) k0) _ (inK ((p_b, r_b)) k1) w1 ((N11_3.out.below hb).is (by omega)) ((N11_7.out.below hb).is (by omega))
        have HS := Lib.hid hs; clear hs
        rw [z14]; clear z14
        rw [z15]; clear z15
        clear d14 d15 hd
        refine stepOK_call (by go_simp; first | done | exact ⟨⟨rfl, rfl⟩, rfl⟩) ?_
        (with_reducible refine HS.out.mono ?_); rintro e w2 ⟨v, rfl, hb2, hn⟩
        exact ⟨v, rfl, leaves_mk hb2 hn (fun h => by cases h)⟩
      · intro vals w1 hb hd
        have dg : KEq (.bool false) (vals 10) w1 := hd 10 (by kernel_rfl)
        refine stepG_yes (wanted_of rfl rfl (congrArg some dg) rfl) ?_
        clear dg
        have d13 : KSp (sAdd ((p_a, r_a)) ((p_b, r_b))) (vals 13) w1 := hd 13 (by kernel_rfl)
        have R13 : Hid (IsSp w1 (vals 13) (sAdd ((p_a, r_a)) ((p_b, r_b)))) := Lib.hid d13
        have d16 : KIs ((inK ((p_a, r_a)) k0) + (inK ((p_b, r_b)) k1)) (vals 16) w1 := hd 16 (by kernel_rfl)
        have R16 : Hid (IsR w1 (vals 16) ((inK ((p_a, r_a)) k0) + (inK ((p_b, r_b)) k1))) := Lib.hid d16
        have hs := contains_any _ (sAdd ((p_a, r_a)) ((p_b, r_b))) _ ((inK ((p_a, r_a)) k0) + (inK ((p_b, r_b)) k1)) w1 (R13.out.is (sAdd_ok HOa.out HOb.out) (by omega) (by omega)) (R16.out.is (by omega)) (by omega) (by omega) (by omega)
        rw [HI3.out] at hs
        have HS := Lib.hid hs; clear hs
        clear d13 d16 hd
        refine stepOK_call (by go_simp; first | done | exact ⟨⟨rfl, rfl⟩, rfl⟩) ?_
        (with_reducible refine HS.out.mono ?_); rintro e w2 ⟨rfl, hb2⟩
        exact ⟨_, rfl, leaves_mk hb2 rfl (fun h => by cases h)⟩
      · intro vals w1 hb hd
        have dg : KEq (.bool false) (vals 10) w1 := hd 10 (by kernel_rfl)
        refine stepG_yes (wanted_of rfl rfl (congrArg some dg) rfl) ?_
        clear dg
        have d17 : KEq (.bool true) (vals 17) w1 := hd 17 (by kernel_rfl)
        rw [show vals 17 = _ from d17]
        refine stepOK_value (v := (.bool false)) (w' := w1) (by go_simp) (leaves_mk (Below.refl _ _) rfl (fun h => by cases h))
      · intro vals w1 hb hd
        have d10 : KEq (.bool false) (vals 10) w1 := hd 10 (by kernel_rfl)
        have d18 : KEq (.bool false) (vals 18) w1 := hd 18 (by kernel_rfl)
        rw [show vals 10 = _ from d10]
        rw [show vals 18 = _ from d18]
        refine stepOK_value (v := (.bool false)) (w' := w1) (by go_simp) (leaves_mk (Below.refl _ _) rfl (fun h => by cases h))
      · intro vals w1 hb hd
        have d19 : KEq (.bool false) (vals 19) w1 := hd 19 (by kernel_rfl)
        rw [show vals 19 = _ from d19]
        refine stepOK_value (v := (.bool false)) (w' := w1) (by go_simp) (leaves_mk (Below.refl _ _) rfl (fun h => by cases h))
      · intro vals w1 hb hd
        have dg : KEq (.bool false) (vals 20) w1 := hd 20 (by kernel_rfl)
        refine stepG_yes (wanted_of rfl rfl (congrArg some dg) rfl) ?_
        clear dg
        obtain ⟨e0, e1, e2, e3, e4, e5⟩ := row6 (heap_below BX1.out hb)
        refine stepOK_value (v := .agg #[.bool qa, .slice oa na ka, .slice pa ma ra, .bool qax, .slice oax nax kax, .slice pax max rax]) (w' := w1) (by go_simp) (leaves_mk (Below.refl _ _) rfl (fun h => by cases h))
      · intro vals w1 hb hd
        have dg : KEq (.bool false) (vals 20) w1 := hd 20 (by kernel_rfl)
        refine stepG_yes (wanted_of rfl rfl (congrArg some dg) rfl) ?_
        clear dg
        obtain ⟨e0, e1, e2, e3, e4, e5⟩ := row6 (heap_below BX2.out hb)
        refine stepOK_value (v := .agg #[.bool qb, .slice ob nb kb, .slice pb mb rb, .bool qbx, .slice obx nbx kbx, .slice pbx mbx rbx]) (w' := w1) (by go_simp) (leaves_mk (Below.refl _ _) rfl (fun h => by cases h))
      · intro vals w1 hb hd
        have dg : KEq (.bool false) (vals 20) w1 := hd 20 (by kernel_rfl)
        refine stepG_yes (wanted_of rfl rfl (congrArg some dg) rfl) ?_
        clear dg
        have d21 : KEq (.agg #[.bool qa, .slice oa na ka, .slice pa ma ra, .bool qax, .slice oax nax kax, .slice pax max rax]) (vals 21) w1 := hd 21 (by kernel_rfl)
        have d22 : KEq (.agg #[.bool qb, .slice ob nb kb, .slice pb mb rb, .bool qbx, .slice obx nbx kbx, .slice pbx mbx rbx]) (vals 22) w1 := hd 22 (by kernel_rfl)
        have z21 : vals 21 = _ := d21
        have z22 : vals 22 = _ := d22
        have hs := ssub_any _ ((p_a, r_a)) _ ((p_b, r_b)) w1 ((Fa.out.below hb).is HOa.out (by omega) (by omega)) ((Fb.out.below hb).is HOb.out (by omega) (by omega)) (by omega) (by omega) (by omega) (by omega)
        have HS := Lib.hid hs; clear hs
        rw [z21]; clear z21
        rw [z22]; clear z22
        clear d21 d22 hd
        refine stepOK_call (by go_simp; first | done | exact ⟨⟨rfl, rfl⟩, rfl⟩) ?_
        (with_reducible refine HS.out.mono ?_); rintro e w2 ⟨v, rfl, hb2, hn⟩
        exact ⟨v, rfl, leaves_mk hb2 hn (fun h => by cases h)⟩
      · intro vals w1 hb hd
        have dg : KEq (.bool false) (vals 20) w1 := hd 20 (by kernel_rfl)
        refine stepG_yes (wanted_of rfl rfl (congrArg some dg) rfl) ?_
        clear dg
        obtain ⟨e0, e1, e2⟩ := row3 (heap_below BX11_8.out hb)
        refine stepOK_value (v := .agg #[.bool s12, .slice o12 n12 c12, .slice a12 m12 d12]) (w' := w1) (by go_simp) (leaves_mk (Below.refl _ _) rfl (fun h => by cases h))
      · intro vals w1 hb hd
        have dg : KEq (.bool false) (vals 20) w1 := hd 20 (by kernel_rfl)
        refine stepG_yes (wanted_of rfl rfl (congrArg some dg) rfl) ?_
        clear dg
        obtain ⟨e0, e1, e2⟩ := row3 (heap_below BX11_9.out hb)
        refine stepOK_value (v := .agg #[.bool s13, .slice o13 n13 c13, .slice a13 m13 d13]) (w' := w1) (by go_simp) (leaves_mk (Below.refl _ _) rfl (fun h => by cases h))
      · intro vals w1 hb hd
        have dg : KEq (.bool false) (vals 20) w1 := hd 20 (by kernel_rfl)
        refine stepG_yes (wanted_of rfl rfl (congrArg some dg) rfl) ?_
        clear dg
        have d24 : KEq (.agg #[.bool s12, .slice o12 n12 c12, .slice a12 m12 d12]) (vals 24) w1 := hd 24 (by kernel_rfl)
        have d25 : KEq (.agg #[.bool s13, .slice o13 n13 c13, .slice a13 m13 d13]) (vals 25) w1 := hd 25 (by kernel_rfl)
        have z24 : vals 24 = _ := d24
        have z25 : vals 25 = _ := d25
        have hs := subq_any _ (inK ((p_a, r_a)) k0) _ (inK ((p_b, r_b)) k1) w1 ((N11_3.out.below hb).is (by omega)) ((N11_7.out.below hb).is (by omega))
        have HS := Lib.hid hs; clear hs
        rw [z24]; clear z24
        rw [z25]; clear z25
        clear d24 d25 hd
        refine stepOK_call (by go_simp; first | done | exact ⟨⟨rfl, rfl⟩, rfl⟩) ?_
        (with_reducible refine HS.out.mono ?_); rintro e w2 ⟨v, rfl, hb2, hn⟩
        exact ⟨v, rfl, leaves_mk hb2 hn (fun h => by cases h)⟩
      · intro vals w1 hb hd
        have dg : KEq (.bool false) (vals 20) w1 := hd 20 (by kernel_rfl)
        refine stepG_yes (wanted_of rfl rfl (congrArg some dg) rfl) ?_
        clear dg
        have d23 : KSp (sSub ((p_a, r_a)) ((p_b, r_b))) (vals 23) w1 := hd 23 (by kernel_rfl)
        have R23 : Hid (IsSp w1 (vals 23) (sSub ((p_a, r_a)) ((p_b, r_b)))) := Lib.hid d23
        have d26 : KIs ((inK ((p_a, r_a)) k0) - (inK ((p_b, r_b)) k1)) (vals 26) w1 := hd 26 (by kernel_rfl)
        have R26 : Hid (IsR w1 (vals 26) ((inK ((p_a, r_a)) k0) - (inK ((p_b, r_b)) k1))) := Lib.hid d26
        have hs := contains_any _ (sSub ((p_a, r_a)) ((p_b, r_b))) _ ((inK ((p_a, r_a)) k0) - (inK ((p_b, r_b)) k1)) w1 (R23.out.is (sSub_ok HOa.out HOb.out) (by omega) (by omega)) (R26.out.is (by omega)) (by omega) (by omega) (by omega)
        rw [HI4.out] at hs
        have HS := Lib.hid hs; clear hs
        clear d23 d26 hd
        refine stepOK_call (by go_simp; first | done | exact ⟨⟨rfl, rfl⟩, rfl⟩) ?_
        (with_reducible refine HS.out.mono ?_); rintro e w2 ⟨rfl, hb2⟩
        exact ⟨_, rfl, leaves_mk hb2 rfl (fun h => by cases h)⟩
      · intro vals w1 hb hd
        have dg : KEq (.bool false) (vals 20) w1 := hd 20 (by kernel_rfl)
        refine stepG_yes (wanted_of rfl rfl (congrArg some dg) rfl) ?_
        clear dg
        have d27 : KEq (.bool true) (vals 27) w1 := hd 27 (by kernel_rfl)
        rw [show vals 27 = _ from d27]
        refine stepOK_value (v := (.bool false)) (w' := w1) (by go_simp) (leaves_mk (Below.refl _ _) rfl (fun h => by cases h))
      · intro vals w1 hb hd
        have d20 : KEq (.bool false) (vals 20) w1 := hd 20 (by kernel_rfl)
        have d28 : KEq (.bool false) (vals 28) w1 := hd 28 (by kernel_rfl)
        rw [show vals 20 = _ from d20]
        rw [show vals 28 = _ from d28]
        refine stepOK_value (v := (.bool false)) (w' := w1) (by go_simp) (leaves_mk (Below.refl _ _) rfl (fun h => by cases h))
      · intro vals w1 hb hd
        have d29 : KEq (.bool false) (vals 29) w1 := hd 29 (by kernel_rfl)
        rw [show vals 29 = _ from d29]
        refine stepOK_value (v := (.bool false)) (w' := w1) (by go_simp) (leaves_mk (Below.refl _ _) rfl (fun h => by cases h))
      · intro vals w1 hb hd
        have dg : KEq (.bool false) (vals 30) w1 := hd 30 (by kernel_rfl)
        refine stepG_yes (wanted_of rfl rfl (congrArg some dg) rfl) ?_
        clear dg
        obtain ⟨e0, e1, e2, e3, e4, e5⟩ := row6 (heap_below BX1.out hb)
        refine stepOK_value (v := .agg #[.bool qa, .slice oa na ka, .slice pa ma ra, .bool qax, .slice oax nax kax, .slice pax max rax]) (w' := w1) (by go_simp) (leaves_mk (Below.refl _ _) rfl (fun h => by cases h))
      · intro vals w1 hb hd
        have dg : KEq (.bool false) (vals 30) w1 := hd 30 (by kernel_rfl)
        refine stepG_yes (wanted_of rfl rfl (congrArg some dg) rfl) ?_
        clear dg
        obtain ⟨e0, e1, e2, e3, e4, e5⟩ := row6 (heap_below BX2.out hb)
        refine stepOK_value (v := .agg #[.bool qb, .slice ob nb kb, .slice pb mb rb, .bool qbx, .slice obx nbx kbx, .slice pbx mbx rbx]) (w' := w1) (by go_simp) (leaves_mk (Below.refl _ _) rfl (fun h => by cases h))
      · intro vals w1 hb hd
        have dg : KEq (.bool false) (vals 30) w1 := hd 30 (by kernel_rfl)
        refine stepG_yes (wanted_of rfl rfl (congrArg some dg) rfl) ?_
        clear dg
        have d31 : KEq (.agg #[.bool qa, .slice oa na ka, .slice pa ma ra, .bool qax, .slice oax nax kax, .slice pax max rax]) (vals 31) w1 := hd 31 (by kernel_rfl)
        have d32 : KEq (.agg #[.bool qb, .slice ob nb kb, .slice pb mb rb, .bool qbx, .slice obx nbx kbx, .slice pbx mbx rbx]) (vals 32) w1 := hd 32 (by kernel_rfl)
        have z31 : vals 31 = _ := d31
        have z32 : vals 32 = _ := d32
        have hs := smul_any _ ((p_a, r_a)) _ ((p_b, r_b)) w1 ((Fa.out.below hb).is HOa.out (by omega) (by omega)) ((Fb.out.below hb).is HOb.out (by omega) (by omega)) (by omega) (by omega) (by omega) (by omega)
        have HS := Lib.hid hs; clear hs
        rw [z31]; clear z31
        rw [z32]; clear z32
        clear d31 d32 hd
        refine stepOK_call (by go_simp; first | done | exact ⟨⟨rfl, rfl⟩, rfl⟩) ?_
        (with_reducible refine HS.out.mono ?_); rintro e w2 ⟨v, rfl, hb2, hn⟩
        exact ⟨v, rfl, leaves_mk hb2 hn (fun h => by cases h)⟩
      · intro vals w1 hb hd
        have dg : KEq (.bool false) (vals 30) w1 := hd 30 (by kernel_rfl)
        refine stepG_yes (wanted_of rfl rfl (congrArg some dg) rfl) ?_
        clear dg
        obtain ⟨e0, e1, e2⟩ := row3 (heap_below BX11_8.out hb)
        refine stepOK_value (v := .agg #[.bool s12, .slice o12 n12 c12, .slice a12 m12 d12]) (w' := w1) (by go_simp) (leaves_mk (Below.refl _ _) rfl (fun h => by cases h))
      · intro vals w1 hb hd
        have dg : KEq (.bool false) (vals 30) w1 := hd 30 (by kernel_rfl)
        refine stepG_yes (wanted_of rfl rfl (congrArg some dg) rfl) ?_
        clear dg
        obtain ⟨e0, e1, e2⟩ := row3 (heap_below BX11_9.out hb)
        refine stepOK_value (v := .agg #[.bool s13, .slice o13 n13 c13, .slice a13 m13 d13]) (w' := w1) (by go_simp) (leaves_mk (Below.refl _ _) rfl (fun h => by cases h))
      · intro vals w1 hb hd
        have dg : KEq (.bool false) (vals 30) w1 := hd 30 (by kernel_rfl)
        refine stepG_yes (wanted_of rfl rfl (congrArg some dg) rfl) ?_
        clear dg
        have d34 : KEq (.agg #[.bool s12, .slice o12 n12 c12, .slice a12 m12 d12]) (vals 34) w1 := hd 34 (by kernel_rfl)
        have d35 : KEq (.agg #[.bool s13, .slice o13 n13 c13, .slice a13 m13 d13]) (vals 35) w1 := hd 35 (by kernel_rfl)
        have z34 : vals 34 = _ := d34
        have z35 : vals 35 = _ := d35
        have hs := mulq_any _ (inK ((p_a, r_a)) k0) _ (inK ((p_b, r_b)) k1) w1 ((N11_3.out.below hb).is (by omega)) ((N11_7.out.below hb).is (by omega))
        have HS := Lib.hid hs; clear hs
        rw [z34]; clear z34
        rw [z35]; clear z35
        clear d34 d35 hd
        refine stepOK_call (by go_simp; first | done | exact ⟨⟨rfl, rfl⟩, rfl⟩) ?_
        (with_reducible refine HS.out.mono ?_); rintro e w2 ⟨v, rfl, hb2, hn⟩
        exact ⟨v, rfl, leaves_mk hb2 hn (fun h => by cases h)⟩
      · intro vals w1 hb hd
        have dg : KEq (.bool false) (vals 30) w1 := hd 30 (by kernel_rfl)
        refine stepG_yes (wanted_of rfl rfl (congrArg some dg) rfl) ?_
        clear dg
        have d33 : KSp (sMul ((p_a, r_a)) ((p_b, r_b))) (vals 33) w1 := hd 33 (by kernel_rfl)
        have R33 : Hid (IsSp w1 (vals 33) (sMul ((p_a, r_a)) ((p_b, r_b)))) := Lib.hid d33
        have d36 : KIs ((inK ((p_a, r_a)) k0) * (inK ((p_b, r_b)) k1)) (vals 36) w1 := hd 36 (by kernel_rfl)
        have R36 : Hid (IsR w1 (vals 36) ((inK ((p_a, r_a)) k0) * (inK ((p_b, r_b)) k1))) := Lib.hid d36
        have hs := contains_any _ (sMul ((p_a, r_a)) ((p_b, r_b))) _ ((inK ((p_a, r_a)) k0) * (inK ((p_b, r_b)) k1)) w1 (R33.out.is (around4_ok _ _ _ _) (by omega) (by omega)) (R36.out.is (by omega)) (by omega) (by omega) (by omega)
        rw [HI5.out] at hs
        have HS := Lib.hid hs; clear hs
        clear d33 d36 hd
        refine stepOK_call (by go_simp; first | done | exact ⟨⟨rfl, rfl⟩, rfl⟩) ?_
        (with_reducible refine HS.out.mono ?_); rintro e w2 ⟨rfl, hb2⟩
        exact ⟨_, rfl, leaves_mk hb2 rfl (fun h => by cases h)⟩
      · intro vals w1 hb hd
        have dg : KEq (.bool false) (vals 30) w1 := hd 30 (by kernel_rfl)
        refine stepG_yes (wanted_of rfl rfl (congrArg some dg) rfl) ?_
        clear dg
        have d37 : KEq (.bool true) (vals 37) w1 := hd 37 (by kernel_rfl)
        rw [show vals 37 = _ from d37]
        refine stepOK_value (v := (.bool false)) (w' := w1) (by go_simp) (leaves_mk (Below.refl _ _) rfl (fun h => by cases h))
      · intro vals w1 hb hd
        have d30 : KEq (.bool false) (vals 30) w1 := hd 30 (by kernel_rfl)
        have d38 : KEq (.bool false) (vals 38) w1 := hd 38 (by kernel_rfl)
        rw [show vals 30 = _ from d30]
        rw [show vals 38 = _ from d38]
        refine stepOK_value (v := (.bool false)) (w' := w1) (by go_simp) (leaves_mk (Below.refl _ _) rfl (fun h => by cases h))
      · intro vals w1 hb hd
        have d39 : KEq (.bool false) (vals 39) w1 := hd 39 (by kernel_rfl)
        rw [show vals 39 = _ from d39]
        refine stepOK_value (v := (.bool false)) (w' := w1) (by go_simp) (leaves_mk (Below.refl _ _) rfl (fun h => by cases h))
      · intro vals w1 hb hd
        have dg : KEq (.bool false) (vals 40) w1 := hd 40 (by kernel_rfl)
        refine stepG_yes (wanted_of rfl rfl (congrArg some dg) rfl) ?_
        clear dg
        obtain ⟨e0, e1, e2, e3, e4, e5⟩ := row6 (heap_below BX1.out hb)
        refine stepOK_value (v := .agg #[.bool qa, .slice oa na ka, .slice pa ma ra, .bool qax, .slice oax nax kax, .slice pax max rax]) (w' := w1) (by go_simp) (leaves_mk (Below.refl _ _) rfl (fun h => by cases h))
      · intro vals w1 hb hd
        have dg : KEq (.bool false) (vals 40) w1 := hd 40 (by kernel_rfl)
        refine stepG_yes (wanted_of rfl rfl (congrArg some dg) rfl) ?_
        clear dg
        have d41 : KEq (.agg #[.bool qa, .slice oa na ka, .slice pa ma ra, .bool qax, .slice oax nax kax, .slice pax max rax]) (vals 41) w1 := hd 41 (by kernel_rfl)
        have z41 : vals 41 = _ := d41
        have hs := snot_any _ ((p_a, r_a)) w1 ((Fa.out.below hb).is HOa.out (by omega) (by omega)) (by omega) (by omega)
        have HS := Lib.hid hs; clear hs
        rw [z41]; clear z41
        clear d41 hd
        refine stepOK_call (by go_simp; first | done | exact ⟨⟨rfl, rfl⟩, rfl⟩) ?_
        (with_reducible refine HS.out.mono ?_); rintro e w2 ⟨v, rfl, hb2, hn⟩
        exact ⟨v, rfl, leaves_mk hb2 hn (fun h => by cases h)⟩
      · intro vals w1 hb hd
        have dg : KEq (.bool false) (vals 40) w1 := hd 40 (by kernel_rfl)
        refine stepG_yes (wanted_of rfl rfl (congrArg some dg) rfl) ?_
        clear dg
        have hs := ofq_any 1 w1 (by decide) (by decide)
        have HS := Lib.hid hs; clear hs
        clear hd
        refine stepOK_call (by go_simp; first | done | exact ⟨⟨rfl, rfl⟩, rfl⟩) ?_
        (with_reducible refine HS.out.mono ?_); rintro e w2 ⟨v, rfl, hb2, hn⟩
        exact ⟨v, rfl, leaves_mk hb2 hn (fun h => by cases h)⟩
      · intro vals w1 hb hd
        have dg : KEq (.bool false) (vals 40) w1 := hd 40 (by kernel_rfl)
        refine stepG_yes (wanted_of rfl rfl (congrArg some dg) rfl) ?_
        clear dg
        obtain ⟨e0, e1, e2⟩ := row3 (heap_below BX11_8.out hb)
        refine stepOK_value (v := .agg #[.bool s12, .slice o12 n12 c12, .slice a12 m12 d12]) (w' := w1) (by go_simp) (leaves_mk (Below.refl _ _) rfl (fun h => by cases h))
    case tl35 =>
      intro vals w12 hb12 hf hdis
      simp only [List.drop_succ_cons, List.drop_zero]
      have z40 : vals 40 = _ := hf 40 (by decide)
      try rw [z40]
      clear z40
      obtain ⟨u35_42, hu42⟩ : ∃ u, u = vals 42 := ⟨_, rfl⟩
      have hn35_42 : IsSp w12 (vals 42) (sNot ((p_a, r_a))) := hf 42 (by decide)
      rw [← hu42] at hn35_42 ⊢; clear hu42
      obtain ⟨u35_43, hu43⟩ : ∃ u, u = vals 43 := ⟨_, rfl⟩
      have hn35_43 : IsR w12 (vals 43) (((1 : Int) : Rat)) := hf 43 (by decide)
      rw [← hu43] at hn35_43 ⊢; clear hu43
      have z44 : vals 44 = _ := hf 44 (by decide)
      try rw [z44]
      clear z44
      clear hf hdis
      have HB12 := Lib.hid (HB11.out.step hb12)
      have Fa := Lib.hid (Fa.out.below hb12)
      have Fal := Lib.hid (Fal.out.below hb12)
      have Fah := Lib.hid (Fah.out.below hb12)
      have FaV := Lib.hid (FaV.out.below hb12)
      have Fb := Lib.hid (Fb.out.below hb12)
      have Fbl := Lib.hid (Fbl.out.below hb12)
      have Fbh := Lib.hid (Fbh.out.below hb12)
      have FbV := Lib.hid (FbV.out.below hb12)
      have N11_3 := Lib.hid (N11_3.out.below hb12)
      have N11_7 := Lib.hid (N11_7.out.below hb12)
      have BX1 := Lib.hid (heap_below BX1.out hb12)
      have BX2 := Lib.hid (heap_below BX2.out hb12)
      have BX3 := Lib.hid (heap_below BX3.out hb12)
      have BX11_8 := Lib.hid (heap_below BX11_8.out hb12)
      have BX11_9 := Lib.hid (heap_below BX11_9.out hb12)
      clear hb12
      have N35_42 := Lib.hid hn35_42; clear hn35_42
      obtain ⟨s36, o36, n36, c36, a36, m36, d36, s36x, o36x, n36x, c36x, a36x, m36x, d36x, rfl⟩ := N35_42.out.shape
      have N35_42l := Lib.hid (isSp_ends N35_42.out).1; have N35_42h := Lib.hid (isSp_ends N35_42.out).2
      have N35_43 := Lib.hid hn35_43; clear hn35_43
      obtain ⟨s37, o37, n37, c37, a37, m37, d37, rfl⟩ := N35_43.out.shape
      skip
      have k38 := rl_sub (((1 : Int) : Rat)) (inK ((p_a, r_a)) k0)
      have hs := subq_any _ (((1 : Int) : Rat)) _ (inK ((p_a, r_a)) k0) w12 (N35_43.out.is (by omega)) (N11_3.out.is (by omega))
      have HS := Lib.hid hs; clear hs
      go_wp2_with (with_reducible first | refine pauseCall ?_ | refine pauseLoop ?_ | refine pauseDraw ?_ | refine pauseBody ?_ | refine pauseRounds ?_)
      refine Pause.mk ?_
      (with_reducible refine HS.out.mono ?_); rintro e w13 ⟨v13, rfl, hb13, hn13⟩
      clear HS
      have HB13 := Lib.hid (HB12.out.step hb13)
      have Fa := Lib.hid (Fa.out.below hb13)
      have Fal := Lib.hid (Fal.out.below hb13)
      have Fah := Lib.hid (Fah.out.below hb13)
      have FaV := Lib.hid (FaV.out.below hb13)
      have Fb := Lib.hid (Fb.out.below hb13)
      have Fbl := Lib.hid (Fbl.out.below hb13)
      have Fbh := Lib.hid (Fbh.out.below hb13)
      have FbV := Lib.hid (FbV.out.below hb13)
      have N11_3 := Lib.hid (N11_3.out.below hb13)
      have N11_7 := Lib.hid (N11_7.out.below hb13)
      have N35_42 := Lib.hid (N35_42.out.below hb13)
      have N35_42l := Lib.hid (N35_42l.out.below hb13)
      have N35_42h := Lib.hid (N35_42h.out.below hb13)
      have N35_43 := Lib.hid (N35_43.out.below hb13)
      have BX1 := Lib.hid (heap_below BX1.out hb13)
      have BX2 := Lib.hid (heap_below BX2.out hb13)
      have BX3 := Lib.hid (heap_below BX3.out hb13)
      have BX11_8 := Lib.hid (heap_below BX11_8.out hb13)
      have BX11_9 := Lib.hid (heap_below BX11_9.out hb13)
      have N13 := Lib.hid hn13; clear hn13
      obtain ⟨s39, o39, n39, c39, a39, m39, d39, rfl⟩ := N13.out.shape
      clear hb13
      have hs := contains_any _ (sNot ((p_a, r_a))) _ ((((1 : Int) : Rat)) - (inK ((p_a, r_a)) k0)) w13 (N35_42.out.is (sNot_ok HOa.out) (by omega) (by omega)) (N13.out.is (by omega)) (by omega) (by omega) (by omega)
      rw [HI6.out] at hs
      have HS := Lib.hid hs; clear hs
      go_wp2_with (with_reducible first | refine pauseCall ?_ | refine pauseLoop ?_ | refine pauseDraw ?_ | refine pauseBody ?_ | refine pauseRounds ?_)
      refine Pause.mk ?_
      (with_reducible refine HS.out.mono ?_); rintro e w14 ⟨rfl, hb14⟩
      clear HS
      have HB14 := Lib.hid (HB13.out.step hb14)
      have Fa := Lib.hid (Fa.out.below hb14)
      have Fal := Lib.hid (Fal.out.below hb14)
      have Fah := Lib.hid (Fah.out.below hb14)
      have FaV := Lib.hid (FaV.out.below hb14)
      have Fb := Lib.hid (Fb.out.below hb14)
      have Fbl := Lib.hid (Fbl.out.below hb14)
      have Fbh := Lib.hid (Fbh.out.below hb14)
      have FbV := Lib.hid (FbV.out.below hb14)
      have N11_3 := Lib.hid (N11_3.out.below hb14)
      have N11_7 := Lib.hid (N11_7.out.below hb14)
      have N35_42 := Lib.hid (N35_42.out.below hb14)
      have N35_42l := Lib.hid (N35_42l.out.below hb14)
      have N35_42h := Lib.hid (N35_42h.out.below hb14)
      have N35_43 := Lib.hid (N35_43.out.below hb14)
      have N13 := Lib.hid (N13.out.below hb14)
      have BX1 := Lib.hid (heap_below BX1.out hb14)
      have BX2 := Lib.hid (heap_below BX2.out hb14)
      have BX3 := Lib.hid (heap_below BX3.out hb14)
      have BX11_8 := Lib.hid (heap_below BX11_8.out hb14)
      have BX11_9 := Lib.hid (heap_below BX11_9.out hb14)
      clear hb14
      obtain ⟨x40_0, x40_1, x40_2, x40_3, x40_4, x40_5⟩ := row6 BX1.out
      obtain ⟨x41_0, x41_1, x41_2, x41_3, x41_4, x41_5⟩ := row6 BX2.out
      obtain ⟨kp44, kp44x⟩ : rl (((p_a), (r_a)) : Rat × Rat).1 ≤ rl (p_a) ∧ rl (((p_a), (r_a)) : Rat × Rat).2 ≤ rl (r_a) := ⟨Nat.le_refl _, Nat.le_refl _⟩
      obtain ⟨kp45, kp45x⟩ : rl (((p_b), (r_b)) : Rat × Rat).1 ≤ rl (p_b) ∧ rl (((p_b), (r_b)) : Rat × Rat).2 ≤ rl (r_b) := ⟨Nat.le_refl _, Nat.le_refl _⟩
      obtain ⟨k42, k43⟩ := rl_sdV ((p_a, r_a)) ((p_b, r_b))
      have hs := sdiv_any _ ((p_a, r_a)) _ ((p_b, r_b)) w14 (Fa.out.is HOa.out (by omega) (by omega)) (Fb.out.is HOb.out (by omega) (by omega)) (by omega) (by omega) (by omega) (by omega)
      rw [HS.out, errV_8] at hs
      have HS := Lib.hid hs; clear hs
      go_wp2_with (with_reducible first | refine pauseCall ?_ | refine pauseLoop ?_ | refine pauseDraw ?_ | refine pauseBody ?_ | refine pauseRounds ?_)
      clear x40_0 x40_1 x40_2 x40_3 x40_4 x40_5 x41_0 x41_1 x41_2 x41_3 x41_4 x41_5
      refine Pause.mk ?_
      (with_reducible refine HS.out.mono ?_); rintro e w15 ⟨v15, rfl, hb15, hn15⟩
      clear HS
      have HB15 := Lib.hid (HB14.out.step hb15)
      have Fa := Lib.hid (Fa.out.below hb15)
      have Fal := Lib.hid (Fal.out.below hb15)
      have Fah := Lib.hid (Fah.out.below hb15)
      have FaV := Lib.hid (FaV.out.below hb15)
      have Fb := Lib.hid (Fb.out.below hb15)
      have Fbl := Lib.hid (Fbl.out.below hb15)
      have Fbh := Lib.hid (Fbh.out.below hb15)
      have FbV := Lib.hid (FbV.out.below hb15)
      have N11_3 := Lib.hid (N11_3.out.below hb15)
      have N11_7 := Lib.hid (N11_7.out.below hb15)
      have N35_42 := Lib.hid (N35_42.out.below hb15)
      have N35_42l := Lib.hid (N35_42l.out.below hb15)
      have N35_42h := Lib.hid (N35_42h.out.below hb15)
      have N35_43 := Lib.hid (N35_43.out.below hb15)
      have N13 := Lib.hid (N13.out.below hb15)
      have BX1 := Lib.hid (heap_below BX1.out hb15)
      have BX2 := Lib.hid (heap_below BX2.out hb15)
      have BX3 := Lib.hid (heap_below BX3.out hb15)
      have BX11_8 := Lib.hid (heap_below BX11_8.out hb15)
      have BX11_9 := Lib.hid (heap_below BX11_9.out hb15)
      have N15 := Lib.hid hn15; clear hn15
      obtain ⟨s46, o46, n46, c46, a46, m46, d46, s46x, o46x, n46x, c46x, a46x, m46x, d46x, rfl⟩ := N15.out.shape
      have N15l := Lib.hid (isSp_ends N15.out).1; have N15h := Lib.hid (isSp_ends N15.out).2
      clear hb15
      obtain ⟨w16, hw16⟩ : ∃ w16, w16 = w15.alloc (.cells #[.bool s46, .slice o46 n46 c46, .slice a46 m46 d46, .bool s46x, .slice o46x n46x c46x, .slice a46x m46x d46x] 26) := ⟨_, rfl⟩
      have hb16 : Below w15.heap.size w15 w16 := by rw [hw16]; exact (Below.refl _ _).alloc (Nat.le_refl _) _
      have hx16 := heap_alloc_new w15 (.cells #[.bool s46, .slice o46 n46 c46, .slice a46 m46 d46, .bool s46x, .slice o46x n46x c46x, .slice a46x m46x d46x] 26)
      obtain ⟨g16, hg16⟩ : ∃ g, g = w15.heap.size := ⟨_, rfl⟩
      rw [← hw16, ← hg16] at hx16
      have lw16 : w.heap.size ≤ g16 := by rw [hg16]; exact HB15.out.size
      have ltBX116 : g1 < g16 := by rw [hg16]; exact below_lt BX1.out
      have ltBX216 : g2 < g16 := by rw [hg16]; exact below_lt BX2.out
      have ltBX316 : g3 < g16 := by rw [hg16]; exact below_lt BX3.out
      have ltBX11_816 : g11_8 < g16 := by rw [hg16]; exact below_lt BX11_8.out
      have ltBX11_916 : g11_9 < g16 := by rw [hg16]; exact below_lt BX11_9.out
      have HW16 := Lib.hid hw16; have HG16 := Lib.hid hg16; clear hw16 hg16
      have HB16 := Lib.hid (HB15.out.step hb16)
      have Fa := Lib.hid (Fa.out.below hb16)
      have Fal := Lib.hid (Fal.out.below hb16)
      have Fah := Lib.hid (Fah.out.below hb16)
      have FaV := Lib.hid (FaV.out.below hb16)
      have Fb := Lib.hid (Fb.out.below hb16)
      have Fbl := Lib.hid (Fbl.out.below hb16)
      have Fbh := Lib.hid (Fbh.out.below hb16)
      have FbV := Lib.hid (FbV.out.below hb16)
      have N11_3 := Lib.hid (N11_3.out.below hb16)
      have N11_7 := Lib.hid (N11_7.out.below hb16)
      have N35_42 := Lib.hid (N35_42.out.below hb16)
      have N35_42l := Lib.hid (N35_42l.out.below hb16)
      have N35_42h := Lib.hid (N35_42h.out.below hb16)
      have N35_43 := Lib.hid (N35_43.out.below hb16)
      have N13 := Lib.hid (N13.out.below hb16)
      have N15 := Lib.hid (N15.out.below hb16)
      have N15l := Lib.hid (N15l.out.below hb16)
      have N15h := Lib.hid (N15h.out.below hb16)
      have BX1 := Lib.hid (heap_below BX1.out hb16)
      have BX2 := Lib.hid (heap_below BX2.out hb16)
      have BX3 := Lib.hid (heap_below BX3.out hb16)
      have BX11_8 := Lib.hid (heap_below BX11_8.out hb16)
      have BX11_9 := Lib.hid (heap_below BX11_9.out hb16)
      have BX16 := Lib.hid hx16; clear hb16 hx16
      obtain ⟨x47_0, x47_1, x47_2⟩ := row3 BX11_8.out
      obtain ⟨x48_0, x48_1, x48_2⟩ := row3 BX11_9.out
      have k49 := rl_div' (inK ((p_a, r_a)) k0) (inK ((p_b, r_b)) k1)
      have hs := divq_any _ (inK ((p_a, r_a)) k0) _ (inK ((p_b, r_b)) k1) w16 (N11_3.out.is (by omega)) (N11_7.out.is (by omega))
      rw [HD.out, errV_zero] at hs
      have HS := Lib.hid hs; clear hs
      try rw [HW16.out] at x47_0
      try rw [HG16.out] at x47_0
      try rw [HW16.out] at x47_1
      try rw [HG16.out] at x47_1
      try rw [HW16.out] at x47_2
      try rw [HG16.out] at x47_2
      try rw [HW16.out] at x48_0
      try rw [HG16.out] at x48_0
      try rw [HW16.out] at x48_1
      try rw [HG16.out] at x48_1
      try rw [HW16.out] at x48_2
      try rw [HG16.out] at x48_2
      go_wp2_with (with_reducible first | refine pauseCall ?_ | refine pauseLoop ?_ | refine pauseDraw ?_ | refine pauseBody ?_ | refine pauseRounds ?_)
      try rw [← HW16.out]
      try rw [← HG16.out]
      clear x47_0 x47_1 x47_2 x48_0 x48_1 x48_2
      refine Pause.mk ?_
      (with_reducible refine HS.out.mono ?_); rintro e w17 ⟨v17, rfl, hb17, hn17⟩
      clear HS
      have HB17 := Lib.hid (HB16.out.step hb17)
      have Fa := Lib.hid (Fa.out.below hb17)
      have Fal := Lib.hid (Fal.out.below hb17)
      have Fah := Lib.hid (Fah.out.below hb17)
      have FaV := Lib.hid (FaV.out.below hb17)
      have Fb := Lib.hid (Fb.out.below hb17)
      have Fbl := Lib.hid (Fbl.out.below hb17)
      have Fbh := Lib.hid (Fbh.out.below hb17)
      have FbV := Lib.hid (FbV.out.below hb17)
      have N11_3 := Lib.hid (N11_3.out.below hb17)
      have N11_7 := Lib.hid (N11_7.out.below hb17)
      have N35_42 := Lib.hid (N35_42.out.below hb17)
      have N35_42l := Lib.hid (N35_42l.out.below hb17)
      have N35_42h := Lib.hid (N35_42h.out.below hb17)
      have N35_43 := Lib.hid (N35_43.out.below hb17)
      have N13 := Lib.hid (N13.out.below hb17)
      have N15 := Lib.hid (N15.out.below hb17)
      have N15l := Lib.hid (N15l.out.below hb17)
      have N15h := Lib.hid (N15h.out.below hb17)
      have BX1 := Lib.hid (heap_below BX1.out hb17)
      have BX2 := Lib.hid (heap_below BX2.out hb17)
      have BX3 := Lib.hid (heap_below BX3.out hb17)
      have BX11_8 := Lib.hid (heap_below BX11_8.out hb17)
      have BX11_9 := Lib.hid (heap_below BX11_9.out hb17)
      have BX16 := Lib.hid (heap_below BX16.out hb17)
      have N17 := Lib.hid hn17; clear hn17
      obtain ⟨s50, o50, n50, c50, a50, m50, d50, rfl⟩ := N17.out.shape
      clear hb17
      obtain ⟨w18, hw18⟩ : ∃ w18, w18 = w17.alloc (.cells #[.bool s50, .slice o50 n50 c50, .slice a50 m50 d50] 24) := ⟨_, rfl⟩
      have hb18 : Below w17.heap.size w17 w18 := by rw [hw18]; exact (Below.refl _ _).alloc (Nat.le_refl _) _
      have hx18 := heap_alloc_new w17 (.cells #[.bool s50, .slice o50 n50 c50, .slice a50 m50 d50] 24)
      obtain ⟨g18, hg18⟩ : ∃ g, g = w17.heap.size := ⟨_, rfl⟩
      rw [← hw18, ← hg18] at hx18
      have lw18 : w.heap.size ≤ g18 := by rw [hg18]; exact HB17.out.size
      have ltBX118 : g1 < g18 := by rw [hg18]; exact below_lt BX1.out
      have ltBX218 : g2 < g18 := by rw [hg18]; exact below_lt BX2.out
      have ltBX318 : g3 < g18 := by rw [hg18]; exact below_lt BX3.out
      have ltBX11_818 : g11_8 < g18 := by rw [hg18]; exact below_lt BX11_8.out
      have ltBX11_918 : g11_9 < g18 := by rw [hg18]; exact below_lt BX11_9.out
      have ltBX1618 : g16 < g18 := by rw [hg18]; exact below_lt BX16.out
      have HW18 := Lib.hid hw18; have HG18 := Lib.hid hg18; clear hw18 hg18
      have HB18 := Lib.hid (HB17.out.step hb18)
      have Fa := Lib.hid (Fa.out.below hb18)
      have Fal := Lib.hid (Fal.out.below hb18)
      have Fah := Lib.hid (Fah.out.below hb18)
      have FaV := Lib.hid (FaV.out.below hb18)
      have Fb := Lib.hid (Fb.out.below hb18)
      have Fbl := Lib.hid (Fbl.out.below hb18)
      have Fbh := Lib.hid (Fbh.out.below hb18)
      have FbV := Lib.hid (FbV.out.below hb18)
      have N11_3 := Lib.hid (N11_3.out.below hb18)
      have N11_7 := Lib.hid (N11_7.out.below hb18)
      have N35_42 := Lib.hid (N35_42.out.below hb18)
      have N35_42l := Lib.hid (N35_42l.out.below hb18)
      have N35_42h := Lib.hid (N35_42h.out.below hb18)
      have N35_43 := Lib.hid (N35_43.out.below hb18)
      have N13 := Lib.hid (N13.out.below hb18)
      have N15 := Lib.hid (N15.out.below hb18)
      have N15l := Lib.hid (N15l.out.below hb18)
      have N15h := Lib.hid (N15h.out.below hb18)
      have N17 := Lib.hid (N17.out.below hb18)
      have BX1 := Lib.hid (heap_below BX1.out hb18)
      have BX2 := Lib.hid (heap_below BX2.out hb18)
      have BX3 := Lib.hid (heap_below BX3.out hb18)
      have BX11_8 := Lib.hid (heap_below BX11_8.out hb18)
      have BX11_9 := Lib.hid (heap_below BX11_9.out hb18)
      have BX16 := Lib.hid (heap_below BX16.out hb18)
      have BX18 := Lib.hid hx18; clear hb18 hx18
      have hs := is_any 8 8 8 w18 rfl (by decide)
      rw [show decide ((8 : Nat) = 8) = true from by decide, errV_8] at hs
      have HS := Lib.hid hs; clear hs
      go_wp2_with (with_reducible first | refine pauseCall ?_ | refine pauseLoop ?_ | refine pauseDraw ?_ | refine pauseBody ?_ | refine pauseRounds ?_)
      try rw [← HW18.out]
      try rw [← HG18.out]
      refine Pause.mk ?_
      (with_reducible refine HS.out.mono ?_); rintro e wx ⟨rfl, rfl⟩
      clear HS
      obtain ⟨x51_0, x51_1, x51_2, x51_3, x51_4, x51_5⟩ := row6 BX2.out
      obtain ⟨kp52, kp52x⟩ : rl (((p_b), (r_b)) : Rat × Rat).1 ≤ rl (p_b) ∧ rl (((p_b), (r_b)) : Rat × Rat).2 ≤ rl (r_b) := ⟨Nat.le_refl _, Nat.le_refl _⟩
      have hs := contains_any _ ((p_b, r_b)) _ (0) w18 (Fb.out.is HOb.out (by omega) (by omega)) ((isR_zero _).is (by rw [rl_zero]; decide)) (by omega) (by omega) (by omega)
      rw [HI7.out] at hs
      have HS := Lib.hid hs; clear hs
      go_wp2_with (with_reducible first | refine pauseCall ?_ | refine pauseLoop ?_ | refine pauseDraw ?_ | refine pauseBody ?_ | refine pauseRounds ?_)
      clear x51_0 x51_1 x51_2 x51_3 x51_4 x51_5
      refine Pause.mk ?_
      (with_reducible refine HS.out.mono ?_); rintro e w20 ⟨rfl, hb20⟩
      clear HS
      have HB20 := Lib.hid (HB18.out.step hb20)
      have Fa := Lib.hid (Fa.out.below hb20)
      have Fal := Lib.hid (Fal.out.below hb20)
      have Fah := Lib.hid (Fah.out.below hb20)
      have FaV := Lib.hid (FaV.out.below hb20)
      have Fb := Lib.hid (Fb.out.below hb20)
      have Fbl := Lib.hid (Fbl.out.below hb20)
      have Fbh := Lib.hid (Fbh.out.below hb20)
      have FbV := Lib.hid (FbV.out.below hb20)
      have N11_3 := Lib.hid (N11_3.out.below hb20)
      have N11_7 := Lib.hid (N11_7.out.below hb20)
      have N35_42 := Lib.hid (N35_42.out.below hb20)
      have N35_42l := Lib.hid (N35_42l.out.below hb20)
      have N35_42h := Lib.hid (N35_42h.out.below hb20)
      have N35_43 := Lib.hid (N35_43.out.below hb20)
      have N13 := Lib.hid (N13.out.below hb20)
      have N15 := Lib.hid (N15.out.below hb20)
      have N15l := Lib.hid (N15l.out.below hb20)
      have N15h := Lib.hid (N15h.out.below hb20)
      have N17 := Lib.hid (N17.out.below hb20)
      have BX1 := Lib.hid (heap_below BX1.out hb20)
      have BX2 := Lib.hid (heap_below BX2.out hb20)
      have BX3 := Lib.hid (heap_below BX3.out hb20)
      have BX11_8 := Lib.hid (heap_below BX11_8.out hb20)
      have BX11_9 := Lib.hid (heap_below BX11_9.out hb20)
      have BX16 := Lib.hid (heap_below BX16.out hb20)
      have BX18 := Lib.hid (heap_below BX18.out hb20)
      clear hb20
      go_wp2_with (with_reducible first | refine pauseCall ?_ | refine pauseLoop ?_ | refine pauseDraw ?_ | refine pauseBody ?_ | refine pauseRounds ?_)
      refine Pause.mk ?_
      go_ret
      exact ⟨by first | rfl | (simp; done), HB20.out⟩
set_option maxRecDepth 100000 in
set_option maxHeartbeats 12800000 in
theorem spancontains_ok3 (va : Value) (sa : Bool) (aa ba : List Nat) (ta : Bool) (ca da : List Nat) (vb : Value) (sb : Bool) (ab bb : List Nat) (tb : Bool) (cb db : List Nat) (k0 : Nat) (k1 : Nat) (w : World) (ha : SpV w va sa aa ba ta ca da) (la1 : aa.length ≤ 6) (la2 : ba.length ≤ 6) (la3 : ca.length ≤ 6) (la4 : da.length ≤ 6) (hva : Vld sa aa ba ∧ Vld ta ca da ∧ rq sa aa ba ≤ rq ta ca da) (hb : SpV w vb sb ab bb tb cb db) (lb1 : ab.length ≤ 6) (lb2 : bb.length ≤ 6) (lb3 : cb.length ≤ 6) (lb4 : db.length ≤ 6) (hvb : Vld sb ab bb ∧ Vld tb cb db ∧ rq sb ab bb ≤ rq tb cb db) (hk0 : k0 < 256) (hk1 : k1 < 256) (hz : ¬ inS (rq sb ab bb, rq tb cb db) 0) :
    Calls Tryd.prog 5 #[va, vb, .agg #[.int .u8 (k0 : Nat), .int .u8 (k1 : Nat)]] w (RetV w (.bool true)) := by
  have HBW := Lib.hid (Below.refl w.heap.size w)
  have kz0 : rl 0 ≤ 1 := by rw [rl_zero]; exact Nat.le_refl _
  have za := ha.sz.2
  obtain ⟨qa, oa, na, ka, pa, ma, ra, qax, oax, nax, kax, pax, max, rax, rfl⟩ := ha.shape
  have Za : na ≤ 6 ∧ ma ≤ 6 ∧ nax ≤ 6 ∧ max ≤ 6 := by have e1 : na = _ := congrArg (·.1) za; have e2 : ma = _ := congrArg (·.2.1) za; have e3 : nax = _ := congrArg (·.2.2.1) za; have e4 : max = _ := congrArg (·.2.2.2) za; rw [e1, e2, e3, e4]; exact ⟨la1, la2, la3, la4⟩
  clear za
  have hla1 : rl (rq sa aa ba) ≤ 6 := rl_rq ha.lt.1.1 ha.lt.1.2 la1 la2 (by decide); have hla2 : rl (rq ta ca da) ≤ 6 := rl_rq ha.lt.2.1 ha.lt.2.2 la3 la4 (by decide)
  have FaI := spV_isSp ha hva.1 hva.2.1
  have hoa := hva.2.2
  have HVa := Lib.hid (decide_eq_true hva); clear hva
  have FaV := Lib.hid ha; clear ha
  obtain ⟨p_a, hpa⟩ : ∃ p, p = rq sa aa ba := ⟨_, rfl⟩; obtain ⟨r_a, hra⟩ : ∃ r, r = rq ta ca da := ⟨_, rfl⟩
  rw [← hpa, ← hra] at FaI; rw [← hpa] at hla1 hoa; rw [← hra] at hla2 hoa
  try rw [← hpa] at hz
  try rw [← hra] at hz
  clear hpa hra
  have HOa := Lib.hid hoa; clear hoa
  have Fal := Lib.hid (show IsR _ _ p_a from (isSp_ends FaI).1); have Fah := Lib.hid (show IsR _ _ r_a from (isSp_ends FaI).2); have Fa := Lib.hid FaI; clear FaI
  have zb := hb.sz.2
  obtain ⟨qb, ob, nb, kb, pb, mb, rb, qbx, obx, nbx, kbx, pbx, mbx, rbx, rfl⟩ := hb.shape
  have Zb : nb ≤ 6 ∧ mb ≤ 6 ∧ nbx ≤ 6 ∧ mbx ≤ 6 := by have e1 : nb = _ := congrArg (·.1) zb; have e2 : mb = _ := congrArg (·.2.1) zb; have e3 : nbx = _ := congrArg (·.2.2.1) zb; have e4 : mbx = _ := congrArg (·.2.2.2) zb; rw [e1, e2, e3, e4]; exact ⟨lb1, lb2, lb3, lb4⟩
  clear zb
  have hlb1 : rl (rq sb ab bb) ≤ 6 := rl_rq hb.lt.1.1 hb.lt.1.2 lb1 lb2 (by decide); have hlb2 : rl (rq tb cb db) ≤ 6 := rl_rq hb.lt.2.1 hb.lt.2.2 lb3 lb4 (by decide)
  have FbI := spV_isSp hb hvb.1 hvb.2.1
  have hob := hvb.2.2
  have HVb := Lib.hid (decide_eq_true hvb); clear hvb
  have FbV := Lib.hid hb; clear hb
  obtain ⟨p_b, hpb⟩ : ∃ p, p = rq sb ab bb := ⟨_, rfl⟩; obtain ⟨r_b, hrb⟩ : ∃ r, r = rq tb cb db := ⟨_, rfl⟩
  rw [← hpb, ← hrb] at FbI; rw [← hpb] at hlb1 hob; rw [← hrb] at hlb2 hob
  try rw [← hpb] at hz
  try rw [← hrb] at hz
  clear hpb hrb
  have HOb := Lib.hid hob; clear hob
  have Fbl := Lib.hid (show IsR _ _ p_b from (isSp_ends FbI).1); have Fbh := Lib.hid (show IsR _ _ r_b from (isSp_ends FbI).2); have Fb := Lib.hid FbI; clear FbI
  have hX : inS (p_a, r_a) (inK (p_a, r_a) k0) := inK_in HOa.out (by omega)
  have hY : inS (p_b, r_b) (inK (p_b, r_b) k1) := inK_in HOb.out (by omega)
  have HI1 := Lib.hid (decide_eq_true (show inS ((p_a, r_a)) (inK ((p_a, r_a)) k0) from hX))
  have HI2 := Lib.hid (decide_eq_true (show inS ((p_b, r_b)) (inK ((p_b, r_b)) k1) from hY))
  have HI3 := Lib.hid (decide_eq_true (show inS (sAdd ((p_a, r_a)) ((p_b, r_b))) ((inK ((p_a, r_a)) k0) + (inK ((p_b, r_b)) k1)) from in_add hX hY))
  have HI4 := Lib.hid (decide_eq_true (show inS (sSub ((p_a, r_a)) ((p_b, r_b))) ((inK ((p_a, r_a)) k0) - (inK ((p_b, r_b)) k1)) from in_sub hX hY))
  have HI5 := Lib.hid (decide_eq_true (show inS (sMul ((p_a, r_a)) ((p_b, r_b))) ((inK ((p_a, r_a)) k0) * (inK ((p_b, r_b)) k1)) from in_mul hX hY))
  have HI6 := Lib.hid (decide_eq_true (show inS (sNot ((p_a, r_a))) ((((1 : Int) : Rat)) - (inK ((p_a, r_a)) k0)) from (show inS (1 - r_a, 1 - p_a) (1 - inK (p_a, r_a) k0) from by unfold inS at hX ⊢; obtain ⟨q1, q2⟩ := hX; constructor <;> grind)))
  have HI7 := Lib.hid (decide_eq_false (show ¬ inS ((p_b, r_b)) (0) from hz))
  have HS := Lib.hid (show sdC ((p_b, r_b)) = 0 from if_neg hz)
  have HD := Lib.hid (show dc (inK ((p_b, r_b)) k1) = 0 from if_neg (fun e => hz (by rw [← e]; exact hY)))
  have HI8 := Lib.hid (decide_eq_true (show inS (sdV ((p_a, r_a)) ((p_b, r_b))) ((inK ((p_a, r_a)) k0) / (inK ((p_b, r_b)) k1)) from by rw [show sdV ((p_a, r_a)) ((p_b, r_b)) = sDiv ((p_a, r_a)) ((p_b, r_b)) from if_neg hz]; exact in_div hX hY hz))
  clear hX hY hz
  obtain ⟨w1, hw1⟩ : ∃ w1, w1 = w.alloc (.cells #[.bool qa, .slice oa na ka, .slice pa ma ra, .bool qax, .slice oax nax kax, .slice pax max rax] 26) := ⟨_, rfl⟩
  have hb1 : Below w.heap.size w w1 := by rw [hw1]; exact (Below.refl _ _).alloc (Nat.le_refl _) _
  have hx1 := heap_alloc_new w (.cells #[.bool qa, .slice oa na ka, .slice pa ma ra, .bool qax, .slice oax nax kax, .slice pax max rax] 26)
  obtain ⟨g1, hg1⟩ : ∃ g, g = w.heap.size := ⟨_, rfl⟩
  rw [← hw1, ← hg1] at hx1
  have lw1 : w.heap.size ≤ g1 := by rw [hg1]; exact HBW.out.size
  have HW1 := Lib.hid hw1; have HG1 := Lib.hid hg1; clear hw1 hg1
  have HB1 := Lib.hid (HBW.out.step hb1)
  have Fa := Lib.hid (Fa.out.below hb1)
  have Fal := Lib.hid (Fal.out.below hb1)
  have Fah := Lib.hid (Fah.out.below hb1)
  have FaV := Lib.hid (FaV.out.below hb1)
  have Fb := Lib.hid (Fb.out.below hb1)
  have Fbl := Lib.hid (Fbl.out.below hb1)
  have Fbh := Lib.hid (Fbh.out.below hb1)
  have FbV := Lib.hid (FbV.out.below hb1)
  have BX1 := Lib.hid hx1; clear hb1 hx1
  obtain ⟨w2, hw2⟩ : ∃ w2, w2 = w1.alloc (.cells #[.bool qb, .slice ob nb kb, .slice pb mb rb, .bool qbx, .slice obx nbx kbx, .slice pbx mbx rbx] 26) := ⟨_, rfl⟩
  have hb2 : Below w1.heap.size w1 w2 := by rw [hw2]; exact (Below.refl _ _).alloc (Nat.le_refl _) _
  have hx2 := heap_alloc_new w1 (.cells #[.bool qb, .slice ob nb kb, .slice pb mb rb, .bool qbx, .slice obx nbx kbx, .slice pbx mbx rbx] 26)
  obtain ⟨g2, hg2⟩ : ∃ g, g = w1.heap.size := ⟨_, rfl⟩
  rw [← hw2, ← hg2] at hx2
  have lw2 : w.heap.size ≤ g2 := by rw [hg2]; exact HB1.out.size
  have ltBX12 : g1 < g2 := by rw [hg2]; exact below_lt BX1.out
  have hs2 : g2 = w.heap.size + 1 := by rw [hg2, HW1.out]; simp
  have HS2 := Lib.hid hs2; clear hs2
  have HW2 := Lib.hid hw2; have HG2 := Lib.hid hg2; clear hw2 hg2
  have HB2 := Lib.hid (HB1.out.step hb2)
  have Fa := Lib.hid (Fa.out.below hb2)
  have Fal := Lib.hid (Fal.out.below hb2)
  have Fah := Lib.hid (Fah.out.below hb2)
  have FaV := Lib.hid (FaV.out.below hb2)
  have Fb := Lib.hid (Fb.out.below hb2)
  have Fbl := Lib.hid (Fbl.out.below hb2)
  have Fbh := Lib.hid (Fbh.out.below hb2)
  have FbV := Lib.hid (FbV.out.below hb2)
  have BX1 := Lib.hid (heap_below BX1.out hb2)
  have BX2 := Lib.hid hx2; clear hb2 hx2
  obtain ⟨w3, hw3⟩ : ∃ w3, w3 = w2.alloc (.cells #[.int .u8 (k0 : Nat), .int .u8 (k1 : Nat)] 43) := ⟨_, rfl⟩
  have hb3 : Below w2.heap.size w2 w3 := by rw [hw3]; exact (Below.refl _ _).alloc (Nat.le_refl _) _
  have hx3 := heap_alloc_new w2 (.cells #[.int .u8 (k0 : Nat), .int .u8 (k1 : Nat)] 43)
  obtain ⟨g3, hg3⟩ : ∃ g, g = w2.heap.size := ⟨_, rfl⟩
  rw [← hw3, ← hg3] at hx3
  have lw3 : w.heap.size ≤ g3 := by rw [hg3]; exact HB2.out.size
  have ltBX13 : g1 < g3 := by rw [hg3]; exact below_lt BX1.out
  have ltBX23 : g2 < g3 := by rw [hg3]; exact below_lt BX2.out
  have hs3 : g3 = w.heap.size + 2 := by rw [hg3, HW2.out, HW1.out]; simp
  have HS3 := Lib.hid hs3; clear hs3
  have HW3 := Lib.hid hw3; have HG3 := Lib.hid hg3; clear hw3 hg3
  have HB3 := Lib.hid (HB2.out.step hb3)
  have Fa := Lib.hid (Fa.out.below hb3)
  have Fal := Lib.hid (Fal.out.below hb3)
  have Fah := Lib.hid (Fah.out.below hb3)
  have FaV := Lib.hid (FaV.out.below hb3)
  have Fb := Lib.hid (Fb.out.below hb3)
  have Fbl := Lib.hid (Fbl.out.below hb3)
  have Fbh := Lib.hid (Fbh.out.below hb3)
  have FbV := Lib.hid (FbV.out.below hb3)
  have BX1 := Lib.hid (heap_below BX1.out hb3)
  have BX2 := Lib.hid (heap_below BX2.out hb3)
  have BX3 := Lib.hid hx3; clear hb3 hx3
  go_enter Tryd.func5, Tryd.ntmps5
  have hs := awake03 w3
  have HS := Lib.hid hs; clear hs
  go_wp2_with (with_reducible first | refine pauseCall ?_ | refine pauseLoop ?_ | refine pauseDraw ?_ | refine pauseBody ?_ | refine pauseRounds ?_)
  try rw [← HW1.out]
  try rw [← HW2.out]
  try rw [← HW3.out]
  try rw [← HS3.out]
  try rw [← HS2.out]
  try rw [← HG1.out]
  try rw [← HG2.out]
  try rw [← HG3.out]
  refine Pause.mk ?_
  (with_reducible refine HS.out.mono ?_); rintro e w4 ⟨rfl, hb4⟩
  clear HS
  have HB4 := Lib.hid (HB3.out.step hb4)
  have Fa := Lib.hid (Fa.out.below hb4)
  have Fal := Lib.hid (Fal.out.below hb4)
  have Fah := Lib.hid (Fah.out.below hb4)
  have FaV := Lib.hid (FaV.out.below hb4)
  have Fb := Lib.hid (Fb.out.below hb4)
  have Fbl := Lib.hid (Fbl.out.below hb4)
  have Fbh := Lib.hid (Fbh.out.below hb4)
  have FbV := Lib.hid (FbV.out.below hb4)
  have BX1 := Lib.hid (heap_below BX1.out hb4)
  have BX2 := Lib.hid (heap_below BX2.out hb4)
  have BX3 := Lib.hid (heap_below BX3.out hb4)
  clear hb4
  obtain ⟨x1_0, x1_1, x1_2, x1_3, x1_4, x1_5⟩ := row6 BX1.out
  obtain ⟨x2_0, x2_1, x2_2, x2_3, x2_4, x2_5⟩ := row6 BX2.out
  obtain ⟨w5, hw5⟩ : ∃ w5, w5 = w4.alloc (.cells #[.bool qa, .slice oa na ka, .slice pa ma ra, .bool qax, .slice oax nax kax, .slice pax max rax, .bool qb, .slice ob nb kb, .slice pb mb rb, .bool qbx, .slice obx nbx kbx, .slice pbx mbx rbx] 26) := ⟨_, rfl⟩
  have hb5 : Below w4.heap.size w4 w5 := by rw [hw5]; exact (Below.refl _ _).alloc (Nat.le_refl _) _
  have hx5 := heap_alloc_new w4 (.cells #[.bool qa, .slice oa na ka, .slice pa ma ra, .bool qax, .slice oax nax kax, .slice pax max rax, .bool qb, .slice ob nb kb, .slice pb mb rb, .bool qbx, .slice obx nbx kbx, .slice pbx mbx rbx] 26)
  obtain ⟨g5, hg5⟩ : ∃ g, g = w4.heap.size := ⟨_, rfl⟩
  rw [← hw5, ← hg5] at hx5
  have lw5 : w.heap.size ≤ g5 := by rw [hg5]; exact HB4.out.size
  have ltBX15 : g1 < g5 := by rw [hg5]; exact below_lt BX1.out
  have ltBX25 : g2 < g5 := by rw [hg5]; exact below_lt BX2.out
  have ltBX35 : g3 < g5 := by rw [hg5]; exact below_lt BX3.out
  have HW5 := Lib.hid hw5; have HG5 := Lib.hid hg5; clear hw5 hg5
  have HB5 := Lib.hid (HB4.out.step hb5)
  have Fa := Lib.hid (Fa.out.below hb5)
  have Fal := Lib.hid (Fal.out.below hb5)
  have Fah := Lib.hid (Fah.out.below hb5)
  have FaV := Lib.hid (FaV.out.below hb5)
  have Fb := Lib.hid (Fb.out.below hb5)
  have Fbl := Lib.hid (Fbl.out.below hb5)
  have Fbh := Lib.hid (Fbh.out.below hb5)
  have FbV := Lib.hid (FbV.out.below hb5)
  have BX1 := Lib.hid (heap_below BX1.out hb5)
  have BX2 := Lib.hid (heap_below BX2.out hb5)
  have BX3 := Lib.hid (heap_below BX3.out hb5)
  have BX5 := Lib.hid hx5; clear hb5 hx5
  have hs := slarge2s BX5.out Za Zb
  have HS := Lib.hid hs; clear hs
  try rw [HG5.out] at x1_0
  try rw [HG5.out] at x1_1
  try rw [HG5.out] at x1_2
  try rw [HG5.out] at x1_3
  try rw [HG5.out] at x1_4
  try rw [HG5.out] at x1_5
  try rw [HG5.out] at x2_0
  try rw [HG5.out] at x2_1
  try rw [HG5.out] at x2_2
  try rw [HG5.out] at x2_3
  try rw [HG5.out] at x2_4
  try rw [HG5.out] at x2_5
  go_wp2_with (with_reducible first | refine pauseCall ?_ | refine pauseLoop ?_ | refine pauseDraw ?_ | refine pauseBody ?_ | refine pauseRounds ?_)
  try rw [← HW5.out]
  try rw [← HG5.out]
  clear x1_0 x1_1 x1_2 x1_3 x1_4 x1_5 x2_0 x2_1 x2_2 x2_3 x2_4 x2_5
  refine Pause.mk ?_
  (with_reducible refine HS.out.mono ?_); rintro e w6 ⟨rfl, hb6⟩
  clear HS
  have HB6 := Lib.hid (HB5.out.step hb6)
  have Fa := Lib.hid (Fa.out.below hb6)
  have Fal := Lib.hid (Fal.out.below hb6)
  have Fah := Lib.hid (Fah.out.below hb6)
  have FaV := Lib.hid (FaV.out.below hb6)
  have Fb := Lib.hid (Fb.out.below hb6)
  have Fbl := Lib.hid (Fbl.out.below hb6)
  have Fbh := Lib.hid (Fbh.out.below hb6)
  have FbV := Lib.hid (FbV.out.below hb6)
  have BX1 := Lib.hid (heap_below BX1.out hb6)
  have BX2 := Lib.hid (heap_below BX2.out hb6)
  have BX3 := Lib.hid (heap_below BX3.out hb6)
  have BX5 := Lib.hid (heap_below BX5.out hb6)
  clear BX5
  clear hb6
  obtain ⟨x3_0, x3_1, x3_2, x3_3, x3_4, x3_5⟩ := row6 BX1.out
  obtain ⟨kp4, kp4x⟩ : rl (((p_a), (r_a)) : Rat × Rat).1 ≤ rl (p_a) ∧ rl (((p_a), (r_a)) : Rat × Rat).2 ≤ rl (r_a) := ⟨Nat.le_refl _, Nat.le_refl _⟩
  have hs := svalid_any _ sa aa ba ta ca da w6 FaV.out (by omega) (by omega) (by omega) (by omega)
  rw [HVa.out] at hs
  have HS := Lib.hid hs; clear hs
  go_wp2_with (with_reducible first | refine pauseCall ?_ | refine pauseLoop ?_ | refine pauseDraw ?_ | refine pauseBody ?_ | refine pauseRounds ?_)
  clear x3_0 x3_1 x3_2 x3_3 x3_4 x3_5
  refine Pause.mk ?_
  (with_reducible refine HS.out.mono ?_); rintro e w7 ⟨rfl, hb7⟩
  clear HS
  have HB7 := Lib.hid (HB6.out.step hb7)
  have Fa := Lib.hid (Fa.out.below hb7)
  have Fal := Lib.hid (Fal.out.below hb7)
  have Fah := Lib.hid (Fah.out.below hb7)
  have FaV := Lib.hid (FaV.out.below hb7)
  have Fb := Lib.hid (Fb.out.below hb7)
  have Fbl := Lib.hid (Fbl.out.below hb7)
  have Fbh := Lib.hid (Fbh.out.below hb7)
  have FbV := Lib.hid (FbV.out.below hb7)
  have BX1 := Lib.hid (heap_below BX1.out hb7)
  have BX2 := Lib.hid (heap_below BX2.out hb7)
  have BX3 := Lib.hid (heap_below BX3.out hb7)
  clear hb7
  obtain ⟨x5_0, x5_1, x5_2, x5_3, x5_4, x5_5⟩ := row6 BX2.out
  obtain ⟨kp6, kp6x⟩ : rl (((p_b), (r_b)) : Rat × Rat).1 ≤ rl (p_b) ∧ rl (((p_b), (r_b)) : Rat × Rat).2 ≤ rl (r_b) := ⟨Nat.le_refl _, Nat.le_refl _⟩
  have hs := svalid_any _ sb ab bb tb cb db w7 FbV.out (by omega) (by omega) (by omega) (by omega)
  rw [HVb.out] at hs
  have HS := Lib.hid hs; clear hs
  go_wp2_with (with_reducible first | refine pauseCall ?_ | refine pauseLoop ?_ | refine pauseDraw ?_ | refine pauseBody ?_ | refine pauseRounds ?_)
  clear x5_0 x5_1 x5_2 x5_3 x5_4 x5_5
  refine Pause.mk ?_
  (with_reducible refine HS.out.mono ?_); rintro e w8 ⟨rfl, hb8⟩
  clear HS
  have HB8 := Lib.hid (HB7.out.step hb8)
  have Fa := Lib.hid (Fa.out.below hb8)
  have Fal := Lib.hid (Fal.out.below hb8)
  have Fah := Lib.hid (Fah.out.below hb8)
  have FaV := Lib.hid (FaV.out.below hb8)
  have Fb := Lib.hid (Fb.out.below hb8)
  have Fbl := Lib.hid (Fbl.out.below hb8)
  have Fbh := Lib.hid (Fbh.out.below hb8)
  have FbV := Lib.hid (FbV.out.below hb8)
  have BX1 := Lib.hid (heap_below BX1.out hb8)
  have BX2 := Lib.hid (heap_below BX2.out hb8)
  have BX3 := Lib.hid (heap_below BX3.out hb8)
  clear hb8
  go_wp2_with (with_reducible first | refine pauseCall ?_ | refine pauseLoop ?_ | refine pauseDraw ?_ | refine pauseBody ?_ | refine pauseRounds ?_)
  refine Pause.mk ?_
  obtain ⟨kp8, kp8x⟩ : rl (((p_a), (r_a)) : Rat × Rat).1 ≤ rl (p_a) ∧ rl (((p_a), (r_a)) : Rat × Rat).2 ≤ rl (r_a) := ⟨Nat.le_refl _, Nat.le_refl _⟩
  have k7 := rl_inK ((p_a, r_a)) k0 (by omega)
  obtain ⟨kp10, kp10x⟩ : rl (((p_b), (r_b)) : Rat × Rat).1 ≤ rl (p_b) ∧ rl (((p_b), (r_b)) : Rat × Rat).2 ≤ rl (r_b) := ⟨Nat.le_refl _, Nat.le_refl _⟩
  have k9 := rl_inK ((p_b, r_b)) k1 (by omega)
  refine wp_region_facts (A := ?aa11) (w := w8) 10 [] (by kernel_rfl) (Fl [KEq (.agg #[.bool qa, .slice oa na ka, .slice pa ma ra, .bool qax, .slice oax nax kax, .slice pax max rax]), KEq (.pointer (some ⟨g3, 0, none⟩)), KEq (.int .u8 (k0 : Nat)), KIs (inK ((p_a, r_a)) k0), KEq (.agg #[.bool qb, .slice ob nb kb, .slice pb mb rb, .bool qbx, .slice obx nbx kbx, .slice pbx mbx rbx]), KEq (.pointer (some ⟨g3, 1, none⟩)), KEq (.int .u8 (k1 : Nat)), KIs (inK ((p_b, r_b)) k1), KNew w8.heap.size #[.bool false, .slice none 0 0, .slice none 0 0] 24, KNew w8.heap.size #[.bool false, .slice none 0 0, .slice none 0 0] 24]) (fun i => i == 8 || i == 9) (by kernel_rfl) ?hq11 (monoL (monoC (kEq _) (monoC (kEq _) (monoC (kEq _) (monoC (kIs _) (monoC (kEq _) (monoC (kEq _) (monoC (kEq _) (monoC (kIs _) (monoC (kNew _ _ _) (monoC (kNew _ _ _) monoN))))))))))) ?ha11 ?st11 ?tl11
  case hq11 =>
    intro c a d v w h
    first | (simp only [Exit.then] at h ⊢; exact h) | (simp only [Exit.inBlock, Exit.then] at h ⊢; exact h) | exact h
  case ha11 =>
    intro vals
    simp only [putsTo, dstOf, if_true, Act.put, List.setIfInBounds_toArray, List.set_cons_zero, List.set_cons_succ, List.getElem?_toArray, List.getElem?_cons_zero, List.getElem?_cons_succ, Option.bind_some]
    exact rfl
  case st11 =>
    simp only [List.take_succ_cons, List.take_zero]
    refine stepsOK_cons rfl rfl ?_ (stepsOK_cons rfl rfl ?_ (stepsOK_cons rfl rfl ?_ (stepsOK_cons rfl rfl ?_ (stepsOK_cons rfl rfl ?_ (stepsOK_cons rfl rfl ?_ (stepsOK_cons rfl rfl ?_ (stepsOK_cons rfl rfl ?_ (stepsOK_cons rfl rfl ?_ (stepsOK_cons rfl rfl ?_ (stepsOK_nil))))))))))
    · intro vals w1 hb hd
      obtain ⟨e0, e1, e2, e3, e4, e5⟩ := row6 (heap_below BX1.out hb)
      refine stepOK_value (v := .agg #[.bool qa, .slice oa na ka, .slice pa ma ra, .bool qax, .slice oax nax kax, .slice pax max rax]) (w' := w1) (by go_simp) (leaves_mk (Below.refl _ _) rfl (fun h => by cases h))
    · intro vals w1 hb hd
      refine stepOK_value (v := (.pointer (some ⟨g3, 0, none⟩))) (w' := w1) (by go_simp) (leaves_mk (Below.refl _ _) rfl (fun h => by cases h))
    · intro vals w1 hb hd
      have d1 : KEq (.pointer (some ⟨g3, 0, none⟩)) (vals 1) w1 := hd 1 (by kernel_rfl)
      rw [show vals 1 = _ from d1]
      obtain ⟨e0, e1⟩ := row2 (heap_below BX3.out hb)
      refine stepOK_value (v := .int .u8 (k0 : Nat)) (w' := w1) (by go_simp) (leaves_mk (Below.refl _ _) rfl (fun h => by cases h))
    · intro vals w1 hb hd
      have d0 : KEq (.agg #[.bool qa, .slice oa na ka, .slice pa ma ra, .bool qax, .slice oax nax kax, .slice pax max rax]) (vals 0) w1 := hd 0 (by kernel_rfl)
      have d2 : KEq (.int .u8 (k0 : Nat)) (vals 2) w1 := hd 2 (by kernel_rfl)
      have z0 : vals 0 = _ := d0
      have z2 : vals 2 = _ := d2
      have hs := inK_any _ ((p_a, r_a)) k0 w1 (Fa.out.below hb) (by omega) (by omega) (by omega)
      have HS := Lib.hid hs; clear hs
      rw [z0]; clear z0
      rw [z2]; clear z2
      clear d0 d2 hd
      refine stepOK_call (by go_simp; first | done | exact ⟨⟨rfl, rfl⟩, rfl⟩) ?_
      (with_reducible refine HS.out.mono ?_); rintro e w2 ⟨v, rfl, hb2, hn⟩
      exact ⟨v, rfl, leaves_mk hb2 hn (fun h => by cases h)⟩
    · intro vals w1 hb hd
      obtain ⟨e0, e1, e2, e3, e4, e5⟩ := row6 (heap_below BX2.out hb)
      refine stepOK_value (v := .agg #[.bool qb, .slice ob nb kb, .slice pb mb rb, .bool qbx, .slice obx nbx kbx, .slice pbx mbx rbx]) (w' := w1) (by go_simp) (leaves_mk (Below.refl _ _) rfl (fun h => by cases h))
    · intro vals w1 hb hd
      refine stepOK_value (v := (.pointer (some ⟨g3, 1, none⟩))) (w' := w1) (by go_simp) (leaves_mk (Below.refl _ _) rfl (fun h => by cases h))
    · intro vals w1 hb hd
      have d5 : KEq (.pointer (some ⟨g3, 1, none⟩)) (vals 5) w1 := hd 5 (by kernel_rfl)
      rw [show vals 5 = _ from d5]
      obtain ⟨e0, e1⟩ := row2 (heap_below BX3.out hb)
      refine stepOK_value (v := .int .u8 (k1 : Nat)) (w' := w1) (by go_simp) (leaves_mk (Below.refl _ _) rfl (fun h => by cases h))
    · intro vals w1 hb hd
      have d4 : KEq (.agg #[.bool qb, .slice ob nb kb, .slice pb mb rb, .bool qbx, .slice obx nbx kbx, .slice pbx mbx rbx]) (vals 4) w1 := hd 4 (by kernel_rfl)
      have d6 : KEq (.int .u8 (k1 : Nat)) (vals 6) w1 := hd 6 (by kernel_rfl)
      have z4 : vals 4 = _ := d4
      have z6 : vals 6 = _ := d6
      have hs := inK_any _ ((p_b, r_b)) k1 w1 (Fb.out.below hb) (by omega) (by omega) (by omega)
      have HS := Lib.hid hs; clear hs
      rw [z4]; clear z4
      rw [z6]; clear z6
      clear d4 d6 hd
      refine stepOK_call (by go_simp; first | done | exact ⟨⟨rfl, rfl⟩, rfl⟩) ?_
      (with_reducible refine HS.out.mono ?_); rintro e w2 ⟨v, rfl, hb2, hn⟩
      exact ⟨v, rfl, leaves_mk hb2 hn (fun h => by cases h)⟩
    · intro vals w1 hb hd
      refine stepOK_value (v := .pointer (some ⟨w1.heap.size, 0, none⟩)) (w' := w1.alloc (.cells #[.bool false, .slice none 0 0, .slice none 0 0] 24)) (by go_simp) (leaves_mk ((Below.refl _ _).alloc (Nat.le_refl _) _) ⟨_, hb.size, rfl, heap_alloc_new _ _⟩ (fun _ => ⟨rfl, by simp⟩))
    · intro vals w1 hb hd
      refine stepOK_value (v := .pointer (some ⟨w1.heap.size, 0, none⟩)) (w' := w1.alloc (.cells #[.bool false, .slice none 0 0, .slice none 0 0] 24)) (by go_simp) (leaves_mk ((Below.refl _ _).alloc (Nat.le_refl _) _) ⟨_, hb.size, rfl, heap_alloc_new _ _⟩ (fun _ => ⟨rfl, by simp⟩))
  case tl11 =>
    intro vals w9 hb9 hf hdis
    simp only [List.drop_succ_cons, List.drop_zero]
    obtain ⟨u11_3, hu3⟩ : ∃ u, u = vals 3 := ⟨_, rfl⟩
    have hn11_3 : IsR w9 (vals 3) (inK ((p_a, r_a)) k0) := hf 3 (by decide)
    rw [← hu3] at hn11_3 ⊢; clear hu3
    obtain ⟨u11_7, hu7⟩ : ∃ u, u = vals 7 := ⟨_, rfl⟩
    have hn11_7 : IsR w9 (vals 7) (inK ((p_b, r_b)) k1) := hf 7 (by decide)
    rw [← hu7] at hn11_7 ⊢; clear hu7
    obtain ⟨g11_8, hg11_8, ev8, hz11_8⟩ : KNew w8.heap.size #[.bool false, .slice none 0 0, .slice none 0 0] 24 (vals 8) w9 := hf 8 (by decide)
    have eq8 := ev8
    rw [ev8]; clear ev8
    have lw11_8 : w.heap.size ≤ g11_8 := Nat.le_trans HB8.out.size hg11_8
    have ltBX111_8 : g1 < g11_8 := Nat.lt_of_lt_of_le (below_lt BX1.out) hg11_8
    have ltBX211_8 : g2 < g11_8 := Nat.lt_of_lt_of_le (below_lt BX2.out) hg11_8
    have ltBX311_8 : g3 < g11_8 := Nat.lt_of_lt_of_le (below_lt BX3.out) hg11_8
    obtain ⟨g11_9, hg11_9, ev9, hz11_9⟩ : KNew w8.heap.size #[.bool false, .slice none 0 0, .slice none 0 0] 24 (vals 9) w9 := hf 9 (by decide)
    have ne8_9 : g11_8 ≠ g11_9 := fun e => hdis 8 9 (by decide) (by decide) (by decide) (by decide) (by decide) (by rw [eq8, ev9, e])
    have eq9 := ev9
    rw [ev9]; clear ev9
    have lw11_9 : w.heap.size ≤ g11_9 := Nat.le_trans HB8.out.size hg11_9
    have ltBX111_9 : g1 < g11_9 := Nat.lt_of_lt_of_le (below_lt BX1.out) hg11_9
    have ltBX211_9 : g2 < g11_9 := Nat.lt_of_lt_of_le (below_lt BX2.out) hg11_9
    have ltBX311_9 : g3 < g11_9 := Nat.lt_of_lt_of_le (below_lt BX3.out) hg11_9
    clear hf hdis eq8 eq9
    have HB9 := Lib.hid (HB8.out.step hb9)
    have Fa := Lib.hid (Fa.out.below hb9)
    have Fal := Lib.hid (Fal.out.below hb9)
    have Fah := Lib.hid (Fah.out.below hb9)
    have FaV := Lib.hid (FaV.out.below hb9)
    have Fb := Lib.hid (Fb.out.below hb9)
    have Fbl := Lib.hid (Fbl.out.below hb9)
    have Fbh := Lib.hid (Fbh.out.below hb9)
    have FbV := Lib.hid (FbV.out.below hb9)
    have BX1 := Lib.hid (heap_below BX1.out hb9)
    have BX2 := Lib.hid (heap_below BX2.out hb9)
    have BX3 := Lib.hid (heap_below BX3.out hb9)
    clear hb9
    have BX11_8 := Lib.hid hz11_8; clear hz11_8 hg11_8
    have BX11_9 := Lib.hid hz11_9; clear hz11_9 hg11_9
    have N11_3 := Lib.hid hn11_3; clear hn11_3
    obtain ⟨s12, o12, n12, c12, a12, m12, d12, rfl⟩ := N11_3.out.shape
    have N11_7 := Lib.hid hn11_7; clear hn11_7
    obtain ⟨s13, o13, n13, c13, a13, m13, d13, rfl⟩ := N11_7.out.shape
    skip
    go_wp2_with (with_reducible refine wpList_pauseS ?_)
    refine wpList_stL g11_8 0 [.bool s12, .slice o12 n12 c12, .slice a12 m12 d12] BX11_8.out rfl rfl (Nat.le_of_ble_eq_true rfl) (by kernel_rfl) rfl ?_
    intro w10 hp10
    have Fa := Lib.hid (putL_SI hp10 Fa.out BX11_8.out noW3)
    have Fal := Lib.hid (putL_I hp10 Fal.out BX11_8.out noW3)
    have Fah := Lib.hid (putL_I hp10 Fah.out BX11_8.out noW3)
    have FaV := Lib.hid (putL_SV hp10 FaV.out BX11_8.out noW3)
    have Fb := Lib.hid (putL_SI hp10 Fb.out BX11_8.out noW3)
    have Fbl := Lib.hid (putL_I hp10 Fbl.out BX11_8.out noW3)
    have Fbh := Lib.hid (putL_I hp10 Fbh.out BX11_8.out noW3)
    have FbV := Lib.hid (putL_SV hp10 FbV.out BX11_8.out noW3)
    have N11_3 := Lib.hid (putL_I hp10 N11_3.out BX11_8.out noW3)
    have N11_7 := Lib.hid (putL_I hp10 N11_7.out BX11_8.out noW3)
    have BX1 := Lib.hid (putLx hp10 BX1.out (by omega))
    have BX2 := Lib.hid (putLx hp10 BX2.out (by omega))
    have BX3 := Lib.hid (putLx hp10 BX3.out (by omega))
    have BX11_9 := Lib.hid (putLx hp10 BX11_9.out (by omega))
    have nx10 : w10.heap[g11_8]? = some (.cells #[.bool s12, .slice o12 n12 c12, .slice a12 m12 d12] 24) := by rw [hp10]; exact putL_r BX11_8.out
    have BX11_8 := Lib.hid nx10; clear nx10
    have HB10 := Lib.hid (putLb hp10 HB9.out (by omega))
    clear hp10
    go_wp2_with (with_reducible refine wpList_pauseS ?_)
    refine wpList_stL g11_9 0 [.bool s13, .slice o13 n13 c13, .slice a13 m13 d13] BX11_9.out rfl rfl (Nat.le_of_ble_eq_true rfl) (by kernel_rfl) rfl ?_
    intro w11 hp11
    have Fa := Lib.hid (putL_SI hp11 Fa.out BX11_9.out noW3)
    have Fal := Lib.hid (putL_I hp11 Fal.out BX11_9.out noW3)
    have Fah := Lib.hid (putL_I hp11 Fah.out BX11_9.out noW3)
    have FaV := Lib.hid (putL_SV hp11 FaV.out BX11_9.out noW3)
    have Fb := Lib.hid (putL_SI hp11 Fb.out BX11_9.out noW3)
    have Fbl := Lib.hid (putL_I hp11 Fbl.out BX11_9.out noW3)
    have Fbh := Lib.hid (putL_I hp11 Fbh.out BX11_9.out noW3)
    have FbV := Lib.hid (putL_SV hp11 FbV.out BX11_9.out noW3)
    have N11_3 := Lib.hid (putL_I hp11 N11_3.out BX11_9.out noW3)
    have N11_7 := Lib.hid (putL_I hp11 N11_7.out BX11_9.out noW3)
    have BX1 := Lib.hid (putLx hp11 BX1.out (by omega))
    have BX2 := Lib.hid (putLx hp11 BX2.out (by omega))
    have BX3 := Lib.hid (putLx hp11 BX3.out (by omega))
    have BX11_8 := Lib.hid (putLx hp11 BX11_8.out (by omega))
    have nx11 : w11.heap[g11_9]? = some (.cells #[.bool s13, .slice o13 n13 c13, .slice a13 m13 d13] 24) := by rw [hp11]; exact putL_r BX11_9.out
    have BX11_9 := Lib.hid nx11; clear nx11
    have HB11 := Lib.hid (putLb hp11 HB10.out (by omega))
    clear hp11
    go_wp2_with (with_reducible first | refine pauseCall ?_ | refine pauseLoop ?_ | refine pauseDraw ?_ | refine pauseBody ?_ | refine pauseRounds ?_)
    refine Pause.mk ?_
    obtain ⟨kp14, kp14x⟩ : rl (((p_a), (r_a)) : Rat × Rat).1 ≤ rl (p_a) ∧ rl (((p_a), (r_a)) : Rat × Rat).2 ≤ rl (r_a) := ⟨Nat.le_refl _, Nat.le_refl _⟩
    obtain ⟨kp15, kp15x⟩ : rl (((p_b), (r_b)) : Rat × Rat).1 ≤ rl (p_b) ∧ rl (((p_b), (r_b)) : Rat × Rat).2 ≤ rl (r_b) := ⟨Nat.le_refl _, Nat.le_refl _⟩
    obtain ⟨kp18, kp18x⟩ : rl (((p_a), (r_a)) : Rat × Rat).1 ≤ rl (p_a) ∧ rl (((p_a), (r_a)) : Rat × Rat).2 ≤ rl (r_a) := ⟨Nat.le_refl _, Nat.le_refl _⟩
    obtain ⟨kp19, kp19x⟩ : rl (((p_b), (r_b)) : Rat × Rat).1 ≤ rl (p_b) ∧ rl (((p_b), (r_b)) : Rat × Rat).2 ≤ rl (r_b) := ⟨Nat.le_refl _, Nat.le_refl _⟩
    obtain ⟨k16, k17⟩ := rl_sAdd ((p_a, r_a)) ((p_b, r_b))
    have k20 := rl_add (inK ((p_a, r_a)) k0) (inK ((p_b, r_b)) k1)
    obtain ⟨kp23, kp23x⟩ : rl (((p_a), (r_a)) : Rat × Rat).1 ≤ rl (p_a) ∧ rl (((p_a), (r_a)) : Rat × Rat).2 ≤ rl (r_a) := ⟨Nat.le_refl _, Nat.le_refl _⟩
    obtain ⟨kp24, kp24x⟩ : rl (((p_b), (r_b)) : Rat × Rat).1 ≤ rl (p_b) ∧ rl (((p_b), (r_b)) : Rat × Rat).2 ≤ rl (r_b) := ⟨Nat.le_refl _, Nat.le_refl _⟩
    obtain ⟨k21, k22⟩ := rl_sSub ((p_a, r_a)) ((p_b, r_b))
    have k25 := rl_sub (inK ((p_a, r_a)) k0) (inK ((p_b, r_b)) k1)
    obtain ⟨kp28, kp28x⟩ : rl (((p_a), (r_a)) : Rat × Rat).1 ≤ rl (p_a) ∧ rl (((p_a), (r_a)) : Rat × Rat).2 ≤ rl (r_a) := ⟨Nat.le_refl _, Nat.le_refl _⟩
    obtain ⟨kp29, kp29x⟩ : rl (((p_b), (r_b)) : Rat × Rat).1 ≤ rl (p_b) ∧ rl (((p_b), (r_b)) : Rat × Rat).2 ≤ rl (r_b) := ⟨Nat.le_refl _, Nat.le_refl _⟩
    obtain ⟨k26, k27⟩ := rl_sMul ((p_a, r_a)) ((p_b, r_b))
    have k30 := rl_mul (inK ((p_a, r_a)) k0) (inK ((p_b, r_b)) k1)
    obtain ⟨kp33, kp33x⟩ : rl (((p_a), (r_a)) : Rat × Rat).1 ≤ rl (p_a) ∧ rl (((p_a), (r_a)) : Rat × Rat).2 ≤ rl (r_a) := ⟨Nat.le_refl _, Nat.le_refl _⟩
    obtain ⟨k31, k32⟩ := rl_sNot ((p_a, r_a))
    have k34 : rl ((1 : Int) : Rat) ≤ 2 := rl_small (by decide) (by decide)
    refine wp_region_facts (A := ?aa35) (w := w11) 45 [] (by kernel_rfl) (Fl [KEq (.agg #[.bool qa, .slice oa na ka, .slice pa ma ra, .bool qax, .slice oax nax kax, .slice pax max rax]), KEq (.agg #[.bool s12, .slice o12 n12 c12, .slice a12 m12 d12]), KEq (.bool true), KEq (.bool false), KEq (.bool false), KEq (.agg #[.bool qb, .slice ob nb kb, .slice pb mb rb, .bool qbx, .slice obx nbx kbx, .slice pbx mbx rbx]), KEq (.agg #[.bool s13, .slice o13 n13 c13, .slice a13 m13 d13]), KEq (.bool true), KEq (.bool false), KEq (.bool false), KEq (.bool false), KEq (.agg #[.bool qa, .slice oa na ka, .slice pa ma ra, .bool qax, .slice oax nax kax, .slice pax max rax]), KEq (.agg #[.bool qb, .slice ob nb kb, .slice pb mb rb, .bool qbx, .slice obx nbx kbx, .slice pbx mbx rbx]), KSp (sAdd ((p_a, r_a)) ((p_b, r_b))), KEq (.agg #[.bool s12, .slice o12 n12 c12, .slice a12 m12 d12]), KEq (.agg #[.bool s13, .slice o13 n13 c13, .slice a13 m13 d13]), KIs ((inK ((p_a, r_a)) k0) + (inK ((p_b, r_b)) k1)), KEq (.bool true), KEq (.bool false), KEq (.bool false), KEq (.bool false), KEq (.agg #[.bool qa, .slice oa na ka, .slice pa ma ra, .bool qax, .slice oax nax kax, .slice pax max rax]), KEq (.agg #[.bool qb, .slice ob nb kb, .slice pb mb rb, .bool qbx, .slice obx nbx kbx, .slice pbx mbx rbx]), KSp (sSub ((p_a, r_a)) ((p_b, r_b))), KEq (.agg #[.bool s12, .slice o12 n12 c12, .slice a12 m12 d12]), KEq (.agg #[.bool s13, .slice o13 n13 c13, .slice a13 m13 d13]), KIs ((inK ((p_a, r_a)) k0) - (inK ((p_b, r_b)) k1)), KEq (.bool true), KEq (.bool false), KEq (.bool false), KEq (.bool false), KEq (.agg #[.bool qa, .slice oa na ka, .slice pa ma ra, .bool qax, .slice oax nax kax, .slice pax max rax]), KEq (.agg #[.bool qb, .slice ob nb kb, .slice pb mb rb, .bool qbx, .slice obx nbx kbx, .slice pbx mbx rbx]), KSp (sMul ((p_a, r_a)) ((p_b, r_b))), KEq (.agg #[.bool s12, .slice o12 n12 c12, .slice a12 m12 d12]), KEq (.agg #[.bool s13, .slice o13 n13 c13, .slice a13 m13 d13]), KIs ((inK ((p_a, r_a)) k0) * (inK ((p_b, r_b)) k1)), KEq (.bool true), KEq (.bool false), KEq (.bool false), KEq (.bool false), KEq (.agg #[.bool qa, .slice oa na ka, .slice pa ma ra, .bool qax, .slice oax nax kax, .slice pax max rax]), KSp (sNot ((p_a, r_a))), KIs (((1 : Int) : Rat)), KEq (.agg #[.bool s12, .slice o12 n12 c12, .slice a12 m12 d12])]) (fun i => false) (by kernel_rfl) ?hq35 (monoL (monoC (kEq _) (monoC (kEq _) (monoC (kEq _) (monoC (kEq _) (monoC (kEq _) (monoC (kEq _) (monoC (kEq _) (monoC (kEq _) (monoC (kEq _) (monoC (kEq _) (monoC (kEq _) (monoC (kEq _) (monoC (kEq _) (monoC (kSp _) (monoC (kEq _) (monoC (kEq _) (monoC (kIs _) (monoC (kEq _) (monoC (kEq _) (monoC (kEq _) (monoC (kEq _) (monoC (kEq _) (monoC (kEq _) (monoC (kSp _) (monoC (kEq _) (monoC (kEq _) (monoC (kIs _) (monoC (kEq _) (monoC (kEq _) (monoC (kEq _) (monoC (kEq _) (monoC (kEq _) (monoC (kEq _) (monoC (kSp _) (monoC (kEq _) (monoC (kEq _) (monoC (kIs _) (monoC (kEq _) (monoC (kEq _) (monoC (kEq _) (monoC (kEq _) (monoC (kEq _) (monoC (kSp _) (monoC (kIs _) (monoC (kEq _) monoN)))))))))))))))))))))))))))))))))))))))))))))) ?ha35 ?st35 ?tl35
    case hq35 =>
      intro c a d v w h
      first | (simp only [Exit.then] at h ⊢; exact h) | (simp only [Exit.inBlock, Exit.then] at h ⊢; exact h) | exact h
    case ha35 =>
      intro vals
      simp only [putsTo, dstOf, if_true, Act.put, List.setIfInBounds_toArray, List.set_cons_zero, List.set_cons_succ, List.getElem?_toArray, List.getElem?_cons_zero, List.getElem?_cons_succ, Option.bind_some]
      exact rfl
    case st35 =>
      simp only [List.take_succ_cons, List.take_zero]
      refine stepsOK_cons rfl rfl ?_ (stepsOK_cons rfl rfl ?_ (stepsOK_cons rfl rfl ?_ (stepsOK_cons rfl rfl ?_ (stepsOK_cons rfl rfl ?_ (stepsOK_guard rfl ?_ (stepsOK_guard rfl ?_ (stepsOK_guard rfl ?_ (stepsOK_guard rfl ?_ (stepsOK_cons rfl rfl ?_ (stepsOK_cons rfl rfl ?_ (stepsOK_guard rfl ?_ (stepsOK_guard rfl ?_ (stepsOK_guard rfl ?_ (stepsOK_guard rfl ?_ (stepsOK_guard rfl ?_ (stepsOK_guard rfl ?_ (stepsOK_guard rfl ?_ (stepsOK_guard rfl ?_ (stepsOK_cons rfl rfl ?_ (stepsOK_cons rfl rfl ?_ (stepsOK_guard rfl ?_ (stepsOK_guard rfl ?_ (stepsOK_guard rfl ?_ (stepsOK_guard rfl ?_ (stepsOK_guard rfl ?_ (stepsOK_guard rfl ?_ (stepsOK_guard rfl ?_ (stepsOK_guard rfl ?_ (stepsOK_cons rfl rfl ?_ (stepsOK_cons rfl rfl ?_ (stepsOK_guard rfl ?_ (stepsOK_guard rfl ?_ (stepsOK_guard rfl ?_ (stepsOK_guard rfl ?_ (stepsOK_guard rfl ?_ (stepsOK_guard rfl ?_ (stepsOK_guard rfl ?_ (stepsOK_guard rfl ?_ (stepsOK_cons rfl rfl ?_ (stepsOK_cons rfl rfl ?_ (stepsOK_guard rfl ?_ (stepsOK_guard rfl ?_ (stepsOK_guard rfl ?_ (stepsOK_guard rfl ?_ (stepsOK_nil)))))))))))))))))))))))))))))))))))))))))))))
      · intro vals w1 hb hd
        obtain ⟨e0, e1, e2, e3, e4, e5⟩ := row6 (heap_below BX1.out hb)
        refine stepOK_value (v := .agg #[.bool qa, .slice oa na ka, .slice pa ma ra, .bool qax, .slice oax nax kax, .slice pax max rax]) (w' := w1) (by go_simp) (leaves_mk (Below.refl _ _) rfl (fun h => by cases h))
      · intro vals w1 hb hd
        obtain ⟨e0, e1, e2⟩ := row3 (heap_below BX11_8.out hb)
        refine stepOK_value (v := .agg #[.bool s12, .slice o12 n12 c12, .slice a12 m12 d12]) (w' := w1) (by go_simp) (leaves_mk (Below.refl _ _) rfl (fun h => by cases h))
      · intro vals w1 hb hd
        have d0 : KEq (.agg #[.bool qa, .slice oa na ka, .slice pa ma ra, .bool qax, .slice oax nax kax, .slice pax max rax]) (vals 0) w1 := hd 0 (by kernel_rfl)
        have d1 : KEq (.agg #[.bool s12, .slice o12 n12 c12, .slice a12 m12 d12]) (vals 1) w1 := hd 1 (by kernel_rfl)
        have z0 : vals 0 = _ := d0
        have z1 : vals 1 = _ := d1
        have hs := contains_any _ ((p_a, r_a)) _ (inK ((p_a, r_a)) k0) w1 ((Fa.out.below hb).is HOa.out (by omega) (by omega)) ((N11_3.out.below hb).is (by omega)) (by omega) (by omega) (by omega)
        rw [HI1.out] at hs
        have HS := Lib.hid hs; clear hs
        rw [z0]; clear z0
        rw [z1]; clear z1
        clear d0 d1 hd
        refine stepOK_call (by go_simp; first | done | exact ⟨⟨rfl, rfl⟩, rfl⟩) ?_
        (with_reducible refine HS.out.mono ?_); rintro e w2 ⟨rfl, hb2⟩
        exact ⟨_, rfl, leaves_mk hb2 rfl (fun h => by cases h)⟩
      · intro vals w1 hb hd
        have d2 : KEq (.bool true) (vals 2) w1 := hd 2 (by kernel_rfl)
        rw [show vals 2 = _ from d2]
        refine stepOK_value (v := (.bool false)) (w' := w1) (by go_simp) (leaves_mk (Below.refl _ _) rfl (fun h => by cases h))
      · intro vals w1 hb hd
        have d3 : KEq (.bool false) (vals 3) w1 := hd 3 (by kernel_rfl)
        rw [show vals 3 = _ from d3]
        refine stepOK_value (v := (.bool false)) (w' := w1) (by go_simp) (leaves_mk (Below.refl _ _) rfl (fun h => by cases h))
      · intro vals w1 hb hd
        have dg : KEq (.bool false) (vals 4) w1 := hd 4 (by kernel_rfl)
        refine stepG_yes (wanted_of rfl rfl (congrArg some dg) rfl) ?_
        clear dg
        obtain ⟨e0, e1, e2, e3, e4, e5⟩ := row6 (heap_below BX2.out hb)
        refine stepOK_value (v := .agg #[.bool qb, .slice ob nb kb, .slice pb mb rb, .bool qbx, .slice obx nbx kbx, .slice pbx mbx rbx]) (w' := w1) (by go_simp) (leaves_mk (Below.refl _ _) rfl (fun h => by cases h))
      · intro vals w1 hb hd
        have dg : KEq (.bool false) (vals 4) w1 := hd 4 (by kernel_rfl)
        refine stepG_yes (wanted_of rfl rfl (congrArg some dg) rfl) ?_
        clear dg
        obtain ⟨e0, e1, e2⟩ := row3 (heap_below BX11_9.out hb)
        refine stepOK_value (v := .agg #[.bool s13, .slice o13 n13 c13, .slice a13 m13 d13]) (w' := w1) (by go_simp) (leaves_mk (Below.refl _ _) rfl (fun h => by cases h))
      · intro vals w1 hb hd
        have dg : KEq (.bool false) (vals 4) w1 := hd 4 (by kernel_rfl)
        refine stepG_yes (wanted_of rfl rfl (congrArg some dg) rfl) ?_
        clear dg
        have d5 : KEq (.agg #[.bool qb, .slice ob nb kb, .slice pb mb rb, .bool qbx, .slice obx nbx kbx, .slice pbx mbx rbx]) (vals 5) w1 := hd 5 (by kernel_rfl)
        have d6 : KEq (.agg #[.bool s13, .slice o13 n13 c13, .slice a13 m13 d13]) (vals 6) w1 := hd 6 (by kernel_rfl)
        have z5 : vals 5 = _ := d5
        have z6 : vals 6 = _ := d6
        have hs := contains_any _ ((p_b, r_b)) _ (inK ((p_b, r_b)) k1) w1 ((Fb.out.below hb).is HOb.out (by omega) (by omega)) ((N11_7.out.below hb).is (by omega)) (by omega) (by omega) (by omega)
        rw [HI2.out] at hs
        have HS := Lib.hid hs; clear hs
        rw [z5]; clear z5
        rw [z6]; clear z6
        clear d5 d6 hd
        refine stepOK_call (by go_simp; first | done | exact ⟨⟨rfl, rfl⟩, rfl⟩) ?_
        (with_reducible refine HS.out.mono ?_); rintro e w2 ⟨rfl, hb2⟩
        exact ⟨_, rfl, leaves_mk hb2 rfl (fun h => by cases h)⟩
      · intro vals w1 hb hd
        have dg : KEq (.bool false) (vals 4) w1 := hd 4 (by kernel_rfl)
        refine stepG_yes (wanted_of rfl rfl (congrArg some dg) rfl) ?_
        clear dg
        have d7 : KEq (.bool true) (vals 7) w1 := hd 7 (by kernel_rfl)
        rw [show vals 7 = _ from d7]
        refine stepOK_value (v := (.bool false)) (w' := w1) (by go_simp) (leaves_mk (Below.refl _ _) rfl (fun h => by cases h))
      · intro vals w1 hb hd
        have d4 : KEq (.bool false) (vals 4) w1 := hd 4 (by kernel_rfl)
        have d8 : KEq (.bool false) (vals 8) w1 := hd 8 (by kernel_rfl)
        rw [show vals 4 = _ from d4]
        rw [show vals 8 = _ from d8]
        refine stepOK_value (v := (.bool false)) (w' := w1) (by go_simp) (leaves_mk (Below.refl _ _) rfl (fun h => by cases h))
      · intro vals w1 hb hd
        have d9 : KEq (.bool false) (vals 9) w1 := hd 9 (by kernel_rfl)
        rw [show vals 9 = _ from d9]
        refine stepOK_value (v := (.bool false)) (w' := w1) (by go_simp) (leaves_mk (Below.refl _ _) rfl (fun h => by cases h))
      · intro vals w1 hb hd
        have dg : KEq (.bool false) (vals 10) w1 := hd 10 (by kernel_rfl)
        refine stepG_yes (wanted_of rfl rfl (congrArg some dg) rfl) ?_
        clear dg
        obtain ⟨e0, e1, e2, e3, e4, e5⟩ := row6 (heap_below BX1.out hb)
        refine stepOK_value (v := .agg #[.bool qa, .slice oa na ka, .slice pa ma ra, .bool qax, .slice oax nax kax, .slice pax max rax]) (w' := w1) (by go_simp) (leaves_mk (Below.refl _ _) rfl (fun h => by cases h))
      · intro vals w1 hb hd
        have dg : KEq (.bool false) (vals 10) w1 := hd 10 (by kernel_rfl)
        refine stepG_yes (wanted_of rfl rfl (congrArg some dg) rfl) ?_
        clear dg
        obtain ⟨e0, e1, e2, e3, e4, e5⟩ := row6 (heap_below BX2.out hb)
        refine stepOK_value (v := .agg #[.bool qb, .slice ob nb kb, .slice pb mb rb, .bool qbx, .slice obx nbx kbx, .slice pbx mbx rbx]) (w' := w1) (by go_simp) (leaves_mk (Below.refl _ _) rfl (fun h => by cases h))
      · intro vals w1 hb hd
        have dg : KEq (.bool false) (vals 10) w1 := hd 10 (by kernel_rfl)
        refine stepG_yes (wanted_of rfl rfl (congrArg some dg) rfl) ?_
        clear dg
        have d11 : KEq (.agg #[.bool qa, .slice oa na ka, .slice pa ma ra, .bool qax, .slice oax nax kax, .slice pax max rax]) (vals 11) w1 := hd 11 (by kernel_rfl)
        have d12 : KEq (.agg #[.bool qb, .slice ob nb kb, .slice pb mb rb, .bool qbx, .slice obx nbx kbx, .slice pbx mbx rbx]) (vals 12) w1 := hd 12 (by kernel_rfl)
        have z11 : vals 11 = _ := d11
        have z12 : vals 12 = _ := d12
        have hs := sadd_any _ ((p_a, r_a)) _ ((p_b, r_b)) w1 ((Fa.out.below hb).is HOa.out (by omega) (by omega)) ((Fb.out.below hb).is HOb.out (by omega) (by omega)) (by omega) (by omega) (by omega) (by omega)
        have HS := Lib.hid hs; clear hs
        rw [z11]; clear z11
        rw [z12]; clear z12
        clear d11 d12 hd
        refine stepOK_call (by go_simp; first | done | exact ⟨⟨rfl, rfl⟩, rfl⟩) ?_
        (with_reducible refine HS.out.mono ?_); rintro e w2 ⟨v, rfl, hb2, hn⟩
        exact ⟨v, rfl, leaves_mk hb2 hn (fun h => by cases h)⟩
      · intro vals w1 hb hd
        have dg : KEq (.bool false) (vals 10) w1 := hd 10 (by kernel_rfl)
        refine stepG_yes (wanted_of rfl rfl (congrArg some dg) rfl) ?_
        clear dg
        obtain ⟨e0, e1, e2⟩ := row3 (heap_below BX11_8.out hb)
        refine stepOK_value (v := .agg #[.bool s12, .slice o12 n12 c12, .slice a12 m12 d12]) (w' := w1) (by go_simp) (leaves_mk (Below.refl _ _) rfl (fun h => by cases h))
      · intro vals w1 hb hd
        have dg : KEq (.bool false) (vals 10) w1 := hd 10 (by kernel_rfl)
        refine stepG_yes (wanted_of rfl rfl (congrArg some dg) rfl) ?_
        clear dg
        obtain ⟨e0, e1, e2⟩ := row3 (heap_below BX11_9.out hb)
        refine stepOK_value (v := .agg #[.bool s13, .slice o13 n13 c13, .slice a13 m13 d13]) (w' := w1) (by go_simp) (leaves_mk (Below.refl _ _) rfl (fun h => by cases h))
      · intro vals w1 hb hd
        have dg : KEq (.bool false) (vals 10) w1 := hd 10 (by kernel_rfl)
        refine stepG_yes (wanted_of rfl rfl (congrArg some dg) rfl) ?_
        clear dg
        have d14 : KEq (.agg #[.bool s12, .slice o12 n12 c12, .slice a12 m12 d12]) (vals 14) w1 := hd 14 (by kernel_rfl)
        have d15 : KEq (.agg #[.bool s13, .slice o13 n13 c13, .slice a13 m13 d13]) (vals 15) w1 := hd 15 (by kernel_rfl)
        have z14 : vals 14 = _ := d14
        have z15 : vals 15 = _ := d15
        have hs := addq_any _ (inK ((p_a, r_a)) k0) _ (inK ((p_b, r_b)) k1) w1 ((N11_3.out.below hb).is (by omega)) ((N11_7.out.below hb).is (by omega))
        have HS := Lib.hid hs; clear hs
        rw [z14]; clear z14
        rw [z15]; clear z15
        clear d14 d15 hd
        refine stepOK_call (by go_simp; first | done | exact ⟨⟨rfl, rfl⟩, rfl⟩) ?_
        (with_reducible refine HS.out.mono ?_); rintro e w2 ⟨v, rfl, hb2, hn⟩
        exact ⟨v, rfl, leaves_mk hb2 hn (fun h => by cases h)⟩
      · intro vals w1 hb hd
        have dg : KEq (.bool false) (vals 10) w1 := hd 10 (by kernel_rfl)
        refine stepG_yes (wanted_of rfl rfl (congrArg some dg) rfl) ?_
        clear dg
        have d13 : KSp (sAdd ((p_a, r_a)) ((p_b, r_b))) (vals 13) w1 := hd 13 (by kernel_rfl)
        have R13 : Hid (IsSp w1 (vals 13) (sAdd ((p_a, r_a)) ((p_b, r_b)))) := Lib.hid d13
        have d16 : KIs ((inK ((p_a, r_a)) k0) + (inK ((p_b, r_b)) k1)) (vals 16) w1 := hd 16 (by kernel_rfl)
        have R16 : Hid (IsR w1 (vals 16) ((inK ((p_a, r_a)) k0) + (inK ((p_b, r_b)) k1))) := Lib.hid d16
        have hs := contains_any _ (sAdd ((p_a, r_a)) ((p_b, r_b))) _ ((inK ((p_a, r_a)) k0) + (inK ((p_b, r_b)) k1)) w1 (R13.out.is (sAdd_ok HOa.out HOb.out) (by omega) (by omega)) (R16.out.is (by omega)) (by omega) (by omega) (by omega)
        rw [HI3.out] at hs
        have HS := Lib.hid hs; clear hs
        clear d13 d16 hd
        refine stepOK_call (by go_simp; first | done | exact ⟨⟨rfl, rfl⟩, rfl⟩) ?_
        (with_reducible refine HS.out.mono ?_); rintro e w2 ⟨rfl, hb2⟩
        exact ⟨_, rfl, leaves_mk hb2 rfl (fun h => by cases h)⟩
      · intro vals w1 hb hd
        have dg : KEq (.bool false) (vals 10) w1 := hd 10 (by kernel_rfl)
        refine stepG_yes (wanted_of rfl rfl (congrArg some dg) rfl) ?_
        clear dg
        have d17 : KEq (.bool true) (vals 17) w1 := hd 17 (by kernel_rfl)
        rw [show vals 17 = _ from d17]
        refine stepOK_value (v := (.bool false)) (w' := w1) (by go_simp) (leaves_mk (Below.refl _ _) rfl (fun h => by cases h))
      · intro vals w1 hb hd
        have d10 : KEq (.bool false) (vals 10) w1 := hd 10 (by kernel_rfl)
        have d18 : KEq (.bool false) (vals 18) w1 := hd 18 (by kernel_rfl)
        rw [show vals 10 = _ from d10]
        rw [show vals 18 = _ from d18]
        refine stepOK_value (v := (.bool false)) (w' := w1) (by go_simp) (leaves_mk (Below.refl _ _) rfl (fun h => by cases h))
      · intro vals w1 hb hd
        have d19 : KEq (.bool false) (vals 19) w1 := hd 19 (by kernel_rfl)
        rw [show vals 19 = _ from d19]
        refine stepOK_value (v := (.bool false)) (w' := w1) (by go_simp) (leaves_mk (Below.refl _ _) rfl (fun h => by cases h))
      · intro vals w1 hb hd
        have dg : KEq (.bool false) (vals 20) w1 := hd 20 (by kernel_rfl)
        refine stepG_yes (wanted_of rfl rfl (congrArg some dg) rfl) ?_
        clear dg
        obtain ⟨e0, e1, e2, e3, e4, e5⟩ := row6 (heap_below BX1.out hb)
        refine stepOK_value (v := .agg #[.bool qa, .slice oa na ka, .slice pa ma ra, .bool qax, .slice oax nax kax, .slice pax max rax]) (w' := w1) (by go_simp) (leaves_mk (Below.refl _ _) rfl (fun h => by cases h))
      · intro vals w1 hb hd
        have dg : KEq (.bool false) (vals 20) w1 := hd 20 (by kernel_rfl)
        refine stepG_yes (wanted_of rfl rfl (congrArg some dg) rfl) ?_
        clear dg
        obtain ⟨e0, e1, e2, e3, e4, e5⟩ := row6 (heap_below BX2.out hb)
        refine stepOK_value (v := .agg #[.bool qb, .slice ob nb kb, .slice pb mb rb, .bool qbx, .slice obx nbx kbx, .slice pbx mbx rbx]) (w' := w1) (by go_simp) (leaves_mk (Below.refl _ _) rfl (fun h => by cases h))
      · intro vals w1 hb hd
        have dg : KEq (.bool false) (vals 20) w1 := hd 20 (by kernel_rfl)
        refine stepG_yes (wanted_of rfl rfl (congrArg some dg) rfl) ?_
        clear dg
        have d21 : KEq (.agg #[.bool qa, .slice oa na ka, .slice pa ma ra, .bool qax, .slice oax nax kax, .slice pax max rax]) (vals 21) w1 := hd 21 (by kernel_rfl)
        have d22 : KEq (.agg #[.bool qb, .slice ob nb kb, .slice pb mb rb, .bool qbx, .slice obx nbx kbx, .slice pbx mbx rbx]) (vals 22) w1 := hd 22 (by kernel_rfl)
        have z21 : vals 21 = _ := d21
        have z22 : vals 22 = _ := d22
        have hs := ssub_any _ ((p_a, r_a)) _ ((p_b, r_b)) w1 ((Fa.out.below hb).is HOa.out (by omega) (by omega)) ((Fb.out.below hb).is HOb.out (by omega) (by omega)) (by omega) (by omega) (by omega) (by omega)
        have HS := Lib.hid hs; clear hs
        rw [z21]; clear z21
        rw [z22]; clear z22
        clear d21 d22 hd
        refine stepOK_call (by go_simp; first | done | exact ⟨⟨rfl, rfl⟩, rfl⟩) ?_
        (with_reducible refine HS.out.mono ?_); rintro e w2 ⟨v, rfl, hb2, hn⟩
        exact ⟨v, rfl, leaves_mk hb2 hn (fun h => by cases h)⟩
      · intro vals w1 hb hd
        have dg : KEq (.bool false) (vals 20) w1 := hd 20 (by kernel_rfl)
        refine stepG_yes (wanted_of rfl rfl (congrArg some dg) rfl) ?_
        clear dg
        obtain ⟨e0, e1, e2⟩ := row3 (heap_below BX11_8.out hb)
        refine stepOK_value (v := .agg #[.bool s12, .slice o12 n12 c12, .slice a12 m12 d12]) (w' := w1) (by go_simp) (leaves_mk (Below.refl _ _) rfl (fun h => by cases h))
      · intro vals w1 hb hd
        have dg : KEq (.bool false) (vals 20) w1 := hd 20 (by kernel_rfl)
        refine stepG_yes (wanted_of rfl rfl (congrArg some dg) rfl) ?_
        clear dg
        obtain ⟨e0, e1, e2⟩ := row3 (heap_below BX11_9.out hb)
        refine stepOK_value (v := .agg #[.bool s13, .slice o13 n13 c13, .slice a13 m13 d13]) (w' := w1) (by go_simp) (leaves_mk (Below.refl _ _) rfl (fun h => by cases h))
      · intro vals w1 hb hd
        have dg : KEq (.bool false) (vals 20) w1 := hd 20 (by kernel_rfl)
        refine stepG_yes (wanted_of rfl rfl (congrArg some dg) rfl) ?_
        clear dg
        have d24 : KEq (.agg #[.bool s12, .slice o12 n12 c12, .slice a12 m12 d12]) (vals 24) w1 := hd 24 (by kernel_rfl)
        have d25 : KEq (.agg #[.bool s13, .slice o13 n13 c13, .slice a13 m13 d13]) (vals 25) w1 := hd 25 (by kernel_rfl)
        have z24 : vals 24 = _ := d24
        have z25 : vals 25 = _ := d25
        have hs := subq_any _ (inK ((p_a, r_a)) k0) _ (inK ((p_b, r_b)) k1) w1 ((N11_3.out.below hb).is (by omega)) ((N11_7.out.below hb).is (by omega))
        have HS := Lib.hid hs; clear hs
        rw [z24]; clear z24
        rw [z25]; clear z25
        clear d24 d25 hd
        refine stepOK_call (by go_simp; first | done | exact ⟨⟨rfl, rfl⟩, rfl⟩) ?_
        (with_reducible refine HS.out.mono ?_); rintro e w2 ⟨v, rfl, hb2, hn⟩
        exact ⟨v, rfl, leaves_mk hb2 hn (fun h => by cases h)⟩
      · intro vals w1 hb hd
        have dg : KEq (.bool false) (vals 20) w1 := hd 20 (by kernel_rfl)
        refine stepG_yes (wanted_of rfl rfl (congrArg some dg) rfl) ?_
        clear dg
        have d23 : KSp (sSub ((p_a, r_a)) ((p_b, r_b))) (vals 23) w1 := hd 23 (by kernel_rfl)
        have R23 : Hid (IsSp w1 (vals 23) (sSub ((p_a, r_a)) ((p_b, r_b)))) := Lib.hid d23
        have d26 : KIs ((inK ((p_a, r_a)) k0) - (inK ((p_b, r_b)) k1)) (vals 26) w1 := hd 26 (by kernel_rfl)
        have R26 : Hid (IsR w1 (vals 26) ((inK ((p_a, r_a)) k0) - (inK ((p_b, r_b)) k1))) := Lib.hid d26
        have hs := contains_any _ (sSub ((p_a, r_a)) ((p_b, r_b))) _ ((inK ((p_a, r_a)) k0) - (inK ((p_b, r_b)) k1)) w1 (R23.out.is (sSub_ok HOa.out HOb.out) (by omega) (by omega)) (R26.out.is (by omega)) (by omega) (by omega) (by omega)
        rw [HI4.out] at hs
        have HS := Lib.hid hs; clear hs
        clear d23 d26 hd
        refine stepOK_call (by go_simp; first | done | exact ⟨⟨rfl, rfl⟩, rfl⟩) ?_
        (with_reducible refine HS.out.mono ?_); rintro e w2 ⟨rfl, hb2⟩
        exact ⟨_, rfl, leaves_mk hb2 rfl (fun h => by cases h)⟩
      · intro vals w1 hb hd
        have dg : KEq (.bool false) (vals 20) w1 := hd 20 (by kernel_rfl)
        refine stepG_yes (wanted_of rfl rfl (congrArg some dg) rfl) ?_
        clear dg
        have d27 : KEq (.bool true) (vals 27) w1 := hd 27 (by kernel_rfl)
        rw [show vals 27 = _ from d27]
        refine stepOK_value (v := (.bool false)) (w' := w1) (by go_simp) (leaves_mk (Below.refl _ _) rfl (fun h => by cases h))
      · intro vals w1 hb hd
        have d20 : KEq (.bool false) (vals 20) w1 := hd 20 (by kernel_rfl)
        have d28 : KEq (.bool false) (vals 28) w1 := hd 28 (by kernel_rfl)
        rw [show vals 20 = _ from d20]
        rw [show vals 28 = _ from d28]
        refine stepOK_value (v := (.bool false)) (w' := w1) (by go_simp) (leaves_mk (Below.refl _ _) rfl (fun h => by cases h))
      · intro vals w1 hb hd
        have d29 : KEq (.bool false) (vals 29) w1 := hd 29 (by kernel_rfl)
        rw [show vals 29 = _ from d29]
        refine stepOK_value (v := (.bool false)) (w' := w1) (by go_simp) (leaves_mk (Below.refl _ _) rfl (fun h => by cases h))
      · intro vals w1 hb hd
        have dg : KEq (.bool false) (vals 30) w1 := hd 30 (by kernel_rfl)
        refine stepG_yes (wanted_of rfl rfl (congrArg some dg) rfl) ?_
        clear dg
        obtain ⟨e0, e1, e2, e3, e4, e5⟩ := row6 (heap_below BX1.out hb)
        refine stepOK_value (v := .agg #[.bool qa, .slice oa na ka, .slice pa ma ra, .bool qax, .slice oax nax kax, .slice pax max rax]) (w' := w1) (by go_simp) (leaves_mk (Below.refl _ _) rfl (fun h => by cases h))
      · intro vals w1 hb hd
        have dg : KEq (.bool false) (vals 30) w1 := hd 30 (by kernel_rfl)
        refine stepG_yes (wanted_of rfl rfl (congrArg some dg) rfl) ?_
        clear dg
        obtain ⟨e0, e1, e2, e3, e4, e5⟩ := row6 (heap_below BX2.out hb)
        refine stepOK_value (v := .agg #[.bool qb, .slice ob nb kb, .slice pb mb rb, .bool qbx, .slice obx nbx kbx, .slice pbx mbx rbx]) (w' := w1) (by go_simp) (leaves_mk (Below.refl _ _) rfl (fun h => by cases h))
      · intro vals w1 hb hd
        have dg : KEq (.bool false) (vals 30) w1 := hd 30 (by kernel_rfl)
        refine stepG_yes (wanted_of rfl rfl (congrArg some dg) rfl) ?_
        clear dg
        have d31 : KEq (.agg #[.bool qa, .slice oa na ka, .slice pa ma ra, .bool qax, .slice oax nax kax, .slice pax max rax]) (vals 31) w1 := hd 31 (by kernel_rfl)
        have d32 : KEq (.agg #[.bool qb, .slice ob nb kb, .slice pb mb rb, .bool qbx, .slice obx nbx kbx, .slice pbx mbx rbx]) (vals 32) w1 := hd 32 (by kernel_rfl)
        have z31 : vals 31 = _ := d31
        have z32 : vals 32 = _ := d32
        have hs := smul_any _ ((p_a, r_a)) _ ((p_b, r_b)) w1 ((Fa.out.below hb).is HOa.out (by omega) (by omega)) ((Fb.out.below hb).is HOb.out (by omega) (by omega)) (by omega) (by omega) (by omega) (by omega)
        have HS := Lib.hid hs; clear hs
        rw [z31]; clear z31
        rw [z32]; clear z32
        clear d31 d32 hd
        refine stepOK_call (by go_simp; first | done | exact ⟨⟨rfl, rfl⟩, rfl⟩) ?_
        (with_reducible refine HS.out.mono ?_); rintro e w2 ⟨v, rfl, hb2, hn⟩
        exact ⟨v, rfl, leaves_mk hb2 hn (fun h => by cases h)⟩
      · intro vals w1 hb hd
        have dg : KEq (.bool false) (vals 30) w1 := hd 30 (by kernel_rfl)
        refine stepG_yes (wanted_of rfl rfl (congrArg some dg) rfl) ?_
        clear dg
        obtain ⟨e0, e1, e2⟩ := row3 (heap_below BX11_8.out hb)
        refine stepOK_value (v := .agg #[.bool s12, .slice o12 n12 c12, .slice a12 m12 d12]) (w' := w1) (by go_simp) (leaves_mk (Below.refl _ _) rfl (fun h => by cases h))
      · intro vals w1 hb hd
        have dg : KEq (.bool false) (vals 30) w1 := hd 30 (by kernel_rfl)
        refine stepG_yes (wanted_of rfl rfl (congrArg some dg) rfl) ?_
        clear dg
        obtain ⟨e0, e1, e2⟩ := row3 (heap_below BX11_9.out hb)
        refine stepOK_value (v := .agg #[.bool s13, .slice o13 n13 c13, .slice a13 m13 d13]) (w' := w1) (by go_simp) (leaves_mk (Below.refl _ _) rfl (fun h => by cases h))
      · intro vals w1 hb hd
        have dg : KEq (.bool false) (vals 30) w1 := hd 30 (by kernel_rfl)
        refine stepG_yes (wanted_of rfl rfl (congrArg some dg) rfl) ?_
        clear dg
        have d34 : KEq (.agg #[.bool s12, .slice o12 n12 c12, .slice a12 m12 d12]) (vals 34) w1 := hd 34 (by kernel_rfl)
        have d35 : KEq (.agg #[.bool s13, .slice o13 n13 c13, .slice a13 m13 d13]) (vals 35) w1 := hd 35 (by kernel_rfl)
        have z34 : vals 34 = _ := d34
        have z35 : vals 35 = _ := d35
        have hs := mulq_any _ (inK ((p_a, r_a)) k0) _ (inK ((p_b, r_b)) k1) w1 ((N11_3.out.below hb).is (by omega)) ((N11_7.out.below hb).is (by omega))
        have HS := Lib.hid hs; clear hs
        rw [z34]; clear z34
        rw [z35]; clear z35
        clear d34 d35 hd
        refine stepOK_call (by go_simp; first | done | exact ⟨⟨rfl, rfl⟩, rfl⟩) ?_
        (with_reducible refine HS.out.mono ?_); rintro e w2 ⟨v, rfl, hb2, hn⟩
        exact ⟨v, rfl, leaves_mk hb2 hn (fun h => by cases h)⟩
      · intro vals w1 hb hd
        have dg : KEq (.bool false) (vals 30) w1 := hd 30 (by kernel_rfl)
        refine stepG_yes (wanted_of rfl rfl (congrArg some dg) rfl) ?_
        clear dg
        have d33 : KSp (sMul ((p_a, r_a)) ((p_b, r_b))) (vals 33) w1 := hd 33 (by kernel_rfl)
        have R33 : Hid (IsSp w1 (vals 33) (sMul ((p_a, r_a)) ((p_b, r_b)))) := Lib.hid d33
        have d36 : KIs ((inK ((p_a, r_a)) k0) * (inK ((p_b, r_b)) k1)) (vals 36) w1 := hd 36 (by kernel_rfl)
        have R36 : Hid (IsR w1 (vals 36) ((inK ((p_a, r_a)) k0) * (inK ((p_b, r_b)) k1))) := Lib.hid d36
        have hs := contains_any _ (sMul ((p_a, r_a)) ((p_b, r_b))) _ ((inK ((p_a, r_a)) k0) * (inK ((p_b, r_b)) k1)) w1 (R33.out.is (around4_ok _ _ _ _) (by omega) (by omega)) (R36.out.is (by omega)) (by omega) (by omega) (by omega)
        rw [HI5.out] at hs
        have HS := Lib.hid hs; clear hs
        clear d33 d36 hd
        refine stepOK_call (by go_simp; first | done | exact ⟨⟨rfl, rfl⟩, rfl⟩) ?_
        (with_reducible refine HS.out.mono ?_); rintro e w2 ⟨rfl, hb2⟩
        exact ⟨_, rfl, leaves_mk hb2 rfl (fun h => by cases h)⟩
      · intro vals w1 hb hd
        have dg : KEq (.bool false) (vals 30) w1 := hd 30 (by kernel_rfl)
        refine stepG_yes (wanted_of rfl rfl (congrArg some dg) rfl) ?_
        clear dg
        have d37 : KEq (.bool true) (vals 37) w1 := hd 37 (by kernel_rfl)
        rw [show vals 37 = _ from d37]
        refine stepOK_value (v := (.bool false)) (w' := w1) (by go_simp) (leaves_mk (Below.refl _ _) rfl (fun h => by cases h))
      · intro vals w1 hb hd
        have d30 : KEq (.bool false) (vals 30) w1 := hd 30 (by kernel_rfl)
        have d38 : KEq (.bool false) (vals 38) w1 := hd 38 (by kernel_rfl)
        rw [show vals 30 = _ from d30]
        rw [show vals 38 = _ from d38]
        refine stepOK_value (v := (.bool false)) (w' := w1) (by go_simp) (leaves_mk (Below.refl _ _) rfl (fun h => by cases h))
      · intro vals w1 hb hd
        have d39 : KEq (.bool false) (vals 39) w1 := hd 39 (by kernel_rfl)
        rw [show vals 39 = _ from d39]
        refine stepOK_value (v := (.bool false)) (w' := w1) (by go_simp) (leaves_mk (Below.refl _ _) rfl (fun h => by cases h))
      · intro vals w1 hb hd
        have dg : KEq (.bool false) (vals 40) w1 := hd 40 (by kernel_rfl)
        refine stepG_yes (wanted_of rfl rfl (congrArg some dg) rfl) ?_
        clear dg
        obtain ⟨e0, e1, e2, e3, e4, e5⟩ := row6 (heap_below BX1.out hb)
        refine stepOK_value (v := .agg #[.bool qa, .slice oa na ka, .slice pa ma ra, .bool qax, .slice oax nax kax, .slice pax max rax]) (w' := w1) (by go_simp) (leaves_mk (Below.refl _ _) rfl (fun h => by cases h))
      · intro vals w1 hb hd
        have dg : KEq (.bool false) (vals 40) w1 := hd 40 (by kernel_rfl)
        refine stepG_yes (wanted_of rfl rfl (congrArg some dg) rfl) ?_
        clear dg
        have d41 : KEq (.agg #[.bool qa, .slice oa na ka, .slice pa ma ra, .bool qax, .slice oax nax kax, .slice pax max rax]) (vals 41) w1 := hd 41 (by kernel_rfl)
        have z41 : vals 41 = _ := d41
        have hs := snot_any _ ((p_a, r_a)) w1 ((Fa.out.below hb).is HOa.out (by omega) (by omega)) (by omega) (by omega)
        have HS := Lib.hid hs; clear hs
        rw [z41]; clear z41
        clear d41 hd
        refine stepOK_call (by go_simp; first | done | exact ⟨⟨rfl, rfl⟩, rfl⟩) ?_
        (with_reducible refine HS.out.mono ?_); rintro e w2 ⟨v, rfl, hb2, hn⟩
        exact ⟨v, rfl, leaves_mk hb2 hn (fun h => by cases h)⟩
      · intro vals w1 hb hd
        have dg : KEq (.bool false) (vals 40) w1 := hd 40 (by kernel_rfl)
        refine stepG_yes (wanted_of rfl rfl (congrArg some dg) rfl) ?_
        clear dg
        have hs := ofq_any 1 w1 (by decide) (by decide)
        have HS := Lib.hid hs; clear hs
        clear hd
        refine stepOK_call (by go_simp; first | done | exact ⟨⟨rfl, rfl⟩, rfl⟩) ?_
        (with_reducible refine HS.out.mono ?_); rintro e w2 ⟨v, rfl, hb2, hn⟩
        exact ⟨v, rfl, leaves_mk hb2 hn (fun h => by cases h)⟩
      · intro vals w1 hb hd
        have dg : KEq (.bool false) (vals 40) w1 := hd 40 (by kernel_rfl)
        refine stepG_yes (wanted_of rfl rfl (congrArg some dg) rfl) ?_
        clear dg
        obtain ⟨e0, e1, e2⟩ := row3 (heap_below BX11_8.out hb)
        refine stepOK_value (v := .agg #[.bool s12, .slice o12 n12 c12, .slice a12 m12 d12]) (w' := w1) (by go_simp) (leaves_mk (Below.refl _ _) rfl (fun h => by cases h))
    case tl35 =>
      intro vals w12 hb12 hf hdis
      simp only [List.drop_succ_cons, List.drop_zero]
      have z40 : vals 40 = _ := hf 40 (by decide)
      try rw [z40]
      clear z40
      obtain ⟨u35_42, hu42⟩ : ∃ u, u = vals 42 := ⟨_, rfl⟩
      have hn35_42 : IsSp w12 (vals 42) (sNot ((p_a, r_a))) := hf 42 (by decide)
      rw [← hu42] at hn35_42 ⊢; clear hu42
      obtain ⟨u35_43, hu43⟩ : ∃ u, u = vals 43 := ⟨_, rfl⟩
      have hn35_43 : IsR w12 (vals 43) (((1 : Int) : Rat)) := hf 43 (by decide)
      rw [← hu43] at hn35_43 ⊢; clear hu43
      have z44 : vals 44 = _ := hf 44 (by decide)
      try rw [z44]
      clear z44
      clear hf hdis
      have HB12 := Lib.hid (HB11.out.step hb12)
      have Fa := Lib.hid (Fa.out.below hb12)
      have Fal := Lib.hid (Fal.out.below hb12)
      have Fah := Lib.hid (Fah.out.below hb12)
      have FaV := Lib.hid (FaV.out.below hb12)
      have Fb := Lib.hid (Fb.out.below hb12)
      have Fbl := Lib.hid (Fbl.out.below hb12)
      have Fbh := Lib.hid (Fbh.out.below hb12)
      have FbV := Lib.hid (FbV.out.below hb12)
      have N11_3 := Lib.hid (N11_3.out.below hb12)
      have N11_7 := Lib.hid (N11_7.out.below hb12)
      have BX1 := Lib.hid (heap_below BX1.out hb12)
      have BX2 := Lib.hid (heap_below BX2.out hb12)
      have BX3 := Lib.hid (heap_below BX3.out hb12)
      have BX11_8 := Lib.hid (heap_below BX11_8.out hb12)
      have BX11_9 := Lib.hid (heap_below BX11_9.out hb12)
      clear hb12
      have N35_42 := Lib.hid hn35_42; clear hn35_42
      obtain ⟨s36, o36, n36, c36, a36, m36, d36, s36x, o36x, n36x, c36x, a36x, m36x, d36x, rfl⟩ := N35_42.out.shape
      have N35_42l := Lib.hid (isSp_ends N35_42.out).1; have N35_42h := Lib.hid (isSp_ends N35_42.out).2
      have N35_43 := Lib.hid hn35_43; clear hn35_43
      obtain ⟨s37, o37, n37, c37, a37, m37, d37, rfl⟩ := N35_43.out.shape
      skip
      have k38 := rl_sub (((1 : Int) : Rat)) (inK ((p_a, r_a)) k0)
      have hs := subq_any _ (((1 : Int) : Rat)) _ (inK ((p_a, r_a)) k0) w12 (N35_43.out.is (by omega)) (N11_3.out.is (by omega))
      have HS := Lib.hid hs; clear hs
      go_wp2_with (with_reducible first | refine pauseCall ?_ | refine pauseLoop ?_ | refine pauseDraw ?_ | refine pauseBody ?_ | refine pauseRounds ?_)
      refine Pause.mk ?_
      (with_reducible refine HS.out.mono ?_); rintro e w13 ⟨v13, rfl, hb13, hn13⟩
      clear HS
      have HB13 := Lib.hid (HB12.out.step hb13)
      have Fa := Lib.hid (Fa.out.below hb13)
      have Fal := Lib.hid (Fal.out.below hb13)
      have Fah := Lib.hid (Fah.out.below hb13)
      have FaV := Lib.hid (FaV.out.below hb13)
      have Fb := Lib.hid (Fb.out.below hb13)
      have Fbl := Lib.hid (Fbl.out.below hb13)
      have Fbh := Lib.hid (Fbh.out.below hb13)
      have FbV := Lib.hid (FbV.out.below hb13)
      have N11_3 := Lib.hid (N11_3.out.below hb13)
      have N11_7 := Lib.hid (N11_7.out.below hb13)
      have N35_42 := Lib.hid (N35_42.out.below hb13)
      have N35_42l := Lib.hid (N35_42l.out.below hb13)
      have N35_42h := Lib.hid (N35_42h.out.below hb13)
      have N35_43 := Lib.hid (N35_43.out.below hb13)
      have BX1 := Lib.hid (heap_below BX1.out hb13)
      have BX2 := Lib.hid (heap_below BX2.out hb13)
      have BX3 := Lib.hid (heap_below BX3.out hb13)
      have BX11_8 := Lib.hid (heap_below BX11_8.out hb13)
      have BX11_9 := Lib.hid (heap_below BX11_9.out hb13)
      have N13 := Lib.hid hn13; clear hn13
      obtain ⟨s39, o39, n39, c39, a39, m39, d39, rfl⟩ := N13.out.shape
      clear hb13
      have hs := contains_any _ (sNot ((p_a, r_a))) _ ((((1 : Int) : Rat)) - (inK ((p_a, r_a)) k0)) w13 (N35_42.out.is (sNot_ok HOa.out) (by omega) (by omega)) (N13.out.is (by omega)) (by omega) (by omega) (by omega)
      rw [HI6.out] at hs
      have HS := Lib.hid hs; clear hs
      go_wp2_with (with_reducible first | refine pauseCall ?_ | refine pauseLoop ?_ | refine pauseDraw ?_ | refine pauseBody ?_ | refine pauseRounds ?_)
      refine Pause.mk ?_
      (with_reducible refine HS.out.mono ?_); rintro e w14 ⟨rfl, hb14⟩
      clear HS
      have HB14 := Lib.hid (HB13.out.step hb14)
      have Fa := Lib.hid (Fa.out.below hb14)
      have Fal := Lib.hid (Fal.out.below hb14)
      have Fah := Lib.hid (Fah.out.below hb14)
      have FaV := Lib.hid (FaV.out.below hb14)
      have Fb := Lib.hid (Fb.out.below hb14)
      have Fbl := Lib.hid (Fbl.out.below hb14)
      have Fbh := Lib.hid (Fbh.out.below hb14)
      have FbV := Lib.hid (FbV.out.below hb14)
      have N11_3 := Lib.hid (N11_3.out.below hb14)
      have N11_7 := Lib.hid (N11_7.out.below hb14)
      have N35_42 := Lib.hid (N35_42.out.below hb14)
      have N35_42l := Lib.hid (N35_42l.out.below hb14)
      have N35_42h := Lib.hid (N35_42h.out.below hb14)
      have N35_43 := Lib.hid (N35_43.out.below hb14)
      have N13 := Lib.hid (N13.out.below hb14)
      have BX1 := Lib.hid (heap_below BX1.out hb14)
      have BX2 := Lib.hid (heap_below BX2.out hb14)
      have BX3 := Lib.hid (heap_below BX3.out hb14)
      have BX11_8 := Lib.hid (heap_below BX11_8.out hb14)
      have BX11_9 := Lib.hid (heap_below BX11_9.out hb14)
      clear hb14
      obtain ⟨x40_0, x40_1, x40_2, x40_3, x40_4, x40_5⟩ := row6 BX1.out
      obtain ⟨x41_0, x41_1, x41_2, x41_3, x41_4, x41_5⟩ := row6 BX2.out
      obtain ⟨kp44, kp44x⟩ : rl (((p_a), (r_a)) : Rat × Rat).1 ≤ rl (p_a) ∧ rl (((p_a), (r_a)) : Rat × Rat).2 ≤ rl (r_a) := ⟨Nat.le_refl _, Nat.le_refl _⟩
      obtain ⟨kp45, kp45x⟩ : rl (((p_b), (r_b)) : Rat × Rat).1 ≤ rl (p_b) ∧ rl (((p_b), (r_b)) : Rat × Rat).2 ≤ rl (r_b) := ⟨Nat.le_refl _, Nat.le_refl _⟩
      obtain ⟨k42, k43⟩ := rl_sdV ((p_a, r_a)) ((p_b, r_b))
      have hs := sdiv_any _ ((p_a, r_a)) _ ((p_b, r_b)) w14 (Fa.out.is HOa.out (by omega) (by omega)) (Fb.out.is HOb.out (by omega) (by omega)) (by omega) (by omega) (by omega) (by omega)
      rw [HS.out, errV_zero] at hs
      have HS := Lib.hid hs; clear hs
      go_wp2_with (with_reducible first | refine pauseCall ?_ | refine pauseLoop ?_ | refine pauseDraw ?_ | refine pauseBody ?_ | refine pauseRounds ?_)
      clear x40_0 x40_1 x40_2 x40_3 x40_4 x40_5 x41_0 x41_1 x41_2 x41_3 x41_4 x41_5
      refine Pause.mk ?_
      (with_reducible refine HS.out.mono ?_); rintro e w15 ⟨v15, rfl, hb15, hn15⟩
      clear HS
      have HB15 := Lib.hid (HB14.out.step hb15)
      have Fa := Lib.hid (Fa.out.below hb15)
      have Fal := Lib.hid (Fal.out.below hb15)
      have Fah := Lib.hid (Fah.out.below hb15)
      have FaV := Lib.hid (FaV.out.below hb15)
      have Fb := Lib.hid (Fb.out.below hb15)
      have Fbl := Lib.hid (Fbl.out.below hb15)
      have Fbh := Lib.hid (Fbh.out.below hb15)
      have FbV := Lib.hid (FbV.out.below hb15)
      have N11_3 := Lib.hid (N11_3.out.below hb15)
      have N11_7 := Lib.hid (N11_7.out.below hb15)
      have N35_42 := Lib.hid (N35_42.out.below hb15)
      have N35_42l := Lib.hid (N35_42l.out.below hb15)
      have N35_42h := Lib.hid (N35_42h.out.below hb15)
      have N35_43 := Lib.hid (N35_43.out.below hb15)
      have N13 := Lib.hid (N13.out.below hb15)
      have BX1 := Lib.hid (heap_below BX1.out hb15)
      have BX2 := Lib.hid (heap_below BX2.out hb15)
      have BX3 := Lib.hid (heap_below BX3.out hb15)
      have BX11_8 := Lib.hid (heap_below BX11_8.out hb15)
      have BX11_9 := Lib.hid (heap_below BX11_9.out hb15)
      have N15 := Lib.hid hn15; clear hn15
      obtain ⟨s46, o46, n46, c46, a46, m46, d46, s46x, o46x, n46x, c46x, a46x, m46x, d46x, rfl⟩ := N15.out.shape
      have N15l := Lib.hid (isSp_ends N15.out).1; have N15h := Lib.hid (isSp_ends N15.out).2
      clear hb15
      obtain ⟨w16, hw16⟩ : ∃ w16, w16 = w15.alloc (.cells #[.bool s46, .slice o46 n46 c46, .slice a46 m46 d46, .bool s46x, .slice o46x n46x c46x, .slice a46x m46x d46x] 26) := ⟨_, rfl⟩
      have hb16 : Below w15.heap.size w15 w16 := by rw [hw16]; exact (Below.refl _ _).alloc (Nat.le_refl _) _
      have hx16 := heap_alloc_new w15 (.cells #[.bool s46, .slice o46 n46 c46, .slice a46 m46 d46, .bool s46x, .slice o46x n46x c46x, .slice a46x m46x d46x] 26)
      obtain ⟨g16, hg16⟩ : ∃ g, g = w15.heap.size := ⟨_, rfl⟩
      rw [← hw16, ← hg16] at hx16
      have lw16 : w.heap.size ≤ g16 := by rw [hg16]; exact HB15.out.size
      have ltBX116 : g1 < g16 := by rw [hg16]; exact below_lt BX1.out
      have ltBX216 : g2 < g16 := by rw [hg16]; exact below_lt BX2.out
      have ltBX316 : g3 < g16 := by rw [hg16]; exact below_lt BX3.out
      have ltBX11_816 : g11_8 < g16 := by rw [hg16]; exact below_lt BX11_8.out
      have ltBX11_916 : g11_9 < g16 := by rw [hg16]; exact below_lt BX11_9.out
      have HW16 := Lib.hid hw16; have HG16 := Lib.hid hg16; clear hw16 hg16
      have HB16 := Lib.hid (HB15.out.step hb16)
      have Fa := Lib.hid (Fa.out.below hb16)
      have Fal := Lib.hid (Fal.out.below hb16)
      have Fah := Lib.hid (Fah.out.below hb16)
      have FaV := Lib.hid (FaV.out.below hb16)
      have Fb := Lib.hid (Fb.out.below hb16)
      have Fbl := Lib.hid (Fbl.out.below hb16)
      have Fbh := Lib.hid (Fbh.out.below hb16)
      have FbV := Lib.hid (FbV.out.below hb16)
      have N11_3 := Lib.hid (N11_3.out.below hb16)
      have N11_7 := Lib.hid (N11_7.out.below hb16)
      have N35_42 := Lib.hid (N35_42.out.below hb16)
      have N35_42l := Lib.hid (N35_42l.out.below hb16)
      have N35_42h := Lib.hid (N35_42h.out.below hb16)
      have N35_43 := Lib.hid (N35_43.out.below hb16)
      have N13 := Lib.hid (N13.out.below hb16)
      have N15 := Lib.hid (N15.out.below hb16)
      have N15l := Lib.hid (N15l.out.below hb16)
      have N15h := Lib.hid (N15h.out.below hb16)
      have BX1 := Lib.hid (heap_below BX1.out hb16)
      have BX2 := Lib.hid (heap_below BX2.out hb16)
      have BX3 := Lib.hid (heap_below BX3.out hb16)
      have BX11_8 := Lib.hid (heap_below BX11_8.out hb16)
      have BX11_9 := Lib.hid (heap_below BX11_9.out hb16)
      have BX16 := Lib.hid hx16; clear hb16 hx16
      obtain ⟨x47_0, x47_1, x47_2⟩ := row3 BX11_8.out
      obtain ⟨x48_0, x48_1, x48_2⟩ := row3 BX11_9.out
      have k49 := rl_div' (inK ((p_a, r_a)) k0) (inK ((p_b, r_b)) k1)
      have hs := divq_any _ (inK ((p_a, r_a)) k0) _ (inK ((p_b, r_b)) k1) w16 (N11_3.out.is (by omega)) (N11_7.out.is (by omega))
      rw [HD.out, errV_zero] at hs
      have HS := Lib.hid hs; clear hs
      try rw [HW16.out] at x47_0
      try rw [HG16.out] at x47_0
      try rw [HW16.out] at x47_1
      try rw [HG16.out] at x47_1
      try rw [HW16.out] at x47_2
      try rw [HG16.out] at x47_2
      try rw [HW16.out] at x48_0
      try rw [HG16.out] at x48_0
      try rw [HW16.out] at x48_1
      try rw [HG16.out] at x48_1
      try rw [HW16.out] at x48_2
      try rw [HG16.out] at x48_2
      go_wp2_with (with_reducible first | refine pauseCall ?_ | refine pauseLoop ?_ | refine pauseDraw ?_ | refine pauseBody ?_ | refine pauseRounds ?_)
      try rw [← HW16.out]
      try rw [← HG16.out]
      clear x47_0 x47_1 x47_2 x48_0 x48_1 x48_2
      refine Pause.mk ?_
      (with_reducible refine HS.out.mono ?_); rintro e w17 ⟨v17, rfl, hb17, hn17⟩
      clear HS
      have HB17 := Lib.hid (HB16.out.step hb17)
      have Fa := Lib.hid (Fa.out.below hb17)
      have Fal := Lib.hid (Fal.out.below hb17)
      have Fah := Lib.hid (Fah.out.below hb17)
      have FaV := Lib.hid (FaV.out.below hb17)
      have Fb := Lib.hid (Fb.out.below hb17)
      have Fbl := Lib.hid (Fbl.out.below hb17)
      have Fbh := Lib.hid (Fbh.out.below hb17)
      have FbV := Lib.hid (FbV.out.below hb17)
      have N11_3 := Lib.hid (N11_3.out.below hb17)
      have N11_7 := Lib.hid (N11_7.out.below hb17)
      have N35_42 := Lib.hid (N35_42.out.below hb17)
      have N35_42l := Lib.hid (N35_42l.out.below hb17)
      have N35_42h := Lib.hid (N35_42h.out.below hb17)
      have N35_43 := Lib.hid (N35_43.out.below hb17)
      have N13 := Lib.hid (N13.out.below hb17)
      have N15 := Lib.hid (N15.out.below hb17)
      have N15l := Lib.hid (N15l.out.below hb17)
      have N15h := Lib.hid (N15h.out.below hb17)
      have BX1 := Lib.hid (heap_below BX1.out hb17)
      have BX2 := Lib.hid (heap_below BX2.out hb17)
      have BX3 := Lib.hid (heap_below BX3.out hb17)
      have BX11_8 := Lib.hid (heap_below BX11_8.out hb17)
      have BX11_9 := Lib.hid (heap_below BX11_9.out hb17)
      have BX16 := Lib.hid (heap_below BX16.out hb17)
      have N17 := Lib.hid hn17; clear hn17
      obtain ⟨s50, o50, n50, c50, a50, m50, d50, rfl⟩ := N17.out.shape
      clear hb17
      obtain ⟨w18, hw18⟩ : ∃ w18, w18 = w17.alloc (.cells #[.bool s50, .slice o50 n50 c50, .slice a50 m50 d50] 24) := ⟨_, rfl⟩
      have hb18 : Below w17.heap.size w17 w18 := by rw [hw18]; exact (Below.refl _ _).alloc (Nat.le_refl _) _
      have hx18 := heap_alloc_new w17 (.cells #[.bool s50, .slice o50 n50 c50, .slice a50 m50 d50] 24)
      obtain ⟨g18, hg18⟩ : ∃ g, g = w17.heap.size := ⟨_, rfl⟩
      rw [← hw18, ← hg18] at hx18
      have lw18 : w.heap.size ≤ g18 := by rw [hg18]; exact HB17.out.size
      have ltBX118 : g1 < g18 := by rw [hg18]; exact below_lt BX1.out
      have ltBX218 : g2 < g18 := by rw [hg18]; exact below_lt BX2.out
      have ltBX318 : g3 < g18 := by rw [hg18]; exact below_lt BX3.out
      have ltBX11_818 : g11_8 < g18 := by rw [hg18]; exact below_lt BX11_8.out
      have ltBX11_918 : g11_9 < g18 := by rw [hg18]; exact below_lt BX11_9.out
      have ltBX1618 : g16 < g18 := by rw [hg18]; exact below_lt BX16.out
      have HW18 := Lib.hid hw18; have HG18 := Lib.hid hg18; clear hw18 hg18
      have HB18 := Lib.hid (HB17.out.step hb18)
      have Fa := Lib.hid (Fa.out.below hb18)
      have Fal := Lib.hid (Fal.out.below hb18)
      have Fah := Lib.hid (Fah.out.below hb18)
      have FaV := Lib.hid (FaV.out.below hb18)
      have Fb := Lib.hid (Fb.out.below hb18)
      have Fbl := Lib.hid (Fbl.out.below hb18)
      have Fbh := Lib.hid (Fbh.out.below hb18)
      have FbV := Lib.hid (FbV.out.below hb18)
      have N11_3 := Lib.hid (N11_3.out.below hb18)
      have N11_7 := Lib.hid (N11_7.out.below hb18)
      have N35_42 := Lib.hid (N35_42.out.below hb18)
      have N35_42l := Lib.hid (N35_42l.out.below hb18)
      have N35_42h := Lib.hid (N35_42h.out.below hb18)
      have N35_43 := Lib.hid (N35_43.out.below hb18)
      have N13 := Lib.hid (N13.out.below hb18)
      have N15 := Lib.hid (N15.out.below hb18)
      have N15l := Lib.hid (N15l.out.below hb18)
      have N15h := Lib.hid (N15h.out.below hb18)
      have N17 := Lib.hid (N17.out.below hb18)
      have BX1 := Lib.hid (heap_below BX1.out hb18)
      have BX2 := Lib.hid (heap_below BX2.out hb18)
      have BX3 := Lib.hid (heap_below BX3.out hb18)
      have BX11_8 := Lib.hid (heap_below BX11_8.out hb18)
      have BX11_9 := Lib.hid (heap_below BX11_9.out hb18)
      have BX16 := Lib.hid (heap_below BX16.out hb18)
      have BX18 := Lib.hid hx18; clear hb18 hx18
      obtain ⟨x51_0, x51_1, x51_2, x51_3, x51_4, x51_5⟩ := row6 BX16.out
      obtain ⟨x52_0, x52_1, x52_2⟩ := row3 BX18.out
      have hs := contains_any _ (sdV ((p_a, r_a)) ((p_b, r_b))) _ ((inK ((p_a, r_a)) k0) / (inK ((p_b, r_b)) k1)) w18 (N15.out.is (sdV_ok _ _) (by omega) (by omega)) (N17.out.is (by omega)) (by omega) (by omega) (by omega)
      rw [HI8.out] at hs
      have HS := Lib.hid hs; clear hs
      try rw [HW18.out] at x51_0
      try rw [HG18.out] at x51_0
      try rw [HW18.out] at x51_1
      try rw [HG18.out] at x51_1
      try rw [HW18.out] at x51_2
      try rw [HG18.out] at x51_2
      try rw [HW18.out] at x51_3
      try rw [HG18.out] at x51_3
      try rw [HW18.out] at x51_4
      try rw [HG18.out] at x51_4
      try rw [HW18.out] at x51_5
      try rw [HG18.out] at x51_5
      try rw [HW18.out] at x52_0
      try rw [HG18.out] at x52_0
      try rw [HW18.out] at x52_1
      try rw [HG18.out] at x52_1
      try rw [HW18.out] at x52_2
      try rw [HG18.out] at x52_2
      go_wp2_with (with_reducible first | refine pauseCall ?_ | refine pauseLoop ?_ | refine pauseDraw ?_ | refine pauseBody ?_ | refine pauseRounds ?_)
      try rw [← HW18.out]
      try rw [← HG18.out]
      clear x51_0 x51_1 x51_2 x51_3 x51_4 x51_5 x52_0 x52_1 x52_2
      refine Pause.mk ?_
      (with_reducible refine HS.out.mono ?_); rintro e w19 ⟨rfl, hb19⟩
      clear HS
      have HB19 := Lib.hid (HB18.out.step hb19)
      have Fa := Lib.hid (Fa.out.below hb19)
      have Fal := Lib.hid (Fal.out.below hb19)
      have Fah := Lib.hid (Fah.out.below hb19)
      have FaV := Lib.hid (FaV.out.below hb19)
      have Fb := Lib.hid (Fb.out.below hb19)
      have Fbl := Lib.hid (Fbl.out.below hb19)
      have Fbh := Lib.hid (Fbh.out.below hb19)
      have FbV := Lib.hid (FbV.out.below hb19)
      have N11_3 := Lib.hid (N11_3.out.below hb19)
      have N11_7 := Lib.hid (N11_7.out.below hb19)
      have N35_42 := Lib.hid (N35_42.out.below hb19)
      have N35_42l := Lib.hid (N35_42l.out.below hb19)
      have N35_42h := Lib.hid (N35_42h.out.below hb19)
      have N35_43 := Lib.hid (N35_43.out.below hb19)
      have N13 := Lib.hid (N13.out.below hb19)
      have N15 := Lib.hid (N15.out.below hb19)
      have N15l := Lib.hid (N15l.out.below hb19)
      have N15h := Lib.hid (N15h.out.below hb19)
      have N17 := Lib.hid (N17.out.below hb19)
      have BX1 := Lib.hid (heap_below BX1.out hb19)
      have BX2 := Lib.hid (heap_below BX2.out hb19)
      have BX3 := Lib.hid (heap_below BX3.out hb19)
      have BX11_8 := Lib.hid (heap_below BX11_8.out hb19)
      have BX11_9 := Lib.hid (heap_below BX11_9.out hb19)
      have BX16 := Lib.hid (heap_below BX16.out hb19)
      have BX18 := Lib.hid (heap_below BX18.out hb19)
      clear hb19
      obtain ⟨x53_0, x53_1, x53_2, x53_3, x53_4, x53_5⟩ := row6 BX2.out
      obtain ⟨kp54, kp54x⟩ : rl (((p_b), (r_b)) : Rat × Rat).1 ≤ rl (p_b) ∧ rl (((p_b), (r_b)) : Rat × Rat).2 ≤ rl (r_b) := ⟨Nat.le_refl _, Nat.le_refl _⟩
      have hs := contains_any _ ((p_b, r_b)) _ (0) w19 (Fb.out.is HOb.out (by omega) (by omega)) ((isR_zero _).is (by rw [rl_zero]; decide)) (by omega) (by omega) (by omega)
      rw [HI7.out] at hs
      have HS := Lib.hid hs; clear hs
      go_wp2_with (with_reducible first | refine pauseCall ?_ | refine pauseLoop ?_ | refine pauseDraw ?_ | refine pauseBody ?_ | refine pauseRounds ?_)
      clear x53_0 x53_1 x53_2 x53_3 x53_4 x53_5
      refine Pause.mk ?_
      (with_reducible refine HS.out.mono ?_); rintro e w20 ⟨rfl, hb20⟩
      clear HS
      have HB20 := Lib.hid (HB19.out.step hb20)
      have Fa := Lib.hid (Fa.out.below hb20)
      have Fal := Lib.hid (Fal.out.below hb20)
      have Fah := Lib.hid (Fah.out.below hb20)
      have FaV := Lib.hid (FaV.out.below hb20)
      have Fb := Lib.hid (Fb.out.below hb20)
      have Fbl := Lib.hid (Fbl.out.below hb20)
      have Fbh := Lib.hid (Fbh.out.below hb20)
      have FbV := Lib.hid (FbV.out.below hb20)
      have N11_3 := Lib.hid (N11_3.out.below hb20)
      have N11_7 := Lib.hid (N11_7.out.below hb20)
      have N35_42 := Lib.hid (N35_42.out.below hb20)
      have N35_42l := Lib.hid (N35_42l.out.below hb20)
      have N35_42h := Lib.hid (N35_42h.out.below hb20)
      have N35_43 := Lib.hid (N35_43.out.below hb20)
      have N13 := Lib.hid (N13.out.below hb20)
      have N15 := Lib.hid (N15.out.below hb20)
      have N15l := Lib.hid (N15l.out.below hb20)
      have N15h := Lib.hid (N15h.out.below hb20)
      have N17 := Lib.hid (N17.out.below hb20)
      have BX1 := Lib.hid (heap_below BX1.out hb20)
      have BX2 := Lib.hid (heap_below BX2.out hb20)
      have BX3 := Lib.hid (heap_below BX3.out hb20)
      have BX11_8 := Lib.hid (heap_below BX11_8.out hb20)
      have BX11_9 := Lib.hid (heap_below BX11_9.out hb20)
      have BX16 := Lib.hid (heap_below BX16.out hb20)
      have BX18 := Lib.hid (heap_below BX18.out hb20)
      clear hb20
      go_wp2_with (with_reducible first | refine pauseCall ?_ | refine pauseLoop ?_ | refine pauseDraw ?_ | refine pauseBody ?_ | refine pauseRounds ?_)
      refine Pause.mk ?_
      go_ret
      exact ⟨by first | rfl | (simp; done), HB20.out⟩
theorem spancontains_any (va : Value) (sa : Bool) (aa ba : List Nat) (ta : Bool) (ca da : List Nat) (vb : Value) (sb : Bool) (ab bb : List Nat) (tb : Bool) (cb db : List Nat) (k0 : Nat) (k1 : Nat) (w : World) (ha : SpV w va sa aa ba ta ca da) (hb : SpV w vb sb ab bb tb cb db) (hk0 : k0 < 256) (hk1 : k1 < 256) :
    Calls Tryd.prog 5 #[va, vb, .agg #[.int .u8 (k0 : Nat), .int .u8 (k1 : Nat)]] w (RetV w (.bool true)) := by
  by_cases hbig : 6 < aa.length ∨ 6 < ba.length ∨ 6 < ca.length ∨ 6 < da.length ∨ 6 < ab.length ∨ 6 < bb.length ∨ 6 < cb.length ∨ 6 < db.length
  · exact spancontains_big va aa.length ba.length ca.length da.length vb ab.length bb.length cb.length db.length k0 k1 w ha.sz.1 hb.sz.1 hk0 hk1 hbig
  by_cases hva : Vld sa aa ba ∧ Vld ta ca da ∧ rq sa aa ba ≤ rq ta ca da
  case neg => exact spancontains_noa va sa aa ba ta ca da vb sb ab bb tb cb db k0 k1 w ha (by omega) (by omega) (by omega) (by omega) hb (by omega) (by omega) (by omega) (by omega) hk0 hk1  hva
  by_cases hvb : Vld sb ab bb ∧ Vld tb cb db ∧ rq sb ab bb ≤ rq tb cb db
  case neg => exact spancontains_nob va sa aa ba ta ca da vb sb ab bb tb cb db k0 k1 w ha (by omega) (by omega) (by omega) (by omega) hb (by omega) (by omega) (by omega) (by omega) hk0 hk1 hva hvb
  by_cases hz : inS (rq sb ab bb, rq tb cb db) 0
  · by_cases hy0 : inK (rq sb ab bb, rq tb cb db) k1 = 0
    · exact spancontains_ok1 va sa aa ba ta ca da vb sb ab bb tb cb db k0 k1 w ha (by omega) (by omega) (by omega) (by omega) hva hb (by omega) (by omega) (by omega) (by omega) hvb hk0 hk1 hz hy0
    · exact spancontains_ok2 va sa aa ba ta ca da vb sb ab bb tb cb db k0 k1 w ha (by omega) (by omega) (by omega) (by omega) hva hb (by omega) (by omega) (by omega) (by omega) hvb hk0 hk1 hz hy0
  · exact spancontains_ok3 va sa aa ba ta ca da vb sb ab bb tb cb db k0 k1 w ha (by omega) (by omega) (by omega) (by omega) hva hb (by omega) (by omega) (by omega) (by omega) hvb hk0 hk1 hz
end Go.Proofs.YtaefimegiobkmaaDoor
