/-
  SpanInside: the walk of the statement.
  Conditions: each theorem's own.
-/
import Derived.Test.YtaefimegiobkmaaDoorMA6
namespace Go.Proofs.YtaefimegiobkmaaDoor
open Go.RowKit Go.ChangeShapes Go.WideShapes

/-- the sizes without 'max': omega parts on each -/
theorem rl_sMulD (a b : Rat × Rat) : rl (sMul a b).1 ≤ rl a.1 + rl a.2 + rl b.1 + rl b.2 ∧ rl (sMul a b).2 ≤ rl a.1 + rl a.2 + rl b.1 + rl b.2 := by
  obtain ⟨h1, h2⟩ := rl_sMul a b; exact ⟨by omega, by omega⟩
theorem rl_sHullD (a b : Rat × Rat) : rl (sHull a b).1 ≤ rl a.1 + rl a.2 + rl b.1 + rl b.2 ∧ rl (sHull a b).2 ≤ rl a.1 + rl a.2 + rl b.1 + rl b.2 := by
  obtain ⟨h1, h2⟩ := rl_sHull a b; exact ⟨by omega, by omega⟩
theorem rl_sClipD (a : Rat × Rat) : rl (sClip a).1 ≤ rl a.1 + 1 ∧ rl (sClip a).2 ≤ rl a.2 + 1 := by
  obtain ⟨h1, h2⟩ := rl_sClip a; exact ⟨by omega, by omega⟩
theorem rl_sdVD (a b : Rat × Rat) : rl (sdV a b).1 ≤ rl a.1 + rl a.2 + rl b.1 + rl b.2 + 1 ∧ rl (sdV a b).2 ≤ rl a.1 + rl a.2 + rl b.1 + rl b.2 + 1 := by
  obtain ⟨h1, h2⟩ := rl_sdV a b; exact ⟨by omega, by omega⟩
set_option maxRecDepth 100000 in
set_option maxHeartbeats 3200000 in
theorem spaninside_big (va : Value) (na ma nax max : Nat) (vb : Value) (nb mb nbx mbx : Nat) (k0 : Nat) (k1 : Nat) (k2 : Nat) (k3 : Nat) (w : World) (ha : SpSz va na ma nax max) (hb : SpSz vb nb mb nbx mbx) (hk0 : k0 < 256) (hk1 : k1 < 256) (hk2 : k2 < 256) (hk3 : k3 < 256) (hbig : 6 < na ∨ 6 < ma ∨ 6 < nax ∨ 6 < max ∨ 6 < nb ∨ 6 < mb ∨ 6 < nbx ∨ 6 < mbx) :
    Calls Tryd.prog 6 #[va, vb, .agg #[.int .u8 (k0 : Nat), .int .u8 (k1 : Nat), .int .u8 (k2 : Nat), .int .u8 (k3 : Nat)]] w (RetV w (.bool true)) := by
  have HBW := Lib.hid (Below.refl w.heap.size w)
  have kz0 : rl 0 ≤ 1 := by rw [rl_zero]; exact Nat.le_refl _
  obtain ⟨qa, oa, ka, pa, ra, qax, oax, kax, pax, rax, rfl, Za⟩ := ha
  obtain ⟨qb, ob, kb, pb, rb, qbx, obx, kbx, pbx, rbx, rfl, Zb⟩ := hb
  have HBIG := Lib.hid hbig; clear hbig
  obtain ⟨w1, hw1⟩ : ∃ w1, w1 = w.alloc (.cells #[.bool qa, .slice oa na ka, .slice pa ma ra, .bool qax, .slice oax nax kax, .slice pax max rax] 26) := ⟨_, rfl⟩
  have hb1 : Below w.heap.size w w1 := by rw [hw1]; exact (Below.refl _ _).alloc (Nat.le_refl _) _
  have hx1 := heap_alloc_new w (.cells #[.bool qa, .slice oa na ka, .slice pa ma ra, .bool qax, .slice oax nax kax, .slice pax max rax] 26)
  obtain ⟨g1, hg1⟩ : ∃ g, g = w.heap.size := ⟨_, rfl⟩
  rw [← hw1, ← hg1] at hx1
  have lw1 : w.heap.size ≤ g1 := by rw [hg1]; exact HBW.out.size
  have HW1 := Lib.hid hw1; have HG1 := Lib.hid hg1; clear hw1 hg1
  have HB1 := Lib.hid (HBW.out.step hb1)
  have BX1 := Lib.hid hx1; clear hb1 hx1
  obtain ⟨w2, hw2⟩ : ∃ w2, w2 = w1.alloc (.cells #[.bool qb, .slice ob nb kb, .slice pb mb rb, .bool qbx, .slice obx nbx kbx, .slice pbx mbx rbx] 26) := ⟨_, rfl⟩
  have hb2 : Below w1.heap.size w1 w2 := by rw [hw2]; exact (Below.refl _ _).alloc (Nat.le_refl _) _
  have hx2 := heap_alloc_new w1 (.cells #[.bool qb, .slice ob nb kb, .slice pb mb rb, .bool qbx, .slice obx nbx kbx, .slice pbx mbx rbx] 26)
  obtain ⟨g2, hg2⟩ : ∃ g, g = w1.heap.size := ⟨_, rfl⟩
  rw [← hw2, ← hg2] at hx2
  have lw2 : w.heap.size ≤ g2 := by rw [hg2]; exact HB1.out.size
  have ltBX12 : g1 < g2 := by rw [hg2]; exact below_lt BX1.out
  have hs2 : g2 = w.heap.size + 1 := by rw [hg2, HW1.out]; simp
  have HS2 := Lib.hid hs2; clear hs2
  have HW2 := Lib.hid hw2; have HG2 := Lib.hid hg2; clear hw2 hg2
  have HB2 := Lib.hid (HB1.out.step hb2)
  have BX1 := Lib.hid (heap_below BX1.out hb2)
  have BX2 := Lib.hid hx2; clear hb2 hx2
  obtain ⟨w3, hw3⟩ : ∃ w3, w3 = w2.alloc (.cells #[.int .u8 (k0 : Nat), .int .u8 (k1 : Nat), .int .u8 (k2 : Nat), .int .u8 (k3 : Nat)] 50) := ⟨_, rfl⟩
  have hb3 : Below w2.heap.size w2 w3 := by rw [hw3]; exact (Below.refl _ _).alloc (Nat.le_refl _) _
  have hx3 := heap_alloc_new w2 (.cells #[.int .u8 (k0 : Nat), .int .u8 (k1 : Nat), .int .u8 (k2 : Nat), .int .u8 (k3 : Nat)] 50)
  obtain ⟨g3, hg3⟩ : ∃ g, g = w2.heap.size := ⟨_, rfl⟩
  rw [← hw3, ← hg3] at hx3
  have lw3 : w.heap.size ≤ g3 := by rw [hg3]; exact HB2.out.size
  have ltBX13 : g1 < g3 := by rw [hg3]; exact below_lt BX1.out
  have ltBX23 : g2 < g3 := by rw [hg3]; exact below_lt BX2.out
  have hs3 : g3 = w.heap.size + 2 := by rw [hg3, HW2.out, HW1.out]; simp
  have HS3 := Lib.hid hs3; clear hs3
  have HW3 := Lib.hid hw3; have HG3 := Lib.hid hg3; clear hw3 hg3
  have HB3 := Lib.hid (HB2.out.step hb3)
  have BX1 := Lib.hid (heap_below BX1.out hb3)
  have BX2 := Lib.hid (heap_below BX2.out hb3)
  have BX3 := Lib.hid hx3; clear hb3 hx3
  go_enter Tryd.func6, Tryd.ntmps6
  have hs := awake03 w3
  have HS := Lib.hid hs; clear hs
  go_wp2_with (with_reducible first | refine pauseCall ?_ | refine pauseLoop ?_ | refine pauseDraw ?_ | refine pauseBody ?_ | refine pauseRounds ?_)
  try rw [← HW1.out]
  try rw [← HW2.out]
  try rw [← HW3.out]
  try rw [← HS3.out]
  try rw [← HS2.out]
  try rw [← HG1.out]
  try rw [← HG2.out]
  try rw [← HG3.out]
  refine Pause.mk ?_
  (with_reducible refine HS.out.mono ?_); rintro e w4 ⟨rfl, hb4⟩
  clear HS
  have HB4 := Lib.hid (HB3.out.step hb4)
  have BX1 := Lib.hid (heap_below BX1.out hb4)
  have BX2 := Lib.hid (heap_below BX2.out hb4)
  have BX3 := Lib.hid (heap_below BX3.out hb4)
  clear hb4
  obtain ⟨x1_0, x1_1, x1_2, x1_3, x1_4, x1_5⟩ := row6 BX1.out
  obtain ⟨x2_0, x2_1, x2_2, x2_3, x2_4, x2_5⟩ := row6 BX2.out
  obtain ⟨w5, hw5⟩ : ∃ w5, w5 = w4.alloc (.cells #[.bool qa, .slice oa na ka, .slice pa ma ra, .bool qax, .slice oax nax kax, .slice pax max rax, .bool qb, .slice ob nb kb, .slice pb mb rb, .bool qbx, .slice obx nbx kbx, .slice pbx mbx rbx] 26) := ⟨_, rfl⟩
  have hb5 : Below w4.heap.size w4 w5 := by rw [hw5]; exact (Below.refl _ _).alloc (Nat.le_refl _) _
  have hx5 := heap_alloc_new w4 (.cells #[.bool qa, .slice oa na ka, .slice pa ma ra, .bool qax, .slice oax nax kax, .slice pax max rax, .bool qb, .slice ob nb kb, .slice pb mb rb, .bool qbx, .slice obx nbx kbx, .slice pbx mbx rbx] 26)
  obtain ⟨g5, hg5⟩ : ∃ g, g = w4.heap.size := ⟨_, rfl⟩
  rw [← hw5, ← hg5] at hx5
  have lw5 : w.heap.size ≤ g5 := by rw [hg5]; exact HB4.out.size
  have ltBX15 : g1 < g5 := by rw [hg5]; exact below_lt BX1.out
  have ltBX25 : g2 < g5 := by rw [hg5]; exact below_lt BX2.out
  have ltBX35 : g3 < g5 := by rw [hg5]; exact below_lt BX3.out
  have HW5 := Lib.hid hw5; have HG5 := Lib.hid hg5; clear hw5 hg5
  have HB5 := Lib.hid (HB4.out.step hb5)
  have BX1 := Lib.hid (heap_below BX1.out hb5)
  have BX2 := Lib.hid (heap_below BX2.out hb5)
  have BX3 := Lib.hid (heap_below BX3.out hb5)
  have BX5 := Lib.hid hx5; clear hb5 hx5
  have hs := slarge2b BX5.out Za Zb HBIG.out
  have HS := Lib.hid hs; clear hs
  try rw [HG5.out] at x1_0
  try rw [HG5.out] at x1_1
  try rw [HG5.out] at x1_2
  try rw [HG5.out] at x1_3
  try rw [HG5.out] at x1_4
  try rw [HG5.out] at x1_5
  try rw [HG5.out] at x2_0
  try rw [HG5.out] at x2_1
  try rw [HG5.out] at x2_2
  try rw [HG5.out] at x2_3
  try rw [HG5.out] at x2_4
  try rw [HG5.out] at x2_5
  go_wp2_with (with_reducible first | refine pauseCall ?_ | refine pauseLoop ?_ | refine pauseDraw ?_ | refine pauseBody ?_ | refine pauseRounds ?_)
  try rw [← HW5.out]
  try rw [← HG5.out]
  clear x1_0 x1_1 x1_2 x1_3 x1_4 x1_5 x2_0 x2_1 x2_2 x2_3 x2_4 x2_5
  refine Pause.mk ?_
  (with_reducible refine HS.out.mono ?_); rintro e w6 ⟨rfl, hb6⟩
  clear HS
  have HB6 := Lib.hid (HB5.out.step hb6)
  have BX1 := Lib.hid (heap_below BX1.out hb6)
  have BX2 := Lib.hid (heap_below BX2.out hb6)
  have BX3 := Lib.hid (heap_below BX3.out hb6)
  have BX5 := Lib.hid (heap_below BX5.out hb6)
  clear BX5
  clear hb6
  have hs := awake03 w6
  have HS := Lib.hid hs; clear hs
  go_wp2_with (with_reducible first | refine pauseCall ?_ | refine pauseLoop ?_ | refine pauseDraw ?_ | refine pauseBody ?_ | refine pauseRounds ?_)
  refine Pause.mk ?_
  (with_reducible refine HS.out.mono ?_); rintro e w7 ⟨rfl, hb7⟩
  clear HS
  have HB7 := Lib.hid (HB6.out.step hb7)
  have BX1 := Lib.hid (heap_below BX1.out hb7)
  have BX2 := Lib.hid (heap_below BX2.out hb7)
  have BX3 := Lib.hid (heap_below BX3.out hb7)
  clear hb7
  go_wp2_with (with_reducible first | refine pauseCall ?_ | refine pauseLoop ?_ | refine pauseDraw ?_ | refine pauseBody ?_ | refine pauseRounds ?_)
  refine Pause.mk ?_
  go_ret
  exact ⟨by first | rfl | (simp; done), HB7.out⟩
set_option maxRecDepth 100000 in
set_option maxHeartbeats 3200000 in
theorem spaninside_noa (va : Value) (sa : Bool) (aa ba : List Nat) (ta : Bool) (ca da : List Nat) (vb : Value) (sb : Bool) (ab bb : List Nat) (tb : Bool) (cb db : List Nat) (k0 : Nat) (k1 : Nat) (k2 : Nat) (k3 : Nat) (w : World) (ha : SpV w va sa aa ba ta ca da) (la1 : aa.length ≤ 6) (la2 : ba.length ≤ 6) (la3 : ca.length ≤ 6) (la4 : da.length ≤ 6) (hb : SpV w vb sb ab bb tb cb db) (lb1 : ab.length ≤ 6) (lb2 : bb.length ≤ 6) (lb3 : cb.length ≤ 6) (lb4 : db.length ≤ 6) (hk0 : k0 < 256) (hk1 : k1 < 256) (hk2 : k2 < 256) (hk3 : k3 < 256)  (hva : ¬ (Vld sa aa ba ∧ Vld ta ca da ∧ rq sa aa ba ≤ rq ta ca da)) :
    Calls Tryd.prog 6 #[va, vb, .agg #[.int .u8 (k0 : Nat), .int .u8 (k1 : Nat), .int .u8 (k2 : Nat), .int .u8 (k3 : Nat)]] w (RetV w (.bool true)) := by
  have HBW := Lib.hid (Below.refl w.heap.size w)
  have kz0 : rl 0 ≤ 1 := by rw [rl_zero]; exact Nat.le_refl _
  have za := ha.sz.2
  obtain ⟨qa, oa, na, ka, pa, ma, ra, qax, oax, nax, kax, pax, max, rax, rfl⟩ := ha.shape
  have Za : na ≤ 6 ∧ ma ≤ 6 ∧ nax ≤ 6 ∧ max ≤ 6 := by have e1 : na = _ := congrArg (·.1) za; have e2 : ma = _ := congrArg (·.2.1) za; have e3 : nax = _ := congrArg (·.2.2.1) za; have e4 : max = _ := congrArg (·.2.2.2) za; rw [e1, e2, e3, e4]; exact ⟨la1, la2, la3, la4⟩
  clear za
  have hla1 : rl (rq sa aa ba) ≤ 6 := rl_rq ha.lt.1.1 ha.lt.1.2 la1 la2 (by decide); have hla2 : rl (rq ta ca da) ≤ 6 := rl_rq ha.lt.2.1 ha.lt.2.2 la3 la4 (by decide)
  obtain ⟨S_a, hSa⟩ : ∃ S, S = sq sa aa ba ta ca da := ⟨_, rfl⟩
  have hsa : rl S_a.1 ≤ 6 ∧ rl S_a.2 ≤ 6 := by rw [hSa]; exact rl_sq ha.lt.1.1 ha.lt.1.2 ha.lt.2.1 ha.lt.2.2 la1 la2 la3 la4 (by decide)
  obtain ⟨hsa1, hsa2⟩ := hsa
  have Fa := Lib.hid (show SpIs w _ S_a from ⟨_, _, _, _, _, _, ha, hSa.symm, by omega, by omega, by omega, by omega⟩); clear hSa
  have HOa := Lib.hid Fa.out.ok
  obtain ⟨p_a, hpa⟩ : ∃ p, p = rq sa aa ba := ⟨_, rfl⟩; obtain ⟨r_a, hra⟩ : ∃ r, r = rq ta ca da := ⟨_, rfl⟩
  have Fal := Lib.hid (show RatIs w _ p_a from hpa ▸ (spV_ends ha).1.is (by omega) (by omega)); have Fah := Lib.hid (show RatIs w _ r_a from hra ▸ (spV_ends ha).2.is (by omega) (by omega))
  have hla1 : rl p_a ≤ 6 := by rw [hpa]; exact hla1
  have hla2 : rl r_a ≤ 6 := by rw [hra]; exact hla2
  have FaV := Lib.hid ha; clear ha hpa hra
  have zb := hb.sz.2
  obtain ⟨qb, ob, nb, kb, pb, mb, rb, qbx, obx, nbx, kbx, pbx, mbx, rbx, rfl⟩ := hb.shape
  have Zb : nb ≤ 6 ∧ mb ≤ 6 ∧ nbx ≤ 6 ∧ mbx ≤ 6 := by have e1 : nb = _ := congrArg (·.1) zb; have e2 : mb = _ := congrArg (·.2.1) zb; have e3 : nbx = _ := congrArg (·.2.2.1) zb; have e4 : mbx = _ := congrArg (·.2.2.2) zb; rw [e1, e2, e3, e4]; exact ⟨lb1, lb2, lb3, lb4⟩
  clear zb
  have hlb1 : rl (rq sb ab bb) ≤ 6 := rl_rq hb.lt.1.1 hb.lt.1.2 lb1 lb2 (by decide); have hlb2 : rl (rq tb cb db) ≤ 6 := rl_rq hb.lt.2.1 hb.lt.2.2 lb3 lb4 (by decide)
  obtain ⟨S_b, hSb⟩ : ∃ S, S = sq sb ab bb tb cb db := ⟨_, rfl⟩
  have hsb : rl S_b.1 ≤ 6 ∧ rl S_b.2 ≤ 6 := by rw [hSb]; exact rl_sq hb.lt.1.1 hb.lt.1.2 hb.lt.2.1 hb.lt.2.2 lb1 lb2 lb3 lb4 (by decide)
  obtain ⟨hsb1, hsb2⟩ := hsb
  have Fb := Lib.hid (show SpIs w _ S_b from ⟨_, _, _, _, _, _, hb, hSb.symm, by omega, by omega, by omega, by omega⟩); clear hSb
  have HOb := Lib.hid Fb.out.ok
  obtain ⟨p_b, hpb⟩ : ∃ p, p = rq sb ab bb := ⟨_, rfl⟩; obtain ⟨r_b, hrb⟩ : ∃ r, r = rq tb cb db := ⟨_, rfl⟩
  have Fbl := Lib.hid (show RatIs w _ p_b from hpb ▸ (spV_ends hb).1.is (by omega) (by omega)); have Fbh := Lib.hid (show RatIs w _ r_b from hrb ▸ (spV_ends hb).2.is (by omega) (by omega))
  have hlb1 : rl p_b ≤ 6 := by rw [hpb]; exact hlb1
  have hlb2 : rl r_b ≤ 6 := by rw [hrb]; exact hlb2
  have FbV := Lib.hid hb; clear hb hpb hrb
  have HVa := Lib.hid (decide_eq_false hva); clear hva
  obtain ⟨w1, hw1⟩ : ∃ w1, w1 = w.alloc (.cells #[.bool qa, .slice oa na ka, .slice pa ma ra, .bool qax, .slice oax nax kax, .slice pax max rax] 26) := ⟨_, rfl⟩
  have hb1 : Below w.heap.size w w1 := by rw [hw1]; exact (Below.refl _ _).alloc (Nat.le_refl _) _
  have hx1 := heap_alloc_new w (.cells #[.bool qa, .slice oa na ka, .slice pa ma ra, .bool qax, .slice oax nax kax, .slice pax max rax] 26)
  obtain ⟨g1, hg1⟩ : ∃ g, g = w.heap.size := ⟨_, rfl⟩
  rw [← hw1, ← hg1] at hx1
  have lw1 : w.heap.size ≤ g1 := by rw [hg1]; exact HBW.out.size
  have HW1 := Lib.hid hw1; have HG1 := Lib.hid hg1; clear hw1 hg1
  have HB1 := Lib.hid (HBW.out.step hb1)
  have Fa := Lib.hid (Fa.out.below hb1)
  have Fal := Lib.hid (Fal.out.below hb1)
  have Fah := Lib.hid (Fah.out.below hb1)
  have FaV := Lib.hid (FaV.out.below hb1)
  have Fb := Lib.hid (Fb.out.below hb1)
  have Fbl := Lib.hid (Fbl.out.below hb1)
  have Fbh := Lib.hid (Fbh.out.below hb1)
  have FbV := Lib.hid (FbV.out.below hb1)
  have BX1 := Lib.hid hx1; clear hb1 hx1
  obtain ⟨w2, hw2⟩ : ∃ w2, w2 = w1.alloc (.cells #[.bool qb, .slice ob nb kb, .slice pb mb rb, .bool qbx, .slice obx nbx kbx, .slice pbx mbx rbx] 26) := ⟨_, rfl⟩
  have hb2 : Below w1.heap.size w1 w2 := by rw [hw2]; exact (Below.refl _ _).alloc (Nat.le_refl _) _
  have hx2 := heap_alloc_new w1 (.cells #[.bool qb, .slice ob nb kb, .slice pb mb rb, .bool qbx, .slice obx nbx kbx, .slice pbx mbx rbx] 26)
  obtain ⟨g2, hg2⟩ : ∃ g, g = w1.heap.size := ⟨_, rfl⟩
  rw [← hw2, ← hg2] at hx2
  have lw2 : w.heap.size ≤ g2 := by rw [hg2]; exact HB1.out.size
  have ltBX12 : g1 < g2 := by rw [hg2]; exact below_lt BX1.out
  have hs2 : g2 = w.heap.size + 1 := by rw [hg2, HW1.out]; simp
  have HS2 := Lib.hid hs2; clear hs2
  have HW2 := Lib.hid hw2; have HG2 := Lib.hid hg2; clear hw2 hg2
  have HB2 := Lib.hid (HB1.out.step hb2)
  have Fa := Lib.hid (Fa.out.below hb2)
  have Fal := Lib.hid (Fal.out.below hb2)
  have Fah := Lib.hid (Fah.out.below hb2)
  have FaV := Lib.hid (FaV.out.below hb2)
  have Fb := Lib.hid (Fb.out.below hb2)
  have Fbl := Lib.hid (Fbl.out.below hb2)
  have Fbh := Lib.hid (Fbh.out.below hb2)
  have FbV := Lib.hid (FbV.out.below hb2)
  have BX1 := Lib.hid (heap_below BX1.out hb2)
  have BX2 := Lib.hid hx2; clear hb2 hx2
  obtain ⟨w3, hw3⟩ : ∃ w3, w3 = w2.alloc (.cells #[.int .u8 (k0 : Nat), .int .u8 (k1 : Nat), .int .u8 (k2 : Nat), .int .u8 (k3 : Nat)] 50) := ⟨_, rfl⟩
  have hb3 : Below w2.heap.size w2 w3 := by rw [hw3]; exact (Below.refl _ _).alloc (Nat.le_refl _) _
  have hx3 := heap_alloc_new w2 (.cells #[.int .u8 (k0 : Nat), .int .u8 (k1 : Nat), .int .u8 (k2 : Nat), .int .u8 (k3 : Nat)] 50)
  obtain ⟨g3, hg3⟩ : ∃ g, g = w2.heap.size := ⟨_, rfl⟩
  rw [← hw3, ← hg3] at hx3
  have lw3 : w.heap.size ≤ g3 := by rw [hg3]; exact HB2.out.size
  have ltBX13 : g1 < g3 := by rw [hg3]; exact below_lt BX1.out
  have ltBX23 : g2 < g3 := by rw [hg3]; exact below_lt BX2.out
  have hs3 : g3 = w.heap.size + 2 := by rw [hg3, HW2.out, HW1.out]; simp
  have HS3 := Lib.hid hs3; clear hs3
  have HW3 := Lib.hid hw3; have HG3 := Lib.hid hg3; clear hw3 hg3
  have HB3 := Lib.hid (HB2.out.step hb3)
  have Fa := Lib.hid (Fa.out.below hb3)
  have Fal := Lib.hid (Fal.out.below hb3)
  have Fah := Lib.hid (Fah.out.below hb3)
  have FaV := Lib.hid (FaV.out.below hb3)
  have Fb := Lib.hid (Fb.out.below hb3)
  have Fbl := Lib.hid (Fbl.out.below hb3)
  have Fbh := Lib.hid (Fbh.out.below hb3)
  have FbV := Lib.hid (FbV.out.below hb3)
  have BX1 := Lib.hid (heap_below BX1.out hb3)
  have BX2 := Lib.hid (heap_below BX2.out hb3)
  have BX3 := Lib.hid hx3; clear hb3 hx3
  go_enter Tryd.func6, Tryd.ntmps6
  have hs := awake03 w3
  have HS := Lib.hid hs; clear hs
  go_wp2_with (with_reducible first | refine pauseCall ?_ | refine pauseLoop ?_ | refine pauseDraw ?_ | refine pauseBody ?_ | refine pauseRounds ?_)
  try rw [← HW1.out]
  try rw [← HW2.out]
  try rw [← HW3.out]
  try rw [← HS3.out]
  try rw [← HS2.out]
  try rw [← HG1.out]
  try rw [← HG2.out]
  try rw [← HG3.out]
  refine Pause.mk ?_
  (with_reducible refine HS.out.mono ?_); rintro e w4 ⟨rfl, hb4⟩
  clear HS
  have HB4 := Lib.hid (HB3.out.step hb4)
  have Fa := Lib.hid (Fa.out.below hb4)
  have Fal := Lib.hid (Fal.out.below hb4)
  have Fah := Lib.hid (Fah.out.below hb4)
  have FaV := Lib.hid (FaV.out.below hb4)
  have Fb := Lib.hid (Fb.out.below hb4)
  have Fbl := Lib.hid (Fbl.out.below hb4)
  have Fbh := Lib.hid (Fbh.out.below hb4)
  have FbV := Lib.hid (FbV.out.below hb4)
  have BX1 := Lib.hid (heap_below BX1.out hb4)
  have BX2 := Lib.hid (heap_below BX2.out hb4)
  have BX3 := Lib.hid (heap_below BX3.out hb4)
  clear hb4
  obtain ⟨x1_0, x1_1, x1_2, x1_3, x1_4, x1_5⟩ := row6 BX1.out
  obtain ⟨x2_0, x2_1, x2_2, x2_3, x2_4, x2_5⟩ := row6 BX2.out
  obtain ⟨w5, hw5⟩ : ∃ w5, w5 = w4.alloc (.cells #[.bool qa, .slice oa na ka, .slice pa ma ra, .bool qax, .slice oax nax kax, .slice pax max rax, .bool qb, .slice ob nb kb, .slice pb mb rb, .bool qbx, .slice obx nbx kbx, .slice pbx mbx rbx] 26) := ⟨_, rfl⟩
  have hb5 : Below w4.heap.size w4 w5 := by rw [hw5]; exact (Below.refl _ _).alloc (Nat.le_refl _) _
  have hx5 := heap_alloc_new w4 (.cells #[.bool qa, .slice oa na ka, .slice pa ma ra, .bool qax, .slice oax nax kax, .slice pax max rax, .bool qb, .slice ob nb kb, .slice pb mb rb, .bool qbx, .slice obx nbx kbx, .slice pbx mbx rbx] 26)
  obtain ⟨g5, hg5⟩ : ∃ g, g = w4.heap.size := ⟨_, rfl⟩
  rw [← hw5, ← hg5] at hx5
  have lw5 : w.heap.size ≤ g5 := by rw [hg5]; exact HB4.out.size
  have ltBX15 : g1 < g5 := by rw [hg5]; exact below_lt BX1.out
  have ltBX25 : g2 < g5 := by rw [hg5]; exact below_lt BX2.out
  have ltBX35 : g3 < g5 := by rw [hg5]; exact below_lt BX3.out
  have HW5 := Lib.hid hw5; have HG5 := Lib.hid hg5; clear hw5 hg5
  have HB5 := Lib.hid (HB4.out.step hb5)
  have Fa := Lib.hid (Fa.out.below hb5)
  have Fal := Lib.hid (Fal.out.below hb5)
  have Fah := Lib.hid (Fah.out.below hb5)
  have FaV := Lib.hid (FaV.out.below hb5)
  have Fb := Lib.hid (Fb.out.below hb5)
  have Fbl := Lib.hid (Fbl.out.below hb5)
  have Fbh := Lib.hid (Fbh.out.below hb5)
  have FbV := Lib.hid (FbV.out.below hb5)
  have BX1 := Lib.hid (heap_below BX1.out hb5)
  have BX2 := Lib.hid (heap_below BX2.out hb5)
  have BX3 := Lib.hid (heap_below BX3.out hb5)
  have BX5 := Lib.hid hx5; clear hb5 hx5
  have hs := slarge2s BX5.out Za Zb
  have HS := Lib.hid hs; clear hs
  try rw [HG5.out] at x1_0
  try rw [HG5.out] at x1_1
  try rw [HG5.out] at x1_2
  try rw [HG5.out] at x1_3
  try rw [HG5.out] at x1_4
  try rw [HG5.out] at x1_5
  try rw [HG5.out] at x2_0
  try rw [HG5.out] at x2_1
  try rw [HG5.out] at x2_2
  try rw [HG5.out] at x2_3
  try rw [HG5.out] at x2_4
  try rw [HG5.out] at x2_5
  go_wp2_with (with_reducible first | refine pauseCall ?_ | refine pauseLoop ?_ | refine pauseDraw ?_ | refine pauseBody ?_ | refine pauseRounds ?_)
  try rw [← HW5.out]
  try rw [← HG5.out]
  clear x1_0 x1_1 x1_2 x1_3 x1_4 x1_5 x2_0 x2_1 x2_2 x2_3 x2_4 x2_5
  refine Pause.mk ?_
  (with_reducible refine HS.out.mono ?_); rintro e w6 ⟨rfl, hb6⟩
  clear HS
  have HB6 := Lib.hid (HB5.out.step hb6)
  have Fa := Lib.hid (Fa.out.below hb6)
  have Fal := Lib.hid (Fal.out.below hb6)
  have Fah := Lib.hid (Fah.out.below hb6)
  have FaV := Lib.hid (FaV.out.below hb6)
  have Fb := Lib.hid (Fb.out.below hb6)
  have Fbl := Lib.hid (Fbl.out.below hb6)
  have Fbh := Lib.hid (Fbh.out.below hb6)
  have FbV := Lib.hid (FbV.out.below hb6)
  have BX1 := Lib.hid (heap_below BX1.out hb6)
  have BX2 := Lib.hid (heap_below BX2.out hb6)
  have BX3 := Lib.hid (heap_below BX3.out hb6)
  have BX5 := Lib.hid (heap_below BX5.out hb6)
  clear BX5
  clear hb6
  obtain ⟨x3_0, x3_1, x3_2, x3_3, x3_4, x3_5⟩ := row6 BX1.out
  have hs := svalid_any _ sa aa ba ta ca da w6 FaV.out (by omega) (by omega) (by omega) (by omega)
  rw [HVa.out] at hs
  have HS := Lib.hid hs; clear hs
  go_wp2_with (with_reducible first | refine pauseCall ?_ | refine pauseLoop ?_ | refine pauseDraw ?_ | refine pauseBody ?_ | refine pauseRounds ?_)
  clear x3_0 x3_1 x3_2 x3_3 x3_4 x3_5
  refine Pause.mk ?_
  (with_reducible refine HS.out.mono ?_); rintro e w7 ⟨rfl, hb7⟩
  clear HS
  have HB7 := Lib.hid (HB6.out.step hb7)
  have Fa := Lib.hid (Fa.out.below hb7)
  have Fal := Lib.hid (Fal.out.below hb7)
  have Fah := Lib.hid (Fah.out.below hb7)
  have FaV := Lib.hid (FaV.out.below hb7)
  have Fb := Lib.hid (Fb.out.below hb7)
  have Fbl := Lib.hid (Fbl.out.below hb7)
  have Fbh := Lib.hid (Fbh.out.below hb7)
  have FbV := Lib.hid (FbV.out.below hb7)
  have BX1 := Lib.hid (heap_below BX1.out hb7)
  have BX2 := Lib.hid (heap_below BX2.out hb7)
  have BX3 := Lib.hid (heap_below BX3.out hb7)
  clear hb7
  have hs := awake03 w7
  have HS := Lib.hid hs; clear hs
  go_wp2_with (with_reducible first | refine pauseCall ?_ | refine pauseLoop ?_ | refine pauseDraw ?_ | refine pauseBody ?_ | refine pauseRounds ?_)
  refine Pause.mk ?_
  (with_reducible refine HS.out.mono ?_); rintro e w8 ⟨rfl, hb8⟩
  clear HS
  have HB8 := Lib.hid (HB7.out.step hb8)
  have Fa := Lib.hid (Fa.out.below hb8)
  have Fal := Lib.hid (Fal.out.below hb8)
  have Fah := Lib.hid (Fah.out.below hb8)
  have FaV := Lib.hid (FaV.out.below hb8)
  have Fb := Lib.hid (Fb.out.below hb8)
  have Fbl := Lib.hid (Fbl.out.below hb8)
  have Fbh := Lib.hid (Fbh.out.below hb8)
  have FbV := Lib.hid (FbV.out.below hb8)
  have BX1 := Lib.hid (heap_below BX1.out hb8)
  have BX2 := Lib.hid (heap_below BX2.out hb8)
  have BX3 := Lib.hid (heap_below BX3.out hb8)
  clear hb8
  go_wp2_with (with_reducible first | refine pauseCall ?_ | refine pauseLoop ?_ | refine pauseDraw ?_ | refine pauseBody ?_ | refine pauseRounds ?_)
  refine Pause.mk ?_
  go_ret
  exact ⟨by first | rfl | (simp; done), HB8.out⟩
set_option maxRecDepth 100000 in
set_option maxHeartbeats 3200000 in
theorem spaninside_nob (va : Value) (sa : Bool) (aa ba : List Nat) (ta : Bool) (ca da : List Nat) (vb : Value) (sb : Bool) (ab bb : List Nat) (tb : Bool) (cb db : List Nat) (k0 : Nat) (k1 : Nat) (k2 : Nat) (k3 : Nat) (w : World) (ha : SpV w va sa aa ba ta ca da) (la1 : aa.length ≤ 6) (la2 : ba.length ≤ 6) (la3 : ca.length ≤ 6) (la4 : da.length ≤ 6) (hb : SpV w vb sb ab bb tb cb db) (lb1 : ab.length ≤ 6) (lb2 : bb.length ≤ 6) (lb3 : cb.length ≤ 6) (lb4 : db.length ≤ 6) (hk0 : k0 < 256) (hk1 : k1 < 256) (hk2 : k2 < 256) (hk3 : k3 < 256) (hva : Vld sa aa ba ∧ Vld ta ca da ∧ rq sa aa ba ≤ rq ta ca da) (hvb : ¬ (Vld sb ab bb ∧ Vld tb cb db ∧ rq sb ab bb ≤ rq tb cb db)) :
    Calls Tryd.prog 6 #[va, vb, .agg #[.int .u8 (k0 : Nat), .int .u8 (k1 : Nat), .int .u8 (k2 : Nat), .int .u8 (k3 : Nat)]] w (RetV w (.bool true)) := by
  have HBW := Lib.hid (Below.refl w.heap.size w)
  have kz0 : rl 0 ≤ 1 := by rw [rl_zero]; exact Nat.le_refl _
  have za := ha.sz.2
  obtain ⟨qa, oa, na, ka, pa, ma, ra, qax, oax, nax, kax, pax, max, rax, rfl⟩ := ha.shape
  have Za : na ≤ 6 ∧ ma ≤ 6 ∧ nax ≤ 6 ∧ max ≤ 6 := by have e1 : na = _ := congrArg (·.1) za; have e2 : ma = _ := congrArg (·.2.1) za; have e3 : nax = _ := congrArg (·.2.2.1) za; have e4 : max = _ := congrArg (·.2.2.2) za; rw [e1, e2, e3, e4]; exact ⟨la1, la2, la3, la4⟩
  clear za
  have hla1 : rl (rq sa aa ba) ≤ 6 := rl_rq ha.lt.1.1 ha.lt.1.2 la1 la2 (by decide); have hla2 : rl (rq ta ca da) ≤ 6 := rl_rq ha.lt.2.1 ha.lt.2.2 la3 la4 (by decide)
  obtain ⟨S_a, hSa⟩ : ∃ S, S = sq sa aa ba ta ca da := ⟨_, rfl⟩
  have hsa : rl S_a.1 ≤ 6 ∧ rl S_a.2 ≤ 6 := by rw [hSa]; exact rl_sq ha.lt.1.1 ha.lt.1.2 ha.lt.2.1 ha.lt.2.2 la1 la2 la3 la4 (by decide)
  obtain ⟨hsa1, hsa2⟩ := hsa
  have Fa := Lib.hid (show SpIs w _ S_a from ⟨_, _, _, _, _, _, ha, hSa.symm, by omega, by omega, by omega, by omega⟩); clear hSa
  have HOa := Lib.hid Fa.out.ok
  obtain ⟨p_a, hpa⟩ : ∃ p, p = rq sa aa ba := ⟨_, rfl⟩; obtain ⟨r_a, hra⟩ : ∃ r, r = rq ta ca da := ⟨_, rfl⟩
  have Fal := Lib.hid (show RatIs w _ p_a from hpa ▸ (spV_ends ha).1.is (by omega) (by omega)); have Fah := Lib.hid (show RatIs w _ r_a from hra ▸ (spV_ends ha).2.is (by omega) (by omega))
  have hla1 : rl p_a ≤ 6 := by rw [hpa]; exact hla1
  have hla2 : rl r_a ≤ 6 := by rw [hra]; exact hla2
  have FaV := Lib.hid ha; clear ha hpa hra
  have zb := hb.sz.2
  obtain ⟨qb, ob, nb, kb, pb, mb, rb, qbx, obx, nbx, kbx, pbx, mbx, rbx, rfl⟩ := hb.shape
  have Zb : nb ≤ 6 ∧ mb ≤ 6 ∧ nbx ≤ 6 ∧ mbx ≤ 6 := by have e1 : nb = _ := congrArg (·.1) zb; have e2 : mb = _ := congrArg (·.2.1) zb; have e3 : nbx = _ := congrArg (·.2.2.1) zb; have e4 : mbx = _ := congrArg (·.2.2.2) zb; rw [e1, e2, e3, e4]; exact ⟨lb1, lb2, lb3, lb4⟩
  clear zb
  have hlb1 : rl (rq sb ab bb) ≤ 6 := rl_rq hb.lt.1.1 hb.lt.1.2 lb1 lb2 (by decide); have hlb2 : rl (rq tb cb db) ≤ 6 := rl_rq hb.lt.2.1 hb.lt.2.2 lb3 lb4 (by decide)
  obtain ⟨S_b, hSb⟩ : ∃ S, S = sq sb ab bb tb cb db := ⟨_, rfl⟩
  have hsb : rl S_b.1 ≤ 6 ∧ rl S_b.2 ≤ 6 := by rw [hSb]; exact rl_sq hb.lt.1.1 hb.lt.1.2 hb.lt.2.1 hb.lt.2.2 lb1 lb2 lb3 lb4 (by decide)
  obtain ⟨hsb1, hsb2⟩ := hsb
  have Fb := Lib.hid (show SpIs w _ S_b from ⟨_, _, _, _, _, _, hb, hSb.symm, by omega, by omega, by omega, by omega⟩); clear hSb
  have HOb := Lib.hid Fb.out.ok
  obtain ⟨p_b, hpb⟩ : ∃ p, p = rq sb ab bb := ⟨_, rfl⟩; obtain ⟨r_b, hrb⟩ : ∃ r, r = rq tb cb db := ⟨_, rfl⟩
  have Fbl := Lib.hid (show RatIs w _ p_b from hpb ▸ (spV_ends hb).1.is (by omega) (by omega)); have Fbh := Lib.hid (show RatIs w _ r_b from hrb ▸ (spV_ends hb).2.is (by omega) (by omega))
  have hlb1 : rl p_b ≤ 6 := by rw [hpb]; exact hlb1
  have hlb2 : rl r_b ≤ 6 := by rw [hrb]; exact hlb2
  have FbV := Lib.hid hb; clear hb hpb hrb
  have HVa := Lib.hid (decide_eq_true hva); clear hva
  have HVb := Lib.hid (decide_eq_false hvb); clear hvb
  obtain ⟨w1, hw1⟩ : ∃ w1, w1 = w.alloc (.cells #[.bool qa, .slice oa na ka, .slice pa ma ra, .bool qax, .slice oax nax kax, .slice pax max rax] 26) := ⟨_, rfl⟩
  have hb1 : Below w.heap.size w w1 := by rw [hw1]; exact (Below.refl _ _).alloc (Nat.le_refl _) _
  have hx1 := heap_alloc_new w (.cells #[.bool qa, .slice oa na ka, .slice pa ma ra, .bool qax, .slice oax nax kax, .slice pax max rax] 26)
  obtain ⟨g1, hg1⟩ : ∃ g, g = w.heap.size := ⟨_, rfl⟩
  rw [← hw1, ← hg1] at hx1
  have lw1 : w.heap.size ≤ g1 := by rw [hg1]; exact HBW.out.size
  have HW1 := Lib.hid hw1; have HG1 := Lib.hid hg1; clear hw1 hg1
  have HB1 := Lib.hid (HBW.out.step hb1)
  have Fa := Lib.hid (Fa.out.below hb1)
  have Fal := Lib.hid (Fal.out.below hb1)
  have Fah := Lib.hid (Fah.out.below hb1)
  have FaV := Lib.hid (FaV.out.below hb1)
  have Fb := Lib.hid (Fb.out.below hb1)
  have Fbl := Lib.hid (Fbl.out.below hb1)
  have Fbh := Lib.hid (Fbh.out.below hb1)
  have FbV := Lib.hid (FbV.out.below hb1)
  have BX1 := Lib.hid hx1; clear hb1 hx1
  obtain ⟨w2, hw2⟩ : ∃ w2, w2 = w1.alloc (.cells #[.bool qb, .slice ob nb kb, .slice pb mb rb, .bool qbx, .slice obx nbx kbx, .slice pbx mbx rbx] 26) := ⟨_, rfl⟩
  have hb2 : Below w1.heap.size w1 w2 := by rw [hw2]; exact (Below.refl _ _).alloc (Nat.le_refl _) _
  have hx2 := heap_alloc_new w1 (.cells #[.bool qb, .slice ob nb kb, .slice pb mb rb, .bool qbx, .slice obx nbx kbx, .slice pbx mbx rbx] 26)
  obtain ⟨g2, hg2⟩ : ∃ g, g = w1.heap.size := ⟨_, rfl⟩
  rw [← hw2, ← hg2] at hx2
  have lw2 : w.heap.size ≤ g2 := by rw [hg2]; exact HB1.out.size
  have ltBX12 : g1 < g2 := by rw [hg2]; exact below_lt BX1.out
  have hs2 : g2 = w.heap.size + 1 := by rw [hg2, HW1.out]; simp
  have HS2 := Lib.hid hs2; clear hs2
  have HW2 := Lib.hid hw2; have HG2 := Lib.hid hg2; clear hw2 hg2
  have HB2 := Lib.hid (HB1.out.step hb2)
  have Fa := Lib.hid (Fa.out.below hb2)
  have Fal := Lib.hid (Fal.out.below hb2)
  have Fah := Lib.hid (Fah.out.below hb2)
  have FaV := Lib.hid (FaV.out.below hb2)
  have Fb := Lib.hid (Fb.out.below hb2)
  have Fbl := Lib.hid (Fbl.out.below hb2)
  have Fbh := Lib.hid (Fbh.out.below hb2)
  have FbV := Lib.hid (FbV.out.below hb2)
  have BX1 := Lib.hid (heap_below BX1.out hb2)
  have BX2 := Lib.hid hx2; clear hb2 hx2
  obtain ⟨w3, hw3⟩ : ∃ w3, w3 = w2.alloc (.cells #[.int .u8 (k0 : Nat), .int .u8 (k1 : Nat), .int .u8 (k2 : Nat), .int .u8 (k3 : Nat)] 50) := ⟨_, rfl⟩
  have hb3 : Below w2.heap.size w2 w3 := by rw [hw3]; exact (Below.refl _ _).alloc (Nat.le_refl _) _
  have hx3 := heap_alloc_new w2 (.cells #[.int .u8 (k0 : Nat), .int .u8 (k1 : Nat), .int .u8 (k2 : Nat), .int .u8 (k3 : Nat)] 50)
  obtain ⟨g3, hg3⟩ : ∃ g, g = w2.heap.size := ⟨_, rfl⟩
  rw [← hw3, ← hg3] at hx3
  have lw3 : w.heap.size ≤ g3 := by rw [hg3]; exact HB2.out.size
  have ltBX13 : g1 < g3 := by rw [hg3]; exact below_lt BX1.out
  have ltBX23 : g2 < g3 := by rw [hg3]; exact below_lt BX2.out
  have hs3 : g3 = w.heap.size + 2 := by rw [hg3, HW2.out, HW1.out]; simp
  have HS3 := Lib.hid hs3; clear hs3
  have HW3 := Lib.hid hw3; have HG3 := Lib.hid hg3; clear hw3 hg3
  have HB3 := Lib.hid (HB2.out.step hb3)
  have Fa := Lib.hid (Fa.out.below hb3)
  have Fal := Lib.hid (Fal.out.below hb3)
  have Fah := Lib.hid (Fah.out.below hb3)
  have FaV := Lib.hid (FaV.out.below hb3)
  have Fb := Lib.hid (Fb.out.below hb3)
  have Fbl := Lib.hid (Fbl.out.below hb3)
  have Fbh := Lib.hid (Fbh.out.below hb3)
  have FbV := Lib.hid (FbV.out.below hb3)
  have BX1 := Lib.hid (heap_below BX1.out hb3)
  have BX2 := Lib.hid (heap_below BX2.out hb3)
  have BX3 := Lib.hid hx3; clear hb3 hx3
  go_enter Tryd.func6, Tryd.ntmps6
  have hs := awake03 w3
  have HS := Lib.hid hs; clear hs
  go_wp2_with (with_reducible first | refine pauseCall ?_ | refine pauseLoop ?_ | refine pauseDraw ?_ | refine pauseBody ?_ | refine pauseRounds ?_)
  try rw [← HW1.out]
  try rw [← HW2.out]
  try rw [← HW3.out]
  try rw [← HS3.out]
  try rw [← HS2.out]
  try rw [← HG1.out]
  try rw [← HG2.out]
  try rw [← HG3.out]
  refine Pause.mk ?_
  (with_reducible refine HS.out.mono ?_); rintro e w4 ⟨rfl, hb4⟩
  clear HS
  have HB4 := Lib.hid (HB3.out.step hb4)
  have Fa := Lib.hid (Fa.out.below hb4)
  have Fal := Lib.hid (Fal.out.below hb4)
  have Fah := Lib.hid (Fah.out.below hb4)
  have FaV := Lib.hid (FaV.out.below hb4)
  have Fb := Lib.hid (Fb.out.below hb4)
  have Fbl := Lib.hid (Fbl.out.below hb4)
  have Fbh := Lib.hid (Fbh.out.below hb4)
  have FbV := Lib.hid (FbV.out.below hb4)
  have BX1 := Lib.hid (heap_below BX1.out hb4)
  have BX2 := Lib.hid (heap_below BX2.out hb4)
  have BX3 := Lib.hid (heap_below BX3.out hb4)
  clear hb4
  obtain ⟨x1_0, x1_1, x1_2, x1_3, x1_4, x1_5⟩ := row6 BX1.out
  obtain ⟨x2_0, x2_1, x2_2, x2_3, x2_4, x2_5⟩ := row6 BX2.out
  obtain ⟨w5, hw5⟩ : ∃ w5, w5 = w4.alloc (.cells #[.bool qa, .slice oa na ka, .slice pa ma ra, .bool qax, .slice oax nax kax, .slice pax max rax, .bool qb, .slice ob nb kb, .slice pb mb rb, .bool qbx, .slice obx nbx kbx, .slice pbx mbx rbx] 26) := ⟨_, rfl⟩
  have hb5 : Below w4.heap.size w4 w5 := by rw [hw5]; exact (Below.refl _ _).alloc (Nat.le_refl _) _
  have hx5 := heap_alloc_new w4 (.cells #[.bool qa, .slice oa na ka, .slice pa ma ra, .bool qax, .slice oax nax kax, .slice pax max rax, .bool qb, .slice ob nb kb, .slice pb mb rb, .bool qbx, .slice obx nbx kbx, .slice pbx mbx rbx] 26)
  obtain ⟨g5, hg5⟩ : ∃ g, g = w4.heap.size := ⟨_, rfl⟩
  rw [← hw5, ← hg5] at hx5
  have lw5 : w.heap.size ≤ g5 := by rw [hg5]; exact HB4.out.size
  have ltBX15 : g1 < g5 := by rw [hg5]; exact below_lt BX1.out
  have ltBX25 : g2 < g5 := by rw [hg5]; exact below_lt BX2.out
  have ltBX35 : g3 < g5 := by rw [hg5]; exact below_lt BX3.out
  have HW5 := Lib.hid hw5; have HG5 := Lib.hid hg5; clear hw5 hg5
  have HB5 := Lib.hid (HB4.out.step hb5)
  have Fa := Lib.hid (Fa.out.below hb5)
  have Fal := Lib.hid (Fal.out.below hb5)
  have Fah := Lib.hid (Fah.out.below hb5)
  have FaV := Lib.hid (FaV.out.below hb5)
  have Fb := Lib.hid (Fb.out.below hb5)
  have Fbl := Lib.hid (Fbl.out.below hb5)
  have Fbh := Lib.hid (Fbh.out.below hb5)
  have FbV := Lib.hid (FbV.out.below hb5)
  have BX1 := Lib.hid (heap_below BX1.out hb5)
  have BX2 := Lib.hid (heap_below BX2.out hb5)
  have BX3 := Lib.hid (heap_below BX3.out hb5)
  have BX5 := Lib.hid hx5; clear hb5 hx5
  have hs := slarge2s BX5.out Za Zb
  have HS := Lib.hid hs; clear hs
  try rw [HG5.out] at x1_0
  try rw [HG5.out] at x1_1
  try rw [HG5.out] at x1_2
  try rw [HG5.out] at x1_3
  try rw [HG5.out] at x1_4
  try rw [HG5.out] at x1_5
  try rw [HG5.out] at x2_0
  try rw [HG5.out] at x2_1
  try rw [HG5.out] at x2_2
  try rw [HG5.out] at x2_3
  try rw [HG5.out] at x2_4
  try rw [HG5.out] at x2_5
  go_wp2_with (with_reducible first | refine pauseCall ?_ | refine pauseLoop ?_ | refine pauseDraw ?_ | refine pauseBody ?_ | refine pauseRounds ?_)
  try rw [← HW5.out]
  try rw [← HG5.out]
  clear x1_0 x1_1 x1_2 x1_3 x1_4 x1_5 x2_0 x2_1 x2_2 x2_3 x2_4 x2_5
  refine Pause.mk ?_
  (with_reducible refine HS.out.mono ?_); rintro e w6 ⟨rfl, hb6⟩
  clear HS
  have HB6 := Lib.hid (HB5.out.step hb6)
  have Fa := Lib.hid (Fa.out.below hb6)
  have Fal := Lib.hid (Fal.out.below hb6)
  have Fah := Lib.hid (Fah.out.below hb6)
  have FaV := Lib.hid (FaV.out.below hb6)
  have Fb := Lib.hid (Fb.out.below hb6)
  have Fbl := Lib.hid (Fbl.out.below hb6)
  have Fbh := Lib.hid (Fbh.out.below hb6)
  have FbV := Lib.hid (FbV.out.below hb6)
  have BX1 := Lib.hid (heap_below BX1.out hb6)
  have BX2 := Lib.hid (heap_below BX2.out hb6)
  have BX3 := Lib.hid (heap_below BX3.out hb6)
  have BX5 := Lib.hid (heap_below BX5.out hb6)
  clear BX5
  clear hb6
  obtain ⟨x3_0, x3_1, x3_2, x3_3, x3_4, x3_5⟩ := row6 BX1.out
  have hs := svalid_any _ sa aa ba ta ca da w6 FaV.out (by omega) (by omega) (by omega) (by omega)
  rw [HVa.out] at hs
  have HS := Lib.hid hs; clear hs
  go_wp2_with (with_reducible first | refine pauseCall ?_ | refine pauseLoop ?_ | refine pauseDraw ?_ | refine pauseBody ?_ | refine pauseRounds ?_)
  clear x3_0 x3_1 x3_2 x3_3 x3_4 x3_5
  refine Pause.mk ?_
  (with_reducible refine HS.out.mono ?_); rintro e w7 ⟨rfl, hb7⟩
  clear HS
  have HB7 := Lib.hid (HB6.out.step hb7)
  have Fa := Lib.hid (Fa.out.below hb7)
  have Fal := Lib.hid (Fal.out.below hb7)
  have Fah := Lib.hid (Fah.out.below hb7)
  have FaV := Lib.hid (FaV.out.below hb7)
  have Fb := Lib.hid (Fb.out.below hb7)
  have Fbl := Lib.hid (Fbl.out.below hb7)
  have Fbh := Lib.hid (Fbh.out.below hb7)
  have FbV := Lib.hid (FbV.out.below hb7)
  have BX1 := Lib.hid (heap_below BX1.out hb7)
  have BX2 := Lib.hid (heap_below BX2.out hb7)
  have BX3 := Lib.hid (heap_below BX3.out hb7)
  clear hb7
  obtain ⟨x4_0, x4_1, x4_2, x4_3, x4_4, x4_5⟩ := row6 BX2.out
  have hs := svalid_any _ sb ab bb tb cb db w7 FbV.out (by omega) (by omega) (by omega) (by omega)
  rw [HVb.out] at hs
  have HS := Lib.hid hs; clear hs
  go_wp2_with (with_reducible first | refine pauseCall ?_ | refine pauseLoop ?_ | refine pauseDraw ?_ | refine pauseBody ?_ | refine pauseRounds ?_)
  clear x4_0 x4_1 x4_2 x4_3 x4_4 x4_5
  refine Pause.mk ?_
  (with_reducible refine HS.out.mono ?_); rintro e w8 ⟨rfl, hb8⟩
  clear HS
  have HB8 := Lib.hid (HB7.out.step hb8)
  have Fa := Lib.hid (Fa.out.below hb8)
  have Fal := Lib.hid (Fal.out.below hb8)
  have Fah := Lib.hid (Fah.out.below hb8)
  have FaV := Lib.hid (FaV.out.below hb8)
  have Fb := Lib.hid (Fb.out.below hb8)
  have Fbl := Lib.hid (Fbl.out.below hb8)
  have Fbh := Lib.hid (Fbh.out.below hb8)
  have FbV := Lib.hid (FbV.out.below hb8)
  have BX1 := Lib.hid (heap_below BX1.out hb8)
  have BX2 := Lib.hid (heap_below BX2.out hb8)
  have BX3 := Lib.hid (heap_below BX3.out hb8)
  clear hb8
  have hs := awake03 w8
  have HS := Lib.hid hs; clear hs
  go_wp2_with (with_reducible first | refine pauseCall ?_ | refine pauseLoop ?_ | refine pauseDraw ?_ | refine pauseBody ?_ | refine pauseRounds ?_)
  refine Pause.mk ?_
  (with_reducible refine HS.out.mono ?_); rintro e w9 ⟨rfl, hb9⟩
  clear HS
  have HB9 := Lib.hid (HB8.out.step hb9)
  have Fa := Lib.hid (Fa.out.below hb9)
  have Fal := Lib.hid (Fal.out.below hb9)
  have Fah := Lib.hid (Fah.out.below hb9)
  have FaV := Lib.hid (FaV.out.below hb9)
  have Fb := Lib.hid (Fb.out.below hb9)
  have Fbl := Lib.hid (Fbl.out.below hb9)
  have Fbh := Lib.hid (Fbh.out.below hb9)
  have FbV := Lib.hid (FbV.out.below hb9)
  have BX1 := Lib.hid (heap_below BX1.out hb9)
  have BX2 := Lib.hid (heap_below BX2.out hb9)
  have BX3 := Lib.hid (heap_below BX3.out hb9)
  clear hb9
  go_wp2_with (with_reducible first | refine pauseCall ?_ | refine pauseLoop ?_ | refine pauseDraw ?_ | refine pauseBody ?_ | refine pauseRounds ?_)
  refine Pause.mk ?_
  go_ret
  exact ⟨by first | rfl | (simp; done), HB9.out⟩
set_option maxRecDepth 100000 in
set_option maxHeartbeats 25600000 in
theorem spaninside_ok1 (va : Value) (sa : Bool) (aa ba : List Nat) (ta : Bool) (ca da : List Nat) (vb : Value) (sb : Bool) (ab bb : List Nat) (tb : Bool) (cb db : List Nat) (k0 : Nat) (k1 : Nat) (k2 : Nat) (k3 : Nat) (w : World) (ha : SpV w va sa aa ba ta ca da) (la1 : aa.length ≤ 6) (la2 : ba.length ≤ 6) (la3 : ca.length ≤ 6) (la4 : da.length ≤ 6) (hva : Vld sa aa ba ∧ Vld ta ca da ∧ rq sa aa ba ≤ rq ta ca da) (hb : SpV w vb sb ab bb tb cb db) (lb1 : ab.length ≤ 6) (lb2 : bb.length ≤ 6) (lb3 : cb.length ≤ 6) (lb4 : db.length ≤ 6) (hvb : Vld sb ab bb ∧ Vld tb cb db ∧ rq sb ab bb ≤ rq tb cb db) (hk0 : k0 < 256) (hk1 : k1 < 256) (hk2 : k2 < 256) (hk3 : k3 < 256) (hz : inS (rq sb ab bb, rq tb cb db) 0) :
    Calls Tryd.prog 6 #[va, vb, .agg #[.int .u8 (k0 : Nat), .int .u8 (k1 : Nat), .int .u8 (k2 : Nat), .int .u8 (k3 : Nat)]] w (RetV w (.bool true)) := by
  have HBW := Lib.hid (Below.refl w.heap.size w)
  have kz0 : rl 0 ≤ 1 := by rw [rl_zero]; exact Nat.le_refl _
  have za := ha.sz.2
  obtain ⟨qa, oa, na, ka, pa, ma, ra, qax, oax, nax, kax, pax, max, rax, rfl⟩ := ha.shape
  have Za : na ≤ 6 ∧ ma ≤ 6 ∧ nax ≤ 6 ∧ max ≤ 6 := by have e1 : na = _ := congrArg (·.1) za; have e2 : ma = _ := congrArg (·.2.1) za; have e3 : nax = _ := congrArg (·.2.2.1) za; have e4 : max = _ := congrArg (·.2.2.2) za; rw [e1, e2, e3, e4]; exact ⟨la1, la2, la3, la4⟩
  clear za
  have hla1 : rl (rq sa aa ba) ≤ 6 := rl_rq ha.lt.1.1 ha.lt.1.2 la1 la2 (by decide); have hla2 : rl (rq ta ca da) ≤ 6 := rl_rq ha.lt.2.1 ha.lt.2.2 la3 la4 (by decide)
  have FaI := spV_isSp ha hva.1 hva.2.1
  have hoa := hva.2.2
  have HVa := Lib.hid (decide_eq_true hva); clear hva
  have FaV := Lib.hid ha; clear ha
  obtain ⟨p_a, hpa⟩ : ∃ p, p = rq sa aa ba := ⟨_, rfl⟩; obtain ⟨r_a, hra⟩ : ∃ r, r = rq ta ca da := ⟨_, rfl⟩
  rw [← hpa, ← hra] at FaI; rw [← hpa] at hla1 hoa; rw [← hra] at hla2 hoa
  try rw [← hpa] at hz
  try rw [← hra] at hz
  clear hpa hra
  have HOa := Lib.hid hoa; clear hoa
  have Fal := Lib.hid (show IsR _ _ p_a from (isSp_ends FaI).1); have Fah := Lib.hid (show IsR _ _ r_a from (isSp_ends FaI).2); have Fa := Lib.hid FaI; clear FaI
  have zb := hb.sz.2
  obtain ⟨qb, ob, nb, kb, pb, mb, rb, qbx, obx, nbx, kbx, pbx, mbx, rbx, rfl⟩ := hb.shape
  have Zb : nb ≤ 6 ∧ mb ≤ 6 ∧ nbx ≤ 6 ∧ mbx ≤ 6 := by have e1 : nb = _ := congrArg (·.1) zb; have e2 : mb = _ := congrArg (·.2.1) zb; have e3 : nbx = _ := congrArg (·.2.2.1) zb; have e4 : mbx = _ := congrArg (·.2.2.2) zb; rw [e1, e2, e3, e4]; exact ⟨lb1, lb2, lb3, lb4⟩
  clear zb
  have hlb1 : rl (rq sb ab bb) ≤ 6 := rl_rq hb.lt.1.1 hb.lt.1.2 lb1 lb2 (by decide); have hlb2 : rl (rq tb cb db) ≤ 6 := rl_rq hb.lt.2.1 hb.lt.2.2 lb3 lb4 (by decide)
  have FbI := spV_isSp hb hvb.1 hvb.2.1
  have hob := hvb.2.2
  have HVb := Lib.hid (decide_eq_true hvb); clear hvb
  have FbV := Lib.hid hb; clear hb
  obtain ⟨p_b, hpb⟩ : ∃ p, p = rq sb ab bb := ⟨_, rfl⟩; obtain ⟨r_b, hrb⟩ : ∃ r, r = rq tb cb db := ⟨_, rfl⟩
  rw [← hpb, ← hrb] at FbI; rw [← hpb] at hlb1 hob; rw [← hrb] at hlb2 hob
  try rw [← hpb] at hz
  try rw [← hrb] at hz
  clear hpb hrb
  have HOb := Lib.hid hob; clear hob
  have Fbl := Lib.hid (show IsR _ _ p_b from (isSp_ends FbI).1); have Fbh := Lib.hid (show IsR _ _ r_b from (isSp_ends FbI).2); have Fb := Lib.hid FbI; clear FbI
  obtain ⟨mn0, hmn0⟩ : ∃ m, m = min k0 k1 := ⟨_, rfl⟩; obtain ⟨mx0, hmx0⟩ : ∃ m, m = Max.max k0 k1 := ⟨_, rfl⟩
  have gmn0 : min (k0 : Int) (k1 : Int) = (mn0 : Int) := by omega
  have gmx0 : Max.max (k0 : Int) (k1 : Int) = (mx0 : Int) := by omega
  have bm0 : mn0 ≤ mx0 := by omega
  have bl0 : mn0 < 256 := by omega
  have bx0 : mx0 < 256 := by omega
  clear hmn0 hmx0
  obtain ⟨mn1, hmn1⟩ : ∃ m, m = min k2 k3 := ⟨_, rfl⟩; obtain ⟨mx1, hmx1⟩ : ∃ m, m = Max.max k2 k3 := ⟨_, rfl⟩
  have gmn1 : min (k2 : Int) (k3 : Int) = (mn1 : Int) := by omega
  have gmx1 : Max.max (k2 : Int) (k3 : Int) = (mx1 : Int) := by omega
  have bm1 : mn1 ≤ mx1 := by omega
  have bl1 : mn1 < 256 := by omega
  have bx1 : mx1 < 256 := by omega
  clear hmn1 hmx1
  have m0 : inK ((p_a, r_a)) mn0 ≤ inK ((p_a, r_a)) mx0 := inK_mono HOa.out bm0
  have m1 : inK ((p_b, r_b)) mn1 ≤ inK ((p_b, r_b)) mx1 := inK_mono HOb.out bm1
  have HM0 := Lib.hid (show smC (inK ((p_a, r_a)) mn0) (inK ((p_a, r_a)) mx0) = 0 from if_pos m0); have HM1 := Lib.hid (show smC (inK ((p_b, r_b)) mn1) (inK ((p_b, r_b)) mx1) = 0 from if_pos m1)
  have eC : smV (inK ((p_a, r_a)) mn0) (inK ((p_a, r_a)) mx0) = (inK ((p_a, r_a)) mn0, inK ((p_a, r_a)) mx0) := if_pos m0
  have eD : smV (inK ((p_b, r_b)) mn1) (inK ((p_b, r_b)) mx1) = (inK ((p_b, r_b)) mn1, inK ((p_b, r_b)) mx1) := if_pos m1
  have sC : subS (smV (inK ((p_a, r_a)) mn0) (inK ((p_a, r_a)) mx0)) ((p_a, r_a)) := by rw [eC]; exact ⟨inK_in HOa.out (by omega), inK_in HOa.out (by omega)⟩
  have sD : subS (smV (inK ((p_b, r_b)) mn1) (inK ((p_b, r_b)) mx1)) ((p_b, r_b)) := by rw [eD]; exact ⟨inK_in HOb.out (by omega), inK_in HOb.out (by omega)⟩
  have HI1 := Lib.hid (decide_eq_true (show subS (smV (inK ((p_a, r_a)) mn0) (inK ((p_a, r_a)) mx0)) ((p_a, r_a)) from sC))
  have HI2 := Lib.hid (decide_eq_true (show subS (smV (inK ((p_b, r_b)) mn1) (inK ((p_b, r_b)) mx1)) ((p_b, r_b)) from sD))
  have HI3 := Lib.hid (decide_eq_true (show subS (sAdd (smV (inK ((p_a, r_a)) mn0) (inK ((p_a, r_a)) mx0)) (smV (inK ((p_b, r_b)) mn1) (inK ((p_b, r_b)) mx1))) (sAdd ((p_a, r_a)) ((p_b, r_b))) from sub_add sC sD))
  have HI4 := Lib.hid (decide_eq_true (show subS (sSub (smV (inK ((p_a, r_a)) mn0) (inK ((p_a, r_a)) mx0)) (smV (inK ((p_b, r_b)) mn1) (inK ((p_b, r_b)) mx1))) (sSub ((p_a, r_a)) ((p_b, r_b))) from sub_sub sC sD))
  have HI5 := Lib.hid (decide_eq_true (show subS (sMul (smV (inK ((p_a, r_a)) mn0) (inK ((p_a, r_a)) mx0)) (smV (inK ((p_b, r_b)) mn1) (inK ((p_b, r_b)) mx1))) (sMul ((p_a, r_a)) ((p_b, r_b))) from sub_mul sC sD))
  have HI6 := Lib.hid (decide_eq_true (show subS (sClip (smV (inK ((p_a, r_a)) mn0) (inK ((p_a, r_a)) mx0))) (sClip ((p_a, r_a))) from sub_clip sC))
  have HI7 := Lib.hid (decide_eq_true (show subS (sHull (smV (inK ((p_a, r_a)) mn0) (inK ((p_a, r_a)) mx0)) (smV (inK ((p_b, r_b)) mn1) (inK ((p_b, r_b)) mx1))) (sHull ((p_a, r_a)) ((p_b, r_b))) from sub_hull sC sD))
  have HS := Lib.hid (show sdC ((p_b, r_b)) = 8 from if_pos hz)
  obtain ⟨G, hG⟩ : ∃ G, G = sdC (smV (inK ((p_b, r_b)) mn1) (inK ((p_b, r_b)) mx1)) := ⟨_, rfl⟩
  have HG := Lib.hid hG.symm; clear hG
  clear m0 m1 eC eD sC sD hz
  obtain ⟨w1, hw1⟩ : ∃ w1, w1 = w.alloc (.cells #[.bool qa, .slice oa na ka, .slice pa ma ra, .bool qax, .slice oax nax kax, .slice pax max rax] 26) := ⟨_, rfl⟩
  have hb1 : Below w.heap.size w w1 := by rw [hw1]; exact (Below.refl _ _).alloc (Nat.le_refl _) _
  have hx1 := heap_alloc_new w (.cells #[.bool qa, .slice oa na ka, .slice pa ma ra, .bool qax, .slice oax nax kax, .slice pax max rax] 26)
  obtain ⟨g1, hg1⟩ : ∃ g, g = w.heap.size := ⟨_, rfl⟩
  rw [← hw1, ← hg1] at hx1
  have lw1 : w.heap.size ≤ g1 := by rw [hg1]; exact HBW.out.size
  have HW1 := Lib.hid hw1; have HG1 := Lib.hid hg1; clear hw1 hg1
  have HB1 := Lib.hid (HBW.out.step hb1)
  have Fa := Lib.hid (Fa.out.below hb1)
  have Fal := Lib.hid (Fal.out.below hb1)
  have Fah := Lib.hid (Fah.out.below hb1)
  have FaV := Lib.hid (FaV.out.below hb1)
  have Fb := Lib.hid (Fb.out.below hb1)
  have Fbl := Lib.hid (Fbl.out.below hb1)
  have Fbh := Lib.hid (Fbh.out.below hb1)
  have FbV := Lib.hid (FbV.out.below hb1)
  have BX1 := Lib.hid hx1; clear hb1 hx1
  obtain ⟨w2, hw2⟩ : ∃ w2, w2 = w1.alloc (.cells #[.bool qb, .slice ob nb kb, .slice pb mb rb, .bool qbx, .slice obx nbx kbx, .slice pbx mbx rbx] 26) := ⟨_, rfl⟩
  have hb2 : Below w1.heap.size w1 w2 := by rw [hw2]; exact (Below.refl _ _).alloc (Nat.le_refl _) _
  have hx2 := heap_alloc_new w1 (.cells #[.bool qb, .slice ob nb kb, .slice pb mb rb, .bool qbx, .slice obx nbx kbx, .slice pbx mbx rbx] 26)
  obtain ⟨g2, hg2⟩ : ∃ g, g = w1.heap.size := ⟨_, rfl⟩
  rw [← hw2, ← hg2] at hx2
  have lw2 : w.heap.size ≤ g2 := by rw [hg2]; exact HB1.out.size
  have ltBX12 : g1 < g2 := by rw [hg2]; exact below_lt BX1.out
  have hs2 : g2 = w.heap.size + 1 := by rw [hg2, HW1.out]; simp
  have HS2 := Lib.hid hs2; clear hs2
  have HW2 := Lib.hid hw2; have HG2 := Lib.hid hg2; clear hw2 hg2
  have HB2 := Lib.hid (HB1.out.step hb2)
  have Fa := Lib.hid (Fa.out.below hb2)
  have Fal := Lib.hid (Fal.out.below hb2)
  have Fah := Lib.hid (Fah.out.below hb2)
  have FaV := Lib.hid (FaV.out.below hb2)
  have Fb := Lib.hid (Fb.out.below hb2)
  have Fbl := Lib.hid (Fbl.out.below hb2)
  have Fbh := Lib.hid (Fbh.out.below hb2)
  have FbV := Lib.hid (FbV.out.below hb2)
  have BX1 := Lib.hid (heap_below BX1.out hb2)
  have BX2 := Lib.hid hx2; clear hb2 hx2
  obtain ⟨w3, hw3⟩ : ∃ w3, w3 = w2.alloc (.cells #[.int .u8 (k0 : Nat), .int .u8 (k1 : Nat), .int .u8 (k2 : Nat), .int .u8 (k3 : Nat)] 50) := ⟨_, rfl⟩
  have hb3 : Below w2.heap.size w2 w3 := by rw [hw3]; exact (Below.refl _ _).alloc (Nat.le_refl _) _
  have hx3 := heap_alloc_new w2 (.cells #[.int .u8 (k0 : Nat), .int .u8 (k1 : Nat), .int .u8 (k2 : Nat), .int .u8 (k3 : Nat)] 50)
  obtain ⟨g3, hg3⟩ : ∃ g, g = w2.heap.size := ⟨_, rfl⟩
  rw [← hw3, ← hg3] at hx3
  have lw3 : w.heap.size ≤ g3 := by rw [hg3]; exact HB2.out.size
  have ltBX13 : g1 < g3 := by rw [hg3]; exact below_lt BX1.out
  have ltBX23 : g2 < g3 := by rw [hg3]; exact below_lt BX2.out
  have hs3 : g3 = w.heap.size + 2 := by rw [hg3, HW2.out, HW1.out]; simp
  have HS3 := Lib.hid hs3; clear hs3
  have HW3 := Lib.hid hw3; have HG3 := Lib.hid hg3; clear hw3 hg3
  have HB3 := Lib.hid (HB2.out.step hb3)
  have Fa := Lib.hid (Fa.out.below hb3)
  have Fal := Lib.hid (Fal.out.below hb3)
  have Fah := Lib.hid (Fah.out.below hb3)
  have FaV := Lib.hid (FaV.out.below hb3)
  have Fb := Lib.hid (Fb.out.below hb3)
  have Fbl := Lib.hid (Fbl.out.below hb3)
  have Fbh := Lib.hid (Fbh.out.below hb3)
  have FbV := Lib.hid (FbV.out.below hb3)
  have BX1 := Lib.hid (heap_below BX1.out hb3)
  have BX2 := Lib.hid (heap_below BX2.out hb3)
  have BX3 := Lib.hid hx3; clear hb3 hx3
  go_enter Tryd.func6, Tryd.ntmps6
  have hs := awake03 w3
  have HS := Lib.hid hs; clear hs
  go_wp2_with (with_reducible first | refine pauseCall ?_ | refine pauseLoop ?_ | refine pauseDraw ?_ | refine pauseBody ?_ | refine pauseRounds ?_)
  try rw [← HW1.out]
  try rw [← HW2.out]
  try rw [← HW3.out]
  try rw [← HS3.out]
  try rw [← HS2.out]
  try rw [← HG1.out]
  try rw [← HG2.out]
  try rw [← HG3.out]
  refine Pause.mk ?_
  (with_reducible refine HS.out.mono ?_); rintro e w4 ⟨rfl, hb4⟩
  clear HS
  have HB4 := Lib.hid (HB3.out.step hb4)
  have Fa := Lib.hid (Fa.out.below hb4)
  have Fal := Lib.hid (Fal.out.below hb4)
  have Fah := Lib.hid (Fah.out.below hb4)
  have FaV := Lib.hid (FaV.out.below hb4)
  have Fb := Lib.hid (Fb.out.below hb4)
  have Fbl := Lib.hid (Fbl.out.below hb4)
  have Fbh := Lib.hid (Fbh.out.below hb4)
  have FbV := Lib.hid (FbV.out.below hb4)
  have BX1 := Lib.hid (heap_below BX1.out hb4)
  have BX2 := Lib.hid (heap_below BX2.out hb4)
  have BX3 := Lib.hid (heap_below BX3.out hb4)
  clear hb4
  obtain ⟨x1_0, x1_1, x1_2, x1_3, x1_4, x1_5⟩ := row6 BX1.out
  obtain ⟨x2_0, x2_1, x2_2, x2_3, x2_4, x2_5⟩ := row6 BX2.out
  obtain ⟨w5, hw5⟩ : ∃ w5, w5 = w4.alloc (.cells #[.bool qa, .slice oa na ka, .slice pa ma ra, .bool qax, .slice oax nax kax, .slice pax max rax, .bool qb, .slice ob nb kb, .slice pb mb rb, .bool qbx, .slice obx nbx kbx, .slice pbx mbx rbx] 26) := ⟨_, rfl⟩
  have hb5 : Below w4.heap.size w4 w5 := by rw [hw5]; exact (Below.refl _ _).alloc (Nat.le_refl _) _
  have hx5 := heap_alloc_new w4 (.cells #[.bool qa, .slice oa na ka, .slice pa ma ra, .bool qax, .slice oax nax kax, .slice pax max rax, .bool qb, .slice ob nb kb, .slice pb mb rb, .bool qbx, .slice obx nbx kbx, .slice pbx mbx rbx] 26)
  obtain ⟨g5, hg5⟩ : ∃ g, g = w4.heap.size := ⟨_, rfl⟩
  rw [← hw5, ← hg5] at hx5
  have lw5 : w.heap.size ≤ g5 := by rw [hg5]; exact HB4.out.size
  have ltBX15 : g1 < g5 := by rw [hg5]; exact below_lt BX1.out
  have ltBX25 : g2 < g5 := by rw [hg5]; exact below_lt BX2.out
  have ltBX35 : g3 < g5 := by rw [hg5]; exact below_lt BX3.out
  have HW5 := Lib.hid hw5; have HG5 := Lib.hid hg5; clear hw5 hg5
  have HB5 := Lib.hid (HB4.out.step hb5)
  have Fa := Lib.hid (Fa.out.below hb5)
  have Fal := Lib.hid (Fal.out.below hb5)
  have Fah := Lib.hid (Fah.out.below hb5)
  have FaV := Lib.hid (FaV.out.below hb5)
  have Fb := Lib.hid (Fb.out.below hb5)
  have Fbl := Lib.hid (Fbl.out.below hb5)
  have Fbh := Lib.hid (Fbh.out.below hb5)
  have FbV := Lib.hid (FbV.out.below hb5)
  have BX1 := Lib.hid (heap_below BX1.out hb5)
  have BX2 := Lib.hid (heap_below BX2.out hb5)
  have BX3 := Lib.hid (heap_below BX3.out hb5)
  have BX5 := Lib.hid hx5; clear hb5 hx5
  have hs := slarge2s BX5.out Za Zb
  have HS := Lib.hid hs; clear hs
  try rw [HG5.out] at x1_0
  try rw [HG5.out] at x1_1
  try rw [HG5.out] at x1_2
  try rw [HG5.out] at x1_3
  try rw [HG5.out] at x1_4
  try rw [HG5.out] at x1_5
  try rw [HG5.out] at x2_0
  try rw [HG5.out] at x2_1
  try rw [HG5.out] at x2_2
  try rw [HG5.out] at x2_3
  try rw [HG5.out] at x2_4
  try rw [HG5.out] at x2_5
  go_wp2_with (with_reducible first | refine pauseCall ?_ | refine pauseLoop ?_ | refine pauseDraw ?_ | refine pauseBody ?_ | refine pauseRounds ?_)
  try rw [← HW5.out]
  try rw [← HG5.out]
  clear x1_0 x1_1 x1_2 x1_3 x1_4 x1_5 x2_0 x2_1 x2_2 x2_3 x2_4 x2_5
  refine Pause.mk ?_
  (with_reducible refine HS.out.mono ?_); rintro e w6 ⟨rfl, hb6⟩
  clear HS
  have HB6 := Lib.hid (HB5.out.step hb6)
  have Fa := Lib.hid (Fa.out.below hb6)
  have Fal := Lib.hid (Fal.out.below hb6)
  have Fah := Lib.hid (Fah.out.below hb6)
  have FaV := Lib.hid (FaV.out.below hb6)
  have Fb := Lib.hid (Fb.out.below hb6)
  have Fbl := Lib.hid (Fbl.out.below hb6)
  have Fbh := Lib.hid (Fbh.out.below hb6)
  have FbV := Lib.hid (FbV.out.below hb6)
  have BX1 := Lib.hid (heap_below BX1.out hb6)
  have BX2 := Lib.hid (heap_below BX2.out hb6)
  have BX3 := Lib.hid (heap_below BX3.out hb6)
  have BX5 := Lib.hid (heap_below BX5.out hb6)
  clear BX5
  clear hb6
  obtain ⟨x3_0, x3_1, x3_2, x3_3, x3_4, x3_5⟩ := row6 BX1.out
  obtain ⟨kp4, kp4x⟩ : rl (((p_a), (r_a)) : Rat × Rat).1 ≤ rl (p_a) ∧ rl (((p_a), (r_a)) : Rat × Rat).2 ≤ rl (r_a) := ⟨Nat.le_refl _, Nat.le_refl _⟩
  have hs := svalid_any _ sa aa ba ta ca da w6 FaV.out (by omega) (by omega) (by omega) (by omega)
  rw [HVa.out] at hs
  have HS := Lib.hid hs; clear hs
  go_wp2_with (with_reducible first | refine pauseCall ?_ | refine pauseLoop ?_ | refine pauseDraw ?_ | refine pauseBody ?_ | refine pauseRounds ?_)
  clear x3_0 x3_1 x3_2 x3_3 x3_4 x3_5
  refine Pause.mk ?_
  (with_reducible refine HS.out.mono ?_); rintro e w7 ⟨rfl, hb7⟩
  clear HS
  have HB7 := Lib.hid (HB6.out.step hb7)
  have Fa := Lib.hid (Fa.out.below hb7)
  have Fal := Lib.hid (Fal.out.below hb7)
  have Fah := Lib.hid (Fah.out.below hb7)
  have FaV := Lib.hid (FaV.out.below hb7)
  have Fb := Lib.hid (Fb.out.below hb7)
  have Fbl := Lib.hid (Fbl.out.below hb7)
  have Fbh := Lib.hid (Fbh.out.below hb7)
  have FbV := Lib.hid (FbV.out.below hb7)
  have BX1 := Lib.hid (heap_below BX1.out hb7)
  have BX2 := Lib.hid (heap_below BX2.out hb7)
  have BX3 := Lib.hid (heap_below BX3.out hb7)
  clear hb7
  obtain ⟨x5_0, x5_1, x5_2, x5_3, x5_4, x5_5⟩ := row6 BX2.out
  obtain ⟨kp6, kp6x⟩ : rl (((p_b), (r_b)) : Rat × Rat).1 ≤ rl (p_b) ∧ rl (((p_b), (r_b)) : Rat × Rat).2 ≤ rl (r_b) := ⟨Nat.le_refl _, Nat.le_refl _⟩
  have hs := svalid_any _ sb ab bb tb cb db w7 FbV.out (by omega) (by omega) (by omega) (by omega)
  rw [HVb.out] at hs
  have HS := Lib.hid hs; clear hs
  go_wp2_with (with_reducible first | refine pauseCall ?_ | refine pauseLoop ?_ | refine pauseDraw ?_ | refine pauseBody ?_ | refine pauseRounds ?_)
  clear x5_0 x5_1 x5_2 x5_3 x5_4 x5_5
  refine Pause.mk ?_
  (with_reducible refine HS.out.mono ?_); rintro e w8 ⟨rfl, hb8⟩
  clear HS
  have HB8 := Lib.hid (HB7.out.step hb8)
  have Fa := Lib.hid (Fa.out.below hb8)
  have Fal := Lib.hid (Fal.out.below hb8)
  have Fah := Lib.hid (Fah.out.below hb8)
  have FaV := Lib.hid (FaV.out.below hb8)
  have Fb := Lib.hid (Fb.out.below hb8)
  have Fbl := Lib.hid (Fbl.out.below hb8)
  have Fbh := Lib.hid (Fbh.out.below hb8)
  have FbV := Lib.hid (FbV.out.below hb8)
  have BX1 := Lib.hid (heap_below BX1.out hb8)
  have BX2 := Lib.hid (heap_below BX2.out hb8)
  have BX3 := Lib.hid (heap_below BX3.out hb8)
  clear hb8
  go_wp2_with (with_reducible first | refine pauseCall ?_ | refine pauseLoop ?_ | refine pauseDraw ?_ | refine pauseBody ?_ | refine pauseRounds ?_)
  refine Pause.mk ?_
  obtain ⟨kp8, kp8x⟩ : rl (((p_a), (r_a)) : Rat × Rat).1 ≤ rl (p_a) ∧ rl (((p_a), (r_a)) : Rat × Rat).2 ≤ rl (r_a) := ⟨Nat.le_refl _, Nat.le_refl _⟩
  have k7 := rl_inK ((p_a, r_a)) mn0 (by omega)
  obtain ⟨kp10, kp10x⟩ : rl (((p_a), (r_a)) : Rat × Rat).1 ≤ rl (p_a) ∧ rl (((p_a), (r_a)) : Rat × Rat).2 ≤ rl (r_a) := ⟨Nat.le_refl _, Nat.le_refl _⟩
  have k9 := rl_inK ((p_a, r_a)) mx0 (by omega)
  obtain ⟨k11, k12⟩ := rl_smV (inK ((p_a, r_a)) mn0) (inK ((p_a, r_a)) mx0)
  refine wp_region_facts (A := ?aa13) (w := w8) 19 [17] (by kernel_rfl) (Fl [KEq (.agg #[.bool qa, .slice oa na ka, .slice pa ma ra, .bool qax, .slice oax nax kax, .slice pax max rax]), KEq (.pointer (some ⟨g3, 0, none⟩)), KEq (.int .u8 (k0 : Nat)), KEq (.pointer (some ⟨g3, 1, none⟩)), KEq (.int .u8 (k1 : Nat)), KEq (.int .u8 (mn0 : Nat)), KIs (inK ((p_a, r_a)) mn0), KEq (.agg #[.bool qa, .slice oa na ka, .slice pa ma ra, .bool qax, .slice oax nax kax, .slice pax max rax]), KEq (.pointer (some ⟨g3, 0, none⟩)), KEq (.int .u8 (k0 : Nat)), KEq (.pointer (some ⟨g3, 1, none⟩)), KEq (.int .u8 (k1 : Nat)), KEq (.int .u8 (mx0 : Nat)), KIs (inK ((p_a, r_a)) mx0), KSpE (smV (inK ((p_a, r_a)) mn0) (inK ((p_a, r_a)) mx0)) (.nilIface), KSpE (smV (inK ((p_a, r_a)) mn0) (inK ((p_a, r_a)) mx0)) (.nilIface), KSp (smV (inK ((p_a, r_a)) mn0) (inK ((p_a, r_a)) mx0)), KEq (.nilIface), KNew w8.heap.size #[.bool false, .slice none 0 0, .slice none 0 0, .bool false, .slice none 0 0, .slice none 0 0] 26]) (fun i => i == 18) (by kernel_rfl) ?hq13 (monoL (monoC (kEq _) (monoC (kEq _) (monoC (kEq _) (monoC (kEq _) (monoC (kEq _) (monoC (kEq _) (monoC (kIs _) (monoC (kEq _) (monoC (kEq _) (monoC (kEq _) (monoC (kEq _) (monoC (kEq _) (monoC (kEq _) (monoC (kIs _) (monoC (kSpE _ _) (monoC (kSpE _ _) (monoC (kSp _) (monoC (kEq _) (monoC (kNew _ _ _) monoN)))))))))))))))))))) ?ha13 ?st13 ?tl13
  case hq13 =>
    intro c a d v w h
    first | (simp only [Exit.then] at h ⊢; exact h) | (simp only [Exit.inBlock, Exit.then] at h ⊢; exact h) | exact h
  case ha13 =>
    intro vals
    simp only [putsTo, dstOf, if_true, Act.put, List.setIfInBounds_toArray, List.set_cons_zero, List.set_cons_succ, List.getElem?_toArray, List.getElem?_cons_zero, List.getElem?_cons_succ, Option.bind_some]
    exact rfl
  case st13 =>
    simp only [List.take_succ_cons, List.take_zero]
    refine stepsOK_cons rfl rfl ?_ (stepsOK_cons rfl rfl ?_ (stepsOK_cons rfl rfl ?_ (stepsOK_cons rfl rfl ?_ (stepsOK_cons rfl rfl ?_ (stepsOK_cons rfl rfl ?_ (stepsOK_cons rfl rfl ?_ (stepsOK_cons rfl rfl ?_ (stepsOK_cons rfl rfl ?_ (stepsOK_cons rfl rfl ?_ (stepsOK_cons rfl rfl ?_ (stepsOK_cons rfl rfl ?_ (stepsOK_cons rfl rfl ?_ (stepsOK_cons rfl rfl ?_ (stepsOK_cons rfl rfl ?_ (stepsOK_cons rfl rfl ?_ (stepsOK_cons rfl rfl ?_ (stepsOK_pure rfl ?_ (stepsOK_cons rfl rfl ?_ (stepsOK_nil)))))))))))))))))))
    · intro vals w1 hb hd
      obtain ⟨e0, e1, e2, e3, e4, e5⟩ := row6 (heap_below BX1.out hb)
      refine stepOK_value (v := .agg #[.bool qa, .slice oa na ka, .slice pa ma ra, .bool qax, .slice oax nax kax, .slice pax max rax]) (w' := w1) (by go_simp) (leaves_mk (Below.refl _ _) rfl (fun h => by cases h))
    · intro vals w1 hb hd
      refine stepOK_value (v := (.pointer (some ⟨g3, 0, none⟩))) (w' := w1) (by go_simp) (leaves_mk (Below.refl _ _) rfl (fun h => by cases h))
    · intro vals w1 hb hd
      have d1 : KEq (.pointer (some ⟨g3, 0, none⟩)) (vals 1) w1 := hd 1 (by kernel_rfl)
      rw [show vals 1 = _ from d1]
      obtain ⟨e0, e1, e2, e3⟩ := row4 (heap_below BX3.out hb)
      refine stepOK_value (v := .int .u8 (k0 : Nat)) (w' := w1) (by go_simp) (leaves_mk (Below.refl _ _) rfl (fun h => by cases h))
    · intro vals w1 hb hd
      refine stepOK_value (v := (.pointer (some ⟨g3, 1, none⟩))) (w' := w1) (by go_simp) (leaves_mk (Below.refl _ _) rfl (fun h => by cases h))
    · intro vals w1 hb hd
      have d3 : KEq (.pointer (some ⟨g3, 1, none⟩)) (vals 3) w1 := hd 3 (by kernel_rfl)
      rw [show vals 3 = _ from d3]
      obtain ⟨e0, e1, e2, e3⟩ := row4 (heap_below BX3.out hb)
      refine stepOK_value (v := .int .u8 (k1 : Nat)) (w' := w1) (by go_simp) (leaves_mk (Below.refl _ _) rfl (fun h => by cases h))
    · intro vals w1 hb hd
      have d2 : KEq (.int .u8 (k0 : Nat)) (vals 2) w1 := hd 2 (by kernel_rfl)
      have d4 : KEq (.int .u8 (k1 : Nat)) (vals 4) w1 := hd 4 (by kernel_rfl)
      rw [show vals 2 = _ from d2]
      rw [show vals 4 = _ from d4]
      refine stepOK_value (v := (.int .u8 (mn0 : Nat))) (w' := w1) (by go_simp) (leaves_mk (Below.refl _ _) rfl (fun h => by cases h))
    · intro vals w1 hb hd
      have d0 : KEq (.agg #[.bool qa, .slice oa na ka, .slice pa ma ra, .bool qax, .slice oax nax kax, .slice pax max rax]) (vals 0) w1 := hd 0 (by kernel_rfl)
      have d5 : KEq (.int .u8 (mn0 : Nat)) (vals 5) w1 := hd 5 (by kernel_rfl)
      have z0 : vals 0 = _ := d0
      have z5 : vals 5 = _ := d5
      have hs := inK_any _ ((p_a, r_a)) mn0 w1 (Fa.out.below hb) (by omega) (by omega) (by omega)
      have HS := Lib.hid hs; clear hs
      rw [z0]; clear z0
      rw [z5]; clear z5
      clear d0 d5 hd
      refine stepOK_call (by go_simp; first | done | exact ⟨⟨rfl, rfl⟩, rfl⟩) ?_
      (with_reducible refine HS.out.mono ?_); rintro e w2 ⟨v, rfl, hb2, hn⟩
      exact ⟨v, rfl, leaves_mk hb2 hn (fun h => by cases h)⟩
    · intro vals w1 hb hd
      obtain ⟨e0, e1, e2, e3, e4, e5⟩ := row6 (heap_below BX1.out hb)
      refine stepOK_value (v := .agg #[.bool qa, .slice oa na ka, .slice pa ma ra, .bool qax, .slice oax nax kax, .slice pax max rax]) (w' := w1) (by go_simp) (leaves_mk (Below.refl _ _) rfl (fun h => by cases h))
    · intro vals w1 hb hd
      refine stepOK_value (v := (.pointer (some ⟨g3, 0, none⟩))) (w' := w1) (by go_simp) (leaves_mk (Below.refl _ _) rfl (fun h => by cases h))
    · intro vals w1 hb hd
      have d8 : KEq (.pointer (some ⟨g3, 0, none⟩)) (vals 8) w1 := hd 8 (by kernel_rfl)
      rw [show vals 8 = _ from d8]
      obtain ⟨e0, e1, e2, e3⟩ := row4 (heap_below BX3.out hb)
      refine stepOK_value (v := .int .u8 (k0 : Nat)) (w' := w1) (by go_simp) (leaves_mk (Below.refl _ _) rfl (fun h => by cases h))
    · intro vals w1 hb hd
      refine stepOK_value (v := (.pointer (some ⟨g3, 1, none⟩))) (w' := w1) (by go_simp) (leaves_mk (Below.refl _ _) rfl (fun h => by cases h))
    · intro vals w1 hb hd
      have d10 : KEq (.pointer (some ⟨g3, 1, none⟩)) (vals 10) w1 := hd 10 (by kernel_rfl)
      rw [show vals 10 = _ from d10]
      obtain ⟨e0, e1, e2, e3⟩ := row4 (heap_below BX3.out hb)
      refine stepOK_value (v := .int .u8 (k1 : Nat)) (w' := w1) (by go_simp) (leaves_mk (Below.refl _ _) rfl (fun h => by cases h))
    · intro vals w1 hb hd
      have d9 : KEq (.int .u8 (k0 : Nat)) (vals 9) w1 := hd 9 (by kernel_rfl)
      have d11 : KEq (.int .u8 (k1 : Nat)) (vals 11) w1 := hd 11 (by kernel_rfl)
      rw [show vals 9 = _ from d9]
      rw [show vals 11 = _ from d11]
      refine stepOK_value (v := (.int .u8 (mx0 : Nat))) (w' := w1) (by go_simp) (leaves_mk (Below.refl _ _) rfl (fun h => by cases h))
    · intro vals w1 hb hd
      have d7 : KEq (.agg #[.bool qa, .slice oa na ka, .slice pa ma ra, .bool qax, .slice oax nax kax, .slice pax max rax]) (vals 7) w1 := hd 7 (by kernel_rfl)
      have d12 : KEq (.int .u8 (mx0 : Nat)) (vals 12) w1 := hd 12 (by kernel_rfl)
      have z7 : vals 7 = _ := d7
      have z12 : vals 12 = _ := d12
      have hs := inK_any _ ((p_a, r_a)) mx0 w1 (Fa.out.below hb) (by omega) (by omega) (by omega)
      have HS := Lib.hid hs; clear hs
      rw [z7]; clear z7
      rw [z12]; clear z12
      clear d7 d12 hd
      refine stepOK_call (by go_simp; first | done | exact ⟨⟨rfl, rfl⟩, rfl⟩) ?_
      (with_reducible refine HS.out.mono ?_); rintro e w2 ⟨v, rfl, hb2, hn⟩
      exact ⟨v, rfl, leaves_mk hb2 hn (fun h => by cases h)⟩
    · intro vals w1 hb hd
      have d6 : KIs (inK ((p_a, r_a)) mn0) (vals 6) w1 := hd 6 (by kernel_rfl)
      have R6 : Hid (IsR w1 (vals 6) (inK ((p_a, r_a)) mn0)) := Lib.hid d6
      have d13 : KIs (inK ((p_a, r_a)) mx0) (vals 13) w1 := hd 13 (by kernel_rfl)
      have R13 : Hid (IsR w1 (vals 13) (inK ((p_a, r_a)) mx0)) := Lib.hid d13
      have hs := smake_any _ (inK ((p_a, r_a)) mn0) _ (inK ((p_a, r_a)) mx0) w1 (R6.out.is (by omega)) (R13.out.is (by omega)) (by omega) (by omega)
      rw [HM0.out, errV_zero] at hs
      have HS := Lib.hid hs; clear hs
      clear d6 d13 hd
      refine stepOK_call (by go_simp; first | done | exact ⟨⟨rfl, rfl⟩, rfl⟩) ?_
      (with_reducible refine HS.out.mono ?_); rintro e w2 ⟨v, rfl, hb2, hn⟩
      exact ⟨_, rfl, leaves_mk hb2 ⟨v, rfl, hn⟩ (fun h => by cases h)⟩
    · intro vals w1 hb hd
      have d14 : KSpE (smV (inK ((p_a, r_a)) mn0) (inK ((p_a, r_a)) mx0)) (.nilIface) (vals 14) w1 := hd 14 (by kernel_rfl)
      obtain ⟨b, eb, hq⟩ := d14
      rw [eb]
      refine stepOK_value (v := (.tuple #[b, .nilIface])) (w' := w1) (by go_simp) (leaves_mk (Below.refl _ _) ⟨b, rfl, hq⟩ (fun h => by cases h))
    · intro vals w1 hb hd
      have d15 : KSpE (smV (inK ((p_a, r_a)) mn0) (inK ((p_a, r_a)) mx0)) (.nilIface) (vals 15) w1 := hd 15 (by kernel_rfl)
      obtain ⟨b, eb, hq⟩ := d15
      rw [eb]
      refine stepOK_value (v := b) (w' := w1) (by go_simp) (leaves_mk (Below.refl _ _) hq (fun h => by cases h))
    · intro vals w1 hb hd
      have d15 : KSpE (smV (inK ((p_a, r_a)) mn0) (inK ((p_a, r_a)) mx0)) (.nilIface) (vals 15) w1 := hd 15 (by kernel_rfl)
      obtain ⟨b, eb, hq⟩ := d15
      rw [eb]
      refine stepPure_value (v := (.nilIface)) (fun w => by go_simp) (leaves_mk (Below.refl _ _) rfl (fun h => by cases h))
    · intro vals w1 hb hd
      refine stepOK_value (v := .pointer (some ⟨w1.heap.size, 0, none⟩)) (w' := w1.alloc (.cells #[.bool false, .slice none 0 0, .slice none 0 0, .bool false, .slice none 0 0, .slice none 0 0] 26)) (by go_simp) (leaves_mk ((Below.refl _ _).alloc (Nat.le_refl _) _) ⟨_, hb.size, rfl, heap_alloc_new _ _⟩ (fun _ => ⟨rfl, by simp⟩))
  case tl13 =>
    intro vals w9 hb9 hf hdis
    simp only [List.drop_succ_cons, List.drop_zero]
    obtain ⟨u13_16, hu16⟩ : ∃ u, u = vals 16 := ⟨_, rfl⟩
    have hn13_16 : IsSp w9 (vals 16) (smV (inK ((p_a, r_a)) mn0) (inK ((p_a, r_a)) mx0)) := hf 16 (by decide)
    rw [← hu16] at hn13_16 ⊢; clear hu16
    have z17 : vals 17 = _ := hf 17 (by decide)
    try rw [z17]
    clear z17
    obtain ⟨g13_18, hg13_18, ev18, hz13_18⟩ : KNew w8.heap.size #[.bool false, .slice none 0 0, .slice none 0 0, .bool false, .slice none 0 0, .slice none 0 0] 26 (vals 18) w9 := hf 18 (by decide)
    have eq18 := ev18
    rw [ev18]; clear ev18
    have lw13_18 : w.heap.size ≤ g13_18 := Nat.le_trans HB8.out.size hg13_18
    have ltBX113_18 : g1 < g13_18 := Nat.lt_of_lt_of_le (below_lt BX1.out) hg13_18
    have ltBX213_18 : g2 < g13_18 := Nat.lt_of_lt_of_le (below_lt BX2.out) hg13_18
    have ltBX313_18 : g3 < g13_18 := Nat.lt_of_lt_of_le (below_lt BX3.out) hg13_18
    clear hf hdis eq18
    have HB9 := Lib.hid (HB8.out.step hb9)
    have Fa := Lib.hid (Fa.out.below hb9)
    have Fal := Lib.hid (Fal.out.below hb9)
    have Fah := Lib.hid (Fah.out.below hb9)
    have FaV := Lib.hid (FaV.out.below hb9)
    have Fb := Lib.hid (Fb.out.below hb9)
    have Fbl := Lib.hid (Fbl.out.below hb9)
    have Fbh := Lib.hid (Fbh.out.below hb9)
    have FbV := Lib.hid (FbV.out.below hb9)
    have BX1 := Lib.hid (heap_below BX1.out hb9)
    have BX2 := Lib.hid (heap_below BX2.out hb9)
    have BX3 := Lib.hid (heap_below BX3.out hb9)
    clear hb9
    have BX13_18 := Lib.hid hz13_18; clear hz13_18 hg13_18
    have N13_16 := Lib.hid hn13_16; clear hn13_16
    obtain ⟨s14, o14, n14, c14, a14, m14, d14, s14x, o14x, n14x, c14x, a14x, m14x, d14x, rfl⟩ := N13_16.out.shape
    have N13_16l := Lib.hid (isSp_ends N13_16.out).1; have N13_16h := Lib.hid (isSp_ends N13_16.out).2
    skip
    go_wp2_with (with_reducible refine wpList_pauseS ?_)
    refine wpList_stL g13_18 0 [.bool s14, .slice o14 n14 c14, .slice a14 m14 d14, .bool s14x, .slice o14x n14x c14x, .slice a14x m14x d14x] BX13_18.out rfl rfl (Nat.le_of_ble_eq_true rfl) (by kernel_rfl) rfl ?_
    intro w10 hp10
    have Fa := Lib.hid (putL_SI hp10 Fa.out BX13_18.out noW6)
    have Fal := Lib.hid (putL_I hp10 Fal.out BX13_18.out noW6)
    have Fah := Lib.hid (putL_I hp10 Fah.out BX13_18.out noW6)
    have FaV := Lib.hid (putL_SV hp10 FaV.out BX13_18.out noW6)
    have Fb := Lib.hid (putL_SI hp10 Fb.out BX13_18.out noW6)
    have Fbl := Lib.hid (putL_I hp10 Fbl.out BX13_18.out noW6)
    have Fbh := Lib.hid (putL_I hp10 Fbh.out BX13_18.out noW6)
    have FbV := Lib.hid (putL_SV hp10 FbV.out BX13_18.out noW6)
    have N13_16 := Lib.hid (putL_SI hp10 N13_16.out BX13_18.out noW6)
    have N13_16l := Lib.hid (putL_I hp10 N13_16l.out BX13_18.out noW6)
    have N13_16h := Lib.hid (putL_I hp10 N13_16h.out BX13_18.out noW6)
    have BX1 := Lib.hid (putLx hp10 BX1.out (by omega))
    have BX2 := Lib.hid (putLx hp10 BX2.out (by omega))
    have BX3 := Lib.hid (putLx hp10 BX3.out (by omega))
    have nx10 : w10.heap[g13_18]? = some (.cells #[.bool s14, .slice o14 n14 c14, .slice a14 m14 d14, .bool s14x, .slice o14x n14x c14x, .slice a14x m14x d14x] 26) := by rw [hp10]; exact putL_6 BX13_18.out
    have BX13_18 := Lib.hid nx10; clear nx10
    have HB10 := Lib.hid (putLb hp10 HB9.out (by omega))
    clear hp10
    go_wp2_with (with_reducible first | refine pauseCall ?_ | refine pauseLoop ?_ | refine pauseDraw ?_ | refine pauseBody ?_ | refine pauseRounds ?_)
    refine Pause.mk ?_
    obtain ⟨kp16, kp16x⟩ : rl (((p_b), (r_b)) : Rat × Rat).1 ≤ rl (p_b) ∧ rl (((p_b), (r_b)) : Rat × Rat).2 ≤ rl (r_b) := ⟨Nat.le_refl _, Nat.le_refl _⟩
    have k15 := rl_inK ((p_b, r_b)) mn1 (by omega)
    obtain ⟨kp18, kp18x⟩ : rl (((p_b), (r_b)) : Rat × Rat).1 ≤ rl (p_b) ∧ rl (((p_b), (r_b)) : Rat × Rat).2 ≤ rl (r_b) := ⟨Nat.le_refl _, Nat.le_refl _⟩
    have k17 := rl_inK ((p_b, r_b)) mx1 (by omega)
    obtain ⟨k19, k20⟩ := rl_smV (inK ((p_b, r_b)) mn1) (inK ((p_b, r_b)) mx1)
    refine wp_region_facts (A := ?aa21) (w := w10) 19 [17] (by kernel_rfl) (Fl [KEq (.agg #[.bool qb, .slice ob nb kb, .slice pb mb rb, .bool qbx, .slice obx nbx kbx, .slice pbx mbx rbx]), KEq (.pointer (some ⟨g3, 2, none⟩)), KEq (.int .u8 (k2 : Nat)), KEq (.pointer (some ⟨g3, 3, none⟩)), KEq (.int .u8 (k3 : Nat)), KEq (.int .u8 (mn1 : Nat)), KIs (inK ((p_b, r_b)) mn1), KEq (.agg #[.bool qb, .slice ob nb kb, .slice pb mb rb, .bool qbx, .slice obx nbx kbx, .slice pbx mbx rbx]), KEq (.pointer (some ⟨g3, 2, none⟩)), KEq (.int .u8 (k2 : Nat)), KEq (.pointer (some ⟨g3, 3, none⟩)), KEq (.int .u8 (k3 : Nat)), KEq (.int .u8 (mx1 : Nat)), KIs (inK ((p_b, r_b)) mx1), KSpE (smV (inK ((p_b, r_b)) mn1) (inK ((p_b, r_b)) mx1)) (.nilIface), KSpE (smV (inK ((p_b, r_b)) mn1) (inK ((p_b, r_b)) mx1)) (.nilIface), KSp (smV (inK ((p_b, r_b)) mn1) (inK ((p_b, r_b)) mx1)), KEq (.nilIface), KNew w10.heap.size #[.bool false, .slice none 0 0, .slice none 0 0, .bool false, .slice none 0 0, .slice none 0 0] 26]) (fun i => i == 18) (by kernel_rfl) ?hq21 (monoL (monoC (kEq _) (monoC (kEq _) (monoC (kEq _) (monoC (kEq _) (monoC (kEq _) (monoC (kEq _) (monoC (kIs _) (monoC (kEq _) (monoC (kEq _) (monoC (kEq _) (monoC (kEq _) (monoC (kEq _) (monoC (kEq _) (monoC (kIs _) (monoC (kSpE _ _) (monoC (kSpE _ _) (monoC (kSp _) (monoC (kEq _) (monoC (kNew _ _ _) monoN)))))))))))))))))))) ?ha21 ?st21 ?tl21
    case hq21 =>
      intro c a d v w h
      first | (simp only [Exit.then] at h ⊢; exact h) | (simp only [Exit.inBlock, Exit.then] at h ⊢; exact h) | exact h
    case ha21 =>
      intro vals
      simp only [putsTo, dstOf, if_true, Act.put, List.setIfInBounds_toArray, List.set_cons_zero, List.set_cons_succ, List.getElem?_toArray, List.getElem?_cons_zero, List.getElem?_cons_succ, Option.bind_some]
      exact rfl
    case st21 =>
      simp only [List.take_succ_cons, List.take_zero]
      refine stepsOK_cons rfl rfl ?_ (stepsOK_cons rfl rfl ?_ (stepsOK_cons rfl rfl ?_ (stepsOK_cons rfl rfl ?_ (stepsOK_cons rfl rfl ?_ (stepsOK_cons rfl rfl ?_ (stepsOK_cons rfl rfl ?_ (stepsOK_cons rfl rfl ?_ (stepsOK_cons rfl rfl ?_ (stepsOK_cons rfl rfl ?_ (stepsOK_cons rfl rfl ?_ (stepsOK_cons rfl rfl ?_ (stepsOK_cons rfl rfl ?_ (stepsOK_cons rfl rfl ?_ (stepsOK_cons rfl rfl ?_ (stepsOK_cons rfl rfl ?_ (stepsOK_cons rfl rfl ?_ (stepsOK_pure rfl ?_ (stepsOK_cons rfl rfl ?_ (stepsOK_nil)))))))))))))))))))
      · intro vals w1 hb hd
        obtain ⟨e0, e1, e2, e3, e4, e5⟩ := row6 (heap_below BX2.out hb)
        refine stepOK_value (v := .agg #[.bool qb, .slice ob nb kb, .slice pb mb rb, .bool qbx, .slice obx nbx kbx, .slice pbx mbx rbx]) (w' := w1) (by go_simp) (leaves_mk (Below.refl _ _) rfl (fun h => by cases h))
      · intro vals w1 hb hd
        refine stepOK_value (v := (.pointer (some ⟨g3, 2, none⟩))) (w' := w1) (by go_simp) (leaves_mk (Below.refl _ _) rfl (fun h => by cases h))
      · intro vals w1 hb hd
        have d1 : KEq (.pointer (some ⟨g3, 2, none⟩)) (vals 1) w1 := hd 1 (by kernel_rfl)
        rw [show vals 1 = _ from d1]
        obtain ⟨e0, e1, e2, e3⟩ := row4 (heap_below BX3.out hb)
        refine stepOK_value (v := .int .u8 (k2 : Nat)) (w' := w1) (by go_simp) (leaves_mk (Below.refl _ _) rfl (fun h => by cases h))
      · intro vals w1 hb hd
        refine stepOK_value (v := (.pointer (some ⟨g3, 3, none⟩))) (w' := w1) (by go_simp) (leaves_mk (Below.refl _ _) rfl (fun h => by cases h))
      · intro vals w1 hb hd
        have d3 : KEq (.pointer (some ⟨g3, 3, none⟩)) (vals 3) w1 := hd 3 (by kernel_rfl)
        rw [show vals 3 = _ from d3]
        obtain ⟨e0, e1, e2, e3⟩ := row4 (heap_below BX3.out hb)
        refine stepOK_value (v := .int .u8 (k3 : Nat)) (w' := w1) (by go_simp) (leaves_mk (Below.refl _ _) rfl (fun h => by cases h))
      · intro vals w1 hb hd
        have d2 : KEq (.int .u8 (k2 : Nat)) (vals 2) w1 := hd 2 (by kernel_rfl)
        have d4 : KEq (.int .u8 (k3 : Nat)) (vals 4) w1 := hd 4 (by kernel_rfl)
        rw [show vals 2 = _ from d2]
        rw [show vals 4 = _ from d4]
        refine stepOK_value (v := (.int .u8 (mn1 : Nat))) (w' := w1) (by go_simp) (leaves_mk (Below.refl _ _) rfl (fun h => by cases h))
      · intro vals w1 hb hd
        have d0 : KEq (.agg #[.bool qb, .slice ob nb kb, .slice pb mb rb, .bool qbx, .slice obx nbx kbx, .slice pbx mbx rbx]) (vals 0) w1 := hd 0 (by kernel_rfl)
        have d5 : KEq (.int .u8 (mn1 : Nat)) (vals 5) w1 := hd 5 (by kernel_rfl)
        have z0 : vals 0 = _ := d0
        have z5 : vals 5 = _ := d5
        have hs := inK_any _ ((p_b, r_b)) mn1 w1 (Fb.out.below hb) (by omega) (by omega) (by omega)
        have HS := Lib.hid hs; clear hs
        rw [z0]; clear z0
        rw [z5]; clear z5
        clear d0 d5 hd
        refine stepOK_call (by go_simp; first | done | exact ⟨⟨rfl, rfl⟩, rfl⟩) ?_
        (with_reducible refine HS.out.mono ?_); rintro e w2 ⟨v, rfl, hb2, hn⟩
        exact ⟨v, rfl, leaves_mk hb2 hn (fun h => by cases h)⟩
      · intro vals w1 hb hd
        obtain ⟨e0, e1, e2, e3, e4, e5⟩ := row6 (heap_below BX2.out hb)
        refine stepOK_value (v := .agg #[.bool qb, .slice ob nb kb, .slice pb mb rb, .bool qbx, .slice obx nbx kbx, .slice pbx mbx rbx]) (w' := w1) (by go_simp) (leaves_mk (Below.refl _ _) rfl (fun h => by cases h))
      · intro vals w1 hb hd
        refine stepOK_value (v := (.pointer (some ⟨g3, 2, none⟩))) (w' := w1) (by go_simp) (leaves_mk (Below.refl _ _) rfl (fun h => by cases h))
      · intro vals w1 hb hd
        have d8 : KEq (.pointer (some ⟨g3, 2, none⟩)) (vals 8) w1 := hd 8 (by kernel_rfl)
        rw [show vals 8 = _ from d8]
        obtain ⟨e0, e1, e2, e3⟩ := row4 (heap_below BX3.out hb)
        refine stepOK_value (v := .int .u8 (k2 : Nat)) (w' := w1) (by go_simp) (leaves_mk (Below.refl _ _) rfl (fun h => by cases h))
      · intro vals w1 hb hd
        refine stepOK_value (v := (.pointer (some ⟨g3, 3, none⟩))) (w' := w1) (by go_simp) (leaves_mk (Below.refl _ _) rfl (fun h => by cases h))
      · intro vals w1 hb hd
        have d10 : KEq (.pointer (some ⟨g3, 3, none⟩)) (vals 10) w1 := hd 10 (by kernel_rfl)
        rw [show vals 10 = _ from d10]
        obtain ⟨e0, e1, e2, e3⟩ := row4 (heap_below BX3.out hb)
        refine stepOK_value (v := .int .u8 (k3 : Nat)) (w' := w1) (by go_simp) (leaves_mk (Below.refl _ _) rfl (fun h => by cases h))
      · intro vals w1 hb hd
        have d9 : KEq (.int .u8 (k2 : Nat)) (vals 9) w1 := hd 9 (by kernel_rfl)
        have d11 : KEq (.int .u8 (k3 : Nat)) (vals 11) w1 := hd 11 (by kernel_rfl)
        rw [show vals 9 = _ from d9]
        rw [show vals 11 = _ from d11]
        refine stepOK_value (v := (.int .u8 (mx1 : Nat))) (w' := w1) (by go_simp) (leaves_mk (Below.refl _ _) rfl (fun h => by cases h))
      · intro vals w1 hb hd
        have d7 : KEq (.agg #[.bool qb, .slice ob nb kb, .slice pb mb rb, .bool qbx, .slice obx nbx kbx, .slice pbx mbx rbx]) (vals 7) w1 := hd 7 (by kernel_rfl)
        have d12 : KEq (.int .u8 (mx1 : Nat)) (vals 12) w1 := hd 12 (by kernel_rfl)
        have z7 : vals 7 = _ := d7
        have z12 : vals 12 = _ := d12
        have hs := inK_any _ ((p_b, r_b)) mx1 w1 (Fb.out.below hb) (by omega) (by omega) (by omega)
        have HS := Lib.hid hs; clear hs
        rw [z7]; clear z7
        rw [z12]; clear z12
        clear d7 d12 hd
        refine stepOK_call (by go_simp; first | done | exact ⟨⟨rfl, rfl⟩, rfl⟩) ?_
        (with_reducible refine HS.out.mono ?_); rintro e w2 ⟨v, rfl, hb2, hn⟩
        exact ⟨v, rfl, leaves_mk hb2 hn (fun h => by cases h)⟩
      · intro vals w1 hb hd
        have d6 : KIs (inK ((p_b, r_b)) mn1) (vals 6) w1 := hd 6 (by kernel_rfl)
        have R6 : Hid (IsR w1 (vals 6) (inK ((p_b, r_b)) mn1)) := Lib.hid d6
        have d13 : KIs (inK ((p_b, r_b)) mx1) (vals 13) w1 := hd 13 (by kernel_rfl)
        have R13 : Hid (IsR w1 (vals 13) (inK ((p_b, r_b)) mx1)) := Lib.hid d13
        have hs := smake_any _ (inK ((p_b, r_b)) mn1) _ (inK ((p_b, r_b)) mx1) w1 (R6.out.is (by omega)) (R13.out.is (by omega)) (by omega) (by omega)
        rw [HM1.out, errV_zero] at hs
        have HS := Lib.hid hs; clear hs
        clear d6 d13 hd
        refine stepOK_call (by go_simp; first | done | exact ⟨⟨rfl, rfl⟩, rfl⟩) ?_
        (with_reducible refine HS.out.mono ?_); rintro e w2 ⟨v, rfl, hb2, hn⟩
        exact ⟨_, rfl, leaves_mk hb2 ⟨v, rfl, hn⟩ (fun h => by cases h)⟩
      · intro vals w1 hb hd
        have d14 : KSpE (smV (inK ((p_b, r_b)) mn1) (inK ((p_b, r_b)) mx1)) (.nilIface) (vals 14) w1 := hd 14 (by kernel_rfl)
        obtain ⟨b, eb, hq⟩ := d14
        rw [eb]
        refine stepOK_value (v := (.tuple #[b, .nilIface])) (w' := w1) (by go_simp) (leaves_mk (Below.refl _ _) ⟨b, rfl, hq⟩ (fun h => by cases h))
      · intro vals w1 hb hd
        have d15 : KSpE (smV (inK ((p_b, r_b)) mn1) (inK ((p_b, r_b)) mx1)) (.nilIface) (vals 15) w1 := hd 15 (by kernel_rfl)
        obtain ⟨b, eb, hq⟩ := d15
        rw [eb]
        refine stepOK_value (v := b) (w' := w1) (by go_simp) (leaves_mk (Below.refl _ _) hq (fun h => by cases h))
      · intro vals w1 hb hd
        have d15 : KSpE (smV (inK ((p_b, r_b)) mn1) (inK ((p_b, r_b)) mx1)) (.nilIface) (vals 15) w1 := hd 15 (by kernel_rfl)
        obtain ⟨b, eb, hq⟩ := d15
        rw [eb]
        refine stepPure_value (v := (.nilIface)) (fun w => by go_simp) (leaves_mk (Below.refl _ _) rfl (fun h => by cases h))
      · intro vals w1 hb hd
        refine stepOK_value (v := .pointer (some ⟨w1.heap.size, 0, none⟩)) (w' := w1.alloc (.cells #[.bool false, .slice none 0 0, .slice none 0 0, .bool false, .slice none 0 0, .slice none 0 0] 26)) (by go_simp) (leaves_mk ((Below.refl _ _).alloc (Nat.le_refl _) _) ⟨_, hb.size, rfl, heap_alloc_new _ _⟩ (fun _ => ⟨rfl, by simp⟩))
    case tl21 =>
      intro vals w11 hb11 hf hdis
      simp only [List.drop_succ_cons, List.drop_zero]
      obtain ⟨u21_16, hu16⟩ : ∃ u, u = vals 16 := ⟨_, rfl⟩
      have hn21_16 : IsSp w11 (vals 16) (smV (inK ((p_b, r_b)) mn1) (inK ((p_b, r_b)) mx1)) := hf 16 (by decide)
      rw [← hu16] at hn21_16 ⊢; clear hu16
      have z17 : vals 17 = _ := hf 17 (by decide)
      try rw [z17]
      clear z17
      obtain ⟨g21_18, hg21_18, ev18, hz21_18⟩ : KNew w10.heap.size #[.bool false, .slice none 0 0, .slice none 0 0, .bool false, .slice none 0 0, .slice none 0 0] 26 (vals 18) w11 := hf 18 (by decide)
      have eq18 := ev18
      rw [ev18]; clear ev18
      have lw21_18 : w.heap.size ≤ g21_18 := Nat.le_trans HB10.out.size hg21_18
      have ltBX121_18 : g1 < g21_18 := Nat.lt_of_lt_of_le (below_lt BX1.out) hg21_18
      have ltBX221_18 : g2 < g21_18 := Nat.lt_of_lt_of_le (below_lt BX2.out) hg21_18
      have ltBX321_18 : g3 < g21_18 := Nat.lt_of_lt_of_le (below_lt BX3.out) hg21_18
      have ltBX13_1821_18 : g13_18 < g21_18 := Nat.lt_of_lt_of_le (below_lt BX13_18.out) hg21_18
      clear hf hdis eq18
      have HB11 := Lib.hid (HB10.out.step hb11)
      have Fa := Lib.hid (Fa.out.below hb11)
      have Fal := Lib.hid (Fal.out.below hb11)
      have Fah := Lib.hid (Fah.out.below hb11)
      have FaV := Lib.hid (FaV.out.below hb11)
      have Fb := Lib.hid (Fb.out.below hb11)
      have Fbl := Lib.hid (Fbl.out.below hb11)
      have Fbh := Lib.hid (Fbh.out.below hb11)
      have FbV := Lib.hid (FbV.out.below hb11)
      have N13_16 := Lib.hid (N13_16.out.below hb11)
      have N13_16l := Lib.hid (N13_16l.out.below hb11)
      have N13_16h := Lib.hid (N13_16h.out.below hb11)
      have BX1 := Lib.hid (heap_below BX1.out hb11)
      have BX2 := Lib.hid (heap_below BX2.out hb11)
      have BX3 := Lib.hid (heap_below BX3.out hb11)
      have BX13_18 := Lib.hid (heap_below BX13_18.out hb11)
      clear hb11
      have BX21_18 := Lib.hid hz21_18; clear hz21_18 hg21_18
      have N21_16 := Lib.hid hn21_16; clear hn21_16
      obtain ⟨s22, o22, n22, c22, a22, m22, d22, s22x, o22x, n22x, c22x, a22x, m22x, d22x, rfl⟩ := N21_16.out.shape
      have N21_16l := Lib.hid (isSp_ends N21_16.out).1; have N21_16h := Lib.hid (isSp_ends N21_16.out).2
      skip
      go_wp2_with (with_reducible refine wpList_pauseS ?_)
      refine wpList_stL g21_18 0 [.bool s22, .slice o22 n22 c22, .slice a22 m22 d22, .bool s22x, .slice o22x n22x c22x, .slice a22x m22x d22x] BX21_18.out rfl rfl (Nat.le_of_ble_eq_true rfl) (by kernel_rfl) rfl ?_
      intro w12 hp12
      have Fa := Lib.hid (putL_SI hp12 Fa.out BX21_18.out noW6)
      have Fal := Lib.hid (putL_I hp12 Fal.out BX21_18.out noW6)
      have Fah := Lib.hid (putL_I hp12 Fah.out BX21_18.out noW6)
      have FaV := Lib.hid (putL_SV hp12 FaV.out BX21_18.out noW6)
      have Fb := Lib.hid (putL_SI hp12 Fb.out BX21_18.out noW6)
      have Fbl := Lib.hid (putL_I hp12 Fbl.out BX21_18.out noW6)
      have Fbh := Lib.hid (putL_I hp12 Fbh.out BX21_18.out noW6)
      have FbV := Lib.hid (putL_SV hp12 FbV.out BX21_18.out noW6)
      have N13_16 := Lib.hid (putL_SI hp12 N13_16.out BX21_18.out noW6)
      have N13_16l := Lib.hid (putL_I hp12 N13_16l.out BX21_18.out noW6)
      have N13_16h := Lib.hid (putL_I hp12 N13_16h.out BX21_18.out noW6)
      have N21_16 := Lib.hid (putL_SI hp12 N21_16.out BX21_18.out noW6)
      have N21_16l := Lib.hid (putL_I hp12 N21_16l.out BX21_18.out noW6)
      have N21_16h := Lib.hid (putL_I hp12 N21_16h.out BX21_18.out noW6)
      have BX1 := Lib.hid (putLx hp12 BX1.out (by omega))
      have BX2 := Lib.hid (putLx hp12 BX2.out (by omega))
      have BX3 := Lib.hid (putLx hp12 BX3.out (by omega))
      have BX13_18 := Lib.hid (putLx hp12 BX13_18.out (by omega))
      have nx12 : w12.heap[g21_18]? = some (.cells #[.bool s22, .slice o22 n22 c22, .slice a22 m22 d22, .bool s22x, .slice o22x n22x c22x, .slice a22x m22x d22x] 26) := by rw [hp12]; exact putL_6 BX21_18.out
      have BX21_18 := Lib.hid nx12; clear nx12
      have HB12 := Lib.hid (putLb hp12 HB11.out (by omega))
      clear hp12
      obtain ⟨x23_0, x23_1, x23_2, x23_3, x23_4, x23_5⟩ := row6 BX13_18.out
      obtain ⟨x24_0, x24_1, x24_2, x24_3, x24_4, x24_5⟩ := row6 BX1.out
      obtain ⟨kp25, kp25x⟩ : rl (((p_a), (r_a)) : Rat × Rat).1 ≤ rl (p_a) ∧ rl (((p_a), (r_a)) : Rat × Rat).2 ≤ rl (r_a) := ⟨Nat.le_refl _, Nat.le_refl _⟩
      have hs := inside_any _ (smV (inK ((p_a, r_a)) mn0) (inK ((p_a, r_a)) mx0)) _ ((p_a, r_a)) w12 (N13_16.out.is (smV_ok _ _) (by omega) (by omega)) (Fa.out.is HOa.out (by omega) (by omega)) (by omega) (by omega) (by omega) (by omega)
      rw [HI1.out] at hs
      have HS := Lib.hid hs; clear hs
      go_wp2_with (with_reducible first | refine pauseCall ?_ | refine pauseLoop ?_ | refine pauseDraw ?_ | refine pauseBody ?_ | refine pauseRounds ?_)
      clear x23_0 x23_1 x23_2 x23_3 x23_4 x23_5 x24_0 x24_1 x24_2 x24_3 x24_4 x24_5
      refine Pause.mk ?_
      (with_reducible refine HS.out.mono ?_); rintro e w13 ⟨rfl, hb13⟩
      clear HS
      have HB13 := Lib.hid (HB12.out.step hb13)
      have Fa := Lib.hid (Fa.out.below hb13)
      have Fal := Lib.hid (Fal.out.below hb13)
      have Fah := Lib.hid (Fah.out.below hb13)
      have FaV := Lib.hid (FaV.out.below hb13)
      have Fb := Lib.hid (Fb.out.below hb13)
      have Fbl := Lib.hid (Fbl.out.below hb13)
      have Fbh := Lib.hid (Fbh.out.below hb13)
      have FbV := Lib.hid (FbV.out.below hb13)
      have N13_16 := Lib.hid (N13_16.out.below hb13)
      have N13_16l := Lib.hid (N13_16l.out.below hb13)
      have N13_16h := Lib.hid (N13_16h.out.below hb13)
      have N21_16 := Lib.hid (N21_16.out.below hb13)
      have N21_16l := Lib.hid (N21_16l.out.below hb13)
      have N21_16h := Lib.hid (N21_16h.out.below hb13)
      have BX1 := Lib.hid (heap_below BX1.out hb13)
      have BX2 := Lib.hid (heap_below BX2.out hb13)
      have BX3 := Lib.hid (heap_below BX3.out hb13)
      have BX13_18 := Lib.hid (heap_below BX13_18.out hb13)
      have BX21_18 := Lib.hid (heap_below BX21_18.out hb13)
      clear hb13
      obtain ⟨x26_0, x26_1, x26_2, x26_3, x26_4, x26_5⟩ := row6 BX21_18.out
      obtain ⟨x27_0, x27_1, x27_2, x27_3, x27_4, x27_5⟩ := row6 BX2.out
      obtain ⟨kp28, kp28x⟩ : rl (((p_b), (r_b)) : Rat × Rat).1 ≤ rl (p_b) ∧ rl (((p_b), (r_b)) : Rat × Rat).2 ≤ rl (r_b) := ⟨Nat.le_refl _, Nat.le_refl _⟩
      have hs := inside_any _ (smV (inK ((p_b, r_b)) mn1) (inK ((p_b, r_b)) mx1)) _ ((p_b, r_b)) w13 (N21_16.out.is (smV_ok _ _) (by omega) (by omega)) (Fb.out.is HOb.out (by omega) (by omega)) (by omega) (by omega) (by omega) (by omega)
      rw [HI2.out] at hs
      have HS := Lib.hid hs; clear hs
      go_wp2_with (with_reducible first | refine pauseCall ?_ | refine pauseLoop ?_ | refine pauseDraw ?_ | refine pauseBody ?_ | refine pauseRounds ?_)
      clear x26_0 x26_1 x26_2 x26_3 x26_4 x26_5 x27_0 x27_1 x27_2 x27_3 x27_4 x27_5
      refine Pause.mk ?_
      (with_reducible refine HS.out.mono ?_); rintro e w14 ⟨rfl, hb14⟩
      clear HS
      have HB14 := Lib.hid (HB13.out.step hb14)
      have Fa := Lib.hid (Fa.out.below hb14)
      have Fal := Lib.hid (Fal.out.below hb14)
      have Fah := Lib.hid (Fah.out.below hb14)
      have FaV := Lib.hid (FaV.out.below hb14)
      have Fb := Lib.hid (Fb.out.below hb14)
      have Fbl := Lib.hid (Fbl.out.below hb14)
      have Fbh := Lib.hid (Fbh.out.below hb14)
      have FbV := Lib.hid (FbV.out.below hb14)
      have N13_16 := Lib.hid (N13_16.out.below hb14)
      have N13_16l := Lib.hid (N13_16l.out.below hb14)
      have N13_16h := Lib.hid (N13_16h.out.below hb14)
      have N21_16 := Lib.hid (N21_16.out.below hb14)
      have N21_16l := Lib.hid (N21_16l.out.below hb14)
      have N21_16h := Lib.hid (N21_16h.out.below hb14)
      have BX1 := Lib.hid (heap_below BX1.out hb14)
      have BX2 := Lib.hid (heap_below BX2.out hb14)
      have BX3 := Lib.hid (heap_below BX3.out hb14)
      have BX13_18 := Lib.hid (heap_below BX13_18.out hb14)
      have BX21_18 := Lib.hid (heap_below BX21_18.out hb14)
      clear hb14
      go_wp2_with (with_reducible first | refine pauseCall ?_ | refine pauseLoop ?_ | refine pauseDraw ?_ | refine pauseBody ?_ | refine pauseRounds ?_)
      refine Pause.mk ?_
      obtain ⟨k29, k30⟩ := rl_sAdd (smV (inK ((p_a, r_a)) mn0) (inK ((p_a, r_a)) mx0)) (smV (inK ((p_b, r_b)) mn1) (inK ((p_b, r_b)) mx1))
      obtain ⟨kp33, kp33x⟩ : rl (((p_a), (r_a)) : Rat × Rat).1 ≤ rl (p_a) ∧ rl (((p_a), (r_a)) : Rat × Rat).2 ≤ rl (r_a) := ⟨Nat.le_refl _, Nat.le_refl _⟩
      obtain ⟨kp34, kp34x⟩ : rl (((p_b), (r_b)) : Rat × Rat).1 ≤ rl (p_b) ∧ rl (((p_b), (r_b)) : Rat × Rat).2 ≤ rl (r_b) := ⟨Nat.le_refl _, Nat.le_refl _⟩
      obtain ⟨k31, k32⟩ := rl_sAdd ((p_a, r_a)) ((p_b, r_b))
      obtain ⟨k35, k36⟩ := rl_sSub (smV (inK ((p_a, r_a)) mn0) (inK ((p_a, r_a)) mx0)) (smV (inK ((p_b, r_b)) mn1) (inK ((p_b, r_b)) mx1))
      obtain ⟨kp39, kp39x⟩ : rl (((p_a), (r_a)) : Rat × Rat).1 ≤ rl (p_a) ∧ rl (((p_a), (r_a)) : Rat × Rat).2 ≤ rl (r_a) := ⟨Nat.le_refl _, Nat.le_refl _⟩
      obtain ⟨kp40, kp40x⟩ : rl (((p_b), (r_b)) : Rat × Rat).1 ≤ rl (p_b) ∧ rl (((p_b), (r_b)) : Rat × Rat).2 ≤ rl (r_b) := ⟨Nat.le_refl _, Nat.le_refl _⟩
      obtain ⟨k37, k38⟩ := rl_sSub ((p_a, r_a)) ((p_b, r_b))
      obtain ⟨k41, k42⟩ := rl_sMulD (smV (inK ((p_a, r_a)) mn0) (inK ((p_a, r_a)) mx0)) (smV (inK ((p_b, r_b)) mn1) (inK ((p_b, r_b)) mx1))
      obtain ⟨kp45, kp45x⟩ : rl (((p_a), (r_a)) : Rat × Rat).1 ≤ rl (p_a) ∧ rl (((p_a), (r_a)) : Rat × Rat).2 ≤ rl (r_a) := ⟨Nat.le_refl _, Nat.le_refl _⟩
      obtain ⟨kp46, kp46x⟩ : rl (((p_b), (r_b)) : Rat × Rat).1 ≤ rl (p_b) ∧ rl (((p_b), (r_b)) : Rat × Rat).2 ≤ rl (r_b) := ⟨Nat.le_refl _, Nat.le_refl _⟩
      obtain ⟨k43, k44⟩ := rl_sMulD ((p_a, r_a)) ((p_b, r_b))
      obtain ⟨k47, k48⟩ := rl_sClipD (smV (inK ((p_a, r_a)) mn0) (inK ((p_a, r_a)) mx0))
      obtain ⟨kp51, kp51x⟩ : rl (((p_a), (r_a)) : Rat × Rat).1 ≤ rl (p_a) ∧ rl (((p_a), (r_a)) : Rat × Rat).2 ≤ rl (r_a) := ⟨Nat.le_refl _, Nat.le_refl _⟩
      obtain ⟨k49, k50⟩ := rl_sClipD ((p_a, r_a))
      obtain ⟨k52, k53⟩ := rl_sHullD (smV (inK ((p_a, r_a)) mn0) (inK ((p_a, r_a)) mx0)) (smV (inK ((p_b, r_b)) mn1) (inK ((p_b, r_b)) mx1))
      refine wp_region_facts (A := ?aa54) (w := w14) 42 [] (by kernel_rfl) (Fl [KEq (.agg #[.bool s14, .slice o14 n14 c14, .slice a14 m14 d14, .bool s14x, .slice o14x n14x c14x, .slice a14x m14x d14x]), KEq (.agg #[.bool s22, .slice o22 n22 c22, .slice a22 m22 d22, .bool s22x, .slice o22x n22x c22x, .slice a22x m22x d22x]), KSp (sAdd (smV (inK ((p_a, r_a)) mn0) (inK ((p_a, r_a)) mx0)) (smV (inK ((p_b, r_b)) mn1) (inK ((p_b, r_b)) mx1))), KEq (.agg #[.bool qa, .slice oa na ka, .slice pa ma ra, .bool qax, .slice oax nax kax, .slice pax max rax]), KEq (.agg #[.bool qb, .slice ob nb kb, .slice pb mb rb, .bool qbx, .slice obx nbx kbx, .slice pbx mbx rbx]), KSp (sAdd ((p_a, r_a)) ((p_b, r_b))), KEq (.bool true), KEq (.bool false), KEq (.bool false), KEq (.agg #[.bool s14, .slice o14 n14 c14, .slice a14 m14 d14, .bool s14x, .slice o14x n14x c14x, .slice a14x m14x d14x]), KEq (.agg #[.bool s22, .slice o22 n22 c22, .slice a22 m22 d22, .bool s22x, .slice o22x n22x c22x, .slice a22x m22x d22x]), KSp (sSub (smV (inK ((p_a, r_a)) mn0) (inK ((p_a, r_a)) mx0)) (smV (inK ((p_b, r_b)) mn1) (inK ((p_b, r_b)) mx1))), KEq (.agg #[.bool qa, .slice oa na ka, .slice pa ma ra, .bool qax, .slice oax nax kax, .slice pax max rax]), KEq (.agg #[.bool qb, .slice ob nb kb, .slice pb mb rb, .bool qbx, .slice obx nbx kbx, .slice pbx mbx rbx]), KSp (sSub ((p_a, r_a)) ((p_b, r_b))), KEq (.bool true), KEq (.bool false), KEq (.bool false), KEq (.bool false), KEq (.agg #[.bool s14, .slice o14 n14 c14, .slice a14 m14 d14, .bool s14x, .slice o14x n14x c14x, .slice a14x m14x d14x]), KEq (.agg #[.bool s22, .slice o22 n22 c22, .slice a22 m22 d22, .bool s22x, .slice o22x n22x c22x, .slice a22x m22x d22x]), KSp (sMul (smV (inK ((p_a, r_a)) mn0) (inK ((p_a, r_a)) mx0)) (smV (inK ((p_b, r_b)) mn1) (inK ((p_b, r_b)) mx1))), KEq (.agg #[.bool qa, .slice oa na ka, .slice pa ma ra, .bool qax, .slice oax nax kax, .slice pax max rax]), KEq (.agg #[.bool qb, .slice ob nb kb, .slice pb mb rb, .bool qbx, .slice obx nbx kbx, .slice pbx mbx rbx]), KSp (sMul ((p_a, r_a)) ((p_b, r_b))), KEq (.bool true), KEq (.bool false), KEq (.bool false), KEq (.bool false), KEq (.agg #[.bool s14, .slice o14 n14 c14, .slice a14 m14 d14, .bool s14x, .slice o14x n14x c14x, .slice a14x m14x d14x]), KSp (sClip (smV (inK ((p_a, r_a)) mn0) (inK ((p_a, r_a)) mx0))), KEq (.agg #[.bool qa, .slice oa na ka, .slice pa ma ra, .bool qax, .slice oax nax kax, .slice pax max rax]), KSp (sClip ((p_a, r_a))), KEq (.bool true), KEq (.bool false), KEq (.bool false), KEq (.bool false), KEq (.agg #[.bool s14, .slice o14 n14 c14, .slice a14 m14 d14, .bool s14x, .slice o14x n14x c14x, .slice a14x m14x d14x]), KEq (.agg #[.bool s22, .slice o22 n22 c22, .slice a22 m22 d22, .bool s22x, .slice o22x n22x c22x, .slice a22x m22x d22x]), KSp (sHull (smV (inK ((p_a, r_a)) mn0) (inK ((p_a, r_a)) mx0)) (smV (inK ((p_b, r_b)) mn1) (inK ((p_b, r_b)) mx1))), KEq (.agg #[.bool qa, .slice oa na ka, .slice pa ma ra, .bool qax, .slice oax nax kax, .slice pax max rax]), KEq (.agg #[.bool qb, .slice ob nb kb, .slice pb mb rb, .bool qbx, .slice obx nbx kbx, .slice pbx mbx rbx])]) (fun i => false) (by kernel_rfl) ?hq54 (monoL (monoC (kEq _) (monoC (kEq _) (monoC (kSp _) (monoC (kEq _) (monoC (kEq _) (monoC (kSp _) (monoC (kEq _) (monoC (kEq _) (monoC (kEq _) (monoC (kEq _) (monoC (kEq _) (monoC (kSp _) (monoC (kEq _) (monoC (kEq _) (monoC (kSp _) (monoC (kEq _) (monoC (kEq _) (monoC (kEq _) (monoC (kEq _) (monoC (kEq _) (monoC (kEq _) (monoC (kSp _) (monoC (kEq _) (monoC (kEq _) (monoC (kSp _) (monoC (kEq _) (monoC (kEq _) (monoC (kEq _) (monoC (kEq _) (monoC (kEq _) (monoC (kSp _) (monoC (kEq _) (monoC (kSp _) (monoC (kEq _) (monoC (kEq _) (monoC (kEq _) (monoC (kEq _) (monoC (kEq _) (monoC (kEq _) (monoC (kSp _) (monoC (kEq _) (monoC (kEq _) monoN))))))))))))))))))))))))))))))))))))))))))) ?ha54 ?st54 ?tl54
      case hq54 =>
        intro c a d v w h
        first | (simp only [Exit.then] at h ⊢; exact h) | (simp only [Exit.inBlock, Exit.then] at h ⊢; exact h) | exact h
      case ha54 =>
        intro vals
        simp only [putsTo, dstOf, if_true, Act.put, List.setIfInBounds_toArray, List.set_cons_zero, List.set_cons_succ, List.getElem?_toArray, List.getElem?_cons_zero, List.getElem?_cons_succ, Option.bind_some]
        exact rfl
      case st54 =>
        simp only [List.take_succ_cons, List.take_zero]
        refine stepsOK_cons rfl rfl ?_ (stepsOK_cons rfl rfl ?_ (stepsOK_cons rfl rfl ?_ (stepsOK_cons rfl rfl ?_ (stepsOK_cons rfl rfl ?_ (stepsOK_cons rfl rfl ?_ (stepsOK_cons rfl rfl ?_ (stepsOK_cons rfl rfl ?_ (stepsOK_cons rfl rfl ?_ (stepsOK_guard rfl ?_ (stepsOK_guard rfl ?_ (stepsOK_guard rfl ?_ (stepsOK_guard rfl ?_ (stepsOK_guard rfl ?_ (stepsOK_guard rfl ?_ (stepsOK_guard rfl ?_ (stepsOK_guard rfl ?_ (stepsOK_cons rfl rfl ?_ (stepsOK_cons rfl rfl ?_ (stepsOK_guard rfl ?_ (stepsOK_guard rfl ?_ (stepsOK_guard rfl ?_ (stepsOK_guard rfl ?_ (stepsOK_guard rfl ?_ (stepsOK_guard rfl ?_ (stepsOK_guard rfl ?_ (stepsOK_guard rfl ?_ (stepsOK_cons rfl rfl ?_ (stepsOK_cons rfl rfl ?_ (stepsOK_guard rfl ?_ (stepsOK_guard rfl ?_ (stepsOK_guard rfl ?_ (stepsOK_guard rfl ?_ (stepsOK_guard rfl ?_ (stepsOK_guard rfl ?_ (stepsOK_cons rfl rfl ?_ (stepsOK_cons rfl rfl ?_ (stepsOK_guard rfl ?_ (stepsOK_guard rfl ?_ (stepsOK_guard rfl ?_ (stepsOK_guard rfl ?_ (stepsOK_guard rfl ?_ (stepsOK_nil))))))))))))))))))))))))))))))))))))))))))
        · intro vals w1 hb hd
          obtain ⟨e0, e1, e2, e3, e4, e5⟩ := row6 (heap_below BX13_18.out hb)
          refine stepOK_value (v := .agg #[.bool s14, .slice o14 n14 c14, .slice a14 m14 d14, .bool s14x, .slice o14x n14x c14x, .slice a14x m14x d14x]) (w' := w1) (by go_simp) (leaves_mk (Below.refl _ _) rfl (fun h => by cases h))
        · intro vals w1 hb hd
          obtain ⟨e0, e1, e2, e3, e4, e5⟩ := row6 (heap_below BX21_18.out hb)
          refine stepOK_value (v := .agg #[.bool s22, .slice o22 n22 c22, .slice a22 m22 d22, .bool s22x, .slice o22x n22x c22x, .slice a22x m22x d22x]) (w' := w1) (by go_simp) (leaves_mk (Below.refl _ _) rfl (fun h => by cases h))
        · intro vals w1 hb hd
          have d0 : KEq (.agg #[.bool s14, .slice o14 n14 c14, .slice a14 m14 d14, .bool s14x, .slice o14x n14x c14x, .slice a14x m14x d14x]) (vals 0) w1 := hd 0 (by kernel_rfl)
          have d1 : KEq (.agg #[.bool s22, .slice o22 n22 c22, .slice a22 m22 d22, .bool s22x, .slice o22x n22x c22x, .slice a22x m22x d22x]) (vals 1) w1 := hd 1 (by kernel_rfl)
          have z0 : vals 0 = _ := d0
          have z1 : vals 1 = _ := d1
          have hs := sadd_any _ (smV (inK ((p_a, r_a)) mn0) (inK ((p_a, r_a)) mx0)) _ (smV (inK ((p_b, r_b)) mn1) (inK ((p_b, r_b)) mx1)) w1 ((N13_16.out.below hb).is (smV_ok _ _) (by omega) (by omega)) ((N21_16.out.below hb).is (smV_ok _ _) (by omega) (by omega)) (by omega) (by omega) (by omega) (by omega)
          have HS := Lib.hid hs; clear hs
          rw [z0]; clear z0
          rw [z1]; clear z1
          clear d0 d1 hd
          refine stepOK_call (by go_simp; first | done | exact ⟨⟨rfl, rfl⟩, rfl⟩) ?_
          (with_reducible refine HS.out.mono ?_); rintro e w2 ⟨v, rfl, hb2, hn⟩
          exact ⟨v, rfl, leaves_mk hb2 hn (fun h => by cases h)⟩
        · intro vals w1 hb hd
          obtain ⟨e0, e1, e2, e3, e4, e5⟩ := row6 (heap_below BX1.out hb)
          refine stepOK_value (v := .agg #[.bool qa, .slice oa na ka, .slice pa ma ra, .bool qax, .slice oax nax kax, .slice pax max rax]) (w' := w1) (by go_simp) (leaves_mk (Below.refl _ _) rfl (fun h => by cases h))
        · intro vals w1 hb hd
          obtain ⟨e0, e1, e2, e3, e4, e5⟩ := row6 (heap_below BX2.out hb)
          refine stepOK_value (v := .agg #[.bool qb, .slice ob nb kb, .slice pb mb rb, .bool qbx, .slice obx nbx kbx, .slice pbx mbx rbx]) (w' := w1) (by go_simp) (leaves_mk (Below.refl _ _) rfl (fun h => by cases h))
        · intro vals w1 hb hd
          have d3 : KEq (.agg #[.bool qa, .slice oa na ka, .slice pa ma ra, .bool qax, .slice oax nax kax, .slice pax max rax]) (vals 3) w1 := hd 3 (by kernel_rfl)
          have d4 : KEq (.agg #[.bool qb, .slice ob nb kb, .slice pb mb rb, .bool qbx, .slice obx nbx kbx, .slice pbx mbx rbx]) (vals 4) w1 := hd 4 (by kernel_rfl)
          have z3 : vals 3 = _ := d3
          have z4 : vals 4 = _ := d4
          have hs := sadd_any _ ((p_a, r_a)) _ ((p_b, r_b)) w1 ((Fa.out.below hb).is HOa.out (by omega) (by omega)) ((Fb.out.below hb).is HOb.out (by omega) (by omega)) (by omega) (by omega) (by omega) (by omega)
          have HS := Lib.hid hs; clear hs
          rw [z3]; clear z3
          rw [z4]; clear z4
          clear d3 d4 hd
          refine stepOK_call (by go_simp; first | done | exact ⟨⟨rfl, rfl⟩, rfl⟩) ?_
          (with_reducible refine HS.out.mono ?_); rintro e w2 ⟨v, rfl, hb2, hn⟩
          exact ⟨v, rfl, leaves_mk hb2 hn (fun h => by cases h)⟩
        · intro vals w1 hb hd
          have d2 : KSp (sAdd (smV (inK ((p_a, r_a)) mn0) (inK ((p_a, r_a)) mx0)) (smV (inK ((p_b, r_b)) mn1) (inK ((p_b, r_b)) mx1))) (vals 2) w1 := hd 2 (by kernel_rfl)
          have R2 : Hid (IsSp w1 (vals 2) (sAdd (smV (inK ((p_a, r_a)) mn0) (inK ((p_a, r_a)) mx0)) (smV (inK ((p_b, r_b)) mn1) (inK ((p_b, r_b)) mx1)))) := Lib.hid d2
          have d5 : KSp (sAdd ((p_a, r_a)) ((p_b, r_b))) (vals 5) w1 := hd 5 (by kernel_rfl)
          have R5 : Hid (IsSp w1 (vals 5) (sAdd ((p_a, r_a)) ((p_b, r_b)))) := Lib.hid d5
          have hs := inside_any _ (sAdd (smV (inK ((p_a, r_a)) mn0) (inK ((p_a, r_a)) mx0)) (smV (inK ((p_b, r_b)) mn1) (inK ((p_b, r_b)) mx1))) _ (sAdd ((p_a, r_a)) ((p_b, r_b))) w1 (R2.out.is (sAdd_ok (smV_ok _ _) (smV_ok _ _)) (by omega) (by omega)) (R5.out.is (sAdd_ok HOa.out HOb.out) (by omega) (by omega)) (by omega) (by omega) (by omega) (by omega)
          rw [HI3.out] at hs
          have HS := Lib.hid hs; clear hs
          clear d2 d5 hd
          refine stepOK_call (by go_simp; first | done | exact ⟨⟨rfl, rfl⟩, rfl⟩) ?_
          (with_reducible refine HS.out.mono ?_); rintro e w2 ⟨rfl, hb2⟩
          exact ⟨_, rfl, leaves_mk hb2 rfl (fun h => by cases h)⟩
        · intro vals w1 hb hd
          have d6 : KEq (.bool true) (vals 6) w1 := hd 6 (by kernel_rfl)
          rw [show vals 6 = _ from d6]
          refine stepOK_value (v := (.bool false)) (w' := w1) (by go_simp) (leaves_mk (Below.refl _ _) rfl (fun h => by cases h))
        · intro vals w1 hb hd
          have d7 : KEq (.bool false) (vals 7) w1 := hd 7 (by kernel_rfl)
          rw [show vals 7 = _ from d7]
          refine stepOK_value (v := (.bool false)) (w' := w1) (by go_simp) (leaves_mk (Below.refl _ _) rfl (fun h => by cases h))
        · intro vals w1 hb hd
          have dg : KEq (.bool false) (vals 8) w1 := hd 8 (by kernel_rfl)
          refine stepG_yes (wanted_of rfl rfl (congrArg some dg) rfl) ?_
          clear dg
          obtain ⟨e0, e1, e2, e3, e4, e5⟩ := row6 (heap_below BX13_18.out hb)
          refine stepOK_value (v := .agg #[.bool s14, .slice o14 n14 c14, .slice a14 m14 d14, .bool s14x, .slice o14x n14x c14x, .slice a14x m14x d14x]) (w' := w1) (by go_simp) (leaves_mk (Below.refl _ _) rfl (fun h => by cases h))
        · intro vals w1 hb hd
          have dg : KEq (.bool false) (vals 8) w1 := hd 8 (by kernel_rfl)
          refine stepG_yes (wanted_of rfl rfl (congrArg some dg) rfl) ?_
          clear dg
          obtain ⟨e0, e1, e2, e3, e4, e5⟩ := row6 (heap_below BX21_18.out hb)
          refine stepOK_value (v := .agg #[.bool s22, .slice o22 n22 c22, .slice a22 m22 d22, .bool s22x, .slice o22x n22x c22x, .slice a22x m22x d22x]) (w' := w1) (by go_simp) (leaves_mk (Below.refl _ _) rfl (fun h => by cases h))
        · intro vals w1 hb hd
          have dg : KEq (.bool false) (vals 8) w1 := hd 8 (by kernel_rfl)
          refine stepG_yes (wanted_of rfl rfl (congrArg some dg) rfl) ?_
          clear dg
          have d9 : KEq (.agg #[.bool s14, .slice o14 n14 c14, .slice a14 m14 d14, .bool s14x, .slice o14x n14x c14x, .slice a14x m14x d14x]) (vals 9) w1 := hd 9 (by kernel_rfl)
          have d10 : KEq (.agg #[.bool s22, .slice o22 n22 c22, .slice a22 m22 d22, .bool s22x, .slice o22x n22x c22x, .slice a22x m22x d22x]) (vals 10) w1 := hd 10 (by kernel_rfl)
          have z9 : vals 9 = _ := d9
          have z10 : vals 10 = _ := d10
          have hs := ssub_any _ (smV (inK ((p_a, r_a)) mn0) (inK ((p_a, r_a)) mx0)) _ (smV (inK ((p_b, r_b)) mn1) (inK ((p_b, r_b)) mx1)) w1 ((N13_16.out.below hb).is (smV_ok _ _) (by omega) (by omega)) ((N21_16.out.below hb).is (smV_ok _ _) (by omega) (by omega)) (by omega) (by omega) (by omega) (by omega)
          have HS := Lib.hid hs; clear hs
          rw [z9]; clear z9
          rw [z10]; clear z10
          clear d9 d10 hd
          refine stepOK_call (by go_simp; first | done | exact ⟨⟨rfl, rfl⟩, rfl⟩) ?_
          (with_reducible refine HS.out.mono ?_); rintro e w2 ⟨v, rfl, hb2, hn⟩
          exact ⟨v, rfl, leaves_mk hb2 hn (fun h => by cases h)⟩
        · intro vals w1 hb hd
          have dg : KEq (.bool false) (vals 8) w1 := hd 8 (by kernel_rfl)
          refine stepG_yes (wanted_of rfl rfl (congrArg some dg) rfl) ?_
          clear dg
          obtain ⟨e0, e1, e2, e3, e4, e5⟩ := row6 (heap_below BX1.out hb)
          refine stepOK_value (v := .agg #[.bool qa, .slice oa na ka, .slice pa ma ra, .bool qax, .slice oax nax kax, .slice pax max rax]) (w' := w1) (by go_simp) (leaves_mk (Below.refl _ _) rfl (fun h => by cases h))
        · intro vals w1 hb hd
          have dg : KEq (.bool false) (vals 8) w1 := hd 8 (by kernel_rfl)
          refine stepG_yes (wanted_of rfl rfl (congrArg some dg) rfl) ?_
          clear dg
          obtain ⟨e0, e1, e2, e3, e4, e5⟩ := row6 (heap_below BX2.out hb)
          refine stepOK_value (v := .agg #[.bool qb, .slice ob nb kb, .slice pb mb rb, .bool qbx, .slice obx nbx kbx, .slice pbx mbx rbx]) (w' := w1) (by go_simp) (leaves_mk (Below.refl _ _) rfl (fun h => by cases h))
        · intro vals w1 hb hd
          have dg : KEq (.bool false) (vals 8) w1 := hd 8 (by kernel_rfl)
          refine stepG_yes (wanted_of rfl rfl (congrArg some dg) rfl) ?_
          clear dg
          have d12 : KEq (.agg #[.bool qa, .slice oa na ka, .slice pa ma ra, .bool qax, .slice oax nax kax, .slice pax max rax]) (vals 12) w1 := hd 12 (by kernel_rfl)
          have d13 : KEq (.agg #[.bool qb, .slice ob nb kb, .slice pb mb rb, .bool qbx, .slice obx nbx kbx, .slice pbx mbx rbx]) (vals 13) w1 := hd 13 (by kernel_rfl)
          have z12 : vals 12 = _ := d12
          have z13 : vals 13 = _ := d13
          have hs := ssub_any _ ((p_a, r_a)) _ ((p_b, r_b)) w1 ((Fa.out.below hb).is HOa.out (by omega) (by omega)) ((Fb.out.below hb).is HOb.out (by omega) (by omega)) (by omega) (by omega) (by omega) (by omega)
          have HS := Lib.hid hs; clear hs
          rw [z12]; clear z12
          rw [z13]; clear z13
          clear d12 d13 hd
          refine stepOK_call (by go_simp; first | done | exact ⟨⟨rfl, rfl⟩, rfl⟩) ?_
          (with_reducible refine HS.out.mono ?_); rintro e w2 ⟨v, rfl, hb2, hn⟩
          exact ⟨v, rfl, leaves_mk hb2 hn (fun h => by cases h)⟩
        · intro vals w1 hb hd
          have dg : KEq (.bool false) (vals 8) w1 := hd 8 (by kernel_rfl)
          refine stepG_yes (wanted_of rfl rfl (congrArg some dg) rfl) ?_
          clear dg
          have d11 : KSp (sSub (smV (inK ((p_a, r_a)) mn0) (inK ((p_a, r_a)) mx0)) (smV (inK ((p_b, r_b)) mn1) (inK ((p_b, r_b)) mx1))) (vals 11) w1 := hd 11 (by kernel_rfl)
          have R11 : Hid (IsSp w1 (vals 11) (sSub (smV (inK ((p_a, r_a)) mn0) (inK ((p_a, r_a)) mx0)) (smV (inK ((p_b, r_b)) mn1) (inK ((p_b, r_b)) mx1)))) := Lib.hid d11
          have d14 : KSp (sSub ((p_a, r_a)) ((p_b, r_b))) (vals 14) w1 := hd 14 (by kernel_rfl)
          have R14 : Hid (IsSp w1 (vals 14) (sSub ((p_a, r_a)) ((p_b, r_b)))) := Lib.hid d14
          have hs := inside_any _ (sSub (smV (inK ((p_a, r_a)) mn0) (inK ((p_a, r_a)) mx0)) (smV (inK ((p_b, r_b)) mn1) (inK ((p_b, r_b)) mx1))) _ (sSub ((p_a, r_a)) ((p_b, r_b))) w1 (R11.out.is (sSub_ok (smV_ok _ _) (smV_ok _ _)) (by omega) (by omega)) (R14.out.is (sSub_ok HOa.out HOb.out) (by omega) (by omega)) (by omega) (by omega) (by omega) (by omega)
          rw [HI4.out] at hs
          have HS := Lib.hid hs; clear hs
          clear d11 d14 hd
          refine stepOK_call (by go_simp; first | done | exact ⟨⟨rfl, rfl⟩, rfl⟩) ?_
          (with_reducible refine HS.out.mono ?_); rintro e w2 ⟨rfl, hb2⟩
          exact ⟨_, rfl, leaves_mk hb2 rfl (fun h => by cases h)⟩
        · intro vals w1 hb hd
          have dg : KEq (.bool false) (vals 8) w1 := hd 8 (by kernel_rfl)
          refine stepG_yes (wanted_of rfl rfl (congrArg some dg) rfl) ?_
          clear dg
          have d15 : KEq (.bool true) (vals 15) w1 := hd 15 (by kernel_rfl)
          rw [show vals 15 = _ from d15]
          refine stepOK_value (v := (.bool false)) (w' := w1) (by go_simp) (leaves_mk (Below.refl _ _) rfl (fun h => by cases h))
        · intro vals w1 hb hd
          have d8 : KEq (.bool false) (vals 8) w1 := hd 8 (by kernel_rfl)
          have d16 : KEq (.bool false) (vals 16) w1 := hd 16 (by kernel_rfl)
          rw [show vals 8 = _ from d8]
          rw [show vals 16 = _ from d16]
          refine stepOK_value (v := (.bool false)) (w' := w1) (by go_simp) (leaves_mk (Below.refl _ _) rfl (fun h => by cases h))
        · intro vals w1 hb hd
          have d17 : KEq (.bool false) (vals 17) w1 := hd 17 (by kernel_rfl)
          rw [show vals 17 = _ from d17]
          refine stepOK_value (v := (.bool false)) (w' := w1) (by go_simp) (leaves_mk (Below.refl _ _) rfl (fun h => by cases h))
        · intro vals w1 hb hd
          have dg : KEq (.bool false) (vals 18) w1 := hd 18 (by kernel_rfl)
          refine stepG_yes (wanted_of rfl rfl (congrArg some dg) rfl) ?_
          clear dg
          obtain ⟨e0, e1, e2, e3, e4, e5⟩ := row6 (heap_below BX13_18.out hb)
          refine stepOK_value (v := .agg #[.bool s14, .slice o14 n14 c14, .slice a14 m14 d14, .bool s14x, .slice o14x n14x c14x, .slice a14x m14x d14x]) (w' := w1) (by go_simp) (leaves_mk (Below.refl _ _) rfl (fun h => by cases h))
        · intro vals w1 hb hd
          have dg : KEq (.bool false) (vals 18) w1 := hd 18 (by kernel_rfl)
          refine stepG_yes (wanted_of rfl rfl (congrArg some dg) rfl) ?_
          clear dg
          obtain ⟨e0, e1, e2, e3, e4, e5⟩ := row6 (heap_below BX21_18.out hb)
          refine stepOK_value (v := .agg #[.bool s22, .slice o22 n22 c22, .slice a22 m22 d22, .bool s22x, .slice o22x n22x c22x, .slice a22x m22x d22x]) (w' := w1) (by go_simp) (leaves_mk (Below.refl _ _) rfl (fun h => by cases h))
        · intro vals w1 hb hd
          have dg : KEq (.bool false) (vals 18) w1 := hd 18 (by kernel_rfl)
          refine stepG_yes (wanted_of rfl rfl (congrArg some dg) rfl) ?_
          clear dg
          have d19 : KEq (.agg #[.bool s14, .slice o14 n14 c14, .slice a14 m14 d14, .bool s14x, .slice o14x n14x c14x, .slice a14x m14x d14x]) (vals 19) w1 := hd 19 (by kernel_rfl)
          have d20 : KEq (.agg #[.bool s22, .slice o22 n22 c22, .slice a22 m22 d22, .bool s22x, .slice o22x n22x c22x, .slice a22x m22x d22x]) (vals 20) w1 := hd 20 (by kernel_rfl)
          have z19 : vals 19 = _ := d19
          have z20 : vals 20 = _ := d20
          have hs := smul_any _ (smV (inK ((p_a, r_a)) mn0) (inK ((p_a, r_a)) mx0)) _ (smV (inK ((p_b, r_b)) mn1) (inK ((p_b, r_b)) mx1)) w1 ((N13_16.out.below hb).is (smV_ok _ _) (by omega) (by omega)) ((N21_16.out.below hb).is (smV_ok _ _) (by omega) (by omega)) (by omega) (by omega) (by omega) (by omega)
          have HS := Lib.hid hs; clear hs
          rw [z19]; clear z19
          rw [z20]; clear z20
          clear d19 d20 hd
          refine stepOK_call (by go_simp; first | done | exact ⟨⟨rfl, rfl⟩, rfl⟩) ?_
          (with_reducible refine HS.out.mono ?_); rintro e w2 ⟨v, rfl, hb2, hn⟩
          exact ⟨v, rfl, leaves_mk hb2 hn (fun h => by cases h)⟩
        · intro vals w1 hb hd
          have dg : KEq (.bool false) (vals 18) w1 := hd 18 (by kernel_rfl)
          refine stepG_yes (wanted_of rfl rfl (congrArg some dg) rfl) ?_
          clear dg
          obtain ⟨e0, e1, e2, e3, e4, e5⟩ := row6 (heap_below BX1.out hb)
          refine stepOK_value (v := .agg #[.bool qa, .slice oa na ka, .slice pa ma ra, .bool qax, .slice oax nax kax, .slice pax max rax]) (w' := w1) (by go_simp) (leaves_mk (Below.refl _ _) rfl (fun h => by cases h))
        · intro vals w1 hb hd
          have dg : KEq (.bool false) (vals 18) w1 := hd 18 (by kernel_rfl)
          refine stepG_yes (wanted_of rfl rfl (congrArg some dg) rfl) ?_
          clear dg
          obtain ⟨e0, e1, e2, e3, e4, e5⟩ := row6 (heap_below BX2.out hb)
          refine stepOK_value (v := .agg #[.bool qb, .slice ob nb kb, .slice pb mb rb, .bool qbx, .slice obx nbx kbx, .slice pbx mbx rbx]) (w' := w1) (by go_simp) (leaves_mk (Below.refl _ _) rfl (fun h => by cases h))
        · intro vals w1 hb hd
          have dg : KEq (.bool false) (vals 18) w1 := hd 18 (by kernel_rfl)
          refine stepG_yes (wanted_of rfl rfl (congrArg some dg) rfl) ?_
          clear dg
          have d22 : KEq (.agg #[.bool qa, .slice oa na ka, .slice pa ma ra, .bool qax, .slice oax nax kax, .slice pax max rax]) (vals 22) w1 := hd 22 (by kernel_rfl)
          have d23 : KEq (.agg #[.bool qb, .slice ob nb kb, .slice pb mb rb, .bool qbx, .slice obx nbx kbx, .slice pbx mbx rbx]) (vals 23) w1 := hd 23 (by kernel_rfl)
          have z22 : vals 22 = _ := d22
          have z23 : vals 23 = _ := d23
          have hs := smul_any _ ((p_a, r_a)) _ ((p_b, r_b)) w1 ((Fa.out.below hb).is HOa.out (by omega) (by omega)) ((Fb.out.below hb).is HOb.out (by omega) (by omega)) (by omega) (by omega) (by omega) (by omega)
          have HS := Lib.hid hs; clear hs
          rw [z22]; clear z22
          rw [z23]; clear z23
          clear d22 d23 hd
          refine stepOK_call (by go_simp; first | done | exact ⟨⟨rfl, rfl⟩, rfl⟩) ?_
          (with_reducible refine HS.out.mono ?_); rintro e w2 ⟨v, rfl, hb2, hn⟩
          exact ⟨v, rfl, leaves_mk hb2 hn (fun h => by cases h)⟩
        · intro vals w1 hb hd
          have dg : KEq (.bool false) (vals 18) w1 := hd 18 (by kernel_rfl)
          refine stepG_yes (wanted_of rfl rfl (congrArg some dg) rfl) ?_
          clear dg
          have d21 : KSp (sMul (smV (inK ((p_a, r_a)) mn0) (inK ((p_a, r_a)) mx0)) (smV (inK ((p_b, r_b)) mn1) (inK ((p_b, r_b)) mx1))) (vals 21) w1 := hd 21 (by kernel_rfl)
          have R21 : Hid (IsSp w1 (vals 21) (sMul (smV (inK ((p_a, r_a)) mn0) (inK ((p_a, r_a)) mx0)) (smV (inK ((p_b, r_b)) mn1) (inK ((p_b, r_b)) mx1)))) := Lib.hid d21
          have d24 : KSp (sMul ((p_a, r_a)) ((p_b, r_b))) (vals 24) w1 := hd 24 (by kernel_rfl)
          have R24 : Hid (IsSp w1 (vals 24) (sMul ((p_a, r_a)) ((p_b, r_b)))) := Lib.hid d24
          have hs := inside_any _ (sMul (smV (inK ((p_a, r_a)) mn0) (inK ((p_a, r_a)) mx0)) (smV (inK ((p_b, r_b)) mn1) (inK ((p_b, r_b)) mx1))) _ (sMul ((p_a, r_a)) ((p_b, r_b))) w1 (R21.out.is (around4_ok _ _ _ _) (by omega) (by omega)) (R24.out.is (around4_ok _ _ _ _) (by omega) (by omega)) (by omega) (by omega) (by omega) (by omega)
          rw [HI5.out] at hs
          have HS := Lib.hid hs; clear hs
          clear d21 d24 hd
          refine stepOK_call (by go_simp; first | done | exact ⟨⟨rfl, rfl⟩, rfl⟩) ?_
          (with_reducible refine HS.out.mono ?_); rintro e w2 ⟨rfl, hb2⟩
          exact ⟨_, rfl, leaves_mk hb2 rfl (fun h => by cases h)⟩
        · intro vals w1 hb hd
          have dg : KEq (.bool false) (vals 18) w1 := hd 18 (by kernel_rfl)
          refine stepG_yes (wanted_of rfl rfl (congrArg some dg) rfl) ?_
          clear dg
          have d25 : KEq (.bool true) (vals 25) w1 := hd 25 (by kernel_rfl)
          rw [show vals 25 = _ from d25]
          refine stepOK_value (v := (.bool false)) (w' := w1) (by go_simp) (leaves_mk (Below.refl _ _) rfl (fun h => by cases h))
        · intro vals w1 hb hd
          have d18 : KEq (.bool false) (vals 18) w1 := hd 18 (by kernel_rfl)
          have d26 : KEq (.bool false) (vals 26) w1 := hd 26 (by kernel_rfl)
          rw [show vals 18 = _ from d18]
          rw [show vals 26 = _ from d26]
          refine stepOK_value (v := (.bool false)) (w' := w1) (by go_simp) (leaves_mk (Below.refl _ _) rfl (fun h => by cases h))
        · intro vals w1 hb hd
          have d27 : KEq (.bool false) (vals 27) w1 := hd 27 (by kernel_rfl)
          rw [show vals 27 = _ from d27]
          refine stepOK_value (v := (.bool false)) (w' := w1) (by go_simp) (leaves_mk (Below.refl _ _) rfl (fun h => by cases h))
        · intro vals w1 hb hd
          have dg : KEq (.bool false) (vals 28) w1 := hd 28 (by kernel_rfl)
          refine stepG_yes (wanted_of rfl rfl (congrArg some dg) rfl) ?_
          clear dg
          obtain ⟨e0, e1, e2, e3, e4, e5⟩ := row6 (heap_below BX13_18.out hb)
          refine stepOK_value (v := .agg #[.bool s14, .slice o14 n14 c14, .slice a14 m14 d14, .bool s14x, .slice o14x n14x c14x, .slice a14x m14x d14x]) (w' := w1) (by go_simp) (leaves_mk (Below.refl _ _) rfl (fun h => by cases h))
        · intro vals w1 hb hd
          have dg : KEq (.bool false) (vals 28) w1 := hd 28 (by kernel_rfl)
          refine stepG_yes (wanted_of rfl rfl (congrArg some dg) rfl) ?_
          clear dg
          have d29 : KEq (.agg #[.bool s14, .slice o14 n14 c14, .slice a14 m14 d14, .bool s14x, .slice o14x n14x c14x, .slice a14x m14x d14x]) (vals 29) w1 := hd 29 (by kernel_rfl)
          have z29 : vals 29 = _ := d29
          have hs := sclip_any _ (smV (inK ((p_a, r_a)) mn0) (inK ((p_a, r_a)) mx0)) w1 ((N13_16.out.below hb).is (smV_ok _ _) (by omega) (by omega)) (by omega) (by omega)
          have HS := Lib.hid hs; clear hs
          rw [z29]; clear z29
          clear d29 hd
          refine stepOK_call (by go_simp; first | done | exact ⟨⟨rfl, rfl⟩, rfl⟩) ?_
          (with_reducible refine HS.out.mono ?_); rintro e w2 ⟨v, rfl, hb2, hn⟩
          exact ⟨v, rfl, leaves_mk hb2 hn (fun h => by cases h)⟩
        · intro vals w1 hb hd
          have dg : KEq (.bool false) (vals 28) w1 := hd 28 (by kernel_rfl)
          refine stepG_yes (wanted_of rfl rfl (congrArg some dg) rfl) ?_
          clear dg
          obtain ⟨e0, e1, e2, e3, e4, e5⟩ := row6 (heap_below BX1.out hb)
          refine stepOK_value (v := .agg #[.bool qa, .slice oa na ka, .slice pa ma ra, .bool qax, .slice oax nax kax, .slice pax max rax]) (w' := w1) (by go_simp) (leaves_mk (Below.refl _ _) rfl (fun h => by cases h))
        · intro vals w1 hb hd
          have dg : KEq (.bool false) (vals 28) w1 := hd 28 (by kernel_rfl)
          refine stepG_yes (wanted_of rfl rfl (congrArg some dg) rfl) ?_
          clear dg
          have d31 : KEq (.agg #[.bool qa, .slice oa na ka, .slice pa ma ra, .bool qax, .slice oax nax kax, .slice pax max rax]) (vals 31) w1 := hd 31 (by kernel_rfl)
          have z31 : vals 31 = _ := d31
          have hs := sclip_any _ ((p_a, r_a)) w1 ((Fa.out.below hb).is HOa.out (by omega) (by omega)) (by omega) (by omega)
          have HS := Lib.hid hs; clear hs
          rw [z31]; clear z31
          clear d31 hd
          refine stepOK_call (by go_simp; first | done | exact ⟨⟨rfl, rfl⟩, rfl⟩) ?_
          (with_reducible refine HS.out.mono ?_); rintro e w2 ⟨v, rfl, hb2, hn⟩
          exact ⟨v, rfl, leaves_mk hb2 hn (fun h => by cases h)⟩
        · intro vals w1 hb hd
          have dg : KEq (.bool false) (vals 28) w1 := hd 28 (by kernel_rfl)
          refine stepG_yes (wanted_of rfl rfl (congrArg some dg) rfl) ?_
          clear dg
          have d30 : KSp (sClip (smV (inK ((p_a, r_a)) mn0) (inK ((p_a, r_a)) mx0))) (vals 30) w1 := hd 30 (by kernel_rfl)
          have R30 : Hid (IsSp w1 (vals 30) (sClip (smV (inK ((p_a, r_a)) mn0) (inK ((p_a, r_a)) mx0)))) := Lib.hid d30
          have d32 : KSp (sClip ((p_a, r_a))) (vals 32) w1 := hd 32 (by kernel_rfl)
          have R32 : Hid (IsSp w1 (vals 32) (sClip ((p_a, r_a)))) := Lib.hid d32
          have hs := inside_any _ (sClip (smV (inK ((p_a, r_a)) mn0) (inK ((p_a, r_a)) mx0))) _ (sClip ((p_a, r_a))) w1 (R30.out.is (sClip_ok (smV_ok _ _)) (by omega) (by omega)) (R32.out.is (sClip_ok HOa.out) (by omega) (by omega)) (by omega) (by omega) (by omega) (by omega)
          rw [HI6.out] at hs
          have HS := Lib.hid hs; clear hs
          clear d30 d32 hd
          refine stepOK_call (by go_simp; first | done | exact ⟨⟨rfl, rfl⟩, rfl⟩) ?_
          (with_reducible refine HS.out.mono ?_); rintro e w2 ⟨rfl, hb2⟩
          exact ⟨_, rfl, leaves_mk hb2 rfl (fun h => by cases h)⟩
        · intro vals w1 hb hd
          have dg : KEq (.bool false) (vals 28) w1 := hd 28 (by kernel_rfl)
          refine stepG_yes (wanted_of rfl rfl (congrArg some dg) rfl) ?_
          clear dg
          have d33 : KEq (.bool true) (vals 33) w1 := hd 33 (by kernel_rfl)
          rw [show vals 33 = _ from d33]
          refine stepOK_value (v := (.bool false)) (w' := w1) (by go_simp) (leaves_mk (Below.refl _ _) rfl (fun h => by cases h))
        · intro vals w1 hb hd
          have d28 : KEq (.bool false) (vals 28) w1 := hd 28 (by kernel_rfl)
          have d34 : KEq (.bool false) (vals 34) w1 := hd 34 (by kernel_rfl)
          rw [show vals 28 = _ from d28]
          rw [show vals 34 = _ from d34]
          refine stepOK_value (v := (.bool false)) (w' := w1) (by go_simp) (leaves_mk (Below.refl _ _) rfl (fun h => by cases h))
        · intro vals w1 hb hd
          have d35 : KEq (.bool false) (vals 35) w1 := hd 35 (by kernel_rfl)
          rw [show vals 35 = _ from d35]
          refine stepOK_value (v := (.bool false)) (w' := w1) (by go_simp) (leaves_mk (Below.refl _ _) rfl (fun h => by cases h))
        · intro vals w1 hb hd
          have dg : KEq (.bool false) (vals 36) w1 := hd 36 (by kernel_rfl)
          refine stepG_yes (wanted_of rfl rfl (congrArg some dg) rfl) ?_
          clear dg
          obtain ⟨e0, e1, e2, e3, e4, e5⟩ := row6 (heap_below BX13_18.out hb)
          refine stepOK_value (v := .agg #[.bool s14, .slice o14 n14 c14, .slice a14 m14 d14, .bool s14x, .slice o14x n14x c14x, .slice a14x m14x d14x]) (w' := w1) (by go_simp) (leaves_mk (Below.refl _ _) rfl (fun h => by cases h))
        · intro vals w1 hb hd
          have dg : KEq (.bool false) (vals 36) w1 := hd 36 (by kernel_rfl)
          refine stepG_yes (wanted_of rfl rfl (congrArg some dg) rfl) ?_
          clear dg
          obtain ⟨e0, e1, e2, e3, e4, e5⟩ := row6 (heap_below BX21_18.out hb)
          refine stepOK_value (v := .agg #[.bool s22, .slice o22 n22 c22, .slice a22 m22 d22, .bool s22x, .slice o22x n22x c22x, .slice a22x m22x d22x]) (w' := w1) (by go_simp) (leaves_mk (Below.refl _ _) rfl (fun h => by cases h))
        · intro vals w1 hb hd
          have dg : KEq (.bool false) (vals 36) w1 := hd 36 (by kernel_rfl)
          refine stepG_yes (wanted_of rfl rfl (congrArg some dg) rfl) ?_
          clear dg
          have d37 : KEq (.agg #[.bool s14, .slice o14 n14 c14, .slice a14 m14 d14, .bool s14x, .slice o14x n14x c14x, .slice a14x m14x d14x]) (vals 37) w1 := hd 37 (by kernel_rfl)
          have d38 : KEq (.agg #[.bool s22, .slice o22 n22 c22, .slice a22 m22 d22, .bool s22x, .slice o22x n22x c22x, .slice a22x m22x d22x]) (vals 38) w1 := hd 38 (by kernel_rfl)
          have z37 : vals 37 = _ := d37
          have z38 : vals 38 = _ := d38
          have hs := shull_any _ (smV (inK ((p_a, r_a)) mn0) (inK ((p_a, r_a)) mx0)) _ (smV (inK ((p_b, r_b)) mn1) (inK ((p_b, r_b)) mx1)) w1 ((N13_16.out.below hb).is (smV_ok _ _) (by omega) (by omega)) ((N21_16.out.below hb).is (smV_ok _ _) (by omega) (by omega)) (by omega) (by omega) (by omega) (by omega)
          have HS := Lib.hid hs; clear hs
          rw [z37]; clear z37
          rw [z38]; clear z38
          clear d37 d38 hd
          refine stepOK_call (by go_simp; first | done | exact ⟨⟨rfl, rfl⟩, rfl⟩) ?_
          (with_reducible refine HS.out.mono ?_); rintro e w2 ⟨v, rfl, hb2, hn⟩
          exact ⟨v, rfl, leaves_mk hb2 hn (fun h => by cases h)⟩
        · intro vals w1 hb hd
          have dg : KEq (.bool false) (vals 36) w1 := hd 36 (by kernel_rfl)
          refine stepG_yes (wanted_of rfl rfl (congrArg some dg) rfl) ?_
          clear dg
          obtain ⟨e0, e1, e2, e3, e4, e5⟩ := row6 (heap_below BX1.out hb)
          refine stepOK_value (v := .agg #[.bool qa, .slice oa na ka, .slice pa ma ra, .bool qax, .slice oax nax kax, .slice pax max rax]) (w' := w1) (by go_simp) (leaves_mk (Below.refl _ _) rfl (fun h => by cases h))
        · intro vals w1 hb hd
          have dg : KEq (.bool false) (vals 36) w1 := hd 36 (by kernel_rfl)
          refine stepG_yes (wanted_of rfl rfl (congrArg some dg) rfl) ?_
          clear dg
          obtain ⟨e0, e1, e2, e3, e4, e5⟩ := row6 (heap_below BX2.out hb)
          refine stepOK_value (v := .agg #[.bool qb, .slice ob nb kb, .slice pb mb rb, .bool qbx, .slice obx nbx kbx, .slice pbx mbx rbx]) (w' := w1) (by go_simp) (leaves_mk (Below.refl _ _) rfl (fun h => by cases h))
      case tl54 =>
        intro vals w15 hb15 hf hdis
        simp only [List.drop_succ_cons, List.drop_zero]
        have z36 : vals 36 = _ := hf 36 (by decide)
        try rw [z36]
        clear z36
        obtain ⟨u54_39, hu39⟩ : ∃ u, u = vals 39 := ⟨_, rfl⟩
        have hn54_39 : IsSp w15 (vals 39) (sHull (smV (inK ((p_a, r_a)) mn0) (inK ((p_a, r_a)) mx0)) (smV (inK ((p_b, r_b)) mn1) (inK ((p_b, r_b)) mx1))) := hf 39 (by decide)
        rw [← hu39] at hn54_39 ⊢; clear hu39
        have z40 : vals 40 = _ := hf 40 (by decide)
        try rw [z40]
        clear z40
        have z41 : vals 41 = _ := hf 41 (by decide)
        try rw [z41]
        clear z41
        clear hf hdis
        have HB15 := Lib.hid (HB14.out.step hb15)
        have Fa := Lib.hid (Fa.out.below hb15)
        have Fal := Lib.hid (Fal.out.below hb15)
        have Fah := Lib.hid (Fah.out.below hb15)
        have FaV := Lib.hid (FaV.out.below hb15)
        have Fb := Lib.hid (Fb.out.below hb15)
        have Fbl := Lib.hid (Fbl.out.below hb15)
        have Fbh := Lib.hid (Fbh.out.below hb15)
        have FbV := Lib.hid (FbV.out.below hb15)
        have N13_16 := Lib.hid (N13_16.out.below hb15)
        have N13_16l := Lib.hid (N13_16l.out.below hb15)
        have N13_16h := Lib.hid (N13_16h.out.below hb15)
        have N21_16 := Lib.hid (N21_16.out.below hb15)
        have N21_16l := Lib.hid (N21_16l.out.below hb15)
        have N21_16h := Lib.hid (N21_16h.out.below hb15)
        have BX1 := Lib.hid (heap_below BX1.out hb15)
        have BX2 := Lib.hid (heap_below BX2.out hb15)
        have BX3 := Lib.hid (heap_below BX3.out hb15)
        have BX13_18 := Lib.hid (heap_below BX13_18.out hb15)
        have BX21_18 := Lib.hid (heap_below BX21_18.out hb15)
        clear hb15
        have N54_39 := Lib.hid hn54_39; clear hn54_39
        obtain ⟨s55, o55, n55, c55, a55, m55, d55, s55x, o55x, n55x, c55x, a55x, m55x, d55x, rfl⟩ := N54_39.out.shape
        have N54_39l := Lib.hid (isSp_ends N54_39.out).1; have N54_39h := Lib.hid (isSp_ends N54_39.out).2
        skip
        obtain ⟨kp58, kp58x⟩ : rl (((p_a), (r_a)) : Rat × Rat).1 ≤ rl (p_a) ∧ rl (((p_a), (r_a)) : Rat × Rat).2 ≤ rl (r_a) := ⟨Nat.le_refl _, Nat.le_refl _⟩
        obtain ⟨kp59, kp59x⟩ : rl (((p_b), (r_b)) : Rat × Rat).1 ≤ rl (p_b) ∧ rl (((p_b), (r_b)) : Rat × Rat).2 ≤ rl (r_b) := ⟨Nat.le_refl _, Nat.le_refl _⟩
        obtain ⟨k56, k57⟩ := rl_sHullD ((p_a, r_a)) ((p_b, r_b))
        have hs := shull_any _ ((p_a, r_a)) _ ((p_b, r_b)) w15 (Fa.out.is HOa.out (by omega) (by omega)) (Fb.out.is HOb.out (by omega) (by omega)) (by omega) (by omega) (by omega) (by omega)
        have HS := Lib.hid hs; clear hs
        go_wp2_with (with_reducible first | refine pauseCall ?_ | refine pauseLoop ?_ | refine pauseDraw ?_ | refine pauseBody ?_ | refine pauseRounds ?_)
        refine Pause.mk ?_
        (with_reducible refine HS.out.mono ?_); rintro e w16 ⟨v16, rfl, hb16, hn16⟩
        clear HS
        have HB16 := Lib.hid (HB15.out.step hb16)
        have Fa := Lib.hid (Fa.out.below hb16)
        have Fal := Lib.hid (Fal.out.below hb16)
        have Fah := Lib.hid (Fah.out.below hb16)
        have FaV := Lib.hid (FaV.out.below hb16)
        have Fb := Lib.hid (Fb.out.below hb16)
        have Fbl := Lib.hid (Fbl.out.below hb16)
        have Fbh := Lib.hid (Fbh.out.below hb16)
        have FbV := Lib.hid (FbV.out.below hb16)
        have N13_16 := Lib.hid (N13_16.out.below hb16)
        have N13_16l := Lib.hid (N13_16l.out.below hb16)
        have N13_16h := Lib.hid (N13_16h.out.below hb16)
        have N21_16 := Lib.hid (N21_16.out.below hb16)
        have N21_16l := Lib.hid (N21_16l.out.below hb16)
        have N21_16h := Lib.hid (N21_16h.out.below hb16)
        have N54_39 := Lib.hid (N54_39.out.below hb16)
        have N54_39l := Lib.hid (N54_39l.out.below hb16)
        have N54_39h := Lib.hid (N54_39h.out.below hb16)
        have BX1 := Lib.hid (heap_below BX1.out hb16)
        have BX2 := Lib.hid (heap_below BX2.out hb16)
        have BX3 := Lib.hid (heap_below BX3.out hb16)
        have BX13_18 := Lib.hid (heap_below BX13_18.out hb16)
        have BX21_18 := Lib.hid (heap_below BX21_18.out hb16)
        have N16 := Lib.hid hn16; clear hn16
        obtain ⟨s60, o60, n60, c60, a60, m60, d60, s60x, o60x, n60x, c60x, a60x, m60x, d60x, rfl⟩ := N16.out.shape
        have N16l := Lib.hid (isSp_ends N16.out).1; have N16h := Lib.hid (isSp_ends N16.out).2
        clear hb16
        have hs := inside_any _ (sHull (smV (inK ((p_a, r_a)) mn0) (inK ((p_a, r_a)) mx0)) (smV (inK ((p_b, r_b)) mn1) (inK ((p_b, r_b)) mx1))) _ (sHull ((p_a, r_a)) ((p_b, r_b))) w16 (N54_39.out.is (around4_ok _ _ _ _) (by omega) (by omega)) (N16.out.is (around4_ok _ _ _ _) (by omega) (by omega)) (by omega) (by omega) (by omega) (by omega)
        rw [HI7.out] at hs
        have HS := Lib.hid hs; clear hs
        go_wp2_with (with_reducible first | refine pauseCall ?_ | refine pauseLoop ?_ | refine pauseDraw ?_ | refine pauseBody ?_ | refine pauseRounds ?_)
        refine Pause.mk ?_
        (with_reducible refine HS.out.mono ?_); rintro e w17 ⟨rfl, hb17⟩
        clear HS
        have HB17 := Lib.hid (HB16.out.step hb17)
        have Fa := Lib.hid (Fa.out.below hb17)
        have Fal := Lib.hid (Fal.out.below hb17)
        have Fah := Lib.hid (Fah.out.below hb17)
        have FaV := Lib.hid (FaV.out.below hb17)
        have Fb := Lib.hid (Fb.out.below hb17)
        have Fbl := Lib.hid (Fbl.out.below hb17)
        have Fbh := Lib.hid (Fbh.out.below hb17)
        have FbV := Lib.hid (FbV.out.below hb17)
        have N13_16 := Lib.hid (N13_16.out.below hb17)
        have N13_16l := Lib.hid (N13_16l.out.below hb17)
        have N13_16h := Lib.hid (N13_16h.out.below hb17)
        have N21_16 := Lib.hid (N21_16.out.below hb17)
        have N21_16l := Lib.hid (N21_16l.out.below hb17)
        have N21_16h := Lib.hid (N21_16h.out.below hb17)
        have N54_39 := Lib.hid (N54_39.out.below hb17)
        have N54_39l := Lib.hid (N54_39l.out.below hb17)
        have N54_39h := Lib.hid (N54_39h.out.below hb17)
        have N16 := Lib.hid (N16.out.below hb17)
        have N16l := Lib.hid (N16l.out.below hb17)
        have N16h := Lib.hid (N16h.out.below hb17)
        have BX1 := Lib.hid (heap_below BX1.out hb17)
        have BX2 := Lib.hid (heap_below BX2.out hb17)
        have BX3 := Lib.hid (heap_below BX3.out hb17)
        have BX13_18 := Lib.hid (heap_below BX13_18.out hb17)
        have BX21_18 := Lib.hid (heap_below BX21_18.out hb17)
        clear hb17
        obtain ⟨x61_0, x61_1, x61_2, x61_3, x61_4, x61_5⟩ := row6 BX1.out
        obtain ⟨x62_0, x62_1, x62_2, x62_3, x62_4, x62_5⟩ := row6 BX2.out
        obtain ⟨kp65, kp65x⟩ : rl (((p_a), (r_a)) : Rat × Rat).1 ≤ rl (p_a) ∧ rl (((p_a), (r_a)) : Rat × Rat).2 ≤ rl (r_a) := ⟨Nat.le_refl _, Nat.le_refl _⟩
        obtain ⟨kp66, kp66x⟩ : rl (((p_b), (r_b)) : Rat × Rat).1 ≤ rl (p_b) ∧ rl (((p_b), (r_b)) : Rat × Rat).2 ≤ rl (r_b) := ⟨Nat.le_refl _, Nat.le_refl _⟩
        obtain ⟨k63, k64⟩ := rl_sdVD ((p_a, r_a)) ((p_b, r_b))
        have hs := sdiv_any _ ((p_a, r_a)) _ ((p_b, r_b)) w17 (Fa.out.is HOa.out (by omega) (by omega)) (Fb.out.is HOb.out (by omega) (by omega)) (by omega) (by omega) (by omega) (by omega)
        rw [HS.out, errV_8] at hs
        have HS := Lib.hid hs; clear hs
        go_wp2_with (with_reducible first | refine pauseCall ?_ | refine pauseLoop ?_ | refine pauseDraw ?_ | refine pauseBody ?_ | refine pauseRounds ?_)
        clear x61_0 x61_1 x61_2 x61_3 x61_4 x61_5 x62_0 x62_1 x62_2 x62_3 x62_4 x62_5
        refine Pause.mk ?_
        (with_reducible refine HS.out.mono ?_); rintro e w18 ⟨v18, rfl, hb18, hn18⟩
        clear HS
        have HB18 := Lib.hid (HB17.out.step hb18)
        have Fa := Lib.hid (Fa.out.below hb18)
        have Fal := Lib.hid (Fal.out.below hb18)
        have Fah := Lib.hid (Fah.out.below hb18)
        have FaV := Lib.hid (FaV.out.below hb18)
        have Fb := Lib.hid (Fb.out.below hb18)
        have Fbl := Lib.hid (Fbl.out.below hb18)
        have Fbh := Lib.hid (Fbh.out.below hb18)
        have FbV := Lib.hid (FbV.out.below hb18)
        have N13_16 := Lib.hid (N13_16.out.below hb18)
        have N13_16l := Lib.hid (N13_16l.out.below hb18)
        have N13_16h := Lib.hid (N13_16h.out.below hb18)
        have N21_16 := Lib.hid (N21_16.out.below hb18)
        have N21_16l := Lib.hid (N21_16l.out.below hb18)
        have N21_16h := Lib.hid (N21_16h.out.below hb18)
        have N54_39 := Lib.hid (N54_39.out.below hb18)
        have N54_39l := Lib.hid (N54_39l.out.below hb18)
        have N54_39h := Lib.hid (N54_39h.out.below hb18)
        have N16 := Lib.hid (N16.out.below hb18)
        have N16l := Lib.hid (N16l.out.below hb18)
        have N16h := Lib.hid (N16h.out.below hb18)
        have BX1 := Lib.hid (heap_below BX1.out hb18)
        have BX2 := Lib.hid (heap_below BX2.out hb18)
        have BX3 := Lib.hid (heap_below BX3.out hb18)
        have BX13_18 := Lib.hid (heap_below BX13_18.out hb18)
        have BX21_18 := Lib.hid (heap_below BX21_18.out hb18)
        have N18 := Lib.hid hn18; clear hn18
        obtain ⟨s67, o67, n67, c67, a67, m67, d67, s67x, o67x, n67x, c67x, a67x, m67x, d67x, rfl⟩ := N18.out.shape
        have N18l := Lib.hid (isSp_ends N18.out).1; have N18h := Lib.hid (isSp_ends N18.out).2
        clear hb18
        obtain ⟨w19, hw19⟩ : ∃ w19, w19 = w18.alloc (.cells #[.bool s67, .slice o67 n67 c67, .slice a67 m67 d67, .bool s67x, .slice o67x n67x c67x, .slice a67x m67x d67x] 26) := ⟨_, rfl⟩
        have hb19 : Below w18.heap.size w18 w19 := by rw [hw19]; exact (Below.refl _ _).alloc (Nat.le_refl _) _
        have hx19 := heap_alloc_new w18 (.cells #[.bool s67, .slice o67 n67 c67, .slice a67 m67 d67, .bool s67x, .slice o67x n67x c67x, .slice a67x m67x d67x] 26)
        obtain ⟨g19, hg19⟩ : ∃ g, g = w18.heap.size := ⟨_, rfl⟩
        rw [← hw19, ← hg19] at hx19
        have lw19 : w.heap.size ≤ g19 := by rw [hg19]; exact HB18.out.size
        have ltBX119 : g1 < g19 := by rw [hg19]; exact below_lt BX1.out
        have ltBX219 : g2 < g19 := by rw [hg19]; exact below_lt BX2.out
        have ltBX319 : g3 < g19 := by rw [hg19]; exact below_lt BX3.out
        have ltBX13_1819 : g13_18 < g19 := by rw [hg19]; exact below_lt BX13_18.out
        have ltBX21_1819 : g21_18 < g19 := by rw [hg19]; exact below_lt BX21_18.out
        have HW19 := Lib.hid hw19; have HG19 := Lib.hid hg19; clear hw19 hg19
        have HB19 := Lib.hid (HB18.out.step hb19)
        have Fa := Lib.hid (Fa.out.below hb19)
        have Fal := Lib.hid (Fal.out.below hb19)
        have Fah := Lib.hid (Fah.out.below hb19)
        have FaV := Lib.hid (FaV.out.below hb19)
        have Fb := Lib.hid (Fb.out.below hb19)
        have Fbl := Lib.hid (Fbl.out.below hb19)
        have Fbh := Lib.hid (Fbh.out.below hb19)
        have FbV := Lib.hid (FbV.out.below hb19)
        have N13_16 := Lib.hid (N13_16.out.below hb19)
        have N13_16l := Lib.hid (N13_16l.out.below hb19)
        have N13_16h := Lib.hid (N13_16h.out.below hb19)
        have N21_16 := Lib.hid (N21_16.out.below hb19)
        have N21_16l := Lib.hid (N21_16l.out.below hb19)
        have N21_16h := Lib.hid (N21_16h.out.below hb19)
        have N54_39 := Lib.hid (N54_39.out.below hb19)
        have N54_39l := Lib.hid (N54_39l.out.below hb19)
        have N54_39h := Lib.hid (N54_39h.out.below hb19)
        have N16 := Lib.hid (N16.out.below hb19)
        have N16l := Lib.hid (N16l.out.below hb19)
        have N16h := Lib.hid (N16h.out.below hb19)
        have N18 := Lib.hid (N18.out.below hb19)
        have N18l := Lib.hid (N18l.out.below hb19)
        have N18h := Lib.hid (N18h.out.below hb19)
        have BX1 := Lib.hid (heap_below BX1.out hb19)
        have BX2 := Lib.hid (heap_below BX2.out hb19)
        have BX3 := Lib.hid (heap_below BX3.out hb19)
        have BX13_18 := Lib.hid (heap_below BX13_18.out hb19)
        have BX21_18 := Lib.hid (heap_below BX21_18.out hb19)
        have BX19 := Lib.hid hx19; clear hb19 hx19
        obtain ⟨x68_0, x68_1, x68_2, x68_3, x68_4, x68_5⟩ := row6 BX13_18.out
        obtain ⟨x69_0, x69_1, x69_2, x69_3, x69_4, x69_5⟩ := row6 BX21_18.out
        obtain ⟨k70, k71⟩ := rl_sdVD (smV (inK ((p_a, r_a)) mn0) (inK ((p_a, r_a)) mx0)) (smV (inK ((p_b, r_b)) mn1) (inK ((p_b, r_b)) mx1))
        have hs := sdiv_any _ (smV (inK ((p_a, r_a)) mn0) (inK ((p_a, r_a)) mx0)) _ (smV (inK ((p_b, r_b)) mn1) (inK ((p_b, r_b)) mx1)) w19 (N13_16.out.is (smV_ok _ _) (by omega) (by omega)) (N21_16.out.is (smV_ok _ _) (by omega) (by omega)) (by omega) (by omega) (by omega) (by omega)
        rw [HG.out] at hs
        have HS := Lib.hid hs; clear hs
        try rw [HW19.out] at x68_0
        try rw [HG19.out] at x68_0
        try rw [HW19.out] at x68_1
        try rw [HG19.out] at x68_1
        try rw [HW19.out] at x68_2
        try rw [HG19.out] at x68_2
        try rw [HW19.out] at x68_3
        try rw [HG19.out] at x68_3
        try rw [HW19.out] at x68_4
        try rw [HG19.out] at x68_4
        try rw [HW19.out] at x68_5
        try rw [HG19.out] at x68_5
        try rw [HW19.out] at x69_0
        try rw [HG19.out] at x69_0
        try rw [HW19.out] at x69_1
        try rw [HG19.out] at x69_1
        try rw [HW19.out] at x69_2
        try rw [HG19.out] at x69_2
        try rw [HW19.out] at x69_3
        try rw [HG19.out] at x69_3
        try rw [HW19.out] at x69_4
        try rw [HG19.out] at x69_4
        try rw [HW19.out] at x69_5
        try rw [HG19.out] at x69_5
        go_wp2_with (with_reducible first | refine pauseCall ?_ | refine pauseLoop ?_ | refine pauseDraw ?_ | refine pauseBody ?_ | refine pauseRounds ?_)
        try rw [← HW19.out]
        try rw [← HG19.out]
        clear x68_0 x68_1 x68_2 x68_3 x68_4 x68_5 x69_0 x69_1 x69_2 x69_3 x69_4 x69_5
        refine Pause.mk ?_
        (with_reducible refine HS.out.mono ?_); rintro e w20 ⟨v20, rfl, hb20, hn20⟩
        clear HS
        have HB20 := Lib.hid (HB19.out.step hb20)
        have Fa := Lib.hid (Fa.out.below hb20)
        have Fal := Lib.hid (Fal.out.below hb20)
        have Fah := Lib.hid (Fah.out.below hb20)
        have FaV := Lib.hid (FaV.out.below hb20)
        have Fb := Lib.hid (Fb.out.below hb20)
        have Fbl := Lib.hid (Fbl.out.below hb20)
        have Fbh := Lib.hid (Fbh.out.below hb20)
        have FbV := Lib.hid (FbV.out.below hb20)
        have N13_16 := Lib.hid (N13_16.out.below hb20)
        have N13_16l := Lib.hid (N13_16l.out.below hb20)
        have N13_16h := Lib.hid (N13_16h.out.below hb20)
        have N21_16 := Lib.hid (N21_16.out.below hb20)
        have N21_16l := Lib.hid (N21_16l.out.below hb20)
        have N21_16h := Lib.hid (N21_16h.out.below hb20)
        have N54_39 := Lib.hid (N54_39.out.below hb20)
        have N54_39l := Lib.hid (N54_39l.out.below hb20)
        have N54_39h := Lib.hid (N54_39h.out.below hb20)
        have N16 := Lib.hid (N16.out.below hb20)
        have N16l := Lib.hid (N16l.out.below hb20)
        have N16h := Lib.hid (N16h.out.below hb20)
        have N18 := Lib.hid (N18.out.below hb20)
        have N18l := Lib.hid (N18l.out.below hb20)
        have N18h := Lib.hid (N18h.out.below hb20)
        have BX1 := Lib.hid (heap_below BX1.out hb20)
        have BX2 := Lib.hid (heap_below BX2.out hb20)
        have BX3 := Lib.hid (heap_below BX3.out hb20)
        have BX13_18 := Lib.hid (heap_below BX13_18.out hb20)
        have BX21_18 := Lib.hid (heap_below BX21_18.out hb20)
        have BX19 := Lib.hid (heap_below BX19.out hb20)
        have N20 := Lib.hid hn20; clear hn20
        obtain ⟨s72, o72, n72, c72, a72, m72, d72, s72x, o72x, n72x, c72x, a72x, m72x, d72x, rfl⟩ := N20.out.shape
        have N20l := Lib.hid (isSp_ends N20.out).1; have N20h := Lib.hid (isSp_ends N20.out).2
        clear hb20
        obtain ⟨w21, hw21⟩ : ∃ w21, w21 = w20.alloc (.cells #[.bool s72, .slice o72 n72 c72, .slice a72 m72 d72, .bool s72x, .slice o72x n72x c72x, .slice a72x m72x d72x] 26) := ⟨_, rfl⟩
        have hb21 : Below w20.heap.size w20 w21 := by rw [hw21]; exact (Below.refl _ _).alloc (Nat.le_refl _) _
        have hx21 := heap_alloc_new w20 (.cells #[.bool s72, .slice o72 n72 c72, .slice a72 m72 d72, .bool s72x, .slice o72x n72x c72x, .slice a72x m72x d72x] 26)
        obtain ⟨g21, hg21⟩ : ∃ g, g = w20.heap.size := ⟨_, rfl⟩
        rw [← hw21, ← hg21] at hx21
        have lw21 : w.heap.size ≤ g21 := by rw [hg21]; exact HB20.out.size
        have ltBX121 : g1 < g21 := by rw [hg21]; exact below_lt BX1.out
        have ltBX221 : g2 < g21 := by rw [hg21]; exact below_lt BX2.out
        have ltBX321 : g3 < g21 := by rw [hg21]; exact below_lt BX3.out
        have ltBX13_1821 : g13_18 < g21 := by rw [hg21]; exact below_lt BX13_18.out
        have ltBX21_1821 : g21_18 < g21 := by rw [hg21]; exact below_lt BX21_18.out
        have ltBX1921 : g19 < g21 := by rw [hg21]; exact below_lt BX19.out
        have HW21 := Lib.hid hw21; have HG21 := Lib.hid hg21; clear hw21 hg21
        have HB21 := Lib.hid (HB20.out.step hb21)
        have Fa := Lib.hid (Fa.out.below hb21)
        have Fal := Lib.hid (Fal.out.below hb21)
        have Fah := Lib.hid (Fah.out.below hb21)
        have FaV := Lib.hid (FaV.out.below hb21)
        have Fb := Lib.hid (Fb.out.below hb21)
        have Fbl := Lib.hid (Fbl.out.below hb21)
        have Fbh := Lib.hid (Fbh.out.below hb21)
        have FbV := Lib.hid (FbV.out.below hb21)
        have N13_16 := Lib.hid (N13_16.out.below hb21)
        have N13_16l := Lib.hid (N13_16l.out.below hb21)
        have N13_16h := Lib.hid (N13_16h.out.below hb21)
        have N21_16 := Lib.hid (N21_16.out.below hb21)
        have N21_16l := Lib.hid (N21_16l.out.below hb21)
        have N21_16h := Lib.hid (N21_16h.out.below hb21)
        have N54_39 := Lib.hid (N54_39.out.below hb21)
        have N54_39l := Lib.hid (N54_39l.out.below hb21)
        have N54_39h := Lib.hid (N54_39h.out.below hb21)
        have N16 := Lib.hid (N16.out.below hb21)
        have N16l := Lib.hid (N16l.out.below hb21)
        have N16h := Lib.hid (N16h.out.below hb21)
        have N18 := Lib.hid (N18.out.below hb21)
        have N18l := Lib.hid (N18l.out.below hb21)
        have N18h := Lib.hid (N18h.out.below hb21)
        have N20 := Lib.hid (N20.out.below hb21)
        have N20l := Lib.hid (N20l.out.below hb21)
        have N20h := Lib.hid (N20h.out.below hb21)
        have BX1 := Lib.hid (heap_below BX1.out hb21)
        have BX2 := Lib.hid (heap_below BX2.out hb21)
        have BX3 := Lib.hid (heap_below BX3.out hb21)
        have BX13_18 := Lib.hid (heap_below BX13_18.out hb21)
        have BX21_18 := Lib.hid (heap_below BX21_18.out hb21)
        have BX19 := Lib.hid (heap_below BX19.out hb21)
        have BX21 := Lib.hid hx21; clear hb21 hx21
        go_wp2_with (with_reducible first | refine pauseCall ?_ | refine pauseLoop ?_ | refine pauseDraw ?_ | refine pauseBody ?_ | refine pauseRounds ?_)
        try rw [← HW21.out]
        try rw [← HG21.out]
        refine Pause.mk ?_
        go_ret
        exact ⟨by first | rfl | (simp; done), HB21.out⟩
set_option maxRecDepth 100000 in
set_option maxHeartbeats 25600000 in
theorem spaninside_ok2 (va : Value) (sa : Bool) (aa ba : List Nat) (ta : Bool) (ca da : List Nat) (vb : Value) (sb : Bool) (ab bb : List Nat) (tb : Bool) (cb db : List Nat) (k0 : Nat) (k1 : Nat) (k2 : Nat) (k3 : Nat) (w : World) (ha : SpV w va sa aa ba ta ca da) (la1 : aa.length ≤ 6) (la2 : ba.length ≤ 6) (la3 : ca.length ≤ 6) (la4 : da.length ≤ 6) (hva : Vld sa aa ba ∧ Vld ta ca da ∧ rq sa aa ba ≤ rq ta ca da) (hb : SpV w vb sb ab bb tb cb db) (lb1 : ab.length ≤ 6) (lb2 : bb.length ≤ 6) (lb3 : cb.length ≤ 6) (lb4 : db.length ≤ 6) (hvb : Vld sb ab bb ∧ Vld tb cb db ∧ rq sb ab bb ≤ rq tb cb db) (hk0 : k0 < 256) (hk1 : k1 < 256) (hk2 : k2 < 256) (hk3 : k3 < 256) (hz : ¬ inS (rq sb ab bb, rq tb cb db) 0) :
    Calls Tryd.prog 6 #[va, vb, .agg #[.int .u8 (k0 : Nat), .int .u8 (k1 : Nat), .int .u8 (k2 : Nat), .int .u8 (k3 : Nat)]] w (RetV w (.bool true)) := by
  have HBW := Lib.hid (Below.refl w.heap.size w)
  have kz0 : rl 0 ≤ 1 := by rw [rl_zero]; exact Nat.le_refl _
  have za := ha.sz.2
  obtain ⟨qa, oa, na, ka, pa, ma, ra, qax, oax, nax, kax, pax, max, rax, rfl⟩ := ha.shape
  have Za : na ≤ 6 ∧ ma ≤ 6 ∧ nax ≤ 6 ∧ max ≤ 6 := by have e1 : na = _ := congrArg (·.1) za; have e2 : ma = _ := congrArg (·.2.1) za; have e3 : nax = _ := congrArg (·.2.2.1) za; have e4 : max = _ := congrArg (·.2.2.2) za; rw [e1, e2, e3, e4]; exact ⟨la1, la2, la3, la4⟩
  clear za
  have hla1 : rl (rq sa aa ba) ≤ 6 := rl_rq ha.lt.1.1 ha.lt.1.2 la1 la2 (by decide); have hla2 : rl (rq ta ca da) ≤ 6 := rl_rq ha.lt.2.1 ha.lt.2.2 la3 la4 (by decide)
  have FaI := spV_isSp ha hva.1 hva.2.1
  have hoa := hva.2.2
  have HVa := Lib.hid (decide_eq_true hva); clear hva
  have FaV := Lib.hid ha; clear ha
  obtain ⟨p_a, hpa⟩ : ∃ p, p = rq sa aa ba := ⟨_, rfl⟩; obtain ⟨r_a, hra⟩ : ∃ r, r = rq ta ca da := ⟨_, rfl⟩
  rw [← hpa, ← hra] at FaI; rw [← hpa] at hla1 hoa; rw [← hra] at hla2 hoa
  try rw [← hpa] at hz
  try rw [← hra] at hz
  clear hpa hra
  have HOa := Lib.hid hoa; clear hoa
  have Fal := Lib.hid (show IsR _ _ p_a from (isSp_ends FaI).1); have Fah := Lib.hid (show IsR _ _ r_a from (isSp_ends FaI).2); have Fa := Lib.hid FaI; clear FaI
  have zb := hb.sz.2
  obtain ⟨qb, ob, nb, kb, pb, mb, rb, qbx, obx, nbx, kbx, pbx, mbx, rbx, rfl⟩ := hb.shape
  have Zb : nb ≤ 6 ∧ mb ≤ 6 ∧ nbx ≤ 6 ∧ mbx ≤ 6 := by have e1 : nb = _ := congrArg (·.1) zb; have e2 : mb = _ := congrArg (·.2.1) zb; have e3 : nbx = _ := congrArg (·.2.2.1) zb; have e4 : mbx = _ := congrArg (·.2.2.2) zb; rw [e1, e2, e3, e4]; exact ⟨lb1, lb2, lb3, lb4⟩
  clear zb
  have hlb1 : rl (rq sb ab bb) ≤ 6 := rl_rq hb.lt.1.1 hb.lt.1.2 lb1 lb2 (by decide); have hlb2 : rl (rq tb cb db) ≤ 6 := rl_rq hb.lt.2.1 hb.lt.2.2 lb3 lb4 (by decide)
  have FbI := spV_isSp hb hvb.1 hvb.2.1
  have hob := hvb.2.2
  have HVb := Lib.hid (decide_eq_true hvb); clear hvb
  have FbV := Lib.hid hb; clear hb
  obtain ⟨p_b, hpb⟩ : ∃ p, p = rq sb ab bb := ⟨_, rfl⟩; obtain ⟨r_b, hrb⟩ : ∃ r, r = rq tb cb db := ⟨_, rfl⟩
  rw [← hpb, ← hrb] at FbI; rw [← hpb] at hlb1 hob; rw [← hrb] at hlb2 hob
  try rw [← hpb] at hz
  try rw [← hrb] at hz
  clear hpb hrb
  have HOb := Lib.hid hob; clear hob
  have Fbl := Lib.hid (show IsR _ _ p_b from (isSp_ends FbI).1); have Fbh := Lib.hid (show IsR _ _ r_b from (isSp_ends FbI).2); have Fb := Lib.hid FbI; clear FbI
  obtain ⟨mn0, hmn0⟩ : ∃ m, m = min k0 k1 := ⟨_, rfl⟩; obtain ⟨mx0, hmx0⟩ : ∃ m, m = Max.max k0 k1 := ⟨_, rfl⟩
  have gmn0 : min (k0 : Int) (k1 : Int) = (mn0 : Int) := by omega
  have gmx0 : Max.max (k0 : Int) (k1 : Int) = (mx0 : Int) := by omega
  have bm0 : mn0 ≤ mx0 := by omega
  have bl0 : mn0 < 256 := by omega
  have bx0 : mx0 < 256 := by omega
  clear hmn0 hmx0
  obtain ⟨mn1, hmn1⟩ : ∃ m, m = min k2 k3 := ⟨_, rfl⟩; obtain ⟨mx1, hmx1⟩ : ∃ m, m = Max.max k2 k3 := ⟨_, rfl⟩
  have gmn1 : min (k2 : Int) (k3 : Int) = (mn1 : Int) := by omega
  have gmx1 : Max.max (k2 : Int) (k3 : Int) = (mx1 : Int) := by omega
  have bm1 : mn1 ≤ mx1 := by omega
  have bl1 : mn1 < 256 := by omega
  have bx1 : mx1 < 256 := by omega
  clear hmn1 hmx1
  have m0 : inK ((p_a, r_a)) mn0 ≤ inK ((p_a, r_a)) mx0 := inK_mono HOa.out bm0
  have m1 : inK ((p_b, r_b)) mn1 ≤ inK ((p_b, r_b)) mx1 := inK_mono HOb.out bm1
  have HM0 := Lib.hid (show smC (inK ((p_a, r_a)) mn0) (inK ((p_a, r_a)) mx0) = 0 from if_pos m0); have HM1 := Lib.hid (show smC (inK ((p_b, r_b)) mn1) (inK ((p_b, r_b)) mx1) = 0 from if_pos m1)
  have eC : smV (inK ((p_a, r_a)) mn0) (inK ((p_a, r_a)) mx0) = (inK ((p_a, r_a)) mn0, inK ((p_a, r_a)) mx0) := if_pos m0
  have eD : smV (inK ((p_b, r_b)) mn1) (inK ((p_b, r_b)) mx1) = (inK ((p_b, r_b)) mn1, inK ((p_b, r_b)) mx1) := if_pos m1
  have sC : subS (smV (inK ((p_a, r_a)) mn0) (inK ((p_a, r_a)) mx0)) ((p_a, r_a)) := by rw [eC]; exact ⟨inK_in HOa.out (by omega), inK_in HOa.out (by omega)⟩
  have sD : subS (smV (inK ((p_b, r_b)) mn1) (inK ((p_b, r_b)) mx1)) ((p_b, r_b)) := by rw [eD]; exact ⟨inK_in HOb.out (by omega), inK_in HOb.out (by omega)⟩
  have HI1 := Lib.hid (decide_eq_true (show subS (smV (inK ((p_a, r_a)) mn0) (inK ((p_a, r_a)) mx0)) ((p_a, r_a)) from sC))
  have HI2 := Lib.hid (decide_eq_true (show subS (smV (inK ((p_b, r_b)) mn1) (inK ((p_b, r_b)) mx1)) ((p_b, r_b)) from sD))
  have HI3 := Lib.hid (decide_eq_true (show subS (sAdd (smV (inK ((p_a, r_a)) mn0) (inK ((p_a, r_a)) mx0)) (smV (inK ((p_b, r_b)) mn1) (inK ((p_b, r_b)) mx1))) (sAdd ((p_a, r_a)) ((p_b, r_b))) from sub_add sC sD))
  have HI4 := Lib.hid (decide_eq_true (show subS (sSub (smV (inK ((p_a, r_a)) mn0) (inK ((p_a, r_a)) mx0)) (smV (inK ((p_b, r_b)) mn1) (inK ((p_b, r_b)) mx1))) (sSub ((p_a, r_a)) ((p_b, r_b))) from sub_sub sC sD))
  have HI5 := Lib.hid (decide_eq_true (show subS (sMul (smV (inK ((p_a, r_a)) mn0) (inK ((p_a, r_a)) mx0)) (smV (inK ((p_b, r_b)) mn1) (inK ((p_b, r_b)) mx1))) (sMul ((p_a, r_a)) ((p_b, r_b))) from sub_mul sC sD))
  have HI6 := Lib.hid (decide_eq_true (show subS (sClip (smV (inK ((p_a, r_a)) mn0) (inK ((p_a, r_a)) mx0))) (sClip ((p_a, r_a))) from sub_clip sC))
  have HI7 := Lib.hid (decide_eq_true (show subS (sHull (smV (inK ((p_a, r_a)) mn0) (inK ((p_a, r_a)) mx0)) (smV (inK ((p_b, r_b)) mn1) (inK ((p_b, r_b)) mx1))) (sHull ((p_a, r_a)) ((p_b, r_b))) from sub_hull sC sD))
  have HS := Lib.hid (show sdC ((p_b, r_b)) = 0 from if_neg hz)
  obtain ⟨hd0, hsd⟩ := sub_div sC sD (smV_ok _ _) hz
  have HG := Lib.hid (show sdC (smV (inK ((p_b, r_b)) mn1) (inK ((p_b, r_b)) mx1)) = 0 from if_neg hd0)
  have HI8 := Lib.hid (decide_eq_true (show subS (sdV (smV (inK ((p_a, r_a)) mn0) (inK ((p_a, r_a)) mx0)) (smV (inK ((p_b, r_b)) mn1) (inK ((p_b, r_b)) mx1))) (sdV ((p_a, r_a)) ((p_b, r_b))) from by rw [show sdV ((p_a, r_a)) ((p_b, r_b)) = sDiv ((p_a, r_a)) ((p_b, r_b)) from if_neg hz, show sdV (smV (inK ((p_a, r_a)) mn0) (inK ((p_a, r_a)) mx0)) (smV (inK ((p_b, r_b)) mn1) (inK ((p_b, r_b)) mx1)) = sDiv (smV (inK ((p_a, r_a)) mn0) (inK ((p_a, r_a)) mx0)) (smV (inK ((p_b, r_b)) mn1) (inK ((p_b, r_b)) mx1)) from if_neg hd0]; exact hsd))
  clear hd0 hsd
  clear m0 m1 eC eD sC sD hz
  obtain ⟨w1, hw1⟩ : ∃ w1, w1 = w.alloc (.cells #[.bool qa, .slice oa na ka, .slice pa ma ra, .bool qax, .slice oax nax kax, .slice pax max rax] 26) := ⟨_, rfl⟩
  have hb1 : Below w.heap.size w w1 := by rw [hw1]; exact (Below.refl _ _).alloc (Nat.le_refl _) _
  have hx1 := heap_alloc_new w (.cells #[.bool qa, .slice oa na ka, .slice pa ma ra, .bool qax, .slice oax nax kax, .slice pax max rax] 26)
  obtain ⟨g1, hg1⟩ : ∃ g, g = w.heap.size := ⟨_, rfl⟩
  rw [← hw1, ← hg1] at hx1
  have lw1 : w.heap.size ≤ g1 := by rw [hg1]; exact HBW.out.size
  have HW1 := Lib.hid hw1; have HG1 := Lib.hid hg1; clear hw1 hg1
  have HB1 := Lib.hid (HBW.out.step hb1)
  have Fa := Lib.hid (Fa.out.below hb1)
  have Fal := Lib.hid (Fal.out.below hb1)
  have Fah := Lib.hid (Fah.out.below hb1)
  have FaV := Lib.hid (FaV.out.below hb1)
  have Fb := Lib.hid (Fb.out.below hb1)
  have Fbl := Lib.hid (Fbl.out.below hb1)
  have Fbh := Lib.hid (Fbh.out.below hb1)
  have FbV := Lib.hid (FbV.out.below hb1)
  have BX1 := Lib.hid hx1; clear hb1 hx1
  obtain ⟨w2, hw2⟩ : ∃ w2, w2 = w1.alloc (.cells #[.bool qb, .slice ob nb kb, .slice pb mb rb, .bool qbx, .slice obx nbx kbx, .slice pbx mbx rbx] 26) := ⟨_, rfl⟩
  have hb2 : Below w1.heap.size w1 w2 := by rw [hw2]; exact (Below.refl _ _).alloc (Nat.le_refl _) _
  have hx2 := heap_alloc_new w1 (.cells #[.bool qb, .slice ob nb kb, .slice pb mb rb, .bool qbx, .slice obx nbx kbx, .slice pbx mbx rbx] 26)
  obtain ⟨g2, hg2⟩ : ∃ g, g = w1.heap.size := ⟨_, rfl⟩
  rw [← hw2, ← hg2] at hx2
  have lw2 : w.heap.size ≤ g2 := by rw [hg2]; exact HB1.out.size
  have ltBX12 : g1 < g2 := by rw [hg2]; exact below_lt BX1.out
  have hs2 : g2 = w.heap.size + 1 := by rw [hg2, HW1.out]; simp
  have HS2 := Lib.hid hs2; clear hs2
  have HW2 := Lib.hid hw2; have HG2 := Lib.hid hg2; clear hw2 hg2
  have HB2 := Lib.hid (HB1.out.step hb2)
  have Fa := Lib.hid (Fa.out.below hb2)
  have Fal := Lib.hid (Fal.out.below hb2)
  have Fah := Lib.hid (Fah.out.below hb2)
  have FaV := Lib.hid (FaV.out.below hb2)
  have Fb := Lib.hid (Fb.out.below hb2)
  have Fbl := Lib.hid (Fbl.out.below hb2)
  have Fbh := Lib.hid (Fbh.out.below hb2)
  have FbV := Lib.hid (FbV.out.below hb2)
  have BX1 := Lib.hid (heap_below BX1.out hb2)
  have BX2 := Lib.hid hx2; clear hb2 hx2
  obtain ⟨w3, hw3⟩ : ∃ w3, w3 = w2.alloc (.cells #[.int .u8 (k0 : Nat), .int .u8 (k1 : Nat), .int .u8 (k2 : Nat), .int .u8 (k3 : Nat)] 50) := ⟨_, rfl⟩
  have hb3 : Below w2.heap.size w2 w3 := by rw [hw3]; exact (Below.refl _ _).alloc (Nat.le_refl _) _
  have hx3 := heap_alloc_new w2 (.cells #[.int .u8 (k0 : Nat), .int .u8 (k1 : Nat), .int .u8 (k2 : Nat), .int .u8 (k3 : Nat)] 50)
  obtain ⟨g3, hg3⟩ : ∃ g, g = w2.heap.size := ⟨_, rfl⟩
  rw [← hw3, ← hg3] at hx3
  have lw3 : w.heap.size ≤ g3 := by rw [hg3]; exact HB2.out.size
  have ltBX13 : g1 < g3 := by rw [hg3]; exact below_lt BX1.out
  have ltBX23 : g2 < g3 := by rw [hg3]; exact below_lt BX2.out
  have hs3 : g3 = w.heap.size + 2 := by rw [hg3, HW2.out, HW1.out]; simp
  have HS3 := Lib.hid hs3; clear hs3
  have HW3 := Lib.hid hw3; have HG3 := Lib.hid hg3; clear hw3 hg3
  have HB3 := Lib.hid (HB2.out.step hb3)
  have Fa := Lib.hid (Fa.out.below hb3)
  have Fal := Lib.hid (Fal.out.below hb3)
  have Fah := Lib.hid (Fah.out.below hb3)
  have FaV := Lib.hid (FaV.out.below hb3)
  have Fb := Lib.hid (Fb.out.below hb3)
  have Fbl := Lib.hid (Fbl.out.below hb3)
  have Fbh := Lib.hid (Fbh.out.below hb3)
  have FbV := Lib.hid (FbV.out.below hb3)
  have BX1 := Lib.hid (heap_below BX1.out hb3)
  have BX2 := Lib.hid (heap_below BX2.out hb3)
  have BX3 := Lib.hid hx3; clear hb3 hx3
  go_enter Tryd.func6, Tryd.ntmps6
  have hs := awake03 w3
  have HS := Lib.hid hs; clear hs
  go_wp2_with (with_reducible first | refine pauseCall ?_ | refine pauseLoop ?_ | refine pauseDraw ?_ | refine pauseBody ?_ | refine pauseRounds ?_)
  try rw [← HW1.out]
  try rw [← HW2.out]
  try rw [← HW3.out]
  try rw [← HS3.out]
  try rw [← HS2.out]
  try rw [← HG1.out]
  try rw [← HG2.out]
  try rw [← HG3.out]
  refine Pause.mk ?_
  (with_reducible refine HS.out.mono ?_); rintro e w4 ⟨rfl, hb4⟩
  clear HS
  have HB4 := Lib.hid (HB3.out.step hb4)
  have Fa := Lib.hid (Fa.out.below hb4)
  have Fal := Lib.hid (Fal.out.below hb4)
  have Fah := Lib.hid (Fah.out.below hb4)
  have FaV := Lib.hid (FaV.out.below hb4)
  have Fb := Lib.hid (Fb.out.below hb4)
  have Fbl := Lib.hid (Fbl.out.below hb4)
  have Fbh := Lib.hid (Fbh.out.below hb4)
  have FbV := Lib.hid (FbV.out.below hb4)
  have BX1 := Lib.hid (heap_below BX1.out hb4)
  have BX2 := Lib.hid (heap_below BX2.out hb4)
  have BX3 := Lib.hid (heap_below BX3.out hb4)
  clear hb4
  obtain ⟨x1_0, x1_1, x1_2, x1_3, x1_4, x1_5⟩ := row6 BX1.out
  obtain ⟨x2_0, x2_1, x2_2, x2_3, x2_4, x2_5⟩ := row6 BX2.out
  obtain ⟨w5, hw5⟩ : ∃ w5, w5 = w4.alloc (.cells #[.bool qa, .slice oa na ka, .slice pa ma ra, .bool qax, .slice oax nax kax, .slice pax max rax, .bool qb, .slice ob nb kb, .slice pb mb rb, .bool qbx, .slice obx nbx kbx, .slice pbx mbx rbx] 26) := ⟨_, rfl⟩
  have hb5 : Below w4.heap.size w4 w5 := by rw [hw5]; exact (Below.refl _ _).alloc (Nat.le_refl _) _
  have hx5 := heap_alloc_new w4 (.cells #[.bool qa, .slice oa na ka, .slice pa ma ra, .bool qax, .slice oax nax kax, .slice pax max rax, .bool qb, .slice ob nb kb, .slice pb mb rb, .bool qbx, .slice obx nbx kbx, .slice pbx mbx rbx] 26)
  obtain ⟨g5, hg5⟩ : ∃ g, g = w4.heap.size := ⟨_, rfl⟩
  rw [← hw5, ← hg5] at hx5
  have lw5 : w.heap.size ≤ g5 := by rw [hg5]; exact HB4.out.size
  have ltBX15 : g1 < g5 := by rw [hg5]; exact below_lt BX1.out
  have ltBX25 : g2 < g5 := by rw [hg5]; exact below_lt BX2.out
  have ltBX35 : g3 < g5 := by rw [hg5]; exact below_lt BX3.out
  have HW5 := Lib.hid hw5; have HG5 := Lib.hid hg5; clear hw5 hg5
  have HB5 := Lib.hid (HB4.out.step hb5)
  have Fa := Lib.hid (Fa.out.below hb5)
  have Fal := Lib.hid (Fal.out.below hb5)
  have Fah := Lib.hid (Fah.out.below hb5)
  have FaV := Lib.hid (FaV.out.below hb5)
  have Fb := Lib.hid (Fb.out.below hb5)
  have Fbl := Lib.hid (Fbl.out.below hb5)
  have Fbh := Lib.hid (Fbh.out.below hb5)
  have FbV := Lib.hid (FbV.out.below hb5)
  have BX1 := Lib.hid (heap_below BX1.out hb5)
  have BX2 := Lib.hid (heap_below BX2.out hb5)
  have BX3 := Lib.hid (heap_below BX3.out hb5)
  have BX5 := Lib.hid hx5; clear hb5 hx5
  have hs := slarge2s BX5.out Za Zb
  have HS := Lib.hid hs; clear hs
  try rw [HG5.out] at x1_0
  try rw [HG5.out] at x1_1
  try rw [HG5.out] at x1_2
  try rw [HG5.out] at x1_3
  try rw [HG5.out] at x1_4
  try rw [HG5.out] at x1_5
  try rw [HG5.out] at x2_0
  try rw [HG5.out] at x2_1
  try rw [HG5.out] at x2_2
  try rw [HG5.out] at x2_3
  try rw [HG5.out] at x2_4
  try rw [HG5.out] at x2_5
  go_wp2_with (with_reducible first | refine pauseCall ?_ | refine pauseLoop ?_ | refine pauseDraw ?_ | refine pauseBody ?_ | refine pauseRounds ?_)
  try rw [← HW5.out]
  try rw [← HG5.out]
  clear x1_0 x1_1 x1_2 x1_3 x1_4 x1_5 x2_0 x2_1 x2_2 x2_3 x2_4 x2_5
  refine Pause.mk ?_
  (with_reducible refine HS.out.mono ?_); rintro e w6 ⟨rfl, hb6⟩
  clear HS
  have HB6 := Lib.hid (HB5.out.step hb6)
  have Fa := Lib.hid (Fa.out.below hb6)
  have Fal := Lib.hid (Fal.out.below hb6)
  have Fah := Lib.hid (Fah.out.below hb6)
  have FaV := Lib.hid (FaV.out.below hb6)
  have Fb := Lib.hid (Fb.out.below hb6)
  have Fbl := Lib.hid (Fbl.out.below hb6)
  have Fbh := Lib.hid (Fbh.out.below hb6)
  have FbV := Lib.hid (FbV.out.below hb6)
  have BX1 := Lib.hid (heap_below BX1.out hb6)
  have BX2 := Lib.hid (heap_below BX2.out hb6)
  have BX3 := Lib.hid (heap_below BX3.out hb6)
  have BX5 := Lib.hid (heap_below BX5.out hb6)
  clear BX5
  clear hb6
  obtain ⟨x3_0, x3_1, x3_2, x3_3, x3_4, x3_5⟩ := row6 BX1.out
  obtain ⟨kp4, kp4x⟩ : rl (((p_a), (r_a)) : Rat × Rat).1 ≤ rl (p_a) ∧ rl (((p_a), (r_a)) : Rat × Rat).2 ≤ rl (r_a) := ⟨Nat.le_refl _, Nat.le_refl _⟩
  have hs := svalid_any _ sa aa ba ta ca da w6 FaV.out (by omega) (by omega) (by omega) (by omega)
  rw [HVa.out] at hs
  have HS := Lib.hid hs; clear hs
  go_wp2_with (with_reducible first | refine pauseCall ?_ | refine pauseLoop ?_ | refine pauseDraw ?_ | refine pauseBody ?_ | refine pauseRounds ?_)
  clear x3_0 x3_1 x3_2 x3_3 x3_4 x3_5
  refine Pause.mk ?_
  (with_reducible refine HS.out.mono ?_); rintro e w7 ⟨rfl, hb7⟩
  clear HS
  have HB7 := Lib.hid (HB6.out.step hb7)
  have Fa := Lib.hid (Fa.out.below hb7)
  have Fal := Lib.hid (Fal.out.below hb7)
  have Fah := Lib.hid (Fah.out.below hb7)
  have FaV := Lib.hid (FaV.out.below hb7)
  have Fb := Lib.hid (Fb.out.below hb7)
  have Fbl := Lib.hid (Fbl.out.below hb7)
  have Fbh := Lib.hid (Fbh.out.below hb7)
  have FbV := Lib.hid (FbV.out.below hb7)
  have BX1 := Lib.hid (heap_below BX1.out hb7)
  have BX2 := Lib.hid (heap_below BX2.out hb7)
  have BX3 := Lib.hid (heap_below BX3.out hb7)
  clear hb7
  obtain ⟨x5_0, x5_1, x5_2, x5_3, x5_4, x5_5⟩ := row6 BX2.out
  obtain ⟨kp6, kp6x⟩ : rl (((p_b), (r_b)) : Rat × Rat).1 ≤ rl (p_b) ∧ rl (((p_b), (r_b)) : Rat × Rat).2 ≤ rl (r_b) := ⟨Nat.le_refl _, Nat.le_refl _⟩
  have hs := svalid_any _ sb ab bb tb cb db w7 FbV.out (by omega) (by omega) (by omega) (by omega)
  rw [HVb.out] at hs
  have HS := Lib.hid hs; clear hs
  go_wp2_with (with_reducible first | refine pauseCall ?_ | refine pauseLoop ?_ | refine pauseDraw ?_ | refine pauseBody ?_ | refine pauseRounds ?_)
  clear x5_0 x5_1 x5_2 x5_3 x5_4 x5_5
  refine Pause.mk ?_
  (with_reducible refine HS.out.mono ?_); rintro e w8 ⟨rfl, hb8⟩
  clear HS
  have HB8 := Lib.hid (HB7.out.step hb8)
  have Fa := Lib.hid (Fa.out.below hb8)
  have Fal := Lib.hid (Fal.out.below hb8)
  have Fah := Lib.hid (Fah.out.below hb8)
  have FaV := Lib.hid (FaV.out.below hb8)
  have Fb := Lib.hid (Fb.out.below hb8)
  have Fbl := Lib.hid (Fbl.out.below hb8)
  have Fbh := Lib.hid (Fbh.out.below hb8)
  have FbV := Lib.hid (FbV.out.below hb8)
  have BX1 := Lib.hid (heap_below BX1.out hb8)
  have BX2 := Lib.hid (heap_below BX2.out hb8)
  have BX3 := Lib.hid (heap_below BX3.out hb8)
  clear hb8
  go_wp2_with (with_reducible first | refine pauseCall ?_ | refine pauseLoop ?_ | refine pauseDraw ?_ | refine pauseBody ?_ | refine pauseRounds ?_)
  refine Pause.mk ?_
  obtain ⟨kp8, kp8x⟩ : rl (((p_a), (r_a)) : Rat × Rat).1 ≤ rl (p_a) ∧ rl (((p_a), (r_a)) : Rat × Rat).2 ≤ rl (r_a) := ⟨Nat.le_refl _, Nat.le_refl _⟩
  have k7 := rl_inK ((p_a, r_a)) mn0 (by omega)
  obtain ⟨kp10, kp10x⟩ : rl (((p_a), (r_a)) : Rat × Rat).1 ≤ rl (p_a) ∧ rl (((p_a), (r_a)) : Rat × Rat).2 ≤ rl (r_a) := ⟨Nat.le_refl _, Nat.le_refl _⟩
  have k9 := rl_inK ((p_a, r_a)) mx0 (by omega)
  obtain ⟨k11, k12⟩ := rl_smV (inK ((p_a, r_a)) mn0) (inK ((p_a, r_a)) mx0)
  refine wp_region_facts (A := ?aa13) (w := w8) 19 [17] (by kernel_rfl) (Fl [KEq (.agg #[.bool qa, .slice oa na ka, .slice pa ma ra, .bool qax, .slice oax nax kax, .slice pax max rax]), KEq (.pointer (some ⟨g3, 0, none⟩)), KEq (.int .u8 (k0 : Nat)), KEq (.pointer (some ⟨g3, 1, none⟩)), KEq (.int .u8 (k1 : Nat)), KEq (.int .u8 (mn0 : Nat)), KIs (inK ((p_a, r_a)) mn0), KEq (.agg #[.bool qa, .slice oa na ka, .slice pa ma ra, .bool qax, .slice oax nax kax, .slice pax max rax]), KEq (.pointer (some ⟨g3, 0, none⟩)), KEq (.int .u8 (k0 : Nat)), KEq (.pointer (some ⟨g3, 1, none⟩)), KEq (.int .u8 (k1 : Nat)), KEq (.int .u8 (mx0 : Nat)), KIs (inK ((p_a, r_a)) mx0), KSpE (smV (inK ((p_a, r_a)) mn0) (inK ((p_a, r_a)) mx0)) (.nilIface), KSpE (smV (inK ((p_a, r_a)) mn0) (inK ((p_a, r_a)) mx0)) (.nilIface), KSp (smV (inK ((p_a, r_a)) mn0) (inK ((p_a, r_a)) mx0)), KEq (.nilIface), KNew w8.heap.size #[.bool false, .slice none 0 0, .slice none 0 0, .bool false, .slice none 0 0, .slice none 0 0] 26]) (fun i => i == 18) (by kernel_rfl) ?hq13 (monoL (monoC (kEq _) (monoC (kEq _) (monoC (kEq _) (monoC (kEq _) (monoC (kEq _) (monoC (kEq _) (monoC (kIs _) (monoC (kEq _) (monoC (kEq _) (monoC (kEq _) (monoC (kEq _) (monoC (kEq _) (monoC (kEq _) (monoC (kIs _) (monoC (kSpE _ _) (monoC (kSpE _ _) (monoC (kSp _) (monoC (kEq _) (monoC (kNew _ _ _) monoN)))))))))))))))))))) ?ha13 ?st13 ?tl13
  case hq13 =>
    intro c a d v w h
    first | (simp only [Exit.then] at h ⊢; exact h) | (simp only [Exit.inBlock, Exit.then] at h ⊢; exact h) | exact h
  case ha13 =>
    intro vals
    simp only [putsTo, dstOf, if_true, Act.put, List.setIfInBounds_toArray, List.set_cons_zero, List.set_cons_succ, List.getElem?_toArray, List.getElem?_cons_zero, List.getElem?_cons_succ, Option.bind_some]
    exact rfl
  case st13 =>
    simp only [List.take_succ_cons, List.take_zero]
    refine stepsOK_cons rfl rfl ?_ (stepsOK_cons rfl rfl ?_ (stepsOK_cons rfl rfl ?_ (stepsOK_cons rfl rfl ?_ (stepsOK_cons rfl rfl ?_ (stepsOK_cons rfl rfl ?_ (stepsOK_cons rfl rfl ?_ (stepsOK_cons rfl rfl ?_ (stepsOK_cons rfl rfl ?_ (stepsOK_cons rfl rfl ?_ (stepsOK_cons rfl rfl ?_ (stepsOK_cons rfl rfl ?_ (stepsOK_cons rfl rfl ?_ (stepsOK_cons rfl rfl ?_ (stepsOK_cons rfl rfl ?_ (stepsOK_cons rfl rfl ?_ (stepsOK_cons rfl rfl ?_ (stepsOK_pure rfl ?_ (stepsOK_cons rfl rfl ?_ (stepsOK_nil)))))))))))))))))))
    · intro vals w1 hb hd
      obtain ⟨e0, e1, e2, e3, e4, e5⟩ := row6 (heap_below BX1.out hb)
      refine stepOK_value (v := .agg #[.bool qa, .slice oa na ka, .slice pa ma ra, .bool qax, .slice oax nax kax, .slice pax max rax]) (w' := w1) (by go_simp) (leaves_mk (Below.refl _ _) rfl (fun h => by cases h))
    · intro vals w1 hb hd
      refine stepOK_value (v := (.pointer (some ⟨g3, 0, none⟩))) (w' := w1) (by go_simp) (leaves_mk (Below.refl _ _) rfl (fun h => by cases h))
    · intro vals w1 hb hd
      have d1 : KEq (.pointer (some ⟨g3, 0, none⟩)) (vals 1) w1 := hd 1 (by kernel_rfl)
      rw [show vals 1 = _ from d1]
      obtain ⟨e0, e1, e2, e3⟩ := row4 (heap_below BX3.out hb)
      refine stepOK_value (v := .int .u8 (k0 : Nat)) (w' := w1) (by go_simp) (leaves_mk (Below.refl _ _) rfl (fun h => by cases h))
    · intro vals w1 hb hd
      refine stepOK_value (v := (.pointer (some ⟨g3, 1, none⟩))) (w' := w1) (by go_simp) (leaves_mk (Below.refl _ _) rfl (fun h => by cases h))
    · intro vals w1 hb hd
      have d3 : KEq (.pointer (some ⟨g3, 1, none⟩)) (vals 3) w1 := hd 3 (by kernel_rfl)
      rw [show vals 3 = _ from d3]
      obtain ⟨e0, e1, e2, e3⟩ := row4 (heap_below BX3.out hb)
      refine stepOK_value (v := .int .u8 (k1 : Nat)) (w' := w1) (by go_simp) (leaves_mk (Below.refl _ _) rfl (fun h => by cases h))
    · intro vals w1 hb hd
      have d2 : KEq (.int .u8 (k0 : Nat)) (vals 2) w1 := hd 2 (by kernel_rfl)
      have d4 : KEq (.int .u8 (k1 : Nat)) (vals 4) w1 := hd 4 (by kernel_rfl)
      rw [show vals 2 = _ from d2]
      rw [show vals 4 = _ from d4]
      refine stepOK_value (v := (.int .u8 (mn0 : Nat))) (w' := w1) (by go_simp) (leaves_mk (Below.refl _ _) rfl (fun h => by cases h))
    · intro vals w1 hb hd
      have d0 : KEq (.agg #[.bool qa, .slice oa na ka, .slice pa ma ra, .bool qax, .slice oax nax kax, .slice pax max rax]) (vals 0) w1 := hd 0 (by kernel_rfl)
      have d5 : KEq (.int .u8 (mn0 : Nat)) (vals 5) w1 := hd 5 (by kernel_rfl)
      have z0 : vals 0 = _ := d0
      have z5 : vals 5 = _ := d5
      have hs := inK_any _ ((p_a, r_a)) mn0 w1 (Fa.out.below hb) (by omega) (by omega) (by omega)
      have HS := Lib.hid hs; clear hs
      rw [z0]; clear z0
      rw [z5]; clear z5
      clear d0 d5 hd
      refine stepOK_call (by go_simp; first | done | exact ⟨⟨rfl, rfl⟩, rfl⟩) ?_
      (with_reducible refine HS.out.mono ?_); rintro e w2 ⟨v, rfl, hb2, hn⟩
      exact ⟨v, rfl, leaves_mk hb2 hn (fun h => by cases h)⟩
    · intro vals w1 hb hd
      obtain ⟨e0, e1, e2, e3, e4, e5⟩ := row6 (heap_below BX1.out hb)
      refine stepOK_value (v := .agg #[.bool qa, .slice oa na ka, .slice pa ma ra, .bool qax, .slice oax nax kax, .slice pax max rax]) (w' := w1) (by go_simp) (leaves_mk (Below.refl _ _) rfl (fun h => by cases h))
    · intro vals w1 hb hd
      refine stepOK_value (v := (.pointer (some ⟨g3, 0, none⟩))) (w' := w1) (by go_simp) (leaves_mk (Below.refl _ _) rfl (fun h => by cases h))
    · intro vals w1 hb hd
      have d8 : KEq (.pointer (some ⟨g3, 0, none⟩)) (vals 8) w1 := hd 8 (by kernel_rfl)
      rw [show vals 8 = _ from d8]
      obtain ⟨e0, e1, e2, e3⟩ := row4 (heap_below BX3.out hb)
      refine stepOK_value (v := .int .u8 (k0 : Nat)) (w' := w1) (by go_simp) (leaves_mk (Below.refl _ _) rfl (fun h => by cases h))
    · intro vals w1 hb hd
      refine stepOK_value (v := (.pointer (some ⟨g3, 1, none⟩))) (w' := w1) (by go_simp) (leaves_mk (Below.refl _ _) rfl (fun h => by cases h))
    · intro vals w1 hb hd
      have d10 : KEq (.pointer (some ⟨g3, 1, none⟩)) (vals 10) w1 := hd 10 (by kernel_rfl)
      rw [show vals 10 = _ from d10]
      obtain ⟨e0, e1, e2, e3⟩ := row4 (heap_below BX3.out hb)
      refine stepOK_value (v := .int .u8 (k1 : Nat)) (w' := w1) (by go_simp) (leaves_mk (Below.refl _ _) rfl (fun h => by cases h))
    · intro vals w1 hb hd
      have d9 : KEq (.int .u8 (k0 : Nat)) (vals 9) w1 := hd 9 (by kernel_rfl)
      have d11 : KEq (.int .u8 (k1 : Nat)) (vals 11) w1 := hd 11 (by kernel_rfl)
      rw [show vals 9 = _ from d9]
      rw [show vals 11 = _ from d11]
      refine stepOK_value (v := (.int .u8 (mx0 : Nat))) (w' := w1) (by go_simp) (leaves_mk (Below.refl _ _) rfl (fun h => by cases h))
    · intro vals w1 hb hd
      have d7 : KEq (.agg #[.bool qa, .slice oa na ka, .slice pa ma ra, .bool qax, .slice oax nax kax, .slice pax max rax]) (vals 7) w1 := hd 7 (by kernel_rfl)
      have d12 : KEq (.int .u8 (mx0 : Nat)) (vals 12) w1 := hd 12 (by kernel_rfl)
      have z7 : vals 7 = _ := d7
      have z12 : vals 12 = _ := d12
      have hs := inK_any _ ((p_a, r_a)) mx0 w1 (Fa.out.below hb) (by omega) (by omega) (by omega)
      have HS := Lib.hid hs; clear hs
      rw [z7]; clear z7
      rw [z12]; clear z12
      clear d7 d12 hd
      refine stepOK_call (by go_simp; first | done | exact ⟨⟨rfl, rfl⟩, rfl⟩) ?_
      (with_reducible refine HS.out.mono ?_); rintro e w2 ⟨v, rfl, hb2, hn⟩
      exact ⟨v, rfl, leaves_mk hb2 hn (fun h => by cases h)⟩
    · intro vals w1 hb hd
      have d6 : KIs (inK ((p_a, r_a)) mn0) (vals 6) w1 := hd 6 (by kernel_rfl)
      have R6 : Hid (IsR w1 (vals 6) (inK ((p_a, r_a)) mn0)) := Lib.hid d6
      have d13 : KIs (inK ((p_a, r_a)) mx0) (vals 13) w1 := hd 13 (by kernel_rfl)
      have R13 : Hid (IsR w1 (vals 13) (inK ((p_a, r_a)) mx0)) := Lib.hid d13
      have hs := smake_any _ (inK ((p_a, r_a)) mn0) _ (inK ((p_a, r_a)) mx0) w1 (R6.out.is (by omega)) (R13.out.is (by omega)) (by omega) (by omega)
      rw [HM0.out, errV_zero] at hs
      have HS := Lib.hid hs; clear hs
      clear d6 d13 hd
      refine stepOK_call (by go_simp; first | done | exact ⟨⟨rfl, rfl⟩, rfl⟩) ?_
      (with_reducible refine HS.out.mono ?_); rintro e w2 ⟨v, rfl, hb2, hn⟩
      exact ⟨_, rfl, leaves_mk hb2 ⟨v, rfl, hn⟩ (fun h => by cases h)⟩
    · intro vals w1 hb hd
      have d14 : KSpE (smV (inK ((p_a, r_a)) mn0) (inK ((p_a, r_a)) mx0)) (.nilIface) (vals 14) w1 := hd 14 (by kernel_rfl)
      obtain ⟨b, eb, hq⟩ := d14
      rw [eb]
      refine stepOK_value (v := (.tuple #[b, .nilIface])) (w' := w1) (by go_simp) (leaves_mk (Below.refl _ _) ⟨b, rfl, hq⟩ (fun h => by cases h))
    · intro vals w1 hb hd
      have d15 : KSpE (smV (inK ((p_a, r_a)) mn0) (inK ((p_a, r_a)) mx0)) (.nilIface) (vals 15) w1 := hd 15 (by kernel_rfl)
      obtain ⟨b, eb, hq⟩ := d15
      rw [eb]
      refine stepOK_value (v := b) (w' := w1) (by go_simp) (leaves_mk (Below.refl _ _) hq (fun h => by cases h))
    · intro vals w1 hb hd
      have d15 : KSpE (smV (inK ((p_a, r_a)) mn0) (inK ((p_a, r_a)) mx0)) (.nilIface) (vals 15) w1 := hd 15 (by kernel_rfl)
      obtain ⟨b, eb, hq⟩ := d15
      rw [eb]
      refine stepPure_value (v := (.nilIface)) (fun w => by go_simp) (leaves_mk (Below.refl _ _) rfl (fun h => by cases h))
    · intro vals w1 hb hd
      refine stepOK_value (v := .pointer (some ⟨w1.heap.size, 0, none⟩)) (w' := w1.alloc (.cells #[.bool false, .slice none 0 0, .slice none 0 0, .bool false, .slice none 0 0, .slice none 0 0] 26)) (by go_simp) (leaves_mk ((Below.refl _ _).alloc (Nat.le_refl _) _) ⟨_, hb.size, rfl, heap_alloc_new _ _⟩ (fun _ => ⟨rfl, by simp⟩))
  case tl13 =>
    intro vals w9 hb9 hf hdis
    simp only [List.drop_succ_cons, List.drop_zero]
    obtain ⟨u13_16, hu16⟩ : ∃ u, u = vals 16 := ⟨_, rfl⟩
    have hn13_16 : IsSp w9 (vals 16) (smV (inK ((p_a, r_a)) mn0) (inK ((p_a, r_a)) mx0)) := hf 16 (by decide)
    rw [← hu16] at hn13_16 ⊢; clear hu16
    have z17 : vals 17 = _ := hf 17 (by decide)
    try rw [z17]
    clear z17
    obtain ⟨g13_18, hg13_18, ev18, hz13_18⟩ : KNew w8.heap.size #[.bool false, .slice none 0 0, .slice none 0 0, .bool false, .slice none 0 0, .slice none 0 0] 26 (vals 18) w9 := hf 18 (by decide)
    have eq18 := ev18
    rw [ev18]; clear ev18
    have lw13_18 : w.heap.size ≤ g13_18 := Nat.le_trans HB8.out.size hg13_18
    have ltBX113_18 : g1 < g13_18 := Nat.lt_of_lt_of_le (below_lt BX1.out) hg13_18
    have ltBX213_18 : g2 < g13_18 := Nat.lt_of_lt_of_le (below_lt BX2.out) hg13_18
    have ltBX313_18 : g3 < g13_18 := Nat.lt_of_lt_of_le (below_lt BX3.out) hg13_18
    clear hf hdis eq18
    have HB9 := Lib.hid (HB8.out.step hb9)
    have Fa := Lib.hid (Fa.out.below hb9)
    have Fal := Lib.hid (Fal.out.below hb9)
    have Fah := Lib.hid (Fah.out.below hb9)
    have FaV := Lib.hid (FaV.out.below hb9)
    have Fb := Lib.hid (Fb.out.below hb9)
    have Fbl := Lib.hid (Fbl.out.below hb9)
    have Fbh := Lib.hid (Fbh.out.below hb9)
    have FbV := Lib.hid (FbV.out.below hb9)
    have BX1 := Lib.hid (heap_below BX1.out hb9)
    have BX2 := Lib.hid (heap_below BX2.out hb9)
    have BX3 := Lib.hid (heap_below BX3.out hb9)
    clear hb9
    have BX13_18 := Lib.hid hz13_18; clear hz13_18 hg13_18
    have N13_16 := Lib.hid hn13_16; clear hn13_16
    obtain ⟨s14, o14, n14, c14, a14, m14, d14, s14x, o14x, n14x, c14x, a14x, m14x, d14x, rfl⟩ := N13_16.out.shape
    have N13_16l := Lib.hid (isSp_ends N13_16.out).1; have N13_16h := Lib.hid (isSp_ends N13_16.out).2
    skip
    go_wp2_with (with_reducible refine wpList_pauseS ?_)
    refine wpList_stL g13_18 0 [.bool s14, .slice o14 n14 c14, .slice a14 m14 d14, .bool s14x, .slice o14x n14x c14x, .slice a14x m14x d14x] BX13_18.out rfl rfl (Nat.le_of_ble_eq_true rfl) (by kernel_rfl) rfl ?_
    intro w10 hp10
    have Fa := Lib.hid (putL_SI hp10 Fa.out BX13_18.out noW6)
    have Fal := Lib.hid (putL_I hp10 Fal.out BX13_18.out noW6)
    have Fah := Lib.hid (putL_I hp10 Fah.out BX13_18.out noW6)
    have FaV := Lib.hid (putL_SV hp10 FaV.out BX13_18.out noW6)
    have Fb := Lib.hid (putL_SI hp10 Fb.out BX13_18.out noW6)
    have Fbl := Lib.hid (putL_I hp10 Fbl.out BX13_18.out noW6)
    have Fbh := Lib.hid (putL_I hp10 Fbh.out BX13_18.out noW6)
    have FbV := Lib.hid (putL_SV hp10 FbV.out BX13_18.out noW6)
    have N13_16 := Lib.hid (putL_SI hp10 N13_16.out BX13_18.out noW6)
    have N13_16l := Lib.hid (putL_I hp10 N13_16l.out BX13_18.out noW6)
    have N13_16h := Lib.hid (putL_I hp10 N13_16h.out BX13_18.out noW6)
    have BX1 := Lib.hid (putLx hp10 BX1.out (by omega))
    have BX2 := Lib.hid (putLx hp10 BX2.out (by omega))
    have BX3 := Lib.hid (putLx hp10 BX3.out (by omega))
    have nx10 : w10.heap[g13_18]? = some (.cells #[.bool s14, .slice o14 n14 c14, .slice a14 m14 d14, .bool s14x, .slice o14x n14x c14x, .slice a14x m14x d14x] 26) := by rw [hp10]; exact putL_6 BX13_18.out
    have BX13_18 := Lib.hid nx10; clear nx10
    have HB10 := Lib.hid (putLb hp10 HB9.out (by omega))
    clear hp10
    go_wp2_with (with_reducible first | refine pauseCall ?_ | refine pauseLoop ?_ | refine pauseDraw ?_ | refine pauseBody ?_ | refine pauseRounds ?_)
    refine Pause.mk ?_
    obtain ⟨kp16, kp16x⟩ : rl (((p_b), (r_b)) : Rat × Rat).1 ≤ rl (p_b) ∧ rl (((p_b), (r_b)) : Rat × Rat).2 ≤ rl (r_b) := ⟨Nat.le_refl _, Nat.le_refl _⟩
    have k15 := rl_inK ((p_b, r_b)) mn1 (by omega)
    obtain ⟨kp18, kp18x⟩ : rl (((p_b), (r_b)) : Rat × Rat).1 ≤ rl (p_b) ∧ rl (((p_b), (r_b)) : Rat × Rat).2 ≤ rl (r_b) := ⟨Nat.le_refl _, Nat.le_refl _⟩
    have k17 := rl_inK ((p_b, r_b)) mx1 (by omega)
    obtain ⟨k19, k20⟩ := rl_smV (inK ((p_b, r_b)) mn1) (inK ((p_b, r_b)) mx1)
    refine wp_region_facts (A := ?aa21) (w := w10) 19 [17] (by kernel_rfl) (Fl [KEq (.agg #[.bool qb, .slice ob nb kb, .slice pb mb rb, .bool qbx, .slice obx nbx kbx, .slice pbx mbx rbx]), KEq (.pointer (some ⟨g3, 2, none⟩)), KEq (.int .u8 (k2 : Nat)), KEq (.pointer (some ⟨g3, 3, none⟩)), KEq (.int .u8 (k3 : Nat)), KEq (.int .u8 (mn1 : Nat)), KIs (inK ((p_b, r_b)) mn1), KEq (.agg #[.bool qb, .slice ob nb kb, .slice pb mb rb, .bool qbx, .slice obx nbx kbx, .slice pbx mbx rbx]), KEq (.pointer (some ⟨g3, 2, none⟩)), KEq (.int .u8 (k2 : Nat)), KEq (.pointer (some ⟨g3, 3, none⟩)), KEq (.int .u8 (k3 : Nat)), KEq (.int .u8 (mx1 : Nat)), KIs (inK ((p_b, r_b)) mx1), KSpE (smV (inK ((p_b, r_b)) mn1) (inK ((p_b, r_b)) mx1)) (.nilIface), KSpE (smV (inK ((p_b, r_b)) mn1) (inK ((p_b, r_b)) mx1)) (.nilIface), KSp (smV (inK ((p_b, r_b)) mn1) (inK ((p_b, r_b)) mx1)), KEq (.nilIface), KNew w10.heap.size #[.bool false, .slice none 0 0, .slice none 0 0, .bool false, .slice none 0 0, .slice none 0 0] 26]) (fun i => i == 18) (by kernel_rfl) ?hq21 (monoL (monoC (kEq _) (monoC (kEq _) (monoC (kEq _) (monoC (kEq _) (monoC (kEq _) (monoC (kEq _) (monoC (kIs _) (monoC (kEq _) (monoC (kEq _) (monoC (kEq _) (monoC (kEq _) (monoC (kEq _) (monoC (kEq _) (monoC (kIs _) (monoC (kSpE _ _) (monoC (kSpE _ _) (monoC (kSp _) (monoC (kEq _) (monoC (kNew _ _ _) monoN)))))))))))))))))))) ?ha21 ?st21 ?tl21
    case hq21 =>
      intro c a d v w h
      first | (simp only [Exit.then] at h ⊢; exact h) | (simp only [Exit.inBlock, Exit.then] at h ⊢; exact h) | exact h
    case ha21 =>
      intro vals
      simp only [putsTo, dstOf, if_true, Act.put, List.setIfInBounds_toArray, List.set_cons_zero, List.set_cons_succ, List.getElem?_toArray, List.getElem?_cons_zero, List.getElem?_cons_succ, Option.bind_some]
      exact rfl
    case st21 =>
      simp only [List.take_succ_cons, List.take_zero]
      refine stepsOK_cons rfl rfl ?_ (stepsOK_cons rfl rfl ?_ (stepsOK_cons rfl rfl ?_ (stepsOK_cons rfl rfl ?_ (stepsOK_cons rfl rfl ?_ (stepsOK_cons rfl rfl ?_ (stepsOK_cons rfl rfl ?_ (stepsOK_cons rfl rfl ?_ (stepsOK_cons rfl rfl ?_ (stepsOK_cons rfl rfl ?_ (stepsOK_cons rfl rfl ?_ (stepsOK_cons rfl rfl ?_ (stepsOK_cons rfl rfl ?_ (stepsOK_cons rfl rfl ?_ (stepsOK_cons rfl rfl ?_ (stepsOK_cons rfl rfl ?_ (stepsOK_cons rfl rfl ?_ (stepsOK_pure rfl ?_ (stepsOK_cons rfl rfl ?_ (stepsOK_nil)))))))))))))))))))
      · intro vals w1 hb hd
        obtain ⟨e0, e1, e2, e3, e4, e5⟩ := row6 (heap_below BX2.out hb)
        refine stepOK_value (v := .agg #[.bool qb, .slice ob nb kb, .slice pb mb rb, .bool qbx, .slice obx nbx kbx, .slice pbx mbx rbx]) (w' := w1) (by go_simp) (leaves_mk (Below.refl _ _) rfl (fun h => by cases h))
      · intro vals w1 hb hd
        refine stepOK_value (v := (.pointer (some ⟨g3, 2, none⟩))) (w' := w1) (by go_simp) (leaves_mk (Below.refl _ _) rfl (fun h => by cases h))
      · intro vals w1 hb hd
        have d1 : KEq (.pointer (some ⟨g3, 2, none⟩)) (vals 1) w1 := hd 1 (by kernel_rfl)
        rw [show vals 1 = _ from d1]
        obtain ⟨e0, e1, e2, e3⟩ := row4 (heap_below BX3.out hb)
        refine stepOK_value (v := .int .u8 (k2 : Nat)) (w' := w1) (by go_simp) (leaves_mk (Below.refl _ _) rfl (fun h => by cases h))
      · intro vals w1 hb hd
        refine stepOK_value (v := (.pointer (some ⟨g3, 3, none⟩))) (w' := w1) (by go_simp) (leaves_mk (Below.refl _ _) rfl (fun h => by cases h))
      · intro vals w1 hb hd
        have d3 : KEq (.pointer (some ⟨g3, 3, none⟩)) (vals 3) w1 := hd 3 (by kernel_rfl)
        rw [show vals 3 = _ from d3]
        obtain ⟨e0, e1, e2, e3⟩ := row4 (heap_below BX3.out hb)
        refine stepOK_value (v := .int .u8 (k3 : Nat)) (w' := w1) (by go_simp) (leaves_mk (Below.refl _ _) rfl (fun h => by cases h))
      · intro vals w1 hb hd
        have d2 : KEq (.int .u8 (k2 : Nat)) (vals 2) w1 := hd 2 (by kernel_rfl)
        have d4 : KEq (.int .u8 (k3 : Nat)) (vals 4) w1 := hd 4 (by kernel_rfl)
        rw [show vals 2 = _ from d2]
        rw [show vals 4 = _ from d4]
        refine stepOK_value (v := (.int .u8 (mn1 : Nat))) (w' := w1) (by go_simp) (leaves_mk (Below.refl _ _) rfl (fun h => by cases h))
      · intro vals w1 hb hd
        have d0 : KEq (.agg #[.bool qb, .slice ob nb kb, .slice pb mb rb, .bool qbx, .slice obx nbx kbx, .slice pbx mbx rbx]) (vals 0) w1 := hd 0 (by kernel_rfl)
        have d5 : KEq (.int .u8 (mn1 : Nat)) (vals 5) w1 := hd 5 (by kernel_rfl)
        have z0 : vals 0 = _ := d0
        have z5 : vals 5 = _ := d5
        have hs := inK_any _ ((p_b, r_b)) mn1 w1 (Fb.out.below hb) (by omega) (by omega) (by omega)
        have HS := Lib.hid hs; clear hs
        rw [z0]; clear z0
        rw [z5]; clear z5
        clear d0 d5 hd
        refine stepOK_call (by go_simp; first | done | exact ⟨⟨rfl, rfl⟩, rfl⟩) ?_
        (with_reducible refine HS.out.mono ?_); rintro e w2 ⟨v, rfl, hb2, hn⟩
        exact ⟨v, rfl, leaves_mk hb2 hn (fun h => by cases h)⟩
      · intro vals w1 hb hd
        obtain ⟨e0, e1, e2, e3, e4, e5⟩ := row6 (heap_below BX2.out hb)
        refine stepOK_value (v := .agg #[.bool qb, .slice ob nb kb, .slice pb mb rb, .bool qbx, .slice obx nbx kbx, .slice pbx mbx rbx]) (w' := w1) (by go_simp) (leaves_mk (Below.refl _ _) rfl (fun h => by cases h))
      · intro vals w1 hb hd
        refine stepOK_value (v := (.pointer (some ⟨g3, 2, none⟩))) (w' := w1) (by go_simp) (leaves_mk (Below.refl _ _) rfl (fun h => by cases h))
      · intro vals w1 hb hd
        have d8 : KEq (.pointer (some ⟨g3, 2, none⟩)) (vals 8) w1 := hd 8 (by kernel_rfl)
        rw [show vals 8 = _ from d8]
        obtain ⟨e0, e1, e2, e3⟩ := row4 (heap_below BX3.out hb)
        refine stepOK_value (v := .int .u8 (k2 : Nat)) (w' := w1) (by go_simp) (leaves_mk (Below.refl _ _) rfl (fun h => by cases h))
      · intro vals w1 hb hd
        refine stepOK_value (v := (.pointer (some ⟨g3, 3, none⟩))) (w' := w1) (by go_simp) (leaves_mk (Below.refl _ _) rfl (fun h => by cases h))
      · intro vals w1 hb hd
        have d10 : KEq (.pointer (some ⟨g3, 3, none⟩)) (vals 10) w1 := hd 10 (by kernel_rfl)
        rw [show vals 10 = _ from d10]
        obtain ⟨e0, e1, e2, e3⟩ := row4 (heap_below BX3.out hb)
        refine stepOK_value (v := .int .u8 (k3 : Nat)) (w' := w1) (by go_simp) (leaves_mk (Below.refl _ _) rfl (fun h => by cases h))
      · intro vals w1 hb hd
        have d9 : KEq (.int .u8 (k2 : Nat)) (vals 9) w1 := hd 9 (by kernel_rfl)
        have d11 : KEq (.int .u8 (k3 : Nat)) (vals 11) w1 := hd 11 (by kernel_rfl)
        rw [show vals 9 = _ from d9]
        rw [show vals 11 = _ from d11]
        refine stepOK_value (v := (.int .u8 (mx1 : Nat))) (w' := w1) (by go_simp) (leaves_mk (Below.refl _ _) rfl (fun h => by cases h))
      · intro vals w1 hb hd
        have d7 : KEq (.agg #[.bool qb, .slice ob nb kb, .slice pb mb rb, .bool qbx, .slice obx nbx kbx, .slice pbx mbx rbx]) (vals 7) w1 := hd 7 (by kernel_rfl)
        have d12 : KEq (.int .u8 (mx1 : Nat)) (vals 12) w1 := hd 12 (by kernel_rfl)
        have z7 : vals 7 = _ := d7
        have z12 : vals 12 = _ := d12
        have hs := inK_any _ ((p_b, r_b)) mx1 w1 (Fb.out.below hb) (by omega) (by omega) (by omega)
        have HS := Lib.hid hs; clear hs
        rw [z7]; clear z7
        rw [z12]; clear z12
        clear d7 d12 hd
        refine stepOK_call (by go_simp; first | done | exact ⟨⟨rfl, rfl⟩, rfl⟩) ?_
        (with_reducible refine HS.out.mono ?_); rintro e w2 ⟨v, rfl, hb2, hn⟩
        exact ⟨v, rfl, leaves_mk hb2 hn (fun h => by cases h)⟩
      · intro vals w1 hb hd
        have d6 : KIs (inK ((p_b, r_b)) mn1) (vals 6) w1 := hd 6 (by kernel_rfl)
        have R6 : Hid (IsR w1 (vals 6) (inK ((p_b, r_b)) mn1)) := Lib.hid d6
        have d13 : KIs (inK ((p_b, r_b)) mx1) (vals 13) w1 := hd 13 (by kernel_rfl)
        have R13 : Hid (IsR w1 (vals 13) (inK ((p_b, r_b)) mx1)) := Lib.hid d13
        have hs := smake_any _ (inK ((p_b, r_b)) mn1) _ (inK ((p_b, r_b)) mx1) w1 (R6.out.is (by omega)) (R13.out.is (by omega)) (by omega) (by omega)
        rw [HM1.out, errV_zero] at hs
        have HS := Lib.hid hs; clear hs
        clear d6 d13 hd
        refine stepOK_call (by go_simp; first | done | exact ⟨⟨rfl, rfl⟩, rfl⟩) ?_
        (with_reducible refine HS.out.mono ?_); rintro e w2 ⟨v, rfl, hb2, hn⟩
        exact ⟨_, rfl, leaves_mk hb2 ⟨v, rfl, hn⟩ (fun h => by cases h)⟩
      · intro vals w1 hb hd
        have d14 : KSpE (smV (inK ((p_b, r_b)) mn1) (inK ((p_b, r_b)) mx1)) (.nilIface) (vals 14) w1 := hd 14 (by kernel_rfl)
        obtain ⟨b, eb, hq⟩ := d14
        rw [eb]
        refine stepOK_value (v := (.tuple #[b, .nilIface])) (w' := w1) (by go_simp) (leaves_mk (Below.refl _ _) ⟨b, rfl, hq⟩ (fun h => by cases h))
      · intro vals w1 hb hd
        have d15 : KSpE (smV (inK ((p_b, r_b)) mn1) (inK ((p_b, r_b)) mx1)) (.nilIface) (vals 15) w1 := hd 15 (by kernel_rfl)
        obtain ⟨b, eb, hq⟩ := d15
        rw [eb]
        refine stepOK_value (v := b) (w' := w1) (by go_simp) (leaves_mk (Below.refl _ _) hq (fun h => by cases h))
      · intro vals w1 hb hd
        have d15 : KSpE (smV (inK ((p_b, r_b)) mn1) (inK ((p_b, r_b)) mx1)) (.nilIface) (vals 15) w1 := hd 15 (by kernel_rfl)
        obtain ⟨b, eb, hq⟩ := d15
        rw [eb]
        refine stepPure_value (v := (.nilIface)) (fun w => by go_simp) (leaves_mk (Below.refl _ _) rfl (fun h => by cases h))
      · intro vals w1 hb hd
        refine stepOK_value (v := .pointer (some ⟨w1.heap.size, 0, none⟩)) (w' := w1.alloc (.cells #[.bool false, .slice none 0 0, .slice none 0 0, .bool false, .slice none 0 0, .slice none 0 0] 26)) (by go_simp) (leaves_mk ((Below.refl _ _).alloc (Nat.le_refl _) _) ⟨_, hb.size, rfl, heap_alloc_new _ _⟩ (fun _ => ⟨rfl, by simp⟩))
    case tl21 =>
      intro vals w11 hb11 hf hdis
      simp only [List.drop_succ_cons, List.drop_zero]
      obtain ⟨u21_16, hu16⟩ : ∃ u, u = vals 16 := ⟨_, rfl⟩
      have hn21_16 : IsSp w11 (vals 16) (smV (inK ((p_b, r_b)) mn1) (inK ((p_b, r_b)) mx1)) := hf 16 (by decide)
      rw [← hu16] at hn21_16 ⊢; clear hu16
      have z17 : vals 17 = _ := hf 17 (by decide)
      try rw [z17]
      clear z17
      obtain ⟨g21_18, hg21_18, ev18, hz21_18⟩ : KNew w10.heap.size #[.bool false, .slice none 0 0, .slice none 0 0, .bool false, .slice none 0 0, .slice none 0 0] 26 (vals 18) w11 := hf 18 (by decide)
      have eq18 := ev18
      rw [ev18]; clear ev18
      have lw21_18 : w.heap.size ≤ g21_18 := Nat.le_trans HB10.out.size hg21_18
      have ltBX121_18 : g1 < g21_18 := Nat.lt_of_lt_of_le (below_lt BX1.out) hg21_18
      have ltBX221_18 : g2 < g21_18 := Nat.lt_of_lt_of_le (below_lt BX2.out) hg21_18
      have ltBX321_18 : g3 < g21_18 := Nat.lt_of_lt_of_le (below_lt BX3.out) hg21_18
      have ltBX13_1821_18 : g13_18 < g21_18 := Nat.lt_of_lt_of_le (below_lt BX13_18.out) hg21_18
      clear hf hdis eq18
      have HB11 := Lib.hid (HB10.out.step hb11)
      have Fa := Lib.hid (Fa.out.below hb11)
      have Fal := Lib.hid (Fal.out.below hb11)
      have Fah := Lib.hid (Fah.out.below hb11)
      have FaV := Lib.hid (FaV.out.below hb11)
      have Fb := Lib.hid (Fb.out.below hb11)
      have Fbl := Lib.hid (Fbl.out.below hb11)
      have Fbh := Lib.hid (Fbh.out.below hb11)
      have FbV := Lib.hid (FbV.out.below hb11)
      have N13_16 := Lib.hid (N13_16.out.below hb11)
      have N13_16l := Lib.hid (N13_16l.out.below hb11)
      have N13_16h := Lib.hid (N13_16h.out.below hb11)
      have BX1 := Lib.hid (heap_below BX1.out hb11)
      have BX2 := Lib.hid (heap_below BX2.out hb11)
      have BX3 := Lib.hid (heap_below BX3.out hb11)
      have BX13_18 := Lib.hid (heap_below BX13_18.out hb11)
      clear hb11
      have BX21_18 := Lib.hid hz21_18; clear hz21_18 hg21_18
      have N21_16 := Lib.hid hn21_16; clear hn21_16
      obtain ⟨s22, o22, n22, c22, a22, m22, d22, s22x, o22x, n22x, c22x, a22x, m22x, d22x, rfl⟩ := N21_16.out.shape
      have N21_16l := Lib.hid (isSp_ends N21_16.out).1; have N21_16h := Lib.hid (isSp_ends N21_16.out).2
      skip
      go_wp2_with (with_reducible refine wpList_pauseS ?_)
      refine wpList_stL g21_18 0 [.bool s22, .slice o22 n22 c22, .slice a22 m22 d22, .bool s22x, .slice o22x n22x c22x, .slice a22x m22x d22x] BX21_18.out rfl rfl (Nat.le_of_ble_eq_true rfl) (by kernel_rfl) rfl ?_
      intro w12 hp12
      have Fa := Lib.hid (putL_SI hp12 Fa.out BX21_18.out noW6)
      have Fal := Lib.hid (putL_I hp12 Fal.out BX21_18.out noW6)
      have Fah := Lib.hid (putL_I hp12 Fah.out BX21_18.out noW6)
      have FaV := Lib.hid (putL_SV hp12 FaV.out BX21_18.out noW6)
      have Fb := Lib.hid (putL_SI hp12 Fb.out BX21_18.out noW6)
      have Fbl := Lib.hid (putL_I hp12 Fbl.out BX21_18.out noW6)
      have Fbh := Lib.hid (putL_I hp12 Fbh.out BX21_18.out noW6)
      have FbV := Lib.hid (putL_SV hp12 FbV.out BX21_18.out noW6)
      have N13_16 := Lib.hid (putL_SI hp12 N13_16.out BX21_18.out noW6)
      have N13_16l := Lib.hid (putL_I hp12 N13_16l.out BX21_18.out noW6)
      have N13_16h := Lib.hid (putL_I hp12 N13_16h.out BX21_18.out noW6)
      have N21_16 := Lib.hid (putL_SI hp12 N21_16.out BX21_18.out noW6)
      have N21_16l := Lib.hid (putL_I hp12 N21_16l.out BX21_18.out noW6)
      have N21_16h := Lib.hid (putL_I hp12 N21_16h.out BX21_18.out noW6)
      have BX1 := Lib.hid (putLx hp12 BX1.out (by omega))
      have BX2 := Lib.hid (putLx hp12 BX2.out (by omega))
      have BX3 := Lib.hid (putLx hp12 BX3.out (by omega))
      have BX13_18 := Lib.hid (putLx hp12 BX13_18.out (by omega))
      have nx12 : w12.heap[g21_18]? = some (.cells #[.bool s22, .slice o22 n22 c22, .slice a22 m22 d22, .bool s22x, .slice o22x n22x c22x, .slice a22x m22x d22x] 26) := by rw [hp12]; exact putL_6 BX21_18.out
      have BX21_18 := Lib.hid nx12; clear nx12
      have HB12 := Lib.hid (putLb hp12 HB11.out (by omega))
      clear hp12
      obtain ⟨x23_0, x23_1, x23_2, x23_3, x23_4, x23_5⟩ := row6 BX13_18.out
      obtain ⟨x24_0, x24_1, x24_2, x24_3, x24_4, x24_5⟩ := row6 BX1.out
      obtain ⟨kp25, kp25x⟩ : rl (((p_a), (r_a)) : Rat × Rat).1 ≤ rl (p_a) ∧ rl (((p_a), (r_a)) : Rat × Rat).2 ≤ rl (r_a) := ⟨Nat.le_refl _, Nat.le_refl _⟩
      have hs := inside_any _ (smV (inK ((p_a, r_a)) mn0) (inK ((p_a, r_a)) mx0)) _ ((p_a, r_a)) w12 (N13_16.out.is (smV_ok _ _) (by omega) (by omega)) (Fa.out.is HOa.out (by omega) (by omega)) (by omega) (by omega) (by omega) (by omega)
      rw [HI1.out] at hs
      have HS := Lib.hid hs; clear hs
      go_wp2_with (with_reducible first | refine pauseCall ?_ | refine pauseLoop ?_ | refine pauseDraw ?_ | refine pauseBody ?_ | refine pauseRounds ?_)
      clear x23_0 x23_1 x23_2 x23_3 x23_4 x23_5 x24_0 x24_1 x24_2 x24_3 x24_4 x24_5
      refine Pause.mk ?_
      (with_reducible refine HS.out.mono ?_); rintro e w13 ⟨rfl, hb13⟩
      clear HS
      have HB13 := Lib.hid (HB12.out.step hb13)
      have Fa := Lib.hid (Fa.out.below hb13)
      have Fal := Lib.hid (Fal.out.below hb13)
      have Fah := Lib.hid (Fah.out.below hb13)
      have FaV := Lib.hid (FaV.out.below hb13)
      have Fb := Lib.hid (Fb.out.below hb13)
      have Fbl := Lib.hid (Fbl.out.below hb13)
      have Fbh := Lib.hid (Fbh.out.below hb13)
      have FbV := Lib.hid (FbV.out.below hb13)
      have N13_16 := Lib.hid (N13_16.out.below hb13)
      have N13_16l := Lib.hid (N13_16l.out.below hb13)
      have N13_16h := Lib.hid (N13_16h.out.below hb13)
      have N21_16 := Lib.hid (N21_16.out.below hb13)
      have N21_16l := Lib.hid (N21_16l.out.below hb13)
      have N21_16h := Lib.hid (N21_16h.out.below hb13)
      have BX1 := Lib.hid (heap_below BX1.out hb13)
      have BX2 := Lib.hid (heap_below BX2.out hb13)
      have BX3 := Lib.hid (heap_below BX3.out hb13)
      have BX13_18 := Lib.hid (heap_below BX13_18.out hb13)
      have BX21_18 := Lib.hid (heap_below BX21_18.out hb13)
      clear hb13
      obtain ⟨x26_0, x26_1, x26_2, x26_3, x26_4, x26_5⟩ := row6 BX21_18.out
      obtain ⟨x27_0, x27_1, x27_2, x27_3, x27_4, x27_5⟩ := row6 BX2.out
      obtain ⟨kp28, kp28x⟩ : rl (((p_b), (r_b)) : Rat × Rat).1 ≤ rl (p_b) ∧ rl (((p_b), (r_b)) : Rat × Rat).2 ≤ rl (r_b) := ⟨Nat.le_refl _, Nat.le_refl _⟩
      have hs := inside_any _ (smV (inK ((p_b, r_b)) mn1) (inK ((p_b, r_b)) mx1)) _ ((p_b, r_b)) w13 (N21_16.out.is (smV_ok _ _) (by omega) (by omega)) (Fb.out.is HOb.out (by omega) (by omega)) (by omega) (by omega) (by omega) (by omega)
      rw [HI2.out] at hs
      have HS := Lib.hid hs; clear hs
      go_wp2_with (with_reducible first | refine pauseCall ?_ | refine pauseLoop ?_ | refine pauseDraw ?_ | refine pauseBody ?_ | refine pauseRounds ?_)
      clear x26_0 x26_1 x26_2 x26_3 x26_4 x26_5 x27_0 x27_1 x27_2 x27_3 x27_4 x27_5
      refine Pause.mk ?_
      (with_reducible refine HS.out.mono ?_); rintro e w14 ⟨rfl, hb14⟩
      clear HS
      have HB14 := Lib.hid (HB13.out.step hb14)
      have Fa := Lib.hid (Fa.out.below hb14)
      have Fal := Lib.hid (Fal.out.below hb14)
      have Fah := Lib.hid (Fah.out.below hb14)
      have FaV := Lib.hid (FaV.out.below hb14)
      have Fb := Lib.hid (Fb.out.below hb14)
      have Fbl := Lib.hid (Fbl.out.below hb14)
      have Fbh := Lib.hid (Fbh.out.below hb14)
      have FbV := Lib.hid (FbV.out.below hb14)
      have N13_16 := Lib.hid (N13_16.out.below hb14)
      have N13_16l := Lib.hid (N13_16l.out.below hb14)
      have N13_16h := Lib.hid (N13_16h.out.below hb14)
      have N21_16 := Lib.hid (N21_16.out.below hb14)
      have N21_16l := Lib.hid (N21_16l.out.below hb14)
      have N21_16h := Lib.hid (N21_16h.out.below hb14)
      have BX1 := Lib.hid (heap_below BX1.out hb14)
      have BX2 := Lib.hid (heap_below BX2.out hb14)
      have BX3 := Lib.hid (heap_below BX3.out hb14)
      have BX13_18 := Lib.hid (heap_below BX13_18.out hb14)
      have BX21_18 := Lib.hid (heap_below BX21_18.out hb14)
      clear hb14
      go_wp2_with (with_reducible first | refine pauseCall ?_ | refine pauseLoop ?_ | refine pauseDraw ?_ | refine pauseBody ?_ | refine pauseRounds ?_)
      refine Pause.mk ?_
      obtain ⟨k29, k30⟩ := rl_sAdd (smV (inK ((p_a, r_a)) mn0) (inK ((p_a, r_a)) mx0)) (smV (inK ((p_b, r_b)) mn1) (inK ((p_b, r_b)) mx1))
      obtain ⟨kp33, kp33x⟩ : rl (((p_a), (r_a)) : Rat × Rat).1 ≤ rl (p_a) ∧ rl (((p_a), (r_a)) : Rat × Rat).2 ≤ rl (r_a) := ⟨Nat.le_refl _, Nat.le_refl _⟩
      obtain ⟨kp34, kp34x⟩ : rl (((p_b), (r_b)) : Rat × Rat).1 ≤ rl (p_b) ∧ rl (((p_b), (r_b)) : Rat × Rat).2 ≤ rl (r_b) := ⟨Nat.le_refl _, Nat.le_refl _⟩
      obtain ⟨k31, k32⟩ := rl_sAdd ((p_a, r_a)) ((p_b, r_b))
      obtain ⟨k35, k36⟩ := rl_sSub (smV (inK ((p_a, r_a)) mn0) (inK ((p_a, r_a)) mx0)) (smV (inK ((p_b, r_b)) mn1) (inK ((p_b, r_b)) mx1))
      obtain ⟨kp39, kp39x⟩ : rl (((p_a), (r_a)) : Rat × Rat).1 ≤ rl (p_a) ∧ rl (((p_a), (r_a)) : Rat × Rat).2 ≤ rl (r_a) := ⟨Nat.le_refl _, Nat.le_refl _⟩
      obtain ⟨kp40, kp40x⟩ : rl (((p_b), (r_b)) : Rat × Rat).1 ≤ rl (p_b) ∧ rl (((p_b), (r_b)) : Rat × Rat).2 ≤ rl (r_b) := ⟨Nat.le_refl _, Nat.le_refl _⟩
      obtain ⟨k37, k38⟩ := rl_sSub ((p_a, r_a)) ((p_b, r_b))
      obtain ⟨k41, k42⟩ := rl_sMulD (smV (inK ((p_a, r_a)) mn0) (inK ((p_a, r_a)) mx0)) (smV (inK ((p_b, r_b)) mn1) (inK ((p_b, r_b)) mx1))
      obtain ⟨kp45, kp45x⟩ : rl (((p_a), (r_a)) : Rat × Rat).1 ≤ rl (p_a) ∧ rl (((p_a), (r_a)) : Rat × Rat).2 ≤ rl (r_a) := ⟨Nat.le_refl _, Nat.le_refl _⟩
      obtain ⟨kp46, kp46x⟩ : rl (((p_b), (r_b)) : Rat × Rat).1 ≤ rl (p_b) ∧ rl (((p_b), (r_b)) : Rat × Rat).2 ≤ rl (r_b) := ⟨Nat.le_refl _, Nat.le_refl _⟩
      obtain ⟨k43, k44⟩ := rl_sMulD ((p_a, r_a)) ((p_b, r_b))
      obtain ⟨k47, k48⟩ := rl_sClipD (smV (inK ((p_a, r_a)) mn0) (inK ((p_a, r_a)) mx0))
      obtain ⟨kp51, kp51x⟩ : rl (((p_a), (r_a)) : Rat × Rat).1 ≤ rl (p_a) ∧ rl (((p_a), (r_a)) : Rat × Rat).2 ≤ rl (r_a) := ⟨Nat.le_refl _, Nat.le_refl _⟩
      obtain ⟨k49, k50⟩ := rl_sClipD ((p_a, r_a))
      obtain ⟨k52, k53⟩ := rl_sHullD (smV (inK ((p_a, r_a)) mn0) (inK ((p_a, r_a)) mx0)) (smV (inK ((p_b, r_b)) mn1) (inK ((p_b, r_b)) mx1))
      refine wp_region_facts (A := ?aa54) (w := w14) 42 [] (by kernel_rfl) (Fl [KEq (.agg #[.bool s14, .slice o14 n14 c14, .slice a14 m14 d14, .bool s14x, .slice o14x n14x c14x, .slice a14x m14x d14x]), KEq (.agg #[.bool s22, .slice o22 n22 c22, .slice a22 m22 d22, .bool s22x, .slice o22x n22x c22x, .slice a22x m22x d22x]), KSp (sAdd (smV (inK ((p_a, r_a)) mn0) (inK ((p_a, r_a)) mx0)) (smV (inK ((p_b, r_b)) mn1) (inK ((p_b, r_b)) mx1))), KEq (.agg #[.bool qa, .slice oa na ka, .slice pa ma ra, .bool qax, .slice oax nax kax, .slice pax max rax]), KEq (.agg #[.bool qb, .slice ob nb kb, .slice pb mb rb, .bool qbx, .slice obx nbx kbx, .slice pbx mbx rbx]), KSp (sAdd ((p_a, r_a)) ((p_b, r_b))), KEq (.bool true), KEq (.bool false), KEq (.bool false), KEq (.agg #[.bool s14, .slice o14 n14 c14, .slice a14 m14 d14, .bool s14x, .slice o14x n14x c14x, .slice a14x m14x d14x]), KEq (.agg #[.bool s22, .slice o22 n22 c22, .slice a22 m22 d22, .bool s22x, .slice o22x n22x c22x, .slice a22x m22x d22x]), KSp (sSub (smV (inK ((p_a, r_a)) mn0) (inK ((p_a, r_a)) mx0)) (smV (inK ((p_b, r_b)) mn1) (inK ((p_b, r_b)) mx1))), KEq (.agg #[.bool qa, .slice oa na ka, .slice pa ma ra, .bool qax, .slice oax nax kax, .slice pax max rax]), KEq (.agg #[.bool qb, .slice ob nb kb, .slice pb mb rb, .bool qbx, .slice obx nbx kbx, .slice pbx mbx rbx]), KSp (sSub ((p_a, r_a)) ((p_b, r_b))), KEq (.bool true), KEq (.bool false), KEq (.bool false), KEq (.bool false), KEq (.agg #[.bool s14, .slice o14 n14 c14, .slice a14 m14 d14, .bool s14x, .slice o14x n14x c14x, .slice a14x m14x d14x]), KEq (.agg #[.bool s22, .slice o22 n22 c22, .slice a22 m22 d22, .bool s22x, .slice o22x n22x c22x, .slice a22x m22x d22x]), KSp (sMul (smV (inK ((p_a, r_a)) mn0) (inK ((p_a, r_a)) mx0)) (smV (inK ((p_b, r_b)) mn1) (inK ((p_b, r_b)) mx1))), KEq (.agg #[.bool qa, .slice oa na ka, .slice pa ma ra, .bool qax, .slice oax nax kax, .slice pax max rax]), KEq (.agg #[.bool qb, .slice ob nb kb, .slice pb mb rb, .bool qbx, .slice obx nbx kbx, .slice pbx mbx rbx]), KSp (sMul ((p_a, r_a)) ((p_b, r_b))), KEq (.bool true), KEq (.bool false), KEq (.bool false), KEq (.bool false), KEq (.agg #[.bool s14, .slice o14 n14 c14, .slice a14 m14 d14, .bool s14x, .slice o14x n14x c14x, .slice a14x m14x d14x]), KSp (sClip (smV (inK ((p_a, r_a)) mn0) (inK ((p_a, r_a)) mx0))), KEq (.agg #[.bool qa, .slice oa na ka, .slice pa ma ra, .bool qax, .slice oax nax kax, .slice pax max rax]), KSp (sClip ((p_a, r_a))), KEq (.bool true), KEq (.bool false), KEq (.bool false), KEq (.bool false), KEq (.agg #[.bool s14, .slice o14 n14 c14, .slice a14 m14 d14, .bool s14x, .slice o14x n14x c14x, .slice a14x m14x d14x]), KEq (.agg #[.bool s22, .slice o22 n22 c22, .slice a22 m22 d22, .bool s22x, .slice o22x n22x c22x, .slice a22x m22x d22x]), KSp (sHull (smV (inK ((p_a, r_a)) mn0) (inK ((p_a, r_a)) mx0)) (smV (inK ((p_b, r_b)) mn1) (inK ((p_b, r_b)) mx1))), KEq (.agg #[.bool qa, .slice oa na ka, .slice pa ma ra, .bool qax, .slice oax nax kax, .slice pax max rax]), KEq (.agg #[.bool qb, .slice ob nb kb, .slice pb mb rb, .bool qbx, .slice obx nbx kbx, .slice pbx mbx rbx])]) (fun i => false) (by kernel_rfl) ?hq54 (monoL (monoC (kEq _) (monoC (kEq _) (monoC (kSp _) (monoC (kEq _) (monoC (kEq _) (monoC (kSp _) (monoC (kEq _) (monoC (kEq _) (monoC (kEq _) (monoC (kEq _) (monoC (kEq _) (monoC (kSp _) (monoC (kEq _) (monoC (kEq _) (monoC (kSp _) (monoC (kEq _) (monoC (kEq _) (monoC (kEq _) (monoC (kEq _) (monoC (kEq _) (monoC (kEq _) (monoC (kSp _) (monoC (kEq _) (monoC (kEq _) (monoC (kSp _) (monoC (kEq _) (monoC (kEq _) (monoC (kEq _) (monoC (kEq _) (monoC (kEq _) (monoC (kSp _) (monoC (kEq _) (monoC (kSp _) (monoC (kEq _) (monoC (kEq _) (monoC (kEq _) (monoC (kEq _) (monoC (kEq _) (monoC (kEq _) (monoC (kSp _) (monoC (kEq _) (monoC (kEq _) monoN))))))))))))))))))))))))))))))))))))))))))) ?ha54 ?st54 ?tl54
      case hq54 =>
        intro c a d v w h
        first | (simp only [Exit.then] at h ⊢; exact h) | (simp only [Exit.inBlock, Exit.then] at h ⊢; exact h) | exact h
      case ha54 =>
        intro vals
        simp only [putsTo, dstOf, if_true, Act.put, List.setIfInBounds_toArray, List.set_cons_zero, List.set_cons_succ, List.getElem?_toArray, List.getElem?_cons_zero, List.getElem?_cons_succ, Option.bind_some]
        exact rfl
      case st54 =>
        simp only [List.take_succ_cons, List.take_zero]
        refine stepsOK_cons rfl rfl ?_ (stepsOK_cons rfl rfl ?_ (stepsOK_cons rfl rfl ?_ (stepsOK_cons rfl rfl ?_ (stepsOK_cons rfl rfl ?_ (stepsOK_cons rfl rfl ?_ (stepsOK_cons rfl rfl ?_ (stepsOK_cons rfl rfl ?_ (stepsOK_cons rfl rfl ?_ (stepsOK_guard rfl ?_ (stepsOK_guard rfl ?_ (stepsOK_guard rfl ?_ (stepsOK_guard rfl ?_ (stepsOK_guard rfl ?_ (stepsOK_guard rfl ?_ (stepsOK_guard rfl ?_ (stepsOK_guard rfl ?_ (stepsOK_cons rfl rfl ?_ (stepsOK_cons rfl rfl ?_ (stepsOK_guard rfl ?_ (stepsOK_guard rfl ?_ (stepsOK_guard rfl ?_ (stepsOK_guard rfl ?_ (stepsOK_guard rfl ?_ (stepsOK_guard rfl ?_ (stepsOK_guard rfl ?_ (stepsOK_guard rfl ?_ (stepsOK_cons rfl rfl ?_ (stepsOK_cons rfl rfl ?_ (stepsOK_guard rfl ?_ (stepsOK_guard rfl ?_ (stepsOK_guard rfl ?_ (stepsOK_guard rfl ?_ (stepsOK_guard rfl ?_ (stepsOK_guard rfl ?_ (stepsOK_cons rfl rfl ?_ (stepsOK_cons rfl rfl ?_ (stepsOK_guard rfl ?_ (stepsOK_guard rfl ?_ (stepsOK_guard rfl ?_ (stepsOK_guard rfl ?_ (stepsOK_guard rfl ?_ (stepsOK_nil))))))))))))))))))))))))))))))))))))))))))
        · intro vals w1 hb hd
          obtain ⟨e0, e1, e2, e3, e4, e5⟩ := row6 (heap_below BX13_18.out hb)
          refine stepOK_value (v := .agg #[.bool s14, .slice o14 n14 c14, .slice a14 m14 d14, .bool s14x, .slice o14x n14x c14x, .slice a14x m14x d14x]) (w' := w1) (by go_simp) (leaves_mk (Below.refl _ _) rfl (fun h => by cases h))
        · intro vals w1 hb hd
          obtain ⟨e0, e1, e2, e3, e4, e5⟩ := row6 (heap_below BX21_18.out hb)
          refine stepOK_value (v := .agg #[.bool s22, .slice o22 n22 c22, .slice a22 m22 d22, .bool s22x, .slice o22x n22x c22x, .slice a22x m22x d22x]) (w' := w1) (by go_simp) (leaves_mk (Below.refl _ _) rfl (fun h => by cases h))
        · intro vals w1 hb hd
          have d0 : KEq (.agg #[.bool s14, .slice o14 n14 c14, .slice a14 m14 d14, .bool s14x, .slice o14x n14x c14x, .slice a14x m14x d14x]) (vals 0) w1 := hd 0 (by kernel_rfl)
          have d1 : KEq (.agg #[.bool s22, .slice o22 n22 c22, .slice a22 m22 d22, .bool s22x, .slice o22x n22x c22x, .slice a22x m22x d22x]) (vals 1) w1 := hd 1 (by kernel_rfl)
          have z0 : vals 0 = _ := d0
          have z1 : vals 1 = _ := d1
          have hs := sadd_any _ (smV (inK ((p_a, r_a)) mn0) (inK ((p_a, r_a)) mx0)) _ (smV (inK ((p_b, r_b)) mn1) (inK ((p_b, r_b)) mx1)) w1 ((N13_16.out.below hb).is (smV_ok _ _) (by omega) (by omega)) ((N21_16.out.below hb).is (smV_ok _ _) (by omega) (by omega)) (by omega) (by omega) (by omega) (by omega)
          have HS := Lib.hid hs; clear hs
          rw [z0]; clear z0
          rw [z1]; clear z1
          clear d0 d1 hd
          refine stepOK_call (by go_simp; first | done | exact ⟨⟨rfl, rfl⟩, rfl⟩) ?_
          (with_reducible refine HS.out.mono ?_); rintro e w2 ⟨v, rfl, hb2, hn⟩
          exact ⟨v, rfl, leaves_mk hb2 hn (fun h => by cases h)⟩
        · intro vals w1 hb hd
          obtain ⟨e0, e1, e2, e3, e4, e5⟩ := row6 (heap_below BX1.out hb)
          refine stepOK_value (v := .agg #[.bool qa, .slice oa na ka, .slice pa ma ra, .bool qax, .slice oax nax kax, .slice pax max rax]) (w' := w1) (by go_simp) (leaves_mk (Below.refl _ _) rfl (fun h => by cases h))
        · intro vals w1 hb hd
          obtain ⟨e0, e1, e2, e3, e4, e5⟩ := row6 (heap_below BX2.out hb)
          refine stepOK_value (v := .agg #[.bool qb, .slice ob nb kb, .slice pb mb rb, .bool qbx, .slice obx nbx kbx, .slice pbx mbx rbx]) (w' := w1) (by go_simp) (leaves_mk (Below.refl _ _) rfl (fun h => by cases h))
        · intro vals w1 hb hd
          have d3 : KEq (.agg #[.bool qa, .slice oa na ka, .slice pa ma ra, .bool qax, .slice oax nax kax, .slice pax max rax]) (vals 3) w1 := hd 3 (by kernel_rfl)
          have d4 : KEq (.agg #[.bool qb, .slice ob nb kb, .slice pb mb rb, .bool qbx, .slice obx nbx kbx, .slice pbx mbx rbx]) (vals 4) w1 := hd 4 (by kernel_rfl)
          have z3 : vals 3 = _ := d3
          have z4 : vals 4 = _ := d4
          have hs := sadd_any _ ((p_a, r_a)) _ ((p_b, r_b)) w1 ((Fa.out.below hb).is HOa.out (by omega) (by omega)) ((Fb.out.below hb).is HOb.out (by omega) (by omega)) (by omega) (by omega) (by omega) (by omega)
          have HS := Lib.hid hs; clear hs
          rw [z3]; clear z3
          rw [z4]; clear z4
          clear d3 d4 hd
          refine stepOK_call (by go_simp; first | done | exact ⟨⟨rfl, rfl⟩, rfl⟩) ?_
          (with_reducible refine HS.out.mono ?_); rintro e w2 ⟨v, rfl, hb2, hn⟩
          exact ⟨v, rfl, leaves_mk hb2 hn (fun h => by cases h)⟩
        · intro vals w1 hb hd
          have d2 : KSp (sAdd (smV (inK ((p_a, r_a)) mn0) (inK ((p_a, r_a)) mx0)) (smV (inK ((p_b, r_b)) mn1) (inK ((p_b, r_b)) mx1))) (vals 2) w1 := hd 2 (by kernel_rfl)
          have R2 : Hid (IsSp w1 (vals 2) (sAdd (smV (inK ((p_a, r_a)) mn0) (inK ((p_a, r_a)) mx0)) (smV (inK ((p_b, r_b)) mn1) (inK ((p_b, r_b)) mx1)))) := Lib.hid d2
          have d5 : KSp (sAdd ((p_a, r_a)) ((p_b, r_b))) (vals 5) w1 := hd 5 (by kernel_rfl)
          have R5 : Hid (IsSp w1 (vals 5) (sAdd ((p_a, r_a)) ((p_b, r_b)))) := Lib.hid d5
          have hs := inside_any _ (sAdd (smV (inK ((p_a, r_a)) mn0) (inK ((p_a, r_a)) mx0)) (smV (inK ((p_b, r_b)) mn1) (inK ((p_b, r_b)) mx1))) _ (sAdd ((p_a, r_a)) ((p_b, r_b))) w1 (R2.out.is (sAdd_ok (smV_ok _ _) (smV_ok _ _)) (by omega) (by omega)) (R5.out.is (sAdd_ok HOa.out HOb.out) (by omega) (by omega)) (by omega) (by omega) (by omega) (by omega)
          rw [HI3.out] at hs
          have HS := Lib.hid hs; clear hs
          clear d2 d5 hd
          refine stepOK_call (by go_simp; first | done | exact ⟨⟨rfl, rfl⟩, rfl⟩) ?_
          (with_reducible refine HS.out.mono ?_); rintro e w2 ⟨rfl, hb2⟩
          exact ⟨_, rfl, leaves_mk hb2 rfl (fun h => by cases h)⟩
        · intro vals w1 hb hd
          have d6 : KEq (.bool true) (vals 6) w1 := hd 6 (by kernel_rfl)
          rw [show vals 6 = _ from d6]
          refine stepOK_value (v := (.bool false)) (w' := w1) (by go_simp) (leaves_mk (Below.refl _ _) rfl (fun h => by cases h))
        · intro vals w1 hb hd
          have d7 : KEq (.bool false) (vals 7) w1 := hd 7 (by kernel_rfl)
          rw [show vals 7 = _ from d7]
          refine stepOK_value (v := (.bool false)) (w' := w1) (by go_simp) (leaves_mk (Below.refl _ _) rfl (fun h => by cases h))
        · intro vals w1 hb hd
          have dg : KEq (.bool false) (vals 8) w1 := hd 8 (by kernel_rfl)
          refine stepG_yes (wanted_of rfl rfl (congrArg some dg) rfl) ?_
          clear dg
          obtain ⟨e0, e1, e2, e3, e4, e5⟩ := row6 (heap_below BX13_18.out hb)
          refine stepOK_value (v := .agg #[.bool s14, .slice o14 n14 c14, .slice a14 m14 d14, .bool s14x, .slice o14x n14x c14x, .slice a14x m14x d14x]) (w' := w1) (by go_simp) (leaves_mk (Below.refl _ _) rfl (fun h => by cases h))
        · intro vals w1 hb hd
          have dg : KEq (.bool false) (vals 8) w1 := hd 8 (by kernel_rfl)
          refine stepG_yes (wanted_of rfl rfl (congrArg some dg) rfl) ?_
          clear dg
          obtain ⟨e0, e1, e2, e3, e4, e5⟩ := row6 (heap_below BX21_18.out hb)
          refine stepOK_value (v := .agg #[.bool s22, .slice o22 n22 c22, .slice a22 m22 d22, .bool s22x, .slice o22x n22x c22x, .slice a22x m22x d22x]) (w' := w1) (by go_simp) (leaves_mk (Below.refl _ _) rfl (fun h => by cases h))
        · intro vals w1 hb hd
          have dg : KEq (.bool false) (vals 8) w1 := hd 8 (by kernel_rfl)
          refine stepG_yes (wanted_of rfl rfl (congrArg some dg) rfl) ?_
          clear dg
          have d9 : KEq (.agg #[.bool s14, .slice o14 n14 c14, .slice a14 m14 d14, .bool s14x, .slice o14x n14x c14x, .slice a14x m14x d14x]) (vals 9) w1 := hd 9 (by kernel_rfl)
          have d10 : KEq (.agg #[.bool s22, .slice o22 n22 c22, .slice a22 m22 d22, .bool s22x, .slice o22x n22x c22x, .slice a22x m22x d22x]) (vals 10) w1 := hd 10 (by kernel_rfl)
          have z9 : vals 9 = _ := d9
          have z10 : vals 10 = _ := d10
          have hs := ssub_any _ (smV (inK ((p_a, r_a)) mn0) (inK ((p_a, r_a)) mx0)) _ (smV (inK ((p_b, r_b)) mn1) (inK ((p_b, r_b)) mx1)) w1 ((N13_16.out.below hb).is (smV_ok _ _) (by omega) (by omega)) ((N21_16.out.below hb).is (smV_ok _ _) (by omega) (by omega)) (by omega) (by omega) (by omega) (by omega)
          have HS := Lib.hid hs; clear hs
          rw [z9]; clear z9
          rw [z10]; clear z10
          clear d9 d10 hd
          refine stepOK_call (by go_simp; first | done | exact ⟨⟨rfl, rfl⟩, rfl⟩) ?_
          (with_reducible refine HS.out.mono ?_); rintro e w2 ⟨v, rfl, hb2, hn⟩
          exact ⟨v, rfl, leaves_mk hb2 hn (fun h => by cases h)⟩
        · intro vals w1 hb hd
          have dg : KEq (.bool false) (vals 8) w1 := hd 8 (by kernel_rfl)
          refine stepG_yes (wanted_of rfl rfl (congrArg some dg) rfl) ?_
          clear dg
          obtain ⟨e0, e1, e2, e3, e4, e5⟩ := row6 (heap_below BX1.out hb)
          refine stepOK_value (v := .agg #[.bool qa, .slice oa na ka, .slice pa ma ra, .bool qax, .slice oax nax kax, .slice pax max rax]) (w' := w1) (by go_simp) (leaves_mk (Below.refl _ _) rfl (fun h => by cases h))
        · intro vals w1 hb hd
          have dg : KEq (.bool false) (vals 8) w1 := hd 8 (by kernel_rfl)
          refine stepG_yes (wanted_of rfl rfl (congrArg some dg) rfl) ?_
          clear dg
          obtain ⟨e0, e1, e2, e3, e4, e5⟩ := row6 (heap_below BX2.out hb)
          refine stepOK_value (v := .agg #[.bool qb, .slice ob nb kb, .slice pb mb rb, .bool qbx, .slice obx nbx kbx, .slice pbx mbx rbx]) (w' := w1) (by go_simp) (leaves_mk (Below.refl _ _) rfl (fun h => by cases h))
        · intro vals w1 hb hd
          have dg : KEq (.bool false) (vals 8) w1 := hd 8 (by kernel_rfl)
          refine stepG_yes (wanted_of rfl rfl (congrArg some dg) rfl) ?_
          clear dg
          have d12 : KEq (.agg #[.bool qa, .slice oa na ka, .slice pa ma ra, .bool qax, .slice oax nax kax, .slice pax max rax]) (vals 12) w1 := hd 12 (by kernel_rfl)
          have d13 : KEq (.agg #[.bool qb, .slice ob nb kb, .slice pb mb rb, .bool qbx, .slice obx nbx kbx, .slice pbx mbx rbx]) (vals 13) w1 := hd 13 (by kernel_rfl)
          have z12 : vals 12 = _ := d12
          have z13 : vals 13 = _ := d13
          have hs := ssub_any _ ((p_a, r_a)) _ ((p_b, r_b)) w1 ((Fa.out.below hb).is HOa.out (by omega) (by omega)) ((Fb.out.below hb).is HOb.out (by omega) (by omega)) (by omega) (by omega) (by omega) (by omega)
          have HS := Lib.hid hs; clear hs
          rw [z12]; clear z12
          rw [z13]; clear z13
          clear d12 d13 hd
          refine stepOK_call (by go_simp; first | done | exact ⟨⟨rfl, rfl⟩, rfl⟩) ?_
          (with_reducible refine HS.out.mono ?_); rintro e w2 ⟨v, rfl, hb2, hn⟩
          exact ⟨v, rfl, leaves_mk hb2 hn (fun h => by cases h)⟩
        · intro vals w1 hb hd
          have dg : KEq (.bool false) (vals 8) w1 := hd 8 (by kernel_rfl)
          refine stepG_yes (wanted_of rfl rfl (congrArg some dg) rfl) ?_
          clear dg
          have d11 : KSp (sSub (smV (inK ((p_a, r_a)) mn0) (inK ((p_a, r_a)) mx0)) (smV (inK ((p_b, r_b)) mn1) (inK ((p_b, r_b)) mx1))) (vals 11) w1 := hd 11 (by kernel_rfl)
          have R11 : Hid (IsSp w1 (vals 11) (sSub (smV (inK ((p_a, r_a)) mn0) (inK ((p_a, r_a)) mx0)) (smV (inK ((p_b, r_b)) mn1) (inK ((p_b, r_b)) mx1)))) := Lib.hid d11
          have d14 : KSp (sSub ((p_a, r_a)) ((p_b, r_b))) (vals 14) w1 := hd 14 (by kernel_rfl)
          have R14 : Hid (IsSp w1 (vals 14) (sSub ((p_a, r_a)) ((p_b, r_b)))) := Lib.hid d14
          have hs := inside_any _ (sSub (smV (inK ((p_a, r_a)) mn0) (inK ((p_a, r_a)) mx0)) (smV (inK ((p_b, r_b)) mn1) (inK ((p_b, r_b)) mx1))) _ (sSub ((p_a, r_a)) ((p_b, r_b))) w1 (R11.out.is (sSub_ok (smV_ok _ _) (smV_ok _ _)) (by omega) (by omega)) (R14.out.is (sSub_ok HOa.out HOb.out) (by omega) (by omega)) (by omega) (by omega) (by omega) (by omega)
          rw [HI4.out] at hs
          have HS := Lib.hid hs; clear hs
          clear d11 d14 hd
          refine stepOK_call (by go_simp; first | done | exact ⟨⟨rfl, rfl⟩, rfl⟩) ?_
          (with_reducible refine HS.out.mono ?_); rintro e w2 ⟨rfl, hb2⟩
          exact ⟨_, rfl, leaves_mk hb2 rfl (fun h => by cases h)⟩
        · intro vals w1 hb hd
          have dg : KEq (.bool false) (vals 8) w1 := hd 8 (by kernel_rfl)
          refine stepG_yes (wanted_of rfl rfl (congrArg some dg) rfl) ?_
          clear dg
          have d15 : KEq (.bool true) (vals 15) w1 := hd 15 (by kernel_rfl)
          rw [show vals 15 = _ from d15]
          refine stepOK_value (v := (.bool false)) (w' := w1) (by go_simp) (leaves_mk (Below.refl _ _) rfl (fun h => by cases h))
        · intro vals w1 hb hd
          have d8 : KEq (.bool false) (vals 8) w1 := hd 8 (by kernel_rfl)
          have d16 : KEq (.bool false) (vals 16) w1 := hd 16 (by kernel_rfl)
          rw [show vals 8 = _ from d8]
          rw [show vals 16 = _ from d16]
          refine stepOK_value (v := (.bool false)) (w' := w1) (by go_simp) (leaves_mk (Below.refl _ _) rfl (fun h => by cases h))
        · intro vals w1 hb hd
          have d17 : KEq (.bool false) (vals 17) w1 := hd 17 (by kernel_rfl)
          rw [show vals 17 = _ from d17]
          refine stepOK_value (v := (.bool false)) (w' := w1) (by go_simp) (leaves_mk (Below.refl _ _) rfl (fun h => by cases h))
        · intro vals w1 hb hd
          have dg : KEq (.bool false) (vals 18) w1 := hd 18 (by kernel_rfl)
          refine stepG_yes (wanted_of rfl rfl (congrArg some dg) rfl) ?_
          clear dg
          obtain ⟨e0, e1, e2, e3, e4, e5⟩ := row6 (heap_below BX13_18.out hb)
          refine stepOK_value (v := .agg #[.bool s14, .slice o14 n14 c14, .slice a14 m14 d14, .bool s14x, .slice o14x n14x c14x, .slice a14x m14x d14x]) (w' := w1) (by go_simp) (leaves_mk (Below.refl _ _) rfl (fun h => by cases h))
        · intro vals w1 hb hd
          have dg : KEq (.bool false) (vals 18) w1 := hd 18 (by kernel_rfl)
          refine stepG_yes (wanted_of rfl rfl (congrArg some dg) rfl) ?_
          clear dg
          obtain ⟨e0, e1, e2, e3, e4, e5⟩ := row6 (heap_below BX21_18.out hb)
          refine stepOK_value (v := .agg #[.bool s22, .slice o22 n22 c22, .slice a22 m22 d22, .bool s22x, .slice o22x n22x c22x, .slice a22x m22x d22x]) (w' := w1) (by go_simp) (leaves_mk (Below.refl _ _) rfl (fun h => by cases h))
        · intro vals w1 hb hd
          have dg : KEq (.bool false) (vals 18) w1 := hd 18 (by kernel_rfl)
          refine stepG_yes (wanted_of rfl rfl (congrArg some dg) rfl) ?_
          clear dg
          have d19 : KEq (.agg #[.bool s14, .slice o14 n14 c14, .slice a14 m14 d14, .bool s14x, .slice o14x n14x c14x, .slice a14x m14x d14x]) (vals 19) w1 := hd 19 (by kernel_rfl)
          have d20 : KEq (.agg #[.bool s22, .slice o22 n22 c22, .slice a22 m22 d22, .bool s22x, .slice o22x n22x c22x, .slice a22x m22x d22x]) (vals 20) w1 := hd 20 (by kernel_rfl)
          have z19 : vals 19 = _ := d19
          have z20 : vals 20 = _ := d20
          have hs := smul_any _ (smV (inK ((p_a, r_a)) mn0) (inK ((p_a, r_a)) mx0)) _ (smV (inK ((p_b, r_b)) mn1) (inK ((p_b, r_b)) mx1)) w1 ((N13_16.out.below hb).is (smV_ok _ _) (by omega) (by omega)) ((N21_16.out.below hb).is (smV_ok _ _) (by omega) (by omega)) (by omega) (by omega) (by omega) (by omega)
          have HS := Lib.hid hs; clear hs
          rw [z19]; clear z19
          rw [z20]; clear z20
          clear d19 d20 hd
          refine stepOK_call (by go_simp; first | done | exact ⟨⟨rfl, rfl⟩, rfl⟩) ?_
          (with_reducible refine HS.out.mono ?_); rintro e w2 ⟨v, rfl, hb2, hn⟩
          exact ⟨v, rfl, leaves_mk hb2 hn (fun h => by cases h)⟩
        · intro vals w1 hb hd
          have dg : KEq (.bool false) (vals 18) w1 := hd 18 (by kernel_rfl)
          refine stepG_yes (wanted_of rfl rfl (congrArg some dg) rfl) ?_
          clear dg
          obtain ⟨e0, e1, e2, e3, e4, e5⟩ := row6 (heap_below BX1.out hb)
          refine stepOK_value (v := .agg #[.bool qa, .slice oa na ka, .slice pa ma ra, .bool qax, .slice oax nax kax, .slice pax max rax]) (w' := w1) (by go_simp) (leaves_mk (Below.refl _ _) rfl (fun h => by cases h))
        · intro vals w1 hb hd
          have dg : KEq (.bool false) (vals 18) w1 := hd 18 (by kernel_rfl)
          refine stepG_yes (wanted_of rfl rfl (congrArg some dg) rfl) ?_
          clear dg
          obtain ⟨e0, e1, e2, e3, e4, e5⟩ := row6 (heap_below BX2.out hb)
          refine stepOK_value (v := .agg #[.bool qb, .slice ob nb kb, .slice pb mb rb, .bool qbx, .slice obx nbx kbx, .slice pbx mbx rbx]) (w' := w1) (by go_simp) (leaves_mk (Below.refl _ _) rfl (fun h => by cases h))
        · intro vals w1 hb hd
          have dg : KEq (.bool false) (vals 18) w1 := hd 18 (by kernel_rfl)
          refine stepG_yes (wanted_of rfl rfl (congrArg some dg) rfl) ?_
          clear dg
          have d22 : KEq (.agg #[.bool qa, .slice oa na ka, .slice pa ma ra, .bool qax, .slice oax nax kax, .slice pax max rax]) (vals 22) w1 := hd 22 (by kernel_rfl)
          have d23 : KEq (.agg #[.bool qb, .slice ob nb kb, .slice pb mb rb, .bool qbx, .slice obx nbx kbx, .slice pbx mbx rbx]) (vals 23) w1 := hd 23 (by kernel_rfl)
          have z22 : vals 22 = _ := d22
          have z23 : vals 23 = _ := d23
          have hs := smul_any _ ((p_a, r_a)) _ ((p_b, r_b)) w1 ((Fa.out.below hb).is HOa.out (by omega) (by omega)) ((Fb.out.below hb).is HOb.out (by omega) (by omega)) (by omega) (by omega) (by omega) (by omega)
          have HS := Lib.hid hs; clear hs
          rw [z22]; clear z22
          rw [z23]; clear z23
          clear d22 d23 hd
          refine stepOK_call (by go_simp; first | done | exact ⟨⟨rfl, rfl⟩, rfl⟩) ?_
          (with_reducible refine HS.out.mono ?_); rintro e w2 ⟨v, rfl, hb2, hn⟩
          exact ⟨v, rfl, leaves_mk hb2 hn (fun h => by cases h)⟩
        · intro vals w1 hb hd
          have dg : KEq (.bool false) (vals 18) w1 := hd 18 (by kernel_rfl)
          refine stepG_yes (wanted_of rfl rfl (congrArg some dg) rfl) ?_
          clear dg
          have d21 : KSp (sMul (smV (inK ((p_a, r_a)) mn0) (inK ((p_a, r_a)) mx0)) (smV (inK ((p_b, r_b)) mn1) (inK ((p_b, r_b)) mx1))) (vals 21) w1 := hd 21 (by kernel_rfl)
          have R21 : Hid (IsSp w1 (vals 21) (sMul (smV (inK ((p_a, r_a)) mn0) (inK ((p_a, r_a)) mx0)) (smV (inK ((p_b, r_b)) mn1) (inK ((p_b, r_b)) mx1)))) := Lib.hid d21
          have d24 : KSp (sMul ((p_a, r_a)) ((p_b, r_b))) (vals 24) w1 := hd 24 (by kernel_rfl)
          have R24 : Hid (IsSp w1 (vals 24) (sMul ((p_a, r_a)) ((p_b, r_b)))) := Lib.hid d24
          have hs := inside_any _ (sMul (smV (inK ((p_a, r_a)) mn0) (inK ((p_a, r_a)) mx0)) (smV (inK ((p_b, r_b)) mn1) (inK ((p_b, r_b)) mx1))) _ (sMul ((p_a, r_a)) ((p_b, r_b))) w1 (R21.out.is (around4_ok _ _ _ _) (by omega) (by omega)) (R24.out.is (around4_ok _ _ _ _) (by omega) (by omega)) (by omega) (by omega) (by omega) (by omega)
          rw [HI5.out] at hs
          have HS := Lib.hid hs; clear hs
          clear d21 d24 hd
          refine stepOK_call (by go_simp; first | done | exact ⟨⟨rfl, rfl⟩, rfl⟩) ?_
          (with_reducible refine HS.out.mono ?_); rintro e w2 ⟨rfl, hb2⟩
          exact ⟨_, rfl, leaves_mk hb2 rfl (fun h => by cases h)⟩
        · intro vals w1 hb hd
          have dg : KEq (.bool false) (vals 18) w1 := hd 18 (by kernel_rfl)
          refine stepG_yes (wanted_of rfl rfl (congrArg some dg) rfl) ?_
          clear dg
          have d25 : KEq (.bool true) (vals 25) w1 := hd 25 (by kernel_rfl)
          rw [show vals 25 = _ from d25]
          refine stepOK_value (v := (.bool false)) (w' := w1) (by go_simp) (leaves_mk (Below.refl _ _) rfl (fun h => by cases h))
        · intro vals w1 hb hd
          have d18 : KEq (.bool false) (vals 18) w1 := hd 18 (by kernel_rfl)
          have d26 : KEq (.bool false) (vals 26) w1 := hd 26 (by kernel_rfl)
          rw [show vals 18 = _ from d18]
          rw [show vals 26 = _ from d26]
          refine stepOK_value (v := (.bool false)) (w' := w1) (by go_simp) (leaves_mk (Below.refl _ _) rfl (fun h => by cases h))
        · intro vals w1 hb hd
          have d27 : KEq (.bool false) (vals 27) w1 := hd 27 (by kernel_rfl)
          rw [show vals 27 = _ from d27]
          refine stepOK_value (v := (.bool false)) (w' := w1) (by go_simp) (leaves_mk (Below.refl _ _) rfl (fun h => by cases h))
        · intro vals w1 hb hd
          have dg : KEq (.bool false) (vals 28) w1 := hd 28 (by kernel_rfl)
          refine stepG_yes (wanted_of rfl rfl (congrArg some dg) rfl) ?_
          clear dg
          obtain ⟨e0, e1, e2, e3, e4, e5⟩ := row6 (heap_below BX13_18.out hb)
          refine stepOK_value (v := .agg #[.bool s14, .slice o14 n14 c14, .slice a14 m14 d14, .bool s14x, .slice o14x n14x c14x, .slice a14x m14x d14x]) (w' := w1) (by go_simp) (leaves_mk (Below.refl _ _) rfl (fun h => by cases h))
        · intro vals w1 hb hd
          have dg : KEq (.bool false) (vals 28) w1 := hd 28 (by kernel_rfl)
          refine stepG_yes (wanted_of rfl rfl (congrArg some dg) rfl) ?_
          clear dg
          have d29 : KEq (.agg #[.bool s14, .slice o14 n14 c14, .slice a14 m14 d14, .bool s14x, .slice o14x n14x c14x, .slice a14x m14x d14x]) (vals 29) w1 := hd 29 (by kernel_rfl)
          have z29 : vals 29 = _ := d29
          have hs := sclip_any _ (smV (inK ((p_a, r_a)) mn0) (inK ((p_a, r_a)) mx0)) w1 ((N13_16.out.below hb).is (smV_ok _ _) (by omega) (by omega)) (by omega) (by omega)
          have HS := Lib.hid hs; clear hs
          rw [z29]; clear z29
          clear d29 hd
          refine stepOK_call (by go_simp; first | done | exact ⟨⟨rfl, rfl⟩, rfl⟩) ?_
          (with_reducible refine HS.out.mono ?_); rintro e w2 ⟨v, rfl, hb2, hn⟩
          exact ⟨v, rfl, leaves_mk hb2 hn (fun h => by cases h)⟩
        · intro vals w1 hb hd
          have dg : KEq (.bool false) (vals 28) w1 := hd 28 (by kernel_rfl)
          refine stepG_yes (wanted_of rfl rfl (congrArg some dg) rfl) ?_
          clear dg
          obtain ⟨e0, e1, e2, e3, e4, e5⟩ := row6 (heap_below BX1.out hb)
          refine stepOK_value (v := .agg #[.bool qa, .slice oa na ka, .slice pa ma ra, .bool qax, .slice oax nax kax, .slice pax max rax]) (w' := w1) (by go_simp) (leaves_mk (Below.refl _ _) rfl (fun h => by cases h))
        · intro vals w1 hb hd
          have dg : KEq (.bool false) (vals 28) w1 := hd 28 (by kernel_rfl)
          refine stepG_yes (wanted_of rfl rfl (congrArg some dg) rfl) ?_
          clear dg
          have d31 : KEq (.agg #[.bool qa, .slice oa na ka, .slice pa ma ra, .bool qax, .slice oax nax kax, .slice pax max rax]) (vals 31) w1 := hd 31 (by kernel_rfl)
          have z31 : vals 31 = _ := d31
          have hs := sclip_any _ ((p_a, r_a)) w1 ((Fa.out.below hb).is HOa.out (by omega) (by omega)) (by omega) (by omega)
          have HS := Lib.hid hs; clear hs
          rw [z31]; clear z31
          clear d31 hd
          refine stepOK_call (by go_simp; first | done | exact ⟨⟨rfl, rfl⟩, rfl⟩) ?_
          (with_reducible refine HS.out.mono ?_); rintro e w2 ⟨v, rfl, hb2, hn⟩
          exact ⟨v, rfl, leaves_mk hb2 hn (fun h => by cases h)⟩
        · intro vals w1 hb hd
          have dg : KEq (.bool false) (vals 28) w1 := hd 28 (by kernel_rfl)
          refine stepG_yes (wanted_of rfl rfl (congrArg some dg) rfl) ?_
          clear dg
          have d30 : KSp (sClip (smV (inK ((p_a, r_a)) mn0) (inK ((p_a, r_a)) mx0))) (vals 30) w1 := hd 30 (by kernel_rfl)
          have R30 : Hid (IsSp w1 (vals 30) (sClip (smV (inK ((p_a, r_a)) mn0) (inK ((p_a, r_a)) mx0)))) := Lib.hid d30
          have d32 : KSp (sClip ((p_a, r_a))) (vals 32) w1 := hd 32 (by kernel_rfl)
          have R32 : Hid (IsSp w1 (vals 32) (sClip ((p_a, r_a)))) := Lib.hid d32
          have hs := inside_any _ (sClip (smV (inK ((p_a, r_a)) mn0) (inK ((p_a, r_a)) mx0))) _ (sClip ((p_a, r_a))) w1 (R30.out.is (sClip_ok (smV_ok _ _)) (by omega) (by omega)) (R32.out.is (sClip_ok HOa.out) (by omega) (by omega)) (by omega) (by omega) (by omega) (by omega)
          rw [HI6.out] at hs
          have HS := Lib.hid hs; clear hs
          clear d30 d32 hd
          refine stepOK_call (by go_simp; first | done | exact ⟨⟨rfl, rfl⟩, rfl⟩) ?_
          (with_reducible refine HS.out.mono ?_); rintro e w2 ⟨rfl, hb2⟩
          exact ⟨_, rfl, leaves_mk hb2 rfl (fun h => by cases h)⟩
        · intro vals w1 hb hd
          have dg : KEq (.bool false) (vals 28) w1 := hd 28 (by kernel_rfl)
          refine stepG_yes (wanted_of rfl rfl (congrArg some dg) rfl) ?_
          clear dg
          have d33 : KEq (.bool true) (vals 33) w1 := hd 33 (by kernel_rfl)
          rw [show vals 33 = _ from d33]
          refine stepOK_value (v := (.bool false)) (w' := w1) (by go_simp) (leaves_mk (Below.refl _ _) rfl (fun h => by cases h))
        · intro vals w1 hb hd
          have d28 : KEq (.bool false) (vals 28) w1 := hd 28 (by kernel_rfl)
          have d34 : KEq (.bool false) (vals 34) w1 := hd 34 (by kernel_rfl)
          rw [show vals 28 = _ from d28]
          rw [show vals 34 = _ from d34]
          refine stepOK_value (v := (.bool false)) (w' := w1) (by go_simp) (leaves_mk (Below.refl _ _) rfl (fun h => by cases h))
        · intro vals w1 hb hd
          have d35 : KEq (.bool false) (vals 35) w1 := hd 35 (by kernel_rfl)
          rw [show vals 35 = _ from d35]
          refine stepOK_value (v := (.bool false)) (w' := w1) (by go_simp) (leaves_mk (Below.refl _ _) rfl (fun h => by cases h))
        · intro vals w1 hb hd
          have dg : KEq (.bool false) (vals 36) w1 := hd 36 (by kernel_rfl)
          refine stepG_yes (wanted_of rfl rfl (congrArg some dg) rfl) ?_
          clear dg
          obtain ⟨e0, e1, e2, e3, e4, e5⟩ := row6 (heap_below BX13_18.out hb)
          refine stepOK_value (v := .agg #[.bool s14, .slice o14 n14 c14, .slice a14 m14 d14, .bool s14x, .slice o14x n14x c14x, .slice a14x m14x d14x]) (w' := w1) (by go_simp) (leaves_mk (Below.refl _ _) rfl (fun h => by cases h))
        · intro vals w1 hb hd
          have dg : KEq (.bool false) (vals 36) w1 := hd 36 (by kernel_rfl)
          refine stepG_yes (wanted_of rfl rfl (congrArg some dg) rfl) ?_
          clear dg
          obtain ⟨e0, e1, e2, e3, e4, e5⟩ := row6 (heap_below BX21_18.out hb)
          refine stepOK_value (v := .agg #[.bool s22, .slice o22 n22 c22, .slice a22 m22 d22, .bool s22x, .slice o22x n22x c22x, .slice a22x m22x d22x]) (w' := w1) (by go_simp) (leaves_mk (Below.refl _ _) rfl (fun h => by cases h))
        · intro vals w1 hb hd
          have dg : KEq (.bool false) (vals 36) w1 := hd 36 (by kernel_rfl)
          refine stepG_yes (wanted_of rfl rfl (congrArg some dg) rfl) ?_
          clear dg
          have d37 : KEq (.agg #[.bool s14, .slice o14 n14 c14, .slice a14 m14 d14, .bool s14x, .slice o14x n14x c14x, .slice a14x m14x d14x]) (vals 37) w1 := hd 37 (by kernel_rfl)
          have d38 : KEq (.agg #[.bool s22, .slice o22 n22 c22, .slice a22 m22 d22, .bool s22x, .slice o22x n22x c22x, .slice a22x m22x d22x]) (vals 38) w1 := hd 38 (by kernel_rfl)
          have z37 : vals 37 = _ := d37
          have z38 : vals 38 = _ := d38
          have hs := shull_any _ (smV (inK ((p_a, r_a)) mn0) (inK ((p_a, r_a)) mx0)) _ (smV (inK ((p_b, r_b)) mn1) (inK ((p_b, r_b)) mx1)) w1 ((N13_16.out.below hb).is (smV_ok _ _) (by omega) (by omega)) ((N21_16.out.below hb).is (smV_ok _ _) (by omega) (by omega)) (by omega) (by omega) (by omega) (by omega)
          have HS := Lib.hid hs; clear hs
          rw [z37]; clear z37
          rw [z38]; clear z38
          clear d37 d38 hd
          refine stepOK_call (by go_simp; first | done | exact ⟨⟨rfl, rfl⟩, rfl⟩) ?_
          (with_reducible refine HS.out.mono ?_); rintro e w2 ⟨v, rfl, hb2, hn⟩
          exact ⟨v, rfl, leaves_mk hb2 hn (fun h => by cases h)⟩
        · intro vals w1 hb hd
          have dg : KEq (.bool false) (vals 36) w1 := hd 36 (by kernel_rfl)
          refine stepG_yes (wanted_of rfl rfl (congrArg some dg) rfl) ?_
          clear dg
          obtain ⟨e0, e1, e2, e3, e4, e5⟩ := row6 (heap_below BX1.out hb)
          refine stepOK_value (v := .agg #[.bool qa, .slice oa na ka, .slice pa ma ra, .bool qax, .slice oax nax kax, .slice pax max rax]) (w' := w1) (by go_simp) (leaves_mk (Below.refl _ _) rfl (fun h => by cases h))
        · intro vals w1 hb hd
          have dg : KEq (.bool false) (vals 36) w1 := hd 36 (by kernel_rfl)
          refine stepG_yes (wanted_of rfl rfl (congrArg some dg) rfl) ?_
          clear dg
          obtain ⟨e0, e1, e2, e3, e4, e5⟩ := row6 (heap_below BX2.out hb)
          refine stepOK_value (v := .agg #[.bool qb, .slice ob nb kb, .slice pb mb rb, .bool qbx, .slice obx nbx kbx, .slice pbx mbx rbx]) (w' := w1) (by go_simp) (leaves_mk (Below.refl _ _) rfl (fun h => by cases h))
      case tl54 =>
        intro vals w15 hb15 hf hdis
        simp only [List.drop_succ_cons, List.drop_zero]
        have z36 : vals 36 = _ := hf 36 (by decide)
        try rw [z36]
        clear z36
        obtain ⟨u54_39, hu39⟩ : ∃ u, u = vals 39 := ⟨_, rfl⟩
        have hn54_39 : IsSp w15 (vals 39) (sHull (smV (inK ((p_a, r_a)) mn0) (inK ((p_a, r_a)) mx0)) (smV (inK ((p_b, r_b)) mn1) (inK ((p_b, r_b)) mx1))) := hf 39 (by decide)
        rw [← hu39] at hn54_39 ⊢; clear hu39
        have z40 : vals 40 = _ := hf 40 (by decide)
        try rw [z40]
        clear z40
        have z41 : vals 41 = _ := hf 41 (by decide)
        try rw [z41]
        clear z41
        clear hf hdis
        have HB15 := Lib.hid (HB14.out.step hb15)
        have Fa := Lib.hid (Fa.out.below hb15)
        have Fal := Lib.hid (Fal.out.below hb15)
        have Fah := Lib.hid (Fah.out.below hb15)
        have FaV := Lib.hid (FaV.out.below hb15)
        have Fb := Lib.hid (Fb.out.below hb15)
        have Fbl := Lib.hid (Fbl.out.below hb15)
        have Fbh := Lib.hid (Fbh.out.below hb15)
        have FbV := Lib.hid (FbV.out.below hb15)
        have N13_16 := Lib.hid (N13_16.out.below hb15)
        have N13_16l := Lib.hid (N13_16l.out.below hb15)
        have N13_16h := Lib.hid (N13_16h.out.below hb15)
        have N21_16 := Lib.hid (N21_16.out.below hb15)
        have N21_16l := Lib.hid (N21_16l.out.below hb15)
        have N21_16h := Lib.hid (N21_16h.out.below hb15)
        have BX1 := Lib.hid (heap_below BX1.out hb15)
        have BX2 := Lib.hid (heap_below BX2.out hb15)
        have BX3 := Lib.hid (heap_below BX3.out hb15)
        have BX13_18 := Lib.hid (heap_below BX13_18.out hb15)
        have BX21_18 := Lib.hid (heap_below BX21_18.out hb15)
        clear hb15
        have N54_39 := Lib.hid hn54_39; clear hn54_39
        obtain ⟨s55, o55, n55, c55, a55, m55, d55, s55x, o55x, n55x, c55x, a55x, m55x, d55x, rfl⟩ := N54_39.out.shape
        have N54_39l := Lib.hid (isSp_ends N54_39.out).1; have N54_39h := Lib.hid (isSp_ends N54_39.out).2
        skip
        obtain ⟨kp58, kp58x⟩ : rl (((p_a), (r_a)) : Rat × Rat).1 ≤ rl (p_a) ∧ rl (((p_a), (r_a)) : Rat × Rat).2 ≤ rl (r_a) := ⟨Nat.le_refl _, Nat.le_refl _⟩
        obtain ⟨kp59, kp59x⟩ : rl (((p_b), (r_b)) : Rat × Rat).1 ≤ rl (p_b) ∧ rl (((p_b), (r_b)) : Rat × Rat).2 ≤ rl (r_b) := ⟨Nat.le_refl _, Nat.le_refl _⟩
        obtain ⟨k56, k57⟩ := rl_sHullD ((p_a, r_a)) ((p_b, r_b))
        have hs := shull_any _ ((p_a, r_a)) _ ((p_b, r_b)) w15 (Fa.out.is HOa.out (by omega) (by omega)) (Fb.out.is HOb.out (by omega) (by omega)) (by omega) (by omega) (by omega) (by omega)
        have HS := Lib.hid hs; clear hs
        go_wp2_with (with_reducible first | refine pauseCall ?_ | refine pauseLoop ?_ | refine pauseDraw ?_ | refine pauseBody ?_ | refine pauseRounds ?_)
        refine Pause.mk ?_
        (with_reducible refine HS.out.mono ?_); rintro e w16 ⟨v16, rfl, hb16, hn16⟩
        clear HS
        have HB16 := Lib.hid (HB15.out.step hb16)
        have Fa := Lib.hid (Fa.out.below hb16)
        have Fal := Lib.hid (Fal.out.below hb16)
        have Fah := Lib.hid (Fah.out.below hb16)
        have FaV := Lib.hid (FaV.out.below hb16)
        have Fb := Lib.hid (Fb.out.below hb16)
        have Fbl := Lib.hid (Fbl.out.below hb16)
        have Fbh := Lib.hid (Fbh.out.below hb16)
        have FbV := Lib.hid (FbV.out.below hb16)
        have N13_16 := Lib.hid (N13_16.out.below hb16)
        have N13_16l := Lib.hid (N13_16l.out.below hb16)
        have N13_16h := Lib.hid (N13_16h.out.below hb16)
        have N21_16 := Lib.hid (N21_16.out.below hb16)
        have N21_16l := Lib.hid (N21_16l.out.below hb16)
        have N21_16h := Lib.hid (N21_16h.out.below hb16)
        have N54_39 := Lib.hid (N54_39.out.below hb16)
        have N54_39l := Lib.hid (N54_39l.out.below hb16)
        have N54_39h := Lib.hid (N54_39h.out.below hb16)
        have BX1 := Lib.hid (heap_below BX1.out hb16)
        have BX2 := Lib.hid (heap_below BX2.out hb16)
        have BX3 := Lib.hid (heap_below BX3.out hb16)
        have BX13_18 := Lib.hid (heap_below BX13_18.out hb16)
        have BX21_18 := Lib.hid (heap_below BX21_18.out hb16)
        have N16 := Lib.hid hn16; clear hn16
        obtain ⟨s60, o60, n60, c60, a60, m60, d60, s60x, o60x, n60x, c60x, a60x, m60x, d60x, rfl⟩ := N16.out.shape
        have N16l := Lib.hid (isSp_ends N16.out).1; have N16h := Lib.hid (isSp_ends N16.out).2
        clear hb16
        have hs := inside_any _ (sHull (smV (inK ((p_a, r_a)) mn0) (inK ((p_a, r_a)) mx0)) (smV (inK ((p_b, r_b)) mn1) (inK ((p_b, r_b)) mx1))) _ (sHull ((p_a, r_a)) ((p_b, r_b))) w16 (N54_39.out.is (around4_ok _ _ _ _) (by omega) (by omega)) (N16.out.is (around4_ok _ _ _ _) (by omega) (by omega)) (by omega) (by omega) (by omega) (by omega)
        rw [HI7.out] at hs
        have HS := Lib.hid hs; clear hs
        go_wp2_with (with_reducible first | refine pauseCall ?_ | refine pauseLoop ?_ | refine pauseDraw ?_ | refine pauseBody ?_ | refine pauseRounds ?_)
        refine Pause.mk ?_
        (with_reducible refine HS.out.mono ?_); rintro e w17 ⟨rfl, hb17⟩
        clear HS
        have HB17 := Lib.hid (HB16.out.step hb17)
        have Fa := Lib.hid (Fa.out.below hb17)
        have Fal := Lib.hid (Fal.out.below hb17)
        have Fah := Lib.hid (Fah.out.below hb17)
        have FaV := Lib.hid (FaV.out.below hb17)
        have Fb := Lib.hid (Fb.out.below hb17)
        have Fbl := Lib.hid (Fbl.out.below hb17)
        have Fbh := Lib.hid (Fbh.out.below hb17)
        have FbV := Lib.hid (FbV.out.below hb17)
        have N13_16 := Lib.hid (N13_16.out.below hb17)
        have N13_16l := Lib.hid (N13_16l.out.below hb17)
        have N13_16h := Lib.hid (N13_16h.out.below hb17)
        have N21_16 := Lib.hid (N21_16.out.below hb17)
        have N21_16l := Lib.hid (N21_16l.out.below hb17)
        have N21_16h := Lib.hid (N21_16h.out.below hb17)
        have N54_39 := Lib.hid (N54_39.out.below hb17)
        have N54_39l := Lib.hid (N54_39l.out.below hb17)
        have N54_39h := Lib.hid (N54_39h.out.below hb17)
        have N16 := Lib.hid (N16.out.below hb17)
        have N16l := Lib.hid (N16l.out.below hb17)
        have N16h := Lib.hid (N16h.out.below hb17)
        have BX1 := Lib.hid (heap_below BX1.out hb17)
        have BX2 := Lib.hid (heap_below BX2.out hb17)
        have BX3 := Lib.hid (heap_below BX3.out hb17)
        have BX13_18 := Lib.hid (heap_below BX13_18.out hb17)
        have BX21_18 := Lib.hid (heap_below BX21_18.out hb17)
        clear hb17
        obtain ⟨x61_0, x61_1, x61_2, x61_3, x61_4, x61_5⟩ := row6 BX1.out
        obtain ⟨x62_0, x62_1, x62_2, x62_3, x62_4, x62_5⟩ := row6 BX2.out
        obtain ⟨kp65, kp65x⟩ : rl (((p_a), (r_a)) : Rat × Rat).1 ≤ rl (p_a) ∧ rl (((p_a), (r_a)) : Rat × Rat).2 ≤ rl (r_a) := ⟨Nat.le_refl _, Nat.le_refl _⟩
        obtain ⟨kp66, kp66x⟩ : rl (((p_b), (r_b)) : Rat × Rat).1 ≤ rl (p_b) ∧ rl (((p_b), (r_b)) : Rat × Rat).2 ≤ rl (r_b) := ⟨Nat.le_refl _, Nat.le_refl _⟩
        obtain ⟨k63, k64⟩ := rl_sdVD ((p_a, r_a)) ((p_b, r_b))
        have hs := sdiv_any _ ((p_a, r_a)) _ ((p_b, r_b)) w17 (Fa.out.is HOa.out (by omega) (by omega)) (Fb.out.is HOb.out (by omega) (by omega)) (by omega) (by omega) (by omega) (by omega)
        rw [HS.out, errV_zero] at hs
        have HS := Lib.hid hs; clear hs
        go_wp2_with (with_reducible first | refine pauseCall ?_ | refine pauseLoop ?_ | refine pauseDraw ?_ | refine pauseBody ?_ | refine pauseRounds ?_)
        clear x61_0 x61_1 x61_2 x61_3 x61_4 x61_5 x62_0 x62_1 x62_2 x62_3 x62_4 x62_5
        refine Pause.mk ?_
        (with_reducible refine HS.out.mono ?_); rintro e w18 ⟨v18, rfl, hb18, hn18⟩
        clear HS
        have HB18 := Lib.hid (HB17.out.step hb18)
        have Fa := Lib.hid (Fa.out.below hb18)
        have Fal := Lib.hid (Fal.out.below hb18)
        have Fah := Lib.hid (Fah.out.below hb18)
        have FaV := Lib.hid (FaV.out.below hb18)
        have Fb := Lib.hid (Fb.out.below hb18)
        have Fbl := Lib.hid (Fbl.out.below hb18)
        have Fbh := Lib.hid (Fbh.out.below hb18)
        have FbV := Lib.hid (FbV.out.below hb18)
        have N13_16 := Lib.hid (N13_16.out.below hb18)
        have N13_16l := Lib.hid (N13_16l.out.below hb18)
        have N13_16h := Lib.hid (N13_16h.out.below hb18)
        have N21_16 := Lib.hid (N21_16.out.below hb18)
        have N21_16l := Lib.hid (N21_16l.out.below hb18)
        have N21_16h := Lib.hid (N21_16h.out.below hb18)
        have N54_39 := Lib.hid (N54_39.out.below hb18)
        have N54_39l := Lib.hid (N54_39l.out.below hb18)
        have N54_39h := Lib.hid (N54_39h.out.below hb18)
        have N16 := Lib.hid (N16.out.below hb18)
        have N16l := Lib.hid (N16l.out.below hb18)
        have N16h := Lib.hid (N16h.out.below hb18)
        have BX1 := Lib.hid (heap_below BX1.out hb18)
        have BX2 := Lib.hid (heap_below BX2.out hb18)
        have BX3 := Lib.hid (heap_below BX3.out hb18)
        have BX13_18 := Lib.hid (heap_below BX13_18.out hb18)
        have BX21_18 := Lib.hid (heap_below BX21_18.out hb18)
        have N18 := Lib.hid hn18; clear hn18
        obtain ⟨s67, o67, n67, c67, a67, m67, d67, s67x, o67x, n67x, c67x, a67x, m67x, d67x, rfl⟩ := N18.out.shape
        have N18l := Lib.hid (isSp_ends N18.out).1; have N18h := Lib.hid (isSp_ends N18.out).2
        clear hb18
        obtain ⟨w19, hw19⟩ : ∃ w19, w19 = w18.alloc (.cells #[.bool s67, .slice o67 n67 c67, .slice a67 m67 d67, .bool s67x, .slice o67x n67x c67x, .slice a67x m67x d67x] 26) := ⟨_, rfl⟩
        have hb19 : Below w18.heap.size w18 w19 := by rw [hw19]; exact (Below.refl _ _).alloc (Nat.le_refl _) _
        have hx19 := heap_alloc_new w18 (.cells #[.bool s67, .slice o67 n67 c67, .slice a67 m67 d67, .bool s67x, .slice o67x n67x c67x, .slice a67x m67x d67x] 26)
        obtain ⟨g19, hg19⟩ : ∃ g, g = w18.heap.size := ⟨_, rfl⟩
        rw [← hw19, ← hg19] at hx19
        have lw19 : w.heap.size ≤ g19 := by rw [hg19]; exact HB18.out.size
        have ltBX119 : g1 < g19 := by rw [hg19]; exact below_lt BX1.out
        have ltBX219 : g2 < g19 := by rw [hg19]; exact below_lt BX2.out
        have ltBX319 : g3 < g19 := by rw [hg19]; exact below_lt BX3.out
        have ltBX13_1819 : g13_18 < g19 := by rw [hg19]; exact below_lt BX13_18.out
        have ltBX21_1819 : g21_18 < g19 := by rw [hg19]; exact below_lt BX21_18.out
        have HW19 := Lib.hid hw19; have HG19 := Lib.hid hg19; clear hw19 hg19
        have HB19 := Lib.hid (HB18.out.step hb19)
        have Fa := Lib.hid (Fa.out.below hb19)
        have Fal := Lib.hid (Fal.out.below hb19)
        have Fah := Lib.hid (Fah.out.below hb19)
        have FaV := Lib.hid (FaV.out.below hb19)
        have Fb := Lib.hid (Fb.out.below hb19)
        have Fbl := Lib.hid (Fbl.out.below hb19)
        have Fbh := Lib.hid (Fbh.out.below hb19)
        have FbV := Lib.hid (FbV.out.below hb19)
        have N13_16 := Lib.hid (N13_16.out.below hb19)
        have N13_16l := Lib.hid (N13_16l.out.below hb19)
        have N13_16h := Lib.hid (N13_16h.out.below hb19)
        have N21_16 := Lib.hid (N21_16.out.below hb19)
        have N21_16l := Lib.hid (N21_16l.out.below hb19)
        have N21_16h := Lib.hid (N21_16h.out.below hb19)
        have N54_39 := Lib.hid (N54_39.out.below hb19)
        have N54_39l := Lib.hid (N54_39l.out.below hb19)
        have N54_39h := Lib.hid (N54_39h.out.below hb19)
        have N16 := Lib.hid (N16.out.below hb19)
        have N16l := Lib.hid (N16l.out.below hb19)
        have N16h := Lib.hid (N16h.out.below hb19)
        have N18 := Lib.hid (N18.out.below hb19)
        have N18l := Lib.hid (N18l.out.below hb19)
        have N18h := Lib.hid (N18h.out.below hb19)
        have BX1 := Lib.hid (heap_below BX1.out hb19)
        have BX2 := Lib.hid (heap_below BX2.out hb19)
        have BX3 := Lib.hid (heap_below BX3.out hb19)
        have BX13_18 := Lib.hid (heap_below BX13_18.out hb19)
        have BX21_18 := Lib.hid (heap_below BX21_18.out hb19)
        have BX19 := Lib.hid hx19; clear hb19 hx19
        obtain ⟨x68_0, x68_1, x68_2, x68_3, x68_4, x68_5⟩ := row6 BX13_18.out
        obtain ⟨x69_0, x69_1, x69_2, x69_3, x69_4, x69_5⟩ := row6 BX21_18.out
        obtain ⟨k70, k71⟩ := rl_sdVD (smV (inK ((p_a, r_a)) mn0) (inK ((p_a, r_a)) mx0)) (smV (inK ((p_b, r_b)) mn1) (inK ((p_b, r_b)) mx1))
        have hs := sdiv_any _ (smV (inK ((p_a, r_a)) mn0) (inK ((p_a, r_a)) mx0)) _ (smV (inK ((p_b, r_b)) mn1) (inK ((p_b, r_b)) mx1)) w19 (N13_16.out.is (smV_ok _ _) (by omega) (by omega)) (N21_16.out.is (smV_ok _ _) (by omega) (by omega)) (by omega) (by omega) (by omega) (by omega)
        rw [HG.out, errV_zero] at hs
        have HS := Lib.hid hs; clear hs
        try rw [HW19.out] at x68_0
        try rw [HG19.out] at x68_0
        try rw [HW19.out] at x68_1
        try rw [HG19.out] at x68_1
        try rw [HW19.out] at x68_2
        try rw [HG19.out] at x68_2
        try rw [HW19.out] at x68_3
        try rw [HG19.out] at x68_3
        try rw [HW19.out] at x68_4
        try rw [HG19.out] at x68_4
        try rw [HW19.out] at x68_5
        try rw [HG19.out] at x68_5
        try rw [HW19.out] at x69_0
        try rw [HG19.out] at x69_0
        try rw [HW19.out] at x69_1
        try rw [HG19.out] at x69_1
        try rw [HW19.out] at x69_2
        try rw [HG19.out] at x69_2
        try rw [HW19.out] at x69_3
        try rw [HG19.out] at x69_3
        try rw [HW19.out] at x69_4
        try rw [HG19.out] at x69_4
        try rw [HW19.out] at x69_5
        try rw [HG19.out] at x69_5
        go_wp2_with (with_reducible first | refine pauseCall ?_ | refine pauseLoop ?_ | refine pauseDraw ?_ | refine pauseBody ?_ | refine pauseRounds ?_)
        try rw [← HW19.out]
        try rw [← HG19.out]
        clear x68_0 x68_1 x68_2 x68_3 x68_4 x68_5 x69_0 x69_1 x69_2 x69_3 x69_4 x69_5
        refine Pause.mk ?_
        (with_reducible refine HS.out.mono ?_); rintro e w20 ⟨v20, rfl, hb20, hn20⟩
        clear HS
        have HB20 := Lib.hid (HB19.out.step hb20)
        have Fa := Lib.hid (Fa.out.below hb20)
        have Fal := Lib.hid (Fal.out.below hb20)
        have Fah := Lib.hid (Fah.out.below hb20)
        have FaV := Lib.hid (FaV.out.below hb20)
        have Fb := Lib.hid (Fb.out.below hb20)
        have Fbl := Lib.hid (Fbl.out.below hb20)
        have Fbh := Lib.hid (Fbh.out.below hb20)
        have FbV := Lib.hid (FbV.out.below hb20)
        have N13_16 := Lib.hid (N13_16.out.below hb20)
        have N13_16l := Lib.hid (N13_16l.out.below hb20)
        have N13_16h := Lib.hid (N13_16h.out.below hb20)
        have N21_16 := Lib.hid (N21_16.out.below hb20)
        have N21_16l := Lib.hid (N21_16l.out.below hb20)
        have N21_16h := Lib.hid (N21_16h.out.below hb20)
        have N54_39 := Lib.hid (N54_39.out.below hb20)
        have N54_39l := Lib.hid (N54_39l.out.below hb20)
        have N54_39h := Lib.hid (N54_39h.out.below hb20)
        have N16 := Lib.hid (N16.out.below hb20)
        have N16l := Lib.hid (N16l.out.below hb20)
        have N16h := Lib.hid (N16h.out.below hb20)
        have N18 := Lib.hid (N18.out.below hb20)
        have N18l := Lib.hid (N18l.out.below hb20)
        have N18h := Lib.hid (N18h.out.below hb20)
        have BX1 := Lib.hid (heap_below BX1.out hb20)
        have BX2 := Lib.hid (heap_below BX2.out hb20)
        have BX3 := Lib.hid (heap_below BX3.out hb20)
        have BX13_18 := Lib.hid (heap_below BX13_18.out hb20)
        have BX21_18 := Lib.hid (heap_below BX21_18.out hb20)
        have BX19 := Lib.hid (heap_below BX19.out hb20)
        have N20 := Lib.hid hn20; clear hn20
        obtain ⟨s72, o72, n72, c72, a72, m72, d72, s72x, o72x, n72x, c72x, a72x, m72x, d72x, rfl⟩ := N20.out.shape
        have N20l := Lib.hid (isSp_ends N20.out).1; have N20h := Lib.hid (isSp_ends N20.out).2
        clear hb20
        obtain ⟨w21, hw21⟩ : ∃ w21, w21 = w20.alloc (.cells #[.bool s72, .slice o72 n72 c72, .slice a72 m72 d72, .bool s72x, .slice o72x n72x c72x, .slice a72x m72x d72x] 26) := ⟨_, rfl⟩
        have hb21 : Below w20.heap.size w20 w21 := by rw [hw21]; exact (Below.refl _ _).alloc (Nat.le_refl _) _
        have hx21 := heap_alloc_new w20 (.cells #[.bool s72, .slice o72 n72 c72, .slice a72 m72 d72, .bool s72x, .slice o72x n72x c72x, .slice a72x m72x d72x] 26)
        obtain ⟨g21, hg21⟩ : ∃ g, g = w20.heap.size := ⟨_, rfl⟩
        rw [← hw21, ← hg21] at hx21
        have lw21 : w.heap.size ≤ g21 := by rw [hg21]; exact HB20.out.size
        have ltBX121 : g1 < g21 := by rw [hg21]; exact below_lt BX1.out
        have ltBX221 : g2 < g21 := by rw [hg21]; exact below_lt BX2.out
        have ltBX321 : g3 < g21 := by rw [hg21]; exact below_lt BX3.out
        have ltBX13_1821 : g13_18 < g21 := by rw [hg21]; exact below_lt BX13_18.out
        have ltBX21_1821 : g21_18 < g21 := by rw [hg21]; exact below_lt BX21_18.out
        have ltBX1921 : g19 < g21 := by rw [hg21]; exact below_lt BX19.out
        have HW21 := Lib.hid hw21; have HG21 := Lib.hid hg21; clear hw21 hg21
        have HB21 := Lib.hid (HB20.out.step hb21)
        have Fa := Lib.hid (Fa.out.below hb21)
        have Fal := Lib.hid (Fal.out.below hb21)
        have Fah := Lib.hid (Fah.out.below hb21)
        have FaV := Lib.hid (FaV.out.below hb21)
        have Fb := Lib.hid (Fb.out.below hb21)
        have Fbl := Lib.hid (Fbl.out.below hb21)
        have Fbh := Lib.hid (Fbh.out.below hb21)
        have FbV := Lib.hid (FbV.out.below hb21)
        have N13_16 := Lib.hid (N13_16.out.below hb21)
        have N13_16l := Lib.hid (N13_16l.out.below hb21)
        have N13_16h := Lib.hid (N13_16h.out.below hb21)
        have N21_16 := Lib.hid (N21_16.out.below hb21)
        have N21_16l := Lib.hid (N21_16l.out.below hb21)
        have N21_16h := Lib.hid (N21_16h.out.below hb21)
        have N54_39 := Lib.hid (N54_39.out.below hb21)
        have N54_39l := Lib.hid (N54_39l.out.below hb21)
        have N54_39h := Lib.hid (N54_39h.out.below hb21)
        have N16 := Lib.hid (N16.out.below hb21)
        have N16l := Lib.hid (N16l.out.below hb21)
        have N16h := Lib.hid (N16h.out.below hb21)
        have N18 := Lib.hid (N18.out.below hb21)
        have N18l := Lib.hid (N18l.out.below hb21)
        have N18h := Lib.hid (N18h.out.below hb21)
        have N20 := Lib.hid (N20.out.below hb21)
        have N20l := Lib.hid (N20l.out.below hb21)
        have N20h := Lib.hid (N20h.out.below hb21)
        have BX1 := Lib.hid (heap_below BX1.out hb21)
        have BX2 := Lib.hid (heap_below BX2.out hb21)
        have BX3 := Lib.hid (heap_below BX3.out hb21)
        have BX13_18 := Lib.hid (heap_below BX13_18.out hb21)
        have BX21_18 := Lib.hid (heap_below BX21_18.out hb21)
        have BX19 := Lib.hid (heap_below BX19.out hb21)
        have BX21 := Lib.hid hx21; clear hb21 hx21
        obtain ⟨x73_0, x73_1, x73_2, x73_3, x73_4, x73_5⟩ := row6 BX21.out
        obtain ⟨x74_0, x74_1, x74_2, x74_3, x74_4, x74_5⟩ := row6 BX19.out
        have hs := inside_any _ (sdV (smV (inK ((p_a, r_a)) mn0) (inK ((p_a, r_a)) mx0)) (smV (inK ((p_b, r_b)) mn1) (inK ((p_b, r_b)) mx1))) _ (sdV ((p_a, r_a)) ((p_b, r_b))) w21 (N20.out.is (sdV_ok _ _) (by omega) (by omega)) (N18.out.is (sdV_ok _ _) (by omega) (by omega)) (by omega) (by omega) (by omega) (by omega)
        rw [HI8.out] at hs
        have HS := Lib.hid hs; clear hs
        try rw [HW21.out] at x73_0
        try rw [HG21.out] at x73_0
        try rw [HW21.out] at x73_1
        try rw [HG21.out] at x73_1
        try rw [HW21.out] at x73_2
        try rw [HG21.out] at x73_2
        try rw [HW21.out] at x73_3
        try rw [HG21.out] at x73_3
        try rw [HW21.out] at x73_4
        try rw [HG21.out] at x73_4
        try rw [HW21.out] at x73_5
        try rw [HG21.out] at x73_5
        try rw [HW21.out] at x74_0
        try rw [HG21.out] at x74_0
        try rw [HW21.out] at x74_1
        try rw [HG21.out] at x74_1
        try rw [HW21.out] at x74_2
        try rw [HG21.out] at x74_2
        try rw [HW21.out] at x74_3
        try rw [HG21.out] at x74_3
        try rw [HW21.out] at x74_4
        try rw [HG21.out] at x74_4
        try rw [HW21.out] at x74_5
        try rw [HG21.out] at x74_5
        go_wp2_with (with_reducible first | refine pauseCall ?_ | refine pauseLoop ?_ | refine pauseDraw ?_ | refine pauseBody ?_ | refine pauseRounds ?_)
        try rw [← HW21.out]
        try rw [← HG21.out]
        clear x73_0 x73_1 x73_2 x73_3 x73_4 x73_5 x74_0 x74_1 x74_2 x74_3 x74_4 x74_5
        refine Pause.mk ?_
        (with_reducible refine HS.out.mono ?_); rintro e w22 ⟨rfl, hb22⟩
        clear HS
        have HB22 := Lib.hid (HB21.out.step hb22)
        have Fa := Lib.hid (Fa.out.below hb22)
        have Fal := Lib.hid (Fal.out.below hb22)
        have Fah := Lib.hid (Fah.out.below hb22)
        have FaV := Lib.hid (FaV.out.below hb22)
        have Fb := Lib.hid (Fb.out.below hb22)
        have Fbl := Lib.hid (Fbl.out.below hb22)
        have Fbh := Lib.hid (Fbh.out.below hb22)
        have FbV := Lib.hid (FbV.out.below hb22)
        have N13_16 := Lib.hid (N13_16.out.below hb22)
        have N13_16l := Lib.hid (N13_16l.out.below hb22)
        have N13_16h := Lib.hid (N13_16h.out.below hb22)
        have N21_16 := Lib.hid (N21_16.out.below hb22)
        have N21_16l := Lib.hid (N21_16l.out.below hb22)
        have N21_16h := Lib.hid (N21_16h.out.below hb22)
        have N54_39 := Lib.hid (N54_39.out.below hb22)
        have N54_39l := Lib.hid (N54_39l.out.below hb22)
        have N54_39h := Lib.hid (N54_39h.out.below hb22)
        have N16 := Lib.hid (N16.out.below hb22)
        have N16l := Lib.hid (N16l.out.below hb22)
        have N16h := Lib.hid (N16h.out.below hb22)
        have N18 := Lib.hid (N18.out.below hb22)
        have N18l := Lib.hid (N18l.out.below hb22)
        have N18h := Lib.hid (N18h.out.below hb22)
        have N20 := Lib.hid (N20.out.below hb22)
        have N20l := Lib.hid (N20l.out.below hb22)
        have N20h := Lib.hid (N20h.out.below hb22)
        have BX1 := Lib.hid (heap_below BX1.out hb22)
        have BX2 := Lib.hid (heap_below BX2.out hb22)
        have BX3 := Lib.hid (heap_below BX3.out hb22)
        have BX13_18 := Lib.hid (heap_below BX13_18.out hb22)
        have BX21_18 := Lib.hid (heap_below BX21_18.out hb22)
        have BX19 := Lib.hid (heap_below BX19.out hb22)
        have BX21 := Lib.hid (heap_below BX21.out hb22)
        clear hb22
        go_wp2_with (with_reducible first | refine pauseCall ?_ | refine pauseLoop ?_ | refine pauseDraw ?_ | refine pauseBody ?_ | refine pauseRounds ?_)
        refine Pause.mk ?_
        go_ret
        exact ⟨by first | rfl | (simp; done), HB22.out⟩
theorem spaninside_any (va : Value) (sa : Bool) (aa ba : List Nat) (ta : Bool) (ca da : List Nat) (vb : Value) (sb : Bool) (ab bb : List Nat) (tb : Bool) (cb db : List Nat) (k0 : Nat) (k1 : Nat) (k2 : Nat) (k3 : Nat) (w : World) (ha : SpV w va sa aa ba ta ca da) (hb : SpV w vb sb ab bb tb cb db) (hk0 : k0 < 256) (hk1 : k1 < 256) (hk2 : k2 < 256) (hk3 : k3 < 256) :
    Calls Tryd.prog 6 #[va, vb, .agg #[.int .u8 (k0 : Nat), .int .u8 (k1 : Nat), .int .u8 (k2 : Nat), .int .u8 (k3 : Nat)]] w (RetV w (.bool true)) := by
  by_cases hbig : 6 < aa.length ∨ 6 < ba.length ∨ 6 < ca.length ∨ 6 < da.length ∨ 6 < ab.length ∨ 6 < bb.length ∨ 6 < cb.length ∨ 6 < db.length
  · exact spaninside_big va aa.length ba.length ca.length da.length vb ab.length bb.length cb.length db.length k0 k1 k2 k3 w ha.sz.1 hb.sz.1 hk0 hk1 hk2 hk3 hbig
  by_cases hva : Vld sa aa ba ∧ Vld ta ca da ∧ rq sa aa ba ≤ rq ta ca da
  case neg => exact spaninside_noa va sa aa ba ta ca da vb sb ab bb tb cb db k0 k1 k2 k3 w ha (by omega) (by omega) (by omega) (by omega) hb (by omega) (by omega) (by omega) (by omega) hk0 hk1 hk2 hk3  hva
  by_cases hvb : Vld sb ab bb ∧ Vld tb cb db ∧ rq sb ab bb ≤ rq tb cb db
  case neg => exact spaninside_nob va sa aa ba ta ca da vb sb ab bb tb cb db k0 k1 k2 k3 w ha (by omega) (by omega) (by omega) (by omega) hb (by omega) (by omega) (by omega) (by omega) hk0 hk1 hk2 hk3 hva hvb
  by_cases hz : inS (rq sb ab bb, rq tb cb db) 0
  · exact spaninside_ok1 va sa aa ba ta ca da vb sb ab bb tb cb db k0 k1 k2 k3 w ha (by omega) (by omega) (by omega) (by omega) hva hb (by omega) (by omega) (by omega) (by omega) hvb hk0 hk1 hk2 hk3 hz
  · exact spaninside_ok2 va sa aa ba ta ca da vb sb ab bb tb cb db k0 k1 k2 k3 w ha (by omega) (by omega) (by omega) (by omega) hva hb (by omega) (by omega) (by omega) (by omega) hvb hk0 hk1 hk2 hk3 hz
end Go.Proofs.YtaefimegiobkmaaDoor
