/-
  SpanLattice: the walk of the statement.
  Conditions: each theorem's own.
-/
import Derived.Test.YtaefimegiobkmaaDoorMA6
namespace Go.Proofs.YtaefimegiobkmaaDoor
open Go.RowKit Go.ChangeShapes Go.WideShapes

set_option maxRecDepth 100000 in
set_option maxHeartbeats 3200000 in
theorem spanlattice_big (va : Value) (na ma nax max : Nat) (vb : Value) (nb mb nbx mbx : Nat) (vc : Value) (nc mc ncx mcx : Nat) (w : World) (ha : SpSz va na ma nax max) (hb : SpSz vb nb mb nbx mbx) (hc : SpSz vc nc mc ncx mcx) (hbig : 6 < na ∨ 6 < ma ∨ 6 < nax ∨ 6 < max ∨ 6 < nb ∨ 6 < mb ∨ 6 < nbx ∨ 6 < mbx ∨ 6 < nc ∨ 6 < mc ∨ 6 < ncx ∨ 6 < mcx) :
    Calls Tryd.prog 4 #[va, vb, vc] w (RetV w (.bool true)) := by
  have HBW := Lib.hid (Below.refl w.heap.size w)
  have kz0 : rl 0 ≤ 1 := by rw [rl_zero]; exact Nat.le_refl _
  obtain ⟨qa, oa, ka, pa, ra, qax, oax, kax, pax, rax, rfl, Za⟩ := ha
  obtain ⟨qb, ob, kb, pb, rb, qbx, obx, kbx, pbx, rbx, rfl, Zb⟩ := hb
  obtain ⟨qc, oc, kc, pc, rc, qcx, ocx, kcx, pcx, rcx, rfl, Zc⟩ := hc
  have HBIG := Lib.hid hbig; clear hbig
  obtain ⟨w1, hw1⟩ : ∃ w1, w1 = w.alloc (.cells #[.bool qa, .slice oa na ka, .slice pa ma ra, .bool qax, .slice oax nax kax, .slice pax max rax] 26) := ⟨_, rfl⟩
  have hb1 : Below w.heap.size w w1 := by rw [hw1]; exact (Below.refl _ _).alloc (Nat.le_refl _) _
  have hx1 := heap_alloc_new w (.cells #[.bool qa, .slice oa na ka, .slice pa ma ra, .bool qax, .slice oax nax kax, .slice pax max rax] 26)
  obtain ⟨g1, hg1⟩ : ∃ g, g = w.heap.size := ⟨_, rfl⟩
  rw [← hw1, ← hg1] at hx1
  have lw1 : w.heap.size ≤ g1 := by rw [hg1]; exact HBW.out.size
  have HW1 := Lib.hid hw1; have HG1 := Lib.hid hg1; clear hw1 hg1
  have HB1 := Lib.hid (HBW.out.step hb1)
  have BX1 := Lib.hid hx1; clear hb1 hx1
  obtain ⟨w2, hw2⟩ : ∃ w2, w2 = w1.alloc (.cells #[.bool qb, .slice ob nb kb, .slice pb mb rb, .bool qbx, .slice obx nbx kbx, .slice pbx mbx rbx] 26) := ⟨_, rfl⟩
  have hb2 : Below w1.heap.size w1 w2 := by rw [hw2]; exact (Below.refl _ _).alloc (Nat.le_refl _) _
  have hx2 := heap_alloc_new w1 (.cells #[.bool qb, .slice ob nb kb, .slice pb mb rb, .bool qbx, .slice obx nbx kbx, .slice pbx mbx rbx] 26)
  obtain ⟨g2, hg2⟩ : ∃ g, g = w1.heap.size := ⟨_, rfl⟩
  rw [← hw2, ← hg2] at hx2
  have lw2 : w.heap.size ≤ g2 := by rw [hg2]; exact HB1.out.size
  have ltBX12 : g1 < g2 := by rw [hg2]; exact below_lt BX1.out
  have hs2 : g2 = w.heap.size + 1 := by rw [hg2, HW1.out]; simp
  have HS2 := Lib.hid hs2; clear hs2
  have HW2 := Lib.hid hw2; have HG2 := Lib.hid hg2; clear hw2 hg2
  have HB2 := Lib.hid (HB1.out.step hb2)
  have BX1 := Lib.hid (heap_below BX1.out hb2)
  have BX2 := Lib.hid hx2; clear hb2 hx2
  obtain ⟨w3, hw3⟩ : ∃ w3, w3 = w2.alloc (.cells #[.bool qc, .slice oc nc kc, .slice pc mc rc, .bool qcx, .slice ocx ncx kcx, .slice pcx mcx rcx] 26) := ⟨_, rfl⟩
  have hb3 : Below w2.heap.size w2 w3 := by rw [hw3]; exact (Below.refl _ _).alloc (Nat.le_refl _) _
  have hx3 := heap_alloc_new w2 (.cells #[.bool qc, .slice oc nc kc, .slice pc mc rc, .bool qcx, .slice ocx ncx kcx, .slice pcx mcx rcx] 26)
  obtain ⟨g3, hg3⟩ : ∃ g, g = w2.heap.size := ⟨_, rfl⟩
  rw [← hw3, ← hg3] at hx3
  have lw3 : w.heap.size ≤ g3 := by rw [hg3]; exact HB2.out.size
  have ltBX13 : g1 < g3 := by rw [hg3]; exact below_lt BX1.out
  have ltBX23 : g2 < g3 := by rw [hg3]; exact below_lt BX2.out
  have hs3 : g3 = w.heap.size + 2 := by rw [hg3, HW2.out, HW1.out]; simp
  have HS3 := Lib.hid hs3; clear hs3
  have HW3 := Lib.hid hw3; have HG3 := Lib.hid hg3; clear hw3 hg3
  have HB3 := Lib.hid (HB2.out.step hb3)
  have BX1 := Lib.hid (heap_below BX1.out hb3)
  have BX2 := Lib.hid (heap_below BX2.out hb3)
  have BX3 := Lib.hid hx3; clear hb3 hx3
  go_enter Tryd.func4, Tryd.ntmps4
  have hs := awake03 w3
  have HS := Lib.hid hs; clear hs
  go_wp2_with (with_reducible first | refine pauseCall ?_ | refine pauseLoop ?_ | refine pauseDraw ?_ | refine pauseBody ?_ | refine pauseRounds ?_)
  try rw [← HW1.out]
  try rw [← HW2.out]
  try rw [← HW3.out]
  try rw [← HS3.out]
  try rw [← HS2.out]
  try rw [← HG1.out]
  try rw [← HG2.out]
  try rw [← HG3.out]
  refine Pause.mk ?_
  (with_reducible refine HS.out.mono ?_); rintro e w4 ⟨rfl, hb4⟩
  clear HS
  have HB4 := Lib.hid (HB3.out.step hb4)
  have BX1 := Lib.hid (heap_below BX1.out hb4)
  have BX2 := Lib.hid (heap_below BX2.out hb4)
  have BX3 := Lib.hid (heap_below BX3.out hb4)
  clear hb4
  obtain ⟨x1_0, x1_1, x1_2, x1_3, x1_4, x1_5⟩ := row6 BX1.out
  obtain ⟨x2_0, x2_1, x2_2, x2_3, x2_4, x2_5⟩ := row6 BX2.out
  obtain ⟨x3_0, x3_1, x3_2, x3_3, x3_4, x3_5⟩ := row6 BX3.out
  obtain ⟨w5, hw5⟩ : ∃ w5, w5 = w4.alloc (.cells #[.bool qa, .slice oa na ka, .slice pa ma ra, .bool qax, .slice oax nax kax, .slice pax max rax, .bool qb, .slice ob nb kb, .slice pb mb rb, .bool qbx, .slice obx nbx kbx, .slice pbx mbx rbx, .bool qc, .slice oc nc kc, .slice pc mc rc, .bool qcx, .slice ocx ncx kcx, .slice pcx mcx rcx] 26) := ⟨_, rfl⟩
  have hb5 : Below w4.heap.size w4 w5 := by rw [hw5]; exact (Below.refl _ _).alloc (Nat.le_refl _) _
  have hx5 := heap_alloc_new w4 (.cells #[.bool qa, .slice oa na ka, .slice pa ma ra, .bool qax, .slice oax nax kax, .slice pax max rax, .bool qb, .slice ob nb kb, .slice pb mb rb, .bool qbx, .slice obx nbx kbx, .slice pbx mbx rbx, .bool qc, .slice oc nc kc, .slice pc mc rc, .bool qcx, .slice ocx ncx kcx, .slice pcx mcx rcx] 26)
  obtain ⟨g5, hg5⟩ : ∃ g, g = w4.heap.size := ⟨_, rfl⟩
  rw [← hw5, ← hg5] at hx5
  have lw5 : w.heap.size ≤ g5 := by rw [hg5]; exact HB4.out.size
  have ltBX15 : g1 < g5 := by rw [hg5]; exact below_lt BX1.out
  have ltBX25 : g2 < g5 := by rw [hg5]; exact below_lt BX2.out
  have ltBX35 : g3 < g5 := by rw [hg5]; exact below_lt BX3.out
  have HW5 := Lib.hid hw5; have HG5 := Lib.hid hg5; clear hw5 hg5
  have HB5 := Lib.hid (HB4.out.step hb5)
  have BX1 := Lib.hid (heap_below BX1.out hb5)
  have BX2 := Lib.hid (heap_below BX2.out hb5)
  have BX3 := Lib.hid (heap_below BX3.out hb5)
  have BX5 := Lib.hid hx5; clear hb5 hx5
  have hs := slarge3b BX5.out Za Zb Zc HBIG.out
  have HS := Lib.hid hs; clear hs
  try rw [HG5.out] at x1_0
  try rw [HG5.out] at x1_1
  try rw [HG5.out] at x1_2
  try rw [HG5.out] at x1_3
  try rw [HG5.out] at x1_4
  try rw [HG5.out] at x1_5
  try rw [HG5.out] at x2_0
  try rw [HG5.out] at x2_1
  try rw [HG5.out] at x2_2
  try rw [HG5.out] at x2_3
  try rw [HG5.out] at x2_4
  try rw [HG5.out] at x2_5
  try rw [HG5.out] at x3_0
  try rw [HG5.out] at x3_1
  try rw [HG5.out] at x3_2
  try rw [HG5.out] at x3_3
  try rw [HG5.out] at x3_4
  try rw [HG5.out] at x3_5
  go_wp2_with (with_reducible first | refine pauseCall ?_ | refine pauseLoop ?_ | refine pauseDraw ?_ | refine pauseBody ?_ | refine pauseRounds ?_)
  try rw [← HW5.out]
  try rw [← HG5.out]
  clear x1_0 x1_1 x1_2 x1_3 x1_4 x1_5 x2_0 x2_1 x2_2 x2_3 x2_4 x2_5 x3_0 x3_1 x3_2 x3_3 x3_4 x3_5
  refine Pause.mk ?_
  (with_reducible refine HS.out.mono ?_); rintro e w6 ⟨rfl, hb6⟩
  clear HS
  have HB6 := Lib.hid (HB5.out.step hb6)
  have BX1 := Lib.hid (heap_below BX1.out hb6)
  have BX2 := Lib.hid (heap_below BX2.out hb6)
  have BX3 := Lib.hid (heap_below BX3.out hb6)
  have BX5 := Lib.hid (heap_below BX5.out hb6)
  clear BX5
  clear hb6
  have hs := awake03 w6
  have HS := Lib.hid hs; clear hs
  go_wp2_with (with_reducible first | refine pauseCall ?_ | refine pauseLoop ?_ | refine pauseDraw ?_ | refine pauseBody ?_ | refine pauseRounds ?_)
  refine Pause.mk ?_
  (with_reducible refine HS.out.mono ?_); rintro e w7 ⟨rfl, hb7⟩
  clear HS
  have HB7 := Lib.hid (HB6.out.step hb7)
  have BX1 := Lib.hid (heap_below BX1.out hb7)
  have BX2 := Lib.hid (heap_below BX2.out hb7)
  have BX3 := Lib.hid (heap_below BX3.out hb7)
  clear hb7
  go_wp2_with (with_reducible first | refine pauseCall ?_ | refine pauseLoop ?_ | refine pauseDraw ?_ | refine pauseBody ?_ | refine pauseRounds ?_)
  refine Pause.mk ?_
  go_ret
  exact ⟨by first | rfl | (simp; done), HB7.out⟩
set_option maxRecDepth 100000 in
set_option maxHeartbeats 3200000 in
theorem spanlattice_noa (va : Value) (sa : Bool) (aa ba : List Nat) (ta : Bool) (ca da : List Nat) (vb : Value) (sb : Bool) (ab bb : List Nat) (tb : Bool) (cb db : List Nat) (vc : Value) (sc : Bool) (ac bc : List Nat) (tc : Bool) (cc dc : List Nat) (w : World) (ha : SpV w va sa aa ba ta ca da) (la1 : aa.length ≤ 6) (la2 : ba.length ≤ 6) (la3 : ca.length ≤ 6) (la4 : da.length ≤ 6) (hb : SpV w vb sb ab bb tb cb db) (lb1 : ab.length ≤ 6) (lb2 : bb.length ≤ 6) (lb3 : cb.length ≤ 6) (lb4 : db.length ≤ 6) (hc : SpV w vc sc ac bc tc cc dc) (lc1 : ac.length ≤ 6) (lc2 : bc.length ≤ 6) (lc3 : cc.length ≤ 6) (lc4 : dc.length ≤ 6)  (hva : ¬ (Vld sa aa ba ∧ Vld ta ca da ∧ rq sa aa ba ≤ rq ta ca da)) :
    Calls Tryd.prog 4 #[va, vb, vc] w (RetV w (.bool true)) := by
  have HBW := Lib.hid (Below.refl w.heap.size w)
  have kz0 : rl 0 ≤ 1 := by rw [rl_zero]; exact Nat.le_refl _
  have za := ha.sz.2
  obtain ⟨qa, oa, na, ka, pa, ma, ra, qax, oax, nax, kax, pax, max, rax, rfl⟩ := ha.shape
  have Za : na ≤ 6 ∧ ma ≤ 6 ∧ nax ≤ 6 ∧ max ≤ 6 := by have e1 : na = _ := congrArg (·.1) za; have e2 : ma = _ := congrArg (·.2.1) za; have e3 : nax = _ := congrArg (·.2.2.1) za; have e4 : max = _ := congrArg (·.2.2.2) za; rw [e1, e2, e3, e4]; exact ⟨la1, la2, la3, la4⟩
  clear za
  have hla1 : rl (rq sa aa ba) ≤ 6 := rl_rq ha.lt.1.1 ha.lt.1.2 la1 la2 (by decide); have hla2 : rl (rq ta ca da) ≤ 6 := rl_rq ha.lt.2.1 ha.lt.2.2 la3 la4 (by decide)
  obtain ⟨S_a, hSa⟩ : ∃ S, S = sq sa aa ba ta ca da := ⟨_, rfl⟩
  have hsa : rl S_a.1 ≤ 6 ∧ rl S_a.2 ≤ 6 := by rw [hSa]; exact rl_sq ha.lt.1.1 ha.lt.1.2 ha.lt.2.1 ha.lt.2.2 la1 la2 la3 la4 (by decide)
  obtain ⟨hsa1, hsa2⟩ := hsa
  have Fa := Lib.hid (show SpIs w _ S_a from ⟨_, _, _, _, _, _, ha, hSa.symm, by omega, by omega, by omega, by omega⟩); clear hSa
  have HOa := Lib.hid Fa.out.ok
  obtain ⟨p_a, hpa⟩ : ∃ p, p = rq sa aa ba := ⟨_, rfl⟩; obtain ⟨r_a, hra⟩ : ∃ r, r = rq ta ca da := ⟨_, rfl⟩
  have Fal := Lib.hid (show RatIs w _ p_a from hpa ▸ (spV_ends ha).1.is (by omega) (by omega)); have Fah := Lib.hid (show RatIs w _ r_a from hra ▸ (spV_ends ha).2.is (by omega) (by omega))
  have hla1 : rl p_a ≤ 6 := by rw [hpa]; exact hla1
  have hla2 : rl r_a ≤ 6 := by rw [hra]; exact hla2
  have FaV := Lib.hid ha; clear ha hpa hra
  have zb := hb.sz.2
  obtain ⟨qb, ob, nb, kb, pb, mb, rb, qbx, obx, nbx, kbx, pbx, mbx, rbx, rfl⟩ := hb.shape
  have Zb : nb ≤ 6 ∧ mb ≤ 6 ∧ nbx ≤ 6 ∧ mbx ≤ 6 := by have e1 : nb = _ := congrArg (·.1) zb; have e2 : mb = _ := congrArg (·.2.1) zb; have e3 : nbx = _ := congrArg (·.2.2.1) zb; have e4 : mbx = _ := congrArg (·.2.2.2) zb; rw [e1, e2, e3, e4]; exact ⟨lb1, lb2, lb3, lb4⟩
  clear zb
  have hlb1 : rl (rq sb ab bb) ≤ 6 := rl_rq hb.lt.1.1 hb.lt.1.2 lb1 lb2 (by decide); have hlb2 : rl (rq tb cb db) ≤ 6 := rl_rq hb.lt.2.1 hb.lt.2.2 lb3 lb4 (by decide)
  obtain ⟨S_b, hSb⟩ : ∃ S, S = sq sb ab bb tb cb db := ⟨_, rfl⟩
  have hsb : rl S_b.1 ≤ 6 ∧ rl S_b.2 ≤ 6 := by rw [hSb]; exact rl_sq hb.lt.1.1 hb.lt.1.2 hb.lt.2.1 hb.lt.2.2 lb1 lb2 lb3 lb4 (by decide)
  obtain ⟨hsb1, hsb2⟩ := hsb
  have Fb := Lib.hid (show SpIs w _ S_b from ⟨_, _, _, _, _, _, hb, hSb.symm, by omega, by omega, by omega, by omega⟩); clear hSb
  have HOb := Lib.hid Fb.out.ok
  obtain ⟨p_b, hpb⟩ : ∃ p, p = rq sb ab bb := ⟨_, rfl⟩; obtain ⟨r_b, hrb⟩ : ∃ r, r = rq tb cb db := ⟨_, rfl⟩
  have Fbl := Lib.hid (show RatIs w _ p_b from hpb ▸ (spV_ends hb).1.is (by omega) (by omega)); have Fbh := Lib.hid (show RatIs w _ r_b from hrb ▸ (spV_ends hb).2.is (by omega) (by omega))
  have hlb1 : rl p_b ≤ 6 := by rw [hpb]; exact hlb1
  have hlb2 : rl r_b ≤ 6 := by rw [hrb]; exact hlb2
  have FbV := Lib.hid hb; clear hb hpb hrb
  have zc := hc.sz.2
  obtain ⟨qc, oc, nc, kc, pc, mc, rc, qcx, ocx, ncx, kcx, pcx, mcx, rcx, rfl⟩ := hc.shape
  have Zc : nc ≤ 6 ∧ mc ≤ 6 ∧ ncx ≤ 6 ∧ mcx ≤ 6 := by have e1 : nc = _ := congrArg (·.1) zc; have e2 : mc = _ := congrArg (·.2.1) zc; have e3 : ncx = _ := congrArg (·.2.2.1) zc; have e4 : mcx = _ := congrArg (·.2.2.2) zc; rw [e1, e2, e3, e4]; exact ⟨lc1, lc2, lc3, lc4⟩
  clear zc
  have hlc1 : rl (rq sc ac bc) ≤ 6 := rl_rq hc.lt.1.1 hc.lt.1.2 lc1 lc2 (by decide); have hlc2 : rl (rq tc cc dc) ≤ 6 := rl_rq hc.lt.2.1 hc.lt.2.2 lc3 lc4 (by decide)
  obtain ⟨S_c, hSc⟩ : ∃ S, S = sq sc ac bc tc cc dc := ⟨_, rfl⟩
  have hsc : rl S_c.1 ≤ 6 ∧ rl S_c.2 ≤ 6 := by rw [hSc]; exact rl_sq hc.lt.1.1 hc.lt.1.2 hc.lt.2.1 hc.lt.2.2 lc1 lc2 lc3 lc4 (by decide)
  obtain ⟨hsc1, hsc2⟩ := hsc
  have Fc := Lib.hid (show SpIs w _ S_c from ⟨_, _, _, _, _, _, hc, hSc.symm, by omega, by omega, by omega, by omega⟩); clear hSc
  have HOc := Lib.hid Fc.out.ok
  obtain ⟨p_c, hpc⟩ : ∃ p, p = rq sc ac bc := ⟨_, rfl⟩; obtain ⟨r_c, hrc⟩ : ∃ r, r = rq tc cc dc := ⟨_, rfl⟩
  have Fcl := Lib.hid (show RatIs w _ p_c from hpc ▸ (spV_ends hc).1.is (by omega) (by omega)); have Fch := Lib.hid (show RatIs w _ r_c from hrc ▸ (spV_ends hc).2.is (by omega) (by omega))
  have hlc1 : rl p_c ≤ 6 := by rw [hpc]; exact hlc1
  have hlc2 : rl r_c ≤ 6 := by rw [hrc]; exact hlc2
  have FcV := Lib.hid hc; clear hc hpc hrc
  have HVa := Lib.hid (decide_eq_false hva); clear hva
  obtain ⟨w1, hw1⟩ : ∃ w1, w1 = w.alloc (.cells #[.bool qa, .slice oa na ka, .slice pa ma ra, .bool qax, .slice oax nax kax, .slice pax max rax] 26) := ⟨_, rfl⟩
  have hb1 : Below w.heap.size w w1 := by rw [hw1]; exact (Below.refl _ _).alloc (Nat.le_refl _) _
  have hx1 := heap_alloc_new w (.cells #[.bool qa, .slice oa na ka, .slice pa ma ra, .bool qax, .slice oax nax kax, .slice pax max rax] 26)
  obtain ⟨g1, hg1⟩ : ∃ g, g = w.heap.size := ⟨_, rfl⟩
  rw [← hw1, ← hg1] at hx1
  have lw1 : w.heap.size ≤ g1 := by rw [hg1]; exact HBW.out.size
  have HW1 := Lib.hid hw1; have HG1 := Lib.hid hg1; clear hw1 hg1
  have HB1 := Lib.hid (HBW.out.step hb1)
  have Fa := Lib.hid (Fa.out.below hb1)
  have Fal := Lib.hid (Fal.out.below hb1)
  have Fah := Lib.hid (Fah.out.below hb1)
  have FaV := Lib.hid (FaV.out.below hb1)
  have Fb := Lib.hid (Fb.out.below hb1)
  have Fbl := Lib.hid (Fbl.out.below hb1)
  have Fbh := Lib.hid (Fbh.out.below hb1)
  have FbV := Lib.hid (FbV.out.below hb1)
  have Fc := Lib.hid (Fc.out.below hb1)
  have Fcl := Lib.hid (Fcl.out.below hb1)
  have Fch := Lib.hid (Fch.out.below hb1)
  have FcV := Lib.hid (FcV.out.below hb1)
  have BX1 := Lib.hid hx1; clear hb1 hx1
  obtain ⟨w2, hw2⟩ : ∃ w2, w2 = w1.alloc (.cells #[.bool qb, .slice ob nb kb, .slice pb mb rb, .bool qbx, .slice obx nbx kbx, .slice pbx mbx rbx] 26) := ⟨_, rfl⟩
  have hb2 : Below w1.heap.size w1 w2 := by rw [hw2]; exact (Below.refl _ _).alloc (Nat.le_refl _) _
  have hx2 := heap_alloc_new w1 (.cells #[.bool qb, .slice ob nb kb, .slice pb mb rb, .bool qbx, .slice obx nbx kbx, .slice pbx mbx rbx] 26)
  obtain ⟨g2, hg2⟩ : ∃ g, g = w1.heap.size := ⟨_, rfl⟩
  rw [← hw2, ← hg2] at hx2
  have lw2 : w.heap.size ≤ g2 := by rw [hg2]; exact HB1.out.size
  have ltBX12 : g1 < g2 := by rw [hg2]; exact below_lt BX1.out
  have hs2 : g2 = w.heap.size + 1 := by rw [hg2, HW1.out]; simp
  have HS2 := Lib.hid hs2; clear hs2
  have HW2 := Lib.hid hw2; have HG2 := Lib.hid hg2; clear hw2 hg2
  have HB2 := Lib.hid (HB1.out.step hb2)
  have Fa := Lib.hid (Fa.out.below hb2)
  have Fal := Lib.hid (Fal.out.below hb2)
  have Fah := Lib.hid (Fah.out.below hb2)
  have FaV := Lib.hid (FaV.out.below hb2)
  have Fb := Lib.hid (Fb.out.below hb2)
  have Fbl := Lib.hid (Fbl.out.below hb2)
  have Fbh := Lib.hid (Fbh.out.below hb2)
  have FbV := Lib.hid (FbV.out.below hb2)
  have Fc := Lib.hid (Fc.out.below hb2)
  have Fcl := Lib.hid (Fcl.out.below hb2)
  have Fch := Lib.hid (Fch.out.below hb2)
  have FcV := Lib.hid (FcV.out.below hb2)
  have BX1 := Lib.hid (heap_below BX1.out hb2)
  have BX2 := Lib.hid hx2; clear hb2 hx2
  obtain ⟨w3, hw3⟩ : ∃ w3, w3 = w2.alloc (.cells #[.bool qc, .slice oc nc kc, .slice pc mc rc, .bool qcx, .slice ocx ncx kcx, .slice pcx mcx rcx] 26) := ⟨_, rfl⟩
  have hb3 : Below w2.heap.size w2 w3 := by rw [hw3]; exact (Below.refl _ _).alloc (Nat.le_refl _) _
  have hx3 := heap_alloc_new w2 (.cells #[.bool qc, .slice oc nc kc, .slice pc mc rc, .bool qcx, .slice ocx ncx kcx, .slice pcx mcx rcx] 26)
  obtain ⟨g3, hg3⟩ : ∃ g, g = w2.heap.size := ⟨_, rfl⟩
  rw [← hw3, ← hg3] at hx3
  have lw3 : w.heap.size ≤ g3 := by rw [hg3]; exact HB2.out.size
  have ltBX13 : g1 < g3 := by rw [hg3]; exact below_lt BX1.out
  have ltBX23 : g2 < g3 := by rw [hg3]; exact below_lt BX2.out
  have hs3 : g3 = w.heap.size + 2 := by rw [hg3, HW2.out, HW1.out]; simp
  have HS3 := Lib.hid hs3; clear hs3
  have HW3 := Lib.hid hw3; have HG3 := Lib.hid hg3; clear hw3 hg3
  have HB3 := Lib.hid (HB2.out.step hb3)
  have Fa := Lib.hid (Fa.out.below hb3)
  have Fal := Lib.hid (Fal.out.below hb3)
  have Fah := Lib.hid (Fah.out.below hb3)
  have FaV := Lib.hid (FaV.out.below hb3)
  have Fb := Lib.hid (Fb.out.below hb3)
  have Fbl := Lib.hid (Fbl.out.below hb3)
  have Fbh := Lib.hid (Fbh.out.below hb3)
  have FbV := Lib.hid (FbV.out.below hb3)
  have Fc := Lib.hid (Fc.out.below hb3)
  have Fcl := Lib.hid (Fcl.out.below hb3)
  have Fch := Lib.hid (Fch.out.below hb3)
  have FcV := Lib.hid (FcV.out.below hb3)
  have BX1 := Lib.hid (heap_below BX1.out hb3)
  have BX2 := Lib.hid (heap_below BX2.out hb3)
  have BX3 := Lib.hid hx3; clear hb3 hx3
  go_enter Tryd.func4, Tryd.ntmps4
  have hs := awake03 w3
  have HS := Lib.hid hs; clear hs
  go_wp2_with (with_reducible first | refine pauseCall ?_ | refine pauseLoop ?_ | refine pauseDraw ?_ | refine pauseBody ?_ | refine pauseRounds ?_)
  try rw [← HW1.out]
  try rw [← HW2.out]
  try rw [← HW3.out]
  try rw [← HS3.out]
  try rw [← HS2.out]
  try rw [← HG1.out]
  try rw [← HG2.out]
  try rw [← HG3.out]
  refine Pause.mk ?_
  (with_reducible refine HS.out.mono ?_); rintro e w4 ⟨rfl, hb4⟩
  clear HS
  have HB4 := Lib.hid (HB3.out.step hb4)
  have Fa := Lib.hid (Fa.out.below hb4)
  have Fal := Lib.hid (Fal.out.below hb4)
  have Fah := Lib.hid (Fah.out.below hb4)
  have FaV := Lib.hid (FaV.out.below hb4)
  have Fb := Lib.hid (Fb.out.below hb4)
  have Fbl := Lib.hid (Fbl.out.below hb4)
  have Fbh := Lib.hid (Fbh.out.below hb4)
  have FbV := Lib.hid (FbV.out.below hb4)
  have Fc := Lib.hid (Fc.out.below hb4)
  have Fcl := Lib.hid (Fcl.out.below hb4)
  have Fch := Lib.hid (Fch.out.below hb4)
  have FcV := Lib.hid (FcV.out.below hb4)
  have BX1 := Lib.hid (heap_below BX1.out hb4)
  have BX2 := Lib.hid (heap_below BX2.out hb4)
  have BX3 := Lib.hid (heap_below BX3.out hb4)
  clear hb4
  obtain ⟨x1_0, x1_1, x1_2, x1_3, x1_4, x1_5⟩ := row6 BX1.out
  obtain ⟨x2_0, x2_1, x2_2, x2_3, x2_4, x2_5⟩ := row6 BX2.out
  obtain ⟨x3_0, x3_1, x3_2, x3_3, x3_4, x3_5⟩ := row6 BX3.out
  obtain ⟨w5, hw5⟩ : ∃ w5, w5 = w4.alloc (.cells #[.bool qa, .slice oa na ka, .slice pa ma ra, .bool qax, .slice oax nax kax, .slice pax max rax, .bool qb, .slice ob nb kb, .slice pb mb rb, .bool qbx, .slice obx nbx kbx, .slice pbx mbx rbx, .bool qc, .slice oc nc kc, .slice pc mc rc, .bool qcx, .slice ocx ncx kcx, .slice pcx mcx rcx] 26) := ⟨_, rfl⟩
  have hb5 : Below w4.heap.size w4 w5 := by rw [hw5]; exact (Below.refl _ _).alloc (Nat.le_refl _) _
  have hx5 := heap_alloc_new w4 (.cells #[.bool qa, .slice oa na ka, .slice pa ma ra, .bool qax, .slice oax nax kax, .slice pax max rax, .bool qb, .slice ob nb kb, .slice pb mb rb, .bool qbx, .slice obx nbx kbx, .slice pbx mbx rbx, .bool qc, .slice oc nc kc, .slice pc mc rc, .bool qcx, .slice ocx ncx kcx, .slice pcx mcx rcx] 26)
  obtain ⟨g5, hg5⟩ : ∃ g, g = w4.heap.size := ⟨_, rfl⟩
  rw [← hw5, ← hg5] at hx5
  have lw5 : w.heap.size ≤ g5 := by rw [hg5]; exact HB4.out.size
  have ltBX15 : g1 < g5 := by rw [hg5]; exact below_lt BX1.out
  have ltBX25 : g2 < g5 := by rw [hg5]; exact below_lt BX2.out
  have ltBX35 : g3 < g5 := by rw [hg5]; exact below_lt BX3.out
  have HW5 := Lib.hid hw5; have HG5 := Lib.hid hg5; clear hw5 hg5
  have HB5 := Lib.hid (HB4.out.step hb5)
  have Fa := Lib.hid (Fa.out.below hb5)
  have Fal := Lib.hid (Fal.out.below hb5)
  have Fah := Lib.hid (Fah.out.below hb5)
  have FaV := Lib.hid (FaV.out.below hb5)
  have Fb := Lib.hid (Fb.out.below hb5)
  have Fbl := Lib.hid (Fbl.out.below hb5)
  have Fbh := Lib.hid (Fbh.out.below hb5)
  have FbV := Lib.hid (FbV.out.below hb5)
  have Fc := Lib.hid (Fc.out.below hb5)
  have Fcl := Lib.hid (Fcl.out.below hb5)
  have Fch := Lib.hid (Fch.out.below hb5)
  have FcV := Lib.hid (FcV.out.below hb5)
  have BX1 := Lib.hid (heap_below BX1.out hb5)
  have BX2 := Lib.hid (heap_below BX2.out hb5)
  have BX3 := Lib.hid (heap_below BX3.out hb5)
  have BX5 := Lib.hid hx5; clear hb5 hx5
  have hs := slarge3s BX5.out Za Zb Zc
  have HS := Lib.hid hs; clear hs
  try rw [HG5.out] at x1_0
  try rw [HG5.out] at x1_1
  try rw [HG5.out] at x1_2
  try rw [HG5.out] at x1_3
  try rw [HG5.out] at x1_4
  try rw [HG5.out] at x1_5
  try rw [HG5.out] at x2_0
  try rw [HG5.out] at x2_1
  try rw [HG5.out] at x2_2
  try rw [HG5.out] at x2_3
  try rw [HG5.out] at x2_4
  try rw [HG5.out] at x2_5
  try rw [HG5.out] at x3_0
  try rw [HG5.out] at x3_1
  try rw [HG5.out] at x3_2
  try rw [HG5.out] at x3_3
  try rw [HG5.out] at x3_4
  try rw [HG5.out] at x3_5
  go_wp2_with (with_reducible first | refine pauseCall ?_ | refine pauseLoop ?_ | refine pauseDraw ?_ | refine pauseBody ?_ | refine pauseRounds ?_)
  try rw [← HW5.out]
  try rw [← HG5.out]
  clear x1_0 x1_1 x1_2 x1_3 x1_4 x1_5 x2_0 x2_1 x2_2 x2_3 x2_4 x2_5 x3_0 x3_1 x3_2 x3_3 x3_4 x3_5
  refine Pause.mk ?_
  (with_reducible refine HS.out.mono ?_); rintro e w6 ⟨rfl, hb6⟩
  clear HS
  have HB6 := Lib.hid (HB5.out.step hb6)
  have Fa := Lib.hid (Fa.out.below hb6)
  have Fal := Lib.hid (Fal.out.below hb6)
  have Fah := Lib.hid (Fah.out.below hb6)
  have FaV := Lib.hid (FaV.out.below hb6)
  have Fb := Lib.hid (Fb.out.below hb6)
  have Fbl := Lib.hid (Fbl.out.below hb6)
  have Fbh := Lib.hid (Fbh.out.below hb6)
  have FbV := Lib.hid (FbV.out.below hb6)
  have Fc := Lib.hid (Fc.out.below hb6)
  have Fcl := Lib.hid (Fcl.out.below hb6)
  have Fch := Lib.hid (Fch.out.below hb6)
  have FcV := Lib.hid (FcV.out.below hb6)
  have BX1 := Lib.hid (heap_below BX1.out hb6)
  have BX2 := Lib.hid (heap_below BX2.out hb6)
  have BX3 := Lib.hid (heap_below BX3.out hb6)
  have BX5 := Lib.hid (heap_below BX5.out hb6)
  clear BX5
  clear hb6
  obtain ⟨x4_0, x4_1, x4_2, x4_3, x4_4, x4_5⟩ := row6 BX1.out
  have hs := svalid_any _ sa aa ba ta ca da w6 FaV.out (by omega) (by omega) (by omega) (by omega)
  rw [HVa.out] at hs
  have HS := Lib.hid hs; clear hs
  go_wp2_with (with_reducible first | refine pauseCall ?_ | refine pauseLoop ?_ | refine pauseDraw ?_ | refine pauseBody ?_ | refine pauseRounds ?_)
  clear x4_0 x4_1 x4_2 x4_3 x4_4 x4_5
  refine Pause.mk ?_
  (with_reducible refine HS.out.mono ?_); rintro e w7 ⟨rfl, hb7⟩
  clear HS
  have HB7 := Lib.hid (HB6.out.step hb7)
  have Fa := Lib.hid (Fa.out.below hb7)
  have Fal := Lib.hid (Fal.out.below hb7)
  have Fah := Lib.hid (Fah.out.below hb7)
  have FaV := Lib.hid (FaV.out.below hb7)
  have Fb := Lib.hid (Fb.out.below hb7)
  have Fbl := Lib.hid (Fbl.out.below hb7)
  have Fbh := Lib.hid (Fbh.out.below hb7)
  have FbV := Lib.hid (FbV.out.below hb7)
  have Fc := Lib.hid (Fc.out.below hb7)
  have Fcl := Lib.hid (Fcl.out.below hb7)
  have Fch := Lib.hid (Fch.out.below hb7)
  have FcV := Lib.hid (FcV.out.below hb7)
  have BX1 := Lib.hid (heap_below BX1.out hb7)
  have BX2 := Lib.hid (heap_below BX2.out hb7)
  have BX3 := Lib.hid (heap_below BX3.out hb7)
  clear hb7
  have hs := awake03 w7
  have HS := Lib.hid hs; clear hs
  go_wp2_with (with_reducible first | refine pauseCall ?_ | refine pauseLoop ?_ | refine pauseDraw ?_ | refine pauseBody ?_ | refine pauseRounds ?_)
  refine Pause.mk ?_
  (with_reducible refine HS.out.mono ?_); rintro e w8 ⟨rfl, hb8⟩
  clear HS
  have HB8 := Lib.hid (HB7.out.step hb8)
  have Fa := Lib.hid (Fa.out.below hb8)
  have Fal := Lib.hid (Fal.out.below hb8)
  have Fah := Lib.hid (Fah.out.below hb8)
  have FaV := Lib.hid (FaV.out.below hb8)
  have Fb := Lib.hid (Fb.out.below hb8)
  have Fbl := Lib.hid (Fbl.out.below hb8)
  have Fbh := Lib.hid (Fbh.out.below hb8)
  have FbV := Lib.hid (FbV.out.below hb8)
  have Fc := Lib.hid (Fc.out.below hb8)
  have Fcl := Lib.hid (Fcl.out.below hb8)
  have Fch := Lib.hid (Fch.out.below hb8)
  have FcV := Lib.hid (FcV.out.below hb8)
  have BX1 := Lib.hid (heap_below BX1.out hb8)
  have BX2 := Lib.hid (heap_below BX2.out hb8)
  have BX3 := Lib.hid (heap_below BX3.out hb8)
  clear hb8
  go_wp2_with (with_reducible first | refine pauseCall ?_ | refine pauseLoop ?_ | refine pauseDraw ?_ | refine pauseBody ?_ | refine pauseRounds ?_)
  refine Pause.mk ?_
  go_ret
  exact ⟨by first | rfl | (simp; done), HB8.out⟩
set_option maxRecDepth 100000 in
set_option maxHeartbeats 3200000 in
theorem spanlattice_nob (va : Value) (sa : Bool) (aa ba : List Nat) (ta : Bool) (ca da : List Nat) (vb : Value) (sb : Bool) (ab bb : List Nat) (tb : Bool) (cb db : List Nat) (vc : Value) (sc : Bool) (ac bc : List Nat) (tc : Bool) (cc dc : List Nat) (w : World) (ha : SpV w va sa aa ba ta ca da) (la1 : aa.length ≤ 6) (la2 : ba.length ≤ 6) (la3 : ca.length ≤ 6) (la4 : da.length ≤ 6) (hb : SpV w vb sb ab bb tb cb db) (lb1 : ab.length ≤ 6) (lb2 : bb.length ≤ 6) (lb3 : cb.length ≤ 6) (lb4 : db.length ≤ 6) (hc : SpV w vc sc ac bc tc cc dc) (lc1 : ac.length ≤ 6) (lc2 : bc.length ≤ 6) (lc3 : cc.length ≤ 6) (lc4 : dc.length ≤ 6) (hva : Vld sa aa ba ∧ Vld ta ca da ∧ rq sa aa ba ≤ rq ta ca da) (hvb : ¬ (Vld sb ab bb ∧ Vld tb cb db ∧ rq sb ab bb ≤ rq tb cb db)) :
    Calls Tryd.prog 4 #[va, vb, vc] w (RetV w (.bool true)) := by
  have HBW := Lib.hid (Below.refl w.heap.size w)
  have kz0 : rl 0 ≤ 1 := by rw [rl_zero]; exact Nat.le_refl _
  have za := ha.sz.2
  obtain ⟨qa, oa, na, ka, pa, ma, ra, qax, oax, nax, kax, pax, max, rax, rfl⟩ := ha.shape
  have Za : na ≤ 6 ∧ ma ≤ 6 ∧ nax ≤ 6 ∧ max ≤ 6 := by have e1 : na = _ := congrArg (·.1) za; have e2 : ma = _ := congrArg (·.2.1) za; have e3 : nax = _ := congrArg (·.2.2.1) za; have e4 : max = _ := congrArg (·.2.2.2) za; rw [e1, e2, e3, e4]; exact ⟨la1, la2, la3, la4⟩
  clear za
  have hla1 : rl (rq sa aa ba) ≤ 6 := rl_rq ha.lt.1.1 ha.lt.1.2 la1 la2 (by decide); have hla2 : rl (rq ta ca da) ≤ 6 := rl_rq ha.lt.2.1 ha.lt.2.2 la3 la4 (by decide)
  obtain ⟨S_a, hSa⟩ : ∃ S, S = sq sa aa ba ta ca da := ⟨_, rfl⟩
  have hsa : rl S_a.1 ≤ 6 ∧ rl S_a.2 ≤ 6 := by rw [hSa]; exact rl_sq ha.lt.1.1 ha.lt.1.2 ha.lt.2.1 ha.lt.2.2 la1 la2 la3 la4 (by decide)
  obtain ⟨hsa1, hsa2⟩ := hsa
  have Fa := Lib.hid (show SpIs w _ S_a from ⟨_, _, _, _, _, _, ha, hSa.symm, by omega, by omega, by omega, by omega⟩); clear hSa
  have HOa := Lib.hid Fa.out.ok
  obtain ⟨p_a, hpa⟩ : ∃ p, p = rq sa aa ba := ⟨_, rfl⟩; obtain ⟨r_a, hra⟩ : ∃ r, r = rq ta ca da := ⟨_, rfl⟩
  have Fal := Lib.hid (show RatIs w _ p_a from hpa ▸ (spV_ends ha).1.is (by omega) (by omega)); have Fah := Lib.hid (show RatIs w _ r_a from hra ▸ (spV_ends ha).2.is (by omega) (by omega))
  have hla1 : rl p_a ≤ 6 := by rw [hpa]; exact hla1
  have hla2 : rl r_a ≤ 6 := by rw [hra]; exact hla2
  have FaV := Lib.hid ha; clear ha hpa hra
  have zb := hb.sz.2
  obtain ⟨qb, ob, nb, kb, pb, mb, rb, qbx, obx, nbx, kbx, pbx, mbx, rbx, rfl⟩ := hb.shape
  have Zb : nb ≤ 6 ∧ mb ≤ 6 ∧ nbx ≤ 6 ∧ mbx ≤ 6 := by have e1 : nb = _ := congrArg (·.1) zb; have e2 : mb = _ := congrArg (·.2.1) zb; have e3 : nbx = _ := congrArg (·.2.2.1) zb; have e4 : mbx = _ := congrArg (·.2.2.2) zb; rw [e1, e2, e3, e4]; exact ⟨lb1, lb2, lb3, lb4⟩
  clear zb
  have hlb1 : rl (rq sb ab bb) ≤ 6 := rl_rq hb.lt.1.1 hb.lt.1.2 lb1 lb2 (by decide); have hlb2 : rl (rq tb cb db) ≤ 6 := rl_rq hb.lt.2.1 hb.lt.2.2 lb3 lb4 (by decide)
  obtain ⟨S_b, hSb⟩ : ∃ S, S = sq sb ab bb tb cb db := ⟨_, rfl⟩
  have hsb : rl S_b.1 ≤ 6 ∧ rl S_b.2 ≤ 6 := by rw [hSb]; exact rl_sq hb.lt.1.1 hb.lt.1.2 hb.lt.2.1 hb.lt.2.2 lb1 lb2 lb3 lb4 (by decide)
  obtain ⟨hsb1, hsb2⟩ := hsb
  have Fb := Lib.hid (show SpIs w _ S_b from ⟨_, _, _, _, _, _, hb, hSb.symm, by omega, by omega, by omega, by omega⟩); clear hSb
  have HOb := Lib.hid Fb.out.ok
  obtain ⟨p_b, hpb⟩ : ∃ p, p = rq sb ab bb := ⟨_, rfl⟩; obtain ⟨r_b, hrb⟩ : ∃ r, r = rq tb cb db := ⟨_, rfl⟩
  have Fbl := Lib.hid (show RatIs w _ p_b from hpb ▸ (spV_ends hb).1.is (by omega) (by omega)); have Fbh := Lib.hid (show RatIs w _ r_b from hrb ▸ (spV_ends hb).2.is (by omega) (by omega))
  have hlb1 : rl p_b ≤ 6 := by rw [hpb]; exact hlb1
  have hlb2 : rl r_b ≤ 6 := by rw [hrb]; exact hlb2
  have FbV := Lib.hid hb; clear hb hpb hrb
  have zc := hc.sz.2
  obtain ⟨qc, oc, nc, kc, pc, mc, rc, qcx, ocx, ncx, kcx, pcx, mcx, rcx, rfl⟩ := hc.shape
  have Zc : nc ≤ 6 ∧ mc ≤ 6 ∧ ncx ≤ 6 ∧ mcx ≤ 6 := by have e1 : nc = _ := congrArg (·.1) zc; have e2 : mc = _ := congrArg (·.2.1) zc; have e3 : ncx = _ := congrArg (·.2.2.1) zc; have e4 : mcx = _ := congrArg (·.2.2.2) zc; rw [e1, e2, e3, e4]; exact ⟨lc1, lc2, lc3, lc4⟩
  clear zc
  have hlc1 : rl (rq sc ac bc) ≤ 6 := rl_rq hc.lt.1.1 hc.lt.1.2 lc1 lc2 (by decide); have hlc2 : rl (rq tc cc dc) ≤ 6 := rl_rq hc.lt.2.1 hc.lt.2.2 lc3 lc4 (by decide)
  obtain ⟨S_c, hSc⟩ : ∃ S, S = sq sc ac bc tc cc dc := ⟨_, rfl⟩
  have hsc : rl S_c.1 ≤ 6 ∧ rl S_c.2 ≤ 6 := by rw [hSc]; exact rl_sq hc.lt.1.1 hc.lt.1.2 hc.lt.2.1 hc.lt.2.2 lc1 lc2 lc3 lc4 (by decide)
  obtain ⟨hsc1, hsc2⟩ := hsc
  have Fc := Lib.hid (show SpIs w _ S_c from ⟨_, _, _, _, _, _, hc, hSc.symm, by omega, by omega, by omega, by omega⟩); clear hSc
  have HOc := Lib.hid Fc.out.ok
  obtain ⟨p_c, hpc⟩ : ∃ p, p = rq sc ac bc := ⟨_, rfl⟩; obtain ⟨r_c, hrc⟩ : ∃ r, r = rq tc cc dc := ⟨_, rfl⟩
  have Fcl := Lib.hid (show RatIs w _ p_c from hpc ▸ (spV_ends hc).1.is (by omega) (by omega)); have Fch := Lib.hid (show RatIs w _ r_c from hrc ▸ (spV_ends hc).2.is (by omega) (by omega))
  have hlc1 : rl p_c ≤ 6 := by rw [hpc]; exact hlc1
  have hlc2 : rl r_c ≤ 6 := by rw [hrc]; exact hlc2
  have FcV := Lib.hid hc; clear hc hpc hrc
  have HVa := Lib.hid (decide_eq_true hva); clear hva
  have HVb := Lib.hid (decide_eq_false hvb); clear hvb
  obtain ⟨w1, hw1⟩ : ∃ w1, w1 = w.alloc (.cells #[.bool qa, .slice oa na ka, .slice pa ma ra, .bool qax, .slice oax nax kax, .slice pax max rax] 26) := ⟨_, rfl⟩
  have hb1 : Below w.heap.size w w1 := by rw [hw1]; exact (Below.refl _ _).alloc (Nat.le_refl _) _
  have hx1 := heap_alloc_new w (.cells #[.bool qa, .slice oa na ka, .slice pa ma ra, .bool qax, .slice oax nax kax, .slice pax max rax] 26)
  obtain ⟨g1, hg1⟩ : ∃ g, g = w.heap.size := ⟨_, rfl⟩
  rw [← hw1, ← hg1] at hx1
  have lw1 : w.heap.size ≤ g1 := by rw [hg1]; exact HBW.out.size
  have HW1 := Lib.hid hw1; have HG1 := Lib.hid hg1; clear hw1 hg1
  have HB1 := Lib.hid (HBW.out.step hb1)
  have Fa := Lib.hid (Fa.out.below hb1)
  have Fal := Lib.hid (Fal.out.below hb1)
  have Fah := Lib.hid (Fah.out.below hb1)
  have FaV := Lib.hid (FaV.out.below hb1)
  have Fb := Lib.hid (Fb.out.below hb1)
  have Fbl := Lib.hid (Fbl.out.below hb1)
  have Fbh := Lib.hid (Fbh.out.below hb1)
  have FbV := Lib.hid (FbV.out.below hb1)
  have Fc := Lib.hid (Fc.out.below hb1)
  have Fcl := Lib.hid (Fcl.out.below hb1)
  have Fch := Lib.hid (Fch.out.below hb1)
  have FcV := Lib.hid (FcV.out.below hb1)
  have BX1 := Lib.hid hx1; clear hb1 hx1
  obtain ⟨w2, hw2⟩ : ∃ w2, w2 = w1.alloc (.cells #[.bool qb, .slice ob nb kb, .slice pb mb rb, .bool qbx, .slice obx nbx kbx, .slice pbx mbx rbx] 26) := ⟨_, rfl⟩
  have hb2 : Below w1.heap.size w1 w2 := by rw [hw2]; exact (Below.refl _ _).alloc (Nat.le_refl _) _
  have hx2 := heap_alloc_new w1 (.cells #[.bool qb, .slice ob nb kb, .slice pb mb rb, .bool qbx, .slice obx nbx kbx, .slice pbx mbx rbx] 26)
  obtain ⟨g2, hg2⟩ : ∃ g, g = w1.heap.size := ⟨_, rfl⟩
  rw [← hw2, ← hg2] at hx2
  have lw2 : w.heap.size ≤ g2 := by rw [hg2]; exact HB1.out.size
  have ltBX12 : g1 < g2 := by rw [hg2]; exact below_lt BX1.out
  have hs2 : g2 = w.heap.size + 1 := by rw [hg2, HW1.out]; simp
  have HS2 := Lib.hid hs2; clear hs2
  have HW2 := Lib.hid hw2; have HG2 := Lib.hid hg2; clear hw2 hg2
  have HB2 := Lib.hid (HB1.out.step hb2)
  have Fa := Lib.hid (Fa.out.below hb2)
  have Fal := Lib.hid (Fal.out.below hb2)
  have Fah := Lib.hid (Fah.out.below hb2)
  have FaV := Lib.hid (FaV.out.below hb2)
  have Fb := Lib.hid (Fb.out.below hb2)
  have Fbl := Lib.hid (Fbl.out.below hb2)
  have Fbh := Lib.hid (Fbh.out.below hb2)
  have FbV := Lib.hid (FbV.out.below hb2)
  have Fc := Lib.hid (Fc.out.below hb2)
  have Fcl := Lib.hid (Fcl.out.below hb2)
  have Fch := Lib.hid (Fch.out.below hb2)
  have FcV := Lib.hid (FcV.out.below hb2)
  have BX1 := Lib.hid (heap_below BX1.out hb2)
  have BX2 := Lib.hid hx2; clear hb2 hx2
  obtain ⟨w3, hw3⟩ : ∃ w3, w3 = w2.alloc (.cells #[.bool qc, .slice oc nc kc, .slice pc mc rc, .bool qcx, .slice ocx ncx kcx, .slice pcx mcx rcx] 26) := ⟨_, rfl⟩
  have hb3 : Below w2.heap.size w2 w3 := by rw [hw3]; exact (Below.refl _ _).alloc (Nat.le_refl _) _
  have hx3 := heap_alloc_new w2 (.cells #[.bool qc, .slice oc nc kc, .slice pc mc rc, .bool qcx, .slice ocx ncx kcx, .slice pcx mcx rcx] 26)
  obtain ⟨g3, hg3⟩ : ∃ g, g = w2.heap.size := ⟨_, rfl⟩
  rw [← hw3, ← hg3] at hx3
  have lw3 : w.heap.size ≤ g3 := by rw [hg3]; exact HB2.out.size
  have ltBX13 : g1 < g3 := by rw [hg3]; exact below_lt BX1.out
  have ltBX23 : g2 < g3 := by rw [hg3]; exact below_lt BX2.out
  have hs3 : g3 = w.heap.size + 2 := by rw [hg3, HW2.out, HW1.out]; simp
  have HS3 := Lib.hid hs3; clear hs3
  have HW3 := Lib.hid hw3; have HG3 := Lib.hid hg3; clear hw3 hg3
  have HB3 := Lib.hid (HB2.out.step hb3)
  have Fa := Lib.hid (Fa.out.below hb3)
  have Fal := Lib.hid (Fal.out.below hb3)
  have Fah := Lib.hid (Fah.out.below hb3)
  have FaV := Lib.hid (FaV.out.below hb3)
  have Fb := Lib.hid (Fb.out.below hb3)
  have Fbl := Lib.hid (Fbl.out.below hb3)
  have Fbh := Lib.hid (Fbh.out.below hb3)
  have FbV := Lib.hid (FbV.out.below hb3)
  have Fc := Lib.hid (Fc.out.below hb3)
  have Fcl := Lib.hid (Fcl.out.below hb3)
  have Fch := Lib.hid (Fch.out.below hb3)
  have FcV := Lib.hid (FcV.out.below hb3)
  have BX1 := Lib.hid (heap_below BX1.out hb3)
  have BX2 := Lib.hid (heap_below BX2.out hb3)
  have BX3 := Lib.hid hx3; clear hb3 hx3
  go_enter Tryd.func4, Tryd.ntmps4
  have hs := awake03 w3
  have HS := Lib.hid hs; clear hs
  go_wp2_with (with_reducible first | refine pauseCall ?_ | refine pauseLoop ?_ | refine pauseDraw ?_ | refine pauseBody ?_ | refine pauseRounds ?_)
  try rw [← HW1.out]
  try rw [← HW2.out]
  try rw [← HW3.out]
  try rw [← HS3.out]
  try rw [← HS2.out]
  try rw [← HG1.out]
  try rw [← HG2.out]
  try rw [← HG3.out]
  refine Pause.mk ?_
  (with_reducible refine HS.out.mono ?_); rintro e w4 ⟨rfl, hb4⟩
  clear HS
  have HB4 := Lib.hid (HB3.out.step hb4)
  have Fa := Lib.hid (Fa.out.below hb4)
  have Fal := Lib.hid (Fal.out.below hb4)
  have Fah := Lib.hid (Fah.out.below hb4)
  have FaV := Lib.hid (FaV.out.below hb4)
  have Fb := Lib.hid (Fb.out.below hb4)
  have Fbl := Lib.hid (Fbl.out.below hb4)
  have Fbh := Lib.hid (Fbh.out.below hb4)
  have FbV := Lib.hid (FbV.out.below hb4)
  have Fc := Lib.hid (Fc.out.below hb4)
  have Fcl := Lib.hid (Fcl.out.below hb4)
  have Fch := Lib.hid (Fch.out.below hb4)
  have FcV := Lib.hid (FcV.out.below hb4)
  have BX1 := Lib.hid (heap_below BX1.out hb4)
  have BX2 := Lib.hid (heap_below BX2.out hb4)
  have BX3 := Lib.hid (heap_below BX3.out hb4)
  clear hb4
  obtain ⟨x1_0, x1_1, x1_2, x1_3, x1_4, x1_5⟩ := row6 BX1.out
  obtain ⟨x2_0, x2_1, x2_2, x2_3, x2_4, x2_5⟩ := row6 BX2.out
  obtain ⟨x3_0, x3_1, x3_2, x3_3, x3_4, x3_5⟩ := row6 BX3.out
  obtain ⟨w5, hw5⟩ : ∃ w5, w5 = w4.alloc (.cells #[.bool qa, .slice oa na ka, .slice pa ma ra, .bool qax, .slice oax nax kax, .slice pax max rax, .bool qb, .slice ob nb kb, .slice pb mb rb, .bool qbx, .slice obx nbx kbx, .slice pbx mbx rbx, .bool qc, .slice oc nc kc, .slice pc mc rc, .bool qcx, .slice ocx ncx kcx, .slice pcx mcx rcx] 26) := ⟨_, rfl⟩
  have hb5 : Below w4.heap.size w4 w5 := by rw [hw5]; exact (Below.refl _ _).alloc (Nat.le_refl _) _
  have hx5 := heap_alloc_new w4 (.cells #[.bool qa, .slice oa na ka, .slice pa ma ra, .bool qax, .slice oax nax kax, .slice pax max rax, .bool qb, .slice ob nb kb, .slice pb mb rb, .bool qbx, .slice obx nbx kbx, .slice pbx mbx rbx, .bool qc, .slice oc nc kc, .slice pc mc rc, .bool qcx, .slice ocx ncx kcx, .slice pcx mcx rcx] 26)
  obtain ⟨g5, hg5⟩ : ∃ g, g = w4.heap.size := ⟨_, rfl⟩
  rw [← hw5, ← hg5] at hx5
  have lw5 : w.heap.size ≤ g5 := by rw [hg5]; exact HB4.out.size
  have ltBX15 : g1 < g5 := by rw [hg5]; exact below_lt BX1.out
  have ltBX25 : g2 < g5 := by rw [hg5]; exact below_lt BX2.out
  have ltBX35 : g3 < g5 := by rw [hg5]; exact below_lt BX3.out
  have HW5 := Lib.hid hw5; have HG5 := Lib.hid hg5; clear hw5 hg5
  have HB5 := Lib.hid (HB4.out.step hb5)
  have Fa := Lib.hid (Fa.out.below hb5)
  have Fal := Lib.hid (Fal.out.below hb5)
  have Fah := Lib.hid (Fah.out.below hb5)
  have FaV := Lib.hid (FaV.out.below hb5)
  have Fb := Lib.hid (Fb.out.below hb5)
  have Fbl := Lib.hid (Fbl.out.below hb5)
  have Fbh := Lib.hid (Fbh.out.below hb5)
  have FbV := Lib.hid (FbV.out.below hb5)
  have Fc := Lib.hid (Fc.out.below hb5)
  have Fcl := Lib.hid (Fcl.out.below hb5)
  have Fch := Lib.hid (Fch.out.below hb5)
  have FcV := Lib.hid (FcV.out.below hb5)
  have BX1 := Lib.hid (heap_below BX1.out hb5)
  have BX2 := Lib.hid (heap_below BX2.out hb5)
  have BX3 := Lib.hid (heap_below BX3.out hb5)
  have BX5 := Lib.hid hx5; clear hb5 hx5
  have hs := slarge3s BX5.out Za Zb Zc
  have HS := Lib.hid hs; clear hs
  try rw [HG5.out] at x1_0
  try rw [HG5.out] at x1_1
  try rw [HG5.out] at x1_2
  try rw [HG5.out] at x1_3
  try rw [HG5.out] at x1_4
  try rw [HG5.out] at x1_5
  try rw [HG5.out] at x2_0
  try rw [HG5.out] at x2_1
  try rw [HG5.out] at x2_2
  try rw [HG5.out] at x2_3
  try rw [HG5.out] at x2_4
  try rw [HG5.out] at x2_5
  try rw [HG5.out] at x3_0
  try rw [HG5.out] at x3_1
  try rw [HG5.out] at x3_2
  try rw [HG5.out] at x3_3
  try rw [HG5.out] at x3_4
  try rw [HG5.out] at x3_5
  go_wp2_with (with_reducible first | refine pauseCall ?_ | refine pauseLoop ?_ | refine pauseDraw ?_ | refine pauseBody ?_ | refine pauseRounds ?_)
  try rw [← HW5.out]
  try rw [← HG5.out]
  clear x1_0 x1_1 x1_2 x1_3 x1_4 x1_5 x2_0 x2_1 x2_2 x2_3 x2_4 x2_5 x3_0 x3_1 x3_2 x3_3 x3_4 x3_5
  refine Pause.mk ?_
  (with_reducible refine HS.out.mono ?_); rintro e w6 ⟨rfl, hb6⟩
  clear HS
  have HB6 := Lib.hid (HB5.out.step hb6)
  have Fa := Lib.hid (Fa.out.below hb6)
  have Fal := Lib.hid (Fal.out.below hb6)
  have Fah := Lib.hid (Fah.out.below hb6)
  have FaV := Lib.hid (FaV.out.below hb6)
  have Fb := Lib.hid (Fb.out.below hb6)
  have Fbl := Lib.hid (Fbl.out.below hb6)
  have Fbh := Lib.hid (Fbh.out.below hb6)
  have FbV := Lib.hid (FbV.out.below hb6)
  have Fc := Lib.hid (Fc.out.below hb6)
  have Fcl := Lib.hid (Fcl.out.below hb6)
  have Fch := Lib.hid (Fch.out.below hb6)
  have FcV := Lib.hid (FcV.out.below hb6)
  have BX1 := Lib.hid (heap_below BX1.out hb6)
  have BX2 := Lib.hid (heap_below BX2.out hb6)
  have BX3 := Lib.hid (heap_below BX3.out hb6)
  have BX5 := Lib.hid (heap_below BX5.out hb6)
  clear BX5
  clear hb6
  obtain ⟨x4_0, x4_1, x4_2, x4_3, x4_4, x4_5⟩ := row6 BX1.out
  have hs := svalid_any _ sa aa ba ta ca da w6 FaV.out (by omega) (by omega) (by omega) (by omega)
  rw [HVa.out] at hs
  have HS := Lib.hid hs; clear hs
  go_wp2_with (with_reducible first | refine pauseCall ?_ | refine pauseLoop ?_ | refine pauseDraw ?_ | refine pauseBody ?_ | refine pauseRounds ?_)
  clear x4_0 x4_1 x4_2 x4_3 x4_4 x4_5
  refine Pause.mk ?_
  (with_reducible refine HS.out.mono ?_); rintro e w7 ⟨rfl, hb7⟩
  clear HS
  have HB7 := Lib.hid (HB6.out.step hb7)
  have Fa := Lib.hid (Fa.out.below hb7)
  have Fal := Lib.hid (Fal.out.below hb7)
  have Fah := Lib.hid (Fah.out.below hb7)
  have FaV := Lib.hid (FaV.out.below hb7)
  have Fb := Lib.hid (Fb.out.below hb7)
  have Fbl := Lib.hid (Fbl.out.below hb7)
  have Fbh := Lib.hid (Fbh.out.below hb7)
  have FbV := Lib.hid (FbV.out.below hb7)
  have Fc := Lib.hid (Fc.out.below hb7)
  have Fcl := Lib.hid (Fcl.out.below hb7)
  have Fch := Lib.hid (Fch.out.below hb7)
  have FcV := Lib.hid (FcV.out.below hb7)
  have BX1 := Lib.hid (heap_below BX1.out hb7)
  have BX2 := Lib.hid (heap_below BX2.out hb7)
  have BX3 := Lib.hid (heap_below BX3.out hb7)
  clear hb7
  obtain ⟨x5_0, x5_1, x5_2, x5_3, x5_4, x5_5⟩ := row6 BX2.out
  have hs := svalid_any _ sb ab bb tb cb db w7 FbV.out (by omega) (by omega) (by omega) (by omega)
  rw [HVb.out] at hs
  have HS := Lib.hid hs; clear hs
  go_wp2_with (with_reducible first | refine pauseCall ?_ | refine pauseLoop ?_ | refine pauseDraw ?_ | refine pauseBody ?_ | refine pauseRounds ?_)
  clear x5_0 x5_1 x5_2 x5_3 x5_4 x5_5
  refine Pause.mk ?_
  (with_reducible refine HS.out.mono ?_); rintro e w8 ⟨rfl, hb8⟩
  clear HS
  have HB8 := Lib.hid (HB7.out.step hb8)
  have Fa := Lib.hid (Fa.out.below hb8)
  have Fal := Lib.hid (Fal.out.below hb8)
  have Fah := Lib.hid (Fah.out.below hb8)
  have FaV := Lib.hid (FaV.out.below hb8)
  have Fb := Lib.hid (Fb.out.below hb8)
  have Fbl := Lib.hid (Fbl.out.below hb8)
  have Fbh := Lib.hid (Fbh.out.below hb8)
  have FbV := Lib.hid (FbV.out.below hb8)
  have Fc := Lib.hid (Fc.out.below hb8)
  have Fcl := Lib.hid (Fcl.out.below hb8)
  have Fch := Lib.hid (Fch.out.below hb8)
  have FcV := Lib.hid (FcV.out.below hb8)
  have BX1 := Lib.hid (heap_below BX1.out hb8)
  have BX2 := Lib.hid (heap_below BX2.out hb8)
  have BX3 := Lib.hid (heap_below BX3.out hb8)
  clear hb8
  have hs := awake03 w8
  have HS := Lib.hid hs; clear hs
  go_wp2_with (with_reducible first | refine pauseCall ?_ | refine pauseLoop ?_ | refine pauseDraw ?_ | refine pauseBody ?_ | refine pauseRounds ?_)
  refine Pause.mk ?_
  (with_reducible refine HS.out.mono ?_); rintro e w9 ⟨rfl, hb9⟩
  clear HS
  have HB9 := Lib.hid (HB8.out.step hb9)
  have Fa := Lib.hid (Fa.out.below hb9)
  have Fal := Lib.hid (Fal.out.below hb9)
  have Fah := Lib.hid (Fah.out.below hb9)
  have FaV := Lib.hid (FaV.out.below hb9)
  have Fb := Lib.hid (Fb.out.below hb9)
  have Fbl := Lib.hid (Fbl.out.below hb9)
  have Fbh := Lib.hid (Fbh.out.below hb9)
  have FbV := Lib.hid (FbV.out.below hb9)
  have Fc := Lib.hid (Fc.out.below hb9)
  have Fcl := Lib.hid (Fcl.out.below hb9)
  have Fch := Lib.hid (Fch.out.below hb9)
  have FcV := Lib.hid (FcV.out.below hb9)
  have BX1 := Lib.hid (heap_below BX1.out hb9)
  have BX2 := Lib.hid (heap_below BX2.out hb9)
  have BX3 := Lib.hid (heap_below BX3.out hb9)
  clear hb9
  go_wp2_with (with_reducible first | refine pauseCall ?_ | refine pauseLoop ?_ | refine pauseDraw ?_ | refine pauseBody ?_ | refine pauseRounds ?_)
  refine Pause.mk ?_
  go_ret
  exact ⟨by first | rfl | (simp; done), HB9.out⟩
set_option maxRecDepth 100000 in
set_option maxHeartbeats 3200000 in
theorem spanlattice_noc (va : Value) (sa : Bool) (aa ba : List Nat) (ta : Bool) (ca da : List Nat) (vb : Value) (sb : Bool) (ab bb : List Nat) (tb : Bool) (cb db : List Nat) (vc : Value) (sc : Bool) (ac bc : List Nat) (tc : Bool) (cc dc : List Nat) (w : World) (ha : SpV w va sa aa ba ta ca da) (la1 : aa.length ≤ 6) (la2 : ba.length ≤ 6) (la3 : ca.length ≤ 6) (la4 : da.length ≤ 6) (hb : SpV w vb sb ab bb tb cb db) (lb1 : ab.length ≤ 6) (lb2 : bb.length ≤ 6) (lb3 : cb.length ≤ 6) (lb4 : db.length ≤ 6) (hc : SpV w vc sc ac bc tc cc dc) (lc1 : ac.length ≤ 6) (lc2 : bc.length ≤ 6) (lc3 : cc.length ≤ 6) (lc4 : dc.length ≤ 6) (hva : Vld sa aa ba ∧ Vld ta ca da ∧ rq sa aa ba ≤ rq ta ca da) (hvb : Vld sb ab bb ∧ Vld tb cb db ∧ rq sb ab bb ≤ rq tb cb db) (hvc : ¬ (Vld sc ac bc ∧ Vld tc cc dc ∧ rq sc ac bc ≤ rq tc cc dc)) :
    Calls Tryd.prog 4 #[va, vb, vc] w (RetV w (.bool true)) := by
  have HBW := Lib.hid (Below.refl w.heap.size w)
  have kz0 : rl 0 ≤ 1 := by rw [rl_zero]; exact Nat.le_refl _
  have za := ha.sz.2
  obtain ⟨qa, oa, na, ka, pa, ma, ra, qax, oax, nax, kax, pax, max, rax, rfl⟩ := ha.shape
  have Za : na ≤ 6 ∧ ma ≤ 6 ∧ nax ≤ 6 ∧ max ≤ 6 := by have e1 : na = _ := congrArg (·.1) za; have e2 : ma = _ := congrArg (·.2.1) za; have e3 : nax = _ := congrArg (·.2.2.1) za; have e4 : max = _ := congrArg (·.2.2.2) za; rw [e1, e2, e3, e4]; exact ⟨la1, la2, la3, la4⟩
  clear za
  have hla1 : rl (rq sa aa ba) ≤ 6 := rl_rq ha.lt.1.1 ha.lt.1.2 la1 la2 (by decide); have hla2 : rl (rq ta ca da) ≤ 6 := rl_rq ha.lt.2.1 ha.lt.2.2 la3 la4 (by decide)
  obtain ⟨S_a, hSa⟩ : ∃ S, S = sq sa aa ba ta ca da := ⟨_, rfl⟩
  have hsa : rl S_a.1 ≤ 6 ∧ rl S_a.2 ≤ 6 := by rw [hSa]; exact rl_sq ha.lt.1.1 ha.lt.1.2 ha.lt.2.1 ha.lt.2.2 la1 la2 la3 la4 (by decide)
  obtain ⟨hsa1, hsa2⟩ := hsa
  have Fa := Lib.hid (show SpIs w _ S_a from ⟨_, _, _, _, _, _, ha, hSa.symm, by omega, by omega, by omega, by omega⟩); clear hSa
  have HOa := Lib.hid Fa.out.ok
  obtain ⟨p_a, hpa⟩ : ∃ p, p = rq sa aa ba := ⟨_, rfl⟩; obtain ⟨r_a, hra⟩ : ∃ r, r = rq ta ca da := ⟨_, rfl⟩
  have Fal := Lib.hid (show RatIs w _ p_a from hpa ▸ (spV_ends ha).1.is (by omega) (by omega)); have Fah := Lib.hid (show RatIs w _ r_a from hra ▸ (spV_ends ha).2.is (by omega) (by omega))
  have hla1 : rl p_a ≤ 6 := by rw [hpa]; exact hla1
  have hla2 : rl r_a ≤ 6 := by rw [hra]; exact hla2
  have FaV := Lib.hid ha; clear ha hpa hra
  have zb := hb.sz.2
  obtain ⟨qb, ob, nb, kb, pb, mb, rb, qbx, obx, nbx, kbx, pbx, mbx, rbx, rfl⟩ := hb.shape
  have Zb : nb ≤ 6 ∧ mb ≤ 6 ∧ nbx ≤ 6 ∧ mbx ≤ 6 := by have e1 : nb = _ := congrArg (·.1) zb; have e2 : mb = _ := congrArg (·.2.1) zb; have e3 : nbx = _ := congrArg (·.2.2.1) zb; have e4 : mbx = _ := congrArg (·.2.2.2) zb; rw [e1, e2, e3, e4]; exact ⟨lb1, lb2, lb3, lb4⟩
  clear zb
  have hlb1 : rl (rq sb ab bb) ≤ 6 := rl_rq hb.lt.1.1 hb.lt.1.2 lb1 lb2 (by decide); have hlb2 : rl (rq tb cb db) ≤ 6 := rl_rq hb.lt.2.1 hb.lt.2.2 lb3 lb4 (by decide)
  obtain ⟨S_b, hSb⟩ : ∃ S, S = sq sb ab bb tb cb db := ⟨_, rfl⟩
  have hsb : rl S_b.1 ≤ 6 ∧ rl S_b.2 ≤ 6 := by rw [hSb]; exact rl_sq hb.lt.1.1 hb.lt.1.2 hb.lt.2.1 hb.lt.2.2 lb1 lb2 lb3 lb4 (by decide)
  obtain ⟨hsb1, hsb2⟩ := hsb
  have Fb := Lib.hid (show SpIs w _ S_b from ⟨_, _, _, _, _, _, hb, hSb.symm, by omega, by omega, by omega, by omega⟩); clear hSb
  have HOb := Lib.hid Fb.out.ok
  obtain ⟨p_b, hpb⟩ : ∃ p, p = rq sb ab bb := ⟨_, rfl⟩; obtain ⟨r_b, hrb⟩ : ∃ r, r = rq tb cb db := ⟨_, rfl⟩
  have Fbl := Lib.hid (show RatIs w _ p_b from hpb ▸ (spV_ends hb).1.is (by omega) (by omega)); have Fbh := Lib.hid (show RatIs w _ r_b from hrb ▸ (spV_ends hb).2.is (by omega) (by omega))
  have hlb1 : rl p_b ≤ 6 := by rw [hpb]; exact hlb1
  have hlb2 : rl r_b ≤ 6 := by rw [hrb]; exact hlb2
  have FbV := Lib.hid hb; clear hb hpb hrb
  have zc := hc.sz.2
  obtain ⟨qc, oc, nc, kc, pc, mc, rc, qcx, ocx, ncx, kcx, pcx, mcx, rcx, rfl⟩ := hc.shape
  have Zc : nc ≤ 6 ∧ mc ≤ 6 ∧ ncx ≤ 6 ∧ mcx ≤ 6 := by have e1 : nc = _ := congrArg (·.1) zc; have e2 : mc = _ := congrArg (·.2.1) zc; have e3 : ncx = _ := congrArg (·.2.2.1) zc; have e4 : mcx = _ := congrArg (·.2.2.2) zc; rw [e1, e2, e3, e4]; exact ⟨lc1, lc2, lc3, lc4⟩
  clear zc
  have hlc1 : rl (rq sc ac bc) ≤ 6 := rl_rq hc.lt.1.1 hc.lt.1.2 lc1 lc2 (by decide); have hlc2 : rl (rq tc cc dc) ≤ 6 := rl_rq hc.lt.2.1 hc.lt.2.2 lc3 lc4 (by decide)
  obtain ⟨S_c, hSc⟩ : ∃ S, S = sq sc ac bc tc cc dc := ⟨_, rfl⟩
  have hsc : rl S_c.1 ≤ 6 ∧ rl S_c.2 ≤ 6 := by rw [hSc]; exact rl_sq hc.lt.1.1 hc.lt.1.2 hc.lt.2.1 hc.lt.2.2 lc1 lc2 lc3 lc4 (by decide)
  obtain ⟨hsc1, hsc2⟩ := hsc
  have Fc := Lib.hid (show SpIs w _ S_c from ⟨_, _, _, _, _, _, hc, hSc.symm, by omega, by omega, by omega, by omega⟩); clear hSc
  have HOc := Lib.hid Fc.out.ok
  obtain ⟨p_c, hpc⟩ : ∃ p, p = rq sc ac bc := ⟨_, rfl⟩; obtain ⟨r_c, hrc⟩ : ∃ r, r = rq tc cc dc := ⟨_, rfl⟩
  have Fcl := Lib.hid (show RatIs w _ p_c from hpc ▸ (spV_ends hc).1.is (by omega) (by omega)); have Fch := Lib.hid (show RatIs w _ r_c from hrc ▸ (spV_ends hc).2.is (by omega) (by omega))
  have hlc1 : rl p_c ≤ 6 := by rw [hpc]; exact hlc1
  have hlc2 : rl r_c ≤ 6 := by rw [hrc]; exact hlc2
  have FcV := Lib.hid hc; clear hc hpc hrc
  have HVa := Lib.hid (decide_eq_true hva); clear hva
  have HVb := Lib.hid (decide_eq_true hvb); clear hvb
  have HVc := Lib.hid (decide_eq_false hvc); clear hvc
  obtain ⟨w1, hw1⟩ : ∃ w1, w1 = w.alloc (.cells #[.bool qa, .slice oa na ka, .slice pa ma ra, .bool qax, .slice oax nax kax, .slice pax max rax] 26) := ⟨_, rfl⟩
  have hb1 : Below w.heap.size w w1 := by rw [hw1]; exact (Below.refl _ _).alloc (Nat.le_refl _) _
  have hx1 := heap_alloc_new w (.cells #[.bool qa, .slice oa na ka, .slice pa ma ra, .bool qax, .slice oax nax kax, .slice pax max rax] 26)
  obtain ⟨g1, hg1⟩ : ∃ g, g = w.heap.size := ⟨_, rfl⟩
  rw [← hw1, ← hg1] at hx1
  have lw1 : w.heap.size ≤ g1 := by rw [hg1]; exact HBW.out.size
  have HW1 := Lib.hid hw1; have HG1 := Lib.hid hg1; clear hw1 hg1
  have HB1 := Lib.hid (HBW.out.step hb1)
  have Fa := Lib.hid (Fa.out.below hb1)
  have Fal := Lib.hid (Fal.out.below hb1)
  have Fah := Lib.hid (Fah.out.below hb1)
  have FaV := Lib.hid (FaV.out.below hb1)
  have Fb := Lib.hid (Fb.out.below hb1)
  have Fbl := Lib.hid (Fbl.out.below hb1)
  have Fbh := Lib.hid (Fbh.out.below hb1)
  have FbV := Lib.hid (FbV.out.below hb1)
  have Fc := Lib.hid (Fc.out.below hb1)
  have Fcl := Lib.hid (Fcl.out.below hb1)
  have Fch := Lib.hid (Fch.out.below hb1)
  have FcV := Lib.hid (FcV.out.below hb1)
  have BX1 := Lib.hid hx1; clear hb1 hx1
  obtain ⟨w2, hw2⟩ : ∃ w2, w2 = w1.alloc (.cells #[.bool qb, .slice ob nb kb, .slice pb mb rb, .bool qbx, .slice obx nbx kbx, .slice pbx mbx rbx] 26) := ⟨_, rfl⟩
  have hb2 : Below w1.heap.size w1 w2 := by rw [hw2]; exact (Below.refl _ _).alloc (Nat.le_refl _) _
  have hx2 := heap_alloc_new w1 (.cells #[.bool qb, .slice ob nb kb, .slice pb mb rb, .bool qbx, .slice obx nbx kbx, .slice pbx mbx rbx] 26)
  obtain ⟨g2, hg2⟩ : ∃ g, g = w1.heap.size := ⟨_, rfl⟩
  rw [← hw2, ← hg2] at hx2
  have lw2 : w.heap.size ≤ g2 := by rw [hg2]; exact HB1.out.size
  have ltBX12 : g1 < g2 := by rw [hg2]; exact below_lt BX1.out
  have hs2 : g2 = w.heap.size + 1 := by rw [hg2, HW1.out]; simp
  have HS2 := Lib.hid hs2; clear hs2
  have HW2 := Lib.hid hw2; have HG2 := Lib.hid hg2; clear hw2 hg2
  have HB2 := Lib.hid (HB1.out.step hb2)
  have Fa := Lib.hid (Fa.out.below hb2)
  have Fal := Lib.hid (Fal.out.below hb2)
  have Fah := Lib.hid (Fah.out.below hb2)
  have FaV := Lib.hid (FaV.out.below hb2)
  have Fb := Lib.hid (Fb.out.below hb2)
  have Fbl := Lib.hid (Fbl.out.below hb2)
  have Fbh := Lib.hid (Fbh.out.below hb2)
  have FbV := Lib.hid (FbV.out.below hb2)
  have Fc := Lib.hid (Fc.out.below hb2)
  have Fcl := Lib.hid (Fcl.out.below hb2)
  have Fch := Lib.hid (Fch.out.below hb2)
  have FcV := Lib.hid (FcV.out.below hb2)
  have BX1 := Lib.hid (heap_below BX1.out hb2)
  have BX2 := Lib.hid hx2; clear hb2 hx2
  obtain ⟨w3, hw3⟩ : ∃ w3, w3 = w2.alloc (.cells #[.bool qc, .slice oc nc kc, .slice pc mc rc, .bool qcx, .slice ocx ncx kcx, .slice pcx mcx rcx] 26) := ⟨_, rfl⟩
  have hb3 : Below w2.heap.size w2 w3 := by rw [hw3]; exact (Below.refl _ _).alloc (Nat.le_refl _) _
  have hx3 := heap_alloc_new w2 (.cells #[.bool qc, .slice oc nc kc, .slice pc mc rc, .bool qcx, .slice ocx ncx kcx, .slice pcx mcx rcx] 26)
  obtain ⟨g3, hg3⟩ : ∃ g, g = w2.heap.size := ⟨_, rfl⟩
  rw [← hw3, ← hg3] at hx3
  have lw3 : w.heap.size ≤ g3 := by rw [hg3]; exact HB2.out.size
  have ltBX13 : g1 < g3 := by rw [hg3]; exact below_lt BX1.out
  have ltBX23 : g2 < g3 := by rw [hg3]; exact below_lt BX2.out
  have hs3 : g3 = w.heap.size + 2 := by rw [hg3, HW2.out, HW1.out]; simp
  have HS3 := Lib.hid hs3; clear hs3
  have HW3 := Lib.hid hw3; have HG3 := Lib.hid hg3; clear hw3 hg3
  have HB3 := Lib.hid (HB2.out.step hb3)
  have Fa := Lib.hid (Fa.out.below hb3)
  have Fal := Lib.hid (Fal.out.below hb3)
  have Fah := Lib.hid (Fah.out.below hb3)
  have FaV := Lib.hid (FaV.out.below hb3)
  have Fb := Lib.hid (Fb.out.below hb3)
  have Fbl := Lib.hid (Fbl.out.below hb3)
  have Fbh := Lib.hid (Fbh.out.below hb3)
  have FbV := Lib.hid (FbV.out.below hb3)
  have Fc := Lib.hid (Fc.out.below hb3)
  have Fcl := Lib.hid (Fcl.out.below hb3)
  have Fch := Lib.hid (Fch.out.below hb3)
  have FcV := Lib.hid (FcV.out.below hb3)
  have BX1 := Lib.hid (heap_below BX1.out hb3)
  have BX2 := Lib.hid (heap_below BX2.out hb3)
  have BX3 := Lib.hid hx3; clear hb3 hx3
  go_enter Tryd.func4, Tryd.ntmps4
  have hs := awake03 w3
  have HS := Lib.hid hs; clear hs
  go_wp2_with (with_reducible first | refine pauseCall ?_ | refine pauseLoop ?_ | refine pauseDraw ?_ | refine pauseBody ?_ | refine pauseRounds ?_)
  try rw [← HW1.out]
  try rw [← HW2.out]
  try rw [← HW3.out]
  try rw [← HS3.out]
  try rw [← HS2.out]
  try rw [← HG1.out]
  try rw [← HG2.out]
  try rw [← HG3.out]
  refine Pause.mk ?_
  (with_reducible refine HS.out.mono ?_); rintro e w4 ⟨rfl, hb4⟩
  clear HS
  have HB4 := Lib.hid (HB3.out.step hb4)
  have Fa := Lib.hid (Fa.out.below hb4)
  have Fal := Lib.hid (Fal.out.below hb4)
  have Fah := Lib.hid (Fah.out.below hb4)
  have FaV := Lib.hid (FaV.out.below hb4)
  have Fb := Lib.hid (Fb.out.below hb4)
  have Fbl := Lib.hid (Fbl.out.below hb4)
  have Fbh := Lib.hid (Fbh.out.below hb4)
  have FbV := Lib.hid (FbV.out.below hb4)
  have Fc := Lib.hid (Fc.out.below hb4)
  have Fcl := Lib.hid (Fcl.out.below hb4)
  have Fch := Lib.hid (Fch.out.below hb4)
  have FcV := Lib.hid (FcV.out.below hb4)
  have BX1 := Lib.hid (heap_below BX1.out hb4)
  have BX2 := Lib.hid (heap_below BX2.out hb4)
  have BX3 := Lib.hid (heap_below BX3.out hb4)
  clear hb4
  obtain ⟨x1_0, x1_1, x1_2, x1_3, x1_4, x1_5⟩ := row6 BX1.out
  obtain ⟨x2_0, x2_1, x2_2, x2_3, x2_4, x2_5⟩ := row6 BX2.out
  obtain ⟨x3_0, x3_1, x3_2, x3_3, x3_4, x3_5⟩ := row6 BX3.out
  obtain ⟨w5, hw5⟩ : ∃ w5, w5 = w4.alloc (.cells #[.bool qa, .slice oa na ka, .slice pa ma ra, .bool qax, .slice oax nax kax, .slice pax max rax, .bool qb, .slice ob nb kb, .slice pb mb rb, .bool qbx, .slice obx nbx kbx, .slice pbx mbx rbx, .bool qc, .slice oc nc kc, .slice pc mc rc, .bool qcx, .slice ocx ncx kcx, .slice pcx mcx rcx] 26) := ⟨_, rfl⟩
  have hb5 : Below w4.heap.size w4 w5 := by rw [hw5]; exact (Below.refl _ _).alloc (Nat.le_refl _) _
  have hx5 := heap_alloc_new w4 (.cells #[.bool qa, .slice oa na ka, .slice pa ma ra, .bool qax, .slice oax nax kax, .slice pax max rax, .bool qb, .slice ob nb kb, .slice pb mb rb, .bool qbx, .slice obx nbx kbx, .slice pbx mbx rbx, .bool qc, .slice oc nc kc, .slice pc mc rc, .bool qcx, .slice ocx ncx kcx, .slice pcx mcx rcx] 26)
  obtain ⟨g5, hg5⟩ : ∃ g, g = w4.heap.size := ⟨_, rfl⟩
  rw [← hw5, ← hg5] at hx5
  have lw5 : w.heap.size ≤ g5 := by rw [hg5]; exact HB4.out.size
  have ltBX15 : g1 < g5 := by rw [hg5]; exact below_lt BX1.out
  have ltBX25 : g2 < g5 := by rw [hg5]; exact below_lt BX2.out
  have ltBX35 : g3 < g5 := by rw [hg5]; exact below_lt BX3.out
  have HW5 := Lib.hid hw5; have HG5 := Lib.hid hg5; clear hw5 hg5
  have HB5 := Lib.hid (HB4.out.step hb5)
  have Fa := Lib.hid (Fa.out.below hb5)
  have Fal := Lib.hid (Fal.out.below hb5)
  have Fah := Lib.hid (Fah.out.below hb5)
  have FaV := Lib.hid (FaV.out.below hb5)
  have Fb := Lib.hid (Fb.out.below hb5)
  have Fbl := Lib.hid (Fbl.out.below hb5)
  have Fbh := Lib.hid (Fbh.out.below hb5)
  have FbV := Lib.hid (FbV.out.below hb5)
  have Fc := Lib.hid (Fc.out.below hb5)
  have Fcl := Lib.hid (Fcl.out.below hb5)
  have Fch := Lib.hid (Fch.out.below hb5)
  have FcV := Lib.hid (FcV.out.below hb5)
  have BX1 := Lib.hid (heap_below BX1.out hb5)
  have BX2 := Lib.hid (heap_below BX2.out hb5)
  have BX3 := Lib.hid (heap_below BX3.out hb5)
  have BX5 := Lib.hid hx5; clear hb5 hx5
  have hs := slarge3s BX5.out Za Zb Zc
  have HS := Lib.hid hs; clear hs
  try rw [HG5.out] at x1_0
  try rw [HG5.out] at x1_1
  try rw [HG5.out] at x1_2
  try rw [HG5.out] at x1_3
  try rw [HG5.out] at x1_4
  try rw [HG5.out] at x1_5
  try rw [HG5.out] at x2_0
  try rw [HG5.out] at x2_1
  try rw [HG5.out] at x2_2
  try rw [HG5.out] at x2_3
  try rw [HG5.out] at x2_4
  try rw [HG5.out] at x2_5
  try rw [HG5.out] at x3_0
  try rw [HG5.out] at x3_1
  try rw [HG5.out] at x3_2
  try rw [HG5.out] at x3_3
  try rw [HG5.out] at x3_4
  try rw [HG5.out] at x3_5
  go_wp2_with (with_reducible first | refine pauseCall ?_ | refine pauseLoop ?_ | refine pauseDraw ?_ | refine pauseBody ?_ | refine pauseRounds ?_)
  try rw [← HW5.out]
  try rw [← HG5.out]
  clear x1_0 x1_1 x1_2 x1_3 x1_4 x1_5 x2_0 x2_1 x2_2 x2_3 x2_4 x2_5 x3_0 x3_1 x3_2 x3_3 x3_4 x3_5
  refine Pause.mk ?_
  (with_reducible refine HS.out.mono ?_); rintro e w6 ⟨rfl, hb6⟩
  clear HS
  have HB6 := Lib.hid (HB5.out.step hb6)
  have Fa := Lib.hid (Fa.out.below hb6)
  have Fal := Lib.hid (Fal.out.below hb6)
  have Fah := Lib.hid (Fah.out.below hb6)
  have FaV := Lib.hid (FaV.out.below hb6)
  have Fb := Lib.hid (Fb.out.below hb6)
  have Fbl := Lib.hid (Fbl.out.below hb6)
  have Fbh := Lib.hid (Fbh.out.below hb6)
  have FbV := Lib.hid (FbV.out.below hb6)
  have Fc := Lib.hid (Fc.out.below hb6)
  have Fcl := Lib.hid (Fcl.out.below hb6)
  have Fch := Lib.hid (Fch.out.below hb6)
  have FcV := Lib.hid (FcV.out.below hb6)
  have BX1 := Lib.hid (heap_below BX1.out hb6)
  have BX2 := Lib.hid (heap_below BX2.out hb6)
  have BX3 := Lib.hid (heap_below BX3.out hb6)
  have BX5 := Lib.hid (heap_below BX5.out hb6)
  clear BX5
  clear hb6
  obtain ⟨x4_0, x4_1, x4_2, x4_3, x4_4, x4_5⟩ := row6 BX1.out
  have hs := svalid_any _ sa aa ba ta ca da w6 FaV.out (by omega) (by omega) (by omega) (by omega)
  rw [HVa.out] at hs
  have HS := Lib.hid hs; clear hs
  go_wp2_with (with_reducible first | refine pauseCall ?_ | refine pauseLoop ?_ | refine pauseDraw ?_ | refine pauseBody ?_ | refine pauseRounds ?_)
  clear x4_0 x4_1 x4_2 x4_3 x4_4 x4_5
  refine Pause.mk ?_
  (with_reducible refine HS.out.mono ?_); rintro e w7 ⟨rfl, hb7⟩
  clear HS
  have HB7 := Lib.hid (HB6.out.step hb7)
  have Fa := Lib.hid (Fa.out.below hb7)
  have Fal := Lib.hid (Fal.out.below hb7)
  have Fah := Lib.hid (Fah.out.below hb7)
  have FaV := Lib.hid (FaV.out.below hb7)
  have Fb := Lib.hid (Fb.out.below hb7)
  have Fbl := Lib.hid (Fbl.out.below hb7)
  have Fbh := Lib.hid (Fbh.out.below hb7)
  have FbV := Lib.hid (FbV.out.below hb7)
  have Fc := Lib.hid (Fc.out.below hb7)
  have Fcl := Lib.hid (Fcl.out.below hb7)
  have Fch := Lib.hid (Fch.out.below hb7)
  have FcV := Lib.hid (FcV.out.below hb7)
  have BX1 := Lib.hid (heap_below BX1.out hb7)
  have BX2 := Lib.hid (heap_below BX2.out hb7)
  have BX3 := Lib.hid (heap_below BX3.out hb7)
  clear hb7
  obtain ⟨x5_0, x5_1, x5_2, x5_3, x5_4, x5_5⟩ := row6 BX2.out
  have hs := svalid_any _ sb ab bb tb cb db w7 FbV.out (by omega) (by omega) (by omega) (by omega)
  rw [HVb.out] at hs
  have HS := Lib.hid hs; clear hs
  go_wp2_with (with_reducible first | refine pauseCall ?_ | refine pauseLoop ?_ | refine pauseDraw ?_ | refine pauseBody ?_ | refine pauseRounds ?_)
  clear x5_0 x5_1 x5_2 x5_3 x5_4 x5_5
  refine Pause.mk ?_
  (with_reducible refine HS.out.mono ?_); rintro e w8 ⟨rfl, hb8⟩
  clear HS
  have HB8 := Lib.hid (HB7.out.step hb8)
  have Fa := Lib.hid (Fa.out.below hb8)
  have Fal := Lib.hid (Fal.out.below hb8)
  have Fah := Lib.hid (Fah.out.below hb8)
  have FaV := Lib.hid (FaV.out.below hb8)
  have Fb := Lib.hid (Fb.out.below hb8)
  have Fbl := Lib.hid (Fbl.out.below hb8)
  have Fbh := Lib.hid (Fbh.out.below hb8)
  have FbV := Lib.hid (FbV.out.below hb8)
  have Fc := Lib.hid (Fc.out.below hb8)
  have Fcl := Lib.hid (Fcl.out.below hb8)
  have Fch := Lib.hid (Fch.out.below hb8)
  have FcV := Lib.hid (FcV.out.below hb8)
  have BX1 := Lib.hid (heap_below BX1.out hb8)
  have BX2 := Lib.hid (heap_below BX2.out hb8)
  have BX3 := Lib.hid (heap_below BX3.out hb8)
  clear hb8
  obtain ⟨x6_0, x6_1, x6_2, x6_3, x6_4, x6_5⟩ := row6 BX3.out
  have hs := svalid_any _ sc ac bc tc cc dc w8 FcV.out (by omega) (by omega) (by omega) (by omega)
  rw [HVc.out] at hs
  have HS := Lib.hid hs; clear hs
  go_wp2_with (with_reducible first | refine pauseCall ?_ | refine pauseLoop ?_ | refine pauseDraw ?_ | refine pauseBody ?_ | refine pauseRounds ?_)
  clear x6_0 x6_1 x6_2 x6_3 x6_4 x6_5
  refine Pause.mk ?_
  (with_reducible refine HS.out.mono ?_); rintro e w9 ⟨rfl, hb9⟩
  clear HS
  have HB9 := Lib.hid (HB8.out.step hb9)
  have Fa := Lib.hid (Fa.out.below hb9)
  have Fal := Lib.hid (Fal.out.below hb9)
  have Fah := Lib.hid (Fah.out.below hb9)
  have FaV := Lib.hid (FaV.out.below hb9)
  have Fb := Lib.hid (Fb.out.below hb9)
  have Fbl := Lib.hid (Fbl.out.below hb9)
  have Fbh := Lib.hid (Fbh.out.below hb9)
  have FbV := Lib.hid (FbV.out.below hb9)
  have Fc := Lib.hid (Fc.out.below hb9)
  have Fcl := Lib.hid (Fcl.out.below hb9)
  have Fch := Lib.hid (Fch.out.below hb9)
  have FcV := Lib.hid (FcV.out.below hb9)
  have BX1 := Lib.hid (heap_below BX1.out hb9)
  have BX2 := Lib.hid (heap_below BX2.out hb9)
  have BX3 := Lib.hid (heap_below BX3.out hb9)
  clear hb9
  have hs := awake03 w9
  have HS := Lib.hid hs; clear hs
  go_wp2_with (with_reducible first | refine pauseCall ?_ | refine pauseLoop ?_ | refine pauseDraw ?_ | refine pauseBody ?_ | refine pauseRounds ?_)
  refine Pause.mk ?_
  (with_reducible refine HS.out.mono ?_); rintro e w10 ⟨rfl, hb10⟩
  clear HS
  have HB10 := Lib.hid (HB9.out.step hb10)
  have Fa := Lib.hid (Fa.out.below hb10)
  have Fal := Lib.hid (Fal.out.below hb10)
  have Fah := Lib.hid (Fah.out.below hb10)
  have FaV := Lib.hid (FaV.out.below hb10)
  have Fb := Lib.hid (Fb.out.below hb10)
  have Fbl := Lib.hid (Fbl.out.below hb10)
  have Fbh := Lib.hid (Fbh.out.below hb10)
  have FbV := Lib.hid (FbV.out.below hb10)
  have Fc := Lib.hid (Fc.out.below hb10)
  have Fcl := Lib.hid (Fcl.out.below hb10)
  have Fch := Lib.hid (Fch.out.below hb10)
  have FcV := Lib.hid (FcV.out.below hb10)
  have BX1 := Lib.hid (heap_below BX1.out hb10)
  have BX2 := Lib.hid (heap_below BX2.out hb10)
  have BX3 := Lib.hid (heap_below BX3.out hb10)
  clear hb10
  go_wp2_with (with_reducible first | refine pauseCall ?_ | refine pauseLoop ?_ | refine pauseDraw ?_ | refine pauseBody ?_ | refine pauseRounds ?_)
  refine Pause.mk ?_
  go_ret
  exact ⟨by first | rfl | (simp; done), HB10.out⟩
set_option maxRecDepth 100000 in
set_option maxHeartbeats 12800000 in
theorem spanlattice_ok1 (va : Value) (sa : Bool) (aa ba : List Nat) (ta : Bool) (ca da : List Nat) (vb : Value) (sb : Bool) (ab bb : List Nat) (tb : Bool) (cb db : List Nat) (vc : Value) (sc : Bool) (ac bc : List Nat) (tc : Bool) (cc dc : List Nat) (w : World) (ha : SpV w va sa aa ba ta ca da) (la1 : aa.length ≤ 6) (la2 : ba.length ≤ 6) (la3 : ca.length ≤ 6) (la4 : da.length ≤ 6) (hva : Vld sa aa ba ∧ Vld ta ca da ∧ rq sa aa ba ≤ rq ta ca da) (hb : SpV w vb sb ab bb tb cb db) (lb1 : ab.length ≤ 6) (lb2 : bb.length ≤ 6) (lb3 : cb.length ≤ 6) (lb4 : db.length ≤ 6) (hvb : Vld sb ab bb ∧ Vld tb cb db ∧ rq sb ab bb ≤ rq tb cb db) (hc : SpV w vc sc ac bc tc cc dc) (lc1 : ac.length ≤ 6) (lc2 : bc.length ≤ 6) (lc3 : cc.length ≤ 6) (lc4 : dc.length ≤ 6) (hvc : Vld sc ac bc ∧ Vld tc cc dc ∧ rq sc ac bc ≤ rq tc cc dc) (hm : ¬ (sMeet (rq sa aa ba, rq ta ca da) (rq sb ab bb, rq tb cb db)).1 ≤ (sMeet (rq sa aa ba, rq ta ca da) (rq sb ab bb, rq tb cb db)).2) (hc1 : ¬ subS (rq sc ac bc, rq tc cc dc) (rq sa aa ba, rq ta ca da)) :
    Calls Tryd.prog 4 #[va, vb, vc] w (RetV w (.bool true)) := by
  have HBW := Lib.hid (Below.refl w.heap.size w)
  have kz0 : rl 0 ≤ 1 := by rw [rl_zero]; exact Nat.le_refl _
  have za := ha.sz.2
  obtain ⟨qa, oa, na, ka, pa, ma, ra, qax, oax, nax, kax, pax, max, rax, rfl⟩ := ha.shape
  have Za : na ≤ 6 ∧ ma ≤ 6 ∧ nax ≤ 6 ∧ max ≤ 6 := by have e1 : na = _ := congrArg (·.1) za; have e2 : ma = _ := congrArg (·.2.1) za; have e3 : nax = _ := congrArg (·.2.2.1) za; have e4 : max = _ := congrArg (·.2.2.2) za; rw [e1, e2, e3, e4]; exact ⟨la1, la2, la3, la4⟩
  clear za
  have hla1 : rl (rq sa aa ba) ≤ 6 := rl_rq ha.lt.1.1 ha.lt.1.2 la1 la2 (by decide); have hla2 : rl (rq ta ca da) ≤ 6 := rl_rq ha.lt.2.1 ha.lt.2.2 la3 la4 (by decide)
  have FaI := spV_isSp ha hva.1 hva.2.1
  have hoa := hva.2.2
  have HVa := Lib.hid (decide_eq_true hva); clear hva
  have FaV := Lib.hid ha; clear ha
  obtain ⟨p_a, hpa⟩ : ∃ p, p = rq sa aa ba := ⟨_, rfl⟩; obtain ⟨r_a, hra⟩ : ∃ r, r = rq ta ca da := ⟨_, rfl⟩
  rw [← hpa, ← hra] at FaI; rw [← hpa] at hla1 hoa; rw [← hra] at hla2 hoa
  try rw [← hpa] at hm
  try rw [← hra] at hm
  try rw [← hpa] at hc1
  try rw [← hra] at hc1
  clear hpa hra
  have HOa := Lib.hid hoa; clear hoa
  have Fal := Lib.hid (show IsR _ _ p_a from (isSp_ends FaI).1); have Fah := Lib.hid (show IsR _ _ r_a from (isSp_ends FaI).2); have Fa := Lib.hid FaI; clear FaI
  have zb := hb.sz.2
  obtain ⟨qb, ob, nb, kb, pb, mb, rb, qbx, obx, nbx, kbx, pbx, mbx, rbx, rfl⟩ := hb.shape
  have Zb : nb ≤ 6 ∧ mb ≤ 6 ∧ nbx ≤ 6 ∧ mbx ≤ 6 := by have e1 : nb = _ := congrArg (·.1) zb; have e2 : mb = _ := congrArg (·.2.1) zb; have e3 : nbx = _ := congrArg (·.2.2.1) zb; have e4 : mbx = _ := congrArg (·.2.2.2) zb; rw [e1, e2, e3, e4]; exact ⟨lb1, lb2, lb3, lb4⟩
  clear zb
  have hlb1 : rl (rq sb ab bb) ≤ 6 := rl_rq hb.lt.1.1 hb.lt.1.2 lb1 lb2 (by decide); have hlb2 : rl (rq tb cb db) ≤ 6 := rl_rq hb.lt.2.1 hb.lt.2.2 lb3 lb4 (by decide)
  have FbI := spV_isSp hb hvb.1 hvb.2.1
  have hob := hvb.2.2
  have HVb := Lib.hid (decide_eq_true hvb); clear hvb
  have FbV := Lib.hid hb; clear hb
  obtain ⟨p_b, hpb⟩ : ∃ p, p = rq sb ab bb := ⟨_, rfl⟩; obtain ⟨r_b, hrb⟩ : ∃ r, r = rq tb cb db := ⟨_, rfl⟩
  rw [← hpb, ← hrb] at FbI; rw [← hpb] at hlb1 hob; rw [← hrb] at hlb2 hob
  try rw [← hpb] at hm
  try rw [← hrb] at hm
  try rw [← hpb] at hc1
  try rw [← hrb] at hc1
  clear hpb hrb
  have HOb := Lib.hid hob; clear hob
  have Fbl := Lib.hid (show IsR _ _ p_b from (isSp_ends FbI).1); have Fbh := Lib.hid (show IsR _ _ r_b from (isSp_ends FbI).2); have Fb := Lib.hid FbI; clear FbI
  have zc := hc.sz.2
  obtain ⟨qc, oc, nc, kc, pc, mc, rc, qcx, ocx, ncx, kcx, pcx, mcx, rcx, rfl⟩ := hc.shape
  have Zc : nc ≤ 6 ∧ mc ≤ 6 ∧ ncx ≤ 6 ∧ mcx ≤ 6 := by have e1 : nc = _ := congrArg (·.1) zc; have e2 : mc = _ := congrArg (·.2.1) zc; have e3 : ncx = _ := congrArg (·.2.2.1) zc; have e4 : mcx = _ := congrArg (·.2.2.2) zc; rw [e1, e2, e3, e4]; exact ⟨lc1, lc2, lc3, lc4⟩
  clear zc
  have hlc1 : rl (rq sc ac bc) ≤ 6 := rl_rq hc.lt.1.1 hc.lt.1.2 lc1 lc2 (by decide); have hlc2 : rl (rq tc cc dc) ≤ 6 := rl_rq hc.lt.2.1 hc.lt.2.2 lc3 lc4 (by decide)
  have FcI := spV_isSp hc hvc.1 hvc.2.1
  have hoc := hvc.2.2
  have HVc := Lib.hid (decide_eq_true hvc); clear hvc
  have FcV := Lib.hid hc; clear hc
  obtain ⟨p_c, hpc⟩ : ∃ p, p = rq sc ac bc := ⟨_, rfl⟩; obtain ⟨r_c, hrc⟩ : ∃ r, r = rq tc cc dc := ⟨_, rfl⟩
  rw [← hpc, ← hrc] at FcI; rw [← hpc] at hlc1 hoc; rw [← hrc] at hlc2 hoc
  try rw [← hpc] at hm
  try rw [← hrc] at hm
  try rw [← hpc] at hc1
  try rw [← hrc] at hc1
  clear hpc hrc
  have HOc := Lib.hid hoc; clear hoc
  have Fcl := Lib.hid (show IsR _ _ p_c from (isSp_ends FcI).1); have Fch := Lib.hid (show IsR _ _ r_c from (isSp_ends FcI).2); have Fc := Lib.hid FcI; clear FcI
  have HI1 := Lib.hid (decide_eq_true (show subS ((p_a, r_a)) (sHull ((p_a, r_a)) ((p_b, r_b))) from hull_l))
  have HI2 := Lib.hid (decide_eq_true (show subS ((p_b, r_b)) (sHull ((p_a, r_a)) ((p_b, r_b))) from hull_r))
  obtain ⟨u1, hu1⟩ : ∃ b, b = decide (subS (sHull ((p_a, r_a)) ((p_b, r_b))) ((p_c, r_c))) := ⟨_, rfl⟩
  obtain ⟨u2, hu2⟩ : ∃ b, b = decide (subS ((p_a, r_a)) ((p_c, r_c))) := ⟨_, rfl⟩
  obtain ⟨u3, hu3⟩ : ∃ b, b = decide (subS ((p_b, r_b)) ((p_c, r_c))) := ⟨_, rfl⟩
  have gx : (u1 != (u2 && u3)) = false := by
    have e : u1 = (u2 && u3) := by rw [hu1, hu2, hu3, Bool.eq_iff_iff]; simp only [Bool.and_eq_true, decide_eq_true_eq]; exact hull_sub
    rw [e]; simp
  have GE1 := Lib.hid (show u1 = (u2 && u3) from by rw [hu1, hu2, hu3, Bool.eq_iff_iff]; simp only [Bool.and_eq_true, decide_eq_true_eq]; exact hull_sub)
  have HS := Lib.hid (show stC ((p_a, r_a)) ((p_b, r_b)) = 17 from if_neg hm)
  have HI6 := Lib.hid (decide_eq_false (show ¬ subS ((p_c, r_c)) ((p_a, r_a)) from hc1))
  have Hu1 := Lib.hid hu1.symm; have Hu2 := Lib.hid hu2.symm; have Hu3 := Lib.hid hu3.symm; clear hu1 hu2 hu3
  clear hm hc1
  obtain ⟨w1, hw1⟩ : ∃ w1, w1 = w.alloc (.cells #[.bool qa, .slice oa na ka, .slice pa ma ra, .bool qax, .slice oax nax kax, .slice pax max rax] 26) := ⟨_, rfl⟩
  have hb1 : Below w.heap.size w w1 := by rw [hw1]; exact (Below.refl _ _).alloc (Nat.le_refl _) _
  have hx1 := heap_alloc_new w (.cells #[.bool qa, .slice oa na ka, .slice pa ma ra, .bool qax, .slice oax nax kax, .slice pax max rax] 26)
  obtain ⟨g1, hg1⟩ : ∃ g, g = w.heap.size := ⟨_, rfl⟩
  rw [← hw1, ← hg1] at hx1
  have lw1 : w.heap.size ≤ g1 := by rw [hg1]; exact HBW.out.size
  have HW1 := Lib.hid hw1; have HG1 := Lib.hid hg1; clear hw1 hg1
  have HB1 := Lib.hid (HBW.out.step hb1)
  have Fa := Lib.hid (Fa.out.below hb1)
  have Fal := Lib.hid (Fal.out.below hb1)
  have Fah := Lib.hid (Fah.out.below hb1)
  have FaV := Lib.hid (FaV.out.below hb1)
  have Fb := Lib.hid (Fb.out.below hb1)
  have Fbl := Lib.hid (Fbl.out.below hb1)
  have Fbh := Lib.hid (Fbh.out.below hb1)
  have FbV := Lib.hid (FbV.out.below hb1)
  have Fc := Lib.hid (Fc.out.below hb1)
  have Fcl := Lib.hid (Fcl.out.below hb1)
  have Fch := Lib.hid (Fch.out.below hb1)
  have FcV := Lib.hid (FcV.out.below hb1)
  have BX1 := Lib.hid hx1; clear hb1 hx1
  obtain ⟨w2, hw2⟩ : ∃ w2, w2 = w1.alloc (.cells #[.bool qb, .slice ob nb kb, .slice pb mb rb, .bool qbx, .slice obx nbx kbx, .slice pbx mbx rbx] 26) := ⟨_, rfl⟩
  have hb2 : Below w1.heap.size w1 w2 := by rw [hw2]; exact (Below.refl _ _).alloc (Nat.le_refl _) _
  have hx2 := heap_alloc_new w1 (.cells #[.bool qb, .slice ob nb kb, .slice pb mb rb, .bool qbx, .slice obx nbx kbx, .slice pbx mbx rbx] 26)
  obtain ⟨g2, hg2⟩ : ∃ g, g = w1.heap.size := ⟨_, rfl⟩
  rw [← hw2, ← hg2] at hx2
  have lw2 : w.heap.size ≤ g2 := by rw [hg2]; exact HB1.out.size
  have ltBX12 : g1 < g2 := by rw [hg2]; exact below_lt BX1.out
  have hs2 : g2 = w.heap.size + 1 := by rw [hg2, HW1.out]; simp
  have HS2 := Lib.hid hs2; clear hs2
  have HW2 := Lib.hid hw2; have HG2 := Lib.hid hg2; clear hw2 hg2
  have HB2 := Lib.hid (HB1.out.step hb2)
  have Fa := Lib.hid (Fa.out.below hb2)
  have Fal := Lib.hid (Fal.out.below hb2)
  have Fah := Lib.hid (Fah.out.below hb2)
  have FaV := Lib.hid (FaV.out.below hb2)
  have Fb := Lib.hid (Fb.out.below hb2)
  have Fbl := Lib.hid (Fbl.out.below hb2)
  have Fbh := Lib.hid (Fbh.out.below hb2)
  have FbV := Lib.hid (FbV.out.below hb2)
  have Fc := Lib.hid (Fc.out.below hb2)
  have Fcl := Lib.hid (Fcl.out.below hb2)
  have Fch := Lib.hid (Fch.out.below hb2)
  have FcV := Lib.hid (FcV.out.below hb2)
  have BX1 := Lib.hid (heap_below BX1.out hb2)
  have BX2 := Lib.hid hx2; clear hb2 hx2
  obtain ⟨w3, hw3⟩ : ∃ w3, w3 = w2.alloc (.cells #[.bool qc, .slice oc nc kc, .slice pc mc rc, .bool qcx, .slice ocx ncx kcx, .slice pcx mcx rcx] 26) := ⟨_, rfl⟩
  have hb3 : Below w2.heap.size w2 w3 := by rw [hw3]; exact (Below.refl _ _).alloc (Nat.le_refl _) _
  have hx3 := heap_alloc_new w2 (.cells #[.bool qc, .slice oc nc kc, .slice pc mc rc, .bool qcx, .slice ocx ncx kcx, .slice pcx mcx rcx] 26)
  obtain ⟨g3, hg3⟩ : ∃ g, g = w2.heap.size := ⟨_, rfl⟩
  rw [← hw3, ← hg3] at hx3
  have lw3 : w.heap.size ≤ g3 := by rw [hg3]; exact HB2.out.size
  have ltBX13 : g1 < g3 := by rw [hg3]; exact below_lt BX1.out
  have ltBX23 : g2 < g3 := by rw [hg3]; exact below_lt BX2.out
  have hs3 : g3 = w.heap.size + 2 := by rw [hg3, HW2.out, HW1.out]; simp
  have HS3 := Lib.hid hs3; clear hs3
  have HW3 := Lib.hid hw3; have HG3 := Lib.hid hg3; clear hw3 hg3
  have HB3 := Lib.hid (HB2.out.step hb3)
  have Fa := Lib.hid (Fa.out.below hb3)
  have Fal := Lib.hid (Fal.out.below hb3)
  have Fah := Lib.hid (Fah.out.below hb3)
  have FaV := Lib.hid (FaV.out.below hb3)
  have Fb := Lib.hid (Fb.out.below hb3)
  have Fbl := Lib.hid (Fbl.out.below hb3)
  have Fbh := Lib.hid (Fbh.out.below hb3)
  have FbV := Lib.hid (FbV.out.below hb3)
  have Fc := Lib.hid (Fc.out.below hb3)
  have Fcl := Lib.hid (Fcl.out.below hb3)
  have Fch := Lib.hid (Fch.out.below hb3)
  have FcV := Lib.hid (FcV.out.below hb3)
  have BX1 := Lib.hid (heap_below BX1.out hb3)
  have BX2 := Lib.hid (heap_below BX2.out hb3)
  have BX3 := Lib.hid hx3; clear hb3 hx3
  go_enter Tryd.func4, Tryd.ntmps4
  have hs := awake03 w3
  have HS := Lib.hid hs; clear hs
  go_wp2_with (with_reducible first | refine pauseCall ?_ | refine pauseLoop ?_ | refine pauseDraw ?_ | refine pauseBody ?_ | refine pauseRounds ?_)
  try rw [← HW1.out]
  try rw [← HW2.out]
  try rw [← HW3.out]
  try rw [← HS3.out]
  try rw [← HS2.out]
  try rw [← HG1.out]
  try rw [← HG2.out]
  try rw [← HG3.out]
  refine Pause.mk ?_
  (with_reducible refine HS.out.mono ?_); rintro e w4 ⟨rfl, hb4⟩
  clear HS
  have HB4 := Lib.hid (HB3.out.step hb4)
  have Fa := Lib.hid (Fa.out.below hb4)
  have Fal := Lib.hid (Fal.out.below hb4)
  have Fah := Lib.hid (Fah.out.below hb4)
  have FaV := Lib.hid (FaV.out.below hb4)
  have Fb := Lib.hid (Fb.out.below hb4)
  have Fbl := Lib.hid (Fbl.out.below hb4)
  have Fbh := Lib.hid (Fbh.out.below hb4)
  have FbV := Lib.hid (FbV.out.below hb4)
  have Fc := Lib.hid (Fc.out.below hb4)
  have Fcl := Lib.hid (Fcl.out.below hb4)
  have Fch := Lib.hid (Fch.out.below hb4)
  have FcV := Lib.hid (FcV.out.below hb4)
  have BX1 := Lib.hid (heap_below BX1.out hb4)
  have BX2 := Lib.hid (heap_below BX2.out hb4)
  have BX3 := Lib.hid (heap_below BX3.out hb4)
  clear hb4
  obtain ⟨x1_0, x1_1, x1_2, x1_3, x1_4, x1_5⟩ := row6 BX1.out
  obtain ⟨x2_0, x2_1, x2_2, x2_3, x2_4, x2_5⟩ := row6 BX2.out
  obtain ⟨x3_0, x3_1, x3_2, x3_3, x3_4, x3_5⟩ := row6 BX3.out
  obtain ⟨w5, hw5⟩ : ∃ w5, w5 = w4.alloc (.cells #[.bool qa, .slice oa na ka, .slice pa ma ra, .bool qax, .slice oax nax kax, .slice pax max rax, .bool qb, .slice ob nb kb, .slice pb mb rb, .bool qbx, .slice obx nbx kbx, .slice pbx mbx rbx, .bool qc, .slice oc nc kc, .slice pc mc rc, .bool qcx, .slice ocx ncx kcx, .slice pcx mcx rcx] 26) := ⟨_, rfl⟩
  have hb5 : Below w4.heap.size w4 w5 := by rw [hw5]; exact (Below.refl _ _).alloc (Nat.le_refl _) _
  have hx5 := heap_alloc_new w4 (.cells #[.bool qa, .slice oa na ka, .slice pa ma ra, .bool qax, .slice oax nax kax, .slice pax max rax, .bool qb, .slice ob nb kb, .slice pb mb rb, .bool qbx, .slice obx nbx kbx, .slice pbx mbx rbx, .bool qc, .slice oc nc kc, .slice pc mc rc, .bool qcx, .slice ocx ncx kcx, .slice pcx mcx rcx] 26)
  obtain ⟨g5, hg5⟩ : ∃ g, g = w4.heap.size := ⟨_, rfl⟩
  rw [← hw5, ← hg5] at hx5
  have lw5 : w.heap.size ≤ g5 := by rw [hg5]; exact HB4.out.size
  have ltBX15 : g1 < g5 := by rw [hg5]; exact below_lt BX1.out
  have ltBX25 : g2 < g5 := by rw [hg5]; exact below_lt BX2.out
  have ltBX35 : g3 < g5 := by rw [hg5]; exact below_lt BX3.out
  have HW5 := Lib.hid hw5; have HG5 := Lib.hid hg5; clear hw5 hg5
  have HB5 := Lib.hid (HB4.out.step hb5)
  have Fa := Lib.hid (Fa.out.below hb5)
  have Fal := Lib.hid (Fal.out.below hb5)
  have Fah := Lib.hid (Fah.out.below hb5)
  have FaV := Lib.hid (FaV.out.below hb5)
  have Fb := Lib.hid (Fb.out.below hb5)
  have Fbl := Lib.hid (Fbl.out.below hb5)
  have Fbh := Lib.hid (Fbh.out.below hb5)
  have FbV := Lib.hid (FbV.out.below hb5)
  have Fc := Lib.hid (Fc.out.below hb5)
  have Fcl := Lib.hid (Fcl.out.below hb5)
  have Fch := Lib.hid (Fch.out.below hb5)
  have FcV := Lib.hid (FcV.out.below hb5)
  have BX1 := Lib.hid (heap_below BX1.out hb5)
  have BX2 := Lib.hid (heap_below BX2.out hb5)
  have BX3 := Lib.hid (heap_below BX3.out hb5)
  have BX5 := Lib.hid hx5; clear hb5 hx5
  have hs := slarge3s BX5.out Za Zb Zc
  have HS := Lib.hid hs; clear hs
  try rw [HG5.out] at x1_0
  try rw [HG5.out] at x1_1
  try rw [HG5.out] at x1_2
  try rw [HG5.out] at x1_3
  try rw [HG5.out] at x1_4
  try rw [HG5.out] at x1_5
  try rw [HG5.out] at x2_0
  try rw [HG5.out] at x2_1
  try rw [HG5.out] at x2_2
  try rw [HG5.out] at x2_3
  try rw [HG5.out] at x2_4
  try rw [HG5.out] at x2_5
  try rw [HG5.out] at x3_0
  try rw [HG5.out] at x3_1
  try rw [HG5.out] at x3_2
  try rw [HG5.out] at x3_3
  try rw [HG5.out] at x3_4
  try rw [HG5.out] at x3_5
  go_wp2_with (with_reducible first | refine pauseCall ?_ | refine pauseLoop ?_ | refine pauseDraw ?_ | refine pauseBody ?_ | refine pauseRounds ?_)
  try rw [← HW5.out]
  try rw [← HG5.out]
  clear x1_0 x1_1 x1_2 x1_3 x1_4 x1_5 x2_0 x2_1 x2_2 x2_3 x2_4 x2_5 x3_0 x3_1 x3_2 x3_3 x3_4 x3_5
  refine Pause.mk ?_
  (with_reducible refine HS.out.mono ?_); rintro e w6 ⟨rfl, hb6⟩
  clear HS
  have HB6 := Lib.hid (HB5.out.step hb6)
  have Fa := Lib.hid (Fa.out.below hb6)
  have Fal := Lib.hid (Fal.out.below hb6)
  have Fah := Lib.hid (Fah.out.below hb6)
  have FaV := Lib.hid (FaV.out.below hb6)
  have Fb := Lib.hid (Fb.out.below hb6)
  have Fbl := Lib.hid (Fbl.out.below hb6)
  have Fbh := Lib.hid (Fbh.out.below hb6)
  have FbV := Lib.hid (FbV.out.below hb6)
  have Fc := Lib.hid (Fc.out.below hb6)
  have Fcl := Lib.hid (Fcl.out.below hb6)
  have Fch := Lib.hid (Fch.out.below hb6)
  have FcV := Lib.hid (FcV.out.below hb6)
  have BX1 := Lib.hid (heap_below BX1.out hb6)
  have BX2 := Lib.hid (heap_below BX2.out hb6)
  have BX3 := Lib.hid (heap_below BX3.out hb6)
  have BX5 := Lib.hid (heap_below BX5.out hb6)
  clear BX5
  clear hb6
  obtain ⟨x4_0, x4_1, x4_2, x4_3, x4_4, x4_5⟩ := row6 BX1.out
  obtain ⟨kp5, kp5x⟩ : rl (((p_a), (r_a)) : Rat × Rat).1 ≤ rl (p_a) ∧ rl (((p_a), (r_a)) : Rat × Rat).2 ≤ rl (r_a) := ⟨Nat.le_refl _, Nat.le_refl _⟩
  have hs := svalid_any _ sa aa ba ta ca da w6 FaV.out (by omega) (by omega) (by omega) (by omega)
  rw [HVa.out] at hs
  have HS := Lib.hid hs; clear hs
  go_wp2_with (with_reducible first | refine pauseCall ?_ | refine pauseLoop ?_ | refine pauseDraw ?_ | refine pauseBody ?_ | refine pauseRounds ?_)
  clear x4_0 x4_1 x4_2 x4_3 x4_4 x4_5
  refine Pause.mk ?_
  (with_reducible refine HS.out.mono ?_); rintro e w7 ⟨rfl, hb7⟩
  clear HS
  have HB7 := Lib.hid (HB6.out.step hb7)
  have Fa := Lib.hid (Fa.out.below hb7)
  have Fal := Lib.hid (Fal.out.below hb7)
  have Fah := Lib.hid (Fah.out.below hb7)
  have FaV := Lib.hid (FaV.out.below hb7)
  have Fb := Lib.hid (Fb.out.below hb7)
  have Fbl := Lib.hid (Fbl.out.below hb7)
  have Fbh := Lib.hid (Fbh.out.below hb7)
  have FbV := Lib.hid (FbV.out.below hb7)
  have Fc := Lib.hid (Fc.out.below hb7)
  have Fcl := Lib.hid (Fcl.out.below hb7)
  have Fch := Lib.hid (Fch.out.below hb7)
  have FcV := Lib.hid (FcV.out.below hb7)
  have BX1 := Lib.hid (heap_below BX1.out hb7)
  have BX2 := Lib.hid (heap_below BX2.out hb7)
  have BX3 := Lib.hid (heap_below BX3.out hb7)
  clear hb7
  obtain ⟨x6_0, x6_1, x6_2, x6_3, x6_4, x6_5⟩ := row6 BX2.out
  obtain ⟨kp7, kp7x⟩ : rl (((p_b), (r_b)) : Rat × Rat).1 ≤ rl (p_b) ∧ rl (((p_b), (r_b)) : Rat × Rat).2 ≤ rl (r_b) := ⟨Nat.le_refl _, Nat.le_refl _⟩
  have hs := svalid_any _ sb ab bb tb cb db w7 FbV.out (by omega) (by omega) (by omega) (by omega)
  rw [HVb.out] at hs
  have HS := Lib.hid hs; clear hs
  go_wp2_with (with_reducible first | refine pauseCall ?_ | refine pauseLoop ?_ | refine pauseDraw ?_ | refine pauseBody ?_ | refine pauseRounds ?_)
  clear x6_0 x6_1 x6_2 x6_3 x6_4 x6_5
  refine Pause.mk ?_
  (with_reducible refine HS.out.mono ?_); rintro e w8 ⟨rfl, hb8⟩
  clear HS
  have HB8 := Lib.hid (HB7.out.step hb8)
  have Fa := Lib.hid (Fa.out.below hb8)
  have Fal := Lib.hid (Fal.out.below hb8)
  have Fah := Lib.hid (Fah.out.below hb8)
  have FaV := Lib.hid (FaV.out.below hb8)
  have Fb := Lib.hid (Fb.out.below hb8)
  have Fbl := Lib.hid (Fbl.out.below hb8)
  have Fbh := Lib.hid (Fbh.out.below hb8)
  have FbV := Lib.hid (FbV.out.below hb8)
  have Fc := Lib.hid (Fc.out.below hb8)
  have Fcl := Lib.hid (Fcl.out.below hb8)
  have Fch := Lib.hid (Fch.out.below hb8)
  have FcV := Lib.hid (FcV.out.below hb8)
  have BX1 := Lib.hid (heap_below BX1.out hb8)
  have BX2 := Lib.hid (heap_below BX2.out hb8)
  have BX3 := Lib.hid (heap_below BX3.out hb8)
  clear hb8
  obtain ⟨x8_0, x8_1, x8_2, x8_3, x8_4, x8_5⟩ := row6 BX3.out
  obtain ⟨kp9, kp9x⟩ : rl (((p_c), (r_c)) : Rat × Rat).1 ≤ rl (p_c) ∧ rl (((p_c), (r_c)) : Rat × Rat).2 ≤ rl (r_c) := ⟨Nat.le_refl _, Nat.le_refl _⟩
  have hs := svalid_any _ sc ac bc tc cc dc w8 FcV.out (by omega) (by omega) (by omega) (by omega)
  rw [HVc.out] at hs
  have HS := Lib.hid hs; clear hs
  go_wp2_with (with_reducible first | refine pauseCall ?_ | refine pauseLoop ?_ | refine pauseDraw ?_ | refine pauseBody ?_ | refine pauseRounds ?_)
  clear x8_0 x8_1 x8_2 x8_3 x8_4 x8_5
  refine Pause.mk ?_
  (with_reducible refine HS.out.mono ?_); rintro e w9 ⟨rfl, hb9⟩
  clear HS
  have HB9 := Lib.hid (HB8.out.step hb9)
  have Fa := Lib.hid (Fa.out.below hb9)
  have Fal := Lib.hid (Fal.out.below hb9)
  have Fah := Lib.hid (Fah.out.below hb9)
  have FaV := Lib.hid (FaV.out.below hb9)
  have Fb := Lib.hid (Fb.out.below hb9)
  have Fbl := Lib.hid (Fbl.out.below hb9)
  have Fbh := Lib.hid (Fbh.out.below hb9)
  have FbV := Lib.hid (FbV.out.below hb9)
  have Fc := Lib.hid (Fc.out.below hb9)
  have Fcl := Lib.hid (Fcl.out.below hb9)
  have Fch := Lib.hid (Fch.out.below hb9)
  have FcV := Lib.hid (FcV.out.below hb9)
  have BX1 := Lib.hid (heap_below BX1.out hb9)
  have BX2 := Lib.hid (heap_below BX2.out hb9)
  have BX3 := Lib.hid (heap_below BX3.out hb9)
  clear hb9
  obtain ⟨x10_0, x10_1, x10_2, x10_3, x10_4, x10_5⟩ := row6 BX1.out
  obtain ⟨x11_0, x11_1, x11_2, x11_3, x11_4, x11_5⟩ := row6 BX2.out
  obtain ⟨kp14, kp14x⟩ : rl (((p_a), (r_a)) : Rat × Rat).1 ≤ rl (p_a) ∧ rl (((p_a), (r_a)) : Rat × Rat).2 ≤ rl (r_a) := ⟨Nat.le_refl _, Nat.le_refl _⟩
  obtain ⟨kp15, kp15x⟩ : rl (((p_b), (r_b)) : Rat × Rat).1 ≤ rl (p_b) ∧ rl (((p_b), (r_b)) : Rat × Rat).2 ≤ rl (r_b) := ⟨Nat.le_refl _, Nat.le_refl _⟩
  obtain ⟨k12, k13⟩ := rl_sHull ((p_a, r_a)) ((p_b, r_b))
  have hs := shull_any _ ((p_a, r_a)) _ ((p_b, r_b)) w9 (Fa.out.is HOa.out (by omega) (by omega)) (Fb.out.is HOb.out (by omega) (by omega)) (by omega) (by omega) (by omega) (by omega)
  have HS := Lib.hid hs; clear hs
  go_wp2_with (with_reducible first | refine pauseCall ?_ | refine pauseLoop ?_ | refine pauseDraw ?_ | refine pauseBody ?_ | refine pauseRounds ?_)
  clear x10_0 x10_1 x10_2 x10_3 x10_4 x10_5 x11_0 x11_1 x11_2 x11_3 x11_4 x11_5
  refine Pause.mk ?_
  (with_reducible refine HS.out.mono ?_); rintro e w10 ⟨v10, rfl, hb10, hn10⟩
  clear HS
  have HB10 := Lib.hid (HB9.out.step hb10)
  have Fa := Lib.hid (Fa.out.below hb10)
  have Fal := Lib.hid (Fal.out.below hb10)
  have Fah := Lib.hid (Fah.out.below hb10)
  have FaV := Lib.hid (FaV.out.below hb10)
  have Fb := Lib.hid (Fb.out.below hb10)
  have Fbl := Lib.hid (Fbl.out.below hb10)
  have Fbh := Lib.hid (Fbh.out.below hb10)
  have FbV := Lib.hid (FbV.out.below hb10)
  have Fc := Lib.hid (Fc.out.below hb10)
  have Fcl := Lib.hid (Fcl.out.below hb10)
  have Fch := Lib.hid (Fch.out.below hb10)
  have FcV := Lib.hid (FcV.out.below hb10)
  have BX1 := Lib.hid (heap_below BX1.out hb10)
  have BX2 := Lib.hid (heap_below BX2.out hb10)
  have BX3 := Lib.hid (heap_below BX3.out hb10)
  have N10 := Lib.hid hn10; clear hn10
  obtain ⟨s16, o16, n16, c16, a16, m16, d16, s16x, o16x, n16x, c16x, a16x, m16x, d16x, rfl⟩ := N10.out.shape
  have N10l := Lib.hid (isSp_ends N10.out).1; have N10h := Lib.hid (isSp_ends N10.out).2
  clear hb10
  obtain ⟨w11, hw11⟩ : ∃ w11, w11 = w10.alloc (.cells #[.bool s16, .slice o16 n16 c16, .slice a16 m16 d16, .bool s16x, .slice o16x n16x c16x, .slice a16x m16x d16x] 26) := ⟨_, rfl⟩
  have hb11 : Below w10.heap.size w10 w11 := by rw [hw11]; exact (Below.refl _ _).alloc (Nat.le_refl _) _
  have hx11 := heap_alloc_new w10 (.cells #[.bool s16, .slice o16 n16 c16, .slice a16 m16 d16, .bool s16x, .slice o16x n16x c16x, .slice a16x m16x d16x] 26)
  obtain ⟨g11, hg11⟩ : ∃ g, g = w10.heap.size := ⟨_, rfl⟩
  rw [← hw11, ← hg11] at hx11
  have lw11 : w.heap.size ≤ g11 := by rw [hg11]; exact HB10.out.size
  have ltBX111 : g1 < g11 := by rw [hg11]; exact below_lt BX1.out
  have ltBX211 : g2 < g11 := by rw [hg11]; exact below_lt BX2.out
  have ltBX311 : g3 < g11 := by rw [hg11]; exact below_lt BX3.out
  have HW11 := Lib.hid hw11; have HG11 := Lib.hid hg11; clear hw11 hg11
  have HB11 := Lib.hid (HB10.out.step hb11)
  have Fa := Lib.hid (Fa.out.below hb11)
  have Fal := Lib.hid (Fal.out.below hb11)
  have Fah := Lib.hid (Fah.out.below hb11)
  have FaV := Lib.hid (FaV.out.below hb11)
  have Fb := Lib.hid (Fb.out.below hb11)
  have Fbl := Lib.hid (Fbl.out.below hb11)
  have Fbh := Lib.hid (Fbh.out.below hb11)
  have FbV := Lib.hid (FbV.out.below hb11)
  have Fc := Lib.hid (Fc.out.below hb11)
  have Fcl := Lib.hid (Fcl.out.below hb11)
  have Fch := Lib.hid (Fch.out.below hb11)
  have FcV := Lib.hid (FcV.out.below hb11)
  have N10 := Lib.hid (N10.out.below hb11)
  have N10l := Lib.hid (N10l.out.below hb11)
  have N10h := Lib.hid (N10h.out.below hb11)
  have BX1 := Lib.hid (heap_below BX1.out hb11)
  have BX2 := Lib.hid (heap_below BX2.out hb11)
  have BX3 := Lib.hid (heap_below BX3.out hb11)
  have BX11 := Lib.hid hx11; clear hb11 hx11
  go_wp2_with (with_reducible first | refine pauseCall ?_ | refine pauseLoop ?_ | refine pauseDraw ?_ | refine pauseBody ?_ | refine pauseRounds ?_)
  try rw [← HW11.out]
  try rw [← HG11.out]
  refine Pause.mk ?_
  obtain ⟨kp17, kp17x⟩ : rl (((p_a), (r_a)) : Rat × Rat).1 ≤ rl (p_a) ∧ rl (((p_a), (r_a)) : Rat × Rat).2 ≤ rl (r_a) := ⟨Nat.le_refl _, Nat.le_refl _⟩
  obtain ⟨kp18, kp18x⟩ : rl (((p_b), (r_b)) : Rat × Rat).1 ≤ rl (p_b) ∧ rl (((p_b), (r_b)) : Rat × Rat).2 ≤ rl (r_b) := ⟨Nat.le_refl _, Nat.le_refl _⟩
  obtain ⟨kp19, kp19x⟩ : rl (((p_c), (r_c)) : Rat × Rat).1 ≤ rl (p_c) ∧ rl (((p_c), (r_c)) : Rat × Rat).2 ≤ rl (r_c) := ⟨Nat.le_refl _, Nat.le_refl _⟩
  obtain ⟨kp20, kp20x⟩ : rl (((p_a), (r_a)) : Rat × Rat).1 ≤ rl (p_a) ∧ rl (((p_a), (r_a)) : Rat × Rat).2 ≤ rl (r_a) := ⟨Nat.le_refl _, Nat.le_refl _⟩
  obtain ⟨kp21, kp21x⟩ : rl (((p_c), (r_c)) : Rat × Rat).1 ≤ rl (p_c) ∧ rl (((p_c), (r_c)) : Rat × Rat).2 ≤ rl (r_c) := ⟨Nat.le_refl _, Nat.le_refl _⟩
  obtain ⟨kp22, kp22x⟩ : rl (((p_b), (r_b)) : Rat × Rat).1 ≤ rl (p_b) ∧ rl (((p_b), (r_b)) : Rat × Rat).2 ≤ rl (r_b) := ⟨Nat.le_refl _, Nat.le_refl _⟩
  obtain ⟨kp23, kp23x⟩ : rl (((p_c), (r_c)) : Rat × Rat).1 ≤ rl (p_c) ∧ rl (((p_c), (r_c)) : Rat × Rat).2 ≤ rl (r_c) := ⟨Nat.le_refl _, Nat.le_refl _⟩
  refine wp_region_facts (A := ?aa24) (w := w11) 23 [] (by kernel_rfl) (Fl [KEq (.agg #[.bool qa, .slice oa na ka, .slice pa ma ra, .bool qax, .slice oax nax kax, .slice pax max rax]), KEq (.agg #[.bool s16, .slice o16 n16 c16, .slice a16 m16 d16, .bool s16x, .slice o16x n16x c16x, .slice a16x m16x d16x]), KEq (.bool true), KEq (.bool false), KEq (.bool false), KEq (.agg #[.bool qb, .slice ob nb kb, .slice pb mb rb, .bool qbx, .slice obx nbx kbx, .slice pbx mbx rbx]), KEq (.agg #[.bool s16, .slice o16 n16 c16, .slice a16 m16 d16, .bool s16x, .slice o16x n16x c16x, .slice a16x m16x d16x]), KEq (.bool true), KEq (.bool false), KEq (.bool false), KEq (.bool false), KEq (.agg #[.bool s16, .slice o16 n16 c16, .slice a16 m16 d16, .bool s16x, .slice o16x n16x c16x, .slice a16x m16x d16x]), KEq (.agg #[.bool qc, .slice oc nc kc, .slice pc mc rc, .bool qcx, .slice ocx ncx kcx, .slice pcx mcx rcx]), KEq (.bool u1), KEq (.agg #[.bool qa, .slice oa na ka, .slice pa ma ra, .bool qax, .slice oax nax kax, .slice pax max rax]), KEq (.agg #[.bool qc, .slice oc nc kc, .slice pc mc rc, .bool qcx, .slice ocx ncx kcx, .slice pcx mcx rcx]), KEq (.bool u2), KEq (.bool u2), KIf u2 true (KEq (.agg #[.bool qb, .slice ob nb kb, .slice pb mb rb, .bool qbx, .slice obx nbx kbx, .slice pbx mbx rbx])), KIf u2 true (KEq (.agg #[.bool qc, .slice oc nc kc, .slice pc mc rc, .bool qcx, .slice ocx ncx kcx, .slice pcx mcx rcx])), KIf u2 true (KEq (.bool u3)), KEq (.bool (u2 && u3)), KEq (.bool false)]) (fun i => false) (by kernel_rfl) ?hq24 (monoL (monoC (kEq _) (monoC (kEq _) (monoC (kEq _) (monoC (kEq _) (monoC (kEq _) (monoC (kEq _) (monoC (kEq _) (monoC (kEq _) (monoC (kEq _) (monoC (kEq _) (monoC (kEq _) (monoC (kEq _) (monoC (kEq _) (monoC (kEq _) (monoC (kEq _) (monoC (kEq _) (monoC (kEq _) (monoC (kEq _) (monoC (kIf _ _ (kEq _)) (monoC (kIf _ _ (kEq _)) (monoC (kIf _ _ (kEq _)) (monoC (kEq _) (monoC (kEq _) monoN)))))))))))))))))))))))) ?ha24 ?st24 ?tl24
  case hq24 =>
    intro c a d v w h
    first | (simp only [Exit.then] at h ⊢; exact h) | (simp only [Exit.inBlock, Exit.then] at h ⊢; exact h) | exact h
  case ha24 =>
    intro vals
    simp only [putsTo, dstOf, if_true, Act.put, List.setIfInBounds_toArray, List.set_cons_zero, List.set_cons_succ, List.getElem?_toArray, List.getElem?_cons_zero, List.getElem?_cons_succ, Option.bind_some]
    exact rfl
  case st24 =>
    simp only [List.take_succ_cons, List.take_zero]
    refine stepsOK_cons rfl rfl ?_ (stepsOK_cons rfl rfl ?_ (stepsOK_cons rfl rfl ?_ (stepsOK_cons rfl rfl ?_ (stepsOK_cons rfl rfl ?_ (stepsOK_guard rfl ?_ (stepsOK_guard rfl ?_ (stepsOK_guard rfl ?_ (stepsOK_guard rfl ?_ (stepsOK_cons rfl rfl ?_ (stepsOK_cons rfl rfl ?_ (stepsOK_guard rfl ?_ (stepsOK_guard rfl ?_ (stepsOK_guard rfl ?_ (stepsOK_guard rfl ?_ (stepsOK_guard rfl ?_ (stepsOK_guard rfl ?_ (stepsOK_guard rfl ?_ (stepsOK_guard rfl ?_ (stepsOK_guard rfl ?_ (stepsOK_guard rfl ?_ (stepsOK_guard rfl ?_ (stepsOK_guard rfl ?_ (stepsOK_nil)))))))))))))))))))))))
    · intro vals w1 hb hd
      obtain ⟨e0, e1, e2, e3, e4, e5⟩ := row6 (heap_below BX1.out hb)
      refine stepOK_value (v := .agg #[.bool qa, .slice oa na ka, .slice pa ma ra, .bool qax, .slice oax nax kax, .slice pax max rax]) (w' := w1) (by go_simp) (leaves_mk (Below.refl _ _) rfl (fun h => by cases h))
    · intro vals w1 hb hd
      obtain ⟨e0, e1, e2, e3, e4, e5⟩ := row6 (heap_below BX11.out hb)
      refine stepOK_value (v := .agg #[.bool s16, .slice o16 n16 c16, .slice a16 m16 d16, .bool s16x, .slice o16x n16x c16x, .slice a16x m16x d16x]) (w' := w1) (by go_simp) (leaves_mk (Below.refl _ _) rfl (fun h => by cases h))
    · intro vals w1 hb hd
      have d0 : KEq (.agg #[.bool qa, .slice oa na ka, .slice pa ma ra, .bool qax, .slice oax nax kax, .slice pax max rax]) (vals 0) w1 := hd 0 (by kernel_rfl)
      have d1 : KEq (.agg #[.bool s16, .slice o16 n16 c16, .slice a16 m16 d16, .bool s16x, .slice o16x n16x c16x, .slice a16x m16x d16x]) (vals 1) w1 := hd 1 (by kernel_rfl)
      have z0 : vals 0 = _ := d0
      have z1 : vals 1 = _ := d1
      have hs := inside_any _ ((p_a, r_a)) _ (sHull ((p_a, r_a)) ((p_b, r_b))) w1 ((Fa.out.below hb).is HOa.out (by omega) (by omega)) ((N10.out.below hb).is (around4_ok _ _ _ _) (by omega) (by omega)) (by omega) (by omega) (by omega) (by omega)
      rw [HI1.out] at hs
      have HS := Lib.hid hs; clear hs
      rw [z0]; clear z0
      rw [z1]; clear z1
      clear d0 d1 hd
      refine stepOK_call (by go_simp; first | done | exact ⟨⟨rfl, rfl⟩, rfl⟩) ?_
      (with_reducible refine HS.out.mono ?_); rintro e w2 ⟨rfl, hb2⟩
      exact ⟨_, rfl, leaves_mk hb2 rfl (fun h => by cases h)⟩
    · intro vals w1 hb hd
      have d2 : KEq (.bool true) (vals 2) w1 := hd 2 (by kernel_rfl)
      rw [show vals 2 = _ from d2]
      refine stepOK_value (v := (.bool false)) (w' := w1) (by go_simp) (leaves_mk (Below.refl _ _) rfl (fun h => by cases h))
    · intro vals w1 hb hd
      have d3 : KEq (.bool false) (vals 3) w1 := hd 3 (by kernel_rfl)
      rw [show vals 3 = _ from d3]
      refine stepOK_value (v := (.bool false)) (w' := w1) (by go_simp) (leaves_mk (Below.refl _ _) rfl (fun h => by cases h))
    · intro vals w1 hb hd
      have dg : KEq (.bool false) (vals 4) w1 := hd 4 (by kernel_rfl)
      refine stepG_yes (wanted_of rfl rfl (congrArg some dg) rfl) ?_
      clear dg
      obtain ⟨e0, e1, e2, e3, e4, e5⟩ := row6 (heap_below BX2.out hb)
      refine stepOK_value (v := .agg #[.bool qb, .slice ob nb kb, .slice pb mb rb, .bool qbx, .slice obx nbx kbx, .slice pbx mbx rbx]) (w' := w1) (by go_simp) (leaves_mk (Below.refl _ _) rfl (fun h => by cases h))
    · intro vals w1 hb hd
      have dg : KEq (.bool false) (vals 4) w1 := hd 4 (by kernel_rfl)
      refine stepG_yes (wanted_of rfl rfl (congrArg some dg) rfl) ?_
      clear dg
      obtain ⟨e0, e1, e2, e3, e4, e5⟩ := row6 (heap_below BX11.out hb)
      refine stepOK_value (v := .agg #[.bool s16, .slice o16 n16 c16, .slice a16 m16 d16, .bool s16x, .slice o16x n16x c16x, .slice a16x m16x d16x]) (w' := w1) (by go_simp) (leaves_mk (Below.refl _ _) rfl (fun h => by cases h))
    · intro vals w1 hb hd
      have dg : KEq (.bool false) (vals 4) w1 := hd 4 (by kernel_rfl)
      refine stepG_yes (wanted_of rfl rfl (congrArg some dg) rfl) ?_
      clear dg
      have d5 : KEq (.agg #[.bool qb, .slice ob nb kb, .slice pb mb rb, .bool qbx, .slice obx nbx kbx, .slice pbx mbx rbx]) (vals 5) w1 := hd 5 (by kernel_rfl)
      have d6 : KEq (.agg #[.bool s16, .slice o16 n16 c16, .slice a16 m16 d16, .bool s16x, .slice o16x n16x c16x, .slice a16x m16x d16x]) (vals 6) w1 := hd 6 (by kernel_rfl)
      have z5 : vals 5 = _ := d5
      have z6 : vals 6 = _ := d6
      have hs := inside_any _ ((p_b, r_b)) _ (sHull ((p_a, r_a)) ((p_b, r_b))) w1 ((Fb.out.below hb).is HOb.out (by omega) (by omega)) ((N10.out.below hb).is (around4_ok _ _ _ _) (by omega) (by omega)) (by omega) (by omega) (by omega) (by omega)
      rw [HI2.out] at hs
      have HS := Lib.hid hs; clear hs
      rw [z5]; clear z5
      rw [z6]; clear z6
      clear d5 d6 hd
      refine stepOK_call (by go_simp; first | done | exact ⟨⟨rfl, rfl⟩, rfl⟩) ?_
      (with_reducible refine HS.out.mono ?_); rintro e w2 ⟨rfl, hb2⟩
      exact ⟨_, rfl, leaves_mk hb2 rfl (fun h => by cases h)⟩
    · intro vals w1 hb hd
      have dg : KEq (.bool false) (vals 4) w1 := hd 4 (by kernel_rfl)
      refine stepG_yes (wanted_of rfl rfl (congrArg some dg) rfl) ?_
      clear dg
      have d7 : KEq (.bool true) (vals 7) w1 := hd 7 (by kernel_rfl)
      rw [show vals 7 = _ from d7]
      refine stepOK_value (v := (.bool false)) (w' := w1) (by go_simp) (leaves_mk (Below.refl _ _) rfl (fun h => by cases h))
    · intro vals w1 hb hd
      have d4 : KEq (.bool false) (vals 4) w1 := hd 4 (by kernel_rfl)
      have d8 : KEq (.bool false) (vals 8) w1 := hd 8 (by kernel_rfl)
      rw [show vals 4 = _ from d4]
      rw [show vals 8 = _ from d8]
      refine stepOK_value (v := (.bool false)) (w' := w1) (by go_simp) (leaves_mk (Below.refl _ _) rfl (fun h => by cases h))
    · intro vals w1 hb hd
      have d9 : KEq (.bool false) (vals 9) w1 := hd 9 (by kernel_rfl)
      rw [show vals 9 = _ from d9]
      refine stepOK_value (v := (.bool false)) (w' := w1) (by go_simp) (leaves_mk (Below.refl _ _) rfl (fun h => by cases h))
    · intro vals w1 hb hd
      have dg : KEq (.bool false) (vals 10) w1 := hd 10 (by kernel_rfl)
      refine stepG_yes (wanted_of rfl rfl (congrArg some dg) rfl) ?_
      clear dg
      obtain ⟨e0, e1, e2, e3, e4, e5⟩ := row6 (heap_below BX11.out hb)
      refine stepOK_value (v := .agg #[.bool s16, .slice o16 n16 c16, .slice a16 m16 d16, .bool s16x, .slice o16x n16x c16x, .slice a16x m16x d16x]) (w' := w1) (by go_simp) (leaves_mk (Below.refl _ _) rfl (fun h => by cases h))
    · intro vals w1 hb hd
      have dg : KEq (.bool false) (vals 10) w1 := hd 10 (by kernel_rfl)
      refine stepG_yes (wanted_of rfl rfl (congrArg some dg) rfl) ?_
      clear dg
      obtain ⟨e0, e1, e2, e3, e4, e5⟩ := row6 (heap_below BX3.out hb)
      refine stepOK_value (v := .agg #[.bool qc, .slice oc nc kc, .slice pc mc rc, .bool qcx, .slice ocx ncx kcx, .slice pcx mcx rcx]) (w' := w1) (by go_simp) (leaves_mk (Below.refl _ _) rfl (fun h => by cases h))
    · intro vals w1 hb hd
      have dg : KEq (.bool false) (vals 10) w1 := hd 10 (by kernel_rfl)
      refine stepG_yes (wanted_of rfl rfl (congrArg some dg) rfl) ?_
      clear dg
      have d11 : KEq (.agg #[.bool s16, .slice o16 n16 c16, .slice a16 m16 d16, .bool s16x, .slice o16x n16x c16x, .slice a16x m16x d16x]) (vals 11) w1 := hd 11 (by kernel_rfl)
      have d12 : KEq (.agg #[.bool qc, .slice oc nc kc, .slice pc mc rc, .bool qcx, .slice ocx ncx kcx, .slice pcx mcx rcx]) (vals 12) w1 := hd 12 (by kernel_rfl)
      have z11 : vals 11 = _ := d11
      have z12 : vals 12 = _ := d12
      have hs := inside_any _ (sHull ((p_a, r_a)) ((p_b, r_b))) _ ((p_c, r_c)) w1 ((N10.out.below hb).is (around4_ok _ _ _ _) (by omega) (by omega)) ((Fc.out.below hb).is HOc.out (by omega) (by omega)) (by omega) (by omega) (by omega) (by omega)
      rw [Hu1.out] at hs
      have HS := Lib.hid hs; clear hs
      rw [z11]; clear z11
      rw [z12]; clear z12
      clear d11 d12 hd
      refine stepOK_call (by go_simp; first | done | exact ⟨⟨rfl, rfl⟩, rfl⟩) ?_
      (with_reducible refine HS.out.mono ?_); rintro e w2 ⟨rfl, hb2⟩
      exact ⟨_, rfl, leaves_mk hb2 rfl (fun h => by cases h)⟩
    · intro vals w1 hb hd
      have dg : KEq (.bool false) (vals 10) w1 := hd 10 (by kernel_rfl)
      refine stepG_yes (wanted_of rfl rfl (congrArg some dg) rfl) ?_
      clear dg
      obtain ⟨e0, e1, e2, e3, e4, e5⟩ := row6 (heap_below BX1.out hb)
      refine stepOK_value (v := .agg #[.bool qa, .slice oa na ka, .slice pa ma ra, .bool qax, .slice oax nax kax, .slice pax max rax]) (w' := w1) (by go_simp) (leaves_mk (Below.refl _ _) rfl (fun h => by cases h))
    · intro vals w1 hb hd
      have dg : KEq (.bool false) (vals 10) w1 := hd 10 (by kernel_rfl)
      refine stepG_yes (wanted_of rfl rfl (congrArg some dg) rfl) ?_
      clear dg
      obtain ⟨e0, e1, e2, e3, e4, e5⟩ := row6 (heap_below BX3.out hb)
      refine stepOK_value (v := .agg #[.bool qc, .slice oc nc kc, .slice pc mc rc, .bool qcx, .slice ocx ncx kcx, .slice pcx mcx rcx]) (w' := w1) (by go_simp) (leaves_mk (Below.refl _ _) rfl (fun h => by cases h))
    · intro vals w1 hb hd
      have dg : KEq (.bool false) (vals 10) w1 := hd 10 (by kernel_rfl)
      refine stepG_yes (wanted_of rfl rfl (congrArg some dg) rfl) ?_
      clear dg
      have d14 : KEq (.agg #[.bool qa, .slice oa na ka, .slice pa ma ra, .bool qax, .slice oax nax kax, .slice pax max rax]) (vals 14) w1 := hd 14 (by kernel_rfl)
      have d15 : KEq (.agg #[.bool qc, .slice oc nc kc, .slice pc mc rc, .bool qcx, .slice ocx ncx kcx, .slice pcx mcx rcx]) (vals 15) w1 := hd 15 (by kernel_rfl)
      have z14 : vals 14 = _ := d14
      have z15 : vals 15 = _ := d15
      have hs := inside_any _ ((p_a, r_a)) _ ((p_c, r_c)) w1 ((Fa.out.below hb).is HOa.out (by omega) (by omega)) ((Fc.out.below hb).is HOc.out (by omega) (by omega)) (by omega) (by omega) (by omega) (by omega)
      rw [Hu2.out] at hs
      have HS := Lib.hid hs; clear hs
      rw [z14]; clear z14
      rw [z15]; clear z15
      clear d14 d15 hd
      refine stepOK_call (by go_simp; first | done | exact ⟨⟨rfl, rfl⟩, rfl⟩) ?_
      (with_reducible refine HS.out.mono ?_); rintro e w2 ⟨rfl, hb2⟩
      exact ⟨_, rfl, leaves_mk hb2 rfl (fun h => by cases h)⟩
    · intro vals w1 hb hd
      have dg : KEq (.bool false) (vals 10) w1 := hd 10 (by kernel_rfl)
      refine stepG_yes (wanted_of rfl rfl (congrArg some dg) rfl) ?_
      clear dg
      have d16 : KEq (.bool u2) (vals 16) w1 := hd 16 (by kernel_rfl)
      rw [show vals 16 = _ from d16]
      refine stepOK_value (v := (.bool u2)) (w' := w1) (by go_simp) (leaves_mk (Below.refl _ _) rfl (fun h => by cases h))
    · intro vals w1 hb hd
      have dg : KEq (.bool u2) (vals 17) w1 := hd 17 (by kernel_rfl)
      cases hB : u2 with
      | false =>
        rw [hB] at dg
        refine stepG_no (unwanted_of rfl rfl (congrArg some dg) rfl) ?_
        exact leaves_mk (Below.refl _ _) (fun e => by cases e) (fun h => by cases h)
      | true =>
        rw [hB] at dg
        refine stepG_yes (wanted_of rfl rfl (congrArg some dg) rfl) ?_
        clear dg
        obtain ⟨e0, e1, e2, e3, e4, e5⟩ := row6 (heap_below BX2.out hb)
        refine stepOK_value (v := .agg #[.bool qb, .slice ob nb kb, .slice pb mb rb, .bool qbx, .slice obx nbx kbx, .slice pbx mbx rbx]) (w' := w1) (by go_simp) (leaves_mk (Below.refl _ _) (fun _ => rfl) (fun h => by cases h))
    · intro vals w1 hb hd
      have dg : KEq (.bool u2) (vals 17) w1 := hd 17 (by kernel_rfl)
      cases hB : u2 with
      | false =>
        rw [hB] at dg
        refine stepG_no (unwanted_of rfl rfl (congrArg some dg) rfl) ?_
        exact leaves_mk (Below.refl _ _) (fun e => by cases e) (fun h => by cases h)
      | true =>
        rw [hB] at dg
        refine stepG_yes (wanted_of rfl rfl (congrArg some dg) rfl) ?_
        clear dg
        obtain ⟨e0, e1, e2, e3, e4, e5⟩ := row6 (heap_below BX3.out hb)
        refine stepOK_value (v := .agg #[.bool qc, .slice oc nc kc, .slice pc mc rc, .bool qcx, .slice ocx ncx kcx, .slice pcx mcx rcx]) (w' := w1) (by go_simp) (leaves_mk (Below.refl _ _) (fun _ => rfl) (fun h => by cases h))
    · intro vals w1 hb hd
      have dg : KEq (.bool u2) (vals 17) w1 := hd 17 (by kernel_rfl)
      cases hB : u2 with
      | false =>
        rw [hB] at dg
        refine stepG_no (unwanted_of rfl rfl (congrArg some dg) rfl) ?_
        exact leaves_mk (Below.refl _ _) (fun e => by cases e) (fun h => by cases h)
      | true =>
        rw [hB] at dg
        refine stepG_yes (wanted_of rfl rfl (congrArg some dg) rfl) ?_
        clear dg
        have d18 : KEq (.agg #[.bool qb, .slice ob nb kb, .slice pb mb rb, .bool qbx, .slice obx nbx kbx, .slice pbx mbx rbx]) (vals 18) w1 := hd 18 (by kernel_rfl) hB
        have d19 : KEq (.agg #[.bool qc, .slice oc nc kc, .slice pc mc rc, .bool qcx, .slice ocx ncx kcx, .slice pcx mcx rcx]) (vals 19) w1 := hd 19 (by kernel_rfl) hB
        have z18 : vals 18 = _ := d18
        have z19 : vals 19 = _ := d19
        have hs := inside_any _ ((p_b, r_b)) _ ((p_c, r_c)) w1 ((Fb.out.below hb).is HOb.out (by omega) (by omega)) ((Fc.out.below hb).is HOc.out (by omega) (by omega)) (by omega) (by omega) (by omega) (by omega)
        rw [Hu3.out] at hs
        have HS := Lib.hid hs; clear hs
        rw [z18]; clear z18
        rw [z19]; clear z19
        clear d18 d19 hd
        refine stepOK_call (by go_simp; first | done | exact ⟨⟨rfl, rfl⟩, rfl⟩) ?_
        (with_reducible refine HS.out.mono ?_); rintro e w2 ⟨rfl, hb2⟩
        exact ⟨_, rfl, leaves_mk hb2 (fun _ => rfl) (fun h => by cases h)⟩
    · intro vals w1 hb hd
      have dg : KEq (.bool false) (vals 10) w1 := hd 10 (by kernel_rfl)
      refine stepG_yes (wanted_of rfl rfl (congrArg some dg) rfl) ?_
      clear dg
      have d17 : KEq (.bool u2) (vals 17) w1 := hd 17 (by kernel_rfl)
      have d20 : KIf u2 true (KEq (.bool u3)) (vals 20) w1 := hd 20 (by kernel_rfl)
      rw [show vals 17 = _ from d17]
      refine stepOK_value (v := (.bool (u2 && u3))) (w' := w1) ?hpk21 (leaves_mk (Below.refl _ _) rfl (fun h => by cases h))
      cases hC : u2 with
      | false => go_simp
      | true =>
        rw [show vals 20 = _ from d20 hC]
        go_simp
    · intro vals w1 hb hd
      have dg : KEq (.bool false) (vals 10) w1 := hd 10 (by kernel_rfl)
      refine stepG_yes (wanted_of rfl rfl (congrArg some dg) rfl) ?_
      clear dg
      have d13 : KEq (.bool u1) (vals 13) w1 := hd 13 (by kernel_rfl)
      have d21 : KEq (.bool (u2 && u3)) (vals 21) w1 := hd 21 (by kernel_rfl)
      rw [show vals 13 = _ from d13]
      rw [show vals 21 = _ from d21]
      refine stepOK_value (v := (.bool false)) (w' := w1) (by go_simp; first | done | exact GE1.out | (rw [GE1.out]; done) | (rw [GE1.out]; simp; done) | simp [GE1.out]) (leaves_mk (Below.refl _ _) rfl (fun h => by cases h))
  case tl24 =>
    intro vals w12 hb12 hf hdis
    simp only [List.drop_succ_cons, List.drop_zero]
    have z10 : vals 10 = _ := hf 10 (by decide)
    try rw [z10]
    clear z10
    have z22 : vals 22 = _ := hf 22 (by decide)
    try rw [z22]
    clear z22
    clear hf hdis
    have HB12 := Lib.hid (HB11.out.step hb12)
    have Fa := Lib.hid (Fa.out.below hb12)
    have Fal := Lib.hid (Fal.out.below hb12)
    have Fah := Lib.hid (Fah.out.below hb12)
    have FaV := Lib.hid (FaV.out.below hb12)
    have Fb := Lib.hid (Fb.out.below hb12)
    have Fbl := Lib.hid (Fbl.out.below hb12)
    have Fbh := Lib.hid (Fbh.out.below hb12)
    have FbV := Lib.hid (FbV.out.below hb12)
    have Fc := Lib.hid (Fc.out.below hb12)
    have Fcl := Lib.hid (Fcl.out.below hb12)
    have Fch := Lib.hid (Fch.out.below hb12)
    have FcV := Lib.hid (FcV.out.below hb12)
    have N10 := Lib.hid (N10.out.below hb12)
    have N10l := Lib.hid (N10l.out.below hb12)
    have N10h := Lib.hid (N10h.out.below hb12)
    have BX1 := Lib.hid (heap_below BX1.out hb12)
    have BX2 := Lib.hid (heap_below BX2.out hb12)
    have BX3 := Lib.hid (heap_below BX3.out hb12)
    have BX11 := Lib.hid (heap_below BX11.out hb12)
    clear hb12
    skip
    obtain ⟨x25_0, x25_1, x25_2, x25_3, x25_4, x25_5⟩ := row6 BX1.out
    obtain ⟨x26_0, x26_1, x26_2, x26_3, x26_4, x26_5⟩ := row6 BX2.out
    obtain ⟨kp29, kp29x⟩ : rl (((p_a), (r_a)) : Rat × Rat).1 ≤ rl (p_a) ∧ rl (((p_a), (r_a)) : Rat × Rat).2 ≤ rl (r_a) := ⟨Nat.le_refl _, Nat.le_refl _⟩
    obtain ⟨kp30, kp30x⟩ : rl (((p_b), (r_b)) : Rat × Rat).1 ≤ rl (p_b) ∧ rl (((p_b), (r_b)) : Rat × Rat).2 ≤ rl (r_b) := ⟨Nat.le_refl _, Nat.le_refl _⟩
    obtain ⟨k27, k28⟩ := rl_stV ((p_a, r_a)) ((p_b, r_b))
    have hs := smeet_any _ ((p_a, r_a)) _ ((p_b, r_b)) w12 (Fa.out.is HOa.out (by omega) (by omega)) (Fb.out.is HOb.out (by omega) (by omega)) (by omega) (by omega) (by omega) (by omega)
    rw [HS.out, errV_17] at hs
    have HS := Lib.hid hs; clear hs
    go_wp2_with (with_reducible first | refine pauseCall ?_ | refine pauseLoop ?_ | refine pauseDraw ?_ | refine pauseBody ?_ | refine pauseRounds ?_)
    clear x25_0 x25_1 x25_2 x25_3 x25_4 x25_5 x26_0 x26_1 x26_2 x26_3 x26_4 x26_5
    refine Pause.mk ?_
    (with_reducible refine HS.out.mono ?_); rintro e w13 ⟨v13, rfl, hb13, hn13⟩
    clear HS
    have HB13 := Lib.hid (HB12.out.step hb13)
    have Fa := Lib.hid (Fa.out.below hb13)
    have Fal := Lib.hid (Fal.out.below hb13)
    have Fah := Lib.hid (Fah.out.below hb13)
    have FaV := Lib.hid (FaV.out.below hb13)
    have Fb := Lib.hid (Fb.out.below hb13)
    have Fbl := Lib.hid (Fbl.out.below hb13)
    have Fbh := Lib.hid (Fbh.out.below hb13)
    have FbV := Lib.hid (FbV.out.below hb13)
    have Fc := Lib.hid (Fc.out.below hb13)
    have Fcl := Lib.hid (Fcl.out.below hb13)
    have Fch := Lib.hid (Fch.out.below hb13)
    have FcV := Lib.hid (FcV.out.below hb13)
    have N10 := Lib.hid (N10.out.below hb13)
    have N10l := Lib.hid (N10l.out.below hb13)
    have N10h := Lib.hid (N10h.out.below hb13)
    have BX1 := Lib.hid (heap_below BX1.out hb13)
    have BX2 := Lib.hid (heap_below BX2.out hb13)
    have BX3 := Lib.hid (heap_below BX3.out hb13)
    have BX11 := Lib.hid (heap_below BX11.out hb13)
    have N13 := Lib.hid hn13; clear hn13
    obtain ⟨s31, o31, n31, c31, a31, m31, d31, s31x, o31x, n31x, c31x, a31x, m31x, d31x, rfl⟩ := N13.out.shape
    have N13l := Lib.hid (isSp_ends N13.out).1; have N13h := Lib.hid (isSp_ends N13.out).2
    clear hb13
    obtain ⟨w14, hw14⟩ : ∃ w14, w14 = w13.alloc (.cells #[.bool s31, .slice o31 n31 c31, .slice a31 m31 d31, .bool s31x, .slice o31x n31x c31x, .slice a31x m31x d31x] 26) := ⟨_, rfl⟩
    have hb14 : Below w13.heap.size w13 w14 := by rw [hw14]; exact (Below.refl _ _).alloc (Nat.le_refl _) _
    have hx14 := heap_alloc_new w13 (.cells #[.bool s31, .slice o31 n31 c31, .slice a31 m31 d31, .bool s31x, .slice o31x n31x c31x, .slice a31x m31x d31x] 26)
    obtain ⟨g14, hg14⟩ : ∃ g, g = w13.heap.size := ⟨_, rfl⟩
    rw [← hw14, ← hg14] at hx14
    have lw14 : w.heap.size ≤ g14 := by rw [hg14]; exact HB13.out.size
    have ltBX114 : g1 < g14 := by rw [hg14]; exact below_lt BX1.out
    have ltBX214 : g2 < g14 := by rw [hg14]; exact below_lt BX2.out
    have ltBX314 : g3 < g14 := by rw [hg14]; exact below_lt BX3.out
    have ltBX1114 : g11 < g14 := by rw [hg14]; exact below_lt BX11.out
    have HW14 := Lib.hid hw14; have HG14 := Lib.hid hg14; clear hw14 hg14
    have HB14 := Lib.hid (HB13.out.step hb14)
    have Fa := Lib.hid (Fa.out.below hb14)
    have Fal := Lib.hid (Fal.out.below hb14)
    have Fah := Lib.hid (Fah.out.below hb14)
    have FaV := Lib.hid (FaV.out.below hb14)
    have Fb := Lib.hid (Fb.out.below hb14)
    have Fbl := Lib.hid (Fbl.out.below hb14)
    have Fbh := Lib.hid (Fbh.out.below hb14)
    have FbV := Lib.hid (FbV.out.below hb14)
    have Fc := Lib.hid (Fc.out.below hb14)
    have Fcl := Lib.hid (Fcl.out.below hb14)
    have Fch := Lib.hid (Fch.out.below hb14)
    have FcV := Lib.hid (FcV.out.below hb14)
    have N10 := Lib.hid (N10.out.below hb14)
    have N10l := Lib.hid (N10l.out.below hb14)
    have N10h := Lib.hid (N10h.out.below hb14)
    have N13 := Lib.hid (N13.out.below hb14)
    have N13l := Lib.hid (N13l.out.below hb14)
    have N13h := Lib.hid (N13h.out.below hb14)
    have BX1 := Lib.hid (heap_below BX1.out hb14)
    have BX2 := Lib.hid (heap_below BX2.out hb14)
    have BX3 := Lib.hid (heap_below BX3.out hb14)
    have BX11 := Lib.hid (heap_below BX11.out hb14)
    have BX14 := Lib.hid hx14; clear hb14 hx14
    have hs := is_any 17 17 17 w14 rfl (by decide)
    rw [show decide ((17 : Nat) = 17) = true from by decide, errV_17] at hs
    have HS := Lib.hid hs; clear hs
    go_wp2_with (with_reducible first | refine pauseCall ?_ | refine pauseLoop ?_ | refine pauseDraw ?_ | refine pauseBody ?_ | refine pauseRounds ?_)
    try rw [← HW14.out]
    try rw [← HG14.out]
    refine Pause.mk ?_
    (with_reducible refine HS.out.mono ?_); rintro e wx ⟨rfl, rfl⟩
    clear HS
    obtain ⟨x32_0, x32_1, x32_2, x32_3, x32_4, x32_5⟩ := row6 BX3.out
    obtain ⟨x33_0, x33_1, x33_2, x33_3, x33_4, x33_5⟩ := row6 BX1.out
    obtain ⟨kp34, kp34x⟩ : rl (((p_c), (r_c)) : Rat × Rat).1 ≤ rl (p_c) ∧ rl (((p_c), (r_c)) : Rat × Rat).2 ≤ rl (r_c) := ⟨Nat.le_refl _, Nat.le_refl _⟩
    obtain ⟨kp35, kp35x⟩ : rl (((p_a), (r_a)) : Rat × Rat).1 ≤ rl (p_a) ∧ rl (((p_a), (r_a)) : Rat × Rat).2 ≤ rl (r_a) := ⟨Nat.le_refl _, Nat.le_refl _⟩
    have hs := inside_any _ ((p_c, r_c)) _ ((p_a, r_a)) w14 (Fc.out.is HOc.out (by omega) (by omega)) (Fa.out.is HOa.out (by omega) (by omega)) (by omega) (by omega) (by omega) (by omega)
    rw [HI6.out] at hs
    have HS := Lib.hid hs; clear hs
    go_wp2_with (with_reducible first | refine pauseCall ?_ | refine pauseLoop ?_ | refine pauseDraw ?_ | refine pauseBody ?_ | refine pauseRounds ?_)
    clear x32_0 x32_1 x32_2 x32_3 x32_4 x32_5 x33_0 x33_1 x33_2 x33_3 x33_4 x33_5
    refine Pause.mk ?_
    (with_reducible refine HS.out.mono ?_); rintro e w16 ⟨rfl, hb16⟩
    clear HS
    have HB16 := Lib.hid (HB14.out.step hb16)
    have Fa := Lib.hid (Fa.out.below hb16)
    have Fal := Lib.hid (Fal.out.below hb16)
    have Fah := Lib.hid (Fah.out.below hb16)
    have FaV := Lib.hid (FaV.out.below hb16)
    have Fb := Lib.hid (Fb.out.below hb16)
    have Fbl := Lib.hid (Fbl.out.below hb16)
    have Fbh := Lib.hid (Fbh.out.below hb16)
    have FbV := Lib.hid (FbV.out.below hb16)
    have Fc := Lib.hid (Fc.out.below hb16)
    have Fcl := Lib.hid (Fcl.out.below hb16)
    have Fch := Lib.hid (Fch.out.below hb16)
    have FcV := Lib.hid (FcV.out.below hb16)
    have N10 := Lib.hid (N10.out.below hb16)
    have N10l := Lib.hid (N10l.out.below hb16)
    have N10h := Lib.hid (N10h.out.below hb16)
    have N13 := Lib.hid (N13.out.below hb16)
    have N13l := Lib.hid (N13l.out.below hb16)
    have N13h := Lib.hid (N13h.out.below hb16)
    have BX1 := Lib.hid (heap_below BX1.out hb16)
    have BX2 := Lib.hid (heap_below BX2.out hb16)
    have BX3 := Lib.hid (heap_below BX3.out hb16)
    have BX11 := Lib.hid (heap_below BX11.out hb16)
    have BX14 := Lib.hid (heap_below BX14.out hb16)
    clear hb16
    go_wp2_with (with_reducible first | refine pauseCall ?_ | refine pauseLoop ?_ | refine pauseDraw ?_ | refine pauseBody ?_ | refine pauseRounds ?_)
    refine Pause.mk ?_
    go_ret
    exact ⟨by first | rfl | (simp; done), HB16.out⟩
set_option maxRecDepth 100000 in
set_option maxHeartbeats 12800000 in
theorem spanlattice_ok2 (va : Value) (sa : Bool) (aa ba : List Nat) (ta : Bool) (ca da : List Nat) (vb : Value) (sb : Bool) (ab bb : List Nat) (tb : Bool) (cb db : List Nat) (vc : Value) (sc : Bool) (ac bc : List Nat) (tc : Bool) (cc dc : List Nat) (w : World) (ha : SpV w va sa aa ba ta ca da) (la1 : aa.length ≤ 6) (la2 : ba.length ≤ 6) (la3 : ca.length ≤ 6) (la4 : da.length ≤ 6) (hva : Vld sa aa ba ∧ Vld ta ca da ∧ rq sa aa ba ≤ rq ta ca da) (hb : SpV w vb sb ab bb tb cb db) (lb1 : ab.length ≤ 6) (lb2 : bb.length ≤ 6) (lb3 : cb.length ≤ 6) (lb4 : db.length ≤ 6) (hvb : Vld sb ab bb ∧ Vld tb cb db ∧ rq sb ab bb ≤ rq tb cb db) (hc : SpV w vc sc ac bc tc cc dc) (lc1 : ac.length ≤ 6) (lc2 : bc.length ≤ 6) (lc3 : cc.length ≤ 6) (lc4 : dc.length ≤ 6) (hvc : Vld sc ac bc ∧ Vld tc cc dc ∧ rq sc ac bc ≤ rq tc cc dc) (hm : ¬ (sMeet (rq sa aa ba, rq ta ca da) (rq sb ab bb, rq tb cb db)).1 ≤ (sMeet (rq sa aa ba, rq ta ca da) (rq sb ab bb, rq tb cb db)).2) (hc1 : subS (rq sc ac bc, rq tc cc dc) (rq sa aa ba, rq ta ca da)) (hc2 : ¬ subS (rq sc ac bc, rq tc cc dc) (rq sb ab bb, rq tb cb db)) :
    Calls Tryd.prog 4 #[va, vb, vc] w (RetV w (.bool true)) := by
  have HBW := Lib.hid (Below.refl w.heap.size w)
  have kz0 : rl 0 ≤ 1 := by rw [rl_zero]; exact Nat.le_refl _
  have za := ha.sz.2
  obtain ⟨qa, oa, na, ka, pa, ma, ra, qax, oax, nax, kax, pax, max, rax, rfl⟩ := ha.shape
  have Za : na ≤ 6 ∧ ma ≤ 6 ∧ nax ≤ 6 ∧ max ≤ 6 := by have e1 : na = _ := congrArg (·.1) za; have e2 : ma = _ := congrArg (·.2.1) za; have e3 : nax = _ := congrArg (·.2.2.1) za; have e4 : max = _ := congrArg (·.2.2.2) za; rw [e1, e2, e3, e4]; exact ⟨la1, la2, la3, la4⟩
  clear za
  have hla1 : rl (rq sa aa ba) ≤ 6 := rl_rq ha.lt.1.1 ha.lt.1.2 la1 la2 (by decide); have hla2 : rl (rq ta ca da) ≤ 6 := rl_rq ha.lt.2.1 ha.lt.2.2 la3 la4 (by decide)
  have FaI := spV_isSp ha hva.1 hva.2.1
  have hoa := hva.2.2
  have HVa := Lib.hid (decide_eq_true hva); clear hva
  have FaV := Lib.hid ha; clear ha
  obtain ⟨p_a, hpa⟩ : ∃ p, p = rq sa aa ba := ⟨_, rfl⟩; obtain ⟨r_a, hra⟩ : ∃ r, r = rq ta ca da := ⟨_, rfl⟩
  rw [← hpa, ← hra] at FaI; rw [← hpa] at hla1 hoa; rw [← hra] at hla2 hoa
  try rw [← hpa] at hm
  try rw [← hra] at hm
  try rw [← hpa] at hc1
  try rw [← hra] at hc1
  try rw [← hpa] at hc2
  try rw [← hra] at hc2
  clear hpa hra
  have HOa := Lib.hid hoa; clear hoa
  have Fal := Lib.hid (show IsR _ _ p_a from (isSp_ends FaI).1); have Fah := Lib.hid (show IsR _ _ r_a from (isSp_ends FaI).2); have Fa := Lib.hid FaI; clear FaI
  have zb := hb.sz.2
  obtain ⟨qb, ob, nb, kb, pb, mb, rb, qbx, obx, nbx, kbx, pbx, mbx, rbx, rfl⟩ := hb.shape
  have Zb : nb ≤ 6 ∧ mb ≤ 6 ∧ nbx ≤ 6 ∧ mbx ≤ 6 := by have e1 : nb = _ := congrArg (·.1) zb; have e2 : mb = _ := congrArg (·.2.1) zb; have e3 : nbx = _ := congrArg (·.2.2.1) zb; have e4 : mbx = _ := congrArg (·.2.2.2) zb; rw [e1, e2, e3, e4]; exact ⟨lb1, lb2, lb3, lb4⟩
  clear zb
  have hlb1 : rl (rq sb ab bb) ≤ 6 := rl_rq hb.lt.1.1 hb.lt.1.2 lb1 lb2 (by decide); have hlb2 : rl (rq tb cb db) ≤ 6 := rl_rq hb.lt.2.1 hb.lt.2.2 lb3 lb4 (by decide)
  have FbI := spV_isSp hb hvb.1 hvb.2.1
  have hob := hvb.2.2
  have HVb := Lib.hid (decide_eq_true hvb); clear hvb
  have FbV := Lib.hid hb; clear hb
  obtain ⟨p_b, hpb⟩ : ∃ p, p = rq sb ab bb := ⟨_, rfl⟩; obtain ⟨r_b, hrb⟩ : ∃ r, r = rq tb cb db := ⟨_, rfl⟩
  rw [← hpb, ← hrb] at FbI; rw [← hpb] at hlb1 hob; rw [← hrb] at hlb2 hob
  try rw [← hpb] at hm
  try rw [← hrb] at hm
  try rw [← hpb] at hc1
  try rw [← hrb] at hc1
  try rw [← hpb] at hc2
  try rw [← hrb] at hc2
  clear hpb hrb
  have HOb := Lib.hid hob; clear hob
  have Fbl := Lib.hid (show IsR _ _ p_b from (isSp_ends FbI).1); have Fbh := Lib.hid (show IsR _ _ r_b from (isSp_ends FbI).2); have Fb := Lib.hid FbI; clear FbI
  have zc := hc.sz.2
  obtain ⟨qc, oc, nc, kc, pc, mc, rc, qcx, ocx, ncx, kcx, pcx, mcx, rcx, rfl⟩ := hc.shape
  have Zc : nc ≤ 6 ∧ mc ≤ 6 ∧ ncx ≤ 6 ∧ mcx ≤ 6 := by have e1 : nc = _ := congrArg (·.1) zc; have e2 : mc = _ := congrArg (·.2.1) zc; have e3 : ncx = _ := congrArg (·.2.2.1) zc; have e4 : mcx = _ := congrArg (·.2.2.2) zc; rw [e1, e2, e3, e4]; exact ⟨lc1, lc2, lc3, lc4⟩
  clear zc
  have hlc1 : rl (rq sc ac bc) ≤ 6 := rl_rq hc.lt.1.1 hc.lt.1.2 lc1 lc2 (by decide); have hlc2 : rl (rq tc cc dc) ≤ 6 := rl_rq hc.lt.2.1 hc.lt.2.2 lc3 lc4 (by decide)
  have FcI := spV_isSp hc hvc.1 hvc.2.1
  have hoc := hvc.2.2
  have HVc := Lib.hid (decide_eq_true hvc); clear hvc
  have FcV := Lib.hid hc; clear hc
  obtain ⟨p_c, hpc⟩ : ∃ p, p = rq sc ac bc := ⟨_, rfl⟩; obtain ⟨r_c, hrc⟩ : ∃ r, r = rq tc cc dc := ⟨_, rfl⟩
  rw [← hpc, ← hrc] at FcI; rw [← hpc] at hlc1 hoc; rw [← hrc] at hlc2 hoc
  try rw [← hpc] at hm
  try rw [← hrc] at hm
  try rw [← hpc] at hc1
  try rw [← hrc] at hc1
  try rw [← hpc] at hc2
  try rw [← hrc] at hc2
  clear hpc hrc
  have HOc := Lib.hid hoc; clear hoc
  have Fcl := Lib.hid (show IsR _ _ p_c from (isSp_ends FcI).1); have Fch := Lib.hid (show IsR _ _ r_c from (isSp_ends FcI).2); have Fc := Lib.hid FcI; clear FcI
  have HI1 := Lib.hid (decide_eq_true (show subS ((p_a, r_a)) (sHull ((p_a, r_a)) ((p_b, r_b))) from hull_l))
  have HI2 := Lib.hid (decide_eq_true (show subS ((p_b, r_b)) (sHull ((p_a, r_a)) ((p_b, r_b))) from hull_r))
  obtain ⟨u1, hu1⟩ : ∃ b, b = decide (subS (sHull ((p_a, r_a)) ((p_b, r_b))) ((p_c, r_c))) := ⟨_, rfl⟩
  obtain ⟨u2, hu2⟩ : ∃ b, b = decide (subS ((p_a, r_a)) ((p_c, r_c))) := ⟨_, rfl⟩
  obtain ⟨u3, hu3⟩ : ∃ b, b = decide (subS ((p_b, r_b)) ((p_c, r_c))) := ⟨_, rfl⟩
  have gx : (u1 != (u2 && u3)) = false := by
    have e : u1 = (u2 && u3) := by rw [hu1, hu2, hu3, Bool.eq_iff_iff]; simp only [Bool.and_eq_true, decide_eq_true_eq]; exact hull_sub
    rw [e]; simp
  have GE1 := Lib.hid (show u1 = (u2 && u3) from by rw [hu1, hu2, hu3, Bool.eq_iff_iff]; simp only [Bool.and_eq_true, decide_eq_true_eq]; exact hull_sub)
  have HS := Lib.hid (show stC ((p_a, r_a)) ((p_b, r_b)) = 17 from if_neg hm)
  have HI6 := Lib.hid (decide_eq_true (show subS ((p_c, r_c)) ((p_a, r_a)) from hc1))
  have HI7 := Lib.hid (decide_eq_false (show ¬ subS ((p_c, r_c)) ((p_b, r_b)) from hc2))
  have Hu1 := Lib.hid hu1.symm; have Hu2 := Lib.hid hu2.symm; have Hu3 := Lib.hid hu3.symm; clear hu1 hu2 hu3
  clear hm hc1 hc2
  obtain ⟨w1, hw1⟩ : ∃ w1, w1 = w.alloc (.cells #[.bool qa, .slice oa na ka, .slice pa ma ra, .bool qax, .slice oax nax kax, .slice pax max rax] 26) := ⟨_, rfl⟩
  have hb1 : Below w.heap.size w w1 := by rw [hw1]; exact (Below.refl _ _).alloc (Nat.le_refl _) _
  have hx1 := heap_alloc_new w (.cells #[.bool qa, .slice oa na ka, .slice pa ma ra, .bool qax, .slice oax nax kax, .slice pax max rax] 26)
  obtain ⟨g1, hg1⟩ : ∃ g, g = w.heap.size := ⟨_, rfl⟩
  rw [← hw1, ← hg1] at hx1
  have lw1 : w.heap.size ≤ g1 := by rw [hg1]; exact HBW.out.size
  have HW1 := Lib.hid hw1; have HG1 := Lib.hid hg1; clear hw1 hg1
  have HB1 := Lib.hid (HBW.out.step hb1)
  have Fa := Lib.hid (Fa.out.below hb1)
  have Fal := Lib.hid (Fal.out.below hb1)
  have Fah := Lib.hid (Fah.out.below hb1)
  have FaV := Lib.hid (FaV.out.below hb1)
  have Fb := Lib.hid (Fb.out.below hb1)
  have Fbl := Lib.hid (Fbl.out.below hb1)
  have Fbh := Lib.hid (Fbh.out.below hb1)
  have FbV := Lib.hid (FbV.out.below hb1)
  have Fc := Lib.hid (Fc.out.below hb1)
  have Fcl := Lib.hid (Fcl.out.below hb1)
  have Fch := Lib.hid (Fch.out.below hb1)
  have FcV := Lib.hid (FcV.out.below hb1)
  have BX1 := Lib.hid hx1; clear hb1 hx1
  obtain ⟨w2, hw2⟩ : ∃ w2, w2 = w1.alloc (.cells #[.bool qb, .slice ob nb kb, .slice pb mb rb, .bool qbx, .slice obx nbx kbx, .slice pbx mbx rbx] 26) := ⟨_, rfl⟩
  have hb2 : Below w1.heap.size w1 w2 := by rw [hw2]; exact (Below.refl _ _).alloc (Nat.le_refl _) _
  have hx2 := heap_alloc_new w1 (.cells #[.bool qb, .slice ob nb kb, .slice pb mb rb, .bool qbx, .slice obx nbx kbx, .slice pbx mbx rbx] 26)
  obtain ⟨g2, hg2⟩ : ∃ g, g = w1.heap.size := ⟨_, rfl⟩
  rw [← hw2, ← hg2] at hx2
  have lw2 : w.heap.size ≤ g2 := by rw [hg2]; exact HB1.out.size
  have ltBX12 : g1 < g2 := by rw [hg2]; exact below_lt BX1.out
  have hs2 : g2 = w.heap.size + 1 := by rw [hg2, HW1.out]; simp
  have HS2 := Lib.hid hs2; clear hs2
  have HW2 := Lib.hid hw2; have HG2 := Lib.hid hg2; clear hw2 hg2
  have HB2 := Lib.hid (HB1.out.step hb2)
  have Fa := Lib.hid (Fa.out.below hb2)
  have Fal := Lib.hid (Fal.out.below hb2)
  have Fah := Lib.hid (Fah.out.below hb2)
  have FaV := Lib.hid (FaV.out.below hb2)
  have Fb := Lib.hid (Fb.out.below hb2)
  have Fbl := Lib.hid (Fbl.out.below hb2)
  have Fbh := Lib.hid (Fbh.out.below hb2)
  have FbV := Lib.hid (FbV.out.below hb2)
  have Fc := Lib.hid (Fc.out.below hb2)
  have Fcl := Lib.hid (Fcl.out.below hb2)
  have Fch := Lib.hid (Fch.out.below hb2)
  have FcV := Lib.hid (FcV.out.below hb2)
  have BX1 := Lib.hid (heap_below BX1.out hb2)
  have BX2 := Lib.hid hx2; clear hb2 hx2
  obtain ⟨w3, hw3⟩ : ∃ w3, w3 = w2.alloc (.cells #[.bool qc, .slice oc nc kc, .slice pc mc rc, .bool qcx, .slice ocx ncx kcx, .slice pcx mcx rcx] 26) := ⟨_, rfl⟩
  have hb3 : Below w2.heap.size w2 w3 := by rw [hw3]; exact (Below.refl _ _).alloc (Nat.le_refl _) _
  have hx3 := heap_alloc_new w2 (.cells #[.bool qc, .slice oc nc kc, .slice pc mc rc, .bool qcx, .slice ocx ncx kcx, .slice pcx mcx rcx] 26)
  obtain ⟨g3, hg3⟩ : ∃ g, g = w2.heap.size := ⟨_, rfl⟩
  rw [← hw3, ← hg3] at hx3
  have lw3 : w.heap.size ≤ g3 := by rw [hg3]; exact HB2.out.size
  have ltBX13 : g1 < g3 := by rw [hg3]; exact below_lt BX1.out
  have ltBX23 : g2 < g3 := by rw [hg3]; exact below_lt BX2.out
  have hs3 : g3 = w.heap.size + 2 := by rw [hg3, HW2.out, HW1.out]; simp
  have HS3 := Lib.hid hs3; clear hs3
  have HW3 := Lib.hid hw3; have HG3 := Lib.hid hg3; clear hw3 hg3
  have HB3 := Lib.hid (HB2.out.step hb3)
  have Fa := Lib.hid (Fa.out.below hb3)
  have Fal := Lib.hid (Fal.out.below hb3)
  have Fah := Lib.hid (Fah.out.below hb3)
  have FaV := Lib.hid (FaV.out.below hb3)
  have Fb := Lib.hid (Fb.out.below hb3)
  have Fbl := Lib.hid (Fbl.out.below hb3)
  have Fbh := Lib.hid (Fbh.out.below hb3)
  have FbV := Lib.hid (FbV.out.below hb3)
  have Fc := Lib.hid (Fc.out.below hb3)
  have Fcl := Lib.hid (Fcl.out.below hb3)
  have Fch := Lib.hid (Fch.out.below hb3)
  have FcV := Lib.hid (FcV.out.below hb3)
  have BX1 := Lib.hid (heap_below BX1.out hb3)
  have BX2 := Lib.hid (heap_below BX2.out hb3)
  have BX3 := Lib.hid hx3; clear hb3 hx3
  go_enter Tryd.func4, Tryd.ntmps4
  have hs := awake03 w3
  have HS := Lib.hid hs; clear hs
  go_wp2_with (with_reducible first | refine pauseCall ?_ | refine pauseLoop ?_ | refine pauseDraw ?_ | refine pauseBody ?_ | refine pauseRounds ?_)
  try rw [← HW1.out]
  try rw [← HW2.out]
  try rw [← HW3.out]
  try rw [← HS3.out]
  try rw [← HS2.out]
  try rw [← HG1.out]
  try rw [← HG2.out]
  try rw [← HG3.out]
  refine Pause.mk ?_
  (with_reducible refine HS.out.mono ?_); rintro e w4 ⟨rfl, hb4⟩
  clear HS
  have HB4 := Lib.hid (HB3.out.step hb4)
  have Fa := Lib.hid (Fa.out.below hb4)
  have Fal := Lib.hid (Fal.out.below hb4)
  have Fah := Lib.hid (Fah.out.below hb4)
  have FaV := Lib.hid (FaV.out.below hb4)
  have Fb := Lib.hid (Fb.out.below hb4)
  have Fbl := Lib.hid (Fbl.out.below hb4)
  have Fbh := Lib.hid (Fbh.out.below hb4)
  have FbV := Lib.hid (FbV.out.below hb4)
  have Fc := Lib.hid (Fc.out.below hb4)
  have Fcl := Lib.hid (Fcl.out.below hb4)
  have Fch := Lib.hid (Fch.out.below hb4)
  have FcV := Lib.hid (FcV.out.below hb4)
  have BX1 := Lib.hid (heap_below BX1.out hb4)
  have BX2 := Lib.hid (heap_below BX2.out hb4)
  have BX3 := Lib.hid (heap_below BX3.out hb4)
  clear hb4
  obtain ⟨x1_0, x1_1, x1_2, x1_3, x1_4, x1_5⟩ := row6 BX1.out
  obtain ⟨x2_0, x2_1, x2_2, x2_3, x2_4, x2_5⟩ := row6 BX2.out
  obtain ⟨x3_0, x3_1, x3_2, x3_3, x3_4, x3_5⟩ := row6 BX3.out
  obtain ⟨w5, hw5⟩ : ∃ w5, w5 = w4.alloc (.cells #[.bool qa, .slice oa na ka, .slice pa ma ra, .bool qax, .slice oax nax kax, .slice pax max rax, .bool qb, .slice ob nb kb, .slice pb mb rb, .bool qbx, .slice obx nbx kbx, .slice pbx mbx rbx, .bool qc, .slice oc nc kc, .slice pc mc rc, .bool qcx, .slice ocx ncx kcx, .slice pcx mcx rcx] 26) := ⟨_, rfl⟩
  have hb5 : Below w4.heap.size w4 w5 := by rw [hw5]; exact (Below.refl _ _).alloc (Nat.le_refl _) _
  have hx5 := heap_alloc_new w4 (.cells #[.bool qa, .slice oa na ka, .slice pa ma ra, .bool qax, .slice oax nax kax, .slice pax max rax, .bool qb, .slice ob nb kb, .slice pb mb rb, .bool qbx, .slice obx nbx kbx, .slice pbx mbx rbx, .bool qc, .slice oc nc kc, .slice pc mc rc, .bool qcx, .slice ocx ncx kcx, .slice pcx mcx rcx] 26)
  obtain ⟨g5, hg5⟩ : ∃ g, g = w4.heap.size := ⟨_, rfl⟩
  rw [← hw5, ← hg5] at hx5
  have lw5 : w.heap.size ≤ g5 := by rw [hg5]; exact HB4.out.size
  have ltBX15 : g1 < g5 := by rw [hg5]; exact below_lt BX1.out
  have ltBX25 : g2 < g5 := by rw [hg5]; exact below_lt BX2.out
  have ltBX35 : g3 < g5 := by rw [hg5]; exact below_lt BX3.out
  have HW5 := Lib.hid hw5; have HG5 := Lib.hid hg5; clear hw5 hg5
  have HB5 := Lib.hid (HB4.out.step hb5)
  have Fa := Lib.hid (Fa.out.below hb5)
  have Fal := Lib.hid (Fal.out.below hb5)
  have Fah := Lib.hid (Fah.out.below hb5)
  have FaV := Lib.hid (FaV.out.below hb5)
  have Fb := Lib.hid (Fb.out.below hb5)
  have Fbl := Lib.hid (Fbl.out.below hb5)
  have Fbh := Lib.hid (Fbh.out.below hb5)
  have FbV := Lib.hid (FbV.out.below hb5)
  have Fc := Lib.hid (Fc.out.below hb5)
  have Fcl := Lib.hid (Fcl.out.below hb5)
  have Fch := Lib.hid (Fch.out.below hb5)
  have FcV := Lib.hid (FcV.out.below hb5)
  have BX1 := Lib.hid (heap_below BX1.out hb5)
  have BX2 := Lib.hid (heap_below BX2.out hb5)
  have BX3 := Lib.hid (heap_below BX3.out hb5)
  have BX5 := Lib.hid hx5; clear hb5 hx5
  have hs := slarge3s BX5.out Za Zb Zc
  have HS := Lib.hid hs; clear hs
  try rw [HG5.out] at x1_0
  try rw [HG5.out] at x1_1
  try rw [HG5.out] at x1_2
  try rw [HG5.out] at x1_3
  try rw [HG5.out] at x1_4
  try rw [HG5.out] at x1_5
  try rw [HG5.out] at x2_0
  try rw [HG5.out] at x2_1
  try rw [HG5.out] at x2_2
  try rw [HG5.out] at x2_3
  try rw [HG5.out] at x2_4
  try rw [HG5.out] at x2_5
  try rw [HG5.out] at x3_0
  try rw [HG5.out] at x3_1
  try rw [HG5.out] at x3_2
  try rw [HG5.out] at x3_3
  try rw [HG5.out] at x3_4
  try rw [HG5.out] at x3_5
  go_wp2_with (with_reducible first | refine pauseCall ?_ | refine pauseLoop ?_ | refine pauseDraw ?_ | refine pauseBody ?_ | refine pauseRounds ?_)
  try rw [← HW5.out]
  try rw [← HG5.out]
  clear x1_0 x1_1 x1_2 x1_3 x1_4 x1_5 x2_0 x2_1 x2_2 x2_3 x2_4 x2_5 x3_0 x3_1 x3_2 x3_3 x3_4 x3_5
  refine Pause.mk ?_
  (with_reducible refine HS.out.mono ?_); rintro e w6 ⟨rfl, hb6⟩
  clear HS
  have HB6 := Lib.hid (HB5.out.step hb6)
  have Fa := Lib.hid (Fa.out.below hb6)
  have Fal := Lib.hid (Fal.out.below hb6)
  have Fah := Lib.hid (Fah.out.below hb6)
  have FaV := Lib.hid (FaV.out.below hb6)
  have Fb := Lib.hid (Fb.out.below hb6)
  have Fbl := Lib.hid (Fbl.out.below hb6)
  have Fbh := Lib.hid (Fbh.out.below hb6)
  have FbV := Lib.hid (FbV.out.below hb6)
  have Fc := Lib.hid (Fc.out.below hb6)
  have Fcl := Lib.hid (Fcl.out.below hb6)
  have Fch := Lib.hid (Fch.out.below hb6)
  have FcV := Lib.hid (FcV.out.below hb6)
  have BX1 := Lib.hid (heap_below BX1.out hb6)
  have BX2 := Lib.hid (heap_below BX2.out hb6)
  have BX3 := Lib.hid (heap_below BX3.out hb6)
  have BX5 := Lib.hid (heap_below BX5.out hb6)
  clear BX5
  clear hb6
  obtain ⟨x4_0, x4_1, x4_2, x4_3, x4_4, x4_5⟩ := row6 BX1.out
  obtain ⟨kp5, kp5x⟩ : rl (((p_a), (r_a)) : Rat × Rat).1 ≤ rl (p_a) ∧ rl (((p_a), (r_a)) : Rat × Rat).2 ≤ rl (r_a) := ⟨Nat.le_refl _, Nat.le_refl _⟩
  have hs := svalid_any _ sa aa ba ta ca da w6 FaV.out (by omega) (by omega) (by omega) (by omega)
  rw [HVa.out] at hs
  have HS := Lib.hid hs; clear hs
  go_wp2_with (with_reducible first | refine pauseCall ?_ | refine pauseLoop ?_ | refine pauseDraw ?_ | refine pauseBody ?_ | refine pauseRounds ?_)
  clear x4_0 x4_1 x4_2 x4_3 x4_4 x4_5
  refine Pause.mk ?_
  (with_reducible refine HS.out.mono ?_); rintro e w7 ⟨rfl, hb7⟩
  clear HS
  have HB7 := Lib.hid (HB6.out.step hb7)
  have Fa := Lib.hid (Fa.out.below hb7)
  have Fal := Lib.hid (Fal.out.below hb7)
  have Fah := Lib.hid (Fah.out.below hb7)
  have FaV := Lib.hid (FaV.out.below hb7)
  have Fb := Lib.hid (Fb.out.below hb7)
  have Fbl := Lib.hid (Fbl.out.below hb7)
  have Fbh := Lib.hid (Fbh.out.below hb7)
  have FbV := Lib.hid (FbV.out.below hb7)
  have Fc := Lib.hid (Fc.out.below hb7)
  have Fcl := Lib.hid (Fcl.out.below hb7)
  have Fch := Lib.hid (Fch.out.below hb7)
  have FcV := Lib.hid (FcV.out.below hb7)
  have BX1 := Lib.hid (heap_below BX1.out hb7)
  have BX2 := Lib.hid (heap_below BX2.out hb7)
  have BX3 := Lib.hid (heap_below BX3.out hb7)
  clear hb7
  obtain ⟨x6_0, x6_1, x6_2, x6_3, x6_4, x6_5⟩ := row6 BX2.out
  obtain ⟨kp7, kp7x⟩ : rl (((p_b), (r_b)) : Rat × Rat).1 ≤ rl (p_b) ∧ rl (((p_b), (r_b)) : Rat × Rat).2 ≤ rl (r_b) := ⟨Nat.le_refl _, Nat.le_refl _⟩
  have hs := svalid_any _ sb ab bb tb cb db w7 FbV.out (by omega) (by omega) (by omega) (by omega)
  rw [HVb.out] at hs
  have HS := Lib.hid hs; clear hs
  go_wp2_with (with_reducible first | refine pauseCall ?_ | refine pauseLoop ?_ | refine pauseDraw ?_ | refine pauseBody ?_ | refine pauseRounds ?_)
  clear x6_0 x6_1 x6_2 x6_3 x6_4 x6_5
  refine Pause.mk ?_
  (with_reducible refine HS.out.mono ?_); rintro e w8 ⟨rfl, hb8⟩
  clear HS
  have HB8 := Lib.hid (HB7.out.step hb8)
  have Fa := Lib.hid (Fa.out.below hb8)
  have Fal := Lib.hid (Fal.out.below hb8)
  have Fah := Lib.hid (Fah.out.below hb8)
  have FaV := Lib.hid (FaV.out.below hb8)
  have Fb := Lib.hid (Fb.out.below hb8)
  have Fbl := Lib.hid (Fbl.out.below hb8)
  have Fbh := Lib.hid (Fbh.out.below hb8)
  have FbV := Lib.hid (FbV.out.below hb8)
  have Fc := Lib.hid (Fc.out.below hb8)
  have Fcl := Lib.hid (Fcl.out.below hb8)
  have Fch := Lib.hid (Fch.out.below hb8)
  have FcV := Lib.hid (FcV.out.below hb8)
  have BX1 := Lib.hid (heap_below BX1.out hb8)
  have BX2 := Lib.hid (heap_below BX2.out hb8)
  have BX3 := Lib.hid (heap_below BX3.out hb8)
  clear hb8
  obtain ⟨x8_0, x8_1, x8_2, x8_3, x8_4, x8_5⟩ := row6 BX3.out
  obtain ⟨kp9, kp9x⟩ : rl (((p_c), (r_c)) : Rat × Rat).1 ≤ rl (p_c) ∧ rl (((p_c), (r_c)) : Rat × Rat).2 ≤ rl (r_c) := ⟨Nat.le_refl _, Nat.le_refl _⟩
  have hs := svalid_any _ sc ac bc tc cc dc w8 FcV.out (by omega) (by omega) (by omega) (by omega)
  rw [HVc.out] at hs
  have HS := Lib.hid hs; clear hs
  go_wp2_with (with_reducible first | refine pauseCall ?_ | refine pauseLoop ?_ | refine pauseDraw ?_ | refine pauseBody ?_ | refine pauseRounds ?_)
  clear x8_0 x8_1 x8_2 x8_3 x8_4 x8_5
  refine Pause.mk ?_
  (with_reducible refine HS.out.mono ?_); rintro e w9 ⟨rfl, hb9⟩
  clear HS
  have HB9 := Lib.hid (HB8.out.step hb9)
  have Fa := Lib.hid (Fa.out.below hb9)
  have Fal := Lib.hid (Fal.out.below hb9)
  have Fah := Lib.hid (Fah.out.below hb9)
  have FaV := Lib.hid (FaV.out.below hb9)
  have Fb := Lib.hid (Fb.out.below hb9)
  have Fbl := Lib.hid (Fbl.out.below hb9)
  have Fbh := Lib.hid (Fbh.out.below hb9)
  have FbV := Lib.hid (FbV.out.below hb9)
  have Fc := Lib.hid (Fc.out.below hb9)
  have Fcl := Lib.hid (Fcl.out.below hb9)
  have Fch := Lib.hid (Fch.out.below hb9)
  have FcV := Lib.hid (FcV.out.below hb9)
  have BX1 := Lib.hid (heap_below BX1.out hb9)
  have BX2 := Lib.hid (heap_below BX2.out hb9)
  have BX3 := Lib.hid (heap_below BX3.out hb9)
  clear hb9
  obtain ⟨x10_0, x10_1, x10_2, x10_3, x10_4, x10_5⟩ := row6 BX1.out
  obtain ⟨x11_0, x11_1, x11_2, x11_3, x11_4, x11_5⟩ := row6 BX2.out
  obtain ⟨kp14, kp14x⟩ : rl (((p_a), (r_a)) : Rat × Rat).1 ≤ rl (p_a) ∧ rl (((p_a), (r_a)) : Rat × Rat).2 ≤ rl (r_a) := ⟨Nat.le_refl _, Nat.le_refl _⟩
  obtain ⟨kp15, kp15x⟩ : rl (((p_b), (r_b)) : Rat × Rat).1 ≤ rl (p_b) ∧ rl (((p_b), (r_b)) : Rat × Rat).2 ≤ rl (r_b) := ⟨Nat.le_refl _, Nat.le_refl _⟩
  obtain ⟨k12, k13⟩ := rl_sHull ((p_a, r_a)) ((p_b, r_b))
  have hs := shull_any _ ((p_a, r_a)) _ ((p_b, r_b)) w9 (Fa.out.is HOa.out (by omega) (by omega)) (Fb.out.is HOb.out (by omega) (by omega)) (by omega) (by omega) (by omega) (by omega)
  have HS := Lib.hid hs; clear hs
  go_wp2_with (with_reducible first | refine pauseCall ?_ | refine pauseLoop ?_ | refine pauseDraw ?_ | refine pauseBody ?_ | refine pauseRounds ?_)
  clear x10_0 x10_1 x10_2 x10_3 x10_4 x10_5 x11_0 x11_1 x11_2 x11_3 x11_4 x11_5
  refine Pause.mk ?_
  (with_reducible refine HS.out.mono ?_); rintro e w10 ⟨v10, rfl, hb10, hn10⟩
  clear HS
  have HB10 := Lib.hid (HB9.out.step hb10)
  have Fa := Lib.hid (Fa.out.below hb10)
  have Fal := Lib.hid (Fal.out.below hb10)
  have Fah := Lib.hid (Fah.out.below hb10)
  have FaV := Lib.hid (FaV.out.below hb10)
  have Fb := Lib.hid (Fb.out.below hb10)
  have Fbl := Lib.hid (Fbl.out.below hb10)
  have Fbh := Lib.hid (Fbh.out.below hb10)
  have FbV := Lib.hid (FbV.out.below hb10)
  have Fc := Lib.hid (Fc.out.below hb10)
  have Fcl := Lib.hid (Fcl.out.below hb10)
  have Fch := Lib.hid (Fch.out.below hb10)
  have FcV := Lib.hid (FcV.out.below hb10)
  have BX1 := Lib.hid (heap_below BX1.out hb10)
  have BX2 := Lib.hid (heap_below BX2.out hb10)
  have BX3 := Lib.hid (heap_below BX3.out hb10)
  have N10 := Lib.hid hn10; clear hn10
  obtain ⟨s16, o16, n16, c16, a16, m16, d16, s16x, o16x, n16x, c16x, a16x, m16x, d16x, rfl⟩ := N10.out.shape
  have N10l := Lib.hid (isSp_ends N10.out).1; have N10h := Lib.hid (isSp_ends N10.out).2
  clear hb10
  obtain ⟨w11, hw11⟩ : ∃ w11, w11 = w10.alloc (.cells #[.bool s16, .slice o16 n16 c16, .slice a16 m16 d16, .bool s16x, .slice o16x n16x c16x, .slice a16x m16x d16x] 26) := ⟨_, rfl⟩
  have hb11 : Below w10.heap.size w10 w11 := by rw [hw11]; exact (Below.refl _ _).alloc (Nat.le_refl _) _
  have hx11 := heap_alloc_new w10 (.cells #[.bool s16, .slice o16 n16 c16, .slice a16 m16 d16, .bool s16x, .slice o16x n16x c16x, .slice a16x m16x d16x] 26)
  obtain ⟨g11, hg11⟩ : ∃ g, g = w10.heap.size := ⟨_, rfl⟩
  rw [← hw11, ← hg11] at hx11
  have lw11 : w.heap.size ≤ g11 := by rw [hg11]; exact HB10.out.size
  have ltBX111 : g1 < g11 := by rw [hg11]; exact below_lt BX1.out
  have ltBX211 : g2 < g11 := by rw [hg11]; exact below_lt BX2.out
  have ltBX311 : g3 < g11 := by rw [hg11]; exact below_lt BX3.out
  have HW11 := Lib.hid hw11; have HG11 := Lib.hid hg11; clear hw11 hg11
  have HB11 := Lib.hid (HB10.out.step hb11)
  have Fa := Lib.hid (Fa.out.below hb11)
  have Fal := Lib.hid (Fal.out.below hb11)
  have Fah := Lib.hid (Fah.out.below hb11)
  have FaV := Lib.hid (FaV.out.below hb11)
  have Fb := Lib.hid (Fb.out.below hb11)
  have Fbl := Lib.hid (Fbl.out.below hb11)
  have Fbh := Lib.hid (Fbh.out.below hb11)
  have FbV := Lib.hid (FbV.out.below hb11)
  have Fc := Lib.hid (Fc.out.below hb11)
  have Fcl := Lib.hid (Fcl.out.below hb11)
  have Fch := Lib.hid (Fch.out.below hb11)
  have FcV := Lib.hid (FcV.out.below hb11)
  have N10 := Lib.hid (N10.out.below hb11)
  have N10l := Lib.hid (N10l.out.below hb11)
  have N10h := Lib.hid (N10h.out.below hb11)
  have BX1 := Lib.hid (heap_below BX1.out hb11)
  have BX2 := Lib.hid (heap_below BX2.out hb11)
  have BX3 := Lib.hid (heap_below BX3.out hb11)
  have BX11 := Lib.hid hx11; clear hb11 hx11
  go_wp2_with (with_reducible first | refine pauseCall ?_ | refine pauseLoop ?_ | refine pauseDraw ?_ | refine pauseBody ?_ | refine pauseRounds ?_)
  try rw [← HW11.out]
  try rw [← HG11.out]
  refine Pause.mk ?_
  obtain ⟨kp17, kp17x⟩ : rl (((p_a), (r_a)) : Rat × Rat).1 ≤ rl (p_a) ∧ rl (((p_a), (r_a)) : Rat × Rat).2 ≤ rl (r_a) := ⟨Nat.le_refl _, Nat.le_refl _⟩
  obtain ⟨kp18, kp18x⟩ : rl (((p_b), (r_b)) : Rat × Rat).1 ≤ rl (p_b) ∧ rl (((p_b), (r_b)) : Rat × Rat).2 ≤ rl (r_b) := ⟨Nat.le_refl _, Nat.le_refl _⟩
  obtain ⟨kp19, kp19x⟩ : rl (((p_c), (r_c)) : Rat × Rat).1 ≤ rl (p_c) ∧ rl (((p_c), (r_c)) : Rat × Rat).2 ≤ rl (r_c) := ⟨Nat.le_refl _, Nat.le_refl _⟩
  obtain ⟨kp20, kp20x⟩ : rl (((p_a), (r_a)) : Rat × Rat).1 ≤ rl (p_a) ∧ rl (((p_a), (r_a)) : Rat × Rat).2 ≤ rl (r_a) := ⟨Nat.le_refl _, Nat.le_refl _⟩
  obtain ⟨kp21, kp21x⟩ : rl (((p_c), (r_c)) : Rat × Rat).1 ≤ rl (p_c) ∧ rl (((p_c), (r_c)) : Rat × Rat).2 ≤ rl (r_c) := ⟨Nat.le_refl _, Nat.le_refl _⟩
  obtain ⟨kp22, kp22x⟩ : rl (((p_b), (r_b)) : Rat × Rat).1 ≤ rl (p_b) ∧ rl (((p_b), (r_b)) : Rat × Rat).2 ≤ rl (r_b) := ⟨Nat.le_refl _, Nat.le_refl _⟩
  obtain ⟨kp23, kp23x⟩ : rl (((p_c), (r_c)) : Rat × Rat).1 ≤ rl (p_c) ∧ rl (((p_c), (r_c)) : Rat × Rat).2 ≤ rl (r_c) := ⟨Nat.le_refl _, Nat.le_refl _⟩
  refine wp_region_facts (A := ?aa24) (w := w11) 23 [] (by kernel_rfl) (Fl [KEq (.agg #[.bool qa, .slice oa na ka, .slice pa ma ra, .bool qax, .slice oax nax kax, .slice pax max rax]), KEq (.agg #[.bool s16, .slice o16 n16 c16, .slice a16 m16 d16, .bool s16x, .slice o16x n16x c16x, .slice a16x m16x d16x]), KEq (.bool true), KEq (.bool false), KEq (.bool false), KEq (.agg #[.bool qb, .slice ob nb kb, .slice pb mb rb, .bool qbx, .slice obx nbx kbx, .slice pbx mbx rbx]), KEq (.agg #[.bool s16, .slice o16 n16 c16, .slice a16 m16 d16, .bool s16x, .slice o16x n16x c16x, .slice a16x m16x d16x]), KEq (.bool true), KEq (.bool false), KEq (.bool false), KEq (.bool false), KEq (.agg #[.bool s16, .slice o16 n16 c16, .slice a16 m16 d16, .bool s16x, .slice o16x n16x c16x, .slice a16x m16x d16x]), KEq (.agg #[.bool qc, .slice oc nc kc, .slice pc mc rc, .bool qcx, .slice ocx ncx kcx, .slice pcx mcx rcx]), KEq (.bool u1), KEq (.agg #[.bool qa, .slice oa na ka, .slice pa ma ra, .bool qax, .slice oax nax kax, .slice pax max rax]), KEq (.agg #[.bool qc, .slice oc nc kc, .slice pc mc rc, .bool qcx, .slice ocx ncx kcx, .slice pcx mcx rcx]), KEq (.bool u2), KEq (.bool u2), KIf u2 true (KEq (.agg #[.bool qb, .slice ob nb kb, .slice pb mb rb, .bool qbx, .slice obx nbx kbx, .slice pbx mbx rbx])), KIf u2 true (KEq (.agg #[.bool qc, .slice oc nc kc, .slice pc mc rc, .bool qcx, .slice ocx ncx kcx, .slice pcx mcx rcx])), KIf u2 true (KEq (.bool u3)), KEq (.bool (u2 && u3)), KEq (.bool false)]) (fun i => false) (by kernel_rfl) ?hq24 (monoL (monoC (kEq _) (monoC (kEq _) (monoC (kEq _) (monoC (kEq _) (monoC (kEq _) (monoC (kEq _) (monoC (kEq _) (monoC (kEq _) (monoC (kEq _) (monoC (kEq _) (monoC (kEq _) (monoC (kEq _) (monoC (kEq _) (monoC (kEq _) (monoC (kEq _) (monoC (kEq _) (monoC (kEq _) (monoC (kEq _) (monoC (kIf _ _ (kEq _)) (monoC (kIf _ _ (kEq _)) (monoC (kIf _ _ (kEq _)) (monoC (kEq _) (monoC (kEq _) monoN)))))))))))))))))))))))) ?ha24 ?st24 ?tl24
  case hq24 =>
    intro c a d v w h
    first | (simp only [Exit.then] at h ⊢; exact h) | (simp only [Exit.inBlock, Exit.then] at h ⊢; exact h) | exact h
  case ha24 =>
    intro vals
    simp only [putsTo, dstOf, if_true, Act.put, List.setIfInBounds_toArray, List.set_cons_zero, List.set_cons_succ, List.getElem?_toArray, List.getElem?_cons_zero, List.getElem?_cons_succ, Option.bind_some]
    exact rfl
  case st24 =>
    simp only [List.take_succ_cons, List.take_zero]
    refine stepsOK_cons rfl rfl ?_ (stepsOK_cons rfl rfl ?_ (stepsOK_cons rfl rfl ?_ (stepsOK_cons rfl rfl ?_ (stepsOK_cons rfl rfl ?_ (stepsOK_guard rfl ?_ (stepsOK_guard rfl ?_ (stepsOK_guard rfl ?_ (stepsOK_guard rfl ?_ (stepsOK_cons rfl rfl ?_ (stepsOK_cons rfl rfl ?_ (stepsOK_guard rfl ?_ (stepsOK_guard rfl ?_ (stepsOK_guard rfl ?_ (stepsOK_guard rfl ?_ (stepsOK_guard rfl ?_ (stepsOK_guard rfl ?_ (stepsOK_guard rfl ?_ (stepsOK_guard rfl ?_ (stepsOK_guard rfl ?_ (stepsOK_guard rfl ?_ (stepsOK_guard rfl ?_ (stepsOK_guard rfl ?_ (stepsOK_nil)))))))))))))))))))))))
    · intro vals w1 hb hd
      obtain ⟨e0, e1, e2, e3, e4, e5⟩ := row6 (heap_below BX1.out hb)
      refine stepOK_value (v := .agg #[.bool qa, .slice oa na ka, .slice pa ma ra, .bool qax, .slice oax nax kax, .slice pax max rax]) (w' := w1) (by go_simp) (leaves_mk (Below.refl _ _) rfl (fun h => by cases h))
    · intro vals w1 hb hd
      obtain ⟨e0, e1, e2, e3, e4, e5⟩ := row6 (heap_below BX11.out hb)
      refine stepOK_value (v := .agg #[.bool s16, .slice o16 n16 c16, .slice a16 m16 d16, .bool s16x, .slice o16x n16x c16x, .slice a16x m16x d16x]) (w' := w1) (by go_simp) (leaves_mk (Below.refl _ _) rfl (fun h => by cases h))
    · intro vals w1 hb hd
      have d0 : KEq (.agg #[.bool qa, .slice oa na ka, .slice pa ma ra, .bool qax, .slice oax nax kax, .slice pax max rax]) (vals 0) w1 := hd 0 (by kernel_rfl)
      have d1 : KEq (.agg #[.bool s16, .slice o16 n16 c16, .slice a16 m16 d16, .bool s16x, .slice o16x n16x c16x, .slice a16x m16x d16x]) (vals 1) w1 := hd 1 (by kernel_rfl)
      have z0 : vals 0 = _ := d0
      have z1 : vals 1 = _ := d1
      have hs := inside_any _ ((p_a, r_a)) _ (sHull ((p_a, r_a)) ((p_b, r_b))) w1 ((Fa.out.below hb).is HOa.out (by omega) (by omega)) ((N10.out.below hb).is (around4_ok _ _ _ _) (by omega) (by omega)) (by omega) (by omega) (by omega) (by omega)
      rw [HI1.out] at hs
      have HS := Lib.hid hs; clear hs
      rw [z0]; clear z0
      rw [z1]; clear z1
      clear d0 d1 hd
      refine stepOK_call (by go_simp; first | done | exact ⟨⟨rfl, rfl⟩, rfl⟩) ?_
      (with_reducible refine HS.out.mono ?_); rintro e w2 ⟨rfl, hb2⟩
      exact ⟨_, rfl, leaves_mk hb2 rfl (fun h => by cases h)⟩
    · intro vals w1 hb hd
      have d2 : KEq (.bool true) (vals 2) w1 := hd 2 (by kernel_rfl)
      rw [show vals 2 = _ from d2]
      refine stepOK_value (v := (.bool false)) (w' := w1) (by go_simp) (leaves_mk (Below.refl _ _) rfl (fun h => by cases h))
    · intro vals w1 hb hd
      have d3 : KEq (.bool false) (vals 3) w1 := hd 3 (by kernel_rfl)
      rw [show vals 3 = _ from d3]
      refine stepOK_value (v := (.bool false)) (w' := w1) (by go_simp) (leaves_mk (Below.refl _ _) rfl (fun h => by cases h))
    · intro vals w1 hb hd
      have dg : KEq (.bool false) (vals 4) w1 := hd 4 (by kernel_rfl)
      refine stepG_yes (wanted_of rfl rfl (congrArg some dg) rfl) ?_
      clear dg
      obtain ⟨e0, e1, e2, e3, e4, e5⟩ := row6 (heap_below BX2.out hb)
      refine stepOK_value (v := .agg #[.bool qb, .slice ob nb kb, .slice pb mb rb, .bool qbx, .slice obx nbx kbx, .slice pbx mbx rbx]) (w' := w1) (by go_simp) (leaves_mk (Below.refl _ _) rfl (fun h => by cases h))
    · intro vals w1 hb hd
      have dg : KEq (.bool false) (vals 4) w1 := hd 4 (by kernel_rfl)
      refine stepG_yes (wanted_of rfl rfl (congrArg some dg) rfl) ?_
      clear dg
      obtain ⟨e0, e1, e2, e3, e4, e5⟩ := row6 (heap_below BX11.out hb)
      refine stepOK_value (v := .agg #[.bool s16, .slice o16 n16 c16, .slice a16 m16 d16, .bool s16x, .slice o16x n16x c16x, .slice a16x m16x d16x]) (w' := w1) (by go_simp) (leaves_mk (Below.refl _ _) rfl (fun h => by cases h))
    · intro vals w1 hb hd
      have dg : KEq (.bool false) (vals 4) w1 := hd 4 (by kernel_rfl)
      refine stepG_yes (wanted_of rfl rfl (congrArg some dg) rfl) ?_
      clear dg
      have d5 : KEq (.agg #[.bool qb, .slice ob nb kb, .slice pb mb rb, .bool qbx, .slice obx nbx kbx, .slice pbx mbx rbx]) (vals 5) w1 := hd 5 (by kernel_rfl)
      have d6 : KEq (.agg #[.bool s16, .slice o16 n16 c16, .slice a16 m16 d16, .bool s16x, .slice o16x n16x c16x, .slice a16x m16x d16x]) (vals 6) w1 := hd 6 (by kernel_rfl)
      have z5 : vals 5 = _ := d5
      have z6 : vals 6 = _ := d6
      have hs := inside_any _ ((p_b, r_b)) _ (sHull ((p_a, r_a)) ((p_b, r_b))) w1 ((Fb.out.below hb).is HOb.out (by omega) (by omega)) ((N10.out.below hb).is (around4_ok _ _ _ _) (by omega) (by omega)) (by omega) (by omega) (by omega) (by omega)
      rw [HI2.out] at hs
      have HS := Lib.hid hs; clear hs
      rw [z5]; clear z5
      rw [z6]; clear z6
      clear d5 d6 hd
      refine stepOK_call (by go_simp; first | done | exact ⟨⟨rfl, rfl⟩, rfl⟩) ?_
      (with_reducible refine HS.out.mono ?_); rintro e w2 ⟨rfl, hb2⟩
      exact ⟨_, rfl, leaves_mk hb2 rfl (fun h => by cases h)⟩
    · intro vals w1 hb hd
      have dg : KEq (.bool false) (vals 4) w1 := hd 4 (by kernel_rfl)
      refine stepG_yes (wanted_of rfl rfl (congrArg some dg) rfl) ?_
      clear dg
      have d7 : KEq (.bool true) (vals 7) w1 := hd 7 (by kernel_rfl)
      rw [show vals 7 = _ from d7]
      refine stepOK_value (v := (.bool false)) (w' := w1) (by go_simp) (leaves_mk (Below.refl _ _) rfl (fun h => by cases h))
    · intro vals w1 hb hd
      have d4 : KEq (.bool false) (vals 4) w1 := hd 4 (by kernel_rfl)
      have d8 : KEq (.bool false) (vals 8) w1 := hd 8 (by kernel_rfl)
      rw [show vals 4 = _ from d4]
      rw [show vals 8 = _ from d8]
      refine stepOK_value (v := (.bool false)) (w' := w1) (by go_simp) (leaves_mk (Below.refl _ _) rfl (fun h => by cases h))
    · intro vals w1 hb hd
      have d9 : KEq (.bool false) (vals 9) w1 := hd 9 (by kernel_rfl)
      rw [show vals 9 = _ from d9]
      refine stepOK_value (v := (.bool false)) (w' := w1) (by go_simp) (leaves_mk (Below.refl _ _) rfl (fun h => by cases h))
    · intro vals w1 hb hd
      have dg : KEq (.bool false) (vals 10) w1 := hd 10 (by kernel_rfl)
      refine stepG_yes (wanted_of rfl rfl (congrArg some dg) rfl) ?_
      clear dg
      obtain ⟨e0, e1, e2, e3, e4, e5⟩ := row6 (heap_below BX11.out hb)
      refine stepOK_value (v := .agg #[.bool s16, .slice o16 n16 c16, .slice a16 m16 d16, .bool s16x, .slice o16x n16x c16x, .slice a16x m16x d16x]) (w' := w1) (by go_simp) (leaves_mk (Below.refl _ _) rfl (fun h => by cases h))
    · intro vals w1 hb hd
      have dg : KEq (.bool false) (vals 10) w1 := hd 10 (by kernel_rfl)
      refine stepG_yes (wanted_of rfl rfl (congrArg some dg) rfl) ?_
      clear dg
      obtain ⟨e0, e1, e2, e3, e4, e5⟩ := row6 (heap_below BX3.out hb)
      refine stepOK_value (v := .agg #[.bool qc, .slice oc nc kc, .slice pc mc rc, .bool qcx, .slice ocx ncx kcx, .slice pcx mcx rcx]) (w' := w1) (by go_simp) (leaves_mk (Below.refl _ _) rfl (fun h => by cases h))
    · intro vals w1 hb hd
      have dg : KEq (.bool false) (vals 10) w1 := hd 10 (by kernel_rfl)
      refine stepG_yes (wanted_of rfl rfl (congrArg some dg) rfl) ?_
      clear dg
      have d11 : KEq (.agg #[.bool s16, .slice o16 n16 c16, .slice a16 m16 d16, .bool s16x, .slice o16x n16x c16x, .slice a16x m16x d16x]) (vals 11) w1 := hd 11 (by kernel_rfl)
      have d12 : KEq (.agg #[.bool qc, .slice oc nc kc, .slice pc mc rc, .bool qcx, .slice ocx ncx kcx, .slice pcx mcx rcx]) (vals 12) w1 := hd 12 (by kernel_rfl)
      have z11 : vals 11 = _ := d11
      have z12 : vals 12 = _ := d12
      have hs := inside_any _ (sHull ((p_a, r_a)) ((p_b, r_b))) _ ((p_c, r_c)) w1 ((N10.out.below hb).is (around4_ok _ _ _ _) (by omega) (by omega)) ((Fc.out.below hb).is HOc.out (by omega) (by omega)) (by omega) (by omega) (by omega) (by omega)
      rw [Hu1.out] at hs
      have HS := Lib.hid hs; clear hs
      rw [z11]; clear z11
      rw [z12]; clear z12
      clear d11 d12 hd
      refine stepOK_call (by go_simp; first | done | exact ⟨⟨rfl, rfl⟩, rfl⟩) ?_
      (with_reducible refine HS.out.mono ?_); rintro e w2 ⟨rfl, hb2⟩
      exact ⟨_, rfl, leaves_mk hb2 rfl (fun h => by cases h)⟩
    · intro vals w1 hb hd
      have dg : KEq (.bool false) (vals 10) w1 := hd 10 (by kernel_rfl)
      refine stepG_yes (wanted_of rfl rfl (congrArg some dg) rfl) ?_
      clear dg
      obtain ⟨e0, e1, e2, e3, e4, e5⟩ := row6 (heap_below BX1.out hb)
      refine stepOK_value (v := .agg #[.bool qa, .slice oa na ka, .slice pa ma ra, .bool qax, .slice oax nax kax, .slice pax max rax]) (w' := w1) (by go_simp) (leaves_mk (Below.refl _ _) rfl (fun h => by cases h))
    · intro vals w1 hb hd
      have dg : KEq (.bool false) (vals 10) w1 := hd 10 (by kernel_rfl)
      refine stepG_yes (wanted_of rfl rfl (congrArg some dg) rfl) ?_
      clear dg
      obtain ⟨e0, e1, e2, e3, e4, e5⟩ := row6 (heap_below BX3.out hb)
      refine stepOK_value (v := .agg #[.bool qc, .slice oc nc kc, .slice pc mc rc, .bool qcx, .slice ocx ncx kcx, .slice pcx mcx rcx]) (w' := w1) (by go_simp) (leaves_mk (Below.refl _ _) rfl (fun h => by cases h))
    · intro vals w1 hb hd
      have dg : KEq (.bool false) (vals 10) w1 := hd 10 (by kernel_rfl)
      refine stepG_yes (wanted_of rfl rfl (congrArg some dg) rfl) ?_
      clear dg
      have d14 : KEq (.agg #[.bool qa, .slice oa na ka, .slice pa ma ra, .bool qax, .slice oax nax kax, .slice pax max rax]) (vals 14) w1 := hd 14 (by kernel_rfl)
      have d15 : KEq (.agg #[.bool qc, .slice oc nc kc, .slice pc mc rc, .bool qcx, .slice ocx ncx kcx, .slice pcx mcx rcx]) (vals 15) w1 := hd 15 (by kernel_rfl)
      have z14 : vals 14 = _ := d14
      have z15 : vals 15 = _ := d15
      have hs := inside_any _ ((p_a, r_a)) _ ((p_c, r_c)) w1 ((Fa.out.below hb).is HOa.out (by omega) (by omega)) ((Fc.out.below hb).is HOc.out (by omega) (by omega)) (by omega) (by omega) (by omega) (by omega)
      rw [Hu2.out] at hs
      have HS := Lib.hid hs; clear hs
      rw [z14]; clear z14
      rw [z15]; clear z15
      clear d14 d15 hd
      refine stepOK_call (by go_simp; first | done | exact ⟨⟨rfl, rfl⟩, rfl⟩) ?_
      (with_reducible refine HS.out.mono ?_); rintro e w2 ⟨rfl, hb2⟩
      exact ⟨_, rfl, leaves_mk hb2 rfl (fun h => by cases h)⟩
    · intro vals w1 hb hd
      have dg : KEq (.bool false) (vals 10) w1 := hd 10 (by kernel_rfl)
      refine stepG_yes (wanted_of rfl rfl (congrArg some dg) rfl) ?_
      clear dg
      have d16 : KEq (.bool u2) (vals 16) w1 := hd 16 (by kernel_rfl)
      rw [show vals 16 = _ from d16]
      refine stepOK_value (v := (.bool u2)) (w' := w1) (by go_simp) (leaves_mk (Below.refl _ _) rfl (fun h => by cases h))
    · intro vals w1 hb hd
      have dg : KEq (.bool u2) (vals 17) w1 := hd 17 (by kernel_rfl)
      cases hB : u2 with
      | false =>
        rw [hB] at dg
        refine stepG_no (unwanted_of rfl rfl (congrArg some dg) rfl) ?_
        exact leaves_mk (Below.refl _ _) (fun e => by cases e) (fun h => by cases h)
      | true =>
        rw [hB] at dg
        refine stepG_yes (wanted_of rfl rfl (congrArg some dg) rfl) ?_
        clear dg
        obtain ⟨e0, e1, e2, e3, e4, e5⟩ := row6 (heap_below BX2.out hb)
        refine stepOK_value (v := .agg #[.bool qb, .slice ob nb kb, .slice pb mb rb, .bool qbx, .slice obx nbx kbx, .slice pbx mbx rbx]) (w' := w1) (by go_simp) (leaves_mk (Below.refl _ _) (fun _ => rfl) (fun h => by cases h))
    · intro vals w1 hb hd
      have dg : KEq (.bool u2) (vals 17) w1 := hd 17 (by kernel_rfl)
      cases hB : u2 with
      | false =>
        rw [hB] at dg
        refine stepG_no (unwanted_of rfl rfl (congrArg some dg) rfl) ?_
        exact leaves_mk (Below.refl _ _) (fun e => by cases e) (fun h => by cases h)
      | true =>
        rw [hB] at dg
        refine stepG_yes (wanted_of rfl rfl (congrArg some dg) rfl) ?_
        clear dg
        obtain ⟨e0, e1, e2, e3, e4, e5⟩ := row6 (heap_below BX3.out hb)
        refine stepOK_value (v := .agg #[.bool qc, .slice oc nc kc, .slice pc mc rc, .bool qcx, .slice ocx ncx kcx, .slice pcx mcx rcx]) (w' := w1) (by go_simp) (leaves_mk (Below.refl _ _) (fun _ => rfl) (fun h => by cases h))
    · intro vals w1 hb hd
      have dg : KEq (.bool u2) (vals 17) w1 := hd 17 (by kernel_rfl)
      cases hB : u2 with
      | false =>
        rw [hB] at dg
        refine stepG_no (unwanted_of rfl rfl (congrArg some dg) rfl) ?_
        exact leaves_mk (Below.refl _ _) (fun e => by cases e) (fun h => by cases h)
      | true =>
        rw [hB] at dg
        refine stepG_yes (wanted_of rfl rfl (congrArg some dg) rfl) ?_
        clear dg
        have d18 : KEq (.agg #[.bool qb, .slice ob nb kb, .slice pb mb rb, .bool qbx, .slice obx nbx kbx, .slice pbx mbx rbx]) (vals 18) w1 := hd 18 (by kernel_rfl) hB
        have d19 : KEq (.agg #[.bool qc, .slice oc nc kc, .slice pc mc rc, .bool qcx, .slice ocx ncx kcx, .slice pcx mcx rcx]) (vals 19) w1 := hd 19 (by kernel_rfl) hB
        have z18 : vals 18 = _ := d18
        have z19 : vals 19 = _ := d19
        have hs := inside_any _ ((p_b, r_b)) _ ((p_c, r_c)) w1 ((Fb.out.below hb).is HOb.out (by omega) (by omega)) ((Fc.out.below hb).is HOc.out (by omega) (by omega)) (by omega) (by omega) (by omega) (by omega)
        rw [Hu3.out] at hs
        have HS := Lib.hid hs; clear hs
        rw [z18]; clear z18
        rw [z19]; clear z19
        clear d18 d19 hd
        refine stepOK_call (by go_simp; first | done | exact ⟨⟨rfl, rfl⟩, rfl⟩) ?_
        (with_reducible refine HS.out.mono ?_); rintro e w2 ⟨rfl, hb2⟩
        exact ⟨_, rfl, leaves_mk hb2 (fun _ => rfl) (fun h => by cases h)⟩
    · intro vals w1 hb hd
      have dg : KEq (.bool false) (vals 10) w1 := hd 10 (by kernel_rfl)
      refine stepG_yes (wanted_of rfl rfl (congrArg some dg) rfl) ?_
      clear dg
      have d17 : KEq (.bool u2) (vals 17) w1 := hd 17 (by kernel_rfl)
      have d20 : KIf u2 true (KEq (.bool u3)) (vals 20) w1 := hd 20 (by kernel_rfl)
      rw [show vals 17 = _ from d17]
      refine stepOK_value (v := (.bool (u2 && u3))) (w' := w1) ?hpk21 (leaves_mk (Below.refl _ _) rfl (fun h => by cases h))
      cases hC : u2 with
      | false => go_simp
      | true =>
        rw [show vals 20 = _ from d20 hC]
        go_simp
    · intro vals w1 hb hd
      have dg : KEq (.bool false) (vals 10) w1 := hd 10 (by kernel_rfl)
      refine stepG_yes (wanted_of rfl rfl (congrArg some dg) rfl) ?_
      clear dg
      have d13 : KEq (.bool u1) (vals 13) w1 := hd 13 (by kernel_rfl)
      have d21 : KEq (.bool (u2 && u3)) (vals 21) w1 := hd 21 (by kernel_rfl)
      rw [show vals 13 = _ from d13]
      rw [show vals 21 = _ from d21]
      refine stepOK_value (v := (.bool false)) (w' := w1) (by go_simp; first | done | exact GE1.out | (rw [GE1.out]; done) | (rw [GE1.out]; simp; done) | simp [GE1.out]) (leaves_mk (Below.refl _ _) rfl (fun h => by cases h))
  case tl24 =>
    intro vals w12 hb12 hf hdis
    simp only [List.drop_succ_cons, List.drop_zero]
    have z10 : vals 10 = _ := hf 10 (by decide)
    try rw [z10]
    clear z10
    have z22 : vals 22 = _ := hf 22 (by decide)
    try rw [z22]
    clear z22
    clear hf hdis
    have HB12 := Lib.hid (HB11.out.step hb12)
    have Fa := Lib.hid (Fa.out.below hb12)
    have Fal := Lib.hid (Fal.out.below hb12)
    have Fah := Lib.hid (Fah.out.below hb12)
    have FaV := Lib.hid (FaV.out.below hb12)
    have Fb := Lib.hid (Fb.out.below hb12)
    have Fbl := Lib.hid (Fbl.out.below hb12)
    have Fbh := Lib.hid (Fbh.out.below hb12)
    have FbV := Lib.hid (FbV.out.below hb12)
    have Fc := Lib.hid (Fc.out.below hb12)
    have Fcl := Lib.hid (Fcl.out.below hb12)
    have Fch := Lib.hid (Fch.out.below hb12)
    have FcV := Lib.hid (FcV.out.below hb12)
    have N10 := Lib.hid (N10.out.below hb12)
    have N10l := Lib.hid (N10l.out.below hb12)
    have N10h := Lib.hid (N10h.out.below hb12)
    have BX1 := Lib.hid (heap_below BX1.out hb12)
    have BX2 := Lib.hid (heap_below BX2.out hb12)
    have BX3 := Lib.hid (heap_below BX3.out hb12)
    have BX11 := Lib.hid (heap_below BX11.out hb12)
    clear hb12
    skip
    obtain ⟨x25_0, x25_1, x25_2, x25_3, x25_4, x25_5⟩ := row6 BX1.out
    obtain ⟨x26_0, x26_1, x26_2, x26_3, x26_4, x26_5⟩ := row6 BX2.out
    obtain ⟨kp29, kp29x⟩ : rl (((p_a), (r_a)) : Rat × Rat).1 ≤ rl (p_a) ∧ rl (((p_a), (r_a)) : Rat × Rat).2 ≤ rl (r_a) := ⟨Nat.le_refl _, Nat.le_refl _⟩
    obtain ⟨kp30, kp30x⟩ : rl (((p_b), (r_b)) : Rat × Rat).1 ≤ rl (p_b) ∧ rl (((p_b), (r_b)) : Rat × Rat).2 ≤ rl (r_b) := ⟨Nat.le_refl _, Nat.le_refl _⟩
    obtain ⟨k27, k28⟩ := rl_stV ((p_a, r_a)) ((p_b, r_b))
    have hs := smeet_any _ ((p_a, r_a)) _ ((p_b, r_b)) w12 (Fa.out.is HOa.out (by omega) (by omega)) (Fb.out.is HOb.out (by omega) (by omega)) (by omega) (by omega) (by omega) (by omega)
    rw [HS.out, errV_17] at hs
    have HS := Lib.hid hs; clear hs
    go_wp2_with (with_reducible first | refine pauseCall ?_ | refine pauseLoop ?_ | refine pauseDraw ?_ | refine pauseBody ?_ | refine pauseRounds ?_)
    clear x25_0 x25_1 x25_2 x25_3 x25_4 x25_5 x26_0 x26_1 x26_2 x26_3 x26_4 x26_5
    refine Pause.mk ?_
    (with_reducible refine HS.out.mono ?_); rintro e w13 ⟨v13, rfl, hb13, hn13⟩
    clear HS
    have HB13 := Lib.hid (HB12.out.step hb13)
    have Fa := Lib.hid (Fa.out.below hb13)
    have Fal := Lib.hid (Fal.out.below hb13)
    have Fah := Lib.hid (Fah.out.below hb13)
    have FaV := Lib.hid (FaV.out.below hb13)
    have Fb := Lib.hid (Fb.out.below hb13)
    have Fbl := Lib.hid (Fbl.out.below hb13)
    have Fbh := Lib.hid (Fbh.out.below hb13)
    have FbV := Lib.hid (FbV.out.below hb13)
    have Fc := Lib.hid (Fc.out.below hb13)
    have Fcl := Lib.hid (Fcl.out.below hb13)
    have Fch := Lib.hid (Fch.out.below hb13)
    have FcV := Lib.hid (FcV.out.below hb13)
    have N10 := Lib.hid (N10.out.below hb13)
    have N10l := Lib.hid (N10l.out.below hb13)
    have N10h := Lib.hid (N10h.out.below hb13)
    have BX1 := Lib.hid (heap_below BX1.out hb13)
    have BX2 := Lib.hid (heap_below BX2.out hb13)
    have BX3 := Lib.hid (heap_below BX3.out hb13)
    have BX11 := Lib.hid (heap_below BX11.out hb13)
    have N13 := Lib.hid hn13; clear hn13
    obtain ⟨s31, o31, n31, c31, a31, m31, d31, s31x, o31x, n31x, c31x, a31x, m31x, d31x, rfl⟩ := N13.out.shape
    have N13l := Lib.hid (isSp_ends N13.out).1; have N13h := Lib.hid (isSp_ends N13.out).2
    clear hb13
    obtain ⟨w14, hw14⟩ : ∃ w14, w14 = w13.alloc (.cells #[.bool s31, .slice o31 n31 c31, .slice a31 m31 d31, .bool s31x, .slice o31x n31x c31x, .slice a31x m31x d31x] 26) := ⟨_, rfl⟩
    have hb14 : Below w13.heap.size w13 w14 := by rw [hw14]; exact (Below.refl _ _).alloc (Nat.le_refl _) _
    have hx14 := heap_alloc_new w13 (.cells #[.bool s31, .slice o31 n31 c31, .slice a31 m31 d31, .bool s31x, .slice o31x n31x c31x, .slice a31x m31x d31x] 26)
    obtain ⟨g14, hg14⟩ : ∃ g, g = w13.heap.size := ⟨_, rfl⟩
    rw [← hw14, ← hg14] at hx14
    have lw14 : w.heap.size ≤ g14 := by rw [hg14]; exact HB13.out.size
    have ltBX114 : g1 < g14 := by rw [hg14]; exact below_lt BX1.out
    have ltBX214 : g2 < g14 := by rw [hg14]; exact below_lt BX2.out
    have ltBX314 : g3 < g14 := by rw [hg14]; exact below_lt BX3.out
    have ltBX1114 : g11 < g14 := by rw [hg14]; exact below_lt BX11.out
    have HW14 := Lib.hid hw14; have HG14 := Lib.hid hg14; clear hw14 hg14
    have HB14 := Lib.hid (HB13.out.step hb14)
    have Fa := Lib.hid (Fa.out.below hb14)
    have Fal := Lib.hid (Fal.out.below hb14)
    have Fah := Lib.hid (Fah.out.below hb14)
    have FaV := Lib.hid (FaV.out.below hb14)
    have Fb := Lib.hid (Fb.out.below hb14)
    have Fbl := Lib.hid (Fbl.out.below hb14)
    have Fbh := Lib.hid (Fbh.out.below hb14)
    have FbV := Lib.hid (FbV.out.below hb14)
    have Fc := Lib.hid (Fc.out.below hb14)
    have Fcl := Lib.hid (Fcl.out.below hb14)
    have Fch := Lib.hid (Fch.out.below hb14)
    have FcV := Lib.hid (FcV.out.below hb14)
    have N10 := Lib.hid (N10.out.below hb14)
    have N10l := Lib.hid (N10l.out.below hb14)
    have N10h := Lib.hid (N10h.out.below hb14)
    have N13 := Lib.hid (N13.out.below hb14)
    have N13l := Lib.hid (N13l.out.below hb14)
    have N13h := Lib.hid (N13h.out.below hb14)
    have BX1 := Lib.hid (heap_below BX1.out hb14)
    have BX2 := Lib.hid (heap_below BX2.out hb14)
    have BX3 := Lib.hid (heap_below BX3.out hb14)
    have BX11 := Lib.hid (heap_below BX11.out hb14)
    have BX14 := Lib.hid hx14; clear hb14 hx14
    have hs := is_any 17 17 17 w14 rfl (by decide)
    rw [show decide ((17 : Nat) = 17) = true from by decide, errV_17] at hs
    have HS := Lib.hid hs; clear hs
    go_wp2_with (with_reducible first | refine pauseCall ?_ | refine pauseLoop ?_ | refine pauseDraw ?_ | refine pauseBody ?_ | refine pauseRounds ?_)
    try rw [← HW14.out]
    try rw [← HG14.out]
    refine Pause.mk ?_
    (with_reducible refine HS.out.mono ?_); rintro e wx ⟨rfl, rfl⟩
    clear HS
    obtain ⟨x32_0, x32_1, x32_2, x32_3, x32_4, x32_5⟩ := row6 BX3.out
    obtain ⟨x33_0, x33_1, x33_2, x33_3, x33_4, x33_5⟩ := row6 BX1.out
    obtain ⟨kp34, kp34x⟩ : rl (((p_c), (r_c)) : Rat × Rat).1 ≤ rl (p_c) ∧ rl (((p_c), (r_c)) : Rat × Rat).2 ≤ rl (r_c) := ⟨Nat.le_refl _, Nat.le_refl _⟩
    obtain ⟨kp35, kp35x⟩ : rl (((p_a), (r_a)) : Rat × Rat).1 ≤ rl (p_a) ∧ rl (((p_a), (r_a)) : Rat × Rat).2 ≤ rl (r_a) := ⟨Nat.le_refl _, Nat.le_refl _⟩
    have hs := inside_any _ ((p_c, r_c)) _ ((p_a, r_a)) w14 (Fc.out.is HOc.out (by omega) (by omega)) (Fa.out.is HOa.out (by omega) (by omega)) (by omega) (by omega) (by omega) (by omega)
    rw [HI6.out] at hs
    have HS := Lib.hid hs; clear hs
    go_wp2_with (with_reducible first | refine pauseCall ?_ | refine pauseLoop ?_ | refine pauseDraw ?_ | refine pauseBody ?_ | refine pauseRounds ?_)
    clear x32_0 x32_1 x32_2 x32_3 x32_4 x32_5 x33_0 x33_1 x33_2 x33_3 x33_4 x33_5
    refine Pause.mk ?_
    (with_reducible refine HS.out.mono ?_); rintro e w16 ⟨rfl, hb16⟩
    clear HS
    have HB16 := Lib.hid (HB14.out.step hb16)
    have Fa := Lib.hid (Fa.out.below hb16)
    have Fal := Lib.hid (Fal.out.below hb16)
    have Fah := Lib.hid (Fah.out.below hb16)
    have FaV := Lib.hid (FaV.out.below hb16)
    have Fb := Lib.hid (Fb.out.below hb16)
    have Fbl := Lib.hid (Fbl.out.below hb16)
    have Fbh := Lib.hid (Fbh.out.below hb16)
    have FbV := Lib.hid (FbV.out.below hb16)
    have Fc := Lib.hid (Fc.out.below hb16)
    have Fcl := Lib.hid (Fcl.out.below hb16)
    have Fch := Lib.hid (Fch.out.below hb16)
    have FcV := Lib.hid (FcV.out.below hb16)
    have N10 := Lib.hid (N10.out.below hb16)
    have N10l := Lib.hid (N10l.out.below hb16)
    have N10h := Lib.hid (N10h.out.below hb16)
    have N13 := Lib.hid (N13.out.below hb16)
    have N13l := Lib.hid (N13l.out.below hb16)
    have N13h := Lib.hid (N13h.out.below hb16)
    have BX1 := Lib.hid (heap_below BX1.out hb16)
    have BX2 := Lib.hid (heap_below BX2.out hb16)
    have BX3 := Lib.hid (heap_below BX3.out hb16)
    have BX11 := Lib.hid (heap_below BX11.out hb16)
    have BX14 := Lib.hid (heap_below BX14.out hb16)
    clear hb16
    obtain ⟨x36_0, x36_1, x36_2, x36_3, x36_4, x36_5⟩ := row6 BX3.out
    obtain ⟨x37_0, x37_1, x37_2, x37_3, x37_4, x37_5⟩ := row6 BX2.out
    obtain ⟨kp38, kp38x⟩ : rl (((p_c), (r_c)) : Rat × Rat).1 ≤ rl (p_c) ∧ rl (((p_c), (r_c)) : Rat × Rat).2 ≤ rl (r_c) := ⟨Nat.le_refl _, Nat.le_refl _⟩
    obtain ⟨kp39, kp39x⟩ : rl (((p_b), (r_b)) : Rat × Rat).1 ≤ rl (p_b) ∧ rl (((p_b), (r_b)) : Rat × Rat).2 ≤ rl (r_b) := ⟨Nat.le_refl _, Nat.le_refl _⟩
    have hs := inside_any _ ((p_c, r_c)) _ ((p_b, r_b)) w16 (Fc.out.is HOc.out (by omega) (by omega)) (Fb.out.is HOb.out (by omega) (by omega)) (by omega) (by omega) (by omega) (by omega)
    rw [HI7.out] at hs
    have HS := Lib.hid hs; clear hs
    go_wp2_with (with_reducible first | refine pauseCall ?_ | refine pauseLoop ?_ | refine pauseDraw ?_ | refine pauseBody ?_ | refine pauseRounds ?_)
    clear x36_0 x36_1 x36_2 x36_3 x36_4 x36_5 x37_0 x37_1 x37_2 x37_3 x37_4 x37_5
    refine Pause.mk ?_
    (with_reducible refine HS.out.mono ?_); rintro e w17 ⟨rfl, hb17⟩
    clear HS
    have HB17 := Lib.hid (HB16.out.step hb17)
    have Fa := Lib.hid (Fa.out.below hb17)
    have Fal := Lib.hid (Fal.out.below hb17)
    have Fah := Lib.hid (Fah.out.below hb17)
    have FaV := Lib.hid (FaV.out.below hb17)
    have Fb := Lib.hid (Fb.out.below hb17)
    have Fbl := Lib.hid (Fbl.out.below hb17)
    have Fbh := Lib.hid (Fbh.out.below hb17)
    have FbV := Lib.hid (FbV.out.below hb17)
    have Fc := Lib.hid (Fc.out.below hb17)
    have Fcl := Lib.hid (Fcl.out.below hb17)
    have Fch := Lib.hid (Fch.out.below hb17)
    have FcV := Lib.hid (FcV.out.below hb17)
    have N10 := Lib.hid (N10.out.below hb17)
    have N10l := Lib.hid (N10l.out.below hb17)
    have N10h := Lib.hid (N10h.out.below hb17)
    have N13 := Lib.hid (N13.out.below hb17)
    have N13l := Lib.hid (N13l.out.below hb17)
    have N13h := Lib.hid (N13h.out.below hb17)
    have BX1 := Lib.hid (heap_below BX1.out hb17)
    have BX2 := Lib.hid (heap_below BX2.out hb17)
    have BX3 := Lib.hid (heap_below BX3.out hb17)
    have BX11 := Lib.hid (heap_below BX11.out hb17)
    have BX14 := Lib.hid (heap_below BX14.out hb17)
    clear hb17
    go_wp2_with (with_reducible first | refine pauseCall ?_ | refine pauseLoop ?_ | refine pauseDraw ?_ | refine pauseBody ?_ | refine pauseRounds ?_)
    refine Pause.mk ?_
    go_ret
    exact ⟨by first | rfl | (simp; done), HB17.out⟩
set_option maxRecDepth 100000 in
set_option maxHeartbeats 12800000 in
theorem spanlattice_ok3 (va : Value) (sa : Bool) (aa ba : List Nat) (ta : Bool) (ca da : List Nat) (vb : Value) (sb : Bool) (ab bb : List Nat) (tb : Bool) (cb db : List Nat) (vc : Value) (sc : Bool) (ac bc : List Nat) (tc : Bool) (cc dc : List Nat) (w : World) (ha : SpV w va sa aa ba ta ca da) (la1 : aa.length ≤ 6) (la2 : ba.length ≤ 6) (la3 : ca.length ≤ 6) (la4 : da.length ≤ 6) (hva : Vld sa aa ba ∧ Vld ta ca da ∧ rq sa aa ba ≤ rq ta ca da) (hb : SpV w vb sb ab bb tb cb db) (lb1 : ab.length ≤ 6) (lb2 : bb.length ≤ 6) (lb3 : cb.length ≤ 6) (lb4 : db.length ≤ 6) (hvb : Vld sb ab bb ∧ Vld tb cb db ∧ rq sb ab bb ≤ rq tb cb db) (hc : SpV w vc sc ac bc tc cc dc) (lc1 : ac.length ≤ 6) (lc2 : bc.length ≤ 6) (lc3 : cc.length ≤ 6) (lc4 : dc.length ≤ 6) (hvc : Vld sc ac bc ∧ Vld tc cc dc ∧ rq sc ac bc ≤ rq tc cc dc) (hm : (sMeet (rq sa aa ba, rq ta ca da) (rq sb ab bb, rq tb cb db)).1 ≤ (sMeet (rq sa aa ba, rq ta ca da) (rq sb ab bb, rq tb cb db)).2) :
    Calls Tryd.prog 4 #[va, vb, vc] w (RetV w (.bool true)) := by
  have HBW := Lib.hid (Below.refl w.heap.size w)
  have kz0 : rl 0 ≤ 1 := by rw [rl_zero]; exact Nat.le_refl _
  have za := ha.sz.2
  obtain ⟨qa, oa, na, ka, pa, ma, ra, qax, oax, nax, kax, pax, max, rax, rfl⟩ := ha.shape
  have Za : na ≤ 6 ∧ ma ≤ 6 ∧ nax ≤ 6 ∧ max ≤ 6 := by have e1 : na = _ := congrArg (·.1) za; have e2 : ma = _ := congrArg (·.2.1) za; have e3 : nax = _ := congrArg (·.2.2.1) za; have e4 : max = _ := congrArg (·.2.2.2) za; rw [e1, e2, e3, e4]; exact ⟨la1, la2, la3, la4⟩
  clear za
  have hla1 : rl (rq sa aa ba) ≤ 6 := rl_rq ha.lt.1.1 ha.lt.1.2 la1 la2 (by decide); have hla2 : rl (rq ta ca da) ≤ 6 := rl_rq ha.lt.2.1 ha.lt.2.2 la3 la4 (by decide)
  have FaI := spV_isSp ha hva.1 hva.2.1
  have hoa := hva.2.2
  have HVa := Lib.hid (decide_eq_true hva); clear hva
  have FaV := Lib.hid ha; clear ha
  obtain ⟨p_a, hpa⟩ : ∃ p, p = rq sa aa ba := ⟨_, rfl⟩; obtain ⟨r_a, hra⟩ : ∃ r, r = rq ta ca da := ⟨_, rfl⟩
  rw [← hpa, ← hra] at FaI; rw [← hpa] at hla1 hoa; rw [← hra] at hla2 hoa
  try rw [← hpa] at hm
  try rw [← hra] at hm
  clear hpa hra
  have HOa := Lib.hid hoa; clear hoa
  have Fal := Lib.hid (show IsR _ _ p_a from (isSp_ends FaI).1); have Fah := Lib.hid (show IsR _ _ r_a from (isSp_ends FaI).2); have Fa := Lib.hid FaI; clear FaI
  have zb := hb.sz.2
  obtain ⟨qb, ob, nb, kb, pb, mb, rb, qbx, obx, nbx, kbx, pbx, mbx, rbx, rfl⟩ := hb.shape
  have Zb : nb ≤ 6 ∧ mb ≤ 6 ∧ nbx ≤ 6 ∧ mbx ≤ 6 := by have e1 : nb = _ := congrArg (·.1) zb; have e2 : mb = _ := congrArg (·.2.1) zb; have e3 : nbx = _ := congrArg (·.2.2.1) zb; have e4 : mbx = _ := congrArg (·.2.2.2) zb; rw [e1, e2, e3, e4]; exact ⟨lb1, lb2, lb3, lb4⟩
  clear zb
  have hlb1 : rl (rq sb ab bb) ≤ 6 := rl_rq hb.lt.1.1 hb.lt.1.2 lb1 lb2 (by decide); have hlb2 : rl (rq tb cb db) ≤ 6 := rl_rq hb.lt.2.1 hb.lt.2.2 lb3 lb4 (by decide)
  have FbI := spV_isSp hb hvb.1 hvb.2.1
  have hob := hvb.2.2
  have HVb := Lib.hid (decide_eq_true hvb); clear hvb
  have FbV := Lib.hid hb; clear hb
  obtain ⟨p_b, hpb⟩ : ∃ p, p = rq sb ab bb := ⟨_, rfl⟩; obtain ⟨r_b, hrb⟩ : ∃ r, r = rq tb cb db := ⟨_, rfl⟩
  rw [← hpb, ← hrb] at FbI; rw [← hpb] at hlb1 hob; rw [← hrb] at hlb2 hob
  try rw [← hpb] at hm
  try rw [← hrb] at hm
  clear hpb hrb
  have HOb := Lib.hid hob; clear hob
  have Fbl := Lib.hid (show IsR _ _ p_b from (isSp_ends FbI).1); have Fbh := Lib.hid (show IsR _ _ r_b from (isSp_ends FbI).2); have Fb := Lib.hid FbI; clear FbI
  have zc := hc.sz.2
  obtain ⟨qc, oc, nc, kc, pc, mc, rc, qcx, ocx, ncx, kcx, pcx, mcx, rcx, rfl⟩ := hc.shape
  have Zc : nc ≤ 6 ∧ mc ≤ 6 ∧ ncx ≤ 6 ∧ mcx ≤ 6 := by have e1 : nc = _ := congrArg (·.1) zc; have e2 : mc = _ := congrArg (·.2.1) zc; have e3 : ncx = _ := congrArg (·.2.2.1) zc; have e4 : mcx = _ := congrArg (·.2.2.2) zc; rw [e1, e2, e3, e4]; exact ⟨lc1, lc2, lc3, lc4⟩
  clear zc
  have hlc1 : rl (rq sc ac bc) ≤ 6 := rl_rq hc.lt.1.1 hc.lt.1.2 lc1 lc2 (by decide); have hlc2 : rl (rq tc cc dc) ≤ 6 := rl_rq hc.lt.2.1 hc.lt.2.2 lc3 lc4 (by decide)
  have FcI := spV_isSp hc hvc.1 hvc.2.1
  have hoc := hvc.2.2
  have HVc := Lib.hid (decide_eq_true hvc); clear hvc
  have FcV := Lib.hid hc; clear hc
  obtain ⟨p_c, hpc⟩ : ∃ p, p = rq sc ac bc := ⟨_, rfl⟩; obtain ⟨r_c, hrc⟩ : ∃ r, r = rq tc cc dc := ⟨_, rfl⟩
  rw [← hpc, ← hrc] at FcI; rw [← hpc] at hlc1 hoc; rw [← hrc] at hlc2 hoc
  try rw [← hpc] at hm
  try rw [← hrc] at hm
  clear hpc hrc
  have HOc := Lib.hid hoc; clear hoc
  have Fcl := Lib.hid (show IsR _ _ p_c from (isSp_ends FcI).1); have Fch := Lib.hid (show IsR _ _ r_c from (isSp_ends FcI).2); have Fc := Lib.hid FcI; clear FcI
  have HI1 := Lib.hid (decide_eq_true (show subS ((p_a, r_a)) (sHull ((p_a, r_a)) ((p_b, r_b))) from hull_l))
  have HI2 := Lib.hid (decide_eq_true (show subS ((p_b, r_b)) (sHull ((p_a, r_a)) ((p_b, r_b))) from hull_r))
  obtain ⟨u1, hu1⟩ : ∃ b, b = decide (subS (sHull ((p_a, r_a)) ((p_b, r_b))) ((p_c, r_c))) := ⟨_, rfl⟩
  obtain ⟨u2, hu2⟩ : ∃ b, b = decide (subS ((p_a, r_a)) ((p_c, r_c))) := ⟨_, rfl⟩
  obtain ⟨u3, hu3⟩ : ∃ b, b = decide (subS ((p_b, r_b)) ((p_c, r_c))) := ⟨_, rfl⟩
  have gx : (u1 != (u2 && u3)) = false := by
    have e : u1 = (u2 && u3) := by rw [hu1, hu2, hu3, Bool.eq_iff_iff]; simp only [Bool.and_eq_true, decide_eq_true_eq]; exact hull_sub
    rw [e]; simp
  have GE1 := Lib.hid (show u1 = (u2 && u3) from by rw [hu1, hu2, hu3, Bool.eq_iff_iff]; simp only [Bool.and_eq_true, decide_eq_true_eq]; exact hull_sub)
  have HS := Lib.hid (show stC ((p_a, r_a)) ((p_b, r_b)) = 0 from if_pos hm)
  have hME : stV ((p_a, r_a)) ((p_b, r_b)) = sMeet ((p_a, r_a)) ((p_b, r_b)) := if_pos hm
  have HI8 := Lib.hid (decide_eq_true (show subS (stV ((p_a, r_a)) ((p_b, r_b))) ((p_a, r_a)) from by rw [hME]; exact (meet_sub.1 (sub_refl hm)).1))
  have HI9 := Lib.hid (decide_eq_true (show subS (stV ((p_a, r_a)) ((p_b, r_b))) ((p_b, r_b)) from by rw [hME]; exact (meet_sub.1 (sub_refl hm)).2))
  obtain ⟨y1, hy1⟩ : ∃ b, b = decide (subS ((p_c, r_c)) (stV ((p_a, r_a)) ((p_b, r_b)))) := ⟨_, rfl⟩
  obtain ⟨y2, hy2⟩ : ∃ b, b = decide (subS ((p_c, r_c)) ((p_a, r_a))) := ⟨_, rfl⟩
  obtain ⟨y3, hy3⟩ : ∃ b, b = decide (subS ((p_c, r_c)) ((p_b, r_b))) := ⟨_, rfl⟩
  have gy : (y1 == (y2 && y3)) = true := by
    have e : y1 = (y2 && y3) := by rw [hy1, hy2, hy3, hME, Bool.eq_iff_iff]; simp only [Bool.and_eq_true, decide_eq_true_eq]; exact meet_sub
    rw [e]; simp
  have GE2 := Lib.hid (show y1 = (y2 && y3) from by rw [hy1, hy2, hy3, hME, Bool.eq_iff_iff]; simp only [Bool.and_eq_true, decide_eq_true_eq]; exact meet_sub)
  clear hME
  have Hu1 := Lib.hid hu1.symm; have Hu2 := Lib.hid hu2.symm; have Hu3 := Lib.hid hu3.symm; have Hy1 := Lib.hid hy1.symm; have Hy2 := Lib.hid hy2.symm; have Hy3 := Lib.hid hy3.symm; clear hu1 hu2 hu3 hy1 hy2 hy3
  clear hm
  obtain ⟨w1, hw1⟩ : ∃ w1, w1 = w.alloc (.cells #[.bool qa, .slice oa na ka, .slice pa ma ra, .bool qax, .slice oax nax kax, .slice pax max rax] 26) := ⟨_, rfl⟩
  have hb1 : Below w.heap.size w w1 := by rw [hw1]; exact (Below.refl _ _).alloc (Nat.le_refl _) _
  have hx1 := heap_alloc_new w (.cells #[.bool qa, .slice oa na ka, .slice pa ma ra, .bool qax, .slice oax nax kax, .slice pax max rax] 26)
  obtain ⟨g1, hg1⟩ : ∃ g, g = w.heap.size := ⟨_, rfl⟩
  rw [← hw1, ← hg1] at hx1
  have lw1 : w.heap.size ≤ g1 := by rw [hg1]; exact HBW.out.size
  have HW1 := Lib.hid hw1; have HG1 := Lib.hid hg1; clear hw1 hg1
  have HB1 := Lib.hid (HBW.out.step hb1)
  have Fa := Lib.hid (Fa.out.below hb1)
  have Fal := Lib.hid (Fal.out.below hb1)
  have Fah := Lib.hid (Fah.out.below hb1)
  have FaV := Lib.hid (FaV.out.below hb1)
  have Fb := Lib.hid (Fb.out.below hb1)
  have Fbl := Lib.hid (Fbl.out.below hb1)
  have Fbh := Lib.hid (Fbh.out.below hb1)
  have FbV := Lib.hid (FbV.out.below hb1)
  have Fc := Lib.hid (Fc.out.below hb1)
  have Fcl := Lib.hid (Fcl.out.below hb1)
  have Fch := Lib.hid (Fch.out.below hb1)
  have FcV := Lib.hid (FcV.out.below hb1)
  have BX1 := Lib.hid hx1; clear hb1 hx1
  obtain ⟨w2, hw2⟩ : ∃ w2, w2 = w1.alloc (.cells #[.bool qb, .slice ob nb kb, .slice pb mb rb, .bool qbx, .slice obx nbx kbx, .slice pbx mbx rbx] 26) := ⟨_, rfl⟩
  have hb2 : Below w1.heap.size w1 w2 := by rw [hw2]; exact (Below.refl _ _).alloc (Nat.le_refl _) _
  have hx2 := heap_alloc_new w1 (.cells #[.bool qb, .slice ob nb kb, .slice pb mb rb, .bool qbx, .slice obx nbx kbx, .slice pbx mbx rbx] 26)
  obtain ⟨g2, hg2⟩ : ∃ g, g = w1.heap.size := ⟨_, rfl⟩
  rw [← hw2, ← hg2] at hx2
  have lw2 : w.heap.size ≤ g2 := by rw [hg2]; exact HB1.out.size
  have ltBX12 : g1 < g2 := by rw [hg2]; exact below_lt BX1.out
  have hs2 : g2 = w.heap.size + 1 := by rw [hg2, HW1.out]; simp
  have HS2 := Lib.hid hs2; clear hs2
  have HW2 := Lib.hid hw2; have HG2 := Lib.hid hg2; clear hw2 hg2
  have HB2 := Lib.hid (HB1.out.step hb2)
  have Fa := Lib.hid (Fa.out.below hb2)
  have Fal := Lib.hid (Fal.out.below hb2)
  have Fah := Lib.hid (Fah.out.below hb2)
  have FaV := Lib.hid (FaV.out.below hb2)
  have Fb := Lib.hid (Fb.out.below hb2)
  have Fbl := Lib.hid (Fbl.out.below hb2)
  have Fbh := Lib.hid (Fbh.out.below hb2)
  have FbV := Lib.hid (FbV.out.below hb2)
  have Fc := Lib.hid (Fc.out.below hb2)
  have Fcl := Lib.hid (Fcl.out.below hb2)
  have Fch := Lib.hid (Fch.out.below hb2)
  have FcV := Lib.hid (FcV.out.below hb2)
  have BX1 := Lib.hid (heap_below BX1.out hb2)
  have BX2 := Lib.hid hx2; clear hb2 hx2
  obtain ⟨w3, hw3⟩ : ∃ w3, w3 = w2.alloc (.cells #[.bool qc, .slice oc nc kc, .slice pc mc rc, .bool qcx, .slice ocx ncx kcx, .slice pcx mcx rcx] 26) := ⟨_, rfl⟩
  have hb3 : Below w2.heap.size w2 w3 := by rw [hw3]; exact (Below.refl _ _).alloc (Nat.le_refl _) _
  have hx3 := heap_alloc_new w2 (.cells #[.bool qc, .slice oc nc kc, .slice pc mc rc, .bool qcx, .slice ocx ncx kcx, .slice pcx mcx rcx] 26)
  obtain ⟨g3, hg3⟩ : ∃ g, g = w2.heap.size := ⟨_, rfl⟩
  rw [← hw3, ← hg3] at hx3
  have lw3 : w.heap.size ≤ g3 := by rw [hg3]; exact HB2.out.size
  have ltBX13 : g1 < g3 := by rw [hg3]; exact below_lt BX1.out
  have ltBX23 : g2 < g3 := by rw [hg3]; exact below_lt BX2.out
  have hs3 : g3 = w.heap.size + 2 := by rw [hg3, HW2.out, HW1.out]; simp
  have HS3 := Lib.hid hs3; clear hs3
  have HW3 := Lib.hid hw3; have HG3 := Lib.hid hg3; clear hw3 hg3
  have HB3 := Lib.hid (HB2.out.step hb3)
  have Fa := Lib.hid (Fa.out.below hb3)
  have Fal := Lib.hid (Fal.out.below hb3)
  have Fah := Lib.hid (Fah.out.below hb3)
  have FaV := Lib.hid (FaV.out.below hb3)
  have Fb := Lib.hid (Fb.out.below hb3)
  have Fbl := Lib.hid (Fbl.out.below hb3)
  have Fbh := Lib.hid (Fbh.out.below hb3)
  have FbV := Lib.hid (FbV.out.below hb3)
  have Fc := Lib.hid (Fc.out.below hb3)
  have Fcl := Lib.hid (Fcl.out.below hb3)
  have Fch := Lib.hid (Fch.out.below hb3)
  have FcV := Lib.hid (FcV.out.below hb3)
  have BX1 := Lib.hid (heap_below BX1.out hb3)
  have BX2 := Lib.hid (heap_below BX2.out hb3)
  have BX3 := Lib.hid hx3; clear hb3 hx3
  go_enter Tryd.func4, Tryd.ntmps4
  have hs := awake03 w3
  have HS := Lib.hid hs; clear hs
  go_wp2_with (with_reducible first | refine pauseCall ?_ | refine pauseLoop ?_ | refine pauseDraw ?_ | refine pauseBody ?_ | refine pauseRounds ?_)
  try rw [← HW1.out]
  try rw [← HW2.out]
  try rw [← HW3.out]
  try rw [← HS3.out]
  try rw [← HS2.out]
  try rw [← HG1.out]
  try rw [← HG2.out]
  try rw [← HG3.out]
  refine Pause.mk ?_
  (with_reducible refine HS.out.mono ?_); rintro e w4 ⟨rfl, hb4⟩
  clear HS
  have HB4 := Lib.hid (HB3.out.step hb4)
  have Fa := Lib.hid (Fa.out.below hb4)
  have Fal := Lib.hid (Fal.out.below hb4)
  have Fah := Lib.hid (Fah.out.below hb4)
  have FaV := Lib.hid (FaV.out.below hb4)
  have Fb := Lib.hid (Fb.out.below hb4)
  have Fbl := Lib.hid (Fbl.out.below hb4)
  have Fbh := Lib.hid (Fbh.out.below hb4)
  have FbV := Lib.hid (FbV.out.below hb4)
  have Fc := Lib.hid (Fc.out.below hb4)
  have Fcl := Lib.hid (Fcl.out.below hb4)
  have Fch := Lib.hid (Fch.out.below hb4)
  have FcV := Lib.hid (FcV.out.below hb4)
  have BX1 := Lib.hid (heap_below BX1.out hb4)
  have BX2 := Lib.hid (heap_below BX2.out hb4)
  have BX3 := Lib.hid (heap_below BX3.out hb4)
  clear hb4
  obtain ⟨x1_0, x1_1, x1_2, x1_3, x1_4, x1_5⟩ := row6 BX1.out
  obtain ⟨x2_0, x2_1, x2_2, x2_3, x2_4, x2_5⟩ := row6 BX2.out
  obtain ⟨x3_0, x3_1, x3_2, x3_3, x3_4, x3_5⟩ := row6 BX3.out
  obtain ⟨w5, hw5⟩ : ∃ w5, w5 = w4.alloc (.cells #[.bool qa, .slice oa na ka, .slice pa ma ra, .bool qax, .slice oax nax kax, .slice pax max rax, .bool qb, .slice ob nb kb, .slice pb mb rb, .bool qbx, .slice obx nbx kbx, .slice pbx mbx rbx, .bool qc, .slice oc nc kc, .slice pc mc rc, .bool qcx, .slice ocx ncx kcx, .slice pcx mcx rcx] 26) := ⟨_, rfl⟩
  have hb5 : Below w4.heap.size w4 w5 := by rw [hw5]; exact (Below.refl _ _).alloc (Nat.le_refl _) _
  have hx5 := heap_alloc_new w4 (.cells #[.bool qa, .slice oa na ka, .slice pa ma ra, .bool qax, .slice oax nax kax, .slice pax max rax, .bool qb, .slice ob nb kb, .slice pb mb rb, .bool qbx, .slice obx nbx kbx, .slice pbx mbx rbx, .bool qc, .slice oc nc kc, .slice pc mc rc, .bool qcx, .slice ocx ncx kcx, .slice pcx mcx rcx] 26)
  obtain ⟨g5, hg5⟩ : ∃ g, g = w4.heap.size := ⟨_, rfl⟩
  rw [← hw5, ← hg5] at hx5
  have lw5 : w.heap.size ≤ g5 := by rw [hg5]; exact HB4.out.size
  have ltBX15 : g1 < g5 := by rw [hg5]; exact below_lt BX1.out
  have ltBX25 : g2 < g5 := by rw [hg5]; exact below_lt BX2.out
  have ltBX35 : g3 < g5 := by rw [hg5]; exact below_lt BX3.out
  have HW5 := Lib.hid hw5; have HG5 := Lib.hid hg5; clear hw5 hg5
  have HB5 := Lib.hid (HB4.out.step hb5)
  have Fa := Lib.hid (Fa.out.below hb5)
  have Fal := Lib.hid (Fal.out.below hb5)
  have Fah := Lib.hid (Fah.out.below hb5)
  have FaV := Lib.hid (FaV.out.below hb5)
  have Fb := Lib.hid (Fb.out.below hb5)
  have Fbl := Lib.hid (Fbl.out.below hb5)
  have Fbh := Lib.hid (Fbh.out.below hb5)
  have FbV := Lib.hid (FbV.out.below hb5)
  have Fc := Lib.hid (Fc.out.below hb5)
  have Fcl := Lib.hid (Fcl.out.below hb5)
  have Fch := Lib.hid (Fch.out.below hb5)
  have FcV := Lib.hid (FcV.out.below hb5)
  have BX1 := Lib.hid (heap_below BX1.out hb5)
  have BX2 := Lib.hid (heap_below BX2.out hb5)
  have BX3 := Lib.hid (heap_below BX3.out hb5)
  have BX5 := Lib.hid hx5; clear hb5 hx5
  have hs := slarge3s BX5.out Za Zb Zc
  have HS := Lib.hid hs; clear hs
  try rw [HG5.out] at x1_0
  try rw [HG5.out] at x1_1
  try rw [HG5.out] at x1_2
  try rw [HG5.out] at x1_3
  try rw [HG5.out] at x1_4
  try rw [HG5.out] at x1_5
  try rw [HG5.out] at x2_0
  try rw [HG5.out] at x2_1
  try rw [HG5.out] at x2_2
  try rw [HG5.out] at x2_3
  try rw [HG5.out] at x2_4
  try rw [HG5.out] at x2_5
  try rw [HG5.out] at x3_0
  try rw [HG5.out] at x3_1
  try rw [HG5.out] at x3_2
  try rw [HG5.out] at x3_3
  try rw [HG5.out] at x3_4
  try rw [HG5.out] at x3_5
  go_wp2_with (with_reducible first | refine pauseCall ?_ | refine pauseLoop ?_ | refine pauseDraw ?_ | refine pauseBody ?_ | refine pauseRounds ?_)
  try rw [← HW5.out]
  try rw [← HG5.out]
  clear x1_0 x1_1 x1_2 x1_3 x1_4 x1_5 x2_0 x2_1 x2_2 x2_3 x2_4 x2_5 x3_0 x3_1 x3_2 x3_3 x3_4 x3_5
  refine Pause.mk ?_
  (with_reducible refine HS.out.mono ?_); rintro e w6 ⟨rfl, hb6⟩
  clear HS
  have HB6 := Lib.hid (HB5.out.step hb6)
  have Fa := Lib.hid (Fa.out.below hb6)
  have Fal := Lib.hid (Fal.out.below hb6)
  have Fah := Lib.hid (Fah.out.below hb6)
  have FaV := Lib.hid (FaV.out.below hb6)
  have Fb := Lib.hid (Fb.out.below hb6)
  have Fbl := Lib.hid (Fbl.out.below hb6)
  have Fbh := Lib.hid (Fbh.out.below hb6)
  have FbV := Lib.hid (FbV.out.below hb6)
  have Fc := Lib.hid (Fc.out.below hb6)
  have Fcl := Lib.hid (Fcl.out.below hb6)
  have Fch := Lib.hid (Fch.out.below hb6)
  have FcV := Lib.hid (FcV.out.below hb6)
  have BX1 := Lib.hid (heap_below BX1.out hb6)
  have BX2 := Lib.hid (heap_below BX2.out hb6)
  have BX3 := Lib.hid (heap_below BX3.out hb6)
  have BX5 := Lib.hid (heap_below BX5.out hb6)
  clear BX5
  clear hb6
  obtain ⟨x4_0, x4_1, x4_2, x4_3, x4_4, x4_5⟩ := row6 BX1.out
  obtain ⟨kp5, kp5x⟩ : rl (((p_a), (r_a)) : Rat × Rat).1 ≤ rl (p_a) ∧ rl (((p_a), (r_a)) : Rat × Rat).2 ≤ rl (r_a) := ⟨Nat.le_refl _, Nat.le_refl _⟩
  have hs := svalid_any _ sa aa ba ta ca da w6 FaV.out (by omega) (by omega) (by omega) (by omega)
  rw [HVa.out] at hs
  have HS := Lib.hid hs; clear hs
  go_wp2_with (with_reducible first | refine pauseCall ?_ | refine pauseLoop ?_ | refine pauseDraw ?_ | refine pauseBody ?_ | refine pauseRounds ?_)
  clear x4_0 x4_1 x4_2 x4_3 x4_4 x4_5
  refine Pause.mk ?_
  (with_reducible refine HS.out.mono ?_); rintro e w7 ⟨rfl, hb7⟩
  clear HS
  have HB7 := Lib.hid (HB6.out.step hb7)
  have Fa := Lib.hid (Fa.out.below hb7)
  have Fal := Lib.hid (Fal.out.below hb7)
  have Fah := Lib.hid (Fah.out.below hb7)
  have FaV := Lib.hid (FaV.out.below hb7)
  have Fb := Lib.hid (Fb.out.below hb7)
  have Fbl := Lib.hid (Fbl.out.below hb7)
  have Fbh := Lib.hid (Fbh.out.below hb7)
  have FbV := Lib.hid (FbV.out.below hb7)
  have Fc := Lib.hid (Fc.out.below hb7)
  have Fcl := Lib.hid (Fcl.out.below hb7)
  have Fch := Lib.hid (Fch.out.below hb7)
  have FcV := Lib.hid (FcV.out.below hb7)
  have BX1 := Lib.hid (heap_below BX1.out hb7)
  have BX2 := Lib.hid (heap_below BX2.out hb7)
  have BX3 := Lib.hid (heap_below BX3.out hb7)
  clear hb7
  obtain ⟨x6_0, x6_1, x6_2, x6_3, x6_4, x6_5⟩ := row6 BX2.out
  obtain ⟨kp7, kp7x⟩ : rl (((p_b), (r_b)) : Rat × Rat).1 ≤ rl (p_b) ∧ rl (((p_b), (r_b)) : Rat × Rat).2 ≤ rl (r_b) := ⟨Nat.le_refl _, Nat.le_refl _⟩
  have hs := svalid_any _ sb ab bb tb cb db w7 FbV.out (by omega) (by omega) (by omega) (by omega)
  rw [HVb.out] at hs
  have HS := Lib.hid hs; clear hs
  go_wp2_with (with_reducible first | refine pauseCall ?_ | refine pauseLoop ?_ | refine pauseDraw ?_ | refine pauseBody ?_ | refine pauseRounds ?_)
  clear x6_0 x6_1 x6_2 x6_3 x6_4 x6_5
  refine Pause.mk ?_
  (with_reducible refine HS.out.mono ?_); rintro e w8 ⟨rfl, hb8⟩
  clear HS
  have HB8 := Lib.hid (HB7.out.step hb8)
  have Fa := Lib.hid (Fa.out.below hb8)
  have Fal := Lib.hid (Fal.out.below hb8)
  have Fah := Lib.hid (Fah.out.below hb8)
  have FaV := Lib.hid (FaV.out.below hb8)
  have Fb := Lib.hid (Fb.out.below hb8)
  have Fbl := Lib.hid (Fbl.out.below hb8)
  have Fbh := Lib.hid (Fbh.out.below hb8)
  have FbV := Lib.hid (FbV.out.below hb8)
  have Fc := Lib.hid (Fc.out.below hb8)
  have Fcl := Lib.hid (Fcl.out.below hb8)
  have Fch := Lib.hid (Fch.out.below hb8)
  have FcV := Lib.hid (FcV.out.below hb8)
  have BX1 := Lib.hid (heap_below BX1.out hb8)
  have BX2 := Lib.hid (heap_below BX2.out hb8)
  have BX3 := Lib.hid (heap_below BX3.out hb8)
  clear hb8
  obtain ⟨x8_0, x8_1, x8_2, x8_3, x8_4, x8_5⟩ := row6 BX3.out
  obtain ⟨kp9, kp9x⟩ : rl (((p_c), (r_c)) : Rat × Rat).1 ≤ rl (p_c) ∧ rl (((p_c), (r_c)) : Rat × Rat).2 ≤ rl (r_c) := ⟨Nat.le_refl _, Nat.le_refl _⟩
  have hs := svalid_any _ sc ac bc tc cc dc w8 FcV.out (by omega) (by omega) (by omega) (by omega)
  rw [HVc.out] at hs
  have HS := Lib.hid hs; clear hs
  go_wp2_with (with_reducible first | refine pauseCall ?_ | refine pauseLoop ?_ | refine pauseDraw ?_ | refine pauseBody ?_ | refine pauseRounds ?_)
  clear x8_0 x8_1 x8_2 x8_3 x8_4 x8_5
  refine Pause.mk ?_
  (with_reducible refine HS.out.mono ?_); rintro e w9 ⟨rfl, hb9⟩
  clear HS
  have HB9 := Lib.hid (HB8.out.step hb9)
  have Fa := Lib.hid (Fa.out.below hb9)
  have Fal := Lib.hid (Fal.out.below hb9)
  have Fah := Lib.hid (Fah.out.below hb9)
  have FaV := Lib.hid (FaV.out.below hb9)
  have Fb := Lib.hid (Fb.out.below hb9)
  have Fbl := Lib.hid (Fbl.out.below hb9)
  have Fbh := Lib.hid (Fbh.out.below hb9)
  have FbV := Lib.hid (FbV.out.below hb9)
  have Fc := Lib.hid (Fc.out.below hb9)
  have Fcl := Lib.hid (Fcl.out.below hb9)
  have Fch := Lib.hid (Fch.out.below hb9)
  have FcV := Lib.hid (FcV.out.below hb9)
  have BX1 := Lib.hid (heap_below BX1.out hb9)
  have BX2 := Lib.hid (heap_below BX2.out hb9)
  have BX3 := Lib.hid (heap_below BX3.out hb9)
  clear hb9
  obtain ⟨x10_0, x10_1, x10_2, x10_3, x10_4, x10_5⟩ := row6 BX1.out
  obtain ⟨x11_0, x11_1, x11_2, x11_3, x11_4, x11_5⟩ := row6 BX2.out
  obtain ⟨kp14, kp14x⟩ : rl (((p_a), (r_a)) : Rat × Rat).1 ≤ rl (p_a) ∧ rl (((p_a), (r_a)) : Rat × Rat).2 ≤ rl (r_a) := ⟨Nat.le_refl _, Nat.le_refl _⟩
  obtain ⟨kp15, kp15x⟩ : rl (((p_b), (r_b)) : Rat × Rat).1 ≤ rl (p_b) ∧ rl (((p_b), (r_b)) : Rat × Rat).2 ≤ rl (r_b) := ⟨Nat.le_refl _, Nat.le_refl _⟩
  obtain ⟨k12, k13⟩ := rl_sHull ((p_a, r_a)) ((p_b, r_b))
  have hs := shull_any _ ((p_a, r_a)) _ ((p_b, r_b)) w9 (Fa.out.is HOa.out (by omega) (by omega)) (Fb.out.is HOb.out (by omega) (by omega)) (by omega) (by omega) (by omega) (by omega)
  have HS := Lib.hid hs; clear hs
  go_wp2_with (with_reducible first | refine pauseCall ?_ | refine pauseLoop ?_ | refine pauseDraw ?_ | refine pauseBody ?_ | refine pauseRounds ?_)
  clear x10_0 x10_1 x10_2 x10_3 x10_4 x10_5 x11_0 x11_1 x11_2 x11_3 x11_4 x11_5
  refine Pause.mk ?_
  (with_reducible refine HS.out.mono ?_); rintro e w10 ⟨v10, rfl, hb10, hn10⟩
  clear HS
  have HB10 := Lib.hid (HB9.out.step hb10)
  have Fa := Lib.hid (Fa.out.below hb10)
  have Fal := Lib.hid (Fal.out.below hb10)
  have Fah := Lib.hid (Fah.out.below hb10)
  have FaV := Lib.hid (FaV.out.below hb10)
  have Fb := Lib.hid (Fb.out.below hb10)
  have Fbl := Lib.hid (Fbl.out.below hb10)
  have Fbh := Lib.hid (Fbh.out.below hb10)
  have FbV := Lib.hid (FbV.out.below hb10)
  have Fc := Lib.hid (Fc.out.below hb10)
  have Fcl := Lib.hid (Fcl.out.below hb10)
  have Fch := Lib.hid (Fch.out.below hb10)
  have FcV := Lib.hid (FcV.out.below hb10)
  have BX1 := Lib.hid (heap_below BX1.out hb10)
  have BX2 := Lib.hid (heap_below BX2.out hb10)
  have BX3 := Lib.hid (heap_below BX3.out hb10)
  have N10 := Lib.hid hn10; clear hn10
  obtain ⟨s16, o16, n16, c16, a16, m16, d16, s16x, o16x, n16x, c16x, a16x, m16x, d16x, rfl⟩ := N10.out.shape
  have N10l := Lib.hid (isSp_ends N10.out).1; have N10h := Lib.hid (isSp_ends N10.out).2
  clear hb10
  obtain ⟨w11, hw11⟩ : ∃ w11, w11 = w10.alloc (.cells #[.bool s16, .slice o16 n16 c16, .slice a16 m16 d16, .bool s16x, .slice o16x n16x c16x, .slice a16x m16x d16x] 26) := ⟨_, rfl⟩
  have hb11 : Below w10.heap.size w10 w11 := by rw [hw11]; exact (Below.refl _ _).alloc (Nat.le_refl _) _
  have hx11 := heap_alloc_new w10 (.cells #[.bool s16, .slice o16 n16 c16, .slice a16 m16 d16, .bool s16x, .slice o16x n16x c16x, .slice a16x m16x d16x] 26)
  obtain ⟨g11, hg11⟩ : ∃ g, g = w10.heap.size := ⟨_, rfl⟩
  rw [← hw11, ← hg11] at hx11
  have lw11 : w.heap.size ≤ g11 := by rw [hg11]; exact HB10.out.size
  have ltBX111 : g1 < g11 := by rw [hg11]; exact below_lt BX1.out
  have ltBX211 : g2 < g11 := by rw [hg11]; exact below_lt BX2.out
  have ltBX311 : g3 < g11 := by rw [hg11]; exact below_lt BX3.out
  have HW11 := Lib.hid hw11; have HG11 := Lib.hid hg11; clear hw11 hg11
  have HB11 := Lib.hid (HB10.out.step hb11)
  have Fa := Lib.hid (Fa.out.below hb11)
  have Fal := Lib.hid (Fal.out.below hb11)
  have Fah := Lib.hid (Fah.out.below hb11)
  have FaV := Lib.hid (FaV.out.below hb11)
  have Fb := Lib.hid (Fb.out.below hb11)
  have Fbl := Lib.hid (Fbl.out.below hb11)
  have Fbh := Lib.hid (Fbh.out.below hb11)
  have FbV := Lib.hid (FbV.out.below hb11)
  have Fc := Lib.hid (Fc.out.below hb11)
  have Fcl := Lib.hid (Fcl.out.below hb11)
  have Fch := Lib.hid (Fch.out.below hb11)
  have FcV := Lib.hid (FcV.out.below hb11)
  have N10 := Lib.hid (N10.out.below hb11)
  have N10l := Lib.hid (N10l.out.below hb11)
  have N10h := Lib.hid (N10h.out.below hb11)
  have BX1 := Lib.hid (heap_below BX1.out hb11)
  have BX2 := Lib.hid (heap_below BX2.out hb11)
  have BX3 := Lib.hid (heap_below BX3.out hb11)
  have BX11 := Lib.hid hx11; clear hb11 hx11
  go_wp2_with (with_reducible first | refine pauseCall ?_ | refine pauseLoop ?_ | refine pauseDraw ?_ | refine pauseBody ?_ | refine pauseRounds ?_)
  try rw [← HW11.out]
  try rw [← HG11.out]
  refine Pause.mk ?_
  obtain ⟨kp17, kp17x⟩ : rl (((p_a), (r_a)) : Rat × Rat).1 ≤ rl (p_a) ∧ rl (((p_a), (r_a)) : Rat × Rat).2 ≤ rl (r_a) := ⟨Nat.le_refl _, Nat.le_refl _⟩
  obtain ⟨kp18, kp18x⟩ : rl (((p_b), (r_b)) : Rat × Rat).1 ≤ rl (p_b) ∧ rl (((p_b), (r_b)) : Rat × Rat).2 ≤ rl (r_b) := ⟨Nat.le_refl _, Nat.le_refl _⟩
  obtain ⟨kp19, kp19x⟩ : rl (((p_c), (r_c)) : Rat × Rat).1 ≤ rl (p_c) ∧ rl (((p_c), (r_c)) : Rat × Rat).2 ≤ rl (r_c) := ⟨Nat.le_refl _, Nat.le_refl _⟩
  obtain ⟨kp20, kp20x⟩ : rl (((p_a), (r_a)) : Rat × Rat).1 ≤ rl (p_a) ∧ rl (((p_a), (r_a)) : Rat × Rat).2 ≤ rl (r_a) := ⟨Nat.le_refl _, Nat.le_refl _⟩
  obtain ⟨kp21, kp21x⟩ : rl (((p_c), (r_c)) : Rat × Rat).1 ≤ rl (p_c) ∧ rl (((p_c), (r_c)) : Rat × Rat).2 ≤ rl (r_c) := ⟨Nat.le_refl _, Nat.le_refl _⟩
  obtain ⟨kp22, kp22x⟩ : rl (((p_b), (r_b)) : Rat × Rat).1 ≤ rl (p_b) ∧ rl (((p_b), (r_b)) : Rat × Rat).2 ≤ rl (r_b) := ⟨Nat.le_refl _, Nat.le_refl _⟩
  obtain ⟨kp23, kp23x⟩ : rl (((p_c), (r_c)) : Rat × Rat).1 ≤ rl (p_c) ∧ rl (((p_c), (r_c)) : Rat × Rat).2 ≤ rl (r_c) := ⟨Nat.le_refl _, Nat.le_refl _⟩
  refine wp_region_facts (A := ?aa24) (w := w11) 23 [] (by kernel_rfl) (Fl [KEq (.agg #[.bool qa, .slice oa na ka, .slice pa ma ra, .bool qax, .slice oax nax kax, .slice pax max rax]), KEq (.agg #[.bool s16, .slice o16 n16 c16, .slice a16 m16 d16, .bool s16x, .slice o16x n16x c16x, .slice a16x m16x d16x]), KEq (.bool true), KEq (.bool false), KEq (.bool false), KEq (.agg #[.bool qb, .slice ob nb kb, .slice pb mb rb, .bool qbx, .slice obx nbx kbx, .slice pbx mbx rbx]), KEq (.agg #[.bool s16, .slice o16 n16 c16, .slice a16 m16 d16, .bool s16x, .slice o16x n16x c16x, .slice a16x m16x d16x]), KEq (.bool true), KEq (.bool false), KEq (.bool false), KEq (.bool false), KEq (.agg #[.bool s16, .slice o16 n16 c16, .slice a16 m16 d16, .bool s16x, .slice o16x n16x c16x, .slice a16x m16x d16x]), KEq (.agg #[.bool qc, .slice oc nc kc, .slice pc mc rc, .bool qcx, .slice ocx ncx kcx, .slice pcx mcx rcx]), KEq (.bool u1), KEq (.agg #[.bool qa, .slice oa na ka, .slice pa ma ra, .bool qax, .slice oax nax kax, .slice pax max rax]), KEq (.agg #[.bool qc, .slice oc nc kc, .slice pc mc rc, .bool qcx, .slice ocx ncx kcx, .slice pcx mcx rcx]), KEq (.bool u2), KEq (.bool u2), KIf u2 true (KEq (.agg #[.bool qb, .slice ob nb kb, .slice pb mb rb, .bool qbx, .slice obx nbx kbx, .slice pbx mbx rbx])), KIf u2 true (KEq (.agg #[.bool qc, .slice oc nc kc, .slice pc mc rc, .bool qcx, .slice ocx ncx kcx, .slice pcx mcx rcx])), KIf u2 true (KEq (.bool u3)), KEq (.bool (u2 && u3)), KEq (.bool false)]) (fun i => false) (by kernel_rfl) ?hq24 (monoL (monoC (kEq _) (monoC (kEq _) (monoC (kEq _) (monoC (kEq _) (monoC (kEq _) (monoC (kEq _) (monoC (kEq _) (monoC (kEq _) (monoC (kEq _) (monoC (kEq _) (monoC (kEq _) (monoC (kEq _) (monoC (kEq _) (monoC (kEq _) (monoC (kEq _) (monoC (kEq _) (monoC (kEq _) (monoC (kEq _) (monoC (kIf _ _ (kEq _)) (monoC (kIf _ _ (kEq _)) (monoC (kIf _ _ (kEq _)) (monoC (kEq _) (monoC (kEq _) monoN)))))))))))))))))))))))) ?ha24 ?st24 ?tl24
  case hq24 =>
    intro c a d v w h
    first | (simp only [Exit.then] at h ⊢; exact h) | (simp only [Exit.inBlock, Exit.then] at h ⊢; exact h) | exact h
  case ha24 =>
    intro vals
    simp only [putsTo, dstOf, if_true, Act.put, List.setIfInBounds_toArray, List.set_cons_zero, List.set_cons_succ, List.getElem?_toArray, List.getElem?_cons_zero, List.getElem?_cons_succ, Option.bind_some]
    exact rfl
  case st24 =>
    simp only [List.take_succ_cons, List.take_zero]
    refine stepsOK_cons rfl rfl ?_ (stepsOK_cons rfl rfl ?_ (stepsOK_cons rfl rfl ?_ (stepsOK_cons rfl rfl ?_ (stepsOK_cons rfl rfl ?_ (stepsOK_guard rfl ?_ (stepsOK_guard rfl ?_ (stepsOK_guard rfl ?_ (stepsOK_guard rfl ?_ (stepsOK_cons rfl rfl ?_ (stepsOK_cons rfl rfl ?_ (stepsOK_guard rfl ?_ (stepsOK_guard rfl ?_ (stepsOK_guard rfl ?_ (stepsOK_guard rfl ?_ (stepsOK_guard rfl ?_ (stepsOK_guard rfl ?_ (stepsOK_guard rfl ?_ (stepsOK_guard rfl ?_ (stepsOK_guard rfl ?_ (stepsOK_guard rfl ?_ (stepsOK_guard rfl ?_ (stepsOK_guard rfl ?_ (stepsOK_nil)))))))))))))))))))))))
    · intro vals w1 hb hd
      obtain ⟨e0, e1, e2, e3, e4, e5⟩ := row6 (heap_below BX1.out hb)
      refine stepOK_value (v := .agg #[.bool qa, .slice oa na ka, .slice pa ma ra, .bool qax, .slice oax nax kax, .slice pax max rax]) (w' := w1) (by go_simp) (leaves_mk (Below.refl _ _) rfl (fun h => by cases h))
    · intro vals w1 hb hd
      obtain ⟨e0, e1, e2, e3, e4, e5⟩ := row6 (heap_below BX11.out hb)
      refine stepOK_value (v := .agg #[.bool s16, .slice o16 n16 c16, .slice a16 m16 d16, .bool s16x, .slice o16x n16x c16x, .slice a16x m16x d16x]) (w' := w1) (by go_simp) (leaves_mk (Below.refl _ _) rfl (fun h => by cases h))
    · intro vals w1 hb hd
      have d0 : KEq (.agg #[.bool qa, .slice oa na ka, .slice pa ma ra, .bool qax, .slice oax nax kax, .slice pax max rax]) (vals 0) w1 := hd 0 (by kernel_rfl)
      have d1 : KEq (.agg #[.bool s16, .slice o16 n16 c16, .slice a16 m16 d16, .bool s16x, .slice o16x n16x c16x, .slice a16x m16x d16x]) (vals 1) w1 := hd 1 (by kernel_rfl)
      have z0 : vals 0 = _ := d0
      have z1 : vals 1 = _ := d1
      have hs := inside_any _ ((p_a, r_a)) _ (sHull ((p_a, r_a)) ((p_b, r_b))) w1 ((Fa.out.below hb).is HOa.out (by omega) (by omega)) ((N10.out.below hb).is (around4_ok _ _ _ _) (by omega) (by omega)) (by omega) (by omega) (by omega) (by omega)
      rw [HI1.out] at hs
      have HS := Lib.hid hs; clear hs
      rw [z0]; clear z0
      rw [z1]; clear z1
      clear d0 d1 hd
      refine stepOK_call (by go_simp; first | done | exact ⟨⟨rfl, rfl⟩, rfl⟩) ?_
      (with_reducible refine HS.out.mono ?_); rintro e w2 ⟨rfl, hb2⟩
      exact ⟨_, rfl, leaves_mk hb2 rfl (fun h => by cases h)⟩
    · intro vals w1 hb hd
      have d2 : KEq (.bool true) (vals 2) w1 := hd 2 (by kernel_rfl)
      rw [show vals 2 = _ from d2]
      refine stepOK_value (v := (.bool false)) (w' := w1) (by go_simp) (leaves_mk (Below.refl _ _) rfl (fun h => by cases h))
    · intro vals w1 hb hd
      have d3 : KEq (.bool false) (vals 3) w1 := hd 3 (by kernel_rfl)
      rw [show vals 3 = _ from d3]
      refine stepOK_value (v := (.bool false)) (w' := w1) (by go_simp) (leaves_mk (Below.refl _ _) rfl (fun h => by cases h))
    · intro vals w1 hb hd
      have dg : KEq (.bool false) (vals 4) w1 := hd 4 (by kernel_rfl)
      refine stepG_yes (wanted_of rfl rfl (congrArg some dg) rfl) ?_
      clear dg
      obtain ⟨e0, e1, e2, e3, e4, e5⟩ := row6 (heap_below BX2.out hb)
      refine stepOK_value (v := .agg #[.bool qb, .slice ob nb kb, .slice pb mb rb, .bool qbx, .slice obx nbx kbx, .slice pbx mbx rbx]) (w' := w1) (by go_simp) (leaves_mk (Below.refl _ _) rfl (fun h => by cases h))
    · intro vals w1 hb hd
      have dg : KEq (.bool false) (vals 4) w1 := hd 4 (by kernel_rfl)
      refine stepG_yes (wanted_of rfl rfl (congrArg some dg) rfl) ?_
      clear dg
      obtain ⟨e0, e1, e2, e3, e4, e5⟩ := row6 (heap_below BX11.out hb)
      refine stepOK_value (v := .agg #[.bool s16, .slice o16 n16 c16, .slice a16 m16 d16, .bool s16x, .slice o16x n16x c16x, .slice a16x m16x d16x]) (w' := w1) (by go_simp) (leaves_mk (Below.refl _ _) rfl (fun h => by cases h))
    · intro vals w1 hb hd
      have dg : KEq (.bool false) (vals 4) w1 := hd 4 (by kernel_rfl)
      refine stepG_yes (wanted_of rfl rfl (congrArg some dg) rfl) ?_
      clear dg
      have d5 : KEq (.agg #[.bool qb, .slice ob nb kb, .slice pb mb rb, .bool qbx, .slice obx nbx kbx, .slice pbx mbx rbx]) (vals 5) w1 := hd 5 (by kernel_rfl)
      have d6 : KEq (.agg #[.bool s16, .slice o16 n16 c16, .slice a16 m16 d16, .bool s16x, .slice o16x n16x c16x, .slice a16x m16x d16x]) (vals 6) w1 := hd 6 (by kernel_rfl)
      have z5 : vals 5 = _ := d5
      have z6 : vals 6 = _ := d6
      have hs := inside_any _ ((p_b, r_b)) _ (sHull ((p_a, r_a)) ((p_b, r_b))) w1 ((Fb.out.below hb).is HOb.out (by omega) (by omega)) ((N10.out.below hb).is (around4_ok _ _ _ _) (by omega) (by omega)) (by omega) (by omega) (by omega) (by omega)
      rw [HI2.out] at hs
      have HS := Lib.hid hs; clear hs
      rw [z5]; clear z5
      rw [z6]; clear z6
      clear d5 d6 hd
      refine stepOK_call (by go_simp; first | done | exact ⟨⟨rfl, rfl⟩, rfl⟩) ?_
      (with_reducible refine HS.out.mono ?_); rintro e w2 ⟨rfl, hb2⟩
      exact ⟨_, rfl, leaves_mk hb2 rfl (fun h => by cases h)⟩
    · intro vals w1 hb hd
      have dg : KEq (.bool false) (vals 4) w1 := hd 4 (by kernel_rfl)
      refine stepG_yes (wanted_of rfl rfl (congrArg some dg) rfl) ?_
      clear dg
      have d7 : KEq (.bool true) (vals 7) w1 := hd 7 (by kernel_rfl)
      rw [show vals 7 = _ from d7]
      refine stepOK_value (v := (.bool false)) (w' := w1) (by go_simp) (leaves_mk (Below.refl _ _) rfl (fun h => by cases h))
    · intro vals w1 hb hd
      have d4 : KEq (.bool false) (vals 4) w1 := hd 4 (by kernel_rfl)
      have d8 : KEq (.bool false) (vals 8) w1 := hd 8 (by kernel_rfl)
      rw [show vals 4 = _ from d4]
      rw [show vals 8 = _ from d8]
      refine stepOK_value (v := (.bool false)) (w' := w1) (by go_simp) (leaves_mk (Below.refl _ _) rfl (fun h => by cases h))
    · intro vals w1 hb hd
      have d9 : KEq (.bool false) (vals 9) w1 := hd 9 (by kernel_rfl)
      rw [show vals 9 = _ from d9]
      refine stepOK_value (v := (.bool false)) (w' := w1) (by go_simp) (leaves_mk (Below.refl _ _) rfl (fun h => by cases h))
    · intro vals w1 hb hd
      have dg : KEq (.bool false) (vals 10) w1 := hd 10 (by kernel_rfl)
      refine stepG_yes (wanted_of rfl rfl (congrArg some dg) rfl) ?_
      clear dg
      obtain ⟨e0, e1, e2, e3, e4, e5⟩ := row6 (heap_below BX11.out hb)
      refine stepOK_value (v := .agg #[.bool s16, .slice o16 n16 c16, .slice a16 m16 d16, .bool s16x, .slice o16x n16x c16x, .slice a16x m16x d16x]) (w' := w1) (by go_simp) (leaves_mk (Below.refl _ _) rfl (fun h => by cases h))
    · intro vals w1 hb hd
      have dg : KEq (.bool false) (vals 10) w1 := hd 10 (by kernel_rfl)
      refine stepG_yes (wanted_of rfl rfl (congrArg some dg) rfl) ?_
      clear dg
      obtain ⟨e0, e1, e2, e3, e4, e5⟩ := row6 (heap_below BX3.out hb)
      refine stepOK_value (v := .agg #[.bool qc, .slice oc nc kc, .slice pc mc rc, .bool qcx, .slice ocx ncx kcx, .slice pcx mcx rcx]) (w' := w1) (by go_simp) (leaves_mk (Below.refl _ _) rfl (fun h => by cases h))
    · intro vals w1 hb hd
      have dg : KEq (.bool false) (vals 10) w1 := hd 10 (by kernel_rfl)
      refine stepG_yes (wanted_of rfl rfl (congrArg some dg) rfl) ?_
      clear dg
      have d11 : KEq (.agg #[.bool s16, .slice o16 n16 c16, .slice a16 m16 d16, .bool s16x, .slice o16x n16x c16x, .slice a16x m16x d16x]) (vals 11) w1 := hd 11 (by kernel_rfl)
      have d12 : KEq (.agg #[.bool qc, .slice oc nc kc, .slice pc mc rc, .bool qcx, .slice ocx ncx kcx, .slice pcx mcx rcx]) (vals 12) w1 := hd 12 (by kernel_rfl)
      have z11 : vals 11 = _ := d11
      have z12 : vals 12 = _ := d12
      have hs := inside_any _ (sHull ((p_a, r_a)) ((p_b, r_b))) _ ((p_c, r_c)) w1 ((N10.out.below hb).is (around4_ok _ _ _ _) (by omega) (by omega)) ((Fc.out.below hb).is HOc.out (by omega) (by omega)) (by omega) (by omega) (by omega) (by omega)
      rw [Hu1.out] at hs
      have HS := Lib.hid hs; clear hs
      rw [z11]; clear z11
      rw [z12]; clear z12
      clear d11 d12 hd
      refine stepOK_call (by go_simp; first | done | exact ⟨⟨rfl, rfl⟩, rfl⟩) ?_
      (with_reducible refine HS.out.mono ?_); rintro e w2 ⟨rfl, hb2⟩
      exact ⟨_, rfl, leaves_mk hb2 rfl (fun h => by cases h)⟩
    · intro vals w1 hb hd
      have dg : KEq (.bool false) (vals 10) w1 := hd 10 (by kernel_rfl)
      refine stepG_yes (wanted_of rfl rfl (congrArg some dg) rfl) ?_
      clear dg
      obtain ⟨e0, e1, e2, e3, e4, e5⟩ := row6 (heap_below BX1.out hb)
      refine stepOK_value (v := .agg #[.bool qa, .slice oa na ka, .slice pa ma ra, .bool qax, .slice oax nax kax, .slice pax max rax]) (w' := w1) (by go_simp) (leaves_mk (Below.refl _ _) rfl (fun h => by cases h))
    · intro vals w1 hb hd
      have dg : KEq (.bool false) (vals 10) w1 := hd 10 (by kernel_rfl)
      refine stepG_yes (wanted_of rfl rfl (congrArg some dg) rfl) ?_
      clear dg
      obtain ⟨e0, e1, e2, e3, e4, e5⟩ := row6 (heap_below BX3.out hb)
      refine stepOK_value (v := .agg #[.bool qc, .slice oc nc kc, .slice pc mc rc, .bool qcx, .slice ocx ncx kcx, .slice pcx mcx rcx]) (w' := w1) (by go_simp) (leaves_mk (Below.refl _ _) rfl (fun h => by cases h))
    · intro vals w1 hb hd
      have dg : KEq (.bool false) (vals 10) w1 := hd 10 (by kernel_rfl)
      refine stepG_yes (wanted_of rfl rfl (congrArg some dg) rfl) ?_
      clear dg
      have d14 : KEq (.agg #[.bool qa, .slice oa na ka, .slice pa ma ra, .bool qax, .slice oax nax kax, .slice pax max rax]) (vals 14) w1 := hd 14 (by kernel_rfl)
      have d15 : KEq (.agg #[.bool qc, .slice oc nc kc, .slice pc mc rc, .bool qcx, .slice ocx ncx kcx, .slice pcx mcx rcx]) (vals 15) w1 := hd 15 (by kernel_rfl)
      have z14 : vals 14 = _ := d14
      have z15 : vals 15 = _ := d15
      have hs := inside_any _ ((p_a, r_a)) _ ((p_c, r_c)) w1 ((Fa.out.below hb).is HOa.out (by omega) (by omega)) ((Fc.out.below hb).is HOc.out (by omega) (by omega)) (by omega) (by omega) (by omega) (by omega)
      rw [Hu2.out] at hs
      have HS := Lib.hid hs; clear hs
      rw [z14]; clear z14
      rw [z15]; clear z15
      clear d14 d15 hd
      refine stepOK_call (by go_simp; first | done | exact ⟨⟨rfl, rfl⟩, rfl⟩) ?_
      (with_reducible refine HS.out.mono ?_); rintro e w2 ⟨rfl, hb2⟩
      exact ⟨_, rfl, leaves_mk hb2 rfl (fun h => by cases h)⟩
    · intro vals w1 hb hd
      have dg : KEq (.bool false) (vals 10) w1 := hd 10 (by kernel_rfl)
      refine stepG_yes (wanted_of rfl rfl (congrArg some dg) rfl) ?_
      clear dg
      have d16 : KEq (.bool u2) (vals 16) w1 := hd 16 (by kernel_rfl)
      rw [show vals 16 = _ from d16]
      refine stepOK_value (v := (.bool u2)) (w' := w1) (by go_simp) (leaves_mk (Below.refl _ _) rfl (fun h => by cases h))
    · intro vals w1 hb hd
      have dg : KEq (.bool u2) (vals 17) w1 := hd 17 (by kernel_rfl)
      cases hB : u2 with
      | false =>
        rw [hB] at dg
        refine stepG_no (unwanted_of rfl rfl (congrArg some dg) rfl) ?_
        exact leaves_mk (Below.refl _ _) (fun e => by cases e) (fun h => by cases h)
      | true =>
        rw [hB] at dg
        refine stepG_yes (wanted_of rfl rfl (congrArg some dg) rfl) ?_
        clear dg
        obtain ⟨e0, e1, e2, e3, e4, e5⟩ := row6 (heap_below BX2.out hb)
        refine stepOK_value (v := .agg #[.bool qb, .slice ob nb kb, .slice pb mb rb, .bool qbx, .slice obx nbx kbx, .slice pbx mbx rbx]) (w' := w1) (by go_simp) (leaves_mk (Below.refl _ _) (fun _ => rfl) (fun h => by cases h))
    · intro vals w1 hb hd
      have dg : KEq (.bool u2) (vals 17) w1 := hd 17 (by kernel_rfl)
      cases hB : u2 with
      | false =>
        rw [hB] at dg
        refine stepG_no (unwanted_of rfl rfl (congrArg some dg) rfl) ?_
        exact leaves_mk (Below.refl _ _) (fun e => by cases e) (fun h => by cases h)
      | true =>
        rw [hB] at dg
        refine stepG_yes (wanted_of rfl rfl (congrArg some dg) rfl) ?_
        clear dg
        obtain ⟨e0, e1, e2, e3, e4, e5⟩ := row6 (heap_below BX3.out hb)
        refine stepOK_value (v := .agg #[.bool qc, .slice oc nc kc, .slice pc mc rc, .bool qcx, .slice ocx ncx kcx, .slice pcx mcx rcx]) (w' := w1) (by go_simp) (leaves_mk (Below.refl _ _) (fun _ => rfl) (fun h => by cases h))
    · intro vals w1 hb hd
      have dg : KEq (.bool u2) (vals 17) w1 := hd 17 (by kernel_rfl)
      cases hB : u2 with
      | false =>
        rw [hB] at dg
        refine stepG_no (unwanted_of rfl rfl (congrArg some dg) rfl) ?_
        exact leaves_mk (Below.refl _ _) (fun e => by cases e) (fun h => by cases h)
      | true =>
        rw [hB] at dg
        refine stepG_yes (wanted_of rfl rfl (congrArg some dg) rfl) ?_
        clear dg
        have d18 : KEq (.agg #[.bool qb, .slice ob nb kb, .slice pb mb rb, .bool qbx, .slice obx nbx kbx, .slice pbx mbx rbx]) (vals 18) w1 := hd 18 (by kernel_rfl) hB
        have d19 : KEq (.agg #[.bool qc, .slice oc nc kc, .slice pc mc rc, .bool qcx, .slice ocx ncx kcx, .slice pcx mcx rcx]) (vals 19) w1 := hd 19 (by kernel_rfl) hB
        have z18 : vals 18 = _ := d18
        have z19 : vals 19 = _ := d19
        have hs := inside_any _ ((p_b, r_b)) _ ((p_c, r_c)) w1 ((Fb.out.below hb).is HOb.out (by omega) (by omega)) ((Fc.out.below hb).is HOc.out (by omega) (by omega)) (by omega) (by omega) (by omega) (by omega)
        rw [Hu3.out] at hs
        have HS := Lib.hid hs; clear hs
        rw [z18]; clear z18
        rw [z19]; clear z19
        clear d18 d19 hd
        refine stepOK_call (by go_simp; first | done | exact ⟨⟨rfl, rfl⟩, rfl⟩) ?_
        (with_reducible refine HS.out.mono ?_); rintro e w2 ⟨rfl, hb2⟩
        exact ⟨_, rfl, leaves_mk hb2 (fun _ => rfl) (fun h => by cases h)⟩
    · intro vals w1 hb hd
      have dg : KEq (.bool false) (vals 10) w1 := hd 10 (by kernel_rfl)
      refine stepG_yes (wanted_of rfl rfl (congrArg some dg) rfl) ?_
      clear dg
      have d17 : KEq (.bool u2) (vals 17) w1 := hd 17 (by kernel_rfl)
      have d20 : KIf u2 true (KEq (.bool u3)) (vals 20) w1 := hd 20 (by kernel_rfl)
      rw [show vals 17 = _ from d17]
      refine stepOK_value (v := (.bool (u2 && u3))) (w' := w1) ?hpk21 (leaves_mk (Below.refl _ _) rfl (fun h => by cases h))
      cases hC : u2 with
      | false => go_simp
      | true =>
        rw [show vals 20 = _ from d20 hC]
        go_simp
    · intro vals w1 hb hd
      have dg : KEq (.bool false) (vals 10) w1 := hd 10 (by kernel_rfl)
      refine stepG_yes (wanted_of rfl rfl (congrArg some dg) rfl) ?_
      clear dg
      have d13 : KEq (.bool u1) (vals 13) w1 := hd 13 (by kernel_rfl)
      have d21 : KEq (.bool (u2 && u3)) (vals 21) w1 := hd 21 (by kernel_rfl)
      rw [show vals 13 = _ from d13]
      rw [show vals 21 = _ from d21]
      refine stepOK_value (v := (.bool false)) (w' := w1) (by go_simp; first | done | exact GE1.out | (rw [GE1.out]; done) | (rw [GE1.out]; simp; done) | simp [GE1.out]) (leaves_mk (Below.refl _ _) rfl (fun h => by cases h))
  case tl24 =>
    intro vals w12 hb12 hf hdis
    simp only [List.drop_succ_cons, List.drop_zero]
    have z10 : vals 10 = _ := hf 10 (by decide)
    try rw [z10]
    clear z10
    have z22 : vals 22 = _ := hf 22 (by decide)
    try rw [z22]
    clear z22
    clear hf hdis
    have HB12 := Lib.hid (HB11.out.step hb12)
    have Fa := Lib.hid (Fa.out.below hb12)
    have Fal := Lib.hid (Fal.out.below hb12)
    have Fah := Lib.hid (Fah.out.below hb12)
    have FaV := Lib.hid (FaV.out.below hb12)
    have Fb := Lib.hid (Fb.out.below hb12)
    have Fbl := Lib.hid (Fbl.out.below hb12)
    have Fbh := Lib.hid (Fbh.out.below hb12)
    have FbV := Lib.hid (FbV.out.below hb12)
    have Fc := Lib.hid (Fc.out.below hb12)
    have Fcl := Lib.hid (Fcl.out.below hb12)
    have Fch := Lib.hid (Fch.out.below hb12)
    have FcV := Lib.hid (FcV.out.below hb12)
    have N10 := Lib.hid (N10.out.below hb12)
    have N10l := Lib.hid (N10l.out.below hb12)
    have N10h := Lib.hid (N10h.out.below hb12)
    have BX1 := Lib.hid (heap_below BX1.out hb12)
    have BX2 := Lib.hid (heap_below BX2.out hb12)
    have BX3 := Lib.hid (heap_below BX3.out hb12)
    have BX11 := Lib.hid (heap_below BX11.out hb12)
    clear hb12
    skip
    obtain ⟨x25_0, x25_1, x25_2, x25_3, x25_4, x25_5⟩ := row6 BX1.out
    obtain ⟨x26_0, x26_1, x26_2, x26_3, x26_4, x26_5⟩ := row6 BX2.out
    obtain ⟨kp29, kp29x⟩ : rl (((p_a), (r_a)) : Rat × Rat).1 ≤ rl (p_a) ∧ rl (((p_a), (r_a)) : Rat × Rat).2 ≤ rl (r_a) := ⟨Nat.le_refl _, Nat.le_refl _⟩
    obtain ⟨kp30, kp30x⟩ : rl (((p_b), (r_b)) : Rat × Rat).1 ≤ rl (p_b) ∧ rl (((p_b), (r_b)) : Rat × Rat).2 ≤ rl (r_b) := ⟨Nat.le_refl _, Nat.le_refl _⟩
    obtain ⟨k27, k28⟩ := rl_stV ((p_a, r_a)) ((p_b, r_b))
    have hs := smeet_any _ ((p_a, r_a)) _ ((p_b, r_b)) w12 (Fa.out.is HOa.out (by omega) (by omega)) (Fb.out.is HOb.out (by omega) (by omega)) (by omega) (by omega) (by omega) (by omega)
    rw [HS.out, errV_zero] at hs
    have HS := Lib.hid hs; clear hs
    go_wp2_with (with_reducible first | refine pauseCall ?_ | refine pauseLoop ?_ | refine pauseDraw ?_ | refine pauseBody ?_ | refine pauseRounds ?_)
    clear x25_0 x25_1 x25_2 x25_3 x25_4 x25_5 x26_0 x26_1 x26_2 x26_3 x26_4 x26_5
    refine Pause.mk ?_
    (with_reducible refine HS.out.mono ?_); rintro e w13 ⟨v13, rfl, hb13, hn13⟩
    clear HS
    have HB13 := Lib.hid (HB12.out.step hb13)
    have Fa := Lib.hid (Fa.out.below hb13)
    have Fal := Lib.hid (Fal.out.below hb13)
    have Fah := Lib.hid (Fah.out.below hb13)
    have FaV := Lib.hid (FaV.out.below hb13)
    have Fb := Lib.hid (Fb.out.below hb13)
    have Fbl := Lib.hid (Fbl.out.below hb13)
    have Fbh := Lib.hid (Fbh.out.below hb13)
    have FbV := Lib.hid (FbV.out.below hb13)
    have Fc := Lib.hid (Fc.out.below hb13)
    have Fcl := Lib.hid (Fcl.out.below hb13)
    have Fch := Lib.hid (Fch.out.below hb13)
    have FcV := Lib.hid (FcV.out.below hb13)
    have N10 := Lib.hid (N10.out.below hb13)
    have N10l := Lib.hid (N10l.out.below hb13)
    have N10h := Lib.hid (N10h.out.below hb13)
    have BX1 := Lib.hid (heap_below BX1.out hb13)
    have BX2 := Lib.hid (heap_below BX2.out hb13)
    have BX3 := Lib.hid (heap_below BX3.out hb13)
    have BX11 := Lib.hid (heap_below BX11.out hb13)
    have N13 := Lib.hid hn13; clear hn13
    obtain ⟨s31, o31, n31, c31, a31, m31, d31, s31x, o31x, n31x, c31x, a31x, m31x, d31x, rfl⟩ := N13.out.shape
    have N13l := Lib.hid (isSp_ends N13.out).1; have N13h := Lib.hid (isSp_ends N13.out).2
    clear hb13
    obtain ⟨w14, hw14⟩ : ∃ w14, w14 = w13.alloc (.cells #[.bool s31, .slice o31 n31 c31, .slice a31 m31 d31, .bool s31x, .slice o31x n31x c31x, .slice a31x m31x d31x] 26) := ⟨_, rfl⟩
    have hb14 : Below w13.heap.size w13 w14 := by rw [hw14]; exact (Below.refl _ _).alloc (Nat.le_refl _) _
    have hx14 := heap_alloc_new w13 (.cells #[.bool s31, .slice o31 n31 c31, .slice a31 m31 d31, .bool s31x, .slice o31x n31x c31x, .slice a31x m31x d31x] 26)
    obtain ⟨g14, hg14⟩ : ∃ g, g = w13.heap.size := ⟨_, rfl⟩
    rw [← hw14, ← hg14] at hx14
    have lw14 : w.heap.size ≤ g14 := by rw [hg14]; exact HB13.out.size
    have ltBX114 : g1 < g14 := by rw [hg14]; exact below_lt BX1.out
    have ltBX214 : g2 < g14 := by rw [hg14]; exact below_lt BX2.out
    have ltBX314 : g3 < g14 := by rw [hg14]; exact below_lt BX3.out
    have ltBX1114 : g11 < g14 := by rw [hg14]; exact below_lt BX11.out
    have HW14 := Lib.hid hw14; have HG14 := Lib.hid hg14; clear hw14 hg14
    have HB14 := Lib.hid (HB13.out.step hb14)
    have Fa := Lib.hid (Fa.out.below hb14)
    have Fal := Lib.hid (Fal.out.below hb14)
    have Fah := Lib.hid (Fah.out.below hb14)
    have FaV := Lib.hid (FaV.out.below hb14)
    have Fb := Lib.hid (Fb.out.below hb14)
    have Fbl := Lib.hid (Fbl.out.below hb14)
    have Fbh := Lib.hid (Fbh.out.below hb14)
    have FbV := Lib.hid (FbV.out.below hb14)
    have Fc := Lib.hid (Fc.out.below hb14)
    have Fcl := Lib.hid (Fcl.out.below hb14)
    have Fch := Lib.hid (Fch.out.below hb14)
    have FcV := Lib.hid (FcV.out.below hb14)
    have N10 := Lib.hid (N10.out.below hb14)
    have N10l := Lib.hid (N10l.out.below hb14)
    have N10h := Lib.hid (N10h.out.below hb14)
    have N13 := Lib.hid (N13.out.below hb14)
    have N13l := Lib.hid (N13l.out.below hb14)
    have N13h := Lib.hid (N13h.out.below hb14)
    have BX1 := Lib.hid (heap_below BX1.out hb14)
    have BX2 := Lib.hid (heap_below BX2.out hb14)
    have BX3 := Lib.hid (heap_below BX3.out hb14)
    have BX11 := Lib.hid (heap_below BX11.out hb14)
    have BX14 := Lib.hid hx14; clear hb14 hx14
    go_wp2_with (with_reducible first | refine pauseCall ?_ | refine pauseLoop ?_ | refine pauseDraw ?_ | refine pauseBody ?_ | refine pauseRounds ?_)
    try rw [← HW14.out]
    try rw [← HG14.out]
    refine Pause.mk ?_
    obtain ⟨kp32, kp32x⟩ : rl (((p_a), (r_a)) : Rat × Rat).1 ≤ rl (p_a) ∧ rl (((p_a), (r_a)) : Rat × Rat).2 ≤ rl (r_a) := ⟨Nat.le_refl _, Nat.le_refl _⟩
    obtain ⟨kp33, kp33x⟩ : rl (((p_b), (r_b)) : Rat × Rat).1 ≤ rl (p_b) ∧ rl (((p_b), (r_b)) : Rat × Rat).2 ≤ rl (r_b) := ⟨Nat.le_refl _, Nat.le_refl _⟩
    obtain ⟨kp34, kp34x⟩ : rl (((p_c), (r_c)) : Rat × Rat).1 ≤ rl (p_c) ∧ rl (((p_c), (r_c)) : Rat × Rat).2 ≤ rl (r_c) := ⟨Nat.le_refl _, Nat.le_refl _⟩
    obtain ⟨kp35, kp35x⟩ : rl (((p_c), (r_c)) : Rat × Rat).1 ≤ rl (p_c) ∧ rl (((p_c), (r_c)) : Rat × Rat).2 ≤ rl (r_c) := ⟨Nat.le_refl _, Nat.le_refl _⟩
    obtain ⟨kp36, kp36x⟩ : rl (((p_a), (r_a)) : Rat × Rat).1 ≤ rl (p_a) ∧ rl (((p_a), (r_a)) : Rat × Rat).2 ≤ rl (r_a) := ⟨Nat.le_refl _, Nat.le_refl _⟩
    obtain ⟨kp37, kp37x⟩ : rl (((p_c), (r_c)) : Rat × Rat).1 ≤ rl (p_c) ∧ rl (((p_c), (r_c)) : Rat × Rat).2 ≤ rl (r_c) := ⟨Nat.le_refl _, Nat.le_refl _⟩
    obtain ⟨kp38, kp38x⟩ : rl (((p_b), (r_b)) : Rat × Rat).1 ≤ rl (p_b) ∧ rl (((p_b), (r_b)) : Rat × Rat).2 ≤ rl (r_b) := ⟨Nat.le_refl _, Nat.le_refl _⟩
    refine wp_region_facts (A := ?aa39) (w := w14) 22 [] (by kernel_rfl) (Fl [KEq (.agg #[.bool s31, .slice o31 n31 c31, .slice a31 m31 d31, .bool s31x, .slice o31x n31x c31x, .slice a31x m31x d31x]), KEq (.agg #[.bool qa, .slice oa na ka, .slice pa ma ra, .bool qax, .slice oax nax kax, .slice pax max rax]), KEq (.bool true), KEq (.bool true), KEq (.agg #[.bool s31, .slice o31 n31 c31, .slice a31 m31 d31, .bool s31x, .slice o31x n31x c31x, .slice a31x m31x d31x]), KEq (.agg #[.bool qb, .slice ob nb kb, .slice pb mb rb, .bool qbx, .slice obx nbx kbx, .slice pbx mbx rbx]), KEq (.bool true), KEq (.bool true), KEq (.bool true), KEq (.agg #[.bool qc, .slice oc nc kc, .slice pc mc rc, .bool qcx, .slice ocx ncx kcx, .slice pcx mcx rcx]), KEq (.agg #[.bool s31, .slice o31 n31 c31, .slice a31 m31 d31, .bool s31x, .slice o31x n31x c31x, .slice a31x m31x d31x]), KEq (.bool y1), KEq (.agg #[.bool qc, .slice oc nc kc, .slice pc mc rc, .bool qcx, .slice ocx ncx kcx, .slice pcx mcx rcx]), KEq (.agg #[.bool qa, .slice oa na ka, .slice pa ma ra, .bool qax, .slice oax nax kax, .slice pax max rax]), KEq (.bool y2), KEq (.bool y2), KIf y2 true (KEq (.agg #[.bool qc, .slice oc nc kc, .slice pc mc rc, .bool qcx, .slice ocx ncx kcx, .slice pcx mcx rcx])), KIf y2 true (KEq (.agg #[.bool qb, .slice ob nb kb, .slice pb mb rb, .bool qbx, .slice obx nbx kbx, .slice pbx mbx rbx])), KIf y2 true (KEq (.bool y3)), KEq (.bool (y2 && y3)), KEq (.bool true), KEq (.bool true)]) (fun i => false) (by kernel_rfl) ?hq39 (monoL (monoC (kEq _) (monoC (kEq _) (monoC (kEq _) (monoC (kEq _) (monoC (kEq _) (monoC (kEq _) (monoC (kEq _) (monoC (kEq _) (monoC (kEq _) (monoC (kEq _) (monoC (kEq _) (monoC (kEq _) (monoC (kEq _) (monoC (kEq _) (monoC (kEq _) (monoC (kEq _) (monoC (kIf _ _ (kEq _)) (monoC (kIf _ _ (kEq _)) (monoC (kIf _ _ (kEq _)) (monoC (kEq _) (monoC (kEq _) (monoC (kEq _) monoN))))))))))))))))))))))) ?ha39 ?st39 ?tl39
    case hq39 =>
      intro c a d v w h
      first | (simp only [Exit.then] at h ⊢; exact h) | (simp only [Exit.inBlock, Exit.then] at h ⊢; exact h) | exact h
    case ha39 =>
      intro vals
      simp only [putsTo, dstOf, if_true, Act.put, List.setIfInBounds_toArray, List.set_cons_zero, List.set_cons_succ, List.getElem?_toArray, List.getElem?_cons_zero, List.getElem?_cons_succ, Option.bind_some]
      exact rfl
    case st39 =>
      simp only [List.take_succ_cons, List.take_zero]
      refine stepsOK_cons rfl rfl ?_ (stepsOK_cons rfl rfl ?_ (stepsOK_cons rfl rfl ?_ (stepsOK_cons rfl rfl ?_ (stepsOK_guard rfl ?_ (stepsOK_guard rfl ?_ (stepsOK_guard rfl ?_ (stepsOK_cons rfl rfl ?_ (stepsOK_cons rfl rfl ?_ (stepsOK_guard rfl ?_ (stepsOK_guard rfl ?_ (stepsOK_guard rfl ?_ (stepsOK_guard rfl ?_ (stepsOK_guard rfl ?_ (stepsOK_guard rfl ?_ (stepsOK_guard rfl ?_ (stepsOK_guard rfl ?_ (stepsOK_guard rfl ?_ (stepsOK_guard rfl ?_ (stepsOK_guard rfl ?_ (stepsOK_guard rfl ?_ (stepsOK_cons rfl rfl ?_ (stepsOK_nil))))))))))))))))))))))
      · intro vals w1 hb hd
        obtain ⟨e0, e1, e2, e3, e4, e5⟩ := row6 (heap_below BX14.out hb)
        refine stepOK_value (v := .agg #[.bool s31, .slice o31 n31 c31, .slice a31 m31 d31, .bool s31x, .slice o31x n31x c31x, .slice a31x m31x d31x]) (w' := w1) (by go_simp) (leaves_mk (Below.refl _ _) rfl (fun h => by cases h))
      · intro vals w1 hb hd
        obtain ⟨e0, e1, e2, e3, e4, e5⟩ := row6 (heap_below BX1.out hb)
        refine stepOK_value (v := .agg #[.bool qa, .slice oa na ka, .slice pa ma ra, .bool qax, .slice oax nax kax, .slice pax max rax]) (w' := w1) (by go_simp) (leaves_mk (Below.refl _ _) rfl (fun h => by cases h))
      · intro vals w1 hb hd
        have d0 : KEq (.agg #[.bool s31, .slice o31 n31 c31, .slice a31 m31 d31, .bool s31x, .slice o31x n31x c31x, .slice a31x m31x d31x]) (vals 0) w1 := hd 0 (by kernel_rfl)
        have d1 : KEq (.agg #[.bool qa, .slice oa na ka, .slice pa ma ra, .bool qax, .slice oax nax kax, .slice pax max rax]) (vals 1) w1 := hd 1 (by kernel_rfl)
        have z0 : vals 0 = _ := d0
        have z1 : vals 1 = _ := d1
        have hs := inside_any _ (stV ((p_a, r_a)) ((p_b, r_b))) _ ((p_a, r_a)) w1 ((N13.out.below hb).is (stV_ok _ _) (by omega) (by omega)) ((Fa.out.below hb).is HOa.out (by omega) (by omega)) (by omega) (by omega) (by omega) (by omega)
        rw [HI8.out] at hs
        have HS := Lib.hid hs; clear hs
        rw [z0]; clear z0
        rw [z1]; clear z1
        clear d0 d1 hd
        refine stepOK_call (by go_simp; first | done | exact ⟨⟨rfl, rfl⟩, rfl⟩) ?_
        (with_reducible refine HS.out.mono ?_); rintro e w2 ⟨rfl, hb2⟩
        exact ⟨_, rfl, leaves_mk hb2 rfl (fun h => by cases h)⟩
      · intro vals w1 hb hd
        have d2 : KEq (.bool true) (vals 2) w1 := hd 2 (by kernel_rfl)
        rw [show vals 2 = _ from d2]
        refine stepOK_value (v := (.bool true)) (w' := w1) (by go_simp) (leaves_mk (Below.refl _ _) rfl (fun h => by cases h))
      · intro vals w1 hb hd
        have dg : KEq (.bool true) (vals 3) w1 := hd 3 (by kernel_rfl)
        refine stepG_yes (wanted_of rfl rfl (congrArg some dg) rfl) ?_
        clear dg
        obtain ⟨e0, e1, e2, e3, e4, e5⟩ := row6 (heap_below BX14.out hb)
        refine stepOK_value (v := .agg #[.bool s31, .slice o31 n31 c31, .slice a31 m31 d31, .bool s31x, .slice o31x n31x c31x, .slice a31x m31x d31x]) (w' := w1) (by go_simp) (leaves_mk (Below.refl _ _) rfl (fun h => by cases h))
      · intro vals w1 hb hd
        have dg : KEq (.bool true) (vals 3) w1 := hd 3 (by kernel_rfl)
        refine stepG_yes (wanted_of rfl rfl (congrArg some dg) rfl) ?_
        clear dg
        obtain ⟨e0, e1, e2, e3, e4, e5⟩ := row6 (heap_below BX2.out hb)
        refine stepOK_value (v := .agg #[.bool qb, .slice ob nb kb, .slice pb mb rb, .bool qbx, .slice obx nbx kbx, .slice pbx mbx rbx]) (w' := w1) (by go_simp) (leaves_mk (Below.refl _ _) rfl (fun h => by cases h))
      · intro vals w1 hb hd
        have dg : KEq (.bool true) (vals 3) w1 := hd 3 (by kernel_rfl)
        refine stepG_yes (wanted_of rfl rfl (congrArg some dg) rfl) ?_
        clear dg
        have d4 : KEq (.agg #[.bool s31, .slice o31 n31 c31, .slice a31 m31 d31, .bool s31x, .slice o31x n31x c31x, .slice a31x m31x d31x]) (vals 4) w1 := hd 4 (by kernel_rfl)
        have d5 : KEq (.agg #[.bool qb, .slice ob nb kb, .slice pb mb rb, .bool qbx, .slice obx nbx kbx, .slice pbx mbx rbx]) (vals 5) w1 := hd 5 (by kernel_rfl)
        have z4 : vals 4 = _ := d4
        have z5 : vals 5 = _ := d5
        have hs := inside_any _ (stV ((p_a, r_a)) ((p_b, r_b))) _ ((p_b, r_b)) w1 ((N13.out.below hb).is (stV_ok _ _) (by omega) (by omega)) ((Fb.out.below hb).is HOb.out (by omega) (by omega)) (by omega) (by omega) (by omega) (by omega)
        rw [HI9.out] at hs
        have HS := Lib.hid hs; clear hs
        rw [z4]; clear z4
        rw [z5]; clear z5
        clear d4 d5 hd
        refine stepOK_call (by go_simp; first | done | exact ⟨⟨rfl, rfl⟩, rfl⟩) ?_
        (with_reducible refine HS.out.mono ?_); rintro e w2 ⟨rfl, hb2⟩
        exact ⟨_, rfl, leaves_mk hb2 rfl (fun h => by cases h)⟩
      · intro vals w1 hb hd
        have d3 : KEq (.bool true) (vals 3) w1 := hd 3 (by kernel_rfl)
        have d6 : KEq (.bool true) (vals 6) w1 := hd 6 (by kernel_rfl)
        rw [show vals 3 = _ from d3]
        rw [show vals 6 = _ from d6]
        refine stepOK_value (v := (.bool true)) (w' := w1) (by go_simp) (leaves_mk (Below.refl _ _) rfl (fun h => by cases h))
      · intro vals w1 hb hd
        have d7 : KEq (.bool true) (vals 7) w1 := hd 7 (by kernel_rfl)
        rw [show vals 7 = _ from d7]
        refine stepOK_value (v := (.bool true)) (w' := w1) (by go_simp) (leaves_mk (Below.refl _ _) rfl (fun h => by cases h))
      · intro vals w1 hb hd
        have dg : KEq (.bool true) (vals 8) w1 := hd 8 (by kernel_rfl)
        refine stepG_yes (wanted_of rfl rfl (congrArg some dg) rfl) ?_
        clear dg
        obtain ⟨e0, e1, e2, e3, e4, e5⟩ := row6 (heap_below BX3.out hb)
        refine stepOK_value (v := .agg #[.bool qc, .slice oc nc kc, .slice pc mc rc, .bool qcx, .slice ocx ncx kcx, .slice pcx mcx rcx]) (w' := w1) (by go_simp) (leaves_mk (Below.refl _ _) rfl (fun h => by cases h))
      · intro vals w1 hb hd
        have dg : KEq (.bool true) (vals 8) w1 := hd 8 (by kernel_rfl)
        refine stepG_yes (wanted_of rfl rfl (congrArg some dg) rfl) ?_
        clear dg
        obtain ⟨e0, e1, e2, e3, e4, e5⟩ := row6 (heap_below BX14.out hb)
        refine stepOK_value (v := .agg #[.bool s31, .slice o31 n31 c31, .slice a31 m31 d31, .bool s31x, .slice o31x n31x c31x, .slice a31x m31x d31x]) (w' := w1) (by go_simp) (leaves_mk (Below.refl _ _) rfl (fun h => by cases h))
      · intro vals w1 hb hd
        have dg : KEq (.bool true) (vals 8) w1 := hd 8 (by kernel_rfl)
        refine stepG_yes (wanted_of rfl rfl (congrArg some dg) rfl) ?_
        clear dg
        have d9 : KEq (.agg #[.bool qc, .slice oc nc kc, .slice pc mc rc, .bool qcx, .slice ocx ncx kcx, .slice pcx mcx rcx]) (vals 9) w1 := hd 9 (by kernel_rfl)
        have d10 : KEq (.agg #[.bool s31, .slice o31 n31 c31, .slice a31 m31 d31, .bool s31x, .slice o31x n31x c31x, .slice a31x m31x d31x]) (vals 10) w1 := hd 10 (by kernel_rfl)
        have z9 : vals 9 = _ := d9
        have z10 : vals 10 = _ := d10
        have hs := inside_any _ ((p_c, r_c)) _ (stV ((p_a, r_a)) ((p_b, r_b))) w1 ((Fc.out.below hb).is HOc.out (by omega) (by omega)) ((N13.out.below hb).is (stV_ok _ _) (by omega) (by omega)) (by omega) (by omega) (by omega) (by omega)
        rw [Hy1.out] at hs
        have HS := Lib.hid hs; clear hs
        rw [z9]; clear z9
        rw [z10]; clear z10
        clear d9 d10 hd
        refine stepOK_call (by go_simp; first | done | exact ⟨⟨rfl, rfl⟩, rfl⟩) ?_
        (with_reducible refine HS.out.mono ?_); rintro e w2 ⟨rfl, hb2⟩
        exact ⟨_, rfl, leaves_mk hb2 rfl (fun h => by cases h)⟩
      · intro vals w1 hb hd
        have dg : KEq (.bool true) (vals 8) w1 := hd 8 (by kernel_rfl)
        refine stepG_yes (wanted_of rfl rfl (congrArg some dg) rfl) ?_
        clear dg
        obtain ⟨e0, e1, e2, e3, e4, e5⟩ := row6 (heap_below BX3.out hb)
        refine stepOK_value (v := .agg #[.bool qc, .slice oc nc kc, .slice pc mc rc, .bool qcx, .slice ocx ncx kcx, .slice pcx mcx rcx]) (w' := w1) (by go_simp) (leaves_mk (Below.refl _ _) rfl (fun h => by cases h))
      · intro vals w1 hb hd
        have dg : KEq (.bool true) (vals 8) w1 := hd 8 (by kernel_rfl)
        refine stepG_yes (wanted_of rfl rfl (congrArg some dg) rfl) ?_
        clear dg
        obtain ⟨e0, e1, e2, e3, e4, e5⟩ := row6 (heap_below BX1.out hb)
        refine stepOK_value (v := .agg #[.bool qa, .slice oa na ka, .slice pa ma ra, .bool qax, .slice oax nax kax, .slice pax max rax]) (w' := w1) (by go_simp) (leaves_mk (Below.refl _ _) rfl (fun h => by cases h))
      · intro vals w1 hb hd
        have dg : KEq (.bool true) (vals 8) w1 := hd 8 (by kernel_rfl)
        refine stepG_yes (wanted_of rfl rfl (congrArg some dg) rfl) ?_
        clear dg
        have d12 : KEq (.agg #[.bool qc, .slice oc nc kc, .slice pc mc rc, .bool qcx, .slice ocx ncx kcx, .slice pcx mcx rcx]) (vals 12) w1 := hd 12 (by kernel_rfl)
        have d13 : KEq (.agg #[.bool qa, .slice oa na ka, .slice pa ma ra, .bool qax, .slice oax nax kax, .slice pax max rax]) (vals 13) w1 := hd 13 (by kernel_rfl)
        have z12 : vals 12 = _ := d12
        have z13 : vals 13 = _ := d13
        have hs := inside_any _ ((p_c, r_c)) _ ((p_a, r_a)) w1 ((Fc.out.below hb).is HOc.out (by omega) (by omega)) ((Fa.out.below hb).is HOa.out (by omega) (by omega)) (by omega) (by omega) (by omega) (by omega)
        rw [Hy2.out] at hs
        have HS := Lib.hid hs; clear hs
        rw [z12]; clear z12
        rw [z13]; clear z13
        clear d12 d13 hd
        refine stepOK_call (by go_simp; first | done | exact ⟨⟨rfl, rfl⟩, rfl⟩) ?_
        (with_reducible refine HS.out.mono ?_); rintro e w2 ⟨rfl, hb2⟩
        exact ⟨_, rfl, leaves_mk hb2 rfl (fun h => by cases h)⟩
      · intro vals w1 hb hd
        have dg : KEq (.bool true) (vals 8) w1 := hd 8 (by kernel_rfl)
        refine stepG_yes (wanted_of rfl rfl (congrArg some dg) rfl) ?_
        clear dg
        have d14 : KEq (.bool y2) (vals 14) w1 := hd 14 (by kernel_rfl)
        rw [show vals 14 = _ from d14]
        refine stepOK_value (v := (.bool y2)) (w' := w1) (by go_simp) (leaves_mk (Below.refl _ _) rfl (fun h => by cases h))
      · intro vals w1 hb hd
        have dg : KEq (.bool y2) (vals 15) w1 := hd 15 (by kernel_rfl)
        cases hB : y2 with
        | false =>
          rw [hB] at dg
          refine stepG_no (unwanted_of rfl rfl (congrArg some dg) rfl) ?_
          exact leaves_mk (Below.refl _ _) (fun e => by cases e) (fun h => by cases h)
        | true =>
          rw [hB] at dg
          refine stepG_yes (wanted_of rfl rfl (congrArg some dg) rfl) ?_
          clear dg
          obtain ⟨e0, e1, e2, e3, e4, e5⟩ := row6 (heap_below BX3.out hb)
          refine stepOK_value (v := .agg #[.bool qc, .slice oc nc kc, .slice pc mc rc, .bool qcx, .slice ocx ncx kcx, .slice pcx mcx rcx]) (w' := w1) (by go_simp) (leaves_mk (Below.refl _ _) (fun _ => rfl) (fun h => by cases h))
      · intro vals w1 hb hd
        have dg : KEq (.bool y2) (vals 15) w1 := hd 15 (by kernel_rfl)
        cases hB : y2 with
        | false =>
          rw [hB] at dg
          refine stepG_no (unwanted_of rfl rfl (congrArg some dg) rfl) ?_
          exact leaves_mk (Below.refl _ _) (fun e => by cases e) (fun h => by cases h)
        | true =>
          rw [hB] at dg
          refine stepG_yes (wanted_of rfl rfl (congrArg some dg) rfl) ?_
          clear dg
          obtain ⟨e0, e1, e2, e3, e4, e5⟩ := row6 (heap_below BX2.out hb)
          refine stepOK_value (v := .agg #[.bool qb, .slice ob nb kb, .slice pb mb rb, .bool qbx, .slice obx nbx kbx, .slice pbx mbx rbx]) (w' := w1) (by go_simp) (leaves_mk (Below.refl _ _) (fun _ => rfl) (fun h => by cases h))
      · intro vals w1 hb hd
        have dg : KEq (.bool y2) (vals 15) w1 := hd 15 (by kernel_rfl)
        cases hB : y2 with
        | false =>
          rw [hB] at dg
          refine stepG_no (unwanted_of rfl rfl (congrArg some dg) rfl) ?_
          exact leaves_mk (Below.refl _ _) (fun e => by cases e) (fun h => by cases h)
        | true =>
          rw [hB] at dg
          refine stepG_yes (wanted_of rfl rfl (congrArg some dg) rfl) ?_
          clear dg
          have d16 : KEq (.agg #[.bool qc, .slice oc nc kc, .slice pc mc rc, .bool qcx, .slice ocx ncx kcx, .slice pcx mcx rcx]) (vals 16) w1 := hd 16 (by kernel_rfl) hB
          have d17 : KEq (.agg #[.bool qb, .slice ob nb kb, .slice pb mb rb, .bool qbx, .slice obx nbx kbx, .slice pbx mbx rbx]) (vals 17) w1 := hd 17 (by kernel_rfl) hB
          have z16 : vals 16 = _ := d16
          have z17 : vals 17 = _ := d17
          have hs := inside_any _ ((p_c, r_c)) _ ((p_b, r_b)) w1 ((Fc.out.below hb).is HOc.out (by omega) (by omega)) ((Fb.out.below hb).is HOb.out (by omega) (by omega)) (by omega) (by omega) (by omega) (by omega)
          rw [Hy3.out] at hs
          have HS := Lib.hid hs; clear hs
          rw [z16]; clear z16
          rw [z17]; clear z17
          clear d16 d17 hd
          refine stepOK_call (by go_simp; first | done | exact ⟨⟨rfl, rfl⟩, rfl⟩) ?_
          (with_reducible refine HS.out.mono ?_); rintro e w2 ⟨rfl, hb2⟩
          exact ⟨_, rfl, leaves_mk hb2 (fun _ => rfl) (fun h => by cases h)⟩
      · intro vals w1 hb hd
        have dg : KEq (.bool true) (vals 8) w1 := hd 8 (by kernel_rfl)
        refine stepG_yes (wanted_of rfl rfl (congrArg some dg) rfl) ?_
        clear dg
        have d15 : KEq (.bool y2) (vals 15) w1 := hd 15 (by kernel_rfl)
        have d18 : KIf y2 true (KEq (.bool y3)) (vals 18) w1 := hd 18 (by kernel_rfl)
        rw [show vals 15 = _ from d15]
        refine stepOK_value (v := (.bool (y2 && y3))) (w' := w1) ?hpk19 (leaves_mk (Below.refl _ _) rfl (fun h => by cases h))
        cases hC : y2 with
        | false => go_simp
        | true =>
          rw [show vals 18 = _ from d18 hC]
          go_simp
      · intro vals w1 hb hd
        have dg : KEq (.bool true) (vals 8) w1 := hd 8 (by kernel_rfl)
        refine stepG_yes (wanted_of rfl rfl (congrArg some dg) rfl) ?_
        clear dg
        have d11 : KEq (.bool y1) (vals 11) w1 := hd 11 (by kernel_rfl)
        have d19 : KEq (.bool (y2 && y3)) (vals 19) w1 := hd 19 (by kernel_rfl)
        rw [show vals 11 = _ from d11]
        rw [show vals 19 = _ from d19]
        refine stepOK_value (v := (.bool true)) (w' := w1) (by go_simp; first | done | exact GE2.out | (rw [GE2.out]; done) | (rw [GE2.out]; simp; done) | simp [GE2.out]) (leaves_mk (Below.refl _ _) rfl (fun h => by cases h))
      · intro vals w1 hb hd
        have d8 : KEq (.bool true) (vals 8) w1 := hd 8 (by kernel_rfl)
        have d20 : KEq (.bool true) (vals 20) w1 := hd 20 (by kernel_rfl)
        rw [show vals 8 = _ from d8]
        rw [show vals 20 = _ from d20]
        refine stepOK_value (v := (.bool true)) (w' := w1) (by go_simp; first | done | exact GE2.out | (rw [GE2.out]; done) | (rw [GE2.out]; simp; done) | simp [GE2.out]) (leaves_mk (Below.refl _ _) rfl (fun h => by cases h))
    case tl39 =>
      intro vals w15 hb15 hf hdis
      simp only [List.drop_succ_cons, List.drop_zero]
      have z21 : vals 21 = _ := hf 21 (by decide)
      try rw [z21]
      clear z21
      clear hf hdis
      have HB15 := Lib.hid (HB14.out.step hb15)
      have Fa := Lib.hid (Fa.out.below hb15)
      have Fal := Lib.hid (Fal.out.below hb15)
      have Fah := Lib.hid (Fah.out.below hb15)
      have FaV := Lib.hid (FaV.out.below hb15)
      have Fb := Lib.hid (Fb.out.below hb15)
      have Fbl := Lib.hid (Fbl.out.below hb15)
      have Fbh := Lib.hid (Fbh.out.below hb15)
      have FbV := Lib.hid (FbV.out.below hb15)
      have Fc := Lib.hid (Fc.out.below hb15)
      have Fcl := Lib.hid (Fcl.out.below hb15)
      have Fch := Lib.hid (Fch.out.below hb15)
      have FcV := Lib.hid (FcV.out.below hb15)
      have N10 := Lib.hid (N10.out.below hb15)
      have N10l := Lib.hid (N10l.out.below hb15)
      have N10h := Lib.hid (N10h.out.below hb15)
      have N13 := Lib.hid (N13.out.below hb15)
      have N13l := Lib.hid (N13l.out.below hb15)
      have N13h := Lib.hid (N13h.out.below hb15)
      have BX1 := Lib.hid (heap_below BX1.out hb15)
      have BX2 := Lib.hid (heap_below BX2.out hb15)
      have BX3 := Lib.hid (heap_below BX3.out hb15)
      have BX11 := Lib.hid (heap_below BX11.out hb15)
      have BX14 := Lib.hid (heap_below BX14.out hb15)
      clear hb15
      skip
      go_wp2_with (with_reducible first | refine pauseCall ?_ | refine pauseLoop ?_ | refine pauseDraw ?_ | refine pauseBody ?_ | refine pauseRounds ?_)
      refine Pause.mk ?_
      go_ret
      exact ⟨by first | rfl | (simp; done), HB15.out⟩
theorem spanlattice_any (va : Value) (sa : Bool) (aa ba : List Nat) (ta : Bool) (ca da : List Nat) (vb : Value) (sb : Bool) (ab bb : List Nat) (tb : Bool) (cb db : List Nat) (vc : Value) (sc : Bool) (ac bc : List Nat) (tc : Bool) (cc dc : List Nat) (w : World) (ha : SpV w va sa aa ba ta ca da) (hb : SpV w vb sb ab bb tb cb db) (hc : SpV w vc sc ac bc tc cc dc) :
    Calls Tryd.prog 4 #[va, vb, vc] w (RetV w (.bool true)) := by
  by_cases hbig : 6 < aa.length ∨ 6 < ba.length ∨ 6 < ca.length ∨ 6 < da.length ∨ 6 < ab.length ∨ 6 < bb.length ∨ 6 < cb.length ∨ 6 < db.length ∨ 6 < ac.length ∨ 6 < bc.length ∨ 6 < cc.length ∨ 6 < dc.length
  · exact spanlattice_big va aa.length ba.length ca.length da.length vb ab.length bb.length cb.length db.length vc ac.length bc.length cc.length dc.length w ha.sz.1 hb.sz.1 hc.sz.1 hbig
  by_cases hva : Vld sa aa ba ∧ Vld ta ca da ∧ rq sa aa ba ≤ rq ta ca da
  case neg => exact spanlattice_noa va sa aa ba ta ca da vb sb ab bb tb cb db vc sc ac bc tc cc dc w ha (by omega) (by omega) (by omega) (by omega) hb (by omega) (by omega) (by omega) (by omega) hc (by omega) (by omega) (by omega) (by omega)  hva
  by_cases hvb : Vld sb ab bb ∧ Vld tb cb db ∧ rq sb ab bb ≤ rq tb cb db
  case neg => exact spanlattice_nob va sa aa ba ta ca da vb sb ab bb tb cb db vc sc ac bc tc cc dc w ha (by omega) (by omega) (by omega) (by omega) hb (by omega) (by omega) (by omega) (by omega) hc (by omega) (by omega) (by omega) (by omega) hva hvb
  by_cases hvc : Vld sc ac bc ∧ Vld tc cc dc ∧ rq sc ac bc ≤ rq tc cc dc
  case neg => exact spanlattice_noc va sa aa ba ta ca da vb sb ab bb tb cb db vc sc ac bc tc cc dc w ha (by omega) (by omega) (by omega) (by omega) hb (by omega) (by omega) (by omega) (by omega) hc (by omega) (by omega) (by omega) (by omega) hva hvb hvc
  by_cases hm : (sMeet (rq sa aa ba, rq ta ca da) (rq sb ab bb, rq tb cb db)).1 ≤ (sMeet (rq sa aa ba, rq ta ca da) (rq sb ab bb, rq tb cb db)).2
  · exact spanlattice_ok3 va sa aa ba ta ca da vb sb ab bb tb cb db vc sc ac bc tc cc dc w ha (by omega) (by omega) (by omega) (by omega) hva hb (by omega) (by omega) (by omega) (by omega) hvb hc (by omega) (by omega) (by omega) (by omega) hvc hm
  · by_cases hc1 : subS (rq sc ac bc, rq tc cc dc) (rq sa aa ba, rq ta ca da)
    · by_cases hc2 : subS (rq sc ac bc, rq tc cc dc) (rq sb ab bb, rq tb cb db)
      · exact absurd ⟨hc1, hc2⟩ (meet_none hm)
      · exact spanlattice_ok2 va sa aa ba ta ca da vb sb ab bb tb cb db vc sc ac bc tc cc dc w ha (by omega) (by omega) (by omega) (by omega) hva hb (by omega) (by omega) (by omega) (by omega) hvb hc (by omega) (by omega) (by omega) (by omega) hvc hm hc1 hc2
    · exact spanlattice_ok1 va sa aa ba ta ca da vb sb ab bb tb cb db vc sc ac bc tc cc dc w ha (by omega) (by omega) (by omega) (by omega) hva hb (by omega) (by omega) (by omega) (by omega) hvb hc (by omega) (by omega) (by omega) (by omega) hvc hm hc1
end Go.Proofs.YtaefimegiobkmaaDoor
