/-
 The walk of the law ProofComputes.
 Conditions: each theorem's own.
-/
import Derived.Test.YthhgfhdmfhnklaaGreatDoorMVc4
namespace Go.Proofs.YthhgfhdmfhnklaaGreatDoor
open Go.RowKit Go.ChangeShapes Go.WideShapes

theorem sErr_lt (f : Fm) (t : Tr) (L : List Rv) : sErr f t L < 1000 := by
 unfold sErr
 split
 ·unfold cErr
  have h1 := fmErr_lt f
  have h2 := trErr_lt f.vars t 0 0
  split <;> omega
 ·split
  ·decide
  ·split
   ·decide
   ·split <;> decide
theorem valC_lt (f : Fm) (t : Tr) (L : List Rv) : (valC f t L).2 < 1000 := by
 unfold valC
 split
 ·exact sErr_lt f t L
 ·split
  ·exact (by decide : 18 < 1000)
  ·exact (by decide : 0 < 1000)
theorem swpV_lt (vars : Int) (t : Tr) (k : Int) (b : Tr) : (swpV vars t k b).2 < 1000 := by
 unfold swpV
 have h1 := trErr_lt vars t 0 0
 have h2 := trErr_lt vars (qbo b t k).1 0 0
 split
 ·show (qbh vars t 0 0).2 < 1000; omega
 ·split
  ·decide
  ·split
   ·show (qbh vars (qbo b t k).1 0 0).2 < 1000; omega
   ·exact (by decide : 0 < 1000)
theorem rfV_lt (f : Fm) (t : Tr) (L : List Rv) : (rfV f t L).2 < 1000 := by
 unfold rfV
 split
 ·exact sErr_lt f t L
 ·split
  ·decide
  ·exact swpV_lt _ _ _ _
theorem comp_rl {f : Fm} {t : Tr} {L : List Rv} (hsm : ∀ r ∈ L, r.a.length ≤ 3 ∧ r.b.length ≤ 3 ∧ rl r.q ≤ 3) (hlv : cErr f t = 0 → (qah t 0 0).length ≤ 300) :
  rl (bndV f t L).1 ≤ 100000 ∧ rl (bndV f t L).2 ≤ 100000 ∧ rl (valC f t L).1 ≤ 100000 := by
 have h0 : rl 0 ≤ 100000 := by rw [qeo]; decide
 by_cases h : sErr f t L = 0
 ·obtain ⟨h1, h2, _, _⟩ := qex h
  have p1 := (qbe (qds h1).1).2.1
  obtain ⟨b1, b2⟩ := bnd_rl h hsm (hlv h1)
  refine ⟨by omega, by omega, ?_⟩
  unfold valC
  rw [if_neg (fun k => k h)]
  split
  ·exact h0
  ·have := rl_sum (r := 1) (by omega : L.length ≤ 24) hsm (hlv h1)
   show rl (sumF (L.map Rv.q) 1 (qah t 0 0) 0) ≤ 100000
   omega
 ·have e1 : bndV f t L = (0, 0) := by unfold bndV; rw [if_neg h]
  have e2 : (valC f t L).1 = 0 := by unfold valC; rw [if_pos h]
  rw [e1, e2]; exact ⟨h0, h0, h0⟩
set_option maxRecDepth 100000 in
set_option maxHeartbeats 16000000 in
theorem proofcomputes_any (vf v x : Value) (f : Fm) (L : List Rv) (t : Tr) (w : World) (hf : FmV w vf f) (hl : RvsV w v L) (ht : TrV w x t) :
  Calls Tryz.prog 6 #[vf, v, x] w (qea w (.bool true)) := by
 have HL := qHd hl; clear hl
 obtain ⟨nv, rfl, hn, hv, htp⟩ := hf
 obtain ⟨ao, c, rfl, hc, hc2, _⟩ := hn.shape
 have HF := qHd (show FmV w _ f from ⟨_, rfl, hn, hv, htp⟩)
 have HT := qHd ht
 obtain ⟨tv, tr, ta, tn, tc, rfl⟩ := ht.shape
 obtain ⟨W, hW, hbW, hg1, hg2⟩ := qBx2 w (.cells #[.int .i64 f.vars, .slice ao f.nodes.length c, .int .i64 f.top] 24) (.cells #[.int .i64 tv, .slice ta tn tc, .int .i64 tr] 27)
 obtain ⟨g1, hG1⟩ : ∃ g, g = w.heap.size := ⟨_, rfl⟩
 obtain ⟨g2, hG2⟩ : ∃ g, g = w.heap.size + 1 := ⟨_, rfl⟩
 rw [← hG1] at hg1; rw [← hG2] at hg2
 have HBW := qHd hbW; have G1 := qHd hg1; have G2 := qHd hg2
 obtain ⟨x0, x1, x2⟩ := qay hg1
 obtain ⟨y0, y1, y2⟩ := qay hg2
 rw [hW, hG1] at x0 x1 x2
 rw [hW, hG2] at y0 y1 y2
 clear hbW hg1 hg2 hn hv htp ht
 obtain ⟨al, cl, rfl, hcl, hcl2, _⟩ := HL.out.shape
 have HK := qHd (light_any _ _ f t W (HF.out.below HBW.out) (HT.out.below HBW.out))
 obtain ⟨lb, hlb⟩ : ∃ lb, qfn f t = lb := ⟨_, rfl⟩
 rw [hlb] at HK
 go_enter Tryz.func6, Tryz.ntmps6
 go_wp2_with (with_reducible refine qad ?_)
 rw [← hW, ← hG2, ← hG1]; clear hW hG1 hG2 x0 x1 x2 y0 y1 y2
 refine qap.mk ?_
 (with_reducible refine HK.out.mono ?_); rintro e w1 ⟨rfl, hb1⟩
 have HB := qHd (HBW.out.trans (hb1.mono HBW.out.size))
 have X1 := qHd (qaa G1.out hb1); have X2 := qHd (qaa G2.out hb1)
 clear hb1 HK HBW G1 G2
 cases lb
 ·clear hlb
  go_wp2_with (with_reducible refine qad ?_)
  refine qap.mk ?_
  (with_reducible refine (qcx w1).mono ?_); rintro e wz ⟨rfl, hbz⟩
  have HBz := qHd (HB.out.trans (hbz.mono HB.out.size))
  clear hbz
  go_wp2_with fail
  go_ret
  exact ⟨rfl, HBz.out⟩
 have HLB := qHd hlb; clear hlb
 have HF := qHd (HF.out.below HB.out); have HL := qHd (HL.out.below HB.out); have HT := qHd (HT.out.below HB.out)
 have HK := qHd (brief_any _ L w1 HL.out)
 obtain ⟨bb, hbb⟩ : ∃ bb, briefB L = bb := ⟨_, rfl⟩
 rw [hbb] at HK
 go_wp2_with (with_reducible refine qad ?_)
 refine qap.mk ?_
 (with_reducible refine HK.out.mono ?_); rintro e w2 ⟨rfl, hb2⟩
 have HB := qHd (HB.out.trans (hb2.mono HB.out.size))
 have HF := qHd (HF.out.below hb2)
 have HL := qHd (HL.out.below hb2)
 have HT := qHd (HT.out.below hb2)
 have X1 := qHd (qaa X1.out hb2)
 have X2 := qHd (qaa X2.out hb2)
 clear hb2 HK
 cases bb
 ·clear hbb
  go_wp2_with (with_reducible refine qad ?_)
  refine qap.mk ?_
  (with_reducible refine (qcx w2).mono ?_); rintro e wz ⟨rfl, hbz⟩
  have HBz := qHd (HB.out.trans (hbz.mono HB.out.size))
  clear hbz
  go_wp2_with fail
  go_ret
  exact ⟨rfl, HBz.out⟩
 have SM := qHd (fun (r : Rv) (hr : r ∈ L) => (show r.a.length ≤ 3 ∧ r.b.length ≤ 3 ∧ rl r.q ≤ 3 from ⟨((briefB_sm hbb).2 r hr).1, ((briefB_sm hbb).2 r hr).2, rl_rq (HL.out.lt r hr).1 (HL.out.lt r hr).2 ((briefB_sm hbb).2 r hr).1 ((briefB_sm hbb).2 r hr).2 (by decide)⟩))
 clear hbb
 go_wp2_with (with_reducible refine qad ?_)
 refine qap.mk ?_
 (with_reducible refine (qcx w2).mono ?_); rintro e w3 ⟨rfl, hb3⟩
 have HB := qHd (HB.out.trans (hb3.mono HB.out.size))
 have HF := qHd (HF.out.below hb3)
 have HL := qHd (HL.out.below hb3)
 have HT := qHd (HT.out.below hb3)
 have X1 := qHd (qaa X1.out hb3)
 have X2 := qHd (qaa X2.out hb3)
 clear hb3
 have HFEW := qHd (fun (hc : cErr f t = 0) => lightB_few HLB.out hc)
 have RLS := qHd (comp_rl (f := f) (t := t) SM.out HFEW.out)
 have hse4 := sErr_lt f t L
 have hve4 := valC_lt f t L
 have hre4 := rfV_lt f t L
 obtain ⟨se, hse⟩ : ∃ se, sErr f t L = se := ⟨_, rfl⟩
 obtain ⟨ve, hve⟩ : ∃ ve, (valC f t L).2 = ve := ⟨_, rfl⟩
 obtain ⟨vq, hvq⟩ : ∃ vq, (valC f t L).1 = vq := ⟨_, rfl⟩
 obtain ⟨bd, hbd⟩ : ∃ bd, bndV f t L = bd := ⟨_, rfl⟩
 obtain ⟨re, hre⟩ : ∃ re, (rfV f t L).2 = re := ⟨_, rfl⟩
 obtain ⟨rt, hrt⟩ : ∃ rt, (rfV f t L).1 = rt := ⟨_, rfl⟩
 rw [hse] at hse4; rw [hve] at hve4; rw [hre] at hre4
 rw [hbd, hvq] at RLS
 have HSE := qHd hse; have HVE := qHd hve; have HVQ := qHd hvq; have HBD := qHd hbd; have HRE := qHd hre; have HRT := qHd hrt
 clear hse hve hvq hbd hre hrt
 have HK := qHd (bounds_any _ _ _ f t L w3 HF.out HT.out HL.out SM.out HFEW.out se HSE.out)
 rw [HBD.out] at HK
 obtain ⟨l0_0, l0_1, l0_2⟩ := qay X1.out
 obtain ⟨l1_0, l1_1, l1_2⟩ := qay X2.out
 go_wp2_with (with_reducible refine qad ?_)
 clear l0_0 l0_1 l0_2 l1_0 l1_1 l1_2
 refine qap.mk ?_
 (with_reducible refine HK.out.mono ?_); rintro e w4 ⟨v4, rfl, hb4, hn4⟩
 have HB := qHd (HB.out.trans (hb4.mono HB.out.size))
 have HF := qHd (HF.out.below hb4)
 have HL := qHd (HL.out.below hb4)
 have HT := qHd (HT.out.below hb4)
 have X1 := qHd (qaa X1.out hb4)
 have X2 := qHd (qaa X2.out hb4)
 obtain ⟨s4, o4, n4, c4, a4, m4, d4, s4x, o4x, n4x, c4x, a4x, m4x, d4x, rfl⟩ := hn4.shape
 have IB := qHd hn4
 clear hb4 hn4 HK
 obtain ⟨w5, hw5, hb5, b5, hB5, hx5⟩ := qBx5 w4 (.cells #[.bool s4, .slice o4 n4 c4, .slice a4 m4 d4, .bool s4x, .slice o4x n4x c4x, .slice a4x m4x d4x] 56)
 have HB := qHd (HB.out.trans (hb5.mono HB.out.size))
 have HF := qHd (HF.out.below hb5)
 have HL := qHd (HL.out.below hb5)
 have HT := qHd (HT.out.below hb5)
 have IB := qHd (IB.out.below hb5)
 have X1 := qHd (qaa X1.out hb5)
 have X2 := qHd (qaa X2.out hb5)
 have X4 := qHd hx5
 clear hb5 hx5
 have HK := qHd (value_c _ _ _ f t L w5 HF.out HT.out HL.out SM.out HFEW.out se HSE.out)
 rw [HVE.out, HVQ.out] at HK
 obtain ⟨l0_0, l0_1, l0_2⟩ := qay X1.out
 try rw [hw5] at l0_0
 try rw [hB5] at l0_0
 try rw [hw5] at l0_1
 try rw [hB5] at l0_1
 try rw [hw5] at l0_2
 try rw [hB5] at l0_2
 obtain ⟨l1_0, l1_1, l1_2⟩ := qay X2.out
 try rw [hw5] at l1_0
 try rw [hB5] at l1_0
 try rw [hw5] at l1_1
 try rw [hB5] at l1_1
 try rw [hw5] at l1_2
 try rw [hB5] at l1_2
 go_wp2_with (with_reducible refine qad ?_)
 rw [← hw5, ← hB5]
 clear hw5 hB5
 clear l0_0 l0_1 l0_2 l1_0 l1_1 l1_2
 refine qap.mk ?_
 (with_reducible refine HK.out.mono ?_); rintro e w6 ⟨v6, rfl, hb6, hn6⟩
 have HB := qHd (HB.out.trans (hb6.mono HB.out.size))
 have HF := qHd (HF.out.below hb6)
 have HL := qHd (HL.out.below hb6)
 have HT := qHd (HT.out.below hb6)
 have IB := qHd (IB.out.below hb6)
 have X1 := qHd (qaa X1.out hb6)
 have X2 := qHd (qaa X2.out hb6)
 have X4 := qHd (qaa X4.out hb6)
 obtain ⟨s6, o6, n6, c6, a6, m6, d6, rfl⟩ := hn6.shape
 have IV := qHd hn6
 clear hb6 hn6 HK
 obtain ⟨w7, hw7, hb7, b7, hB7, hx7⟩ := qBx5 w6 (.cells #[.bool s6, .slice o6 n6 c6, .slice a6 m6 d6] 54)
 have HB := qHd (HB.out.trans (hb7.mono HB.out.size))
 have HF := qHd (HF.out.below hb7)
 have HL := qHd (HL.out.below hb7)
 have HT := qHd (HT.out.below hb7)
 have IB := qHd (IB.out.below hb7)
 have IV := qHd (IV.out.below hb7)
 have X1 := qHd (qaa X1.out hb7)
 have X2 := qHd (qaa X2.out hb7)
 have X4 := qHd (qaa X4.out hb7)
 have X6 := qHd hx7
 clear hb7 hx7
 have HK := qHd (prefine_any _ _ _ f t L w7 HF.out HT.out HL.out SM.out HFEW.out se HSE.out)
 rw [HRE.out, HRT.out] at HK
 obtain ⟨l0_0, l0_1, l0_2⟩ := qay X1.out
 try rw [hw7] at l0_0
 try rw [hB7] at l0_0
 try rw [hw7] at l0_1
 try rw [hB7] at l0_1
 try rw [hw7] at l0_2
 try rw [hB7] at l0_2
 obtain ⟨l1_0, l1_1, l1_2⟩ := qay X2.out
 try rw [hw7] at l1_0
 try rw [hB7] at l1_0
 try rw [hw7] at l1_1
 try rw [hB7] at l1_1
 try rw [hw7] at l1_2
 try rw [hB7] at l1_2
 go_wp2_with (with_reducible refine qad ?_)
 rw [← hw7, ← hB7]
 clear hw7 hB7
 clear l0_0 l0_1 l0_2 l1_0 l1_1 l1_2
 refine qap.mk ?_
 (with_reducible refine HK.out.mono ?_); rintro e w8 ⟨v8, rfl, hb8, ht8⟩
 have HB := qHd (HB.out.trans (hb8.mono HB.out.size))
 have HF := qHd (HF.out.below hb8)
 have HL := qHd (HL.out.below hb8)
 have HT := qHd (HT.out.below hb8)
 have IB := qHd (IB.out.below hb8)
 have IV := qHd (IV.out.below hb8)
 have X1 := qHd (qaa X1.out hb8)
 have X2 := qHd (qaa X2.out hb8)
 have X4 := qHd (qaa X4.out hb8)
 have X6 := qHd (qaa X6.out hb8)
 have ht8 := ht8.tr
 obtain ⟨tv8, tr8, ta8, tn8, tc8, rfl⟩ := ht8.shape
 have IU := qHd ht8
 clear hb8 ht8 HK
 obtain ⟨w9, hw9, hb9, b9, hB9, hx9⟩ := qBx5 w8 (.cells #[.int .i64 tv8, .slice ta8 tn8 tc8, .int .i64 tr8] 27)
 have HB := qHd (HB.out.trans (hb9.mono HB.out.size))
 have HF := qHd (HF.out.below hb9)
 have HL := qHd (HL.out.below hb9)
 have HT := qHd (HT.out.below hb9)
 have IB := qHd (IB.out.below hb9)
 have IV := qHd (IV.out.below hb9)
 have IU := qHd (IU.out.below hb9)
 have X1 := qHd (qaa X1.out hb9)
 have X2 := qHd (qaa X2.out hb9)
 have X4 := qHd (qaa X4.out hb9)
 have X6 := qHd (qaa X6.out hb9)
 have X8 := qHd hx9
 clear hb9 hx9
 have HK := qHd (rbounds_any _ _ _ f t L w9 HF.out HT.out HL.out SM.out HFEW.out se HSE.out)
 rw [HBD.out] at HK
 obtain ⟨l0_0, l0_1, l0_2⟩ := qay X1.out
 try rw [hw9] at l0_0
 try rw [hB9] at l0_0
 try rw [hw9] at l0_1
 try rw [hB9] at l0_1
 try rw [hw9] at l0_2
 try rw [hB9] at l0_2
 obtain ⟨l1_0, l1_1, l1_2⟩ := qay X2.out
 try rw [hw9] at l1_0
 try rw [hB9] at l1_0
 try rw [hw9] at l1_1
 try rw [hB9] at l1_1
 try rw [hw9] at l1_2
 try rw [hB9] at l1_2
 go_wp2_with (with_reducible refine qad ?_)
 rw [← hw9, ← hB9]
 clear hw9 hB9
 clear l0_0 l0_1 l0_2 l1_0 l1_1 l1_2
 refine qap.mk ?_
 (with_reducible refine HK.out.mono ?_); rintro e w10 ⟨v10, rfl, hb10, hn10⟩
 have HB := qHd (HB.out.trans (hb10.mono HB.out.size))
 have HF := qHd (HF.out.below hb10)
 have HL := qHd (HL.out.below hb10)
 have HT := qHd (HT.out.below hb10)
 have IB := qHd (IB.out.below hb10)
 have IV := qHd (IV.out.below hb10)
 have IU := qHd (IU.out.below hb10)
 have X1 := qHd (qaa X1.out hb10)
 have X2 := qHd (qaa X2.out hb10)
 have X4 := qHd (qaa X4.out hb10)
 have X6 := qHd (qaa X6.out hb10)
 have X8 := qHd (qaa X8.out hb10)
 obtain ⟨s10, o10, n10, c10, a10, m10, d10, s10x, o10x, n10x, c10x, a10x, m10x, d10x, rfl⟩ := hn10.shape
 have IC := qHd hn10
 clear hb10 hn10 HK
 obtain ⟨w11, hw11, hb11, b11, hB11, hx11⟩ := qBx5 w10 (.cells #[.bool s10, .slice o10 n10 c10, .slice a10 m10 d10, .bool s10x, .slice o10x n10x c10x, .slice a10x m10x d10x] 56)
 have HB := qHd (HB.out.trans (hb11.mono HB.out.size))
 have HF := qHd (HF.out.below hb11)
 have HL := qHd (HL.out.below hb11)
 have HT := qHd (HT.out.below hb11)
 have IB := qHd (IB.out.below hb11)
 have IV := qHd (IV.out.below hb11)
 have IU := qHd (IU.out.below hb11)
 have IC := qHd (IC.out.below hb11)
 have X1 := qHd (qaa X1.out hb11)
 have X2 := qHd (qaa X2.out hb11)
 have X4 := qHd (qaa X4.out hb11)
 have X6 := qHd (qaa X6.out hb11)
 have X8 := qHd (qaa X8.out hb11)
 have X10 := qHd hx11
 clear hb11 hx11
 have HK := qHd (rvalue_c _ _ _ f t L w11 HF.out HT.out HL.out SM.out HFEW.out se HSE.out)
 rw [HVE.out, HVQ.out] at HK
 obtain ⟨l0_0, l0_1, l0_2⟩ := qay X1.out
 try rw [hw11] at l0_0
 try rw [hB11] at l0_0
 try rw [hw11] at l0_1
 try rw [hB11] at l0_1
 try rw [hw11] at l0_2
 try rw [hB11] at l0_2
 obtain ⟨l1_0, l1_1, l1_2⟩ := qay X2.out
 try rw [hw11] at l1_0
 try rw [hB11] at l1_0
 try rw [hw11] at l1_1
 try rw [hB11] at l1_1
 try rw [hw11] at l1_2
 try rw [hB11] at l1_2
 go_wp2_with (with_reducible refine qad ?_)
 rw [← hw11, ← hB11]
 clear hw11 hB11
 clear l0_0 l0_1 l0_2 l1_0 l1_1 l1_2
 refine qap.mk ?_
 (with_reducible refine HK.out.mono ?_); rintro e w12 ⟨v12, rfl, hb12, hn12⟩
 have HB := qHd (HB.out.trans (hb12.mono HB.out.size))
 have HF := qHd (HF.out.below hb12)
 have HL := qHd (HL.out.below hb12)
 have HT := qHd (HT.out.below hb12)
 have IB := qHd (IB.out.below hb12)
 have IV := qHd (IV.out.below hb12)
 have IU := qHd (IU.out.below hb12)
 have IC := qHd (IC.out.below hb12)
 have X1 := qHd (qaa X1.out hb12)
 have X2 := qHd (qaa X2.out hb12)
 have X4 := qHd (qaa X4.out hb12)
 have X6 := qHd (qaa X6.out hb12)
 have X8 := qHd (qaa X8.out hb12)
 have X10 := qHd (qaa X10.out hb12)
 obtain ⟨s12, o12, n12, c12, a12, m12, d12, rfl⟩ := hn12.shape
 have IW := qHd hn12
 clear hb12 hn12 HK
 obtain ⟨w13, hw13, hb13, b13, hB13, hx13⟩ := qBx5 w12 (.cells #[.bool s12, .slice o12 n12 c12, .slice a12 m12 d12] 54)
 have HB := qHd (HB.out.trans (hb13.mono HB.out.size))
 have HF := qHd (HF.out.below hb13)
 have HL := qHd (HL.out.below hb13)
 have HT := qHd (HT.out.below hb13)
 have IB := qHd (IB.out.below hb13)
 have IV := qHd (IV.out.below hb13)
 have IU := qHd (IU.out.below hb13)
 have IC := qHd (IC.out.below hb13)
 have IW := qHd (IW.out.below hb13)
 have X1 := qHd (qaa X1.out hb13)
 have X2 := qHd (qaa X2.out hb13)
 have X4 := qHd (qaa X4.out hb13)
 have X6 := qHd (qaa X6.out hb13)
 have X8 := qHd (qaa X8.out hb13)
 have X10 := qHd (qaa X10.out hb13)
 have X12 := qHd hx13
 clear hb13 hx13
 have HK := qHd (rrefine_any _ _ _ f t L w13 HF.out HT.out HL.out SM.out HFEW.out se HSE.out)
 rw [HRE.out, HRT.out] at HK
 obtain ⟨l0_0, l0_1, l0_2⟩ := qay X1.out
 try rw [hw13] at l0_0
 try rw [hB13] at l0_0
 try rw [hw13] at l0_1
 try rw [hB13] at l0_1
 try rw [hw13] at l0_2
 try rw [hB13] at l0_2
 obtain ⟨l1_0, l1_1, l1_2⟩ := qay X2.out
 try rw [hw13] at l1_0
 try rw [hB13] at l1_0
 try rw [hw13] at l1_1
 try rw [hB13] at l1_1
 try rw [hw13] at l1_2
 try rw [hB13] at l1_2
 go_wp2_with (with_reducible refine qad ?_)
 rw [← hw13, ← hB13]
 clear hw13 hB13
 clear l0_0 l0_1 l0_2 l1_0 l1_1 l1_2
 refine qap.mk ?_
 (with_reducible refine HK.out.mono ?_); rintro e w14 ⟨v14, rfl, hb14, ht14⟩
 have HB := qHd (HB.out.trans (hb14.mono HB.out.size))
 have IB := qHd (IB.out.below hb14)
 have IV := qHd (IV.out.below hb14)
 have IU := qHd (IU.out.below hb14)
 have IC := qHd (IC.out.below hb14)
 have IW := qHd (IW.out.below hb14)
 have X4 := qHd (qaa X4.out hb14)
 have X6 := qHd (qaa X6.out hb14)
 have X8 := qHd (qaa X8.out hb14)
 have X10 := qHd (qaa X10.out hb14)
 have X12 := qHd (qaa X12.out hb14)
 obtain ⟨tv14, tr14, ta14, tn14, tc14, rfl⟩ := ht14.shape
 have IX := qHd ht14
 clear hb14 ht14 HK HF HT HL X1 X2
 obtain ⟨w15, hw15, hb15, b15, hB15, hx15⟩ := qBx5 w14 (.cells #[.int .i64 tv14, .slice ta14 tn14 tc14, .int .i64 tr14] 27)
 have HB := qHd (HB.out.trans (hb15.mono HB.out.size))
 have IB := qHd (IB.out.below hb15)
 have IV := qHd (IV.out.below hb15)
 have IU := qHd (IU.out.below hb15)
 have IC := qHd (IC.out.below hb15)
 have IW := qHd (IW.out.below hb15)
 have IX := qHd (IX.out.below hb15)
 have X4 := qHd (qaa X4.out hb15)
 have X6 := qHd (qaa X6.out hb15)
 have X8 := qHd (qaa X8.out hb15)
 have X10 := qHd (qaa X10.out hb15)
 have X12 := qHd (qaa X12.out hb15)
 have X14 := qHd hx15
 clear hb15 hx15
 have HK := qHd (num_any se w15 hse4)
 go_wp2_with (with_reducible refine qad ?_)
 rw [← hw15, ← hB15]
 clear hw15 hB15
 refine qap.mk ?_
 (with_reducible refine HK.out.mono ?_); rintro e w16 ⟨rfl, rfl⟩
 have HK := qHd (rat_same _ _ bd.1 w15 (qci IB.out).1 (qci IC.out).1 RLS.out.1)
 obtain ⟨l0_0, l0_1, l0_2, l0_3, l0_4, l0_5⟩ := row6 X4.out
 obtain ⟨l1_0, l1_1, l1_2, l1_3, l1_4, l1_5⟩ := row6 X10.out
 go_wp2_with (with_reducible refine qad ?_)
 clear l0_0 l0_1 l0_2 l0_3 l0_4 l0_5 l1_0 l1_1 l1_2 l1_3 l1_4 l1_5
 refine qap.mk ?_
 (with_reducible refine HK.out.mono ?_); rintro e w17 ⟨rfl, hb17⟩
 have HB := qHd (HB.out.trans (hb17.mono HB.out.size))
 have IB := qHd (IB.out.below hb17)
 have IV := qHd (IV.out.below hb17)
 have IU := qHd (IU.out.below hb17)
 have IC := qHd (IC.out.below hb17)
 have IW := qHd (IW.out.below hb17)
 have IX := qHd (IX.out.below hb17)
 have X4 := qHd (qaa X4.out hb17)
 have X6 := qHd (qaa X6.out hb17)
 have X8 := qHd (qaa X8.out hb17)
 have X10 := qHd (qaa X10.out hb17)
 have X12 := qHd (qaa X12.out hb17)
 have X14 := qHd (qaa X14.out hb17)
 clear hb17 HK
 have HK := qHd (rat_same _ _ bd.2 w17 (qci IB.out).2 (qci IC.out).2 RLS.out.2.1)
 obtain ⟨l0_0, l0_1, l0_2, l0_3, l0_4, l0_5⟩ := row6 X4.out
 obtain ⟨l1_0, l1_1, l1_2, l1_3, l1_4, l1_5⟩ := row6 X10.out
 go_wp2_with (with_reducible refine qad ?_)
 clear l0_0 l0_1 l0_2 l0_3 l0_4 l0_5 l1_0 l1_1 l1_2 l1_3 l1_4 l1_5
 refine qap.mk ?_
 (with_reducible refine HK.out.mono ?_); rintro e w18 ⟨rfl, hb18⟩
 have HB := qHd (HB.out.trans (hb18.mono HB.out.size))
 have IB := qHd (IB.out.below hb18)
 have IV := qHd (IV.out.below hb18)
 have IU := qHd (IU.out.below hb18)
 have IC := qHd (IC.out.below hb18)
 have IW := qHd (IW.out.below hb18)
 have IX := qHd (IX.out.below hb18)
 have X4 := qHd (qaa X4.out hb18)
 have X6 := qHd (qaa X6.out hb18)
 have X8 := qHd (qaa X8.out hb18)
 have X10 := qHd (qaa X10.out hb18)
 have X12 := qHd (qaa X12.out hb18)
 have X14 := qHd (qaa X14.out hb18)
 clear hb18 HK
 have HK := qHd (num_any ve w18 hve4)
 go_wp2_with (with_reducible refine qad ?_)
 refine qap.mk ?_
 (with_reducible refine HK.out.mono ?_); rintro e w19 ⟨rfl, rfl⟩
 have HK := qHd (rat_same _ _ vq w18 IV.out IW.out RLS.out.2.2)
 obtain ⟨l0_0, l0_1, l0_2⟩ := qay X6.out
 obtain ⟨l1_0, l1_1, l1_2⟩ := qay X12.out
 go_wp2_with (with_reducible refine qad ?_)
 clear l0_0 l0_1 l0_2 l1_0 l1_1 l1_2
 refine qap.mk ?_
 (with_reducible refine HK.out.mono ?_); rintro e w20 ⟨rfl, hb20⟩
 have HB := qHd (HB.out.trans (hb20.mono HB.out.size))
 have IB := qHd (IB.out.below hb20)
 have IV := qHd (IV.out.below hb20)
 have IU := qHd (IU.out.below hb20)
 have IC := qHd (IC.out.below hb20)
 have IW := qHd (IW.out.below hb20)
 have IX := qHd (IX.out.below hb20)
 have X4 := qHd (qaa X4.out hb20)
 have X6 := qHd (qaa X6.out hb20)
 have X8 := qHd (qaa X8.out hb20)
 have X10 := qHd (qaa X10.out hb20)
 have X12 := qHd (qaa X12.out hb20)
 have X14 := qHd (qaa X14.out hb20)
 clear hb20 HK
 have HK := qHd (num_any re w20 hre4)
 go_wp2_with (with_reducible refine qad ?_)
 refine qap.mk ?_
 (with_reducible refine HK.out.mono ?_); rintro e w21 ⟨rfl, rfl⟩
 have HK := qHd (rsame_any rt _ _ w20 IU.out IX.out)
 obtain ⟨l0_0, l0_1, l0_2⟩ := qay X8.out
 obtain ⟨l1_0, l1_1, l1_2⟩ := qay X14.out
 go_wp2_with (with_reducible refine qad ?_)
 clear l0_0 l0_1 l0_2 l1_0 l1_1 l1_2
 refine qap.mk ?_
 (with_reducible refine HK.out.mono ?_); rintro e w22 ⟨rfl, hb22⟩
 have HB := qHd (HB.out.trans (hb22.mono HB.out.size))
 clear hb22 HK
 go_wp2_with fail
 go_ret
 exact ⟨rfl, HB.out⟩
end Go.Proofs.YthhgfhdmfhnklaaGreatDoor
