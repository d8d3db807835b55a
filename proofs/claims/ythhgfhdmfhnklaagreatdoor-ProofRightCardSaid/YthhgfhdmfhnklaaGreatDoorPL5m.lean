/-
 The walk of the law ProofRight.
 Conditions: each theorem's own.
-/
import Derived.Test.YthhgfhdmfhnklaaGreatDoorMVb2
namespace Go.Proofs.YthhgfhdmfhnklaaGreatDoor
open Go.RowKit Go.ChangeShapes Go.WideShapes

theorem qgd.chr {f : Fm} {L : List Rv} (h : qgd f L) (hsm : ∀ r ∈ L, r.a.length ≤ 3 ∧ r.b.length ≤ 3 ∧ rl r.q ≤ 3) : rl (qek f (L.map Rv.q)) ≤ 39000 := by
 rw [chance_eq h.ps.1]
 have h8 := h.v8
 have hlen := h.len
 have h1 := rl_sumS (g := fun s => if topS f s then wt (L.map Rv.q) s (qdd f.vars.toNat s) else 0) (k := 41) (fun s => by
  show rl (if topS f s then wt (L.map Rv.q) s (qdd f.vars.toNat s) else 0) ≤ 41
  split
  ·have := rl_wtL (k := 3) (L.map Rv.q) 0 s (qdd f.vars.toNat s) (fun p hp => by obtain ⟨r, hr, rfl⟩ := List.mem_map.1 hp; exact (hsm r hr).2.2)
   rw [List.length_map] at this
   show rl (wtL _ 0 _ _) ≤ 41
   have h3 : L.length * (3 + 2) ≤ 8 * 5 := Nat.mul_le_mul_right 5 (by omega)
   omega
  ·rw [qeo]; decide) (2 ^ f.vars.toNat)
 have h2 := Nat.pow_le_pow_right (n := 2) (by decide) (show f.vars.toNat ≤ 8 by omega)
 have e : 2 ^ 8 = 256 := by decide
 have h4 : 2 ^ f.vars.toNat * (41 + 1) ≤ 256 * 42 := Nat.mul_le_mul_right 42 (by omega)
 omega
set_option maxRecDepth 100000 in
set_option maxHeartbeats 8000000 in
theorem proofright_any (vf v x : Value) (f : Fm) (L : List Rv) (t : Tr) (w : World) (hf : FmV w vf f) (hl : RvsV w v L) (ht : TrV w x t) :
  Calls Tryz.prog 7 #[vf, v, x] w (qea w (.bool true)) := by
 have HL := qHd hl; clear hl
 obtain ⟨nv, rfl, hn, hv, htp⟩ := hf
 obtain ⟨ao, c, rfl, hc, hc2, _⟩ := hn.shape
 have HF := qHd (show FmV w _ f from ⟨_, rfl, hn, hv, htp⟩)
 have HT := qHd ht
 obtain ⟨tv, tr, ta, tn, tc, rfl⟩ := ht.shape
 obtain ⟨W, hW, hbW, hg1, hg2⟩ := qBx2 w (.cells #[.int .i64 f.vars, .slice ao f.nodes.length c, .int .i64 f.top] 24) (.cells #[.int .i64 tv, .slice ta tn tc, .int .i64 tr] 27)
 obtain ⟨g1, hG1⟩ : ∃ g, g = w.heap.size := ⟨_, rfl⟩
 obtain ⟨g2, hG2⟩ : ∃ g, g = w.heap.size + 1 := ⟨_, rfl⟩
 rw [← hG1] at hg1; rw [← hG2] at hg2
 have HBW := qHd hbW; have G1 := qHd hg1; have G2 := qHd hg2
 obtain ⟨x0, x1, x2⟩ := qay hg1
 obtain ⟨y0, y1, y2⟩ := qay hg2
 rw [hW, hG1] at x0 x1 x2
 rw [hW, hG2] at y0 y1 y2
 clear hbW hg1 hg2 hn hv htp ht
 have HK := qHd (valid41_any _ _ f L W (HF.out.below HBW.out) (HL.out.below HBW.out))
 obtain ⟨vb, hvb⟩ : ∃ vb, validB f L = vb := ⟨_, rfl⟩
 rw [hvb] at HK
 go_enter Tryz.func7, Tryz.ntmps7
 go_wp2_with (with_reducible refine qad ?_)
 rw [← hW, ← hG2, ← hG1]; clear hW hG1 hG2 x0 x1 x2 y0 y1 y2
 refine qap.mk ?_
 (with_reducible refine HK.out.mono ?_); rintro e w1 ⟨rfl, hb1⟩
 have HB := qHd (HBW.out.trans (hb1.mono HBW.out.size))
 have X1 := qHd (qaa G1.out hb1); have X2 := qHd (qaa G2.out hb1)
 clear hb1 HK HBW G1 G2
 cases vb
 ·clear hvb
  go_wp2_with (with_reducible refine qad ?_)
  refine qap.mk ?_
  (with_reducible refine (qcx w1).mono ?_); rintro e wz ⟨rfl, hbz⟩
  have HBz := qHd (HB.out.trans (hbz.mono HB.out.size))
  clear hbz
  go_wp2_with fail
  go_ret
  exact ⟨rfl, HBz.out⟩
 have VP := qHd (validB_parts hvb)
 clear hvb
 have SM := qHd (VP.out.rl3 HL.out)
 obtain ⟨al, cl, rfl, hcl, hcl2, _⟩ := HL.out.shape
 have HF := qHd (HF.out.below HB.out); have HL := qHd (HL.out.below HB.out); have HT := qHd (HT.out.below HB.out)
 have HK := qHd (light_any _ _ f t w1 HF.out HT.out)
 obtain ⟨lb, hlb⟩ : ∃ lb, qfn f t = lb := ⟨_, rfl⟩
 rw [hlb] at HK
 obtain ⟨x0, x1, x2⟩ := qay X1.out
 obtain ⟨y0, y1, y2⟩ := qay X2.out
 go_wp2_with (with_reducible refine qad ?_)
 clear x0 x1 x2 y0 y1 y2
 refine qap.mk ?_
 (with_reducible refine HK.out.mono ?_); rintro e w2 ⟨rfl, hb2⟩
 have HB := qHd (HB.out.trans (hb2.mono HB.out.size))
 have HF := qHd (HF.out.below hb2)
 have HL := qHd (HL.out.below hb2)
 have HT := qHd (HT.out.below hb2)
 have X1 := qHd (qaa X1.out hb2)
 have X2 := qHd (qaa X2.out hb2)
 clear hb2 HK
 cases lb
 ·clear hlb
  go_wp2_with (with_reducible refine qad ?_)
  refine qap.mk ?_
  (with_reducible refine (qcx w2).mono ?_); rintro e wz ⟨rfl, hbz⟩
  have HBz := qHd (HB.out.trans (hbz.mono HB.out.size))
  clear hbz
  go_wp2_with fail
  go_ret
  exact ⟨rfl, HBz.out⟩
 have HLB := qHd hlb; clear hlb
 obtain ⟨p0, p1, _, _⟩ := qbe VP.out.fe
 have HK := qHd (rscheck_any _ t f.vars w2 HT.out ⟨p0, p1⟩)
 obtain ⟨te, hte⟩ : ∃ te, (qbh f.vars t 0 0).2 = te := ⟨_, rfl⟩
 rw [hte] at HK
 have HTE := qHd hte; have HP := qHd (And.intro p0 p1); clear hte p0 p1
 obtain ⟨x0, x1, x2⟩ := qay X1.out
 obtain ⟨y0, y1, y2⟩ := qay X2.out
 go_wp2_with (with_reducible refine qad ?_)
 clear x0 x1 x2 y0 y1 y2
 refine qap.mk ?_
 (with_reducible refine HK.out.mono ?_); rintro e w3 ⟨rfl, hb3⟩
 have HB := qHd (HB.out.trans (hb3.mono HB.out.size))
 have HF := qHd (HF.out.below hb3)
 have HL := qHd (HL.out.below hb3)
 have HT := qHd (HT.out.below hb3)
 have X1 := qHd (qaa X1.out hb3)
 have X2 := qHd (qaa X2.out hb3)
 clear hb3 HK
 by_cases hte : te = 0
 case neg =>
  have hte' : ¬ ((te : Nat) : Int) = 0 := by omega
  have hte2 : (((te : Nat) : Int) != 0) = true := bne_iff_ne.2 hte'
  go_wp2_with (with_reducible refine qad ?_)
  refine qap.mk ?_
  (with_reducible refine (qcx w3).mono ?_); rintro e wz ⟨rfl, hbz⟩
  have HBz := qHd (HB.out.trans (hbz.mono HB.out.size))
  clear hbz
  go_wp2_with fail
  go_ret
  exact ⟨rfl, HBz.out⟩
 subst hte
 have HC := qHd (show cErr f t = 0 by rw [cErr_t VP.out.fe]; exact HTE.out)
 have HFEW := qHd (lightB_few HLB.out HC.out)
 go_wp2_with (with_reducible refine qad ?_)
 refine qap.mk ?_
 (with_reducible refine (qcx w3).mono ?_); rintro e w4 ⟨rfl, hb4⟩
 have HB := qHd (HB.out.trans (hb4.mono HB.out.size))
 have HF := qHd (HF.out.below hb4)
 have HL := qHd (HL.out.below hb4)
 have HT := qHd (HT.out.below hb4)
 have X1 := qHd (qaa X1.out hb4)
 have X2 := qHd (qaa X2.out hb4)
 clear hb4
 have HK := qHd (pverify_any _ _ f t w4 HF.out HT.out)
 obtain ⟨fb, hfb⟩ : ∃ fb, qbj f (qah t 0 0) 0 = fb := ⟨_, rfl⟩
 have VV := qHd (show verV f t = (decide (fb < 0), fb, 0) by unfold verV; rw [if_pos HC.out, hfb])
 rw [VV.out] at HK
 simp only at HK
 have HFB := qHd hfb; clear hfb VV
 obtain ⟨x0, x1, x2⟩ := qay X1.out
 obtain ⟨y0, y1, y2⟩ := qay X2.out
 go_wp2_with (with_reducible refine qad ?_)
 clear x0 x1 x2 y0 y1 y2
 refine qap.mk ?_
 (with_reducible refine HK.out.mono ?_); rintro e w5 ⟨rfl, hb5⟩
 rw [qbi]
 have HB := qHd (HB.out.trans (hb5.mono HB.out.size))
 have HF := qHd (HF.out.below hb5)
 have HL := qHd (HL.out.below hb5)
 have HT := qHd (HT.out.below hb5)
 have X1 := qHd (qaa X1.out hb5)
 have X2 := qHd (qaa X2.out hb5)
 clear hb5 HK
 obtain ⟨se, hse⟩ : ∃ se, sErr f t L = se := ⟨_, rfl⟩
 obtain ⟨ve, hve⟩ : ∃ ve, (valC f t L).2 = ve := ⟨_, rfl⟩
 obtain ⟨vq, hvq⟩ : ∃ vq, (valC f t L).1 = vq := ⟨_, rfl⟩
 obtain ⟨bd, hbd⟩ : ∃ bd, bndV f t L = bd := ⟨_, rfl⟩
 have HSE := qHd hse; have HVE := qHd hve; have HVQ := qHd hvq; have HBD := qHd hbd
 clear hse hve hvq hbd
 have HK := qHd (bounds_any _ _ _ f t L w5 HF.out HT.out HL.out SM.out (fun _ => HFEW.out) se HSE.out)
 rw [HBD.out] at HK
 obtain ⟨l0_0, l0_1, l0_2⟩ := qay X1.out
 try rw [hw5] at l0_0
 try rw [hB5] at l0_0
 try rw [hw5] at l0_1
 try rw [hB5] at l0_1
 try rw [hw5] at l0_2
 try rw [hB5] at l0_2
 obtain ⟨l1_0, l1_1, l1_2⟩ := qay X2.out
 try rw [hw5] at l1_0
 try rw [hB5] at l1_0
 try rw [hw5] at l1_1
 try rw [hB5] at l1_1
 try rw [hw5] at l1_2
 try rw [hB5] at l1_2
 go_wp2_with (with_reducible refine qad ?_)
 clear l0_0 l0_1 l0_2 l1_0 l1_1 l1_2
 refine qap.mk ?_
 (with_reducible refine HK.out.mono ?_); rintro e w6 ⟨v6, rfl, hb6, hn6⟩
 have HB := qHd (HB.out.trans (hb6.mono HB.out.size))
 have HF := qHd (HF.out.below hb6)
 have HL := qHd (HL.out.below hb6)
 have HT := qHd (HT.out.below hb6)
 have X1 := qHd (qaa X1.out hb6)
 have X2 := qHd (qaa X2.out hb6)
 obtain ⟨s6, o6, n6, c6, a6, m6, d6, s6x, o6x, n6x, c6x, a6x, m6x, d6x, rfl⟩ := hn6.shape
 have IB := qHd hn6
 clear hb6 hn6 HK
 obtain ⟨w7, hw7, hb7, b7, hB7, hx7⟩ := qBx5 w6 (.cells #[.bool s6, .slice o6 n6 c6, .slice a6 m6 d6, .bool s6x, .slice o6x n6x c6x, .slice a6x m6x d6x] 56)
 have HB := qHd (HB.out.trans (hb7.mono HB.out.size))
 have HF := qHd (HF.out.below hb7)
 have HL := qHd (HL.out.below hb7)
 have HT := qHd (HT.out.below hb7)
 have IB := qHd (IB.out.below hb7)
 have X1 := qHd (qaa X1.out hb7)
 have X2 := qHd (qaa X2.out hb7)
 have X6 := qHd hx7
 clear hb7 hx7
 have HK := qHd (value_c _ _ _ f t L w7 HF.out HT.out HL.out SM.out (fun _ => HFEW.out) se HSE.out)
 rw [HVE.out, HVQ.out] at HK
 obtain ⟨l0_0, l0_1, l0_2⟩ := qay X1.out
 try rw [hw7] at l0_0
 try rw [hB7] at l0_0
 try rw [hw7] at l0_1
 try rw [hB7] at l0_1
 try rw [hw7] at l0_2
 try rw [hB7] at l0_2
 obtain ⟨l1_0, l1_1, l1_2⟩ := qay X2.out
 try rw [hw7] at l1_0
 try rw [hB7] at l1_0
 try rw [hw7] at l1_1
 try rw [hB7] at l1_1
 try rw [hw7] at l1_2
 try rw [hB7] at l1_2
 obtain ⟨l2_0, l2_1, l2_2, l2_3, l2_4, l2_5⟩ := row6 X6.out
 try rw [hw7] at l2_0
 try rw [hB7] at l2_0
 try rw [hw7] at l2_1
 try rw [hB7] at l2_1
 try rw [hw7] at l2_2
 try rw [hB7] at l2_2
 try rw [hw7] at l2_3
 try rw [hB7] at l2_3
 try rw [hw7] at l2_4
 try rw [hB7] at l2_4
 try rw [hw7] at l2_5
 try rw [hB7] at l2_5
 go_wp2_with (with_reducible refine qad ?_)
 rw [← hw7, ← hB7]
 clear hw7 hB7
 clear l0_0 l0_1 l0_2 l1_0 l1_1 l1_2 l2_0 l2_1 l2_2 l2_3 l2_4 l2_5
 refine qap.mk ?_
 (with_reducible refine HK.out.mono ?_); rintro e w8 ⟨v8, rfl, hb8, hn8⟩
 have HB := qHd (HB.out.trans (hb8.mono HB.out.size))
 have HF := qHd (HF.out.below hb8)
 have HL := qHd (HL.out.below hb8)
 have HT := qHd (HT.out.below hb8)
 have IB := qHd (IB.out.below hb8)
 have X1 := qHd (qaa X1.out hb8)
 have X2 := qHd (qaa X2.out hb8)
 have X6 := qHd (qaa X6.out hb8)
 obtain ⟨s8, o8, n8, c8, a8, m8, d8, rfl⟩ := hn8.shape
 have IV := qHd hn8
 clear hb8 hn8 HK
 obtain ⟨w9, hw9, hb9, b9, hB9, hx9⟩ := qBx5 w8 (.cells #[.bool s8, .slice o8 n8 c8, .slice a8 m8 d8] 54)
 have HB := qHd (HB.out.trans (hb9.mono HB.out.size))
 have HF := qHd (HF.out.below hb9)
 have HL := qHd (HL.out.below hb9)
 have HT := qHd (HT.out.below hb9)
 have IB := qHd (IB.out.below hb9)
 have IV := qHd (IV.out.below hb9)
 have X1 := qHd (qaa X1.out hb9)
 have X2 := qHd (qaa X2.out hb9)
 have X6 := qHd (qaa X6.out hb9)
 have X8 := qHd hx9
 clear hb9 hx9
 by_cases hok : fb < 0
 case neg =>
  have h15 := sErr_bad VP.out HC.out (by rw [HFB.out]; exact hok)
  obtain rfl : se = 15 := by rw [← HSE.out]; exact h15
  have hvb := val_bad h15 (by decide)
  obtain rfl : ve = 15 := by rw [← HVE.out, hvb]
  clear h15 hvb
  have hok' : decide (fb < 0) = false := decide_eq_false hok
  have HK := qHd (is_any 15 15 15 w9 rfl (by decide))
  go_wp2_with (with_reducible refine qad ?_)
  rw [← hw9, ← hB9]
  clear hw9 hB9
  refine qap.mk ?_
  (with_reducible refine HK.out.mono ?_); rintro e w10 ⟨rfl, rfl⟩
  go_wp2_with (with_reducible refine qad ?_)
  refine qap.mk ?_
  (with_reducible refine HK.out.mono ?_); rintro e w11 ⟨rfl, rfl⟩
  go_wp2_with fail
  go_ret
  exact ⟨rfl, HB.out⟩
 have hok' : decide (fb < 0) = true := decide_eq_true hok
 have hs0 := sErr_good VP.out HC.out (by rw [HFB.out]; exact hok)
 obtain rfl : se = 0 := by rw [← HSE.out]; exact hs0
 have HS0 := qHd hs0
 have VC := qHd (val_cases VP.out hs0)
 have EN := qHd (bnd_encl hs0); have BL := qHd (bnd_le hs0); have RL := qHd (bnd_rl hs0 SM.out HFEW.out)
 rw [HBD.out] at EN BL RL VC
 obtain ⟨ch, hch⟩ : ∃ ch, qek f (L.map Rv.q) = ch := ⟨_, rfl⟩
 rw [hch] at EN VC
 clear hs0 hok
 rw [qbi]
 have HK := qHd (chance41_any _ _ f L w9 HF.out HL.out VP.out)
 rw [hch] at HK
 obtain ⟨l0_0, l0_1, l0_2⟩ := qay X1.out
 try rw [hw9] at l0_0
 try rw [hB9] at l0_0
 try rw [hw9] at l0_1
 try rw [hB9] at l0_1
 try rw [hw9] at l0_2
 try rw [hB9] at l0_2
 obtain ⟨l1_0, l1_1, l1_2, l1_3, l1_4, l1_5⟩ := row6 X6.out
 try rw [hw9] at l1_0
 try rw [hB9] at l1_0
 try rw [hw9] at l1_1
 try rw [hB9] at l1_1
 try rw [hw9] at l1_2
 try rw [hB9] at l1_2
 try rw [hw9] at l1_3
 try rw [hB9] at l1_3
 try rw [hw9] at l1_4
 try rw [hB9] at l1_4
 try rw [hw9] at l1_5
 try rw [hB9] at l1_5
 obtain ⟨l2_0, l2_1, l2_2⟩ := qay X8.out
 try rw [hw9] at l2_0
 try rw [hB9] at l2_0
 try rw [hw9] at l2_1
 try rw [hB9] at l2_1
 try rw [hw9] at l2_2
 try rw [hB9] at l2_2
 go_wp2_with (with_reducible refine qad ?_)
 rw [← hw9, ← hB9]
 clear hw9 hB9
 clear l0_0 l0_1 l0_2 l1_0 l1_1 l1_2 l1_3 l1_4 l1_5 l2_0 l2_1 l2_2
 refine qap.mk ?_
 (with_reducible refine HK.out.mono ?_); rintro e w10 ⟨v10, rfl, hb10, hn10⟩
 clear hok'
 have HB := qHd (HB.out.trans (hb10.mono HB.out.size))
 have IB := qHd (IB.out.below hb10)
 have IV := qHd (IV.out.below hb10)
 have X6 := qHd (qaa X6.out hb10)
 have X8 := qHd (qaa X8.out hb10)
 obtain ⟨s10, o10, n10, c10, a10, m10, d10, rfl⟩ := hn10.shape
 have IC := qHd hn10
 clear hb10 hn10 HK HF HL HT X1 X2
 obtain ⟨w11, hw11, hb11, b11, hB11, hx11⟩ := qBx5 w10 (.cells #[.bool s10, .slice o10 n10 c10, .slice a10 m10 d10] 54)
 have HB := qHd (HB.out.trans (hb11.mono HB.out.size))
 have IB := qHd (IB.out.below hb11)
 have IV := qHd (IV.out.below hb11)
 have IC := qHd (IC.out.below hb11)
 have X6 := qHd (qaa X6.out hb11)
 have X8 := qHd (qaa X8.out hb11)
 have X10 := qHd hx11
 clear hb11 hx11
 have HCH := qHd (show rl ch ≤ 39000 by rw [← hch]; exact VP.out.chr SM.out)
 have HK := qHd (contains_any _ bd _ ch w11 (IB.out.is BL.out (by have := RL.out.1; omega) (by have := RL.out.2; omega)) (IC.out.is (by have := HCH.out; omega)) RL.out.1 RL.out.2 HCH.out)
 rw [decide_eq_true (show inS bd ch from EN.out)] at HK
 obtain ⟨l0_0, l0_1, l0_2, l0_3, l0_4, l0_5⟩ := row6 X6.out
 try rw [hw11] at l0_0
 try rw [hB11] at l0_0
 try rw [hw11] at l0_1
 try rw [hB11] at l0_1
 try rw [hw11] at l0_2
 try rw [hB11] at l0_2
 try rw [hw11] at l0_3
 try rw [hB11] at l0_3
 try rw [hw11] at l0_4
 try rw [hB11] at l0_4
 try rw [hw11] at l0_5
 try rw [hB11] at l0_5
 obtain ⟨l1_0, l1_1, l1_2⟩ := qay X10.out
 try rw [hw11] at l1_0
 try rw [hB11] at l1_0
 try rw [hw11] at l1_1
 try rw [hB11] at l1_1
 try rw [hw11] at l1_2
 try rw [hB11] at l1_2
 go_wp2_with (with_reducible refine qad ?_)
 rw [← hw11, ← hB11]
 clear hw11 hB11
 clear l0_0 l0_1 l0_2 l0_3 l0_4 l0_5 l1_0 l1_1 l1_2
 refine qap.mk ?_
 (with_reducible refine HK.out.mono ?_); rintro e w12 ⟨rfl, hb12⟩
 have HB := qHd (HB.out.trans (hb12.mono HB.out.size))
 have IB := qHd (IB.out.below hb12)
 have IV := qHd (IV.out.below hb12)
 have IC := qHd (IC.out.below hb12)
 have X6 := qHd (qaa X6.out hb12)
 have X8 := qHd (qaa X8.out hb12)
 have X10 := qHd (qaa X10.out hb12)
 clear hb12 HK
 rcases VC.out with hv | ⟨hv, hb⟩
 ·obtain rfl : ve = 18 := by rw [← HVE.out, hv]
  have HK := qHd (is_any 18 18 18 w12 rfl (by decide))
  go_wp2_with (with_reducible refine qad ?_)
  refine qap.mk ?_
  (with_reducible refine HK.out.mono ?_); rintro e w13 ⟨rfl, rfl⟩
  go_wp2_with fail
  go_ret
  exact ⟨rfl, HB.out⟩
 ·obtain rfl : ve = 0 := by rw [← HVE.out, hv]
  obtain rfl : vq = ch := by rw [← HVQ.out, hv]
  subst hb
  have HK := qHd (is_any 0 18 18 w12 rfl (by decide))
  rw [show (decide (0 = 18)) = false from rfl] at HK
  rw [qbi] at HK ⊢
  go_wp2_with (with_reducible refine qad ?_)
  refine qap.mk ?_
  (with_reducible refine HK.out.mono ?_); rintro e w13 ⟨rfl, rfl⟩
  have HK := qHd (qfi _ vq _ vq w12 (IV.out.is (by have := HCH.out; omega)) (IC.out.is (by have := HCH.out; omega)) (by have := HCH.out; omega) (by have := HCH.out; omega))
  rw [cq_self] at HK
  obtain ⟨l0, l1, l2⟩ := qay X8.out
  obtain ⟨k0, k1, k2⟩ := qay X10.out
  go_wp2_with (with_reducible refine qad ?_)
  clear l0 l1 l2 k0 k1 k2
  refine qap.mk ?_
  (with_reducible refine HK.out.mono ?_); rintro e w14 ⟨rfl, hb14⟩
  have HB := qHd (HB.out.trans (hb14.mono HB.out.size))
  have IB := qHd (IB.out.below hb14)
  have X6 := qHd (qaa X6.out hb14)
  clear hb14 HK
  have HK := qHd (qfi _ vq _ vq w14 ((qci IB.out).1.is (by show rl vq ≤ 100000; have := HCH.out; omega)) ((qci IB.out).2.is (by show rl vq ≤ 100000; have := HCH.out; omega)) (by have := HCH.out; omega) (by have := HCH.out; omega))
  rw [cq_self] at HK
  obtain ⟨l0, l1, l2, l3, l4, l5⟩ := row6 X6.out
  go_wp2_with (with_reducible refine qad ?_)
  clear l0 l1 l2 l3 l4 l5
  refine qap.mk ?_
  (with_reducible refine HK.out.mono ?_); rintro e w15 ⟨rfl, hb15⟩
  have HB := qHd (HB.out.trans (hb15.mono HB.out.size))
  clear hb15 HK
  go_wp2_with fail
  go_ret
  exact ⟨rfl, HB.out⟩
end Go.Proofs.YthhgfhdmfhnklaaGreatDoor
