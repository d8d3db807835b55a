/-
 The walk of the law ProofNarrows.
 Conditions: each theorem's own.
-/
import Derived.Test.YthhgfhdmfhnklaaGreatDoorMVd3
namespace Go.Proofs.YthhgfhdmfhnklaaGreatDoor
open Go.RowKit Go.ChangeShapes Go.WideShapes

def TrX (gt gb : Nat) (w : World) (x : Value) (t : Tr) : Prop := (∃ w0, Below w0.heap.size w0 w ∧ w0.heap.size ≤ gt ∧ w0.heap.size ≤ gb ∧ TrV w0 x t) ∨ TrH w x t
theorem TrX.tr {gt gb : Nat} {w : World} {x : Value} {t : Tr} (h : TrX gt gb w x t) : TrV w x t := by
 rcases h with ⟨w0, h1, _, _, h4⟩ | h
 ·exact h4.below h1
 ·exact h.tr
theorem keepH_ty {w w' : World} {p off : Nat} {l : List Value} {cs : Array Value} {T : TypeId} (hw : w' = qel w p off l) (hp : w.heap[p]? = some (.cells cs T)) (hT : T ≠ 27) : KeepH w w' := fun i cs' hi _ => by
 refine (qfz hw).block i (Array.getElem?_eq_some_iff.1 hi).1 (fun e => ?_)
 cases e
 rw [hp] at hi
 cases hi; exact hT rfl
set_option maxRecDepth 100000 in
set_option maxHeartbeats 16000000 in
theorem proofnarrows_any (vf v : Value) (f : Fm) (L : List Rv) (K : Int) (w : World) (hf : FmV w vf f) (hl : RvsV w v L) (hK : 0 ≤ K ∧ K < 256) :
  Calls Tryz.prog 8 #[vf, v, .int .u8 K] w (qea w (.bool true)) := by
 obtain ⟨nv, rfl, hn, hv, htp⟩ := hf
 obtain ⟨ao, c, rfl, hc, hc2, _⟩ := hn.shape
 have HF := qHd (show FmV w _ f from ⟨_, rfl, hn, hv, htp⟩)
 have HL := qHd hl
 obtain ⟨W, hW, hbW, g1, hG1, hg1⟩ := qBx5 w (.cells #[.int .i64 f.vars, .slice ao f.nodes.length c, .int .i64 f.top] 24)
 have HBW := qHd hbW; have G1 := qHd hg1
 obtain ⟨x0, x1, x2⟩ := qay hg1
 rw [hW, hG1] at x0 x1 x2
 clear hbW hg1 hn hv htp hl
 have HK := qHd (valid41_any _ _ f L W (HF.out.below HBW.out) (HL.out.below HBW.out))
 obtain ⟨vb, hvb⟩ : ∃ vb, validB f L = vb := ⟨_, rfl⟩
 rw [hvb] at HK
 go_enter Tryz.func8, Tryz.ntmps8
 go_wp2_with (with_reducible refine qad ?_)
 rw [← hW, ← hG1]; clear hW hG1 x0 x1 x2
 refine qap.mk ?_
 (with_reducible refine HK.out.mono ?_); rintro e w1 ⟨rfl, hb1⟩
 have HB := qHd (HBW.out.trans (hb1.mono HBW.out.size))
 have X1 := qHd (qaa G1.out hb1)
 clear hb1 HK HBW G1
 cases vb
 ·clear hvb
  go_wp2_with (with_reducible refine qad ?_)
  refine qap.mk ?_
  (with_reducible refine (qcx w1).mono ?_); rintro e wz ⟨rfl, hbz⟩
  have HBz := qHd (HB.out.trans (hbz.mono HB.out.size))
  clear hbz
  go_wp2_with fail
  go_ret
  exact ⟨rfl, HBz.out⟩
 have VP := qHd (validB_parts hvb)
 clear hvb
 have SM := qHd (VP.out.rl3 HL.out)
 obtain ⟨al, cl, rfl, hcl, hcl2, _⟩ := HL.out.shape
 by_cases h6 : f.vars ≤ 6
 case neg =>
  have h6' : 6 < f.vars := by omega
  obtain ⟨x0, x1, x2⟩ := qay X1.out
  go_wp2_with (with_reducible refine qad ?_)
  clear x0 x1 x2
  refine qap.mk ?_
  (with_reducible refine (qcx w1).mono ?_); rintro e wz ⟨rfl, hbz⟩
  have HBz := qHd (HB.out.trans (hbz.mono HB.out.size))
  clear hbz
  go_wp2_with fail
  go_ret
  exact ⟨rfl, HBz.out⟩
 have h6' : ¬ 6 < f.vars := by omega
 obtain ⟨x0, x1, x2⟩ := qay X1.out
 go_wp2_with (with_reducible refine qad ?_)
 clear x0 x1 x2
 refine qap.mk ?_
 (with_reducible refine (qcx w1).mono ?_); rintro e w2 ⟨rfl, hb2⟩
 have HF := qHd (HF.out.below HB.out); have HL := qHd (HL.out.below HB.out)
 have HB := qHd (HB.out.trans (hb2.mono HB.out.size))
 have HF := qHd (HF.out.below hb2)
 have HL := qHd (HL.out.below hb2)
 have X1 := qHd (qaa X1.out hb2)
 have H6 := qHd h6
 clear hb2 h6 h6'
 obtain ⟨hK0, hK1⟩ := hK
 obtain ⟨n, hn⟩ : ∃ n : Nat, (n : Int) = K.tmod 8 := ⟨(K.tmod 8).toNat, by rw [Int.tmod_eq_emod_of_nonneg hK0]; omega⟩
 have h9 : n ≤ 7 := by rw [Int.tmod_eq_emod_of_nonneg hK0] at hn; omega
 have hn' : K.tmod 8 = (n : Int) := hn.symm
 clear hn
 have M0 := qHd (mk_ok VP.out.fe (n : Int) n rfl (by omega))
 have GT := qHd (GoodT.grown VP.out.fe VP.out.v8 n)
 have HK := qHd (make_f _ f (n : Int) w2 HF.out (by unfold I64; omega) (fun _ => VP.out.v8))
 rw [M0.out.1, M0.out.2] at HK
 obtain ⟨l0_0, l0_1, l0_2⟩ := qay X1.out
 go_wp2_with (with_reducible refine qad ?_)
 clear l0_0 l0_1 l0_2
 refine qap.mk ?_
 (with_reducible refine HK.out.mono ?_); rintro e w3 ⟨v3, rfl, hb3, ht3⟩
 rw [qbi]
 have HB := qHd (HB.out.trans (hb3.mono HB.out.size))
 have HF := qHd (HF.out.below hb3)
 have HL := qHd (HL.out.below hb3)
 have X1 := qHd (qaa X1.out hb3)
 obtain ⟨tv3, tr3, ta3, tn3, tc3, rfl⟩ := ht3.shape
 have HT := qHd ht3
 clear hb3 ht3 HK hK0 hK1 hn' M0
 obtain ⟨t0, ht0⟩ : ∃ t0, grT f n 0 0 = t0 := ⟨_, rfl⟩
 rw [ht0] at HT GT
 clear ht0 h9
 have HB0 := qHd HB.out
 have HB := qHd (Below.refl w3.heap.size w3)
 obtain ⟨w4, hw4, hb4, b4, hB4, hx4⟩ := qBx5 w3 (.cells #[.int .i64 tv3, .slice ta3 tn3 tc3, .int .i64 tr3] 27)
 have HB := qHd (HB.out.trans (hb4.mono HB.out.size))
 have XT := qHd hx4
 clear hb4 hx4
 have l4 : w3.heap.size ≤ b4 := by omega
 have HK := qHd (bounds_any _ _ _ f _ L w4 (HF.out.below HB.out) (HT.out.below HB.out) (HL.out.below HB.out) SM.out (fun _ => GT.out.few H6.out) 0 (GT.out.sErr H6.out VP.out))
 obtain ⟨l0_0, l0_1, l0_2⟩ := qay (qaa X1.out HB.out)
 try rw [hw4] at l0_0
 try rw [hB4] at l0_0
 try rw [hw4] at l0_1
 try rw [hB4] at l0_1
 try rw [hw4] at l0_2
 try rw [hB4] at l0_2
 obtain ⟨l1_0, l1_1, l1_2⟩ := qay XT.out
 try rw [hw4] at l1_0
 try rw [hB4] at l1_0
 try rw [hw4] at l1_1
 try rw [hB4] at l1_1
 try rw [hw4] at l1_2
 try rw [hB4] at l1_2
 go_wp2_with (with_reducible refine qad ?_)
 rw [← hw4, ← hB4]
 clear hw4 hB4
 clear l0_0 l0_1 l0_2 l1_0 l1_1 l1_2
 refine qap.mk ?_
 (with_reducible refine HK.out.mono ?_); rintro e w5 ⟨v5, rfl, hb5, hn5⟩
 rw [qbi]
 have HB := qHd (HB.out.trans (hb5.mono HB.out.size))
 have XT := qHd (qaa XT.out hb5)
 obtain ⟨s5, o5, n5, c5, a5, m5, d5, s5x, o5x, n5x, c5x, a5x, m5x, d5x, rfl⟩ := hn5.shape
 have IB := qHd hn5
 clear hb5 hn5 HK
 have HB5 := qHd HB.out; have XT5 := qHd XT.out
 obtain ⟨w6, hw6, hb6, b6, hB6, hx6⟩ := qBx5 w5 (.cells #[.bool s5, .slice o5 n5 c5, .slice a5 m5 d5, .bool s5x, .slice o5x n5x c5x, .slice a5x m5x d5x] 56)
 have HB := qHd (HB.out.trans (hb6.mono HB.out.size))
 have IB := qHd (IB.out.below hb6)
 have XT := qHd (qaa XT.out hb6)
 have XB := qHd hx6
 clear hb6 hx6
 have l6 : w3.heap.size ≤ b6 := by rw [hB6]; exact HB5.out.size
 have n46 : b4 ≠ b6 := by have := qaw XT5.out; omega
 have HX := qHd (show TrX b4 b6 w6 (.agg #[.int .i64 tv3, .slice ta3 tn3 tc3, .int .i64 tr3]) t0 from .inl ⟨w3, HB.out, l4, l6, HT.out⟩)
 have PT := qHd (show pot f.vars.toNat (qah t0 0 0) + 0 ≤ 63 from (GT.out.size H6.out).2)
 clear HT HB5 XT5
 go_wp2_with (with_reducible first | refine qai ?_ | refine qag ?_)
 rw [← hw6, ← hB6]
 clear hw6 hB6
 refine qap.mk ?_
 go_loopw [52] (fun i' wx => ∃ (q : Nat) (t : Tr) (tv tr : Int) (ta : Option Addr) (tn tc : Nat) (s : Bool) (o : Option Addr) (n c : Nat) (a : Option Addr) (m d : Nat) (sx : Bool) (ox : Option Addr) (nx cx : Nat) (ax : Option Addr) (mx dx : Nat), i' = .int .i64 q ∧ q ≤ 200 ∧
  Hid (Below w3.heap.size w3 wx) ∧ Hid (wx.heap[b4]? = some (.cells #[.int .i64 tv, .slice ta tn tc, .int .i64 tr] 27)) ∧ Hid (wx.heap[b6]? = some (.cells #[.bool s, .slice o n c, .slice a m d, .bool sx, .slice ox nx cx, .slice ax mx dx] 56)) ∧ Hid (TrX b4 b6 wx (.agg #[.int .i64 tv, .slice ta tn tc, .int .i64 tr]) t) ∧ Hid (IsSp wx (.agg #[.bool s, .slice o n c, .slice a m d, .bool sx, .slice ox nx cx, .slice ax mx dx]) (bndV f t L)) ∧ Hid (GoodT f t) ∧ Hid (pot f.vars.toNat (qah t 0 0) + q ≤ 63)) (fun i' _ => 200 - (intOf i').toNat)
 case atStart => exact ⟨0, t0, _, _, _, _, _, _, _, _, _, _, _, _, _, _, _, _, _, _, _, rfl, by decide, HB, XT, XB, HX, IB, GT, PT⟩
 case round =>
  obtain ⟨q, t, tv, tr, ta, tn, tc, s, o, n, c, a, m, d, sx, ox, nx, cx, ax, mx, dx, rfl, hq, HB, XT, XB, HX, IB, GT, PT⟩ := hrel
  obtain ⟨w10, rfl⟩ : ∃ x : World, x = wr := ⟨_, rfl⟩
  have hq63 : q ≤ 63 := by have := PT.out; omega
  have hqz : (q : Int) < 200 := by omega
  have SE := qHd (GT.out.sErr H6.out VP.out)
  have HNS := qHd (narrow_step VP.out H6.out GT.out)
  obtain ⟨rt, hrt⟩ : ∃ rt, (rfV f t L).1 = rt := ⟨_, rfl⟩
  obtain ⟨re, hre⟩ : ∃ re, (rfV f t L).2 = re := ⟨_, rfl⟩
  have HRT := qHd hrt; have HRE := qHd hre
  clear hrt hre
  have HK := qHd (prefine_any _ _ _ f t L w10 (HF.out.below HB.out) HX.out.tr (HL.out.below HB.out) SM.out (fun _ => GT.out.few H6.out) 0 SE.out)
  rw [HRE.out, HRT.out] at HK
  obtain ⟨l0_0, l0_1, l0_2⟩ := qay (qaa X1.out HB.out)
  obtain ⟨l1_0, l1_1, l1_2⟩ := qay XT.out
  go_wp2_with (with_reducible refine qad ?_)
  clear l0_0 l0_1 l0_2 l1_0 l1_1 l1_2
  refine qap.mk ?_
  (with_reducible refine HK.out.mono ?_); rintro e w11 ⟨v11, rfl, hb11, ht11⟩
  have HY := qHd ht11
  have HX := qHd (HX.out.tr.below hb11)
  have HB := qHd (HB.out.trans (hb11.mono HB.out.size))
  have IB := qHd (IB.out.below hb11)
  have XT := qHd (qaa XT.out hb11)
  have XB := qHd (qaa XB.out hb11)
  obtain ⟨tvu, tru, tau, tnu, tcu, rfl⟩ := ht11.tr.shape
  clear hb11 ht11 HK
  rcases HNS.out with ⟨e1, e2⟩ | ⟨u, e1, e2, e3, e4⟩
  ·obtain rfl : re = 17 := by rw [← HRE.out, e1]
   have VC := qHd e2
   clear e1 e2 HNS
   obtain ⟨w12, hw12, hb12, b12, hB12, hx12⟩ := qBx5 w11 (.cells #[.int .i64 tvu, .slice tau tnu tcu, .int .i64 tru] 27)
   have HB := qHd (HB.out.trans (hb12.mono HB.out.size))
   have HX := qHd (HX.out.below hb12)
   have XT := qHd (qaa XT.out hb12)
   have XU := qHd hx12
   clear hb12 hx12
   rw [qbz (show (17 : Nat) ≠ 0 by decide)]
   have HK := qHd (value_c _ _ _ f t L w12 (HF.out.below HB.out) HX.out (HL.out.below HB.out) SM.out (fun _ => GT.out.few H6.out) 0 SE.out)
   rw [VC.out] at HK
   obtain ⟨l0_0, l0_1, l0_2⟩ := qay (qaa X1.out HB.out)
   try rw [hw12] at l0_0
   try rw [hB12] at l0_0
   try rw [hw12] at l0_1
   try rw [hB12] at l0_1
   try rw [hw12] at l0_2
   try rw [hB12] at l0_2
   obtain ⟨l1_0, l1_1, l1_2⟩ := qay XT.out
   try rw [hw12] at l1_0
   try rw [hB12] at l1_0
   try rw [hw12] at l1_1
   try rw [hB12] at l1_1
   try rw [hw12] at l1_2
   try rw [hB12] at l1_2
   go_wp2_with (with_reducible refine qad ?_)
   rw [← hw12, ← hB12]
   clear hw12 hB12
   clear l0_0 l0_1 l0_2 l1_0 l1_1 l1_2
   refine qap.mk ?_
   (with_reducible refine HK.out.mono ?_); rintro e w13 ⟨v13, rfl, hb13, hn13⟩
   rw [qbi]
   have HB := qHd (HB.out.trans (hb13.mono HB.out.size))
   obtain ⟨sv, ov, nv, cv, av, mv, dv, rfl⟩ := hn13.shape
   have IV := qHd hn13
   clear hb13 hn13 HK
   obtain ⟨w14, hw14, hb14, b14, hB14, hx14⟩ := qBx5 w13 (.cells #[.bool sv, .slice ov nv cv, .slice av mv dv] 54)
   have HB := qHd (HB.out.trans (hb14.mono HB.out.size))
   have IV := qHd (IV.out.below hb14)
   have XV := qHd hx14
   clear hb14 hx14
   have HK := qHd (chance41_any _ _ f L w14 (HF.out.below HB.out) (HL.out.below HB.out) VP.out)
   obtain ⟨l0_0, l0_1, l0_2⟩ := qay (qaa X1.out HB.out)
   try rw [hw14] at l0_0
   try rw [hB14] at l0_0
   try rw [hw14] at l0_1
   try rw [hB14] at l0_1
   try rw [hw14] at l0_2
   try rw [hB14] at l0_2
   go_wp2_with (with_reducible refine qad ?_)
   rw [← hw14, ← hB14]
   clear hw14 hB14
   clear l0_0 l0_1 l0_2
   refine qap.mk ?_
   (with_reducible refine HK.out.mono ?_); rintro e w15 ⟨v15, rfl, hb15, hn15⟩
   have HB := qHd (HB.out.trans (hb15.mono HB.out.size))
   have IV := qHd (IV.out.below hb15)
   have XV := qHd (qaa XV.out hb15)
   obtain ⟨sy, oy, ny, cy, ay, my, dy, rfl⟩ := hn15.shape
   have IY := qHd hn15
   clear hb15 hn15 HK
   obtain ⟨w16, hw16, hb16, b16, hB16, hx16⟩ := qBx5 w15 (.cells #[.bool sy, .slice oy ny cy, .slice ay my dy] 54)
   have HB := qHd (HB.out.trans (hb16.mono HB.out.size))
   have IV := qHd (IV.out.below hb16)
   have IY := qHd (IY.out.below hb16)
   have XV := qHd (qaa XV.out hb16)
   have XY := qHd hx16
   clear hb16 hx16
   have HCH := qHd (VP.out.chq SM.out)
   obtain ⟨ch, hch⟩ : ∃ ch, qek f (L.map Rv.q) = ch := ⟨_, rfl⟩
   rw [hch] at IV IY HCH
   clear hch
   have HK := qHd (is_any 17 17 17 w16 rfl (by decide))
   rw [qbz (show (17 : Nat) ≠ 0 by decide), show (((17 : Nat) : Int)) = 17 from rfl] at HK
   go_wp2_with (with_reducible refine qad ?_)
   rw [← hw16, ← hB16]
   clear hw16 hB16
   refine qap.mk ?_
   (with_reducible refine HK.out.mono ?_); rintro e w17 ⟨rfl, rfl⟩
   have HK := qHd (qfi _ ch _ ch w16 (IV.out.is (by have := HCH.out; omega)) (IY.out.is (by have := HCH.out; omega)) (by have := HCH.out; omega) (by have := HCH.out; omega))
   rw [cq_self] at HK
   obtain ⟨l0, l1, l2⟩ := qay XV.out
   obtain ⟨k0, k1, k2⟩ := qay XY.out
   go_wp2_with (with_reducible refine qad ?_)
   clear l0 l1 l2 k0 k1 k2
   refine qap.mk ?_
   (with_reducible refine HK.out.mono ?_); rintro e w18 ⟨rfl, hb18⟩
   have HB := qHd (HB.out.trans (hb18.mono HB.out.size))
   have HBZ := qHd (HB0.out.trans (HB.out.mono HB0.out.size))
   clear hb18 HK
   go_wp2_with fail
   go_ret
   exact ⟨rfl, HBZ.out⟩
  ·have XT11 := qHd XT.out
   obtain rfl : re = 0 := by rw [← HRE.out, e1]
   obtain rfl : u = rt := by rw [← HRT.out, e1]
   have GU := qHd e2; have PU := qHd e3; have SU := qHd e4
   clear e1 e2 e3 e4 HNS HRE HRT
   rw [qbi]
   obtain ⟨w12, hw12, hb12, b12, hB12, hx12⟩ := qBx5 w11 (.cells #[.int .i64 tvu, .slice tau tnu tcu, .int .i64 tru] 27)
   have HB := qHd (HB.out.trans (hb12.mono HB.out.size))
   have IB := qHd (IB.out.below hb12)
   have XT := qHd (qaa XT.out hb12)
   have XB := qHd (qaa XB.out hb12)
   have XU := qHd hx12
   have HY := qHd (HY.out.keep (qcb hb12))
   have NUT := qHd (show b4 < b12 by have := qaw XT11.out; omega)
   clear hb12 hx12 XT11
   have HK := qHd (bounds_any _ _ _ f u L w12 (HF.out.below HB.out) HY.out.tr (HL.out.below HB.out) SM.out (fun _ => GU.out.few H6.out) 0 (GU.out.sErr H6.out VP.out))
   obtain ⟨l0_0, l0_1, l0_2⟩ := qay (qaa X1.out HB.out)
   try rw [hw12] at l0_0
   try rw [hB12] at l0_0
   try rw [hw12] at l0_1
   try rw [hB12] at l0_1
   try rw [hw12] at l0_2
   try rw [hB12] at l0_2
   obtain ⟨l1_0, l1_1, l1_2⟩ := qay XU.out
   try rw [hw12] at l1_0
   try rw [hB12] at l1_0
   try rw [hw12] at l1_1
   try rw [hB12] at l1_1
   try rw [hw12] at l1_2
   try rw [hB12] at l1_2
   go_wp2_with (with_reducible refine qad ?_)
   rw [← hw12, ← hB12]
   clear hw12 hB12
   clear l0_0 l0_1 l0_2 l1_0 l1_1 l1_2
   refine qap.mk ?_
   (with_reducible refine HK.out.mono ?_); rintro e w13 ⟨v13, rfl, hb13, hn13⟩
   rw [qbi]
   have HB := qHd (HB.out.trans (hb13.mono HB.out.size))
   have IB := qHd (IB.out.below hb13)
   have XT := qHd (qaa XT.out hb13)
   have XB := qHd (qaa XB.out hb13)
   have XU := qHd (qaa XU.out hb13)
   obtain ⟨sp, op, np, cp, ap, mp, dp, spx, opx, npx, cpx, apx, mpx, dpx, rfl⟩ := hn13.shape
   have XT13 := qHd XT.out
   have IP := qHd hn13
   have HY := qHd (HY.out.keep (qcb hb13))
   clear hb13 hn13 HK
   obtain ⟨w14, hw14, hb14, b14, hB14, hx14⟩ := qBx5 w13 (.cells #[.bool sp, .slice op np cp, .slice ap mp dp, .bool spx, .slice opx npx cpx, .slice apx mpx dpx] 56)
   have HB := qHd (HB.out.trans (hb14.mono HB.out.size))
   have IB := qHd (IB.out.below hb14)
   have IP := qHd (IP.out.below hb14)
   have XT := qHd (qaa XT.out hb14)
   have XB := qHd (qaa XB.out hb14)
   have XU := qHd (qaa XU.out hb14)
   have XP := qHd hx14
   have HY := qHd (HY.out.keep (qcb hb14))
   clear hb14 hx14
   have NPT := qHd (show b4 < b14 by have := qaw XT13.out; omega)
   clear XT13
   have R0 := qHd (bnd_rl SE.out SM.out (GT.out.few H6.out)); have R1 := qHd (bnd_rl (GU.out.sErr H6.out VP.out) SM.out (GU.out.few H6.out))
   have L0 := qHd (bnd_le SE.out); have L1 := qHd (bnd_le (GU.out.sErr H6.out VP.out))
   have HK := qHd (inside_any _ _ _ _ w14 (IP.out.is L1.out (by have := R1.out.1; omega) (by have := R1.out.2; omega)) (IB.out.is L0.out (by have := R0.out.1; omega) (by have := R0.out.2; omega)) R1.out.1 R1.out.2 R0.out.1 R0.out.2)
   rw [decide_eq_true SU.out] at HK
   obtain ⟨l0_0, l0_1, l0_2, l0_3, l0_4, l0_5⟩ := row6 XB.out
   try rw [hw14] at l0_0
   try rw [hB14] at l0_0
   try rw [hw14] at l0_1
   try rw [hB14] at l0_1
   try rw [hw14] at l0_2
   try rw [hB14] at l0_2
   try rw [hw14] at l0_3
   try rw [hB14] at l0_3
   try rw [hw14] at l0_4
   try rw [hB14] at l0_4
   try rw [hw14] at l0_5
   try rw [hB14] at l0_5
   obtain ⟨l1_0, l1_1, l1_2, l1_3, l1_4, l1_5⟩ := row6 XP.out
   try rw [hw14] at l1_0
   try rw [hB14] at l1_0
   try rw [hw14] at l1_1
   try rw [hB14] at l1_1
   try rw [hw14] at l1_2
   try rw [hB14] at l1_2
   try rw [hw14] at l1_3
   try rw [hB14] at l1_3
   try rw [hw14] at l1_4
   try rw [hB14] at l1_4
   try rw [hw14] at l1_5
   try rw [hB14] at l1_5
   go_wp2_with (with_reducible refine qad ?_)
   rw [← hw14, ← hB14]
   clear hw14 hB14
   clear l0_0 l0_1 l0_2 l0_3 l0_4 l0_5 l1_0 l1_1 l1_2 l1_3 l1_4 l1_5
   refine qap.mk ?_
   (with_reducible refine HK.out.mono ?_); rintro e w15 ⟨rfl, hb15⟩
   have HB := qHd (HB.out.trans (hb15.mono HB.out.size))
   have IP := qHd (IP.out.below hb15)
   have XT := qHd (qaa XT.out hb15)
   have XB := qHd (qaa XB.out hb15)
   have XU := qHd (qaa XU.out hb15)
   have XP := qHd (qaa XP.out hb15)
   have HY := qHd (HY.out.keep (qcb hb15))
   clear hb15 HK IB R0 R1 L0 L1
   go_wp2_with (with_reducible first | refine qad ?_ | refine qai ?_ | refine qaj ?_ | refine qak ?_ | refine qag ?_)
   refine qap.mk ?_
   have nU : b6 ≠ b4 := n46.symm
   have nP : b14 ≠ b4 := by have := NPT.out; omega
   refine wp_two (by kernel_rfl) b12 b14 b4 b6 #[.int .i64 tvu, .slice tau tnu tcu, .int .i64 tru] #[.bool sp, .slice op np cp, .slice ap mp dp, .bool spx, .slice opx npx cpx, .slice apx mpx dpx] _ _ _ _ _ _ _ _ (by decide) (by decide) (by decide) (by decide) (by decide) (by decide) (by decide) (by simp) (by simp) rfl rfl rfl rfl XU.out XP.out XT.out XB.out nP nU Tryz.underlying27 rfl Tryz.underlying56 rfl (by kernel_rfl) (by kernel_rfl) rfl rfl rfl rfl ?_
   intro w19 hp18
   obtain ⟨w16, hw16⟩ : ∃ wa, wa = { w15 with drawn := w15.drawn + 1 } := ⟨_, rfl⟩
   have hb16 : Below w15.heap.size w15 w16 := by rw [hw16]; exact (Below.refl _ _).drew
   rw [← hw16] at hp18
   obtain ⟨w17, hp17⟩ : ∃ wa, wa = qel w16 b4 0 [.int .i64 tvu, .slice tau tnu tcu, .int .i64 tru] := ⟨_, rfl⟩
   have hp19 : w19 = qel w17 b6 0 [.bool sp, .slice op np cp, .slice ap mp dp, .bool spx, .slice opx npx cpx, .slice apx mpx dpx] := by rw [hp17]; exact hp18
   clear hw16 hp18
   have HB := qHd (HB.out.trans (hb16.mono HB.out.size))
   have IP := qHd (IP.out.below hb16)
   have XT := qHd (qaa XT.out hb16)
   have XB := qHd (qaa XB.out hb16)
   have HY := qHd (HY.out.keep (qcb hb16))
   clear hb16 XU XP
   have HY := qHd (HY.out.keep (qes hp17 XT.out (by simp)))
   have IP := qHd (putL_SI hp17 IP.out XT.out noWf)
   have XB := qHd (qbr hp17 XB.out nU)
   have XT := qHd (show w17.heap[b4]? = some (.cells #[.int .i64 tvu, .slice tau tnu tcu, .int .i64 tru] 27) by rw [hp17]; exact qbd XT.out)
   have HB := qHd (qbl hp17 HB.out l4)
   clear hp17
   have HY := qHd (HY.out.keep (keepH_ty hp19 XB.out (by decide)))
   have IP := qHd (putL_SI hp19 IP.out XB.out noW6)
   have XT := qHd (qbr hp19 XT.out n46)
   have XB := qHd (show w19.heap[b6]? = some (.cells #[.bool sp, .slice op np cp, .slice ap mp dp, .bool spx, .slice opx npx cpx, .slice apx mpx dpx] 56) by rw [hp19]; exact putL_66 XB.out)
   have HB := qHd (qbl hp19 HB.out l6)
   have PQ := qHd (show pot f.vars.toNat (qah u 0 0) + (q + 1) ≤ 63 by have := PT.out; have := PU.out; omega)
   clear hp19
   go_wp2_with fail
   go_roundw
   case rel => exact ⟨q + 1, u, _, _, _, _, _, _, _, _, _, _, _, _, _, _, _, _, _, _, _, by go_num, by omega, HB, XT, XB, qHd (.inr HY.out), IP, GU, PQ⟩
   case measure => simp [intOf]; omega
end Go.Proofs.YthhgfhdmfhnklaaGreatDoor
