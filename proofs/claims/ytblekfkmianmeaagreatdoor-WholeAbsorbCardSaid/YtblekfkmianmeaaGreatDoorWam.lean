/-
 The walk of the law WholeAbsorb.
 Conditions: each theorem's own.
-/
import Derived.Test.YtblekfkmianmeaaGreatDoorMAa1
namespace Go.Proofs.YtblekfkmianmeaaGreatDoor
open Go.RowKit Go.ChangeShapes Go.WideShapes

theorem cq_same (q : Rat) : cq q q = 0 := by
 have h1 := (cq_le q q).2 Rat.le_refl
 have h2 := (cq_ge q q).2 Rat.le_refl
 omega
set_option maxRecDepth 100000 in
set_option maxHeartbeats 64000000 in
theorem wholeabsorb_any (vc : Value) (st s0 : Int) (ms : List MvR) (dn : List Bool) (K : Int) (w : World) (hc : ChR w vc st s0 ms dn) (hK : 0 ≤ K ∧ K < 256) :
  Calls Tryz.prog 3 #[vc, .int .u8 K] w (RetV w (.bool true)) := by
 have HC := qHd hc
 obtain ⟨mo, mc, bo, bc, rfl, hM, hB, hmc, hbc, hi1, hi2⟩ := hc
 have HM := qHd hM; have HBL := qHd hB
 clear hM hB
 obtain ⟨hK0, hK1⟩ := hK
 obtain ⟨k, hk⟩ : ∃ k : Nat, (k : Int) = K.tmod 8 := ⟨(K.tmod 8).toNat, by rw [Int.tmod_eq_emod_of_nonneg hK0]; omega⟩
 have h7 : k ≤ 7 := by rw [Int.tmod_eq_emod_of_nonneg hK0] at hk; omega
 have HKM := qHd hk.symm
 clear hk
 obtain ⟨W, hW⟩ : ∃ z0, z0 = w.alloc (.cells #[.int .i64 st, .int .i64 s0, .slice mo ms.length mc, .slice bo dn.length bc] 25) := ⟨_, rfl⟩
 have b_W : Below w.heap.size w W := by rw [hW]; exact qBA _ _
 have s_W : W.heap.size = w.heap.size + 1 := by rw [hW]; exact Array.size_push (xs := w.heap) _
 have hg_gc : W.heap[w.heap.size]? = some (.cells #[.int .i64 st, .int .i64 s0, .slice mo ms.length mc, .slice bo dn.length bc] 25) := (by rw [hW]; exact heap_alloc_new w _)
 have HBW := qHd (show Below w.heap.size w W from b_W)
 obtain ⟨gc, hgc⟩ : ∃ g, g = w.heap.size := ⟨_, rfl⟩
 rw [← hgc] at hg_gc
 have l_gc : w.heap.size ≤ gc ∧ gc < W.heap.size := by rw [s_W]; omega
 have G_gc := qHd hg_gc
 obtain ⟨gcx0, gcx1, gcx2, gcx3⟩ := qbn hg_gc
 rw [hW, hgc] at gcx0 gcx1 gcx2 gcx3
 clear hg_gc b_W s_W
 have HK := qHd (awake54_any W)
 go_enter Tryz.func3, Tryz.ntmps3
 go_wp2_with (with_reducible refine qag ?_)
 rw [← hW, ← hgc]
 clear hW hgc
 clear gcx0 gcx1 gcx2 gcx3
 refine qal.mk ?_
 (with_reducible refine HK.out.mono ?_); rintro e w1 ⟨rfl, hb1⟩
 have HB := qHd hb1; clear hb1 HK
 obtain ⟨gcx0, gcx1, gcx2, gcx3⟩ := qbn (qab G_gc.out HB.out)
 have HK := qHd (few54_any _ st s0 ms dn w1 ((HC.out.below HBW.out).below HB.out))
 go_wp2_with (with_reducible refine qag ?_)
 clear gcx0 gcx1 gcx2 gcx3
 refine qal.mk ?_
 (with_reducible refine HK.out.mono ?_); rintro e w2 ⟨b, rfl, hb2, himp⟩
 have HB := qHd (HB.out.trans (hb2.mono HB.out.size))
 have HIMP := qHd himp
 clear hb2 HK himp
 cases b
 ·have HK := qHd (awake54_any w2)
  go_wp2_with (with_reducible refine qag ?_)
  refine qal.mk ?_
  (with_reducible refine HK.out.mono ?_); rintro e w3 ⟨rfl, hb3⟩
  have HB := qHd (HB.out.trans (hb3.mono HB.out.size))
  clear hb3 HK
  go_wp2_with fail
  go_ret
  exact ⟨rfl, HBW.out.trans (HB.out.mono HBW.out.size)⟩
 ·obtain ⟨hgood, hsmall, h10⟩ := HIMP.out rfl
  have hs1 := small_sm1 HM.out hgood hsmall
  have hgc := good_gch HM.out hgood hsmall h10
  have hci := good_chi HC.out hgood
  have hst1 := hgood.st1; have hs00 := hgood.s00
  obtain ⟨n, rfl⟩ : ∃ n : Nat, st = n := ⟨st.toNat, by omega⟩
  obtain ⟨sn, rfl⟩ : ∃ sn : Nat, s0 = sn := ⟨s0.toNat, by omega⟩
  rw [Int.toNat_natCast, Int.toNat_natCast] at hgc hci
  obtain ⟨mv, hmv⟩ : ∃ mv, mv = ms.map cvM := ⟨_, rfl⟩
  have LML := qHd (show ms.length = mv.length by rw [hmv, List.length_map])
  have hmi := good_mvs HM.out hgood
  rw [← hmv] at hgc hci hs1 hmi
  have HMI := qHd (hmi.below HBW.out); have HBL := qHd (HBL.out.below HBW.out)
  clear hmi
  have S1 := qHd hs1; have GG := qHd hgc; have HCI := qHd (hci.below HBW.out)
  have hn0 := hgc.n0; have hn10 := hgc.n10; have hsn : sn < n := hgc.ok.st
  have hl60 : ms.length ≤ 60 := hsmall.len
  clear hgood hsmall h10 hs1 hgc hci hst1 hs00 hmv HIMP HC HM hi1 hi2
  have HK := qHd (times_any _ n sn mv dn w2 (HCI.out.below HB.out) GG.out)
  obtain ⟨gcx0, gcx1, gcx2, gcx3⟩ := qbn (qab G_gc.out HB.out)
  go_wp2_with (with_reducible refine qag ?_)
  clear gcx0 gcx1 gcx2 gcx3
  refine qal.mk ?_
  (with_reducible refine HK.out.mono ?_); rintro e w3 (⟨rfl, hb3, _⟩ | ⟨tv, T, rfl, hb3, hF, hT, hrl, hall⟩)
  ·have HB := qHd (HB.out.trans (hb3.mono HB.out.size))
   clear hb3 HK
   have e17 : errV 17 = .iface 34 (.int .i64 17) := by rw [errV_pos (by decide)]; rfl
   have hs := is_any 17 17 17 w3 rfl (by decide)
   rw [e17] at hs
   rw [e17]
   clear e17
   have HK := qHd hs; clear hs
   go_wp2_with (with_reducible refine qag ?_)
   refine qal.mk ?_
   (with_reducible refine HK.out.mono ?_); rintro e w4 ⟨rfl, rfl⟩
   go_wp2_with fail
   go_ret
   exact ⟨rfl, HBW.out.trans (HB.out.mono HBW.out.size)⟩
  obtain ⟨gt, ct, rfl, hct, hct2, _, _⟩ := hF.addr hn0
  have HB := qHd (HB.out.trans (hb3.mono HB.out.size)); have FT := qHd hF; have HT := qHd hT; have HRL := qHd hrl; have HALL := qHd hall
  clear hb3 HK hF hT hrl hall
  have HK := qHd (fastest_any _ n sn mv dn w3 (HCI.out.below HB.out) GG.out)
  obtain ⟨gcx0, gcx1, gcx2, gcx3⟩ := qbn (qab G_gc.out HB.out)
  go_wp2_with (with_reducible refine qag ?_)
  clear gcx0 gcx1 gcx2 gcx3
  refine qal.mk ?_
  (with_reducible refine HK.out.mono ?_); rintro e w4 ⟨f, hf, vf, rfl, hb4, hIf⟩
  obtain ⟨sf, of, nf, cf, af, mf, df, rfl⟩ := hIf.shape
  have HB := qHd (HB.out.trans (hb4.mono HB.out.size)); have FT := qHd (FT.out.below hb4); have RF := qHd hf; have IF := qHd hIf
  clear hb4 HK hIf hf
  obtain ⟨w5, hw5⟩ : ∃ z0, z0 = w4.alloc (.cells #[.bool sf, .slice of nf cf, .slice af mf df] 37) := ⟨_, rfl⟩
  have hbw5 : Below w4.heap.size w4 w5 := by rw [hw5]; exact qBA _ _
  obtain ⟨gf, hgf⟩ : ∃ g, g = w4.heap.size := ⟨_, rfl⟩
  have hxw5 : w5.heap[gf]? = some (.cells #[.bool sf, .slice of nf cf, .slice af mf df] 37) := by rw [hw5, hgf]; exact heap_alloc_new _ _
  go_wp2_with (with_reducible first | refine qag ?_ | refine qah ?_ | refine qbb ?_ | refine qbc ?_ | refine qae ?_)
  rw [← hw5, ← hgf]
  clear hw5 hgf
  have LF := qHd (show rl f ≤ 100000 from Nat.le_trans (RF.out.rl GG.out.sm) (by decide))
  have LGT := qHd (show gt < w5.heap.size from Nat.lt_of_lt_of_le (FT.out.lt (g := gt) rfl).2 hbw5.size)
  have GF := qHd hxw5; have IF := qHd (IF.out.below hbw5); have FT := qHd (FT.out.below hbw5)
  have HB := qHd (qac HB.out (Nat.le_refl _) hbw5)
  clear hxw5 hbw5
  refine qal.mk ?_
  refine qaj (A := ?aaR7) (w := w5) 4 [] (by kernel_rfl) (Fl [KEq (.agg #[.bool sf, .slice of nf cf, .slice af mf df]), KIs (((1 : Int) : Rat)), KIs (f + 1), KNew w5.heap.size #[.bool false, .slice none 0 0, .slice none 0 0] 37]) (fun i => i == 3) (by kernel_rfl) ?hqR7 (qdk (qad (kEq _) (qad (kIs _) (qad (kIs _) (qad (kNew _ _ _) qdj))))) ?haR7 ?stR7 ?tlR7
  case hqR7 =>
   intro c a d v w h
   first | (simp only [Exit.then] at h ⊢; exact h) | (simp only [Exit.inBlock, Exit.then] at h ⊢; exact h) | exact h
  case haR7 =>
   intro vals
   simp only [qat, qby, if_true, Act.put, List.setIfInBounds_toArray, List.set_cons_zero, List.set_cons_succ, List.getElem?_toArray, List.getElem?_cons_zero, List.getElem?_cons_succ, Option.bind_some]
   exact rfl
  case stR7 =>
   simp only [List.take_succ_cons, List.take_zero]
   refine qaa rfl rfl ?_ (qaa rfl rfl ?_ (qaa rfl rfl ?_ (qaa rfl rfl ?_ (qau))))
   ·intro vals w1 hb hd
    obtain ⟨e0, e1, e2⟩ := row3 (qab GF.out hb)
    refine qSv (.agg #[.bool sf, .slice of nf cf, .slice af mf df]) (by go_simp) (qLk rfl rfl)
   ·intro vals w1 hb hd
    have HS := qHd (ofq_any 1 w1 (by decide) (by decide))
    refine qar (by go_simp; first | done | exact ⟨⟨rfl, rfl⟩, rfl⟩) ?_
    (with_reducible refine HS.out.mono ?_); rintro e w2 ⟨v, rfl, hb2, hn⟩
    exact ⟨v, rfl, qai hb2 hn (fun h => by cases h)⟩
   ·intro vals w1 hb hd
    have d1 : KIs (((1 : Int) : Rat)) (vals 1) w1 := hd 1 (by kernel_rfl)
    have hs := qcz _ f _ ((1 : Int) : Rat) w1 ((IF.out.below hb).is LF.out) (IsR.is d1 (by decide +kernel))
    have HS2 := qHd hs; clear hs
    rw [show vals 0 = .agg #[.bool sf, .slice of nf cf, .slice af mf df] from hd 0 (by kernel_rfl)]
    refine qar (by go_simp; first | done | exact ⟨⟨rfl, rfl⟩, rfl⟩) ?_
    (with_reducible refine HS2.out.mono ?_); rintro e w2 ⟨v, rfl, hb2, hn⟩
    exact ⟨v, rfl, qai hb2 hn (fun h => by cases h)⟩
   ·intro vals w1 hb hd
    refine qaf (v := .pointer (some ⟨w1.heap.size, 0, none⟩)) (w' := w1.alloc (.cells #[.bool false, .slice none 0 0, .slice none 0 0] 37)) (by go_simp) (qai ((Below.refl _ _).alloc (Nat.le_refl _) _) ⟨_, hb.size, rfl, heap_alloc_new _ _⟩ (fun _ => ⟨rfl, by simp⟩))
  case tlR7 =>
   intro vals w6 hb6 hf hdis
   simp only [List.drop_succ_cons, List.drop_zero]
   have hn : IsR w6 (vals 2) (f + 1) := hf 2 (by decide)
   obtain ⟨gr, hgr, er, hxr⟩ : KNew w5.heap.size #[.bool false, .slice none 0 0, .slice none 0 0] 37 (vals 3) w6 := hf 3 (by decide)
   rw [er]
   obtain ⟨r, hr⟩ : ∃ r, r = vals 2 := ⟨_, rfl⟩
   rw [← hr] at hn ⊢
   clear hf hdis hr er
   obtain ⟨sr, or, nr, cr, ar, mr, dr, rfl⟩ := hn.shape
   have lgr : W.heap.size ≤ gr := Nat.le_trans HB.out.size hgr
   have FT := qHd (FT.out.below hb6)
   have ngt : gt ≠ gr := by have h5 := (show gt < w5.heap.size from LGT.out); omega
   have HB := qHd (qac HB.out (Nat.le_refl _) hb6)
   have IR := qHd hn; have GR := qHd hxr
   clear hb6 hn hxr hgr GF IF LF LGT
   go_wp2_with (with_reducible refine qan ?_)
   refine qba gr 0 [.bool sr, .slice or nr cr, .slice ar mr dr] GR.out rfl rfl (Nat.le_refl 3) (by kernel_rfl) rfl ?_
   intro w7 hp7
   have st7 : Stp w6 w7 (some gr) := stp_putL hp7 GR.out noW3
   have GR := qHd (show w7.heap[gr]? = some (.cells #[.bool sr, .slice or nr cr, .slice ar mr dr] 37) by rw [hp7]; exact putL_3q GR.out)
   have IR := qHd (st7.I IR.out)
   have FT := qHd (FT.out.stp st7 (fun g hg e => ngt (by have h1 : gt = g := Option.some.inj hg; have h2 : gr = g := Option.some.inj e; omega)))
   have HB := qHd (st7.low HB.out HB.out.size lgr)
   clear st7 hp7 ngt
   have hkm := HKM.out
   have hkz : (k : Int) ≤ 7 := by omega
   obtain ⟨xr0, xr1, xr2⟩ := row3 GR.out
   have HK := qHd (first54 (.agg #[.int .i64 (n : Nat), .int .i64 (sn : Nat), .slice mo ms.length mc, .slice bo dn.length bc]) (.agg #[.bool sr, .slice or nr cr, .slice ar mr dr]) n sn mv dn f k w7 (HCI.out.below HB.out) GG.out RF.out IR.out h7)
   obtain ⟨gcx0, gcx1, gcx2, gcx3⟩ := qbn (qab G_gc.out HB.out)
   go_wp2_with (with_reducible refine qag ?_)
   clear xr0 xr1 xr2 hkm
   clear gcx0 gcx1 gcx2 gcx3
   refine qal.mk ?_
   (with_reducible refine HK.out.mono ?_); rintro e w8 ⟨v8, rfl, hb8, hF8⟩
   obtain ⟨gq, cq8, rfl, hcq, hcq2, _, _⟩ := hF8.addr (Nat.succ_pos k)
   have HB := qHd (HB.out.trans (hb8.mono HB.out.size)); have FT := qHd (FT.out.below hb8); have GR := qHd (qab GR.out hb8); have IR := qHd (IR.out.below hb8)
   have FQ := qHd hF8
   clear hb8 hF8 HK
   obtain ⟨FL, hFL⟩ : ∃ FL : Nat → Rat, FL = (fun k => failed (dnf dn) ((qbp (dnf dn) (f + 1) mv sn) k) n) := ⟨_, rfl⟩
   rw [← hFL] at FQ
   obtain ⟨PS, hPS⟩ : ∃ PS, PS = psumT (dnf dn) (f + 1) mv sn n := ⟨_, rfl⟩
   have PSS := qHd (show ∀ i, PS (i + 1) = PS i + (1 - FL i) from fun i => by rw [hPS, hFL]; rfl)
   have PS0 := qHd (show PS 0 = 0 by rw [hPS]; rfl)
   have PSR := qHd (show ∀ i, i ≤ 8 → rl (PS i) ≤ 13000 from fun i hi => by rw [hPS]; exact Nat.le_trans (part_rl GG.out.ok GG.out.sm RF.out hn10 i hi) (by omega))
   have hf0 := RF.out.nonneg GG.out.sm
   have PSL := qHd (show PS k ≤ (f + 1) * T sn by rw [hPS]; exact psumT_le GG.out.ok (show 0 < f + 1 by grind) (fun i => RF.out.all GG.out.sm GG.out.ok i) HT.out k)
   have FLR := qHd (show ∀ i, i ≤ 8 → rl (FL i) ≤ 1400 from fun i hi => by rw [hFL]; exact failed_rl GG.out.ok GG.out.sm RF.out hi hn10)
   have RR := qHd (RF.out.rl1 GG.out.sm)
   clear hFL hPS hf0
   have hkk : ((((k + 1 : Nat)) : Int) != (k : Int) + 1) = false := by rw [bne_eq_false_iff_eq]; omega
   have hkc : (k : Int) ≤ (cq8 : Int) := by omega
   have hkc1 : (k : Int) + 1 ≤ (cq8 : Int) := by omega
   obtain ⟨w9, hw9⟩ : ∃ z0, z0 = w8.alloc (.cells #[.bool false, .slice none 0 0, .slice none 0 0] 37) := ⟨_, rfl⟩
   have hb9 : Below w8.heap.size w8 w9 := by rw [hw9]; exact qBA _ _
   obtain ⟨gS, hgS⟩ : ∃ g, g = w8.heap.size := ⟨_, rfl⟩
   have hx9 : w9.heap[gS]? = some (.cells #[.bool false, .slice none 0 0, .slice none 0 0] 37) := by rw [hw9, hgS]; exact heap_alloc_new _ _
   have lgS : W.heap.size ≤ gS := by rw [hgS]; exact HB.out.size
   have ntS : gt ≠ gS := by have := (FT.out.lt (g := gt) rfl).2; omega
   have nrS : gr ≠ gS := by have := qdc GR.out; omega
   have nqS : gq ≠ gS := by have := (FQ.out.lt (g := gq) rfl).2; omega
   obtain ⟨gcx0, gcx1, gcx2, gcx3⟩ := qbn (qab G_gc.out HB.out)
   go_wp2_with (with_reducible first | refine qah ?_ | refine qae ?_)
   rw [← hw9, ← hgS]
   clear hw9 hgS hkk
   clear gcx0 gcx1 gcx2 gcx3
   have HB := qHd (qac HB.out (Nat.le_refl _) hb9); have FT := qHd (FT.out.below hb9); have FQ := qHd (FQ.out.below hb9); have GR := qHd (qab GR.out hb9); have IR := qHd (IR.out.below hb9)
   have GS := qHd hx9
   have IS := qHd (show IsR w9 (.agg #[.bool false, .slice none 0 0, .slice none 0 0]) (PS 0) by rw [PS0.out]; exact isR_zero w9)
   clear hb9 hx9
   refine qal.mk ?_
   go_loopw [82] (fun i' wx => ∃ (i : Nat) (su : Bool) (ou : Option Addr) (nu cu : Nat) (au : Option Addr) (mu du : Nat), i ≤ k ∧ i' = .int .i64 i ∧ Hid (wx.heap[gS]? = some (.cells #[.bool su, .slice ou nu cu, .slice au mu du] 37)) ∧ Hid (IsR wx (.agg #[.bool su, .slice ou nu cu, .slice au mu du]) (PS i)) ∧ Hid (FrL wx w2.heap.size (.slice (some ⟨gt, 0, none⟩) n ct) n T) ∧ Hid (FrL wx w7.heap.size (.slice (some ⟨gq, 0, none⟩) (k + 1) cq8) (k + 1) FL) ∧ Hid (wx.heap[gr]? = some (.cells #[.bool sr, .slice or nr cr, .slice ar mr dr] 37)) ∧ Hid (IsR wx (.agg #[.bool sr, .slice or nr cr, .slice ar mr dr]) (f + 1)) ∧ Hid (Below W.heap.size W wx)) (fun i' _ => k - (intOf i').toNat)
   case atStart => exact ⟨0, _, _, _, _, _, _, _, Nat.zero_le _, rfl, GS, IS, FT, FQ, GR, IR, HB⟩
   case round =>
    clear GS IS FT FQ GR IR HB
    obtain ⟨i, su, ou, nu, cu, au, mu, du, hi, rfl, GS, IS, FT, FQ, GR, IR, HB⟩ := hrel
    obtain ⟨wo, rfl⟩ : ∃ wo : World, wo = wr := ⟨_, rfl⟩
    by_cases hlt : i < k
    ·have hltz : (i : Int) < (k : Int) := by omega
     obtain ⟨sx, ox, nx, cx, ax, mx, dx, x0, x1, x2, hIx⟩ := FQ.out.at (j := i) (by omega)
     obtain ⟨w2x, hw2x⟩ : ∃ z0, z0 = wo.alloc (.cells #[.bool sx, .slice ox nx cx, .slice ax mx dx] 37) := ⟨_, rfl⟩
     have hbw2x : Below wo.heap.size wo w2x := by rw [hw2x]; exact qBA _ _
     obtain ⟨gx, hgx⟩ : ∃ g, g = wo.heap.size := ⟨_, rfl⟩
     have hxw2x : w2x.heap[gx]? = some (.cells #[.bool sx, .slice ox nx cx, .slice ax mx dx] 37) := by rw [hw2x, hgx]; exact heap_alloc_new _ _
     go_wp2_with (with_reducible first | refine qag ?_ | refine qah ?_ | refine qbb ?_ | refine qbc ?_ | refine qae ?_)
     rw [← hw2x, ← hgx]
     clear hw2x hgx x0 x1 x2
     have GX := qHd hxw2x; have IX := qHd (hIx.below hbw2x)
     have GS := qHd (qab GS.out hbw2x); have IS := qHd (IS.out.below hbw2x); have FT := qHd (FT.out.below hbw2x); have FQ := qHd (FQ.out.below hbw2x); have GR := qHd (qab GR.out hbw2x); have IR := qHd (IR.out.below hbw2x)
     have HB := qHd (qac HB.out (Nat.le_refl _) hbw2x)
     have LPS := qHd (show rl (PS i) ≤ 100000 from Nat.le_trans (PSR.out i (by omega)) (by decide)); have LFL := qHd (show rl (FL i) ≤ 100000 from Nat.le_trans (FLR.out i (by omega)) (by decide))
     have LSB := qHd (show rl (1 - FL i) ≤ 100000 from by
      have h1 := rl_sub 1 (FL i); have h2 := FLR.out i (by omega); have h3 : rl (1 : Rat) ≤ 1 := rl_sm8 1 (by decide); omega)
     clear hxw2x hbw2x hIx
     refine qal.mk ?_
     refine qaj (A := ?aaR16) (w := w2x) 5 [] (by kernel_rfl) (Fl [KEq (.agg #[.bool su, .slice ou nu cu, .slice au mu du]), KIs (((1 : Int) : Rat)), KEq (.agg #[.bool sx, .slice ox nx cx, .slice ax mx dx]), KIs (1 - FL i), KIs (PS i + (1 - FL i))]) (fun i => false) (by kernel_rfl) ?hqR16 (qdk (qad (kEq _) (qad (kIs _) (qad (kEq _) (qad (kIs _) (qad (kIs _) qdj)))))) ?haR16 ?stR16 ?tlR16
     case hqR16 =>
      intro c a d v w h
      first | (simp only [Exit.then] at h ⊢; exact h) | (simp only [Exit.inBlock, Exit.then] at h ⊢; exact h) | exact h
     case haR16 =>
      intro vals
      simp only [qat, qby, if_true, Act.put, List.setIfInBounds_toArray, List.set_cons_zero, List.set_cons_succ, List.getElem?_toArray, List.getElem?_cons_zero, List.getElem?_cons_succ, Option.bind_some]
      exact rfl
     case stR16 =>
      simp only [List.take_succ_cons, List.take_zero]
      refine qaa rfl rfl ?_ (qaa rfl rfl ?_ (qaa rfl rfl ?_ (qaa rfl rfl ?_ (qaa rfl rfl ?_ (qau)))))
      ·intro vals w1 hb hd
       obtain ⟨e0, e1, e2⟩ := row3 (qab GS.out hb)
       refine qSv (.agg #[.bool su, .slice ou nu cu, .slice au mu du]) (by go_simp) (qLk rfl rfl)
      ·intro vals w1 hb hd
       have HS := qHd (ofq_any 1 w1 (by decide) (by decide))
       refine qar (by go_simp; first | done | exact ⟨⟨rfl, rfl⟩, rfl⟩) ?_
       (with_reducible refine HS.out.mono ?_); rintro e w2 ⟨v, rfl, hb2, hn⟩
       exact ⟨v, rfl, qai hb2 hn (fun h => by cases h)⟩
      ·intro vals w1 hb hd
       obtain ⟨e0, e1, e2⟩ := row3 (qab GX.out hb)
       refine qSv (.agg #[.bool sx, .slice ox nx cx, .slice ax mx dx]) (by go_simp) (qLk rfl rfl)
      ·intro vals w1 hb hd
       have d1 : KIs (((1 : Int) : Rat)) (vals 1) w1 := hd 1 (by kernel_rfl)
       have hs := subq_any _ ((1 : Int) : Rat) _ (FL i) w1 (IsR.is d1 (by decide +kernel)) ((IX.out.below hb).is LFL.out)
       have HS2 := qHd hs; clear hs
       rw [show vals 2 = .agg #[.bool sx, .slice ox nx cx, .slice ax mx dx] from hd 2 (by kernel_rfl)]
       refine qar (by go_simp; first | done | exact ⟨⟨rfl, rfl⟩, rfl⟩) ?_
       (with_reducible refine HS2.out.mono ?_); rintro e w2 ⟨v, rfl, hb2, hn⟩
       exact ⟨v, rfl, qai hb2 hn (fun h => by cases h)⟩
      ·intro vals w1 hb hd
       have d3 : KIs (1 - FL i) (vals 3) w1 := hd 3 (by kernel_rfl)
       have hs := qcz _ (PS i) _ (1 - FL i) w1 ((IS.out.below hb).is LPS.out) (IsR.is d3 LSB.out)
       have HS2 := qHd hs; clear hs
       rw [show vals 0 = .agg #[.bool su, .slice ou nu cu, .slice au mu du] from hd 0 (by kernel_rfl)]
       refine qar (by go_simp; first | done | exact ⟨⟨rfl, rfl⟩, rfl⟩) ?_
       (with_reducible refine HS2.out.mono ?_); rintro e w2 ⟨v, rfl, hb2, hn⟩
       exact ⟨v, rfl, qai hb2 hn (fun h => by cases h)⟩
     case tlR16 =>
      intro vals w6x hb6 hf hdis
      simp only [List.drop_succ_cons, List.drop_zero]
      have hn : IsR w6x (vals 4) (PS (i + 1)) := by rw [PSS.out]; exact hf 4 (by decide)
      obtain ⟨r, hr⟩ : ∃ r, r = vals 4 := ⟨_, rfl⟩
      rw [← hr] at hn ⊢
      clear hf hdis hr
      obtain ⟨sz, oz, nz, cz, az, mz, dz, rfl⟩ := hn.shape
      have GS := qHd (qab GS.out hb6); have FT := qHd (FT.out.below hb6); have FQ := qHd (FQ.out.below hb6); have GR := qHd (qab GR.out hb6); have IR := qHd (IR.out.below hb6)
      have HB := qHd (qac HB.out (Nat.le_refl _) hb6)
      have IZ := qHd hn
      clear hb6 hn GX IX IS
      go_wp2_with (with_reducible refine qan ?_)
      refine qba gS 0 [.bool sz, .slice oz nz cz, .slice az mz dz] GS.out rfl rfl (Nat.le_refl 3) (by kernel_rfl) rfl ?_
      intro wz hpz
      have stz : Stp w6x wz (some gS) := stp_putL hpz GS.out noW3
      have GS := qHd (show wz.heap[gS]? = some (.cells #[.bool sz, .slice oz nz cz, .slice az mz dz] 37) by rw [hpz]; exact putL_3q GS.out)
      have IZ := qHd (stz.I IZ.out); have IR := qHd (stz.I IR.out); have GR := qHd (stz.heap GR.out (fun e => nrS (Option.some.inj e).symm))
      have FT := qHd (FT.out.stp stz (fun g hg e => ntS (by have h1 : gt = g := Option.some.inj hg; have h2 : gS = g := Option.some.inj e; omega)))
      have FQ := qHd (FQ.out.stp stz (fun g hg e => nqS (by have h1 : gq = g := Option.some.inj hg; have h2 : gS = g := Option.some.inj e; omega)))
      have HB := qHd (stz.low HB.out HB.out.size lgS)
      clear stz hpz
      go_wp2_with fail
      go_roundw
      case rel => exact ⟨i + 1, _, _, _, _, _, _, _, by omega, by go_num, GS, IZ, FT, FQ, GR, IR, HB⟩
      case measure => simp [intOf]; omega
    ·have hik : i = k := by omega
     have hltz : ¬ ((i : Int) < (k : Int)) := by omega
     have IS := qHd (show IsR wo (.agg #[.bool su, .slice ou nu cu, .slice au mu du]) (PS k) by rw [← hik]; exact IS.out)
     have LPS := qHd (show rl (PS k) ≤ 13000 from PSR.out k (by omega))
     clear hik FQ
     go_wp2_with (with_reducible first | refine qag ?_ | refine qah ?_ | refine qbb ?_ | refine qbc ?_ | refine qae ?_)
     refine qal.mk ?_
     obtain ⟨st, ot, nt, ctt, att, mt, dt, t0, t1, t2, hIt⟩ := FT.out.at (j := sn) hsn
     have IT := qHd hIt; have CTT := qHd (And.intro t0 (And.intro t1 t2))
     have hsnz : (sn : Int) < (n : Int) := by omega
     have GGC := qHd (qab G_gc.out HB.out)
     have LT := qHd (HRL.out sn)
     have LRT := qHd (show rl ((f + 1) * T sn) ≤ 40000 from Nat.le_trans (rl_mul _ _) (by have := RR.out; have := HRL.out sn; omega))
     obtain ⟨cz0, hcz⟩ : ∃ cz0, cz0 = cq (PS k) ((f + 1) * T sn) := ⟨_, rfl⟩
     have hcz0 : ¬ ((0 : Int) < cz0) := by rw [hcz]; have := (cq_le (PS k) ((f + 1) * T sn)).2 PSL.out; omega
     have HCZ := qHd hcz
     clear hIt t0 t1 t2 hcz
     refine qaj (A := ?aaR18) (w := wo) 9 [] (by kernel_rfl) (Fl [KEq (.agg #[.bool su, .slice ou nu cu, .slice au mu du]), KEq (.agg #[.bool sr, .slice or nr cr, .slice ar mr dr]), KEq (.slice (some ⟨gt, 0, none⟩) n ct), KEq (.pointer (some ⟨gc, 1, none⟩)), KEq (.int .i64 (sn : Nat)), KEq (.pointer (some ⟨gt, sn * 3, none⟩)), KEq (.agg #[.bool st, .slice ot nt ctt, .slice att mt dt]), KIs ((f + 1) * T sn), KEq (.int .i64 cz0)]) (fun i => false) (by kernel_rfl) ?hqR18 (qdk (qad (kEq _) (qad (kEq _) (qad (kEq _) (qad (kEq _) (qad (kEq _) (qad (kEq _) (qad (kEq _) (qad (kIs _) (qad (kEq _) qdj)))))))))) ?haR18 ?stR18 ?tlR18
     case hqR18 =>
      intro c a d v w h
      first | (simp only [Exit.then] at h ⊢; exact h) | (simp only [Exit.inBlock, Exit.then] at h ⊢; exact h) | exact h
     case haR18 =>
      intro vals
      simp only [qat, qby, if_true, Act.put, List.setIfInBounds_toArray, List.set_cons_zero, List.set_cons_succ, List.getElem?_toArray, List.getElem?_cons_zero, List.getElem?_cons_succ, Option.bind_some]
      exact rfl
     case stR18 =>
      simp only [List.take_succ_cons, List.take_zero]
      refine qaa rfl rfl ?_ (qaa rfl rfl ?_ (qaa rfl rfl ?_ (qaa rfl rfl ?_ (qaa rfl rfl ?_ (qaa rfl rfl ?_ (qaa rfl rfl ?_ (qaa rfl rfl ?_ (qaa rfl rfl ?_ (qau)))))))))
      ·intro vals w1 hb hd
       obtain ⟨e0, e1, e2⟩ := row3 (qab GS.out hb)
       refine qSv (.agg #[.bool su, .slice ou nu cu, .slice au mu du]) (by go_simp) (qLk rfl rfl)
      ·intro vals w1 hb hd
       obtain ⟨e0, e1, e2⟩ := row3 (qab GR.out hb)
       refine qSv (.agg #[.bool sr, .slice or nr cr, .slice ar mr dr]) (by go_simp) (qLk rfl rfl)
      ·intro vals w1 hb hd
       refine qSv (.slice (some ⟨gt, 0, none⟩) n ct) (by go_simp) (qLk rfl rfl)
      ·intro vals w1 hb hd
       refine qSv (.pointer (some ⟨gc, 1, none⟩)) (by go_simp) (qLk rfl rfl)
      ·intro vals w1 hb hd
       obtain ⟨gcx0, gcx1, gcx2, gcx3⟩ := qbn (qab GGC.out hb)
       rw [show vals 3 = .pointer (some ⟨gc, 1, none⟩) from hd 3 (by kernel_rfl)]
       refine qSv (.int .i64 (sn : Nat)) (by go_simp) (qLk rfl rfl)
      ·intro vals w1 hb hd
       rw [show vals 2 = .slice (some ⟨gt, 0, none⟩) n ct from hd 2 (by kernel_rfl)]
       rw [show vals 4 = .int .i64 (sn : Nat) from hd 4 (by kernel_rfl)]
       refine qSv (.pointer (some ⟨gt, sn * 3, none⟩)) (by go_simp) (qLk rfl rfl)
      ·intro vals w1 hb hd
       obtain ⟨e0, e1, e2⟩ := qax CTT.out hb
       rw [show vals 5 = .pointer (some ⟨gt, sn * 3, none⟩) from hd 5 (by kernel_rfl)]
       refine qSv (.agg #[.bool st, .slice ot nt ctt, .slice att mt dt]) (by go_simp) (qLk rfl rfl)
      ·intro vals w1 hb hd
       have d1 : KEq (.agg #[.bool sr, .slice or nr cr, .slice ar mr dr]) (vals 1) w1 := hd 1 (by kernel_rfl)
       have d6 : KEq (.agg #[.bool st, .slice ot nt ctt, .slice att mt dt]) (vals 6) w1 := hd 6 (by kernel_rfl)
       have HS := qHd (mulq_any _ (f + 1) _ (T sn) w1 ((IR.out.below hb).is (Nat.le_trans RR.out (by decide))) ((IT.out.below hb).is (Nat.le_trans LT.out (by decide))))
       have z1 : vals 1 = _ := d1
       rw [z1]; clear z1
       have z6 : vals 6 = _ := d6
       rw [z6]; clear z6
       refine qar (by go_simp; first | done | exact ⟨⟨rfl, rfl⟩, rfl⟩) ?_
       (with_reducible refine HS.out.mono ?_); rintro e w2 ⟨v, rfl, hb2, hn⟩
       exact ⟨v, rfl, qai hb2 hn (fun h => by cases h)⟩
      ·intro vals w1 hb hd
       have d7 : KIs ((f + 1) * T sn) (vals 7) w1 := hd 7 (by kernel_rfl)
       have hs := cmpq_any _ (PS k) _ ((f + 1) * T sn) w1 ((IS.out.below hb).is (Nat.le_trans LPS.out (by decide))) (IsR.is d7 (Nat.le_trans LRT.out (by decide))) (Nat.le_trans LPS.out (by decide)) LRT.out
       rw [← HCZ.out] at hs
       have HS2 := qHd hs; clear hs
       rw [show vals 0 = .agg #[.bool su, .slice ou nu cu, .slice au mu du] from hd 0 (by kernel_rfl)]
       refine qar (by go_simp; first | done | exact ⟨⟨rfl, rfl⟩, rfl⟩) ?_
       (with_reducible refine HS2.out.mono ?_); rintro e w2 ⟨rfl, hb2⟩
       exact ⟨_, rfl, qai hb2 rfl (fun h => by cases h)⟩
     case tlR18 =>
      intro vals w10 hb10 hf hdis
      simp only [List.drop_succ_cons, List.drop_zero]
      have z8 : vals 8 = _ := hf 8 (by decide)
      rw [z8]
      have FT := qHd (FT.out.below hb10)
      have HB := qHd (qac HB.out (Nat.le_refl _) hb10)
      clear z8 hf hdis hb10 GS GR IR IS IT CTT LT LRT LPS HCZ GGC
      clear PSL PSS PS0 PSR FLR RR RF
      obtain ⟨w11, hw11⟩ : ∃ z0, z0 = w10.alloc (.cells #[.int .i64 (n : Nat), .int .i64 (sn : Nat), .slice mo ms.length mc, .slice bo dn.length bc] 25) := ⟨_, rfl⟩
      have hb11 : Below w10.heap.size w10 w11 := by rw [hw11]; exact qBA _ _
      obtain ⟨gT, hgT⟩ : ∃ g, g = w10.heap.size := ⟨_, rfl⟩
      have hx11 : w11.heap[gT]? = some (.cells #[.int .i64 (n : Nat), .int .i64 (sn : Nat), .slice mo ms.length mc, .slice bo dn.length bc] 25) := by rw [hw11, hgT]; exact heap_alloc_new _ _
      have lgT : w10.heap.size ≤ gT := by omega
      obtain ⟨gcx0, gcx1, gcx2, gcx3⟩ := qbn (qab G_gc.out HB.out)
      go_wp2_with (with_reducible refine qaz 22 ?_)
      rw [← hw11, ← hgT]
      clear hw11 hgT
      clear gcx0 gcx1 gcx2 gcx3
      refine qcc gT 2 hx11 rfl rfl (Nat.lt_succ_of_lt (Nat.lt_succ_self 2)) (by kernel_rfl) ?_
      intro w12 hp12
      have GT := qHd (show w12.heap[gT]? = some (.cells #[.int .i64 (n : Nat), .int .i64 (sn : Nat), .slice none 0 0, .slice bo dn.length bc] 25) by rw [hp12]; simp [putL, World.setCell, Array.getElem?_modify, hx11])
      have HBT := qHd (putLb hp12 hb11 lgT)
      have ML := qHd (show MvL w12 w10.heap.size (.slice none 0 0) (qcd (mv.take 0)) from MvL.nil _ _)
      clear hp12 hx11 hb11
      have HBZ := qHd (HB.out.trans (HBT.out.mono HB.out.size))
      obtain ⟨gcx0, gcx1, gcx2, gcx3⟩ := qbn (qab G_gc.out HBZ.out)
      go_wp2_with (with_reducible first | refine qah ?_ | refine qae ?_)
      clear gcx0 gcx1 gcx2 gcx3
      clear HBZ
      refine qal.mk ?_
      go_loopw [107] (fun i' wx => ∃ (j : Nat) (tv : Value), j ≤ ms.length ∧ i' = .int .i64 j ∧ Hid (wx.heap[gT]? = some (.cells #[.int .i64 (n : Nat), .int .i64 (sn : Nat), tv, .slice bo dn.length bc] 25)) ∧ Hid (MvL wx w10.heap.size tv (qcd (mv.take j))) ∧ Hid (tv.ownBlock ≠ some gT) ∧ Hid (Below w10.heap.size w10 wx)) (fun i' _ => ms.length - (intOf i').toNat)
      case atStart => exact ⟨0, _, Nat.zero_le _, rfl, GT, ML, qHd (fun e => by cases e), HBT⟩
      case round =>
       clear GT ML HBT
       obtain ⟨j, tv, hj, rfl, GT, ML, NT, HBT⟩ := hrel
       obtain ⟨wo, rfl⟩ : ∃ wo : World, wo = wr := ⟨_, rfl⟩
       have HBZ := qHd (HB.out.trans (HBT.out.mono HB.out.size))
       by_cases hlt : j < ms.length
       ·have hltz : (j : Int) < (ms.length : Int) := by omega
        obtain ⟨m, hm⟩ : ∃ m, mv[j]? = some m := ⟨mv[j]'(by have := LML.out; omega), List.getElem?_eq_getElem _⟩
        obtain ⟨mb, moff, rfl, hmb, hl2, hat⟩ := (HMI.out.below HBZ.out).at (by omega)
        clear hl2
        obtain ⟨sm, om, nm, cm, am, mm, dm, m0, m1, m2, m3, m4, hIm⟩ := hat j m hm
        clear hat
        obtain ⟨w2b, hw2b⟩ : ∃ z0, z0 = wo.alloc (.cells #[.int .i64 (m.a : Nat), .int .i64 (m.b : Nat), .bool sm, .slice om nm cm, .slice am mm dm] 45) := ⟨_, rfl⟩
        have hb2b : Below wo.heap.size wo w2b := by rw [hw2b]; exact qBA _ _
        obtain ⟨gm, hgm⟩ : ∃ g, g = wo.heap.size := ⟨_, rfl⟩
        have hx2b : w2b.heap[gm]? = some (.cells #[.int .i64 (m.a : Nat), .int .i64 (m.b : Nat), .bool sm, .slice om nm cm, .slice am mm dm] 45) := by rw [hw2b, hgm]; exact heap_alloc_new _ _
        go_wp2_with (with_reducible first | refine qag ?_ | refine qah ?_ | refine qbb ?_ | refine qbc ?_ | refine qae ?_)
        rw [← hw2b, ← hgm]
        clear hw2b hgm m0 m1 m2 m3 m4
        have LM := qHd (show rl m.r ≤ 100000 from Nat.le_trans (rate_rl GG.out.sm (List.mem_of_getElem? hm)) (by decide))
        have HTK := qHd (twice_take mv hm)
        have GM := qHd hx2b; have IM := qHd (hIm.below hb2b); have GT := qHd (qab GT.out hb2b); have ML := qHd (ML.out.below hb2b); have HBT := qHd (qac HBT.out (Nat.le_refl _) hb2b)
        clear hx2b hb2b hIm hm hmb
        obtain ⟨xs, hxs, hxat⟩ := ML.out
        have hxl : (qcd (mv.take j)).length ≤ 1000000 := by unfold qcd; rw [List.length_map, List.length_take]; omega
        obtain ⟨tto, tc, rfl, htc, htc2, _⟩ := qbd hxs.1
        have HXS := qHd (And.intro hxs hxat)
        clear hxs hxat ML
        refine qal.mk ?_
        refine qaj (A := ?aaR25) (w := w2b) 13 [] (by kernel_rfl) (Fl [KEq (.pointer (some ⟨gT, 2, none⟩)), KEq (.slice tto (qcd (mv.take j)).length tc), KEq (.pointer (some ⟨gm, 0, none⟩)), KEq (.int .i64 (m.a : Nat)), KEq (.pointer (some ⟨gm, 1, none⟩)), KEq (.int .i64 (m.b : Nat)), KEq (.pointer (some ⟨gm, 2, none⟩)), KEq (.agg #[.bool sm, .slice om nm cm, .slice am mm dm]), KEq (.pointer (some ⟨gm, 2, none⟩)), KEq (.agg #[.bool sm, .slice om nm cm, .slice am mm dm]), KIs (m.r + m.r), KMv ⟨m.a, m.b, m.r + m.r⟩, KM1 w2b.heap.size ⟨m.a, m.b, m.r + m.r⟩]) (fun i => false) (by kernel_rfl) ?hqR25 (qdk (qad (kEq _) (qad (kEq _) (qad (kEq _) (qad (kEq _) (qad (kEq _) (qad (kEq _) (qad (kEq _) (qad (kEq _) (qad (kEq _) (qad (kEq _) (qad (kIs _) (qad (kMv _) (qad (kM1 _ _) qdj)))))))))))))) ?haR25 ?stR25 ?tlR25
        case hqR25 =>
         intro c a d v w h
         first | (simp only [Exit.then] at h ⊢; exact h) | (simp only [Exit.inBlock, Exit.then] at h ⊢; exact h) | exact h
        case haR25 =>
         intro vals
         simp only [qat, qby, if_true, Act.put, List.setIfInBounds_toArray, List.set_cons_zero, List.set_cons_succ, List.getElem?_toArray, List.getElem?_cons_zero, List.getElem?_cons_succ, Option.bind_some]
         exact rfl
        case stR25 =>
         simp only [List.take_succ_cons, List.take_zero]
         refine qaa rfl rfl ?_ (qaa rfl rfl ?_ (qaa rfl rfl ?_ (qaa rfl rfl ?_ (qaa rfl rfl ?_ (qaa rfl rfl ?_ (qaa rfl rfl ?_ (qaa rfl rfl ?_ (qaa rfl rfl ?_ (qaa rfl rfl ?_ (qaa rfl rfl ?_ (qaa rfl rfl ?_ (qaa rfl rfl ?_ (qau)))))))))))))
         ·intro vals w1 hb hd
          refine qSv (.pointer (some ⟨gT, 2, none⟩)) (by go_simp) (qLk rfl rfl)
         ·intro vals w1 hb hd
          obtain ⟨e0, e1, e2, e3⟩ := qbn (qab GT.out hb)
          rw [show vals 0 = .pointer (some ⟨gT, 2, none⟩) from hd 0 (by kernel_rfl)]
          refine qSv (.slice tto (qcd (mv.take j)).length tc) (by go_simp) (qLk rfl rfl)
         ·intro vals w1 hb hd
          refine qSv (.pointer (some ⟨gm, 0, none⟩)) (by go_simp) (qLk rfl rfl)
         ·intro vals w1 hb hd
          obtain ⟨e0, e1, e2, e3, e4⟩ := qbz (qab GM.out hb)
          rw [show vals 2 = .pointer (some ⟨gm, 0, none⟩) from hd 2 (by kernel_rfl)]
          refine qSv (.int .i64 (m.a : Nat)) (by go_simp) (qLk rfl rfl)
         ·intro vals w1 hb hd
          refine qSv (.pointer (some ⟨gm, 1, none⟩)) (by go_simp) (qLk rfl rfl)
         ·intro vals w1 hb hd
          obtain ⟨e0, e1, e2, e3, e4⟩ := qbz (qab GM.out hb)
          rw [show vals 4 = .pointer (some ⟨gm, 1, none⟩) from hd 4 (by kernel_rfl)]
          refine qSv (.int .i64 (m.b : Nat)) (by go_simp) (qLk rfl rfl)
         ·intro vals w1 hb hd
          refine qSv (.pointer (some ⟨gm, 2, none⟩)) (by go_simp) (qLk rfl rfl)
         ·intro vals w1 hb hd
          obtain ⟨e0, e1, e2, e3, e4⟩ := qbz (qab GM.out hb)
          rw [show vals 6 = .pointer (some ⟨gm, 2, none⟩) from hd 6 (by kernel_rfl)]
          refine qSv (.agg #[.bool sm, .slice om nm cm, .slice am mm dm]) (by go_simp) (qLk rfl rfl)
         ·intro vals w1 hb hd
          refine qSv (.pointer (some ⟨gm, 2, none⟩)) (by go_simp) (qLk rfl rfl)
         ·intro vals w1 hb hd
          obtain ⟨e0, e1, e2, e3, e4⟩ := qbz (qab GM.out hb)
          rw [show vals 8 = .pointer (some ⟨gm, 2, none⟩) from hd 8 (by kernel_rfl)]
          refine qSv (.agg #[.bool sm, .slice om nm cm, .slice am mm dm]) (by go_simp) (qLk rfl rfl)
         ·intro vals w1 hb hd
          have d7 : KEq (.agg #[.bool sm, .slice om nm cm, .slice am mm dm]) (vals 7) w1 := hd 7 (by kernel_rfl)
          have d9 : KEq (.agg #[.bool sm, .slice om nm cm, .slice am mm dm]) (vals 9) w1 := hd 9 (by kernel_rfl)
          have HS := qHd (qcz _ m.r _ m.r w1 ((IM.out.below hb).is LM.out) ((IM.out.below hb).is LM.out))
          have z7 : vals 7 = _ := d7
          rw [z7]; clear z7
          have z9 : vals 9 = _ := d9
          rw [z9]; clear z9
          refine qar (by go_simp; first | done | exact ⟨⟨rfl, rfl⟩, rfl⟩) ?_
          (with_reducible refine HS.out.mono ?_); rintro e w2 ⟨v, rfl, hb2, hn⟩
          exact ⟨v, rfl, qai hb2 hn (fun h => by cases h)⟩
         ·intro vals w1 hb hd
          have d3 : KEq (.int .i64 (m.a : Nat)) (vals 3) w1 := hd 3 (by kernel_rfl)
          have d5 : KEq (.int .i64 (m.b : Nat)) (vals 5) w1 := hd 5 (by kernel_rfl)
          have d10 : KIs (m.r + m.r) (vals 10) w1 := hd 10 (by kernel_rfl)
          rw [show vals 3 = _ from d3, show vals 5 = _ from d5]
          have hn : IsR w1 (vals 10) (m.r + m.r) := d10
          obtain ⟨sz, oz, nz, cz, az, mz, dz, ez⟩ := hn.shape
          rw [ez] at hn ⊢
          refine qaf (v := .agg #[.int .i64 (m.a : Nat), .int .i64 (m.b : Nat), .bool sz, .slice oz nz cz, .slice az mz dz]) (w' := w1) (by go_simp) (qai (Below.refl _ _) ⟨sz, oz, nz, cz, az, mz, dz, rfl, hn⟩ (fun h => by cases h))
         ·intro vals w1 hb hd
          have d11 : KMv ⟨m.a, m.b, m.r + m.r⟩ (vals 11) w1 := hd 11 (by kernel_rfl)
          obtain ⟨sz, oz, nz, cz, az, mz, dz, ev, hn⟩ := d11
          rw [ev]
          refine qaf (v := .slice (some ⟨w1.heap.size, 0, none⟩) 1 1) (w' := w1.alloc (.cells #[.int .i64 (m.a : Nat), .int .i64 (m.b : Nat), .bool sz, .slice oz nz cz, .slice az mz dz] 45)) (by go_simp) (qai ((Below.refl _ _).alloc (Nat.le_refl _) _) ⟨w1.heap.size, sz, oz, nz, cz, az, mz, dz, hb.size, rfl, heap_alloc_new _ _, hn.below ((Below.refl _ _).alloc (Nat.le_refl _) _)⟩ (fun h => by cases h))
        case tlR25 =>
         intro vals w8t hb8 hf hdis
         simp only [List.drop_succ_cons, List.drop_zero]
         have z1 : vals 1 = _ := hf 1 (by decide)
         obtain ⟨gz, sz, oz, nz, cz, az, mz, dz, hgz, ev, hxz, hnz⟩ : KM1 w2b.heap.size ⟨m.a, m.b, m.r + m.r⟩ (vals 12) w8t := hf 12 (by decide)
         rw [z1, ev]
         clear z1 hf hdis ev hgz
         obtain ⟨hxs, hxat⟩ := HXS.out
         have hxs := qaq hxs hb8
         have hxat := fun (j' : Nat) x (h : (qcd (mv.take j))[j']? = some x) => (hxat j' x h).stp (qca hb8)
         have GT := qHd (qab GT.out hb8); have HBT := qHd (qac HBT.out (Nat.le_refl _) hb8)
         clear hb8 GM IM HXS LM
         go_wp2_with (with_reducible refine qbf ?_)
         refine qbo w10.heap.size Tryz.moveTy rfl noU5 (by decide) _ (qcd (mv.take j)).length xs [.int .i64 (m.a : Nat), .int .i64 (m.b : Nat), .bool sz, .slice oz nz cz, .slice az mz dz] gz 45 rfl rfl hxs hxz rfl rfl noU5 hxs.noU hxl (by decide) HBT.out.size ?_
         intro v9 w9t ho9 hg9 hfr
         have st9 := stp_own hxs hg9
         have ML := qHd (MvL.app (m := ⟨m.a, m.b, m.r + m.r⟩) hxs hxat hnz ho9 st9)
         have NT9 := qHd (hfr gT (qdc GT.out) NT.out)
         have HBT := qHd (qbm.low hxs hg9 HBT.out HBT.out.size)
         have GT := qHd (st9.heap GT.out NT.out)
         obtain ⟨o9, c9, rfl, hc9, hc92, _⟩ := qbd ho9.1
         clear hxs hxat hxz hnz ho9 hg9 hfr st9
         go_wp2_with (with_reducible refine qaz 22 ?_)
         refine qcc gT 2 GT.out rfl rfl (Nat.lt_succ_of_lt (Nat.lt_succ_self 2)) (by kernel_rfl) ?_
         intro wz hpz
         have stz : Stp w9t wz (some gT) := stp_putL hpz GT.out noW4c
         have GT := qHd (show wz.heap[gT]? = some (.cells #[.int .i64 (n : Nat), .int .i64 (sn : Nat), .slice o9 ((qcd (mv.take j)).length + 1) c9, .slice bo dn.length bc] 25) by rw [hpz]; simp [putL, World.setCell, Array.getElem?_modify, GT.out])
         have ML := qHd (show MvL wz w10.heap.size (.slice o9 ((qcd (mv.take j)).length + 1) c9) (qcd (mv.take (j + 1))) by rw [← HTK.out]; exact ML.out.stp stz (fun g hg e => NT9.out (by rw [hg, ← e])))
         have HBT := qHd (stz.low HBT.out HBT.out.size lgT)
         clear stz hpz
         go_wp2_with fail
         go_roundw
         case rel => exact ⟨j + 1, _, by omega, by go_num, GT, ML, NT9, HBT⟩
         case measure => simp [intOf]; omega
       ·have hj' : j = ms.length := by omega
        have hltz : ¬ ((j : Int) < (ms.length : Int)) := by omega
        have ML := qHd (show MvL wo w10.heap.size tv (qcd mv) by have := ML.out; rwa [hj', LML.out, List.take_length] at this)
        have FT := qHd (FT.out.below HBT.out)
        clear hj'
        obtain ⟨xs, hxs, _⟩ := ML.out
        obtain ⟨tto, tc, rfl, htc, htc2, _⟩ := qbd hxs.1
        clear hxs
        have hch := ChI.of (n := n) (s0 := sn) ML.out.mvs (HBL.out.below HBZ.out)
        have HK := qHd (times_any _ n sn (qcd mv) dn wo hch (gch_twice GG.out S1.out))
        clear hch
        obtain ⟨gtx0, gtx1, gtx2, gtx3⟩ := qbn GT.out
        go_wp2_with (with_reducible refine qag ?_)
        clear gtx0 gtx1 gtx2 gtx3
        refine qal.mk ?_
        (with_reducible refine HK.out.mono ?_); rintro e w13 (⟨rfl, hb13, hno⟩ | ⟨hv, T2, rfl, hb13, hF2, hT2, hrl2, _⟩)
        ·exact absurd (fun i hi => ends_twice.2 (HALL.out i (reach_twice.1 hi))) hno
        obtain ⟨gh, ch, rfl, hch, hch2, _, _⟩ := hF2.addr hn0
        have FH := qHd hF2; have FT := qHd (FT.out.below hb13); have HB := qHd (HBZ.out.trans (hb13.mono HBZ.out.size))
        have HLF := qHd (fun i => half_twice GG.out.ok HALL.out HT.out hT2 i); have HR2 := qHd hrl2
        clear hb13 hF2 hT2 hrl2 HK GT ML HBT HBZ NT
        obtain ⟨gcx0, gcx1, gcx2, gcx3⟩ := qbn (qab G_gc.out HB.out)
        go_wp2_with (with_reducible first | refine qah ?_ | refine qae ?_)
        clear gcx0 gcx1 gcx2 gcx3
        refine qal.mk ?_
        obtain ⟨B2, hB2⟩ : ∃ B2, B2 = wo.heap.size := ⟨_, rfl⟩
        rw [← hB2] at FH
        clear hB2
        go_loopw [143] (fun i' wx => ∃ (s : Nat), s ≤ n ∧ i' = .int .i64 s ∧ Hid (FrL wx w2.heap.size (.slice (some ⟨gt, 0, none⟩) n ct) n T) ∧ Hid (FrL wx B2 (.slice (some ⟨gh, 0, none⟩) n ch) n T2) ∧ Hid (Below W.heap.size W wx)) (fun i' _ => n - (intOf i').toNat)
        case atStart => exact ⟨0, Nat.zero_le _, rfl, FT, FH, HB⟩
        case round =>
         clear FT FH HB
         obtain ⟨s, hs, rfl, FT, FH, HB⟩ := hrel
         obtain ⟨wq, rfl⟩ : ∃ wq : World, wq = wr := ⟨_, rfl⟩
         by_cases hlt : s < n
         ·have hltz : (s : Int) < (n : Int) := by omega
          obtain ⟨sx, ox, nx, cx, ax, mx, dx, x0, x1, x2, hIx⟩ := FH.out.at (j := s) hlt
          obtain ⟨sy, oy, ny, cy, ay, my, dy, y0, y1, y2, hIy⟩ := FT.out.at (j := s) hlt
          have IX := qHd hIx; have CX := qHd (And.intro x0 (And.intro x1 x2)); have IY := qHd hIy; have CY := qHd (And.intro y0 (And.intro y1 y2))
          have LX := qHd (HR2.out s); have LY := qHd (HRL.out s)
          have EQ := qHd (HLF.out s)
          have HSZ := qHd hltz
          have LXX := qHd (show rl (T2 s + T2 s) ≤ 40000 from by have h1 := rl_add (T2 s) (T2 s); have h2 := HR2.out s; omega)
          clear hIx x0 x1 x2 hIy y0 y1 y2
          go_wp2_with (with_reducible first | refine qag ?_ | refine qah ?_ | refine qbb ?_ | refine qbc ?_ | refine qae ?_)
          refine qal.mk ?_
          refine qaj (A := ?aaR33) (w := wq) 14 [] (by kernel_rfl) (Fl [KEq (.slice (some ⟨gh, 0, none⟩) n ch), KEq (.int .i64 (s : Nat)), KEq (.pointer (some ⟨gh, s * 3, none⟩)), KEq (.agg #[.bool sx, .slice ox nx cx, .slice ax mx dx]), KEq (.slice (some ⟨gh, 0, none⟩) n ch), KEq (.int .i64 (s : Nat)), KEq (.pointer (some ⟨gh, s * 3, none⟩)), KEq (.agg #[.bool sx, .slice ox nx cx, .slice ax mx dx]), KIs (T2 s + T2 s), KEq (.slice (some ⟨gt, 0, none⟩) n ct), KEq (.int .i64 (s : Nat)), KEq (.pointer (some ⟨gt, s * 3, none⟩)), KEq (.agg #[.bool sy, .slice oy ny cy, .slice ay my dy]), KEq (.int .i64 0)]) (fun i => false) (by kernel_rfl) ?hqR33 (qdk (qad (kEq _) (qad (kEq _) (qad (kEq _) (qad (kEq _) (qad (kEq _) (qad (kEq _) (qad (kEq _) (qad (kEq _) (qad (kIs _) (qad (kEq _) (qad (kEq _) (qad (kEq _) (qad (kEq _) (qad (kEq _) qdj))))))))))))))) ?haR33 ?stR33 ?tlR33
          case hqR33 =>
           intro c a d v w h
           first | (simp only [Exit.then] at h ⊢; exact h) | (simp only [Exit.inBlock, Exit.then] at h ⊢; exact h) | exact h
          case haR33 =>
           intro vals
           simp only [qat, qby, if_true, Act.put, List.setIfInBounds_toArray, List.set_cons_zero, List.set_cons_succ, List.getElem?_toArray, List.getElem?_cons_zero, List.getElem?_cons_succ, Option.bind_some]
           exact rfl
          case stR33 =>
           simp only [List.take_succ_cons, List.take_zero]
           refine qaa rfl rfl ?_ (qaa rfl rfl ?_ (qaa rfl rfl ?_ (qaa rfl rfl ?_ (qaa rfl rfl ?_ (qaa rfl rfl ?_ (qaa rfl rfl ?_ (qaa rfl rfl ?_ (qaa rfl rfl ?_ (qaa rfl rfl ?_ (qaa rfl rfl ?_ (qaa rfl rfl ?_ (qaa rfl rfl ?_ (qaa rfl rfl ?_ (qau))))))))))))))
           ·intro vals w1 hb hd
            refine qSv (.slice (some ⟨gh, 0, none⟩) n ch) (by go_simp) (qLk rfl rfl)
           ·intro vals w1 hb hd
            refine qSv (.int .i64 (s : Nat)) (by go_simp) (qLk rfl rfl)
           ·intro vals w1 hb hd
            have hsz := HSZ.out
            rw [show vals 0 = .slice (some ⟨gh, 0, none⟩) n ch from hd 0 (by kernel_rfl)]
            rw [show vals 1 = .int .i64 (s : Nat) from hd 1 (by kernel_rfl)]
            refine qSv (.pointer (some ⟨gh, s * 3, none⟩)) (by go_simp) (qLk rfl rfl)
           ·intro vals w1 hb hd
            obtain ⟨e0, e1, e2⟩ := qax CX.out hb
            rw [show vals 2 = .pointer (some ⟨gh, s * 3, none⟩) from hd 2 (by kernel_rfl)]
            refine qSv (.agg #[.bool sx, .slice ox nx cx, .slice ax mx dx]) (by go_simp) (qLk rfl rfl)
           ·intro vals w1 hb hd
            refine qSv (.slice (some ⟨gh, 0, none⟩) n ch) (by go_simp) (qLk rfl rfl)
           ·intro vals w1 hb hd
            refine qSv (.int .i64 (s : Nat)) (by go_simp) (qLk rfl rfl)
           ·intro vals w1 hb hd
            have hsz := HSZ.out
            rw [show vals 4 = .slice (some ⟨gh, 0, none⟩) n ch from hd 4 (by kernel_rfl)]
            rw [show vals 5 = .int .i64 (s : Nat) from hd 5 (by kernel_rfl)]
            refine qSv (.pointer (some ⟨gh, s * 3, none⟩)) (by go_simp) (qLk rfl rfl)
           ·intro vals w1 hb hd
            obtain ⟨e0, e1, e2⟩ := qax CX.out hb
            rw [show vals 6 = .pointer (some ⟨gh, s * 3, none⟩) from hd 6 (by kernel_rfl)]
            refine qSv (.agg #[.bool sx, .slice ox nx cx, .slice ax mx dx]) (by go_simp) (qLk rfl rfl)
           ·intro vals w1 hb hd
            have d3 : KEq (.agg #[.bool sx, .slice ox nx cx, .slice ax mx dx]) (vals 3) w1 := hd 3 (by kernel_rfl)
            have d7 : KEq (.agg #[.bool sx, .slice ox nx cx, .slice ax mx dx]) (vals 7) w1 := hd 7 (by kernel_rfl)
            have HS := qHd (qcz _ (T2 s) _ (T2 s) w1 ((IX.out.below hb).is (Nat.le_trans LX.out (by decide))) ((IX.out.below hb).is (Nat.le_trans LX.out (by decide))))
            have z3 : vals 3 = _ := d3
            rw [z3]; clear z3
            have z7 : vals 7 = _ := d7
            rw [z7]; clear z7
            refine qar (by go_simp; first | done | exact ⟨⟨rfl, rfl⟩, rfl⟩) ?_
            (with_reducible refine HS.out.mono ?_); rintro e w2 ⟨v, rfl, hb2, hn⟩
            exact ⟨v, rfl, qai hb2 hn (fun h => by cases h)⟩
           ·intro vals w1 hb hd
            refine qSv (.slice (some ⟨gt, 0, none⟩) n ct) (by go_simp) (qLk rfl rfl)
           ·intro vals w1 hb hd
            refine qSv (.int .i64 (s : Nat)) (by go_simp) (qLk rfl rfl)
           ·intro vals w1 hb hd
            have hsz := HSZ.out
            rw [show vals 9 = .slice (some ⟨gt, 0, none⟩) n ct from hd 9 (by kernel_rfl)]
            rw [show vals 10 = .int .i64 (s : Nat) from hd 10 (by kernel_rfl)]
            refine qSv (.pointer (some ⟨gt, s * 3, none⟩)) (by go_simp) (qLk rfl rfl)
           ·intro vals w1 hb hd
            obtain ⟨e0, e1, e2⟩ := qax CY.out hb
            rw [show vals 11 = .pointer (some ⟨gt, s * 3, none⟩) from hd 11 (by kernel_rfl)]
            refine qSv (.agg #[.bool sy, .slice oy ny cy, .slice ay my dy]) (by go_simp) (qLk rfl rfl)
           ·intro vals w1 hb hd
            have d8 : KIs (T2 s + T2 s) (vals 8) w1 := hd 8 (by kernel_rfl)
            have hs := cmpq_any _ (T2 s + T2 s) _ (T s) w1 (IsR.is d8 (Nat.le_trans LXX.out (by decide))) ((IY.out.below hb).is (Nat.le_trans LY.out (by decide))) LXX.out (Nat.le_trans LY.out (by decide))
            rw [EQ.out, cq_same] at hs
            have HS2 := qHd hs; clear hs
            rw [show vals 12 = .agg #[.bool sy, .slice oy ny cy, .slice ay my dy] from hd 12 (by kernel_rfl)]
            refine qar (by go_simp; first | done | exact ⟨⟨rfl, rfl⟩, rfl⟩) ?_
            (with_reducible refine HS2.out.mono ?_); rintro e w2 ⟨rfl, hb2⟩
            exact ⟨_, rfl, qai hb2 rfl (fun h => by cases h)⟩
          case tlR33 =>
           intro vals w14 hb14 hf hdis
           simp only [List.drop_succ_cons, List.drop_zero]
           have z13 : vals 13 = _ := hf 13 (by decide)
           rw [z13]
           have FT := qHd (FT.out.below hb14); have FH := qHd (FH.out.below hb14); have HB := qHd (qac HB.out (Nat.le_refl _) hb14)
           clear z13 hf hdis hb14 IX CX IY CY
           go_wp2_with fail
           go_roundw
           case rel => exact ⟨s + 1, by omega, by go_num, FT, FH, HB⟩
           case measure => simp [intOf]; omega
         ·have hltz : ¬ ((s : Int) < (n : Int)) := by omega
          go_wp2_with fail
          go_ret
          exact ⟨rfl, HBW.out.trans (HB.out.mono HBW.out.size)⟩
end Go.Proofs.YtblekfkmianmeaaGreatDoor
