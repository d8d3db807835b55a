/-
  natural.Div: long division.
  Conditions: each theorem's own.
-/
import Derived.Test.YtdepoikifneggaaDoorNat10
namespace Go.Proofs.YtdepoikifneggaaDoor
open Go.RowKit Go.ChangeShapes Go.WideShapes

set_option maxRecDepth 100000 in
set_option maxHeartbeats 16000000 in
theorem div_long (va vb : Value) (a b : List Nat) (w : World) (ha : Num w va a) (hb : Num w vb b) (hla : a.length ≤ 800000) (hlb : b.length ≤ 800000) (hge : val b ≤ val a) (hbig : 4294967296 ≤ val b) :
    Calls Tryd.prog 16 #[va, vb] w (RetDiv w (val a / val b) (val a % val b) (errV 0)) := by
  rw [errV_zero]
  have hl1 := wd_length_le ha.lt
  have hl2 := wd_length_le hb.lt
  have hcn := cmpN_nlt hge
  have hab := wd_length_mono hge
  have hnb2 := wd_two hbig
  obtain ⟨_, hx0, hbl⟩ := wd_top (show val b ≠ 0 by omega)
  have hAl := val_lt (u32_wd (val a))
  rw [val_wd] at hAl
  obtain ⟨A, hA⟩ : ∃ A, A = val a := ⟨_, rfl⟩
  obtain ⟨Bv, hBv⟩ : ∃ Bv, Bv = val b := ⟨_, rfl⟩
  obtain ⟨la, hla1⟩ : ∃ la, la = wd A := ⟨_, rfl⟩
  obtain ⟨lb, hlb1⟩ : ∃ lb, lb = wd Bv := ⟨_, rfl⟩
  rw [← hA, ← hla1] at hl1 hAl
  rw [← hBv, ← hlb1] at hl2
  rw [← hA, ← hBv, ← hla1, ← hlb1] at hab
  rw [← hBv, ← hlb1] at hnb2 hx0 hbl
  rw [← hA, ← hBv] at hge hcn ⊢
  rw [← hBv] at hbig
  obtain ⟨na, hna⟩ : ∃ na, na = la.length := ⟨_, rfl⟩
  obtain ⟨nb, hnb⟩ : ∃ nb, nb = lb.length := ⟨_, rfl⟩
  rw [← hna] at hl1 hab hAl
  rw [← hnb] at hl2 hab hnb2 hx0 hbl
  have hub : U32 lb := by rw [hlb1]; exact u32_wd _
  have hxl := hub (nb - 1)
  obtain ⟨x, hx⟩ : ∃ x, x = gd lb (nb - 1) := ⟨_, rfl⟩
  rw [← hx] at hx0 hbl hxl
  obtain ⟨s, hs⟩ : ∃ s, s = 32 - blen x := ⟨_, rfl⟩
  obtain ⟨hVB, hVlo, hs32⟩ := norm_top (show Bv ≠ 0 by omega) hbl hx0 hxl (by omega) hs
  have hlz : ∀ wx : World, Calls Tryd.prog 50 #[.int .u32 x] wx (RetS wx (.int .i64 (s : Nat))) := fun wx => by
    have h := Tryd.bits_LeadingZeros32 x wx (by omega) (by omega)
    rw [Int.toNat_natCast, bitLen_eq x hxl] at h
    have h32 : blen x ≤ 32 := blen_le hxl
    rw [show (32 - (blen x : Int)) = (s : Int) by omega] at h
    exact h.mono fun _ _ ⟨h1, h2⟩ => ⟨h1, h2.symm⟩
  have HA := Lib.hid hA; have HBV := Lib.hid hBv; have HLA := Lib.hid hla1; have HLB := Lib.hid hlb1; have HNA := Lib.hid hna; have HNB := Lib.hid hnb; have HX := Lib.hid hx; have HLZ := Lib.hid hlz
  have HVB := Lib.hid hVB; have HVLO := Lib.hid hVlo; have HAL := Lib.hid hAl
  clear hA hBv hla1 hlb1 hna hnb hx hs hlz hVB hVlo hub hbl hx0 hAl
  go_enter Tryd.func16, Tryd.ntmps16
  go_wp2_with fail
  (with_reducible refine (trim_any _ _ _ ha (by omega)).mono ?_); rintro e w1 ⟨v1, l1, rfl, hb1, hn1, hl1'⟩
  go_wp2_with fail
  (with_reducible refine (trim_any _ _ _ (hb.below hb1) (by omega)).mono ?_); rintro e w2 ⟨v2, l2, rfl, hb2, hn2, hl2'⟩
  have hn1 := hn1.below hb2
  have hb12 := hb1.trans (hb2.mono hb1.size)
  rw [← HA.out, ← HLA.out] at hl1'
  rw [← HBV.out, ← HLB.out] at hl2'
  rw [hl1'] at hn1
  rw [hl2'] at hn2
  clear hl1' hl2'
  have hc := cmp_any _ _ _ _ _ hn1 hn2 (by rw [← HNA.out]; omega) (by rw [← HNB.out]; omega)
  rw [HLA.out, HLB.out, val_wd, val_wd] at hc
  obtain ⟨r, hr⟩ : ∃ r, r = cmpN A Bv := ⟨_, rfl⟩
  rw [← hr] at hc hcn
  obtain ⟨ao, ca, rfl, hca, hca2, _⟩ := hn1.shape
  obtain ⟨bo, cb, rfl, hcb, hcb2, _⟩ := hn2.shape
  rw [← HNA.out] at hn1 hca ⊢
  rw [← HNB.out] at hn2 hcb ⊢
  rw [← HNA.out, ← HNB.out] at hc
  have HC := Lib.hid hc; have HN1 := Lib.hid hn1; have HN2 := Lib.hid hn2
  clear hc hn1 hn2 hb1 hb2 ha hb hr
  go_wp2_with fail
  (with_reducible refine HC.out.mono ?_); rintro e w3 ⟨rfl, hb3⟩
  have hb13 := hb12.trans (hb3.mono hb12.size)
  have hn2' := HN2.out.below hb3
  obtain ⟨bb, ob, rfl, _, hcell⟩ := hn2'.at (by omega)
  have hc0 := hcell (nb - 1) (by omega)
  rw [← HX.out] at hc0
  have hv := left_any _ lb s w3 hn2' (by rw [← HNB.out]; omega) hs32
  have HVC := Lib.hid hv; have HN1 := Lib.hid (HN1.out.below hb3)
  clear hcell hn2' hv hb3 hb12
  go_wp2_with fail
  (with_reducible refine (HLZ.out _).mono ?_); rintro e w' ⟨rfl, rfl⟩
  go_wp2_with fail
  (with_reducible refine HVC.out.mono ?_); rintro e w4 ⟨vv, lv0, rfl, hb4, hO4, hlen4, hval4⟩
  rw [← HNB.out] at hlen4
  rw [HLB.out, val_wd] at hval4
  obtain ⟨gv, cv, rfl, hgv⟩ := hO4.head (by rw [hlen4]; omega)
  rw [hlen4] at hO4 ⊢
  have hgv4 := hO4.block
  obtain ⟨hcv1, hcv2⟩ := hO4.num.cap
  have hu := left_any _ la s w4 (HN1.out.below hb4) (by rw [← HNA.out]; omega) hs32
  have hszb : w.heap.size ≤ w3.heap.size := hb13.size
  have hb14 := hb13.trans (hb4.mono hb13.size)
  have HU := Lib.hid hu; have HO4 := Lib.hid hO4; have HL4 := Lib.hid hlen4; have HV4 := Lib.hid hval4
  clear hu hO4 hlen4 hval4 hb4 hb13
  go_wp2_with fail
  (with_reducible refine HU.out.mono ?_); rintro e w5 ⟨vu, lu0, rfl, hb5, hO5, hlen5, hval5⟩
  rw [← HNA.out] at hlen5
  rw [HLA.out, val_wd] at hval5
  obtain ⟨gu, cu, rfl, hgu⟩ := hO5.head (by rw [hlen5]; omega)
  rw [hlen5] at hO5 ⊢
  have hgu5 := hO5.block
  obtain ⟨hcu1, hcu2⟩ := hO5.num.cap
  have hb15 := hb14.trans (hb5.mono hb14.size)
  have hNV := (hO4n HO4.out nb (by rw [HL4.out]; omega)).below hb5
  obtain ⟨lv, hlv⟩ : ∃ lv, lv = lv0.take nb := ⟨_, rfl⟩
  rw [← hlv] at hNV
  have hlvl : lv.length = nb := by rw [hlv, List.length_take, HL4.out]; omega
  have hvv : val lv = Bv * 2 ^ s := by rw [hlv, take_all HO4.out.lt (by rw [HV4.out]; exact HVB.out), HV4.out]
  have hO4' := HO4.out.below hb5
  have hcv1' := hO4'.cell HL4.out (nb - 1) (by omega)
  have hcv2' := hO4'.cell HL4.out (nb - 2) (by omega)
  have hg1 : gd lv0 (nb - 1) = gd lv (nb - 1) := by rw [hlv, gd_take, if_pos (by omega)]
  have hg2 : gd lv0 (nb - 2) = gd lv (nb - 2) := by rw [hlv, gd_take, if_pos (by omega)]
  rw [hg1] at hcv1'
  rw [hg2] at hcv2'
  have hVlo : 2147483648 * 4294967296 ^ (nb - 1) ≤ val lv := by rw [hvv]; exact HVLO.out
  have hd2 := div_two hNV.lt hlvl hnb2 hVlo
  have htl := hNV.lt (nb - 1)
  have hnl := hNV.lt (nb - 2)
  obtain ⟨top, htop⟩ : ∃ top, top = gd lv (nb - 1) := ⟨_, rfl⟩
  obtain ⟨next, hnext⟩ : ∃ next, next = gd lv (nb - 2) := ⟨_, rfl⟩
  rw [← htop] at hcv1' htl hd2
  rw [← hnext] at hcv2' hnl hd2
  have ht31 := hd2.1
  have hfr := first_round (k := na + 1 - nb) hO5.lt HAL.out hval5 hs32 (by omega) (by omega) hVlo
  obtain ⟨mq, hnq⟩ : ∃ mq, mq = na + 1 - nb := ⟨_, rfl⟩
  rw [← hnq] at hfr
  have hnqb : mq ≤ 70368744177664 := by omega
  have hmq : mq + nb = na + 1 := by omega
  have hguv : gv ≠ gu := by omega
  have hguw : w.heap.size ≤ gu := by have := hb14.size; omega
  have HO5 := Lib.hid (hO5.base hb14.size); have HL5 := Lib.hid hlen5; have HV5 := Lib.hid hval5; have HNV := Lib.hid hNV; have HLVL := Lib.hid hlvl; have HVV := Lib.hid hvv; have HTOP := Lib.hid htop; have HNEXT := Lib.hid hnext; have HFR := Lib.hid hfr; have HNQ := Lib.hid hnq; have HNE := Lib.hid hguv; have HVLO := Lib.hid hVlo
  have hni : (na : Int) + 1 - (nb : Int) = (mq : Int) := by omega
  have HNI := Lib.hid hni; have HMQ := Lib.hid hmq
  have HB15 := Lib.hid hb15
  clear hO5 hlen5 hval5 hNV hlvl hvv htop hnext hfr hguv hVlo hlv hO4' hg1 hg2 hd2 hb5 hb14 hb15 hni hnq hmq
  go_wp2_with fail
  go_quiet (fail)
  have hq1 : (w5.drewN nq).heap.size = w5.heap.size := rfl
  have HNV := Lib.hid (HNV.out.below (below_drewN (Below.refl _ _) nq))
  have HO5 := Lib.hid (HO5.out.below (below_drewN (Below.refl _ _) nq))
  have hb16 := below_drewN HB15.out nq
  obtain ⟨w6, hw6⟩ : ∃ w6, w6 = w5.drewN nq := ⟨_, rfl⟩
  rw [← hw6] at HNV HO5 hb16 hq1 ⊢
  have HB16 := Lib.hid hb16
  have hgu6 : gu < w6.heap.size := by rw [hq1]; exact hgu5.2
  have hmqi : mq + nb ≤ na + 1 ∧ na + 1 ≤ mq + nb := by have := HMQ.out; omega
  clear hw6 hq1 hb16 hcv1' hcv2'
  go_wp2_with (at_make; refine wpList_makeN Tryd.wordsTy rfl _ _ rfl _ _ _ _ mq rfl rfl ?c1 ?c2 hnqb ?_)
  case c1 => exact HNI.out
  case c2 => exact HNI.out
  intro w7 hO7 hB7 hsz7
  have hszw6 := HB16.out.size
  have hO7 := hO7.base hszw6
  have HB17 := Lib.hid (HB16.out.trans (hB7.mono hszw6))
  obtain ⟨gq, hgq⟩ : ∃ gq, gq = w6.heap.size := ⟨_, rfl⟩
  rw [← hgq] at hO7 hsz7 hgu6 hszw6 ⊢
  have hqu : gq ≠ gu := by omega
  have hqv : gv ≠ gq := by omega
  have HQU := Lib.hid hqu; have HQV := Lib.hid hqv
  have HNV := Lib.hid (HNV.out.below hB7)
  have HO5 := Lib.hid (HO5.out.below hB7)
  have hval0 : val lu0 + val lv * val (List.replicate mq 0) = A * 2 ^ s := by rw [val_zeros, Nat.mul_zero, Nat.add_zero]; exact HV5.out
  have HVAL0 := Lib.hid hval0; have HO7 := Lib.hid hO7; have HGQ := Lib.hid hgq
  clear hqu hqv hval0 hO7 hB7 hgq
  go_wp2_with fail
  rw [HNI.out]
  go_loopw [14] (fun jv wr => ∃ (k : Nat) (lu lq : List Nat), k ≤ mq ∧ jv = .int .i64 ((k : Int) - 1) ∧ OwnW 38 wr w.heap.size (.slice (some ⟨gu, 0, none⟩) (na + 1) cu) lu ∧ Hid (lu.length = na + 1) ∧
      OwnW 38 wr w.heap.size (.slice (some ⟨gq, 0, none⟩) mq mq) lq ∧ Hid (lq.length = mq) ∧ Hid (Num wr (.slice (some ⟨gv, 0, none⟩) nb cv) lv) ∧ Below w.heap.size w wr ∧
      Hid (val lu + val lv * val lq = A * 2 ^ s) ∧ Hid (∀ i, i < k → gd lq i = 0) ∧ Hid (val (lu.drop k) < val lv)) (fun jv _ => (intOf jv + 1).toNat)
  case atStart => exact ⟨mq, lu0, List.replicate mq 0, Nat.le_refl _, rfl, HO5.out, HL5, HO7.out, Lib.hid (by simp), HNV, HB17.out, HVAL0, Lib.hid (fun i _ => by rw [gd_replicate]; split <;> rfl), HFR⟩
  case round =>
    obtain ⟨k, lu, lq, hk, rfl, hOu, hlu, hOq, hlq, hNv, hBr, hinv, hzq, hdr⟩ := hrel
    obtain ⟨wo, rfl⟩ : ∃ wo : World, wo = wr := ⟨_, rfl⟩
    by_cases hk0 : k = 0
    · subst hk0
      have hi0 := hinv.out
      have hd0 := hdr.out
      rw [List.drop_zero] at hd0
      rw [HVV.out] at hi0 hd0
      obtain ⟨e1, e2⟩ := div_scaled (Nat.two_pow_pos s) hi0 hd0
      have htr := trim_any _ _ _ hOq.num (by rw [hlq.out]; omega)
      rw [e1] at htr
      have HTR := Lib.hid htr; have E2 := Lib.hid e2; have HOU := Lib.hid hOu
      clear htr e1 e2 hi0 hd0 hOq hOu
      have hlu' := hlu.out
      have hlq' : lq.length ≤ 800001 := by rw [hlq.out]; omega
      go_wp2_with fail
      (with_reducible refine HTR.out.mono ?_); rintro e wa ⟨va1, la1, rfl, hba, hna1, hla1⟩
      have hrt := right_any _ lu s wa (HOU.out.num.below hba) (by rw [hlu.out]; omega) hs32
      rw [hlu.out] at hrt
      have HRT := Lib.hid hrt; have HLA1 := Lib.hid hla1; have HNA1 := Lib.hid hna1
      clear hrt hla1 hna1
      go_wp2_with fail
      (with_reducible refine HRT.out.mono ?_); rintro e wb ⟨vb1, lb1, rfl, hbb, hob, hlb1, hvb1⟩
      have htr := trim_any _ _ _ hob.num (by rw [hlb1]; omega)
      rw [hvb1, E2.out] at htr
      have HTR := Lib.hid htr
      clear htr hlb1 hvb1
      go_wp2_with fail
      (with_reducible refine HTR.out.mono ?_); rintro e wc ⟨vc1, lc1, rfl, hbc, hnc, hlc⟩
      go_wp2_with fail
      go_ret3
      have h1 := hBr.trans (hba.mono hBr.size)
      have h2 := h1.trans (hbb.mono h1.size)
      have h3 := h2.trans (hbc.mono h2.size)
      exact ⟨_, _, rfl, h3, by rw [← HLA1.out]; exact (HNA1.out.below hbb).below hbc, by rw [← hlc]; exact hnc⟩
    · obtain ⟨j, rfl⟩ : ∃ j, k = j + 1 := ⟨k - 1, by omega⟩
      have hj1 : ((j + 1 : Nat) : Int) - 1 = (j : Int) := by omega
      rw [hj1]
      clear hj1
      have hvB : val lv < 4294967296 ^ nb := by rw [HVV.out]; exact HVB.out
      have hv0 : 0 < val lv := Nat.lt_of_lt_of_le (Nat.mul_pos (by decide) (Nat.pow_pos (by decide))) HVLO.out
      obtain ⟨k1, k2, k3⟩ := round_head (j := j) hOu.lt hvB hdr.out
      obtain ⟨t1, t2, t3⟩ := div_round (j := j) hOu.lt HNV.out.lt HLVL.out hnb2 HVLO.out k2
      have hc1 := hOu.cell hlu.out (j + nb) (by omega)
      have hc2 := hOu.cell hlu.out (j + nb - 1) (by omega)
      have hc3 := hOu.cell hlu.out (j + nb - 2) (by omega)
      have hu1l := hOu.lt (j + nb)
      have hu0l := hOu.lt (j + nb - 1)
      have hu2l := hOu.lt (j + nb - 2)
      obtain ⟨u1, hu1⟩ : ∃ u1, u1 = gd lu (j + nb) := ⟨_, rfl⟩
      obtain ⟨u0, hu0⟩ : ∃ u0, u0 = gd lu (j + nb - 1) := ⟨_, rfl⟩
      obtain ⟨u2, hu2⟩ : ∃ u2, u2 = gd lu (j + nb - 2) := ⟨_, rfl⟩
      rw [← hu1] at hc1 hu1l t1 t2 t3
      rw [← hu0] at hc2 hu0l t2 t3
      rw [← hu2] at hc3 hu2l t2 t3
      rw [← HTOP.out] at t1 t2 t3
      rw [← HNEXT.out] at t2 t3
      have hor := or_words' u0 u1 hu0l hu1l
      have hhb : u1 * 4294967296 + u0 ≤ top * 4294967296 + 4294967295 := by omega
      have hgl := guess_le (u0 := u0) ht31 t1 hu0l
      have hf1 := fit_first (top := top) (next := next) (head := u1 * 4294967296 + u0) (low := u2) (by omega) hu2l
      obtain ⟨hd, hhd⟩ : ∃ hd, hd = u1 * 4294967296 + u0 := ⟨_, rfl⟩
      rw [← hhd] at hor hhb hgl hf1 t2 t3
      have hhd64 : hd < 18446744073709551616 := by omega
      obtain ⟨g0, hg0⟩ : ∃ g0, g0 = hd / top := ⟨_, rfl⟩
      obtain ⟨r0, hr0⟩ : ∃ r0, r0 = hd % top := ⟨_, rfl⟩
      have hg0i : (hd : Int) / (top : Int) = (g0 : Int) := by rw [hg0]; simp
      have hr0i : (hd : Int) % (top : Int) = (r0 : Int) := by rw [hr0]; simp
      have hr0l : r0 < top := by rw [hr0]; exact Nat.mod_lt _ (by omega)
      have hsum : g0 * top + r0 = hd := by rw [hg0, hr0, Nat.mul_comm]; exact Nat.div_add_mod hd top
      rw [← hg0] at hgl hf1
      have HK1 := Lib.hid k1; have HK2 := Lib.hid k2; have HK3 := Lib.hid k3; have HT2 := Lib.hid t2; have HT3 := Lib.hid t3; have HF1 := Lib.hid hf1; have HSUM := Lib.hid hsum; have HOU := Lib.hid hOu; have HOQ := Lib.hid hOq; have HHB := Lib.hid hhb
      have HvB := Lib.hid hvB; have Hv0 := Lib.hid hv0; have HBO := Lib.hid hBr; have HHD := Lib.hid hhd
      have HG0I := Lib.hid hg0i; have HR0I := Lib.hid hr0i
      clear k1 k2 k3 t1 t2 t3 hf1 hsum hOu hOq hhb hvB hv0 hu1 hu0 hu2 hhd hg0 hr0 hBr hg0i hr0i
      go_wp2_with fail
      obtain ⟨F, hF⟩ : ∃ F, F = fit (hd * 4294967296 + u2) (top * 4294967296 + next) := ⟨_, rfl⟩
      rw [← hF] at HF1 HT2 HT3
      have hFB : F < 4294967296 := by rw [hF]; exact Nat.lt_of_le_of_lt (Nat.min_le_left _ _) (by decide)
      have HF := Lib.hid hF
      clear hF
      go_quiet (fail)
      go_wp2_with fail
      have hby := below_drewN (Below.refl wo.heap.size wo) nq
      obtain ⟨wy, hwy⟩ : ∃ wy, wy = wo.drewN nq := ⟨_, rfl⟩
      rw [← hwy] at hby ⊢
      have HBY := Lib.hid hby
      clear hwy hby
      have hg0i := HG0I.out
      go_quiet (fail)
      clear hg0i
      have hbz := below_drewN HBY.out nq
      obtain ⟨wz, hwz⟩ : ∃ wz, wz = wy.drewN nq := ⟨_, rfl⟩
      rw [← hwz] at hbz ⊢
      have HOZ := Lib.hid (HOU.out.below hbz)
      have HQZ := Lib.hid (HOQ.out.below hbz)
      have HNZ := Lib.hid (hNv.out.below hbz)
      have HBZ := Lib.hid (HBO.out.trans (hbz.mono HBO.out.size))
      have hc3' : wz.cell? ⟨gu, j + nb - 2, none⟩ = some (.int .u32 (u2 : Nat)) := by rw [hbz.cell (p := ⟨gu, j + nb - 2, none⟩) HOU.out.block.2]; exact hc3
      clear hwz hbz hc1 hc2 hc3
      go_wp2_with fail
      go_loop [16, 17] (fun gx rx => ∃ g r : Nat, gx = .int .u64 g ∧ rx = .int .u64 r ∧ r < 4294967296 ∧ g ≤ 4294967297 ∧ Hid (g * top + r = hd) ∧ Hid (F ≤ g)) (fun gx _ => (intOf gx).toNat)
      case atStart => exact ⟨g0, r0, rfl, by rw [HR0I.out], by omega, hgl, HSUM, HF1⟩
      case round =>
        obtain ⟨g, r1, rfl, rfl, hrl, hgl1, hgs, hgF⟩ := hrel
        have hct := hgF.out
        have htest := fit_test (next := next) (low := u2) (show 0 < top by omega) hgs.out
        rw [← HF.out] at htest
        by_cases hFg : F < g
        · have hg1 : 1 ≤ g := by omega
          have hgd := guess_down hgs.out (by omega)
          obtain ⟨gf, hgf⟩ : ∃ gf, gf = g - 1 := ⟨_, rfl⟩
          obtain ⟨rf, hrf⟩ : ∃ rf, rf = r1 + top := ⟨_, rfl⟩
          rw [← hgf, ← hrf] at hgd
          have hgfi : (g : Int) - 1 = (gf : Int) := by omega
          have hrfi : (r1 : Int) + (top : Int) = (rf : Int) := by omega
          have hrf64 : rf < 8589934592 := by omega
          have hFg' : F ≤ gf := by omega
          have hgf2 : gf ≤ 4294967297 := by omega
          have hgm : gf < g := by omega
          have hgrest : 4294967296 ≤ rf → gf = F := by
            intro hrr
            have hgfB : gf < 4294967296 := by
              rcases Nat.lt_or_ge gf 4294967296 with h | h
              · exact h
              · exfalso
                have : 4294967296 * top ≤ gf * top := Nat.mul_le_mul_right _ h
                have := HHB.out
                omega
            have := fit_rest (low := u2) (show 0 < top by omega) hgd hnl hgfB hrr
            rw [← HF.out] at this
            omega
          have hor2 := or_words' u2 r1 hu2l hrl
          have hRl : r1 * 4294967296 + u2 < 18446744073709551616 := by omega
          obtain ⟨R, hR⟩ : ∃ R, R = r1 * 4294967296 + u2 := ⟨_, rfl⟩
          rw [← hR] at hor2 htest hRl
          have HGREST := Lib.hid hgrest; have HGD := Lib.hid hgd
          have htest := htest.2 hFg
          obtain ⟨p, hp⟩ : ∃ p, p = g * next := ⟨_, rfl⟩
          have hpi : (g : Int) * (next : Int) = (p : Int) := by rw [hp]; rfl
          have hpl : g < 4294967296 → p < 18446744073709551616 := fun h => by have := word_mul h hnl; rw [hp]; omega
          rw [← hp] at htest
          clear hgrest hgd hgf hrf hR hp hct
          by_cases hrr : 4294967296 ≤ rf
          · have hgF := Lib.hid (HGREST.out hrr)
            have hrri : decide ((4294967296 : Int) ≤ (rf : Int)) = true := by simp; omega
            have HTEST := Lib.hid htest; clear htest
            by_cases hgB : 4294967296 ≤ g
            · clear hpl
              have hgBi : decide ((4294967296 : Int) ≤ (g : Int)) = true := by simp; omega
              have HGF := hgF
              go_wp2_with fail
              clear hgfi hrfi hor2 hpi hg1 hrr hgB hrri hgBi
              rw [show j + nb + 1 - j = nb + 1 from by omega]
              have hgB' : gf < 4294967296 := by rw [HGF.out]; exact hFB
              have hT : gf * val lv < 4294967296 ^ (nb + 1) := by
                rw [Nat.pow_succ, Nat.mul_comm _ 4294967296]
                exact Nat.mul_lt_mul_of_lt_of_le hgB' (Nat.le_of_lt HvB.out) (Nat.lt_of_lt_of_le Hv0.out (Nat.le_of_lt HvB.out))
              have HT2' := HT2.out
              have HT3' := HT3.out
              rw [← HGF.out] at HT2' HT3'
              have HT2 := Lib.hid HT2'; have HT3 := Lib.hid HT3'
              clear HT2' HT3'
              (with_reducible refine (take_any gu j (nb + 1) (cu - j) (na + 1) cu gv nb cv gf w.heap.size lu lv wz HOZ.out hlu.out (by omega) (by omega) (by omega) (by omega) HNZ.out HNE.out hgB' (by rw [HLVL.out]; exact Nat.le_succ nb) hT).mono ?_)
              rintro e wt ⟨lt, rb, rfl, hrb, hOt, hlt, hgt, hst, hwt⟩
              have hQt := HQZ.out.keptBy hgt HQU.out
              have hBt := HBZ.out.grown hgt HBZ.out.size (fun k hk => by cases hk; exact hguw)
              have hNt := HNZ.out.keptBy hgt HNE.out
              have hwl := winv_lt hOt.lt j (nb + 1)
              clear hT
              by_cases hr1 : rb = 1
              · subst hr1
                rw [Nat.mul_one] at hwt
                have hg1 : 1 ≤ gf := by
                  rcases Nat.eq_zero_or_pos gf with h0 | h0
                  · exfalso
                    rw [h0, Nat.zero_mul, Nat.add_zero] at hwt
                    omega
                  · exact h0
                have hgv := give_any gu j (nb + 1) (cu - j) (na + 1) cu gv nb cv w.heap.size lt lv wt hOt hlt (by omega) (by omega) (by omega) (by omega) hNt HNE.out (by rw [HLVL.out]; exact Nat.le_succ nb)
                obtain ⟨gm, hgm⟩ : ∃ gm, gm = gf - 1 := ⟨_, rfl⟩
                have hgmi : (gf : Int) - 1 = (gm : Int) := by omega
                have hQB := Lib.hid (show gm < 4294967296 by omega)
                have hgmb : gm < 4294967296 := by omega
                have HGV := Lib.hid hgv; have HWT := Lib.hid hwt; have HWL := Lib.hid hwl; have HST := Lib.hid hst; have HQT := Lib.hid hQt; have HBT := Lib.hid hBt; have HNT := Lib.hid hNt; have HGM := Lib.hid hgm
                clear hgv hwt hwl hst hQt hBt hNt hOt hlt hgt hgm
                go_wp2_with fail
                rw [show j + nb + 1 - j = nb + 1 from by omega]
                (with_reducible refine HGV.out.mono ?_); rintro e wg ⟨lg, rg, rfl, hOg, hlg, hgg, hsg, hwg⟩
                obtain ⟨e1, e2, _⟩ := round_over Hv0.out (Nat.lt_trans HvB.out (Nat.pow_lt_pow_right (by decide) (Nat.lt_succ_self nb))) HT3.out HWT.out HWL.out hwg (winv_lt hOg.lt j (nb + 1))
                have hsame : ∀ i, i < j ∨ j + (nb + 1) ≤ i → gd lg i = gd lu i := fun i hi => (hsg i hi).trans (HST.out i hi)
                rw [← HGM.out] at e1
                have HQX := Lib.hid (HQT.out.keptBy hgg HQU.out)
                have HBX := Lib.hid (HBT.out.grown hgg HBT.out.size (fun k hk => by cases hk; exact hguw))
                have HNX := Lib.hid (HNT.out.keptBy hgg HNE.out)
                have HOX := Lib.hid hOg; have HLX := Lib.hid hlg; have HWX := Lib.hid e2; have HQD := Lib.hid e1; have HSX := Lib.hid hsame
                clear e1 e2 hsame hOg hlg hgg hsg hwg
                have hOqx := HQX.out.cell hlq.out j (by omega)
                have hfqx := HQX.out.frozen hlq.out j
                have hqmod : (gm : Int) % 4294967296 = (gm : Int) := by omega
                have hgrq := HQX.out.grown hlq.out j gm
                have HGRQ := Lib.hid hgrq
                clear hgrq
                go_wp2_with fail
                go_roundw
                case rel =>
                  have h1 := HQX.out.stored hlq.out j gm hQB.out
                  obtain ⟨e1, e2, e3⟩ := round_inv (lq := lq) (qd := gm) rfl HWX.out HQD.out HK3.out HSX.out (by rw [hlq.out]; omega) (hzq.out j (by omega)) hinv.out
                  refine ⟨j, lg, lq.set j gm, by omega, rfl, HOX.out.keptBy HGRQ.out HQU.out.symm, HLX, h1, Lib.hid (by rw [List.length_set]; exact hlq.out), Lib.hid (HNX.out.keptBy HGRQ.out HQV.out), HBX.out.setCell hszw6 _, Lib.hid e1, Lib.hid ?_, Lib.hid ?_⟩
                  · intro i hi
                    rw [gd_set, if_neg (by omega)]; exact hzq.out i (by omega)
                  · rw [e3]; exact Nat.mod_lt _ Hv0.out
                case measure => simp [intOf]
              · obtain rfl : rb = 0 := by omega
                rw [Nat.mul_zero, Nat.add_zero] at hwt
                obtain ⟨e1, e2⟩ := round_right Hv0.out HT2.out hwt
                have hQB := Lib.hid hgB'
                have HQX := Lib.hid hQt; have HBX := Lib.hid hBt; have HNX := Lib.hid hNt; have HOX := Lib.hid hOt; have HLX := Lib.hid hlt; have HWX := Lib.hid e2; have HQD := Lib.hid e1; have HSX := Lib.hid hst
                clear e1 e2 hQt hBt hNt hOt hlt hst hwt hwl hgt hr1
                have hOqx := HQX.out.cell hlq.out j (by omega)
                have hfqx := HQX.out.frozen hlq.out j
                have hqmod : (gf : Int) % 4294967296 = (gf : Int) := by omega
                have hgrq := HQX.out.grown hlq.out j gf
                have HGRQ := Lib.hid hgrq
                clear hgrq
                go_wp2_with fail
                go_roundw
                case rel =>
                  have h1 := HQX.out.stored hlq.out j gf hQB.out
                  obtain ⟨e1, e2, e3⟩ := round_inv (lq := lq) (qd := gf) rfl HWX.out HQD.out HK3.out HSX.out (by rw [hlq.out]; omega) (hzq.out j (by omega)) hinv.out
                  refine ⟨j, lt, lq.set j gf, by omega, rfl, HOX.out.keptBy HGRQ.out HQU.out.symm, HLX, h1, Lib.hid (by rw [List.length_set]; exact hlq.out), Lib.hid (HNX.out.keptBy HGRQ.out HQV.out), HBX.out.setCell hszw6 _, Lib.hid e1, Lib.hid ?_, Lib.hid ?_⟩
                  · intro i hi
                    rw [gd_set, if_neg (by omega)]; exact hzq.out i (by omega)
                  · rw [e3]; exact Nat.mod_lt _ Hv0.out
                case measure => simp [intOf]
            · have hpl := hpl (by omega)
              have hpR : R < p := by have := HTEST.out; omega
              have hgBi : decide ((4294967296 : Int) ≤ (g : Int)) = false := by simp; omega
              have hpRi : decide (R < p) = true := by simp; omega
              have HGF := hgF
              go_wp2_with fail
              clear hgfi hrfi hor2 hpi hg1 hrr hgB hrri hgBi hpR hpRi hpl
              rw [show j + nb + 1 - j = nb + 1 from by omega]
              have hgB' : gf < 4294967296 := by rw [HGF.out]; exact hFB
              have hT : gf * val lv < 4294967296 ^ (nb + 1) := by
                rw [Nat.pow_succ, Nat.mul_comm _ 4294967296]
                exact Nat.mul_lt_mul_of_lt_of_le hgB' (Nat.le_of_lt HvB.out) (Nat.lt_of_lt_of_le Hv0.out (Nat.le_of_lt HvB.out))
              have HT2' := HT2.out
              have HT3' := HT3.out
              rw [← HGF.out] at HT2' HT3'
              have HT2 := Lib.hid HT2'; have HT3 := Lib.hid HT3'
              clear HT2' HT3'
              (with_reducible refine (take_any gu j (nb + 1) (cu - j) (na + 1) cu gv nb cv gf w.heap.size lu lv wz HOZ.out hlu.out (by omega) (by omega) (by omega) (by omega) HNZ.out HNE.out hgB' (by rw [HLVL.out]; exact Nat.le_succ nb) hT).mono ?_)
              rintro e wt ⟨lt, rb, rfl, hrb, hOt, hlt, hgt, hst, hwt⟩
              have hQt := HQZ.out.keptBy hgt HQU.out
              have hBt := HBZ.out.grown hgt HBZ.out.size (fun k hk => by cases hk; exact hguw)
              have hNt := HNZ.out.keptBy hgt HNE.out
              have hwl := winv_lt hOt.lt j (nb + 1)
              clear hT
              by_cases hr1 : rb = 1
              · subst hr1
                rw [Nat.mul_one] at hwt
                have hg1 : 1 ≤ gf := by
                  rcases Nat.eq_zero_or_pos gf with h0 | h0
                  · exfalso
                    rw [h0, Nat.zero_mul, Nat.add_zero] at hwt
                    omega
                  · exact h0
                have hgv := give_any gu j (nb + 1) (cu - j) (na + 1) cu gv nb cv w.heap.size lt lv wt hOt hlt (by omega) (by omega) (by omega) (by omega) hNt HNE.out (by rw [HLVL.out]; exact Nat.le_succ nb)
                obtain ⟨gm, hgm⟩ : ∃ gm, gm = gf - 1 := ⟨_, rfl⟩
                have hgmi : (gf : Int) - 1 = (gm : Int) := by omega
                have hQB := Lib.hid (show gm < 4294967296 by omega)
                have hgmb : gm < 4294967296 := by omega
                have HGV := Lib.hid hgv; have HWT := Lib.hid hwt; have HWL := Lib.hid hwl; have HST := Lib.hid hst; have HQT := Lib.hid hQt; have HBT := Lib.hid hBt; have HNT := Lib.hid hNt; have HGM := Lib.hid hgm
                clear hgv hwt hwl hst hQt hBt hNt hOt hlt hgt hgm
                go_wp2_with fail
                rw [show j + nb + 1 - j = nb + 1 from by omega]
                (with_reducible refine HGV.out.mono ?_); rintro e wg ⟨lg, rg, rfl, hOg, hlg, hgg, hsg, hwg⟩
                obtain ⟨e1, e2, _⟩ := round_over Hv0.out (Nat.lt_trans HvB.out (Nat.pow_lt_pow_right (by decide) (Nat.lt_succ_self nb))) HT3.out HWT.out HWL.out hwg (winv_lt hOg.lt j (nb + 1))
                have hsame : ∀ i, i < j ∨ j + (nb + 1) ≤ i → gd lg i = gd lu i := fun i hi => (hsg i hi).trans (HST.out i hi)
                rw [← HGM.out] at e1
                have HQX := Lib.hid (HQT.out.keptBy hgg HQU.out)
                have HBX := Lib.hid (HBT.out.grown hgg HBT.out.size (fun k hk => by cases hk; exact hguw))
                have HNX := Lib.hid (HNT.out.keptBy hgg HNE.out)
                have HOX := Lib.hid hOg; have HLX := Lib.hid hlg; have HWX := Lib.hid e2; have HQD := Lib.hid e1; have HSX := Lib.hid hsame
                clear e1 e2 hsame hOg hlg hgg hsg hwg
                have hOqx := HQX.out.cell hlq.out j (by omega)
                have hfqx := HQX.out.frozen hlq.out j
                have hqmod : (gm : Int) % 4294967296 = (gm : Int) := by omega
                have hgrq := HQX.out.grown hlq.out j gm
                have HGRQ := Lib.hid hgrq
                clear hgrq
                go_wp2_with fail
                go_roundw
                case rel =>
                  have h1 := HQX.out.stored hlq.out j gm hQB.out
                  obtain ⟨e1, e2, e3⟩ := round_inv (lq := lq) (qd := gm) rfl HWX.out HQD.out HK3.out HSX.out (by rw [hlq.out]; omega) (hzq.out j (by omega)) hinv.out
                  refine ⟨j, lg, lq.set j gm, by omega, rfl, HOX.out.keptBy HGRQ.out HQU.out.symm, HLX, h1, Lib.hid (by rw [List.length_set]; exact hlq.out), Lib.hid (HNX.out.keptBy HGRQ.out HQV.out), HBX.out.setCell hszw6 _, Lib.hid e1, Lib.hid ?_, Lib.hid ?_⟩
                  · intro i hi
                    rw [gd_set, if_neg (by omega)]; exact hzq.out i (by omega)
                  · rw [e3]; exact Nat.mod_lt _ Hv0.out
                case measure => simp [intOf]
              · obtain rfl : rb = 0 := by omega
                rw [Nat.mul_zero, Nat.add_zero] at hwt
                obtain ⟨e1, e2⟩ := round_right Hv0.out HT2.out hwt
                have hQB := Lib.hid hgB'
                have HQX := Lib.hid hQt; have HBX := Lib.hid hBt; have HNX := Lib.hid hNt; have HOX := Lib.hid hOt; have HLX := Lib.hid hlt; have HWX := Lib.hid e2; have HQD := Lib.hid e1; have HSX := Lib.hid hst
                clear e1 e2 hQt hBt hNt hOt hlt hst hwt hwl hgt hr1
                have hOqx := HQX.out.cell hlq.out j (by omega)
                have hfqx := HQX.out.frozen hlq.out j
                have hqmod : (gf : Int) % 4294967296 = (gf : Int) := by omega
                have hgrq := HQX.out.grown hlq.out j gf
                have HGRQ := Lib.hid hgrq
                clear hgrq
                go_wp2_with fail
                go_roundw
                case rel =>
                  have h1 := HQX.out.stored hlq.out j gf hQB.out
                  obtain ⟨e1, e2, e3⟩ := round_inv (lq := lq) (qd := gf) rfl HWX.out HQD.out HK3.out HSX.out (by rw [hlq.out]; omega) (hzq.out j (by omega)) hinv.out
                  refine ⟨j, lt, lq.set j gf, by omega, rfl, HOX.out.keptBy HGRQ.out HQU.out.symm, HLX, h1, Lib.hid (by rw [List.length_set]; exact hlq.out), Lib.hid (HNX.out.keptBy HGRQ.out HQV.out), HBX.out.setCell hszw6 _, Lib.hid e1, Lib.hid ?_, Lib.hid ?_⟩
                  · intro i hi
                    rw [gd_set, if_neg (by omega)]; exact hzq.out i (by omega)
                  · rw [e3]; exact Nat.mod_lt _ Hv0.out
                case measure => simp [intOf]
          · have hrri : decide ((4294967296 : Int) ≤ (rf : Int)) = false := by simp; omega
            have HTEST := Lib.hid htest; clear htest
            by_cases hgB : 4294967296 ≤ g
            · clear hpl
              have hgBi : decide ((4294967296 : Int) ≤ (g : Int)) = true := by simp; omega
              go_wp2_with fail
              go_round
              case rel => exact ⟨gf, rf, rfl, rfl, by omega, hgf2, HGD, Lib.hid hFg'⟩
              case measure => simp [intOf]; omega
            · have hpl := hpl (by omega)
              have hpR : R < p := by have := HTEST.out; omega
              have hgBi : decide ((4294967296 : Int) ≤ (g : Int)) = false := by simp; omega
              have hpRi : decide (R < p) = true := by simp; omega
              go_wp2_with fail
              go_round
              case rel => exact ⟨gf, rf, rfl, rfl, by omega, hgf2, HGD, Lib.hid hFg'⟩
              case measure => simp [intOf]; omega
        · have hgFe : g = F := by omega
          have HGF := Lib.hid hgFe
          have hneg : ¬(4294967296 ≤ g ∨ r1 * 4294967296 + u2 < g * next) := fun h => hFg (htest.1 h)
          have hgB : g < 4294967296 := by omega
          have hor2 := or_words' u2 r1 hu2l hrl
          have hRl : r1 * 4294967296 + u2 < 18446744073709551616 := by omega
          have hpl := word_mul hgB hnl
          have hnR : ¬ r1 * 4294967296 + u2 < g * next := fun h => hneg (.inr h)
          obtain ⟨R, hR⟩ : ∃ R, R = r1 * 4294967296 + u2 := ⟨_, rfl⟩
          obtain ⟨p, hp⟩ : ∃ p, p = g * next := ⟨_, rfl⟩
          rw [← hR] at hor2 hRl hnR
          rw [← hp] at hpl hnR
          have hpi : (g : Int) * (next : Int) = (p : Int) := by rw [hp]; rfl
          have hgBi : decide ((4294967296 : Int) ≤ (g : Int)) = false := by simp; omega
          have hpRi : decide (R < p) = false := by simp; omega
          obtain ⟨gf, hgf⟩ : ∃ gf, gf = g := ⟨_, rfl⟩
          subst hgf
          clear htest hneg hR hp hgFe hct hgl1 hFg
          go_wp2_with fail
          clear hor2 hpi hgBi hpRi hnR hpl hRl
          rw [show j + nb + 1 - j = nb + 1 from by omega]
          have hgB' : gf < 4294967296 := by rw [HGF.out]; exact hFB
          have hT : gf * val lv < 4294967296 ^ (nb + 1) := by
            rw [Nat.pow_succ, Nat.mul_comm _ 4294967296]
            exact Nat.mul_lt_mul_of_lt_of_le hgB' (Nat.le_of_lt HvB.out) (Nat.lt_of_lt_of_le Hv0.out (Nat.le_of_lt HvB.out))
          have HT2' := HT2.out
          have HT3' := HT3.out
          rw [← HGF.out] at HT2' HT3'
          have HT2 := Lib.hid HT2'; have HT3 := Lib.hid HT3'
          clear HT2' HT3'
          (with_reducible refine (take_any gu j (nb + 1) (cu - j) (na + 1) cu gv nb cv gf w.heap.size lu lv wz HOZ.out hlu.out (by omega) (by omega) (by omega) (by omega) HNZ.out HNE.out hgB' (by rw [HLVL.out]; exact Nat.le_succ nb) hT).mono ?_)
          rintro e wt ⟨lt, rb, rfl, hrb, hOt, hlt, hgt, hst, hwt⟩
          have hQt := HQZ.out.keptBy hgt HQU.out
          have hBt := HBZ.out.grown hgt HBZ.out.size (fun k hk => by cases hk; exact hguw)
          have hNt := HNZ.out.keptBy hgt HNE.out
          have hwl := winv_lt hOt.lt j (nb + 1)
          clear hT
          by_cases hr1 : rb = 1
          · subst hr1
            rw [Nat.mul_one] at hwt
            have hg1 : 1 ≤ gf := by
              rcases Nat.eq_zero_or_pos gf with h0 | h0
              · exfalso
                rw [h0, Nat.zero_mul, Nat.add_zero] at hwt
                omega
              · exact h0
            have hgv := give_any gu j (nb + 1) (cu - j) (na + 1) cu gv nb cv w.heap.size lt lv wt hOt hlt (by omega) (by omega) (by omega) (by omega) hNt HNE.out (by rw [HLVL.out]; exact Nat.le_succ nb)
            obtain ⟨gm, hgm⟩ : ∃ gm, gm = gf - 1 := ⟨_, rfl⟩
            have hgmi : (gf : Int) - 1 = (gm : Int) := by omega
            have hQB := Lib.hid (show gm < 4294967296 by omega)
            have hgmb : gm < 4294967296 := by omega
            have HGV := Lib.hid hgv; have HWT := Lib.hid hwt; have HWL := Lib.hid hwl; have HST := Lib.hid hst; have HQT := Lib.hid hQt; have HBT := Lib.hid hBt; have HNT := Lib.hid hNt; have HGM := Lib.hid hgm
            clear hgv hwt hwl hst hQt hBt hNt hOt hlt hgt hgm
            go_wp2_with fail
            rw [show j + nb + 1 - j = nb + 1 from by omega]
            (with_reducible refine HGV.out.mono ?_); rintro e wg ⟨lg, rg, rfl, hOg, hlg, hgg, hsg, hwg⟩
            obtain ⟨e1, e2, _⟩ := round_over Hv0.out (Nat.lt_trans HvB.out (Nat.pow_lt_pow_right (by decide) (Nat.lt_succ_self nb))) HT3.out HWT.out HWL.out hwg (winv_lt hOg.lt j (nb + 1))
            have hsame : ∀ i, i < j ∨ j + (nb + 1) ≤ i → gd lg i = gd lu i := fun i hi => (hsg i hi).trans (HST.out i hi)
            rw [← HGM.out] at e1
            have HQX := Lib.hid (HQT.out.keptBy hgg HQU.out)
            have HBX := Lib.hid (HBT.out.grown hgg HBT.out.size (fun k hk => by cases hk; exact hguw))
            have HNX := Lib.hid (HNT.out.keptBy hgg HNE.out)
            have HOX := Lib.hid hOg; have HLX := Lib.hid hlg; have HWX := Lib.hid e2; have HQD := Lib.hid e1; have HSX := Lib.hid hsame
            clear e1 e2 hsame hOg hlg hgg hsg hwg
            have hOqx := HQX.out.cell hlq.out j (by omega)
            have hfqx := HQX.out.frozen hlq.out j
            have hqmod : (gm : Int) % 4294967296 = (gm : Int) := by omega
            have hgrq := HQX.out.grown hlq.out j gm
            have HGRQ := Lib.hid hgrq
            clear hgrq
            go_wp2_with fail
            go_roundw
            case rel =>
              have h1 := HQX.out.stored hlq.out j gm hQB.out
              obtain ⟨e1, e2, e3⟩ := round_inv (lq := lq) (qd := gm) rfl HWX.out HQD.out HK3.out HSX.out (by rw [hlq.out]; omega) (hzq.out j (by omega)) hinv.out
              refine ⟨j, lg, lq.set j gm, by omega, rfl, HOX.out.keptBy HGRQ.out HQU.out.symm, HLX, h1, Lib.hid (by rw [List.length_set]; exact hlq.out), Lib.hid (HNX.out.keptBy HGRQ.out HQV.out), HBX.out.setCell hszw6 _, Lib.hid e1, Lib.hid ?_, Lib.hid ?_⟩
              · intro i hi
                rw [gd_set, if_neg (by omega)]; exact hzq.out i (by omega)
              · rw [e3]; exact Nat.mod_lt _ Hv0.out
            case measure => simp [intOf]
          · obtain rfl : rb = 0 := by omega
            rw [Nat.mul_zero, Nat.add_zero] at hwt
            obtain ⟨e1, e2⟩ := round_right Hv0.out HT2.out hwt
            have hQB := Lib.hid hgB'
            have HQX := Lib.hid hQt; have HBX := Lib.hid hBt; have HNX := Lib.hid hNt; have HOX := Lib.hid hOt; have HLX := Lib.hid hlt; have HWX := Lib.hid e2; have HQD := Lib.hid e1; have HSX := Lib.hid hst
            clear e1 e2 hQt hBt hNt hOt hlt hst hwt hwl hgt hr1
            have hOqx := HQX.out.cell hlq.out j (by omega)
            have hfqx := HQX.out.frozen hlq.out j
            have hqmod : (gf : Int) % 4294967296 = (gf : Int) := by omega
            have hgrq := HQX.out.grown hlq.out j gf
            have HGRQ := Lib.hid hgrq
            clear hgrq
            go_wp2_with fail
            go_roundw
            case rel =>
              have h1 := HQX.out.stored hlq.out j gf hQB.out
              obtain ⟨e1, e2, e3⟩ := round_inv (lq := lq) (qd := gf) rfl HWX.out HQD.out HK3.out HSX.out (by rw [hlq.out]; omega) (hzq.out j (by omega)) hinv.out
              refine ⟨j, lt, lq.set j gf, by omega, rfl, HOX.out.keptBy HGRQ.out HQU.out.symm, HLX, h1, Lib.hid (by rw [List.length_set]; exact hlq.out), Lib.hid (HNX.out.keptBy HGRQ.out HQV.out), HBX.out.setCell hszw6 _, Lib.hid e1, Lib.hid ?_, Lib.hid ?_⟩
              · intro i hi
                rw [gd_set, if_neg (by omega)]; exact hzq.out i (by omega)
              · rw [e3]; exact Nat.mod_lt _ Hv0.out
            case measure => simp [intOf]
end Go.Proofs.YtdepoikifneggaaDoor
