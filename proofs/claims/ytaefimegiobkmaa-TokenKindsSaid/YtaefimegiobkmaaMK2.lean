/-
  The texts Nat11, Nat12, NatMath9, Bld, Text, NatLaw0, TokSplit, TokLaw0, TokMath4, Bytes, TokText, TokLaw2, TokLaw3, RatMath, RatMath2, Nat14, Nat22, Nat23, Rat0, Rat1, Rat2, Rat4, Rat5, Rat6, Rat7, one behind the other (what the law leans on).
  Conditions: each theorem's own.
-/
import Derived.Deep.RegionHeld3
import Derived.Deep.DeepCutAuto
import Derived.IntWalk
import Derived.Shelf.Strings.Builder1
import Derived.LoopN
import Derived.Handy
import Derived.Lib.TrimByte
import Derived.StillTailTactics
import Derived.Test.YtaefimegiobkmaaMK1
/-
  natural.Div: long division.
  Conditions: each theorem's own.
-/
namespace Go.Proofs.Ytaefimegiobkmaa
open Go.RowKit Go.ChangeShapes Go.WideShapes

set_option maxRecDepth 100000 in
set_option maxHeartbeats 16000000 in
theorem div_long (va vb : Value) (a b : List Nat) (w : World) (ha : Num w va a) (hb : Num w vb b) (hla : a.length ≤ 800000) (hlb : b.length ≤ 800000) (hge : val b ≤ val a) (hbig : 4294967296 ≤ val b) :
    Calls Try.prog 65 #[va, vb] w (RetDiv w (val a / val b) (val a % val b) (errV 0)) := by
  rw [errV_zero]
  have hl1 := wd_length_le ha.lt
  have hl2 := wd_length_le hb.lt
  have hcn := cmpN_nlt hge
  have hab := wd_length_mono hge
  have hnb2 := wd_two hbig
  obtain ⟨_, hx0, hbl⟩ := wd_top (show val b ≠ 0 by omega)
  have hAl := val_lt (u32_wd (val a))
  rw [val_wd] at hAl
  obtain ⟨A, hA⟩ : ∃ A, A = val a := ⟨_, rfl⟩
  obtain ⟨Bv, hBv⟩ : ∃ Bv, Bv = val b := ⟨_, rfl⟩
  obtain ⟨la, hla1⟩ : ∃ la, la = wd A := ⟨_, rfl⟩
  obtain ⟨lb, hlb1⟩ : ∃ lb, lb = wd Bv := ⟨_, rfl⟩
  rw [← hA, ← hla1] at hl1 hAl
  rw [← hBv, ← hlb1] at hl2
  rw [← hA, ← hBv, ← hla1, ← hlb1] at hab
  rw [← hBv, ← hlb1] at hnb2 hx0 hbl
  rw [← hA, ← hBv] at hge hcn ⊢
  rw [← hBv] at hbig
  obtain ⟨na, hna⟩ : ∃ na, na = la.length := ⟨_, rfl⟩
  obtain ⟨nb, hnb⟩ : ∃ nb, nb = lb.length := ⟨_, rfl⟩
  rw [← hna] at hl1 hab hAl
  rw [← hnb] at hl2 hab hnb2 hx0 hbl
  have hub : U32 lb := by rw [hlb1]; exact u32_wd _
  have hxl := hub (nb - 1)
  obtain ⟨x, hx⟩ : ∃ x, x = gd lb (nb - 1) := ⟨_, rfl⟩
  rw [← hx] at hx0 hbl hxl
  obtain ⟨s, hs⟩ : ∃ s, s = 32 - blen x := ⟨_, rfl⟩
  obtain ⟨hVB, hVlo, hs32⟩ := norm_top (show Bv ≠ 0 by omega) hbl hx0 hxl (by omega) hs
  have hlz : ∀ wx : World, Calls Try.prog 85 #[.int .u32 x] wx (RetS wx (.int .i64 (s : Nat))) := fun wx => by
    have h := Try.bits_LeadingZeros32 x wx (by omega) (by omega)
    rw [Int.toNat_natCast, bitLen_eq x hxl] at h
    have h32 : blen x ≤ 32 := blen_le hxl
    rw [show (32 - (blen x : Int)) = (s : Int) by omega] at h
    exact h.mono fun _ _ ⟨h1, h2⟩ => ⟨h1, h2.symm⟩
  have HA := Lib.hid hA; have HBV := Lib.hid hBv; have HLA := Lib.hid hla1; have HLB := Lib.hid hlb1; have HNA := Lib.hid hna; have HNB := Lib.hid hnb; have HX := Lib.hid hx; have HLZ := Lib.hid hlz
  have HVB := Lib.hid hVB; have HVLO := Lib.hid hVlo; have HAL := Lib.hid hAl
  clear hA hBv hla1 hlb1 hna hnb hx hs hlz hVB hVlo hub hbl hx0 hAl
  go_enter Try.func65, Try.ntmps65
  go_wp2_with fail
  (with_reducible refine (trim_any _ _ _ ha (by omega)).mono ?_); rintro e w1 ⟨v1, l1, rfl, hb1, hn1, hl1'⟩
  go_wp2_with fail
  (with_reducible refine (trim_any _ _ _ (hb.below hb1) (by omega)).mono ?_); rintro e w2 ⟨v2, l2, rfl, hb2, hn2, hl2'⟩
  have hn1 := hn1.below hb2
  have hb12 := hb1.trans (hb2.mono hb1.size)
  rw [← HA.out, ← HLA.out] at hl1'
  rw [← HBV.out, ← HLB.out] at hl2'
  rw [hl1'] at hn1
  rw [hl2'] at hn2
  clear hl1' hl2'
  have hc := cmp_any _ _ _ _ _ hn1 hn2 (by rw [← HNA.out]; omega) (by rw [← HNB.out]; omega)
  rw [HLA.out, HLB.out, val_wd, val_wd] at hc
  obtain ⟨r, hr⟩ : ∃ r, r = cmpN A Bv := ⟨_, rfl⟩
  rw [← hr] at hc hcn
  obtain ⟨ao, ca, rfl, hca, hca2, _⟩ := hn1.shape
  obtain ⟨bo, cb, rfl, hcb, hcb2, _⟩ := hn2.shape
  rw [← HNA.out] at hn1 hca ⊢
  rw [← HNB.out] at hn2 hcb ⊢
  rw [← HNA.out, ← HNB.out] at hc
  have HC := Lib.hid hc; have HN1 := Lib.hid hn1; have HN2 := Lib.hid hn2
  clear hc hn1 hn2 hb1 hb2 ha hb hr
  go_wp2_with fail
  (with_reducible refine HC.out.mono ?_); rintro e w3 ⟨rfl, hb3⟩
  have hb13 := hb12.trans (hb3.mono hb12.size)
  have hn2' := HN2.out.below hb3
  obtain ⟨bb, ob, rfl, _, hcell⟩ := hn2'.at (by omega)
  have hc0 := hcell (nb - 1) (by omega)
  rw [← HX.out] at hc0
  have hv := left_any _ lb s w3 hn2' (by rw [← HNB.out]; omega) hs32
  have HVC := Lib.hid hv; have HN1 := Lib.hid (HN1.out.below hb3)
  clear hcell hn2' hv hb3 hb12
  go_wp2_with fail
  (with_reducible refine (HLZ.out _).mono ?_); rintro e w' ⟨rfl, rfl⟩
  go_wp2_with fail
  (with_reducible refine HVC.out.mono ?_); rintro e w4 ⟨vv, lv0, rfl, hb4, hO4, hlen4, hval4⟩
  rw [← HNB.out] at hlen4
  rw [HLB.out, val_wd] at hval4
  obtain ⟨gv, cv, rfl, hgv⟩ := hO4.head (by rw [hlen4]; omega)
  rw [hlen4] at hO4 ⊢
  have hgv4 := hO4.block
  obtain ⟨hcv1, hcv2⟩ := hO4.num.cap
  have hu := left_any _ la s w4 (HN1.out.below hb4) (by rw [← HNA.out]; omega) hs32
  have hszb : w.heap.size ≤ w3.heap.size := hb13.size
  have hb14 := hb13.trans (hb4.mono hb13.size)
  have HU := Lib.hid hu; have HO4 := Lib.hid hO4; have HL4 := Lib.hid hlen4; have HV4 := Lib.hid hval4
  clear hu hO4 hlen4 hval4 hb4 hb13
  go_wp2_with fail
  (with_reducible refine HU.out.mono ?_); rintro e w5 ⟨vu, lu0, rfl, hb5, hO5, hlen5, hval5⟩
  rw [← HNA.out] at hlen5
  rw [HLA.out, val_wd] at hval5
  obtain ⟨gu, cu, rfl, hgu⟩ := hO5.head (by rw [hlen5]; omega)
  rw [hlen5] at hO5 ⊢
  have hgu5 := hO5.block
  obtain ⟨hcu1, hcu2⟩ := hO5.num.cap
  have hb15 := hb14.trans (hb5.mono hb14.size)
  have hNV := (hO4n HO4.out nb (by rw [HL4.out]; omega)).below hb5
  obtain ⟨lv, hlv⟩ : ∃ lv, lv = lv0.take nb := ⟨_, rfl⟩
  rw [← hlv] at hNV
  have hlvl : lv.length = nb := by rw [hlv, List.length_take, HL4.out]; omega
  have hvv : val lv = Bv * 2 ^ s := by rw [hlv, take_all HO4.out.lt (by rw [HV4.out]; exact HVB.out), HV4.out]
  have hO4' := HO4.out.below hb5
  have hcv1' := hO4'.cell HL4.out (nb - 1) (by omega)
  have hcv2' := hO4'.cell HL4.out (nb - 2) (by omega)
  have hg1 : gd lv0 (nb - 1) = gd lv (nb - 1) := by rw [hlv, gd_take, if_pos (by omega)]
  have hg2 : gd lv0 (nb - 2) = gd lv (nb - 2) := by rw [hlv, gd_take, if_pos (by omega)]
  rw [hg1] at hcv1'
  rw [hg2] at hcv2'
  have hVlo : 2147483648 * 4294967296 ^ (nb - 1) ≤ val lv := by rw [hvv]; exact HVLO.out
  have hd2 := div_two hNV.lt hlvl hnb2 hVlo
  have htl := hNV.lt (nb - 1)
  have hnl := hNV.lt (nb - 2)
  obtain ⟨top, htop⟩ : ∃ top, top = gd lv (nb - 1) := ⟨_, rfl⟩
  obtain ⟨next, hnext⟩ : ∃ next, next = gd lv (nb - 2) := ⟨_, rfl⟩
  rw [← htop] at hcv1' htl hd2
  rw [← hnext] at hcv2' hnl hd2
  have ht31 := hd2.1
  have hfr := first_round (k := na + 1 - nb) hO5.lt HAL.out hval5 hs32 (by omega) (by omega) hVlo
  obtain ⟨mq, hnq⟩ : ∃ mq, mq = na + 1 - nb := ⟨_, rfl⟩
  rw [← hnq] at hfr
  have hnqb : mq ≤ 70368744177664 := by omega
  have hmq : mq + nb = na + 1 := by omega
  have hguv : gv ≠ gu := by omega
  have hguw : w.heap.size ≤ gu := by have := hb14.size; omega
  have HO5 := Lib.hid (hO5.base hb14.size); have HL5 := Lib.hid hlen5; have HV5 := Lib.hid hval5; have HNV := Lib.hid hNV; have HLVL := Lib.hid hlvl; have HVV := Lib.hid hvv; have HTOP := Lib.hid htop; have HNEXT := Lib.hid hnext; have HFR := Lib.hid hfr; have HNQ := Lib.hid hnq; have HNE := Lib.hid hguv; have HVLO := Lib.hid hVlo
  have hni : (na : Int) + 1 - (nb : Int) = (mq : Int) := by omega
  have HNI := Lib.hid hni; have HMQ := Lib.hid hmq
  have HB15 := Lib.hid hb15
  clear hO5 hlen5 hval5 hNV hlvl hvv htop hnext hfr hguv hVlo hlv hO4' hg1 hg2 hd2 hb5 hb14 hb15 hni hnq hmq
  go_wp2_with fail
  go_quiet (fail)
  have hq1 : (w5.drewN nq).heap.size = w5.heap.size := rfl
  have HNV := Lib.hid (HNV.out.below (below_drewN (Below.refl _ _) nq))
  have HO5 := Lib.hid (HO5.out.below (below_drewN (Below.refl _ _) nq))
  have hb16 := below_drewN HB15.out nq
  obtain ⟨w6, hw6⟩ : ∃ w6, w6 = w5.drewN nq := ⟨_, rfl⟩
  rw [← hw6] at HNV HO5 hb16 hq1 ⊢
  have HB16 := Lib.hid hb16
  have hgu6 : gu < w6.heap.size := by rw [hq1]; exact hgu5.2
  have hmqi : mq + nb ≤ na + 1 ∧ na + 1 ≤ mq + nb := by have := HMQ.out; omega
  clear hw6 hq1 hb16 hcv1' hcv2'
  go_wp2_with (at_make; refine wpList_makeN Try.wordsTy rfl _ _ rfl _ _ _ _ mq rfl rfl ?c1 ?c2 hnqb ?_)
  case c1 => exact HNI.out
  case c2 => exact HNI.out
  intro w7 hO7 hB7 hsz7
  have hszw6 := HB16.out.size
  have hO7 := hO7.base hszw6
  have HB17 := Lib.hid (HB16.out.trans (hB7.mono hszw6))
  obtain ⟨gq, hgq⟩ : ∃ gq, gq = w6.heap.size := ⟨_, rfl⟩
  rw [← hgq] at hO7 hsz7 hgu6 hszw6 ⊢
  have hqu : gq ≠ gu := by omega
  have hqv : gv ≠ gq := by omega
  have HQU := Lib.hid hqu; have HQV := Lib.hid hqv
  have HNV := Lib.hid (HNV.out.below hB7)
  have HO5 := Lib.hid (HO5.out.below hB7)
  have hval0 : val lu0 + val lv * val (List.replicate mq 0) = A * 2 ^ s := by rw [val_zeros, Nat.mul_zero, Nat.add_zero]; exact HV5.out
  have HVAL0 := Lib.hid hval0; have HO7 := Lib.hid hO7; have HGQ := Lib.hid hgq
  clear hqu hqv hval0 hO7 hB7 hgq
  go_wp2_with fail
  rw [HNI.out]
  go_loopw [14] (fun jv wr => ∃ (k : Nat) (lu lq : List Nat), k ≤ mq ∧ jv = .int .i64 ((k : Int) - 1) ∧ OwnW 70 wr w.heap.size (.slice (some ⟨gu, 0, none⟩) (na + 1) cu) lu ∧ Hid (lu.length = na + 1) ∧
      OwnW 70 wr w.heap.size (.slice (some ⟨gq, 0, none⟩) mq mq) lq ∧ Hid (lq.length = mq) ∧ Hid (Num wr (.slice (some ⟨gv, 0, none⟩) nb cv) lv) ∧ Below w.heap.size w wr ∧
      Hid (val lu + val lv * val lq = A * 2 ^ s) ∧ Hid (∀ i, i < k → gd lq i = 0) ∧ Hid (val (lu.drop k) < val lv)) (fun jv _ => (intOf jv + 1).toNat)
  case atStart => exact ⟨mq, lu0, List.replicate mq 0, Nat.le_refl _, rfl, HO5.out, HL5, HO7.out, Lib.hid (by simp), HNV, HB17.out, HVAL0, Lib.hid (fun i _ => by rw [gd_replicate]; split <;> rfl), HFR⟩
  case round =>
    obtain ⟨k, lu, lq, hk, rfl, hOu, hlu, hOq, hlq, hNv, hBr, hinv, hzq, hdr⟩ := hrel
    obtain ⟨wo, rfl⟩ : ∃ wo : World, wo = wr := ⟨_, rfl⟩
    by_cases hk0 : k = 0
    · subst hk0
      have hi0 := hinv.out
      have hd0 := hdr.out
      rw [List.drop_zero] at hd0
      rw [HVV.out] at hi0 hd0
      obtain ⟨e1, e2⟩ := div_scaled (Nat.two_pow_pos s) hi0 hd0
      have htr := trim_any _ _ _ hOq.num (by rw [hlq.out]; omega)
      rw [e1] at htr
      have HTR := Lib.hid htr; have E2 := Lib.hid e2; have HOU := Lib.hid hOu
      clear htr e1 e2 hi0 hd0 hOq hOu
      have hlu' := hlu.out
      have hlq' : lq.length ≤ 800001 := by rw [hlq.out]; omega
      go_wp2_with fail
      (with_reducible refine HTR.out.mono ?_); rintro e wa ⟨va1, la1, rfl, hba, hna1, hla1⟩
      have hrt := right_any _ lu s wa (HOU.out.num.below hba) (by rw [hlu.out]; omega) hs32
      rw [hlu.out] at hrt
      have HRT := Lib.hid hrt; have HLA1 := Lib.hid hla1; have HNA1 := Lib.hid hna1
      clear hrt hla1 hna1
      go_wp2_with fail
      (with_reducible refine HRT.out.mono ?_); rintro e wb ⟨vb1, lb1, rfl, hbb, hob, hlb1, hvb1⟩
      have htr := trim_any _ _ _ hob.num (by rw [hlb1]; omega)
      rw [hvb1, E2.out] at htr
      have HTR := Lib.hid htr
      clear htr hlb1 hvb1
      go_wp2_with fail
      (with_reducible refine HTR.out.mono ?_); rintro e wc ⟨vc1, lc1, rfl, hbc, hnc, hlc⟩
      go_wp2_with fail
      go_ret3
      have h1 := hBr.trans (hba.mono hBr.size)
      have h2 := h1.trans (hbb.mono h1.size)
      have h3 := h2.trans (hbc.mono h2.size)
      exact ⟨_, _, rfl, h3, by rw [← HLA1.out]; exact (HNA1.out.below hbb).below hbc, by rw [← hlc]; exact hnc⟩
    · obtain ⟨j, rfl⟩ : ∃ j, k = j + 1 := ⟨k - 1, by omega⟩
      have hj1 : ((j + 1 : Nat) : Int) - 1 = (j : Int) := by omega
      rw [hj1]
      clear hj1
      have hvB : val lv < 4294967296 ^ nb := by rw [HVV.out]; exact HVB.out
      have hv0 : 0 < val lv := Nat.lt_of_lt_of_le (Nat.mul_pos (by decide) (Nat.pow_pos (by decide))) HVLO.out
      obtain ⟨k1, k2, k3⟩ := round_head (j := j) hOu.lt hvB hdr.out
      obtain ⟨t1, t2, t3⟩ := div_round (j := j) hOu.lt HNV.out.lt HLVL.out hnb2 HVLO.out k2
      have hc1 := hOu.cell hlu.out (j + nb) (by omega)
      have hc2 := hOu.cell hlu.out (j + nb - 1) (by omega)
      have hc3 := hOu.cell hlu.out (j + nb - 2) (by omega)
      have hu1l := hOu.lt (j + nb)
      have hu0l := hOu.lt (j + nb - 1)
      have hu2l := hOu.lt (j + nb - 2)
      obtain ⟨u1, hu1⟩ : ∃ u1, u1 = gd lu (j + nb) := ⟨_, rfl⟩
      obtain ⟨u0, hu0⟩ : ∃ u0, u0 = gd lu (j + nb - 1) := ⟨_, rfl⟩
      obtain ⟨u2, hu2⟩ : ∃ u2, u2 = gd lu (j + nb - 2) := ⟨_, rfl⟩
      rw [← hu1] at hc1 hu1l t1 t2 t3
      rw [← hu0] at hc2 hu0l t2 t3
      rw [← hu2] at hc3 hu2l t2 t3
      rw [← HTOP.out] at t1 t2 t3
      rw [← HNEXT.out] at t2 t3
      have hor := or_words' u0 u1 hu0l hu1l
      have hhb : u1 * 4294967296 + u0 ≤ top * 4294967296 + 4294967295 := by omega
      have hgl := guess_le (u0 := u0) ht31 t1 hu0l
      have hf1 := fit_first (top := top) (next := next) (head := u1 * 4294967296 + u0) (low := u2) (by omega) hu2l
      obtain ⟨hd, hhd⟩ : ∃ hd, hd = u1 * 4294967296 + u0 := ⟨_, rfl⟩
      rw [← hhd] at hor hhb hgl hf1 t2 t3
      have hhd64 : hd < 18446744073709551616 := by omega
      obtain ⟨g0, hg0⟩ : ∃ g0, g0 = hd / top := ⟨_, rfl⟩
      obtain ⟨r0, hr0⟩ : ∃ r0, r0 = hd % top := ⟨_, rfl⟩
      have hg0i : (hd : Int) / (top : Int) = (g0 : Int) := by rw [hg0]; simp
      have hr0i : (hd : Int) % (top : Int) = (r0 : Int) := by rw [hr0]; simp
      have hr0l : r0 < top := by rw [hr0]; exact Nat.mod_lt _ (by omega)
      have hsum : g0 * top + r0 = hd := by rw [hg0, hr0, Nat.mul_comm]; exact Nat.div_add_mod hd top
      rw [← hg0] at hgl hf1
      have HK1 := Lib.hid k1; have HK2 := Lib.hid k2; have HK3 := Lib.hid k3; have HT2 := Lib.hid t2; have HT3 := Lib.hid t3; have HF1 := Lib.hid hf1; have HSUM := Lib.hid hsum; have HOU := Lib.hid hOu; have HOQ := Lib.hid hOq; have HHB := Lib.hid hhb
      have HvB := Lib.hid hvB; have Hv0 := Lib.hid hv0; have HBO := Lib.hid hBr; have HHD := Lib.hid hhd
      have HG0I := Lib.hid hg0i; have HR0I := Lib.hid hr0i
      clear k1 k2 k3 t1 t2 t3 hf1 hsum hOu hOq hhb hvB hv0 hu1 hu0 hu2 hhd hg0 hr0 hBr hg0i hr0i
      go_wp2_with fail
      obtain ⟨F, hF⟩ : ∃ F, F = fit (hd * 4294967296 + u2) (top * 4294967296 + next) := ⟨_, rfl⟩
      rw [← hF] at HF1 HT2 HT3
      have hFB : F < 4294967296 := by rw [hF]; exact Nat.lt_of_le_of_lt (Nat.min_le_left _ _) (by decide)
      have HF := Lib.hid hF
      clear hF
      go_quiet (fail)
      go_wp2_with fail
      have hby := below_drewN (Below.refl wo.heap.size wo) nq
      obtain ⟨wy, hwy⟩ : ∃ wy, wy = wo.drewN nq := ⟨_, rfl⟩
      rw [← hwy] at hby ⊢
      have HBY := Lib.hid hby
      clear hwy hby
      have hg0i := HG0I.out
      go_quiet (fail)
      clear hg0i
      have hbz := below_drewN HBY.out nq
      obtain ⟨wz, hwz⟩ : ∃ wz, wz = wy.drewN nq := ⟨_, rfl⟩
      rw [← hwz] at hbz ⊢
      have HOZ := Lib.hid (HOU.out.below hbz)
      have HQZ := Lib.hid (HOQ.out.below hbz)
      have HNZ := Lib.hid (hNv.out.below hbz)
      have HBZ := Lib.hid (HBO.out.trans (hbz.mono HBO.out.size))
      have hc3' : wz.cell? ⟨gu, j + nb - 2, none⟩ = some (.int .u32 (u2 : Nat)) := by rw [hbz.cell (p := ⟨gu, j + nb - 2, none⟩) HOU.out.block.2]; exact hc3
      clear hwz hbz hc1 hc2 hc3
      go_wp2_with fail
      go_loop [16, 17] (fun gx rx => ∃ g r : Nat, gx = .int .u64 g ∧ rx = .int .u64 r ∧ r < 4294967296 ∧ g ≤ 4294967297 ∧ Hid (g * top + r = hd) ∧ Hid (F ≤ g)) (fun gx _ => (intOf gx).toNat)
      case atStart => exact ⟨g0, r0, rfl, by rw [HR0I.out], by omega, hgl, HSUM, HF1⟩
      case round =>
        obtain ⟨g, r1, rfl, rfl, hrl, hgl1, hgs, hgF⟩ := hrel
        have hct := hgF.out
        have htest := fit_test (next := next) (low := u2) (show 0 < top by omega) hgs.out
        rw [← HF.out] at htest
        by_cases hFg : F < g
        · have hg1 : 1 ≤ g := by omega
          have hgd := guess_down hgs.out (by omega)
          obtain ⟨gf, hgf⟩ : ∃ gf, gf = g - 1 := ⟨_, rfl⟩
          obtain ⟨rf, hrf⟩ : ∃ rf, rf = r1 + top := ⟨_, rfl⟩
          rw [← hgf, ← hrf] at hgd
          have hgfi : (g : Int) - 1 = (gf : Int) := by omega
          have hrfi : (r1 : Int) + (top : Int) = (rf : Int) := by omega
          have hrf64 : rf < 8589934592 := by omega
          have hFg' : F ≤ gf := by omega
          have hgf2 : gf ≤ 4294967297 := by omega
          have hgm : gf < g := by omega
          have hgrest : 4294967296 ≤ rf → gf = F := by
            intro hrr
            have hgfB : gf < 4294967296 := by
              rcases Nat.lt_or_ge gf 4294967296 with h | h
              · exact h
              · exfalso
                have : 4294967296 * top ≤ gf * top := Nat.mul_le_mul_right _ h
                have := HHB.out
                omega
            have := fit_rest (low := u2) (show 0 < top by omega) hgd hnl hgfB hrr
            rw [← HF.out] at this
            omega
          have hor2 := or_words' u2 r1 hu2l hrl
          have hRl : r1 * 4294967296 + u2 < 18446744073709551616 := by omega
          obtain ⟨R, hR⟩ : ∃ R, R = r1 * 4294967296 + u2 := ⟨_, rfl⟩
          rw [← hR] at hor2 htest hRl
          have HGREST := Lib.hid hgrest; have HGD := Lib.hid hgd
          have htest := htest.2 hFg
          obtain ⟨p, hp⟩ : ∃ p, p = g * next := ⟨_, rfl⟩
          have hpi : (g : Int) * (next : Int) = (p : Int) := by rw [hp]; rfl
          have hpl : g < 4294967296 → p < 18446744073709551616 := fun h => by have := word_mul h hnl; rw [hp]; omega
          rw [← hp] at htest
          clear hgrest hgd hgf hrf hR hp hct
          by_cases hrr : 4294967296 ≤ rf
          · have hgF := Lib.hid (HGREST.out hrr)
            have hrri : decide ((4294967296 : Int) ≤ (rf : Int)) = true := by simp; omega
            have HTEST := Lib.hid htest; clear htest
            by_cases hgB : 4294967296 ≤ g
            · clear hpl
              have hgBi : decide ((4294967296 : Int) ≤ (g : Int)) = true := by simp; omega
              have HGF := hgF
              go_wp2_with fail
              clear hgfi hrfi hor2 hpi hg1 hrr hgB hrri hgBi
              rw [show j + nb + 1 - j = nb + 1 from by omega]
              have hgB' : gf < 4294967296 := by rw [HGF.out]; exact hFB
              have hT : gf * val lv < 4294967296 ^ (nb + 1) := by
                rw [Nat.pow_succ, Nat.mul_comm _ 4294967296]
                exact Nat.mul_lt_mul_of_lt_of_le hgB' (Nat.le_of_lt HvB.out) (Nat.lt_of_lt_of_le Hv0.out (Nat.le_of_lt HvB.out))
              have HT2' := HT2.out
              have HT3' := HT3.out
              rw [← HGF.out] at HT2' HT3'
              have HT2 := Lib.hid HT2'; have HT3 := Lib.hid HT3'
              clear HT2' HT3'
              (with_reducible refine (take_any gu j (nb + 1) (cu - j) (na + 1) cu gv nb cv gf w.heap.size lu lv wz HOZ.out hlu.out (by omega) (by omega) (by omega) (by omega) HNZ.out HNE.out hgB' (by rw [HLVL.out]; exact Nat.le_succ nb) hT).mono ?_)
              rintro e wt ⟨lt, rb, rfl, hrb, hOt, hlt, hgt, hst, hwt⟩
              have hQt := HQZ.out.keptBy hgt HQU.out
              have hBt := HBZ.out.grown hgt HBZ.out.size (fun k hk => by cases hk; exact hguw)
              have hNt := HNZ.out.keptBy hgt HNE.out
              have hwl := winv_lt hOt.lt j (nb + 1)
              clear hT
              by_cases hr1 : rb = 1
              · subst hr1
                rw [Nat.mul_one] at hwt
                have hg1 : 1 ≤ gf := by
                  rcases Nat.eq_zero_or_pos gf with h0 | h0
                  · exfalso
                    rw [h0, Nat.zero_mul, Nat.add_zero] at hwt
                    omega
                  · exact h0
                have hgv := give_any gu j (nb + 1) (cu - j) (na + 1) cu gv nb cv w.heap.size lt lv wt hOt hlt (by omega) (by omega) (by omega) (by omega) hNt HNE.out (by rw [HLVL.out]; exact Nat.le_succ nb)
                obtain ⟨gm, hgm⟩ : ∃ gm, gm = gf - 1 := ⟨_, rfl⟩
                have hgmi : (gf : Int) - 1 = (gm : Int) := by omega
                have hQB := Lib.hid (show gm < 4294967296 by omega)
                have hgmb : gm < 4294967296 := by omega
                have HGV := Lib.hid hgv; have HWT := Lib.hid hwt; have HWL := Lib.hid hwl; have HST := Lib.hid hst; have HQT := Lib.hid hQt; have HBT := Lib.hid hBt; have HNT := Lib.hid hNt; have HGM := Lib.hid hgm
                clear hgv hwt hwl hst hQt hBt hNt hOt hlt hgt hgm
                go_wp2_with fail
                rw [show j + nb + 1 - j = nb + 1 from by omega]
                (with_reducible refine HGV.out.mono ?_); rintro e wg ⟨lg, rg, rfl, hOg, hlg, hgg, hsg, hwg⟩
                obtain ⟨e1, e2, _⟩ := round_over Hv0.out (Nat.lt_trans HvB.out (Nat.pow_lt_pow_right (by decide) (Nat.lt_succ_self nb))) HT3.out HWT.out HWL.out hwg (winv_lt hOg.lt j (nb + 1))
                have hsame : ∀ i, i < j ∨ j + (nb + 1) ≤ i → gd lg i = gd lu i := fun i hi => (hsg i hi).trans (HST.out i hi)
                rw [← HGM.out] at e1
                have HQX := Lib.hid (HQT.out.keptBy hgg HQU.out)
                have HBX := Lib.hid (HBT.out.grown hgg HBT.out.size (fun k hk => by cases hk; exact hguw))
                have HNX := Lib.hid (HNT.out.keptBy hgg HNE.out)
                have HOX := Lib.hid hOg; have HLX := Lib.hid hlg; have HWX := Lib.hid e2; have HQD := Lib.hid e1; have HSX := Lib.hid hsame
                clear e1 e2 hsame hOg hlg hgg hsg hwg
                have hOqx := HQX.out.cell hlq.out j (by omega)
                have hfqx := HQX.out.frozen hlq.out j
                have hqmod : (gm : Int) % 4294967296 = (gm : Int) := by omega
                have hgrq := HQX.out.grown hlq.out j gm
                have HGRQ := Lib.hid hgrq
                clear hgrq
                go_wp2_with fail
                go_roundw
                case rel =>
                  have h1 := HQX.out.stored hlq.out j gm hQB.out
                  obtain ⟨e1, e2, e3⟩ := round_inv (lq := lq) (qd := gm) rfl HWX.out HQD.out HK3.out HSX.out (by rw [hlq.out]; omega) (hzq.out j (by omega)) hinv.out
                  refine ⟨j, lg, lq.set j gm, by omega, rfl, HOX.out.keptBy HGRQ.out HQU.out.symm, HLX, h1, Lib.hid (by rw [List.length_set]; exact hlq.out), Lib.hid (HNX.out.keptBy HGRQ.out HQV.out), HBX.out.setCell hszw6 _, Lib.hid e1, Lib.hid ?_, Lib.hid ?_⟩
                  · intro i hi
                    rw [gd_set, if_neg (by omega)]; exact hzq.out i (by omega)
                  · rw [e3]; exact Nat.mod_lt _ Hv0.out
                case measure => simp [intOf]
              · obtain rfl : rb = 0 := by omega
                rw [Nat.mul_zero, Nat.add_zero] at hwt
                obtain ⟨e1, e2⟩ := round_right Hv0.out HT2.out hwt
                have hQB := Lib.hid hgB'
                have HQX := Lib.hid hQt; have HBX := Lib.hid hBt; have HNX := Lib.hid hNt; have HOX := Lib.hid hOt; have HLX := Lib.hid hlt; have HWX := Lib.hid e2; have HQD := Lib.hid e1; have HSX := Lib.hid hst
                clear e1 e2 hQt hBt hNt hOt hlt hst hwt hwl hgt hr1
                have hOqx := HQX.out.cell hlq.out j (by omega)
                have hfqx := HQX.out.frozen hlq.out j
                have hqmod : (gf : Int) % 4294967296 = (gf : Int) := by omega
                have hgrq := HQX.out.grown hlq.out j gf
                have HGRQ := Lib.hid hgrq
                clear hgrq
                go_wp2_with fail
                go_roundw
                case rel =>
                  have h1 := HQX.out.stored hlq.out j gf hQB.out
                  obtain ⟨e1, e2, e3⟩ := round_inv (lq := lq) (qd := gf) rfl HWX.out HQD.out HK3.out HSX.out (by rw [hlq.out]; omega) (hzq.out j (by omega)) hinv.out
                  refine ⟨j, lt, lq.set j gf, by omega, rfl, HOX.out.keptBy HGRQ.out HQU.out.symm, HLX, h1, Lib.hid (by rw [List.length_set]; exact hlq.out), Lib.hid (HNX.out.keptBy HGRQ.out HQV.out), HBX.out.setCell hszw6 _, Lib.hid e1, Lib.hid ?_, Lib.hid ?_⟩
                  · intro i hi
                    rw [gd_set, if_neg (by omega)]; exact hzq.out i (by omega)
                  · rw [e3]; exact Nat.mod_lt _ Hv0.out
                case measure => simp [intOf]
            · have hpl := hpl (by omega)
              have hpR : R < p := by have := HTEST.out; omega
              have hgBi : decide ((4294967296 : Int) ≤ (g : Int)) = false := by simp; omega
              have hpRi : decide (R < p) = true := by simp; omega
              have HGF := hgF
              go_wp2_with fail
              clear hgfi hrfi hor2 hpi hg1 hrr hgB hrri hgBi hpR hpRi hpl
              rw [show j + nb + 1 - j = nb + 1 from by omega]
              have hgB' : gf < 4294967296 := by rw [HGF.out]; exact hFB
              have hT : gf * val lv < 4294967296 ^ (nb + 1) := by
                rw [Nat.pow_succ, Nat.mul_comm _ 4294967296]
                exact Nat.mul_lt_mul_of_lt_of_le hgB' (Nat.le_of_lt HvB.out) (Nat.lt_of_lt_of_le Hv0.out (Nat.le_of_lt HvB.out))
              have HT2' := HT2.out
              have HT3' := HT3.out
              rw [← HGF.out] at HT2' HT3'
              have HT2 := Lib.hid HT2'; have HT3 := Lib.hid HT3'
              clear HT2' HT3'
              (with_reducible refine (take_any gu j (nb + 1) (cu - j) (na + 1) cu gv nb cv gf w.heap.size lu lv wz HOZ.out hlu.out (by omega) (by omega) (by omega) (by omega) HNZ.out HNE.out hgB' (by rw [HLVL.out]; exact Nat.le_succ nb) hT).mono ?_)
              rintro e wt ⟨lt, rb, rfl, hrb, hOt, hlt, hgt, hst, hwt⟩
              have hQt := HQZ.out.keptBy hgt HQU.out
              have hBt := HBZ.out.grown hgt HBZ.out.size (fun k hk => by cases hk; exact hguw)
              have hNt := HNZ.out.keptBy hgt HNE.out
              have hwl := winv_lt hOt.lt j (nb + 1)
              clear hT
              by_cases hr1 : rb = 1
              · subst hr1
                rw [Nat.mul_one] at hwt
                have hg1 : 1 ≤ gf := by
                  rcases Nat.eq_zero_or_pos gf with h0 | h0
                  · exfalso
                    rw [h0, Nat.zero_mul, Nat.add_zero] at hwt
                    omega
                  · exact h0
                have hgv := give_any gu j (nb + 1) (cu - j) (na + 1) cu gv nb cv w.heap.size lt lv wt hOt hlt (by omega) (by omega) (by omega) (by omega) hNt HNE.out (by rw [HLVL.out]; exact Nat.le_succ nb)
                obtain ⟨gm, hgm⟩ : ∃ gm, gm = gf - 1 := ⟨_, rfl⟩
                have hgmi : (gf : Int) - 1 = (gm : Int) := by omega
                have hQB := Lib.hid (show gm < 4294967296 by omega)
                have hgmb : gm < 4294967296 := by omega
                have HGV := Lib.hid hgv; have HWT := Lib.hid hwt; have HWL := Lib.hid hwl; have HST := Lib.hid hst; have HQT := Lib.hid hQt; have HBT := Lib.hid hBt; have HNT := Lib.hid hNt; have HGM := Lib.hid hgm
                clear hgv hwt hwl hst hQt hBt hNt hOt hlt hgt hgm
                go_wp2_with fail
                rw [show j + nb + 1 - j = nb + 1 from by omega]
                (with_reducible refine HGV.out.mono ?_); rintro e wg ⟨lg, rg, rfl, hOg, hlg, hgg, hsg, hwg⟩
                obtain ⟨e1, e2, _⟩ := round_over Hv0.out (Nat.lt_trans HvB.out (Nat.pow_lt_pow_right (by decide) (Nat.lt_succ_self nb))) HT3.out HWT.out HWL.out hwg (winv_lt hOg.lt j (nb + 1))
                have hsame : ∀ i, i < j ∨ j + (nb + 1) ≤ i → gd lg i = gd lu i := fun i hi => (hsg i hi).trans (HST.out i hi)
                rw [← HGM.out] at e1
                have HQX := Lib.hid (HQT.out.keptBy hgg HQU.out)
                have HBX := Lib.hid (HBT.out.grown hgg HBT.out.size (fun k hk => by cases hk; exact hguw))
                have HNX := Lib.hid (HNT.out.keptBy hgg HNE.out)
                have HOX := Lib.hid hOg; have HLX := Lib.hid hlg; have HWX := Lib.hid e2; have HQD := Lib.hid e1; have HSX := Lib.hid hsame
                clear e1 e2 hsame hOg hlg hgg hsg hwg
                have hOqx := HQX.out.cell hlq.out j (by omega)
                have hfqx := HQX.out.frozen hlq.out j
                have hqmod : (gm : Int) % 4294967296 = (gm : Int) := by omega
                have hgrq := HQX.out.grown hlq.out j gm
                have HGRQ := Lib.hid hgrq
                clear hgrq
                go_wp2_with fail
                go_roundw
                case rel =>
                  have h1 := HQX.out.stored hlq.out j gm hQB.out
                  obtain ⟨e1, e2, e3⟩ := round_inv (lq := lq) (qd := gm) rfl HWX.out HQD.out HK3.out HSX.out (by rw [hlq.out]; omega) (hzq.out j (by omega)) hinv.out
                  refine ⟨j, lg, lq.set j gm, by omega, rfl, HOX.out.keptBy HGRQ.out HQU.out.symm, HLX, h1, Lib.hid (by rw [List.length_set]; exact hlq.out), Lib.hid (HNX.out.keptBy HGRQ.out HQV.out), HBX.out.setCell hszw6 _, Lib.hid e1, Lib.hid ?_, Lib.hid ?_⟩
                  · intro i hi
                    rw [gd_set, if_neg (by omega)]; exact hzq.out i (by omega)
                  · rw [e3]; exact Nat.mod_lt _ Hv0.out
                case measure => simp [intOf]
              · obtain rfl : rb = 0 := by omega
                rw [Nat.mul_zero, Nat.add_zero] at hwt
                obtain ⟨e1, e2⟩ := round_right Hv0.out HT2.out hwt
                have hQB := Lib.hid hgB'
                have HQX := Lib.hid hQt; have HBX := Lib.hid hBt; have HNX := Lib.hid hNt; have HOX := Lib.hid hOt; have HLX := Lib.hid hlt; have HWX := Lib.hid e2; have HQD := Lib.hid e1; have HSX := Lib.hid hst
                clear e1 e2 hQt hBt hNt hOt hlt hst hwt hwl hgt hr1
                have hOqx := HQX.out.cell hlq.out j (by omega)
                have hfqx := HQX.out.frozen hlq.out j
                have hqmod : (gf : Int) % 4294967296 = (gf : Int) := by omega
                have hgrq := HQX.out.grown hlq.out j gf
                have HGRQ := Lib.hid hgrq
                clear hgrq
                go_wp2_with fail
                go_roundw
                case rel =>
                  have h1 := HQX.out.stored hlq.out j gf hQB.out
                  obtain ⟨e1, e2, e3⟩ := round_inv (lq := lq) (qd := gf) rfl HWX.out HQD.out HK3.out HSX.out (by rw [hlq.out]; omega) (hzq.out j (by omega)) hinv.out
                  refine ⟨j, lt, lq.set j gf, by omega, rfl, HOX.out.keptBy HGRQ.out HQU.out.symm, HLX, h1, Lib.hid (by rw [List.length_set]; exact hlq.out), Lib.hid (HNX.out.keptBy HGRQ.out HQV.out), HBX.out.setCell hszw6 _, Lib.hid e1, Lib.hid ?_, Lib.hid ?_⟩
                  · intro i hi
                    rw [gd_set, if_neg (by omega)]; exact hzq.out i (by omega)
                  · rw [e3]; exact Nat.mod_lt _ Hv0.out
                case measure => simp [intOf]
          · have hrri : decide ((4294967296 : Int) ≤ (rf : Int)) = false := by simp; omega
            have HTEST := Lib.hid htest; clear htest
            by_cases hgB : 4294967296 ≤ g
            · clear hpl
              have hgBi : decide ((4294967296 : Int) ≤ (g : Int)) = true := by simp; omega
              go_wp2_with fail
              go_round
              case rel => exact ⟨gf, rf, rfl, rfl, by omega, hgf2, HGD, Lib.hid hFg'⟩
              case measure => simp [intOf]; omega
            · have hpl := hpl (by omega)
              have hpR : R < p := by have := HTEST.out; omega
              have hgBi : decide ((4294967296 : Int) ≤ (g : Int)) = false := by simp; omega
              have hpRi : decide (R < p) = true := by simp; omega
              go_wp2_with fail
              go_round
              case rel => exact ⟨gf, rf, rfl, rfl, by omega, hgf2, HGD, Lib.hid hFg'⟩
              case measure => simp [intOf]; omega
        · have hgFe : g = F := by omega
          have HGF := Lib.hid hgFe
          have hneg : ¬(4294967296 ≤ g ∨ r1 * 4294967296 + u2 < g * next) := fun h => hFg (htest.1 h)
          have hgB : g < 4294967296 := by omega
          have hor2 := or_words' u2 r1 hu2l hrl
          have hRl : r1 * 4294967296 + u2 < 18446744073709551616 := by omega
          have hpl := word_mul hgB hnl
          have hnR : ¬ r1 * 4294967296 + u2 < g * next := fun h => hneg (.inr h)
          obtain ⟨R, hR⟩ : ∃ R, R = r1 * 4294967296 + u2 := ⟨_, rfl⟩
          obtain ⟨p, hp⟩ : ∃ p, p = g * next := ⟨_, rfl⟩
          rw [← hR] at hor2 hRl hnR
          rw [← hp] at hpl hnR
          have hpi : (g : Int) * (next : Int) = (p : Int) := by rw [hp]; rfl
          have hgBi : decide ((4294967296 : Int) ≤ (g : Int)) = false := by simp; omega
          have hpRi : decide (R < p) = false := by simp; omega
          obtain ⟨gf, hgf⟩ : ∃ gf, gf = g := ⟨_, rfl⟩
          subst hgf
          clear htest hneg hR hp hgFe hct hgl1 hFg
          go_wp2_with fail
          clear hor2 hpi hgBi hpRi hnR hpl hRl
          rw [show j + nb + 1 - j = nb + 1 from by omega]
          have hgB' : gf < 4294967296 := by rw [HGF.out]; exact hFB
          have hT : gf * val lv < 4294967296 ^ (nb + 1) := by
            rw [Nat.pow_succ, Nat.mul_comm _ 4294967296]
            exact Nat.mul_lt_mul_of_lt_of_le hgB' (Nat.le_of_lt HvB.out) (Nat.lt_of_lt_of_le Hv0.out (Nat.le_of_lt HvB.out))
          have HT2' := HT2.out
          have HT3' := HT3.out
          rw [← HGF.out] at HT2' HT3'
          have HT2 := Lib.hid HT2'; have HT3 := Lib.hid HT3'
          clear HT2' HT3'
          (with_reducible refine (take_any gu j (nb + 1) (cu - j) (na + 1) cu gv nb cv gf w.heap.size lu lv wz HOZ.out hlu.out (by omega) (by omega) (by omega) (by omega) HNZ.out HNE.out hgB' (by rw [HLVL.out]; exact Nat.le_succ nb) hT).mono ?_)
          rintro e wt ⟨lt, rb, rfl, hrb, hOt, hlt, hgt, hst, hwt⟩
          have hQt := HQZ.out.keptBy hgt HQU.out
          have hBt := HBZ.out.grown hgt HBZ.out.size (fun k hk => by cases hk; exact hguw)
          have hNt := HNZ.out.keptBy hgt HNE.out
          have hwl := winv_lt hOt.lt j (nb + 1)
          clear hT
          by_cases hr1 : rb = 1
          · subst hr1
            rw [Nat.mul_one] at hwt
            have hg1 : 1 ≤ gf := by
              rcases Nat.eq_zero_or_pos gf with h0 | h0
              · exfalso
                rw [h0, Nat.zero_mul, Nat.add_zero] at hwt
                omega
              · exact h0
            have hgv := give_any gu j (nb + 1) (cu - j) (na + 1) cu gv nb cv w.heap.size lt lv wt hOt hlt (by omega) (by omega) (by omega) (by omega) hNt HNE.out (by rw [HLVL.out]; exact Nat.le_succ nb)
            obtain ⟨gm, hgm⟩ : ∃ gm, gm = gf - 1 := ⟨_, rfl⟩
            have hgmi : (gf : Int) - 1 = (gm : Int) := by omega
            have hQB := Lib.hid (show gm < 4294967296 by omega)
            have hgmb : gm < 4294967296 := by omega
            have HGV := Lib.hid hgv; have HWT := Lib.hid hwt; have HWL := Lib.hid hwl; have HST := Lib.hid hst; have HQT := Lib.hid hQt; have HBT := Lib.hid hBt; have HNT := Lib.hid hNt; have HGM := Lib.hid hgm
            clear hgv hwt hwl hst hQt hBt hNt hOt hlt hgt hgm
            go_wp2_with fail
            rw [show j + nb + 1 - j = nb + 1 from by omega]
            (with_reducible refine HGV.out.mono ?_); rintro e wg ⟨lg, rg, rfl, hOg, hlg, hgg, hsg, hwg⟩
            obtain ⟨e1, e2, _⟩ := round_over Hv0.out (Nat.lt_trans HvB.out (Nat.pow_lt_pow_right (by decide) (Nat.lt_succ_self nb))) HT3.out HWT.out HWL.out hwg (winv_lt hOg.lt j (nb + 1))
            have hsame : ∀ i, i < j ∨ j + (nb + 1) ≤ i → gd lg i = gd lu i := fun i hi => (hsg i hi).trans (HST.out i hi)
            rw [← HGM.out] at e1
            have HQX := Lib.hid (HQT.out.keptBy hgg HQU.out)
            have HBX := Lib.hid (HBT.out.grown hgg HBT.out.size (fun k hk => by cases hk; exact hguw))
            have HNX := Lib.hid (HNT.out.keptBy hgg HNE.out)
            have HOX := Lib.hid hOg; have HLX := Lib.hid hlg; have HWX := Lib.hid e2; have HQD := Lib.hid e1; have HSX := Lib.hid hsame
            clear e1 e2 hsame hOg hlg hgg hsg hwg
            have hOqx := HQX.out.cell hlq.out j (by omega)
            have hfqx := HQX.out.frozen hlq.out j
            have hqmod : (gm : Int) % 4294967296 = (gm : Int) := by omega
            have hgrq := HQX.out.grown hlq.out j gm
            have HGRQ := Lib.hid hgrq
            clear hgrq
            go_wp2_with fail
            go_roundw
            case rel =>
              have h1 := HQX.out.stored hlq.out j gm hQB.out
              obtain ⟨e1, e2, e3⟩ := round_inv (lq := lq) (qd := gm) rfl HWX.out HQD.out HK3.out HSX.out (by rw [hlq.out]; omega) (hzq.out j (by omega)) hinv.out
              refine ⟨j, lg, lq.set j gm, by omega, rfl, HOX.out.keptBy HGRQ.out HQU.out.symm, HLX, h1, Lib.hid (by rw [List.length_set]; exact hlq.out), Lib.hid (HNX.out.keptBy HGRQ.out HQV.out), HBX.out.setCell hszw6 _, Lib.hid e1, Lib.hid ?_, Lib.hid ?_⟩
              · intro i hi
                rw [gd_set, if_neg (by omega)]; exact hzq.out i (by omega)
              · rw [e3]; exact Nat.mod_lt _ Hv0.out
            case measure => simp [intOf]
          · obtain rfl : rb = 0 := by omega
            rw [Nat.mul_zero, Nat.add_zero] at hwt
            obtain ⟨e1, e2⟩ := round_right Hv0.out HT2.out hwt
            have hQB := Lib.hid hgB'
            have HQX := Lib.hid hQt; have HBX := Lib.hid hBt; have HNX := Lib.hid hNt; have HOX := Lib.hid hOt; have HLX := Lib.hid hlt; have HWX := Lib.hid e2; have HQD := Lib.hid e1; have HSX := Lib.hid hst
            clear e1 e2 hQt hBt hNt hOt hlt hst hwt hwl hgt hr1
            have hOqx := HQX.out.cell hlq.out j (by omega)
            have hfqx := HQX.out.frozen hlq.out j
            have hqmod : (gf : Int) % 4294967296 = (gf : Int) := by omega
            have hgrq := HQX.out.grown hlq.out j gf
            have HGRQ := Lib.hid hgrq
            clear hgrq
            go_wp2_with fail
            go_roundw
            case rel =>
              have h1 := HQX.out.stored hlq.out j gf hQB.out
              obtain ⟨e1, e2, e3⟩ := round_inv (lq := lq) (qd := gf) rfl HWX.out HQD.out HK3.out HSX.out (by rw [hlq.out]; omega) (hzq.out j (by omega)) hinv.out
              refine ⟨j, lt, lq.set j gf, by omega, rfl, HOX.out.keptBy HGRQ.out HQU.out.symm, HLX, h1, Lib.hid (by rw [List.length_set]; exact hlq.out), Lib.hid (HNX.out.keptBy HGRQ.out HQV.out), HBX.out.setCell hszw6 _, Lib.hid e1, Lib.hid ?_, Lib.hid ?_⟩
              · intro i hi
                rw [gd_set, if_neg (by omega)]; exact hzq.out i (by omega)
              · rw [e3]; exact Nat.mod_lt _ Hv0.out
            case measure => simp [intOf]
end Go.Proofs.Ytaefimegiobkmaa
/-
  natural.Div for every divisor but 0, natural.Gcd: what they hand back.
  Conditions: each theorem's own.
-/
namespace Go.Proofs.Ytaefimegiobkmaa
open Go.RowKit Go.ChangeShapes Go.WideShapes

theorem div_any (va vb : Value) (a b : List Nat) (w : World) (ha : Num w va a) (hb : Num w vb b) (hla : a.length ≤ 800000) (hlb : b.length ≤ 800000) (h0 : val b ≠ 0) :
    Calls Try.prog 65 #[va, vb] w (RetDiv w (val a / val b) (val a % val b) (errV 0)) := by
  by_cases h1 : val a < val b
  · exact div_less va vb a b w ha hb hla hlb h1
  · by_cases h2 : val b < 4294967296
    · exact div_small va vb a b w ha hb hla hlb (by omega) h0 h2
    · exact div_long va vb a b w ha hb hla hlb (by omega) (by omega)

/-- the words that a slice value reads as are known by the value -/
theorem Num.unique {w : World} {v : Value} {l m : List Nat} (h : Num w v l) (k : Num w v m) : l = m := by
  obtain ⟨ao, c, e, h1, h2, h3, h4, h5⟩ := h
  subst e
  obtain ⟨ao', c', e', k1, k2, k3, k4, k5⟩ := k
  simp only [Value.slice.injEq] at e'
  obtain ⟨rfl, hl, rfl⟩ := e'
  apply gd_ext hl
  intro j hj
  cases hao : ao with
  | none => have := h3 hao; omega
  | some a =>
    obtain ⟨b, off, s⟩ := a
    obtain ⟨_, c1⟩ := h4 b off s hao
    obtain ⟨_, c2⟩ := k4 b off s hao
    have e1 := c1 j hj
    have e2 := c2 j (by omega)
    rw [e1] at e2
    simp only [Option.some.injEq, Value.int.injEq, true_and] at e2
    omega
open Classical in
/-- what a slice value is worth in a world -/
noncomputable def numOf (w : World) (v : Value) : Nat := if h : ∃ l, Num w v l then val h.choose else 0
theorem numOf_eq {w : World} {v : Value} {l : List Nat} (h : Num w v l) : numOf w v = val l := by
  have hx : ∃ l, Num w v l := ⟨l, h⟩
  unfold numOf
  rw [dif_pos hx, hx.choose_spec.unique h]

set_option maxRecDepth 100000 in
set_option maxHeartbeats 1600000 in
theorem gcd_any (va vb : Value) (a b : List Nat) (w : World) (ha : Num w va a) (hb : Num w vb b) (hla : a.length ≤ 800000) (hlb : b.length ≤ 800000) :
    Calls Try.prog 64 #[va, vb] w (RetNum w fun r => r = wd (Nat.gcd (val a) (val b))) := by
  have hl1 := wd_length_le ha.lt
  have hl2 := wd_length_le hb.lt
  obtain ⟨G, hG⟩ : ∃ G, G = Nat.gcd (val a) (val b) := ⟨_, rfl⟩
  rw [← hG]
  have HG := Lib.hid hG; clear hG
  go_enter Try.func64, Try.ntmps64
  go_wp2_with fail
  (with_reducible refine (trim_any _ _ _ ha (by omega)).mono ?_); rintro e w1 ⟨v1, l1, rfl, hb1, hn1, hl1'⟩
  go_wp2_with fail
  (with_reducible refine (trim_any _ _ _ (hb.below hb1) (by omega)).mono ?_); rintro e w2 ⟨v2, l2, rfl, hb2, hn2, hl2'⟩
  have hn1 := hn1.below hb2
  have hb12 := hb1.trans (hb2.mono hb1.size)
  rw [hl1'] at hn1
  rw [hl2'] at hn2
  obtain ⟨x0, hx0⟩ : ∃ x0, x0 = val a := ⟨_, rfl⟩
  obtain ⟨y0, hy0⟩ : ∃ y0, y0 = val b := ⟨_, rfl⟩
  rw [← hx0] at hn1 hl1
  rw [← hy0] at hn2 hl2
  have hg0 : Nat.gcd x0 y0 = G := by rw [HG.out, hx0, hy0]
  have HG0 := Lib.hid hg0; have HN1 := Lib.hid hn1; have HN2 := Lib.hid hn2
  clear hg0 hx0 hy0 hn1 hn2 hl1' hl2' hb1 hb2 ha hb
  go_wp2_with fail
  go_loopw [0, 1] (fun xv yv wr => ∃ x y : Nat, Num wr xv (wd x) ∧ Num wr yv (wd y) ∧ Below w.heap.size w wr ∧ Hid (Nat.gcd x y = G) ∧ (wd x).length ≤ 800000 ∧ (wd y).length ≤ 800000) (fun _ yv wr => numOf wr yv)
  case atStart => exact ⟨x0, y0, HN1.out, HN2.out, hb12, HG0, by omega, by omega⟩
  case round =>
    obtain ⟨x, y, hnx, hny, hBr, hgr, hlx, hly⟩ := hrel
    by_cases hy0 : y = 0
    · subst hy0
      rw [wd_zero] at hny hly
      obtain ⟨yo, cy, rfl, hcy, hcy2, _⟩ := hny.shape
      have hgx : x = G := by rw [← hgr.out, Nat.gcd_zero_right]
      have HGX := Lib.hid hgx; have HNX := Lib.hid hnx
      clear hny hgx hnx
      go_wp2_with fail
      go_ret
      exact ⟨_, _, rfl, hBr, HNX.out, by rw [HGX.out]⟩
    · have hd := div_any _ _ _ _ _ hnx hny hlx hly (by rw [val_wd]; exact hy0)
      rw [val_wd, val_wd, errV_zero] at hd
      have hpos := wd_length_pos hy0
      have hm0 := numOf_eq hny
      rw [val_wd] at hm0
      obtain ⟨yo, cy, rfl, hcy, hcy2, _⟩ := hny.shape
      have hlm : (wd (x % y)).length ≤ (wd y).length := wd_length_mono (Nat.le_of_lt (Nat.mod_lt _ (by omega)))
      have hml : x % y < y := Nat.mod_lt _ (by omega)
      have hgm : Nat.gcd y (x % y) = G := by rw [← hgr.out, Nat.gcd_comm x y, Nat.gcd_rec y x, Nat.gcd_comm]
      have HD := Lib.hid hd; have HNY := Lib.hid hny; have HM0 := Lib.hid hm0; have HLM := Lib.hid hlm; have HML := Lib.hid hml; have HGM := Lib.hid hgm
      clear hd hny hm0 hlm hml hgm hnx
      go_wp2_with fail
      (with_reducible refine HD.out.mono ?_); rintro e w3 ⟨v1, v2, rfl, hb3, hq, hr⟩
      have HR := Lib.hid hr
      clear hq hr
      go_wp2_with fail
      go_roundw
      case rel => exact ⟨y, x % y, HNY.out.below hb3, HR.out, hBr.trans (hb3.mono hBr.size), HGM, hly, Nat.le_trans HLM.out hly⟩
      case measure =>
        have e1 := numOf_eq HR.out
        rw [val_wd] at e1
        show numOf _ _ < numOf _ _
        rw [HM0.out]
        exact Nat.lt_of_le_of_lt (Nat.le_of_eq e1) HML.out
end Go.Proofs.Ytaefimegiobkmaa
/-
  Plain numbers: square roots by Newton's steps.
  Conditions: each theorem's own.
-/
namespace Go.Proofs.Ytaefimegiobkmaa
open Go.RowKit

/-- s is the square root of n, rounded down -/
def IsRoot (n s : Nat) : Prop := s * s ≤ n ∧ n < (s + 1) * (s + 1)
theorem IsRoot.unique {n s t : Nat} (h : IsRoot n s) (k : IsRoot n t) : s = t := by
  rcases Nat.lt_trichotomy s t with g | g | g
  · have g' : s + 1 ≤ t := g
    have := Nat.mul_le_mul g' g'
    have h1 := h.2; have h2 := k.1; omega
  · exact g
  · have g' : t + 1 ≤ s := g
    have := Nat.mul_le_mul g' g'
    have h1 := k.2; have h2 := h.1; omega
theorem wd_add_len (m n : Nat) : (wd (m + n)).length ≤ max (wd m).length (wd n).length + 1 := by
  apply wd_length_of_lt
  have h1 := val_lt (u32_wd m)
  have h2 := val_lt (u32_wd n)
  rw [val_wd] at h1 h2
  obtain ⟨k, hk⟩ : ∃ k, k = max (wd m).length (wd n).length := ⟨_, rfl⟩
  have e1 : 4294967296 ^ (wd m).length ≤ 4294967296 ^ k := Nat.pow_le_pow_right (by decide) (by omega)
  have e2 : 4294967296 ^ (wd n).length ≤ 4294967296 ^ k := Nat.pow_le_pow_right (by decide) (by omega)
  rw [← hk, Nat.pow_succ]
  omega
theorem wd_mul_len (m n : Nat) : (wd (m * n)).length ≤ (wd m).length + (wd n).length := by
  apply wd_length_of_lt
  have h1 := val_lt (u32_wd m)
  have h2 := val_lt (u32_wd n)
  rw [val_wd] at h1 h2
  rw [Nat.pow_add]
  exact Nat.mul_lt_mul_of_lt_of_le h1 (Nat.le_of_lt h2) (Nat.pow_pos (by decide))
theorem wd_one {n : Nat} (h : n < 4294967296) (h0 : n ≠ 0) : wd n = [n] := by rw [wd_pos h0, Nat.mod_eq_of_lt h, Nat.div_eq_of_lt h, wd_zero]
end Go.Proofs.Ytaefimegiobkmaa
/-
  strings.Builder: copyCheck and WriteString, walked at this dump (lines of the shelf's proofs turned to it); natural.nine.
  Conditions: each theorem's own.
-/
namespace Go.Proofs.Ytaefimegiobkmaa
open Go.RowKit Go.ChangeShapes Go.WideShapes

end Go.Proofs.Ytaefimegiobkmaa
/-
  natural.Text: what it hands back: the decimal digits.
  Conditions: each theorem's own.
-/
namespace Go.Proofs.Ytaefimegiobkmaa
open Go.RowKit Go.ChangeShapes Go.WideShapes

/-- texts of the call's own -/
def OwnSt (w : World) (B : Nat) (v : Value) (xs : List ByteArray) : Prop := w.ownsRow B 9 1 v xs.length (xs.map Value.string)
theorem OwnSt.nil (w : World) (B : Nat) : OwnSt w B (.slice none 0 0) [] := World.ownsRow_nil _ _ _ _
theorem OwnSt.below {w w' : World} {B : Nat} {v : Value} {xs : List ByteArray} (h : OwnSt w B v xs) (hb : Below w.heap.size w w') : OwnSt w' B v xs := by
  refine World.ownsRow.kept h (row := none) ⟨hb.os, hb.tape, hb.output, hb.size, fun k hk _ => hb.block k hk⟩ ?_
  cases hv : v.ownBlock <;> simp
section
variable {w : World} {ops : Array Oper} {rest : List Oper} {o : Oper} {a : Act} {Q : Exit → Act → World → Prop}
end
/-- the texts of a slice, as the walk reads them -/
theorem OwnSt.read {w : World} {B : Nat} {v : Value} {xs : List ByteArray} (h : OwnSt w B v xs) (hn : 0 < xs.length) :
    ∃ g c, v = .slice (some ⟨g, 0, none⟩) xs.length c ∧ g < w.heap.size ∧ xs.length ≤ c ∧ c ≤ 9223372036854775807 ∧ ∀ j (hj : j < xs.length), w.cell? ⟨g, j, none⟩ = some (.string xs[j]) := by
  have hlt := World.ownsRow.lt h
  rcases h.2 with ⟨rfl, h0⟩ | ⟨g, cap, cur, rfl, hb, hh, hcap, hm, hs, ht⟩
  · omega
  · refine ⟨g, cap, rfl, (hlt g rfl).2, hcap, by unfold maxLen at hm; omega, ?_⟩
    intro j hj
    have := World.ownsRow.cells h (g := g) rfl j (.string xs[j]) (by simp [hj])
    have e2 : (⟨g, 0, none⟩ : Addr).add j = ⟨g, 0 + j, none⟩ := by unfold Addr.add; split <;> simp_all
    rw [e2, Nat.zero_add] at this; exact this

theorem OwnSt.shape {w : World} {B : Nat} {v : Value} {xs : List ByteArray} (h : OwnSt w B v xs) :
    ∃ go c, v = .slice go xs.length c ∧ xs.length ≤ c ∧ c ≤ 9223372036854775807 ∧ ∀ j (hj : j < xs.length), ∃ g, go = some ⟨g, 0, none⟩ ∧ g < w.heap.size ∧ w.cell? ⟨g, j, none⟩ = some (.string xs[j]) := by
  by_cases h0 : 0 < xs.length
  · obtain ⟨g, c, rfl, h1, h2, h3, h4⟩ := h.read h0
    exact ⟨_, c, rfl, h2, h3, fun j hj => ⟨g, rfl, h1, h4 j hj⟩⟩
  · rcases h.2 with ⟨rfl, h1⟩ | ⟨g, cap, cur, rfl, hb, hh, hcap, hm, hs, ht⟩
    · exact ⟨none, 0, by rw [h1], by omega, by omega, fun j hj => by omega⟩
    · exact ⟨_, cap, rfl, hcap, by unfold maxLen at hm; omega, fun j hj => by omega⟩

end Go.Proofs.Ytaefimegiobkmaa
/-
  Small functions of the statements: words that are equal, numbers that are too long, errors by their numbers, the document's examples.
  Conditions: each theorem's own.
-/
namespace Go.Proofs.Ytaefimegiobkmaa
open Go.RowKit Go.ChangeShapes Go.WideShapes

theorem assert_yes (c : Int) (w : World) : (Instr.typeAssert (.iface 36 (.int .i64 c)) 25 36 true).run Try.prog w = .ok (.tuple #[.int .i64 c, .bool true]) w := by kernel_rfl
theorem assert_no (w : World) : (Instr.typeAssert .nilIface 25 36 true).run Try.prog w = .ok (.tuple #[.int .i64 0, .bool false]) w := by kernel_rfl
theorem is_eq (c k : Nat) : (((c : Int) == (k : Int)) : Bool) = decide (c = k) := by rw [Bool.eq_iff_iff]; simp; omega
set_option maxRecDepth 100000 in
theorem is_any (c : Nat) (kk : Int) (k : Nat) (w : World) (hk : kk = k) (hk0 : k ≠ 0) : Calls Try.prog 8 #[errV c, .int .i64 kk] w (RetS w (.bool (decide (c = k)))) := by
  have HK := Lib.hid hk; clear hk
  by_cases h0 : c = 0
  · subst h0
    have ha := assert_no
    rw [errV_zero]
    go_enter Try.func8, Try.ntmps8
    go_wp2
    go_ret
    exact ⟨ret_bool (by rw [eq_comm]; simp; omega), rfl⟩
  · have ha := assert_yes c
    rw [errV_pos h0]
    go_enter Try.func8, Try.ntmps8
    go_wp2
    go_ret
    exact ⟨ret_bool (by rw [HK.out, is_eq]), rfl⟩

end Go.Proofs.Ytaefimegiobkmaa
/-
  token.Split: what it hands back for any text.
  Conditions: none.
-/
namespace Go.Proofs.Ytaefimegiobkmaa
open Go.RowKit Go.ChangeShapes Go.WideShapes

/-- what Split leaves -/
def RetSplit (s : ByteArray) (w : World) (e : Ending) (w' : World) : Prop :=
  ∃ v, e = .returned (.tuple #[v, errV (splitL (bs s)).2]) ∧ Below w.heap.size w w' ∧ OwnT w' w.heap.size v ((splitL (bs s)).1.map (mkTok s))

theorem ret_split {s : ByteArray} {w w' : World} {x y v : Value} {c : Nat} {ts : List Tk} (hc : splitL (bs s) = (ts, c)) (h1 : x = v) (h2 : y = errV c)
    (hb : Below w.heap.size w w') (ho : OwnT w' w.heap.size v (ts.map (mkTok s))) : RetSplit s w (.returned (.tuple #[x, y])) w' :=
  ⟨v, by rw [h1, h2, hc], hb, by rw [hc]; exact ho⟩

set_option maxRecDepth 100000 in
set_option maxHeartbeats 4000000 in
theorem split_any (s : ByteArray) (w : World) :
    Calls Try.prog 6 #[.string s] w (RetSplit s w) := by
  by_cases hbig : 65536 < s.size
  · have hc : splitL (bs s) = ([], 4) := by unfold splitL; rw [bs_length, if_pos hbig]
    have HC := Lib.hid hc; clear hc
    go_enter Try.func6, Try.ntmps6
    go_wp2
    go_ret2
    exact ret_split HC.out rfl rfl (Below.refl _ _) (OwnT.nil _ _)
  have hs : s.size ≤ 9223372036854775806 := by omega
  have hc : splitL (bs s) = joinScan [] (scanAt (bs s) 0) := by unfold splitL; rw [bs_length, if_neg hbig, joinScan_nil]
  have HC := Lib.hid hc; clear hc
  go_enter Try.func6, Try.ntmps6
  go_wp2_with fail
  go_loopw [4, 5, 6, 7] (fun out line start at_ wr => ∃ (i : Nat) (ts : List Tk), i ≤ s.size ∧ at_ = .int .i64 i ∧ line = .int .i64 (lineOf (bs s) i : Nat) ∧ start = .int .i64 (lineStart (bs s) i : Nat) ∧
      OwnT wr w.heap.size out (ts.map (mkTok s)) ∧ Below w.heap.size w wr ∧ ts.length ≤ i ∧ joinScan ts (scanAt (bs s) i) = joinScan [] (scanAt (bs s) 0)) (fun _ _ _ i _ => s.size - (intOf i).toNat)
  case atStart => exact ⟨0, [], Nat.zero_le _, rfl, by simp [lineOf], rfl, OwnT.nil _ _, Below.refl _ _, Nat.le_refl _, rfl⟩
  case round =>
    obtain ⟨i, ts, hi, rfl, rfl, rfl, hown, hbel, hlen, hj⟩ := hrel
    have HJ := Lib.hid hj; clear hj
    have HO := Lib.hid hown; clear hown
    have hls := lineStart_le (bs s) i
    have hll : lineOf (bs s) i ≤ i + 1 := by unfold lineOf; have := List.count_le_length (a := 10) (l := (bs s).take i); rw [List.length_take] at this; omega
    by_cases hlt : i < s.size
    · have hix := run_index_gb (P := Try.prog) s 9 Try.underlying9 i hlt
      have hlt' : i < (bs s).length := by rw [bs_length]; exact hlt
      obtain ⟨b, hb⟩ : ∃ b, b = gd (bs s) i := ⟨_, rfl⟩
      have hb256 : b < 256 := by rw [hb]; exact bs_lt _ _
      rw [← hb] at hix
      rcases step_cases (bs s) i b hb with ⟨h1, h2, h3, h4⟩ | ⟨h1, h2, h3, h4⟩ | ⟨h1, h2, h3, h4⟩ | ⟨h1, h2, h3, h4, h5⟩ | ⟨h1, h2, h3, h4, h5⟩ | ⟨h1, h2, h3, h4, h5, h6⟩ | ⟨h1, h2, h3, h4, h5, h6⟩ | ⟨h1, h2, h3, h4, h5, h6⟩ | ⟨h1, h2, h3, h4, h5, h6⟩
      · have H4 := Lib.hid h4; have HB := Lib.hid hb; have H3 := Lib.hid h3; clear h4 hb h3
        go_wp2_with (go_at_call 16; (with_reducible refine (blank_any b _ hb256).mono ?_); rintro e w' ⟨rfl, rfl⟩)
        go_roundw
        case rel => exact ⟨i + 1, ts, by omega, by go_num, by rw [lineOf_succ hlt', ← HB.out, if_pos H3.out]; rfl, by simp only [lineStart]; rw [← HB.out, if_pos H3.out]; rfl, HO.out, hbel, by omega, by rw [← join_skip' ts hlt' H4.out]; exact HJ.out⟩
        case measure => simp [intOf]; omega
      · have H4 := Lib.hid h4; have HB := Lib.hid hb; have H3 := Lib.hid h3; clear h4 hb h3
        have HL := Lib.hid (line_one hlt' (by rw [← HB.out]; exact H3.out))
        go_wp2_with (go_at_call 16; (with_reducible refine (blank_any b _ hb256).mono ?_); rintro e w' ⟨rfl, rfl⟩)
        go_roundw
        case rel => exact ⟨i + 1, ts, by omega, by go_num, by rw [HL.out.1], by rw [HL.out.2], HO.out, hbel, by omega, by rw [← join_skip' ts hlt' H4.out]; exact HJ.out⟩
        case measure => simp [intOf]; omega
      · have H4 := Lib.hid h4; have HB := Lib.hid hb; have H3 := Lib.hid h3; clear h4 hb h3
        have HL := Lib.hid (line_comment (l := bs s) (i := i) (by rw [bs_length]; omega))
        have HR := Lib.hid (hash_run hlt' (by rw [← HB.out]; exact H3.out))
        have hle := le_run notLF (bs s) (i + 1)
        have hge := run_le (p := notLF) (l := bs s) (k := i) (by rw [bs_length]; omega)
        rw [bs_length] at hge
        have hgt : i < run notLF (bs s) i := by rw [HR.out]; omega
        go_wp2_with (go_at_call 16; (with_reducible refine (blank_any b _ hb256).mono ?_); rintro e w' ⟨rfl, rfl⟩)
        obtain ⟨wo, rfl⟩ : ∃ wo : World, wo = wr := ⟨_, rfl⟩
        go_loop [7] (fun x => ∃ j : Nat, i ≤ j ∧ j ≤ s.size ∧ x = .int .i64 j ∧ run notLF (bs s) j = run notLF (bs s) i) (fun x => s.size - (intOf x).toNat)
        case atStart => exact ⟨i, Nat.le_refl _, hi, rfl, rfl⟩
        case round =>
          obtain ⟨j, hij, hjs, rfl, hrun⟩ := hrel
          have HQ := Lib.hid hrun; clear hrun
          by_cases hjlt : j < s.size
          · have hjx := run_index_gb (P := Try.prog) s 9 Try.underlying9 j hjlt
            by_cases hlf : gd (bs s) j = 10
            · have h10 : ((gd (bs s) j : Int) != 10) = false := by simp [hlf]
              have HLF := Lib.hid hlf; clear hlf
              go_wp2_with fail
              have e1 : run notLF (bs s) i = j := by rw [← HQ.out, run_no (by rw [HLF.out]; rfl)]
              go_roundw
              case rel => exact ⟨j, ts, hjs, rfl, by rw [← e1, HL.out.1], by rw [← e1, HL.out.2], HO.out, hbel, by omega, by rw [← e1, ← join_skip' ts hlt' H4.out]; exact HJ.out⟩
              case measure => simp [intOf]; omega
            · have h10 : ((gd (bs s) j : Int) != 10) = true := by simp; omega
              have HLF := Lib.hid hlf; clear hlf
              go_wp2_with fail
              go_round
              case rel => exact ⟨j + 1, by omega, by omega, by go_num, by rw [run_yes (by rw [bs_length]; exact hjlt) (by simp [notLF, HLF.out])]; exact HQ.out⟩
              case measure => simp [intOf]; omega
          · go_wp2_with fail
            have e1 : run notLF (bs s) i = j := by rw [← HQ.out, run_end (by rw [bs_length]; omega)]
            go_roundw
            case rel => exact ⟨j, ts, hjs, rfl, by rw [← e1, HL.out.1], by rw [← e1, HL.out.2], HO.out, hbel, by omega, by rw [← e1, ← join_skip' ts hlt' H4.out]; exact HJ.out⟩
            case measure => simp [intOf]; omega
      · have H5 := Lib.hid h5; have HB := Lib.hid hb; clear h5 hb
        have hle := le_run isIn (bs s) i
        have hge := run_le (p := isIn) (l := bs s) (k := i) (by rw [bs_length]; omega)
        rw [bs_length] at hge
        go_wp2_with (first | (go_at_call 16; (with_reducible refine (blank_any b _ hb256).mono ?_); rintro e w' ⟨rfl, rfl⟩) | (go_at_call 17; (with_reducible refine (letter_any b _ hb256).mono ?_); rintro e w' ⟨rfl, rfl⟩) | (go_at_call 18; (with_reducible refine (wordEnd_any s i _ hs hi).mono ?_); rintro e w' ⟨rfl, rfl⟩))
        go_ret2
        exact ret_split (c := 5) (ts := []) (by rw [HC.out, ← HJ.out, join_err' ts hlt' H5.out (by decide)]) rfl rfl hbel (OwnT.nil _ _)
      · have H5 := Lib.hid h5; have HB := Lib.hid hb; clear h5 hb
        have HR := Lib.hid (letter_run hlt' (by rw [← HB.out]; exact h3))
        have HL := Lib.hid (line_word (l := bs s) (i := i) (by rw [bs_length]; omega))
        have hle := le_run isIn (bs s) i
        have hgt : i < run isIn (bs s) i := by rw [HR.out]; exact le_run _ _ _
        have hge := run_le (p := isIn) (l := bs s) (k := i) (by rw [bs_length]; omega)
        rw [bs_length] at hge
        go_wp2_with (first | (go_at_call 16; (with_reducible refine (blank_any b _ hb256).mono ?_); rintro e w' ⟨rfl, rfl⟩) | (go_at_call 17; (with_reducible refine (letter_any b _ hb256).mono ?_); rintro e w' ⟨rfl, rfl⟩) | (go_at_call 18; (with_reducible refine (wordEnd_any s i _ hs hi).mono ?_); rintro e w' ⟨rfl, rfl⟩) | (at_builtin; refine wpList_appendT rfl (.tmp 100) (.tmp 113) rfl w.heap.size _ _ (mkTok s ⟨0, i, run isIn (bs s) i⟩) _ _ _ _ _ rfl rfl ?_ HO.out ?_ ?_ ?_))
        · simp only [TokV.cells, mkTok, colOf]; rw [show ((i - lineStart (bs s) i + 1 : Nat) : Int) = (i : Int) - lineStart (bs s) i + 1 from by omega]; first | rfl | simp
        · rw [List.length_map]; omega
        · exact hbel.size
        intro v' w1 ho hb1 hz
        have hb2 := hb1 w hbel
        go_wp2_with fail
        go_roundw
        case rel => exact ⟨run isIn (bs s) i, ts ++ [⟨0, i, run isIn (bs s) i⟩], by omega, by go_num, by rw [HL.out.1], by rw [HL.out.2], by rw [List.map_append]; exact ho, hb2, by rw [List.length_append, List.length_singleton]; omega, by rw [← join_tok' ts hlt' H5.out (by decide)]; exact HJ.out⟩
        case measure => simp [intOf]; omega
      · have H6 := Lib.hid h6; have HB := Lib.hid hb; clear h6 hb
        have hle := le_numEnd (bs s) i
        have hge := numEnd_le (l := bs s) (k := i) (by rw [bs_length]; omega)
        rw [bs_length] at hge h5
        obtain ⟨h7, h8⟩ := h5
        have hstop := numEnd_stop (l := bs s) (k := i) (by rw [bs_length]; exact h7)
        have hjx := run_index_gb (P := Try.prog) s 9 Try.underlying9 (numEnd (bs s) i) h7
        rcases bad_cases (bs s) (numEnd (bs s) i) _ rfl hstop with ⟨_, hc⟩ | ⟨hc, _⟩
        · clear h8
          rcases hc with c1 | ⟨c1, c2⟩ | ⟨c1, c2, c3⟩ | ⟨c1, c2, c3, c4⟩
          all_goals
            go_wp2_with (first | (go_at_call 16; (with_reducible refine (blank_any b _ hb256).mono ?_); rintro e w' ⟨rfl, rfl⟩) | (go_at_call 17; (with_reducible refine (letter_any b _ hb256).mono ?_); rintro e w' ⟨rfl, rfl⟩) | (go_at_call 19; (with_reducible refine (digit_any b _ hb256).mono ?_); rintro e w' ⟨rfl, rfl⟩) | (go_at_call 20; (with_reducible refine (numberEnd_any s i _ hs hi).mono ?_); rintro e w' ⟨rfl, rfl⟩) | (go_at_call 17; (with_reducible refine (letter_any _ _ (bs_lt _ _)).mono ?_); rintro e w' ⟨rfl, rfl⟩))
            go_ret2
            exact ret_split (c := 2) (ts := []) (by rw [HC.out, ← HJ.out, join_err' ts hlt' H6.out (by decide)]) rfl rfl hbel (OwnT.nil _ _)
        · rw [hc] at h8; simp at h8
      · have H6 := Lib.hid h6; have HB := Lib.hid hb; clear h6 hb
        have HL := Lib.hid (line_number (l := bs s) (i := i) (by rw [bs_length]; omega))
        have hgt : i < numEnd (bs s) i := lt_numEnd hlt' (by rw [← HB.out]; exact h4)
        have hge := numEnd_le (l := bs s) (k := i) (by rw [bs_length]; omega)
        rw [bs_length] at hge h5
        by_cases h7 : numEnd (bs s) i < s.size
        · have h8 := h5 h7
          clear h5
          have hstop := numEnd_stop (l := bs s) (k := i) (by rw [bs_length]; exact h7)
          have hjx := run_index_gb (P := Try.prog) s 9 Try.underlying9 (numEnd (bs s) i) h7
          rcases bad_cases (bs s) (numEnd (bs s) i) _ rfl hstop with ⟨hc, _⟩ | ⟨_, c1, c2, c3, c4⟩
          · rw [hc] at h8; simp at h8
          clear h8 hstop
          go_wp2_with (first | (go_at_call 16; (with_reducible refine (blank_any b _ hb256).mono ?_); rintro e w' ⟨rfl, rfl⟩) | (go_at_call 17; (with_reducible refine (letter_any b _ hb256).mono ?_); rintro e w' ⟨rfl, rfl⟩) | (go_at_call 19; (with_reducible refine (digit_any b _ hb256).mono ?_); rintro e w' ⟨rfl, rfl⟩) | (go_at_call 20; (with_reducible refine (numberEnd_any s i _ hs hi).mono ?_); rintro e w' ⟨rfl, rfl⟩) | (go_at_call 17; (with_reducible refine (letter_any _ _ (bs_lt _ _)).mono ?_); rintro e w' ⟨rfl, rfl⟩) | (at_builtin; refine wpList_appendT rfl (.tmp 100) (.tmp 113) rfl w.heap.size _ _ (mkTok s ⟨1, i, numEnd (bs s) i⟩) _ _ _ _ _ rfl rfl ?_ HO.out ?_ ?_ ?_))
          · simp only [TokV.cells, mkTok, colOf]; rw [show ((i - lineStart (bs s) i + 1 : Nat) : Int) = (i : Int) - lineStart (bs s) i + 1 from by omega]; first | rfl | simp
          · rw [List.length_map]; omega
          · exact hbel.size
          intro v' w1 ho hb1 hz
          have hb2 := hb1 w hbel
          go_wp2_with fail
          go_roundw
          case rel => exact ⟨numEnd (bs s) i, ts ++ [⟨1, i, numEnd (bs s) i⟩], by omega, by go_num, by rw [HL.out.1], by rw [HL.out.2], by rw [List.map_append]; exact ho, hb2, by rw [List.length_append, List.length_singleton]; omega, by rw [← join_tok' ts hlt' H6.out (by decide)]; exact HJ.out⟩
          case measure => simp [intOf]; omega
        · clear h5
          go_wp2_with (first | (go_at_call 16; (with_reducible refine (blank_any b _ hb256).mono ?_); rintro e w' ⟨rfl, rfl⟩) | (go_at_call 17; (with_reducible refine (letter_any b _ hb256).mono ?_); rintro e w' ⟨rfl, rfl⟩) | (go_at_call 19; (with_reducible refine (digit_any b _ hb256).mono ?_); rintro e w' ⟨rfl, rfl⟩) | (go_at_call 20; (with_reducible refine (numberEnd_any s i _ hs hi).mono ?_); rintro e w' ⟨rfl, rfl⟩) | (go_at_call 17; (with_reducible refine (letter_any _ _ (bs_lt _ _)).mono ?_); rintro e w' ⟨rfl, rfl⟩) | (at_builtin; refine wpList_appendT rfl (.tmp 100) (.tmp 113) rfl w.heap.size _ _ (mkTok s ⟨1, i, numEnd (bs s) i⟩) _ _ _ _ _ rfl rfl ?_ HO.out ?_ ?_ ?_))
          · simp only [TokV.cells, mkTok, colOf]; rw [show ((i - lineStart (bs s) i + 1 : Nat) : Int) = (i : Int) - lineStart (bs s) i + 1 from by omega]; first | rfl | simp
          · rw [List.length_map]; omega
          · exact hbel.size
          intro v' w1 ho hb1 hz
          have hb2 := hb1 w hbel
          go_wp2_with fail
          go_roundw
          case rel => exact ⟨numEnd (bs s) i, ts ++ [⟨1, i, numEnd (bs s) i⟩], by omega, by go_num, by rw [HL.out.1], by rw [HL.out.2], by rw [List.map_append]; exact ho, hb2, by rw [List.length_append, List.length_singleton]; omega, by rw [← join_tok' ts hlt' H6.out (by decide)]; exact HJ.out⟩
          case measure => simp [intOf]; omega
      · have H6 := Lib.hid h6; have HB := Lib.hid hb; clear h6 hb
        have HL := Lib.hid (line_one hlt' (by rw [← HB.out]; exact isSign_ne h5))
        go_wp2_with (first | (go_at_call 16; (with_reducible refine (blank_any b _ hb256).mono ?_); rintro e w' ⟨rfl, rfl⟩) | (go_at_call 17; (with_reducible refine (letter_any b _ hb256).mono ?_); rintro e w' ⟨rfl, rfl⟩) | (go_at_call 19; (with_reducible refine (digit_any b _ hb256).mono ?_); rintro e w' ⟨rfl, rfl⟩) | (go_at_call 21; (with_reducible refine (tsign_any b _ hb256).mono ?_); rintro e w' ⟨rfl, rfl⟩) | (at_builtin; refine wpList_appendT rfl (.tmp 100) (.tmp 113) rfl w.heap.size _ _ (mkTok s ⟨2, i, (i + 1)⟩) _ _ _ _ _ rfl rfl ?_ HO.out ?_ ?_ ?_))
        · simp only [TokV.cells, mkTok, colOf]; rw [show ((i - lineStart (bs s) i + 1 : Nat) : Int) = (i : Int) - lineStart (bs s) i + 1 from by omega]; first | rfl | simp
        · rw [List.length_map]; omega
        · exact hbel.size
        intro v' w1 ho hb1 hz
        have hb2 := hb1 w hbel
        go_wp2_with fail
        go_roundw
        case rel => exact ⟨(i + 1), ts ++ [⟨2, i, (i + 1)⟩], by omega, by go_num, by rw [HL.out.1], by rw [HL.out.2], by rw [List.map_append]; exact ho, hb2, by rw [List.length_append, List.length_singleton]; omega, by rw [← join_tok' ts hlt' H6.out (by decide)]; exact HJ.out⟩
        case measure => simp [intOf]; omega
      · have H6 := Lib.hid h6; have HB := Lib.hid hb; clear h6 hb
        go_wp2_with (first | (go_at_call 16; (with_reducible refine (blank_any b _ hb256).mono ?_); rintro e w' ⟨rfl, rfl⟩) | (go_at_call 17; (with_reducible refine (letter_any b _ hb256).mono ?_); rintro e w' ⟨rfl, rfl⟩) | (go_at_call 19; (with_reducible refine (digit_any b _ hb256).mono ?_); rintro e w' ⟨rfl, rfl⟩) | (go_at_call 21; (with_reducible refine (tsign_any b _ hb256).mono ?_); rintro e w' ⟨rfl, rfl⟩))
        go_ret2
        exact ret_split (c := 2) (ts := []) (by rw [HC.out, ← HJ.out, join_err' ts hlt' H6.out (by decide)]) rfl rfl hbel (OwnT.nil _ _)
    · go_wp2_with fail
      go_ret2
      exact ret_split (c := 0) (ts := ts) (by rw [HC.out, ← HJ.out, join_end ts (by rw [bs_length]; omega)]) rfl rfl hbel HO.out
end Go.Proofs.Ytaefimegiobkmaa
/-
  Errors by their numbers; whether two lists of tokens are the same.
  Conditions: each theorem's own.
-/
namespace Go.Proofs.Ytaefimegiobkmaa
open Go.RowKit Go.ChangeShapes Go.WideShapes

theorem Toks.get {w : World} {ao : Option Addr} {n c k : Nat} {ts : List TokV} {t : TokV} (h : Toks w (.slice ao n c) ts) (ht : ts[k]? = some t) (hn : 0 < n) :
    ∃ b off, ao = some ⟨b, off, none⟩ ∧ b < w.heap.size ∧ w.cell? ⟨b, off + k * 5, none⟩ = some (.int .i64 t.kind) ∧ w.cell? ⟨b, off + k * 5 + 1, none⟩ = some (.string t.text) ∧
      w.cell? ⟨b, off + k * 5 + 2, none⟩ = some (.int .i64 t.at_) ∧ w.cell? ⟨b, off + k * 5 + 3, none⟩ = some (.int .i64 t.line) ∧ w.cell? ⟨b, off + k * 5 + 4, none⟩ = some (.int .i64 t.col) := by
  obtain ⟨b, off, rfl, hb, hc⟩ := h.at hn
  exact ⟨b, off, rfl, hb, hc k t 0 ht (by decide), hc k t 1 ht (by decide), hc k t 2 ht (by decide), hc k t 3 ht (by decide), hc k t 4 ht (by decide)⟩

/-- two calls of Split at texts that are written out -/
def ex1 : ByteArray := ⟨#[103, 97, 116, 101, 32, 103, 49, 32, 97, 110, 100, 32, 97, 64, 98, 32, 35, 32, 99]⟩
def ex2 : ByteArray := ⟨#[49, 47, 50, 47, 51]⟩
def ex1toks : List Tk := [⟨0, 0, 4⟩, ⟨0, 5, 7⟩, ⟨0, 8, 11⟩, ⟨0, 12, 13⟩, ⟨2, 13, 14⟩, ⟨0, 14, 15⟩]
theorem ex1_split : splitL (bs ex1) = (ex1toks, 0) := by kernel_rfl
theorem ex2_split : splitL (bs ex2) = ([], 2) := by kernel_rfl
/-- what the two calls leave, in words that the walk does not open -/
def RetEx1 (w : World) (e : Ending) (w' : World) : Prop :=
  ∃ g c, e = .returned (.tuple #[.slice (some ⟨g, 0, none⟩) 6 c, .nilIface]) ∧ Below w.heap.size w w' ∧ w.heap.size ≤ g ∧ g < w'.heap.size ∧
    w'.cell? ⟨g, 20, none⟩ = some (.int .i64 2) ∧ w'.cell? ⟨g, 21, none⟩ = some (.string ⟨#[64]⟩) ∧ w'.cell? ⟨g, 22, none⟩ = some (.int .i64 13) ∧ w'.cell? ⟨g, 23, none⟩ = some (.int .i64 1) ∧
    w'.cell? ⟨g, 24, none⟩ = some (.int .i64 14) ∧ w'.cell? ⟨g, 26, none⟩ = some (.string ⟨#[98]⟩)
theorem ex1_any (w : World) : Calls Try.prog 6 #[.string ⟨#[103, 97, 116, 101, 32, 103, 49, 32, 97, 110, 100, 32, 97, 64, 98, 32, 35, 32, 99]⟩] w (RetEx1 w) := by
  refine (split_any ex1 w).mono ?_
  rintro e w' ⟨v, rfl, hb, ho⟩
  rw [ex1_split] at ho ⊢
  have hl := World.ownsRow.lt ho
  rcases ho.2 with ⟨_, hn⟩ | ⟨g, cap, cur, rfl, hbg, hh, hcap, hm, hs, ht⟩
  · simp [ex1toks] at hn
  have hc := World.ownsRow.cells (g := g) ho rfl
  have hc' : ∀ j u, (tokCells (ex1toks.map (mkTok ex1)))[j + 1]? = some u → w'.cell? ⟨g, j + 1, none⟩ = some u := by
    intro j u hu
    have := hc (j + 1) u hu
    rw [Addr.add, if_neg (by omega)] at this
    simpa using this
  exact ⟨g, cap, rfl, hb, hbg, (hl g rfl).2, hc' 19 _ (by kernel_rfl), hc' 20 _ (by kernel_rfl), hc' 21 _ (by kernel_rfl), hc' 22 _ (by kernel_rfl), hc' 23 _ (by kernel_rfl), hc' 25 _ (by kernel_rfl)⟩
def RetEx2 (w : World) (e : Ending) (w' : World) : Prop := ∃ v, e = .returned (.tuple #[v, errV 2]) ∧ Below w.heap.size w w'
theorem ex2_any (w : World) : Calls Try.prog 6 #[.string ⟨#[49, 47, 50, 47, 51]⟩] w (RetEx2 w) := by
  refine (split_any ex2 w).mono ?_
  rintro e w' ⟨v, rfl, hb, ho⟩
  rw [ex2_split]
  exact ⟨v, rfl, hb⟩

set_option maxRecDepth 100000 in
set_option maxHeartbeats 1000000 in
theorem tawake_any (w : World) : Calls Try.prog 5 #[] w (RetV w (.bool true)) := by
  go_enter Try.func5, Try.ntmps5
  go_wp2_with fail
  (with_reducible refine (ex1_any _).mono ?_)
  rintro e w1 ⟨g, c, rfl, hb1, hg1, hg2, k0, k1, k2, k3, k4, k5⟩
  go_wp2_with fail
  (with_reducible refine (ex2_any _).mono ?_)
  rintro e w2 ⟨v2, rfl, hb2⟩
  have m0 := (hb2.cell (p := ⟨g, 20, none⟩) hg2).trans k0
  have m1 := (hb2.cell (p := ⟨g, 21, none⟩) hg2).trans k1
  have m2 := (hb2.cell (p := ⟨g, 22, none⟩) hg2).trans k2
  have m3 := (hb2.cell (p := ⟨g, 23, none⟩) hg2).trans k3
  have m4 := (hb2.cell (p := ⟨g, 24, none⟩) hg2).trans k4
  have m5 := (hb2.cell (p := ⟨g, 26, none⟩) hg2).trans k5
  clear k0 k1 k2 k3 k4 k5
  go_wp2_with (go_at_call 8; (with_reducible refine (is_any 2 2 2 _ rfl (by decide)).mono ?_); rintro e w' ⟨rfl, rfl⟩)
  go_ret
  exact ⟨rfl, hb1.trans (hb2.mono hb1.size)⟩
end Go.Proofs.Ytaefimegiobkmaa
/-
  Plain lists: a gap of blanks and a comment between tokens; the joined tokens of a text.
  Conditions: each theorem's own.
-/
namespace Go.Proofs.Ytaefimegiobkmaa
open Go.RowKit

theorem step_blank {l : List Nat} {i : Nat} (h : isBlank (gd l i) = true) : stepAt l i = ⟨0, 3, i + 1⟩ := by
  unfold stepAt; rw [if_pos h]
/-- the tokens of a text stand in it, in order -/
theorem scan_tok {l : List Nat} (n : Nat) : ∀ i ts, l.length - i ≤ n → scanAt l i = (ts, 0) → ∀ t ∈ ts, i ≤ t.at_ ∧ t.at_ < t.fin ∧ t.fin ≤ l.length ∧ t.kind ≠ 3 ∧ stepAt l t.at_ = ⟨0, t.kind, t.fin⟩ := by
  induction n with
  | zero => intro i ts h hs t ht; rw [scanAt_end (by omega)] at hs; cases hs; cases ht
  | succ n ih =>
    intro i ts h hs t ht
    by_cases hi : i < l.length
    · have he : (stepAt l i).err = 0 := by
        by_cases he : (stepAt l i).err = 0
        · exact he
        · rw [scanAt_err hi he] at hs; exact absurd (Prod.mk.inj hs).2 he
      have hf := stepAt_fin hi he
      rw [scanAt_step hi he] at hs
      obtain ⟨st, hst⟩ : ∃ st, st = stepAt l i := ⟨_, rfl⟩
      rw [← hst] at hs he hf
      have hst' : stepAt l i = ⟨0, st.kind, st.fin⟩ := by rw [← hst, ← he]
      have hz : (scanAt l st.fin).2 = 0 := by
        by_cases hz : (scanAt l st.fin).2 = 0
        · exact hz
        · rw [if_pos hz] at hs; exact absurd (Prod.mk.inj hs).2 hz
      rw [if_neg (by simpa using hz)] at hs
      have hrest := ih st.fin (scanAt l st.fin).1 (by omega) (by rw [← hz])
      split at hs
      · have : (scanAt l st.fin).1 = ts := by cases hs; rfl
        rw [this] at hrest
        have := hrest t ht
        exact ⟨by omega, this.2⟩
      · rename_i hk
        obtain rfl : ⟨st.kind, i, st.fin⟩ :: (scanAt l st.fin).1 = ts := by cases hs; rfl
        rcases List.mem_cons.1 ht with rfl | ht
        · exact ⟨Nat.le_refl _, hf.1, hf.2, hk, hst'⟩
        · have := hrest t ht
          exact ⟨by omega, this.2⟩
    · rw [scanAt_end (by omega)] at hs; cases hs; cases ht

end Go.Proofs.Ytaefimegiobkmaa
/-
  Slices of bytes: the laws on slices of words, turned to bytes.
  Conditions: each theorem's own.
-/
namespace Go.Proofs.Ytaefimegiobkmaa
open Go.RowKit Go.ChangeShapes Go.WideShapes

/-- all bytes of a list fit 8 bits -/
def U8 (l : List Nat) : Prop := ∀ j, gd l j < 256

/-- the slice value v reads as the bytes l in w -/
def Byt (w : World) (v : Value) (l : List Nat) : Prop :=
  ∃ ao c, v = .slice ao l.length c ∧ l.length ≤ c ∧ c ≤ 9223372036854775807 ∧ (ao = none → c = 0) ∧
    (∀ b off s, ao = some ⟨b, off, s⟩ → (0 < l.length → b < w.heap.size ∧ s = none) ∧ ∀ j, j < l.length → w.cell? ⟨b, off + j, none⟩ = some (.int .u8 (gd l j : Nat))) ∧
    U8 l
theorem Byt.mono {w w' : World} {v : Value} {l : List Nat} {B : Nat} (h : Byt w v l) (hb : Below B w w') (hB : w.heap.size ≤ B) : Byt w' v l := by
  obtain ⟨ao, c, rfl, h1, h2, h3, h4, h5⟩ := h
  refine ⟨ao, c, rfl, h1, h2, h3, ?_, h5⟩
  intro b off s hs
  obtain ⟨k1, k3⟩ := h4 b off s hs
  refine ⟨fun h0 => ⟨Nat.lt_of_lt_of_le (k1 h0).1 hb.size, (k1 h0).2⟩, fun j hj => ?_⟩
  rw [hb.cell (p := ⟨b, off + j, none⟩) (Nat.lt_of_lt_of_le (k1 (by omega)).1 hB)]
  exact k3 j hj
theorem Byt.below {w w' : World} {v : Value} {l : List Nat} (h : Byt w v l) (hb : Below w.heap.size w w') : Byt w' v l := h.mono hb (Nat.le_refl _)
theorem Byt.shape {w : World} {v : Value} {l : List Nat} (h : Byt w v l) : ∃ ao c, v = .slice ao l.length c ∧ l.length ≤ c ∧ c ≤ 9223372036854775807 ∧ (ao = none → c = 0) := by
  obtain ⟨ao', c', e, h1, h2, h3, h4, h5⟩ := h
  exact ⟨ao', c', e, h1, h2, h3⟩
theorem Byt.at {w : World} {ao : Option Addr} {n c : Nat} {l : List Nat} (h : Byt w (.slice ao n c) l) (hn : 0 < n) :
    ∃ b off, ao = some ⟨b, off, none⟩ ∧ b < w.heap.size ∧ ∀ j, j < n → w.cell? ⟨b, off + j, none⟩ = some (.int .u8 (gd l j : Nat)) := by
  obtain ⟨ao', c', e, h1, h2, h3, h4, h5⟩ := h
  cases e
  cases hao : ao with
  | none => have := h3 hao; omega
  | some a =>
    obtain ⟨b, off, s⟩ := a
    obtain ⟨k1, k3⟩ := h4 b off s hao
    obtain ⟨k0, rfl⟩ := k1 hn
    exact ⟨b, off, rfl, k0, k3⟩
theorem Byt.lt {w : World} {v : Value} {l : List Nat} (h : Byt w v l) : U8 l := by
  obtain ⟨ao', c', e, h1, h2, h3, h4, h5⟩ := h
  exact h5
theorem Byt.nil (w : World) : Byt w (.slice none 0 0) [] := ⟨none, 0, rfl, Nat.le_refl _, by omega, by simp, by simp, fun j => by simp [gd]⟩

theorem map_gb (l : List Nat) (j : Nat) : (l.map fun x : Nat => Value.int .u8 x)[j]? = if j < l.length then some (.int .u8 (gd l j : Nat)) else none := by
  by_cases h : j < l.length <;> simp [gd, h]

/-- a slice of bytes of the call's own, in blocks from B on: v is nil and empty, or v lies at the head of its block; room for c bytes -/
def OwnB (e : TypeId) (w : World) (B : Nat) (v : Value) (l : List Nat) : Prop :=
  w.ownsRow B e 1 v l.length (l.map fun x : Nat => Value.int .u8 x) ∧ U8 l

section
variable {e : TypeId} {w : World} {B : Nat} {v : Value} {l : List Nat}
theorem OwnB.lt (h : OwnB e w B v l) : U8 l := h.2
theorem OwnB.nil (e : TypeId) (w : World) (B : Nat) : OwnB e w B (.slice none 0 0) [] := ⟨World.ownsRow_nil _ _ _ _, fun j => by simp [gd]⟩
theorem OwnB.cell {g n c : Nat} (h : OwnB e w B (.slice (some ⟨g, 0, none⟩) n c) l) (hn : l.length = n) : ∀ j, j < n → w.cell? ⟨g, j, none⟩ = some (.int .u8 (gd l j : Nat)) := by
  intro j hj
  subst hn
  have := h.1.cellAt j (by omega)
  rw [this, map_gb, if_pos hj]
theorem OwnB.frozen {g n c : Nat} (h : OwnB e w B (.slice (some ⟨g, 0, none⟩) n c) l) (hn : l.length = n) : ∀ j, w.frozen? ⟨g, j, none⟩ = false := fun j => by subst hn; exact h.1.frozenAt j
theorem OwnB.stored {g n c : Nat} (h : OwnB e w B (.slice (some ⟨g, 0, none⟩) n c) l) (hn : l.length = n) (k x : Nat) (hx : x < 256) :
    OwnB e (w.setCell ⟨g, k, none⟩ (.int .u8 x)) B (.slice (some ⟨g, 0, none⟩) n c) (l.set k x) := by
  subst hn
  obtain ⟨h1, h3⟩ := h
  obtain ⟨r1, r2⟩ := h1.stored k (.int .u8 x)
  refine ⟨?_, ?_⟩
  · rw [List.map_set, List.length_set]; exact r1
  · intro j
    rw [gd_set]; split
    · exact hx
    · exact h3 j
theorem OwnB.num (h : OwnB e w B v l) : Byt w v l := by
  obtain ⟨h1, h2⟩ := h
  have hc := fun g hg => h1.cells (g := g) hg
  have hlt := h1.lt
  rcases h1.2 with ⟨rfl, hn⟩ | ⟨g, cap, cur, rfl, hb, hh, hcap, hm, hs, ht⟩
  · have : l = [] := List.eq_nil_of_length_eq_zero hn
    subst this; exact Byt.nil w
  · refine ⟨some ⟨g, 0, none⟩, cap, rfl, hcap, by unfold maxLen at hm; omega, by simp, ?_, h2⟩
    intro b off s hs'
    simp only [Option.some.injEq, Addr.mk.injEq] at hs'
    obtain ⟨rfl, rfl, rfl⟩ := hs'
    refine ⟨fun _ => ⟨(hlt g rfl).2, rfl⟩, fun j hj => ?_⟩
    have := hc g rfl j (.int .u8 (gd l j : Nat)) (by rw [map_gb, if_pos hj])
    have e2 : (⟨g, 0, none⟩ : Addr).add j = ⟨g, 0 + j, none⟩ := by unfold Addr.add; split <;> simp_all
    rw [e2] at this; exact this
theorem OwnB.head (h : OwnB e w B v l) (hn : 0 < l.length) : ∃ g c, v = .slice (some ⟨g, 0, none⟩) l.length c ∧ B ≤ g := by
  rcases h.1.2 with ⟨rfl, h0⟩ | ⟨g, cap, cur, rfl, hb, hh, hcap, hm, hs, ht⟩
  · omega
  · exact ⟨g, cap, rfl, hb⟩
theorem OwnB.block {g n c : Nat} (h : OwnB e w B (.slice (some ⟨g, 0, none⟩) n c) l) : B ≤ g ∧ g < w.heap.size := h.1.lt g rfl
theorem OwnB.alloc (h : OwnB e w B v l) (o : Obj) : OwnB e (w.alloc o) B v l := ⟨h.1.alloc o, h.2⟩
theorem OwnB.drew (h : OwnB e w B v l) : OwnB e w.drew B v l := ⟨h.1.drew, h.2⟩
/-- what is owned stays owned behind a call that leaves all blocks that were there alone -/
theorem OwnB.below {w' : World} (h : OwnB e w B v l) (hb : Below w.heap.size w w') : OwnB e w' B v l := by
  refine ⟨h.1.kept (row := none) ⟨hb.os, hb.tape, hb.output, hb.size, fun k hk _ => hb.block k hk⟩ ?_, h.2⟩
  cases hv : v.ownBlock <;> simp
theorem OwnB.base {B' : Nat} (h : OwnB e w B v l) (hB : B' ≤ B) : OwnB e w B' v l := by
  obtain ⟨⟨h1, h2⟩, h3⟩ := h
  refine ⟨⟨h1, ?_⟩, h3⟩
  rcases h2 with h2 | ⟨g, cap, cur, hv, hb, r⟩
  · exact .inl h2
  · exact .inr ⟨g, cap, cur, hv, Nat.le_trans hB hb, r⟩
end

section
variable {P : Program} {w : World} {ops : Array Oper} {rest : List Oper} {o : Oper} {a : Act} {Q : Exit → Act → World → Prop} {t e : TypeId}
end


end Go.Proofs.Ytaefimegiobkmaa
/-
  Plain texts: the bytes of joined and cut texts; the texts of tokens in a text with a gap.
  Conditions: each theorem's own.
-/
namespace Go.Proofs.Ytaefimegiobkmaa
open Go.RowKit

theorem bs_append (a b : ByteArray) : bs (a ++ b) = bs a ++ bs b := by
  unfold bs
  rw [ByteArray.data_append, Array.toList_append, List.map_append]
theorem bs_extract (s : ByteArray) (a b : Nat) : bs (s.extract a b) = ((bs s).drop a).take (b - a) := by
  unfold bs
  rw [ByteArray.data_extract, Array.toList_extract, List.extract_eq_take_drop, List.map_take, List.map_drop]
end Go.Proofs.Ytaefimegiobkmaa
/-
  The walk of the law TokenLarge.
  Conditions: none.
-/
namespace Go.Proofs.Ytaefimegiobkmaa
open Go.RowKit Go.ChangeShapes Go.WideShapes

theorem OwnT.empty {w : World} {B : Nat} {v : Value} (h : OwnT w B v []) : ∃ ao c, v = .slice ao 0 c := by
  obtain ⟨ao, c, h, _⟩ := h.toks.shape
  exact ⟨ao, c, h⟩

end Go.Proofs.Ytaefimegiobkmaa
/-
  The walk of the law TokenSpaces.
  Conditions: none.
-/
namespace Go.Proofs.Ytaefimegiobkmaa
open Go.RowKit Go.ChangeShapes Go.WideShapes

theorem splitL_err {l : List Nat} (h : (splitL l).2 ≠ 0) : (splitL l).1 = [] := by
  unfold splitL at h ⊢
  split at h
  · rename_i h1; rw [if_pos h1]
  · rename_i h1; rw [if_neg h1]; exact scan_clean _ _ _ h
theorem splitL_ok {l : List Nat} {ts : List Tk} (hl : l.length ≤ 65536) (h : splitL l = (ts, 0)) : scanAt l 0 = (ts, 0) := by
  unfold splitL at h; rwa [if_neg (by omega)] at h
theorem scan_count {l : List Nat} (n : Nat) : ∀ i, (scan l n i).1.length ≤ n := by
  induction n with
  | zero => intro i; simp [scan]
  | succ n ih =>
    intro i
    simp only [scan]
    split
    · split
      · simp
      · split
        · simp
        · have := ih (stepAt l i).fin
          split <;> simp <;> omega
    · simp
theorem splitL_count (l : List Nat) : (splitL l).1.length ≤ l.length := by
  unfold splitL
  split
  · simp
  · unfold scanAt; exact scan_count _ _
end Go.Proofs.Ytaefimegiobkmaa
/-
  Fractions as rational numbers of Lean's core: sign, numerator, denominator, and what the operations on them give.
  Conditions: none.
-/
namespace Go.Proofs.Ytaefimegiobkmaa

/-- plus or minus n -/
def sgn (s : Bool) (n : Nat) : Int := if s then -(n : Int) else n
/-- plus or minus n / d -/
def qm (s : Bool) (n d : Nat) : Rat := mkRat (sgn s n) d
/-- the fields of the valid form of a number -/
def ng (q : Rat) : Bool := decide (q < 0)
def nn (q : Rat) : Nat := q.num.natAbs
def dn (q : Rat) : Nat := if q = 0 then 0 else q.den
/-- the sign of a number -/
def sg (q : Rat) : Int := if q < 0 then -1 else if q = 0 then 0 else 1
/-- how two numbers compare -/
def cq (p q : Rat) : Int := if p < q then -1 else if p = q then 0 else 1

theorem sgn_natAbs (s : Bool) (n : Nat) : (sgn s n).natAbs = n := by unfold sgn; split <;> simp
theorem sgn_zero (s : Bool) : sgn s 0 = 0 := by unfold sgn; split <;> rfl
theorem qm_zero (s : Bool) (d : Nat) : qm s 0 d = 0 := by unfold qm; rw [sgn_zero, Rat.zero_mkRat]
theorem ng_zero : ng 0 = false := rfl
theorem nn_zero : nn 0 = 0 := rfl
theorem dn_zero : dn 0 = 0 := rfl
theorem dn_pos {q : Rat} (h : q ≠ 0) : dn q = q.den := by unfold dn; rw [if_neg h]
theorem nn_eq_zero {q : Rat} : nn q = 0 ↔ q = 0 := by
  unfold nn; rw [Int.natAbs_eq_zero, Rat.num_eq_zero]
theorem num_sgn (q : Rat) : q.num = sgn (ng q) (nn q) := by
  unfold sgn ng nn
  by_cases h : q < 0
  · have : ¬ 0 ≤ q := by grind
    rw [← Rat.num_nonneg] at this
    rw [if_pos (decide_eq_true h)]; omega
  · have : 0 ≤ q := by grind
    rw [← Rat.num_nonneg] at this
    rw [if_neg (by simp [h])]; omega
theorem qm_self (q : Rat) : qm (ng q) (nn q) q.den = q := by
  unfold qm; rw [← num_sgn, Rat.mkRat_self]
theorem qm_neg_iff {s : Bool} {n d : Nat} (hd : d ≠ 0) : qm s n d < 0 ↔ s = true ∧ n ≠ 0 := by
  have hd' : (0 : Rat) < (d : Rat) := Rat.natCast_pos.2 (by omega)
  unfold qm
  rw [Rat.mkRat_eq_div, Rat.div_lt_iff hd', Rat.zero_mul]
  rw [show (0 : Rat) = ((0 : Int) : Rat) from rfl, Rat.intCast_lt_intCast]
  unfold sgn
  cases s
  · simp
  · simp; omega
theorem ng_qm {s : Bool} {n d : Nat} (hd : d ≠ 0) (hn : n ≠ 0) : ng (qm s n d) = s := by
  unfold ng
  cases s
  · exact decide_eq_false (fun h => by have := (qm_neg_iff hd).1 h; simp at this)
  · exact decide_eq_true ((qm_neg_iff hd).2 ⟨rfl, hn⟩)
theorem qm_ne_zero {s : Bool} {n d : Nat} (hd : d ≠ 0) (hn : n ≠ 0) : qm s n d ≠ 0 := by
  unfold qm
  rw [Rat.mkRat_ne_zero hd]
  unfold sgn; split <;> omega
theorem nn_qm {s : Bool} {n d : Nat} (hd : d ≠ 0) : nn (qm s n d) = n / Nat.gcd n d := by
  unfold nn qm
  rw [Rat.num_mkRat, if_neg hd, sgn_natAbs, Nat.gcd_comm d n, Int.natAbs_ediv_of_dvd, sgn_natAbs, Int.natAbs_natCast]
  rw [← Int.dvd_natAbs, sgn_natAbs, Int.ofNat_dvd]
  exact Nat.gcd_dvd_left n d
theorem den_qm {s : Bool} {n d : Nat} (hd : d ≠ 0) : (qm s n d).den = d / Nat.gcd n d := by
  unfold qm
  rw [Rat.den_mkRat, if_neg hd, sgn_natAbs, Nat.gcd_comm d n]
theorem dn_qm {s : Bool} {n d : Nat} (hd : d ≠ 0) (hn : n ≠ 0) : dn (qm s n d) = d / Nat.gcd n d := by
  rw [dn_pos (qm_ne_zero hd hn), den_qm hd]
theorem nn_gcd (q : Rat) : Nat.gcd (nn q) q.den = 1 := q.reduced
/-- a fraction in lowest terms has these fields -/
theorem fields_qm {s : Bool} {n d : Nat} (hd : d ≠ 0) (hn : n ≠ 0) (hg : Nat.gcd n d = 1) : ng (qm s n d) = s ∧ nn (qm s n d) = n ∧ dn (qm s n d) = d := by
  refine ⟨ng_qm hd hn, ?_, ?_⟩
  · rw [nn_qm hd, hg, Nat.div_one]
  · rw [dn_qm hd hn, hg, Nat.div_one]
theorem qm_eq_div (s : Bool) (n d : Nat) : qm s n d = ((sgn s n : Int) : Rat) / (d : Rat) := by unfold qm; rw [Rat.mkRat_eq_div]
theorem den_ne (q : Rat) : (q.den : Rat) ≠ 0 := fun h => q.den_nz (Rat.natCast_eq_zero_iff.1 h)
theorem self_div (q : Rat) : q = ((sgn (ng q) (nn q) : Int) : Rat) / (q.den : Rat) := by rw [← qm_eq_div, qm_self]
theorem sgn_mul (s t : Bool) (m n : Nat) : sgn (s != t) (m * n) = sgn s m * sgn t n := by
  unfold sgn; cases s <;> cases t <;> simp [Int.neg_mul, Int.mul_neg]
theorem sgn_mulN (s : Bool) (m n : Nat) : sgn s (m * n) = sgn s m * (n : Int) := by
  unfold sgn; cases s <;> simp [Int.neg_mul]
theorem sgn_add (s : Bool) (m n : Nat) : sgn s (m + n) = sgn s m + sgn s n := by
  unfold sgn; cases s <;> simp; omega
theorem sgn_sub (s : Bool) {m n : Nat} (h : n ≤ m) : sgn s (m - n) = sgn s m + sgn (!s) n := by
  unfold sgn; cases s <;> simp <;> omega
theorem den_mul_nz {a b : Nat} (ha : a ≠ 0) (hb : b ≠ 0) : a * b ≠ 0 := Nat.mul_ne_zero ha hb
theorem q_mul (p q : Rat) : qm (ng p != ng q) (nn p * nn q) (p.den * q.den) = p * q := by
  have h1 := self_div p
  have h2 := self_div q
  have d1 := den_ne p
  have d2 := den_ne q
  rw [qm_eq_div, sgn_mul, Rat.intCast_mul, Rat.natCast_mul]
  grind
theorem q_add_same (p q : Rat) (h : ng p = ng q) : qm (ng p) (nn p * q.den + nn q * p.den) (p.den * q.den) = p + q := by
  have h1 := self_div p
  have h2 := self_div q
  have d1 := den_ne p
  have d2 := den_ne q
  rw [← h] at h2
  rw [qm_eq_div, sgn_add, sgn_mulN, sgn_mulN,
    Rat.intCast_add, Rat.intCast_mul, Rat.intCast_mul, Rat.natCast_mul, Rat.intCast_natCast, Rat.intCast_natCast]
  grind
theorem q_add_diff (p q : Rat) (h : ng p ≠ ng q) (hle : nn q * p.den ≤ nn p * q.den) : qm (ng p) (nn p * q.den - nn q * p.den) (p.den * q.den) = p + q := by
  have h1 := self_div p
  have h2 := self_div q
  have d1 := den_ne p
  have d2 := den_ne q
  have e : ng q = !ng p := by revert h; cases ng p <;> cases ng q <;> simp
  rw [e] at h2
  rw [qm_eq_div, sgn_sub _ hle, sgn_mulN, sgn_mulN,
    Rat.intCast_add, Rat.intCast_mul, Rat.intCast_mul, Rat.natCast_mul, Rat.intCast_natCast, Rat.intCast_natCast]
  grind
theorem q_add_diff' (p q : Rat) (h : ng p ≠ ng q) (hle : nn p * q.den ≤ nn q * p.den) : qm (ng q) (nn q * p.den - nn p * q.den) (p.den * q.den) = p + q := by
  have := q_add_diff q p (fun e => h e.symm) hle
  rw [Nat.mul_comm q.den p.den, Rat.add_comm] at this; exact this
theorem q_div (p q : Rat) (h : q ≠ 0) : qm (ng p != ng q) (nn p * q.den) (p.den * nn q) = p / q := by
  have h1 := self_div p
  have h2 := self_div q
  have d1 := den_ne p
  have d2 := den_ne q
  have h3 : nn q ≠ 0 := fun e => h (nn_eq_zero.1 e)
  have d3 : (nn q : Rat) ≠ 0 := fun e => h3 (Rat.natCast_eq_zero_iff.1 e)
  have e3 : ((sgn (ng p != ng q) (nn p * q.den) : Int) : Rat) * ((sgn (ng q) (nn q) : Int) : Rat) = ((sgn (ng p) (nn p) : Int) : Rat) * (q.den : Rat) * (nn q : Rat) := by
    rw [← Rat.intCast_mul, ← Rat.intCast_natCast, ← Rat.intCast_natCast, ← Rat.intCast_mul, ← Rat.intCast_mul]
    congr 1
    have e4 : sgn (ng q) (nn q) * sgn (ng q) (nn q) = (nn q : Int) * (nn q : Int) := by unfold sgn; cases ng q <;> simp [Int.neg_mul_neg]
    have e5 : sgn (ng p != ng q) (nn p * q.den) * (nn q : Int) = sgn (ng p) (nn p) * sgn (ng q) (nn q) * (q.den : Int) := by
      rw [← sgn_mul, ← sgn_mulN, ← sgn_mulN, Nat.mul_assoc, Nat.mul_comm q.den, ← Nat.mul_assoc]
    have h6 : (nn q : Int) ≠ 0 := by omega
    apply Int.eq_of_mul_eq_mul_right h6
    calc _ = (sgn (ng p != ng q) (nn p * q.den) * (nn q : Int)) * sgn (ng q) (nn q) := by ac_rfl
      _ = sgn (ng p) (nn p) * (q.den : Int) * (sgn (ng q) (nn q) * sgn (ng q) (nn q)) := by rw [e5]; ac_rfl
      _ = _ := by rw [e4]; ac_rfl
  have d4 : ((sgn (ng q) (nn q) : Int) : Rat) ≠ 0 := fun e => by
    rw [Rat.intCast_eq_zero_iff] at e
    have := sgn_natAbs (ng q) (nn q)
    rw [e] at this; exact h3 this.symm
  rw [qm_eq_div, Rat.natCast_mul]
  grind
/-- how many words the fields of a number have -/
def rl (q : Rat) : Nat := max (wd (nn q)).length (wd q.den).length
theorem rl_n (q : Rat) : (wd (nn q)).length ≤ rl q := Nat.le_max_left _ _
theorem rl_d (q : Rat) : (wd q.den).length ≤ rl q := Nat.le_max_right _ _
theorem rl_qm {s : Bool} {n d L : Nat} (hd : d ≠ 0) (h1 : (wd n).length ≤ L) (h2 : (wd d).length ≤ L) : rl (qm s n d) ≤ L := by
  unfold rl
  rw [nn_qm hd, den_qm hd]
  exact Nat.max_le.2 ⟨Nat.le_trans (wd_length_mono (Nat.div_le_self _ _)) h1, Nat.le_trans (wd_length_mono (Nat.div_le_self _ _)) h2⟩
theorem rl_mul (p q : Rat) : rl (p * q) ≤ rl p + rl q := by
  rw [← q_mul]
  refine rl_qm (den_mul_nz p.den_nz q.den_nz) ?_ ?_
  · exact Nat.le_trans (wd_mul_len _ _) (Nat.add_le_add (rl_n p) (rl_n q))
  · exact Nat.le_trans (wd_mul_len _ _) (Nat.add_le_add (rl_d p) (rl_d q))
theorem rl_div (p q : Rat) (h : q ≠ 0) : rl (p / q) ≤ rl p + rl q := by
  rw [← q_div p q h]
  refine rl_qm (den_mul_nz p.den_nz (fun e => h (nn_eq_zero.1 e))) ?_ ?_
  · exact Nat.le_trans (wd_mul_len _ _) (Nat.add_le_add (rl_n p) (rl_d q))
  · exact Nat.le_trans (wd_mul_len _ _) (Nat.add_le_add (rl_d p) (rl_n q))
theorem rl_add (p q : Rat) : rl (p + q) ≤ rl p + rl q + 1 := by
  have a1 : (wd (nn p * q.den)).length ≤ rl p + rl q := Nat.le_trans (wd_mul_len _ _) (Nat.add_le_add (rl_n p) (rl_d q))
  have a2 : (wd (nn q * p.den)).length ≤ rl p + rl q := by rw [Nat.mul_comm]; exact Nat.le_trans (wd_mul_len _ _) (Nat.add_le_add (rl_d p) (rl_n q))
  have a3 : (wd (p.den * q.den)).length ≤ rl p + rl q := Nat.le_trans (wd_mul_len _ _) (Nat.add_le_add (rl_d p) (rl_d q))
  have nz := den_mul_nz p.den_nz q.den_nz
  by_cases h : ng p = ng q
  · rw [← q_add_same p q h]
    refine rl_qm nz ?_ (by omega)
    have := wd_add_len (nn p * q.den) (nn q * p.den); omega
  · rcases Nat.le_total (nn q * p.den) (nn p * q.den) with h2 | h2
    · rw [← q_add_diff p q h h2]
      exact rl_qm nz (Nat.le_trans (wd_length_mono (Nat.sub_le _ _)) (by omega)) (by omega)
    · rw [← q_add_diff' p q h h2]
      exact rl_qm nz (Nat.le_trans (wd_length_mono (Nat.sub_le _ _)) (by omega)) (by omega)
theorem rl_int (n : Int) : rl (n : Rat) = max (wd n.natAbs).length 1 := by
  unfold rl nn
  rw [Rat.num_intCast, Rat.den_intCast, show wd 1 = [1] from wd_one (by decide) (by decide)]; rfl
theorem rl_zero : rl 0 = 1 := by
  have := rl_int 0
  rw [show (0 : Int).natAbs = 0 from rfl, wd_zero] at this; exact this
end Go.Proofs.Ytaefimegiobkmaa
/-
  Fractions: whole parts, powers, ints, what is valid.
  Conditions: none.
-/
namespace Go.Proofs.Ytaefimegiobkmaa

theorem qm_one (s : Bool) (n : Nat) : qm s n 1 = ((sgn s n : Int) : Rat) := by
  rw [qm_eq_div]
  have : ((1 : Nat) : Rat) = 1 := rfl
  rw [this]; grind
/-- the whole part of a number, as a number -/
def fl (p : Rat) : Rat := ((p.floor : Int) : Rat)
theorem rl_pos (q : Rat) : 1 ≤ rl q := by
  have h := rl_d q
  have : (wd q.den).length ≠ 0 := by rw [wd_pos q.den_nz]; simp
  omega
theorem pow_rat_zero (p : Rat) : p ^ 0 = 1 := Rat.pow_zero p
theorem pow_rat_succ (p : Rat) (n : Nat) : p ^ (n + 1) = p ^ n * p := Rat.pow_succ p n
theorem pow_rat_ne (p : Rat) (h : p ≠ 0) (n : Nat) : p ^ n ≠ 0 := by
  induction n with
  | zero => rw [pow_rat_zero]; decide
  | succ n ih =>
    rw [pow_rat_succ]
    intro h2
    rcases Rat.mul_eq_zero.1 h2 with h3 | h3
    · exact ih h3
    · exact h h3
theorem rl_one : rl 1 = 1 := by
  have := rl_int 1
  rw [show (1 : Int).natAbs = 1 from rfl, show wd 1 = [1] from wd_one (by decide) (by decide)] at this; exact this
/-- whether fields are those of a valid form -/
def Vld (s : Bool) (a b : List Nat) : Prop := (a = [] ∧ b = [] ∧ s = false) ∨ (a ≠ [] ∧ b ≠ [] ∧ Clean a ∧ Clean b ∧ Nat.gcd (val a) (val b) = 1)
instance (l : List Nat) : Decidable (Clean l) := by unfold Clean; exact inferInstance
instance (s : Bool) (a b : List Nat) : Decidable (Vld s a b) := by unfold Vld; exact inferInstance
/-- the number as which fields count -/
def rq (s : Bool) (a b : List Nat) : Rat := if Vld s a b then qm s (val a) (val b) else 0
theorem val_ne {l : List Nat} (hu : U32 l) (hc : Clean l) (h : l ≠ []) : val l ≠ 0 := by
  intro h0
  have := clean_eq hu hc
  rw [h0, wd_zero] at this; exact h this
theorem wd_ne {n : Nat} (h : n ≠ 0) : wd n ≠ [] := by rw [wd_pos h]; simp
theorem vld_zero : Vld false [] [] := .inl ⟨rfl, rfl, rfl⟩
theorem rq_zero : rq false [] [] = 0 := by
  unfold rq; rw [if_pos vld_zero]; exact qm_zero _ _
/-- valid fields are those of the number -/
theorem vld_fields {s : Bool} {a b : List Nat} (ha : U32 a) (hb : U32 b) (h : Vld s a b) : s = ng (rq s a b) ∧ a = wd (nn (rq s a b)) ∧ b = wd (dn (rq s a b)) := by
  have hr : rq s a b = qm s (val a) (val b) := by unfold rq; rw [if_pos h]
  rcases h with ⟨rfl, rfl, rfl⟩ | ⟨h1, h2, h3, h4, h5⟩
  · rw [rq_zero, ng_zero, nn_zero, dn_zero, wd_zero]; exact ⟨rfl, rfl, rfl⟩
  · have v1 := val_ne ha h3 h1
    have v2 := val_ne hb h4 h2
    obtain ⟨e1, e2, e3⟩ := fields_qm (s := s) v2 v1 h5
    rw [hr, e1, e2, e3]
    exact ⟨rfl, clean_eq ha h3, clean_eq hb h4⟩
/-- a number's own fields are valid and count as it -/
theorem vld_self (q : Rat) : Vld (ng q) (wd (nn q)) (wd (dn q)) ∧ rq (ng q) (wd (nn q)) (wd (dn q)) = q := by
  by_cases h : q = 0
  · subst h
    rw [ng_zero, nn_zero, dn_zero, wd_zero]; exact ⟨vld_zero, rq_zero⟩
  · have h1 : nn q ≠ 0 := fun e => h (nn_eq_zero.1 e)
    have hv : Vld (ng q) (wd (nn q)) (wd (dn q)) := by
      right
      rw [dn_pos h]
      refine ⟨wd_ne h1, wd_ne q.den_nz, clean_wd _, clean_wd _, ?_⟩
      rw [val_wd, val_wd]; exact nn_gcd q
    refine ⟨hv, ?_⟩
    unfold rq
    rw [if_pos hv, val_wd, val_wd, dn_pos h, qm_self]
theorem rq_invalid {s : Bool} {a b : List Nat} (h : ¬ Vld s a b) : rq s a b = 0 := by unfold rq; rw [if_neg h]
theorem rl_rq {s : Bool} {a b : List Nat} {L : Nat} (ha : U32 a) (hb : U32 b) (h1 : a.length ≤ L) (h2 : b.length ≤ L) (hL : 1 ≤ L) : rl (rq s a b) ≤ L := by
  by_cases h : Vld s a b
  · by_cases h0 : rq s a b = 0
    · rw [h0, rl_zero]; exact hL
    · obtain ⟨_, e2, e3⟩ := vld_fields ha hb h
      unfold rl
      rw [dn_pos h0] at e3
      rw [← e2, ← e3]; omega
  · rw [rq_invalid h, rl_zero]; exact hL
end Go.Proofs.Ytaefimegiobkmaa
/-
  The reference's Div: what it hands back.
  Conditions: each theorem's own.
-/
namespace Go.Proofs.Ytaefimegiobkmaa
open Go.RowKit Go.ChangeShapes Go.WideShapes

/-- a slice's tail -/
def cutS (ao : Option Addr) (k n c : Nat) : Value := .slice (if c = k then ao else ao.map (·.add k)) (n - k) (c - k)
theorem Num.cut {w : World} {ao : Option Addr} {n c : Nat} {l : List Nat} (h : Num w (.slice ao n c) l) (k : Nat) (hk : k ≤ n) : Num w (cutS ao k n c) (l.drop k) := by
  obtain ⟨ao', c', e, h1, h2, h3, h4, h5⟩ := h
  cases e
  have hl : (l.drop k).length = l.length - k := by rw [List.length_drop]
  unfold cutS
  refine ⟨_, _, by rw [hl], by omega, by omega, ?_, ?_, h5.drop k⟩
  · intro hn
    split at hn
    · have := h3 hn; omega
    · cases ao with
      | none => have := h3 rfl; omega
      | some x => simp at hn
  · intro b off s hs
    split at hs
    · rename_i hck
      refine ⟨fun h0 => ?_, fun j hj => ?_⟩
      · rw [hl] at h0; omega
      · rw [hl] at hj; omega
    · cases ao with
      | none => simp at hs
      | some x =>
        obtain ⟨b', off', s'⟩ := x
        obtain ⟨k1, k2⟩ := h4 _ _ _ rfl
        by_cases hn0 : 0 < l.length
        · obtain ⟨k3, rfl⟩ := k1 hn0
          have e2 : (⟨b', off', none⟩ : Addr).add k = ⟨b', off' + k, none⟩ := by unfold Addr.add; split <;> simp_all
          simp only [Option.map_some, e2, Option.some.injEq, Addr.mk.injEq] at hs
          obtain ⟨rfl, rfl, rfl⟩ := hs
          refine ⟨fun _ => ⟨k3, rfl⟩, fun j hj => ?_⟩
          rw [gd_drop, Nat.add_assoc]
          exact k2 (k + j) (by rw [hl] at hj; omega)
        · exact ⟨fun h0 => by rw [hl] at h0; omega, fun j hj => by rw [hl] at hj; omega⟩

end Go.Proofs.Ytaefimegiobkmaa
/-
  The reference's Parse: what it hands back.
  Conditions: each theorem's own.
-/
namespace Go.Proofs.Ytaefimegiobkmaa
open Go.RowKit Go.ChangeShapes Go.WideShapes

/-- a call's number, with all numbers kept -/
def RetK (w0 wx : World) (n : Nat) (e : Ending) (w' : World) : Prop :=
  ∃ v, e = .returned v ∧ Below w0.heap.size w0 w' ∧ Num w' v (wd n) ∧ ∀ u l, Num wx u l → Num w' u l
theorem RetNum.k {w0 wx : World} {n : Nat} (h : Below w0.heap.size w0 wx) {e : Ending} {w' : World} (hr : RetNum wx (fun r => r = wd n) e w') : RetK w0 wx n e w' := by
  obtain ⟨v, l, he, hb, hn, rfl⟩ := hr
  exact ⟨v, he, h.trans (hb.mono h.size), hn, fun u l hu => hu.below hb⟩
end Go.Proofs.Ytaefimegiobkmaa
/-
  The reference's Parse: its loop.
  Conditions: each theorem's own.
-/
namespace Go.Proofs.Ytaefimegiobkmaa
open Go.RowKit Go.ChangeShapes Go.WideShapes

/-- a call's number, for ever -/
def RetP (w0 : World) (n : Nat) (e : Ending) (w' : World) : Prop :=
  ∃ v, e = .returned v ∧ Below w0.heap.size w0 w' ∧ ∀ wx, Below w'.heap.size w' wx → Num wx v (wd n)
theorem RetNum.p {w0 : World} {n : Nat} {e : Ending} {w' : World} (hr : RetNum w0 (fun r => r = wd n) e w') : RetP w0 n e w' := by
  obtain ⟨v, l, he, hb, hn, rfl⟩ := hr
  exact ⟨v, he, hb, fun wx hx => hn.below hx⟩

theorem _root_.Go.RowKit.Below.step {w w1 w2 : World} (h : Below w.heap.size w w1) (h2 : Below w1.heap.size w1 w2) : Below w.heap.size w w2 := h.trans (h2.mono h.size)

end Go.Proofs.Ytaefimegiobkmaa
/-
  Fractions in memory: what a value reads as, what a call hands back.
  Conditions: none beyond each theorem's own.
-/
namespace Go.Proofs.Ytaefimegiobkmaa
open Go.RowKit Go.ChangeShapes Go.WideShapes

/-- the value reads as a fraction with these fields -/
def RatV (w : World) (v : Value) (s : Bool) (a b : List Nat) : Prop := ∃ va vb, v = .agg #[.bool s, va, vb] ∧ Num w va a ∧ Num w vb b
/-- the value reads as the valid form of q -/
def IsR (w : World) (v : Value) (q : Rat) : Prop := RatV w v (ng q) (wd (nn q)) (wd (dn q))
/-- the value reads as a fraction of any fields that counts as q, its words not too many -/
def RatIs (w : World) (v : Value) (q : Rat) : Prop := ∃ s a b, RatV w v s a b ∧ rq s a b = q ∧ a.length ≤ 100000 ∧ b.length ≤ 100000
theorem RatV.below {w w' : World} {v : Value} {s : Bool} {a b : List Nat} (h : RatV w v s a b) (hb : Below w.heap.size w w') : RatV w' v s a b := by
  obtain ⟨va, vb, rfl, h1, h2⟩ := h
  exact ⟨va, vb, rfl, h1.below hb, h2.below hb⟩
theorem IsR.below {w w' : World} {v : Value} {q : Rat} (h : IsR w v q) (hb : Below w.heap.size w w') : IsR w' v q := RatV.below h hb
theorem RatIs.below {w w' : World} {v : Value} {q : Rat} (h : RatIs w v q) (hb : Below w.heap.size w w') : RatIs w' v q := by
  obtain ⟨s, a, b, h1, h2⟩ := h
  exact ⟨s, a, b, h1.below hb, h2⟩
theorem dn_len (q : Rat) : (wd (dn q)).length ≤ rl q := by
  unfold dn; split
  · rw [wd_zero]; exact Nat.zero_le _
  · exact rl_d q
theorem IsR.is {w : World} {v : Value} {q : Rat} (h : IsR w v q) (hl : rl q ≤ 100000) : RatIs w v q :=
  ⟨_, _, _, h, (vld_self q).2, Nat.le_trans (rl_n q) hl, Nat.le_trans (dn_len q) hl⟩
theorem RatV.is {w : World} {v : Value} {s : Bool} {a b : List Nat} (h : RatV w v s a b) (h1 : a.length ≤ 100000) (h2 : b.length ≤ 100000) : RatIs w v (rq s a b) := ⟨s, a, b, h, rfl, h1, h2⟩
theorem RatV.lt {w : World} {v : Value} {s : Bool} {a b : List Nat} (h : RatV w v s a b) : U32 a ∧ U32 b := by
  obtain ⟨va, vb, rfl, h1, h2⟩ := h
  exact ⟨h1.lt, h2.lt⟩
theorem RatIs.rl {w : World} {v : Value} {q : Rat} (h : RatIs w v q) : rl q ≤ 100000 := by
  obtain ⟨s, a, b, h, rfl, h1, h2⟩ := h
  obtain ⟨u1, u2⟩ := h.lt
  exact rl_rq u1 u2 h1 h2 (by decide)
/-- the zero value -/
theorem isR_zero (w : World) : IsR w (.agg #[.bool false, .slice none 0 0, .slice none 0 0]) 0 := by
  unfold IsR
  rw [ng_zero, nn_zero, dn_zero, wd_zero]
  exact ⟨_, _, rfl, Num.nil w, Num.nil w⟩
/-- hands back a number n -/
def RetN (w : World) (n : Nat) (e : Ending) (w' : World) : Prop := ∃ v, e = .returned v ∧ Below w.heap.size w w' ∧ Num w' v (wd n)
theorem RetNum.n {w : World} {n : Nat} {e : Ending} {w' : World} (h : RetNum w (fun r => r = wd n) e w') : RetN w n e w' := by
  obtain ⟨v, l, he, hb, hn, rfl⟩ := h
  exact ⟨v, he, hb, hn⟩
/-- hands back the valid form of q -/
def RetR (w : World) (q : Rat) (e : Ending) (w' : World) : Prop := ∃ v, e = .returned v ∧ Below w.heap.size w w' ∧ IsR w' v q
/-- .. with an error (or its number) -/
def RetRE (w : World) (q : Rat) (er : Value) (e : Ending) (w' : World) : Prop := ∃ v, e = .returned (.tuple #[v, er]) ∧ Below w.heap.size w w' ∧ IsR w' v q
end Go.Proofs.Ytaefimegiobkmaa
/-
  rational.one, plain, Valid: what they hand back.
  Conditions: each theorem's own.
-/
namespace Go.Proofs.Ytaefimegiobkmaa
open Go.RowKit Go.ChangeShapes Go.WideShapes

/-- a boxed value's cells stay behind a call -/
theorem box_kept {w w1 : World} {cs : Array Value} {T : TypeId} (hb : Below (w.alloc (.cells cs T)).heap.size (w.alloc (.cells cs T)) w1) (j : Nat) :
    w1.cell? ⟨w.heap.size, j, none⟩ = cs[j]? := by
  rw [hb.cell (p := ⟨w.heap.size, j, none⟩) (by simp), cell_of_row _ _ _ _ _ _ (heap_alloc_new _ _)]

set_option maxRecDepth 100000 in
set_option maxHeartbeats 400000 in
theorem one_any (w : World) : Calls Try.prog 47 #[] w (RetN w 1) := by
  go_enter Try.func47, Try.ntmps47
  go_wp2_with fail
  go_ret
  refine ⟨_, rfl, (Below.refl _ _).alloc (Nat.le_refl _) _, ?_⟩
  rw [wd_one (by decide) (by decide)]
  exact num_one w 70 1 (by decide)
set_option maxRecDepth 100000 in
set_option maxHeartbeats 1600000 in
theorem plain_any (va : Value) (a : List Nat) (w : World) (ha : Num w va a) :
    Calls Try.prog 82 #[va] w (RetS w (.bool (decide (a ≠ [] ∧ Clean a)))) := by
  obtain ⟨ao, ca, rfl, hca, hca2, _⟩ := ha.shape
  by_cases h0 : a.length = 0
  · obtain rfl := List.eq_nil_of_length_eq_zero h0
    clear ha
    go_enter Try.func82, Try.ntmps82
    go_wp2_with fail
    go_ret
    exact ⟨rfl, rfl⟩
  · obtain ⟨b, off, rfl, _, hcell⟩ := ha.at (by omega)
    obtain ⟨m, hm⟩ : ∃ m, m = a.length := ⟨_, rfl⟩
    rw [← hm] at h0 hca hcell ⊢
    have hx := hcell (m - 1) (by omega)
    obtain ⟨x, hxe⟩ : ∃ x, x = gd a (m - 1) := ⟨_, rfl⟩
    rw [← hxe] at hx
    have hcl : (decide (a ≠ [] ∧ Clean a)) = decide (x ≠ 0) := by
      rw [decide_eq_decide, hxe, hm]
      unfold Clean
      have hne : a ≠ [] := fun e => by rw [e] at hm; simp at hm; omega
      constructor
      · rintro ⟨h, h | h⟩
        · exact absurd h hne
        · exact h
      · intro h; exact ⟨hne, .inr h⟩
    rw [hcl]
    have hm0 : decide ((0 : Int) < (m : Int)) = true := decide_eq_true (by omega)
    have hxl : x < 4294967296 := by rw [hxe]; exact ha.lt _
    by_cases hx0 : x = 0
    · subst hx0
      clear hcell hxe hm ha hcl
      go_enter Try.func82, Try.ntmps82
      go_wp2_with fail
      go_ret
      exact ⟨rfl, rfl⟩
    · have hne : (bne (x : Int) 0) = true := by simp; omega
      have hd : decide (x ≠ 0) = true := decide_eq_true hx0
      rw [hd]
      clear hcell hxe hm ha hcl hd
      go_enter Try.func82, Try.ntmps82
      go_wp2_with fail
      go_ret
      exact ⟨rfl, rfl⟩

/-- what Valid comes to where the fields are not both empty -/
theorem vld_parts {s : Bool} {a b : List Nat} (h : ¬ (a = [] ∧ b = [])) : Vld s a b ↔ (a ≠ [] ∧ Clean a) ∧ (b ≠ [] ∧ Clean b) ∧ Nat.gcd (val a) (val b) = 1 := by
  unfold Vld
  constructor
  · rintro (⟨h1, h2, _⟩ | ⟨h1, h2, h3, h4, h5⟩)
    · exact absurd ⟨h1, h2⟩ h
    · exact ⟨⟨h1, h3⟩, ⟨h2, h4⟩, h5⟩
  · rintro ⟨⟨h1, h3⟩, ⟨h2, h4⟩, h5⟩
    exact .inr ⟨h1, h2, h3, h4, h5⟩
set_option maxRecDepth 100000 in
set_option maxHeartbeats 3200000 in
theorem valid_any (v : Value) (s : Bool) (a b : List Nat) (w : World) (h : RatV w v s a b) (hla : a.length ≤ 400000) (hlb : b.length ≤ 400000) :
    Calls Try.prog 62 #[v] w (RetV w (.bool (decide (Vld s a b)))) := by
  obtain ⟨va, vb, rfl, ha, hb⟩ := h
  obtain ⟨ao, ca, rfl, hca, hca2, _⟩ := ha.shape
  obtain ⟨bo, cb, rfl, hcb, hcb2, _⟩ := hb.shape
  by_cases h0 : a = [] ∧ b = []
  · obtain ⟨rfl, rfl⟩ := h0
    have e : decide (Vld s [] []) = !s := by cases s <;> rfl
    rw [e]
    clear ha hb e
    go_enter Try.func62, Try.ntmps62
    go_wp2_with fail
    go_ret
    exact ⟨rfl, (Below.refl _ _).alloc (Nat.le_refl _) _⟩
  · have e := vld_parts (s := s) h0
    have hd : decide (Vld s a b) = decide ((a ≠ [] ∧ Clean a) ∧ (b ≠ [] ∧ Clean b) ∧ Nat.gcd (val a) (val b) = 1) := decide_eq_decide.2 e
    rw [hd]
    have hab : ((a.length : Int) == 0) = false ∨ ((a.length : Int) == 0) = true ∧ ((b.length : Int) == 0) = false := by
      by_cases h1 : a.length = 0
      · right
        refine ⟨by rw [h1]; rfl, ?_⟩
        rw [beq_eq_false_iff_ne]
        intro h2
        exact h0 ⟨List.eq_nil_of_length_eq_zero h1, List.eq_nil_of_length_eq_zero (by omega)⟩
      · left; rw [beq_eq_false_iff_ne]; omega
    have hbx : Below w.heap.size w (w.alloc (.cells #[.bool s, .slice ao a.length ca, .slice bo b.length cb] 32)) := (Below.refl _ _).alloc (Nat.le_refl _) _
    have hp1 := plain_any _ a _ (ha.below hbx)
    have hp2 := plain_any _ b _ (hb.below hbx)
    have HBX := Lib.hid hbx; have HA := Lib.hid (ha.below hbx); have HB := Lib.hid (hb.below hbx)
    clear e hd h0 ha hb hbx
    by_cases c1 : a ≠ [] ∧ Clean a
    · by_cases c2 : b ≠ [] ∧ Clean b
      · have hg := gcd_any _ _ _ _ _ HA.out HB.out (by omega) (by omega)
        have hgl : (wd (Nat.gcd (val a) (val b))).length ≤ 400000 := by
          have h1 := wd_length_le HA.out.lt
          have h2 : val a ≠ 0 := val_ne HA.out.lt c1.2 c1.1
          have h3 := wd_length_mono (Nat.le_of_dvd (Nat.pos_of_ne_zero h2) (Nat.gcd_dvd_left (val a) (val b)))
          omega
        obtain ⟨g, hge⟩ : ∃ g, g = Nat.gcd (val a) (val b) := ⟨_, rfl⟩
        rw [← hge] at hg hgl
        have hres : decide ((a ≠ [] ∧ Clean a) ∧ (b ≠ [] ∧ Clean b) ∧ Nat.gcd (val a) (val b) = 1) = decide (g = 1) := by
          rw [decide_eq_decide, hge]; exact ⟨fun h => h.2.2, fun h => ⟨c1, c2, h⟩⟩
        rw [hres]
        rw [decide_eq_true c1] at hp1
        rw [decide_eq_true c2] at hp2
        have HP1 := Lib.hid hp1; have HP2 := Lib.hid hp2; have HG := Lib.hid hg
        clear hp1 hp2 hg hge hres c1 c2
        rcases hab with hab | ⟨hab, hab2⟩
        · go_enter Try.func62, Try.ntmps62
          go_wp2_with fail
          (with_reducible refine HP1.out.mono ?_); rintro e wx ⟨rfl, rfl⟩
          go_wp2_with fail
          (with_reducible refine HP2.out.mono ?_); rintro e wx ⟨rfl, rfl⟩
          go_wp2_with fail
          (with_reducible refine HG.out.mono ?_); rintro e w1 ⟨v1, l1, rfl, hb1, hn1, rfl⟩
          have HN1 := Lib.hid hn1; have HB1 := Lib.hid (HBX.out.step hb1); clear hn1 hb1
          go_wp2_with fail
          (with_reducible refine (one_any _).mono ?_); rintro e w2 ⟨v2, rfl, hb2, hn2⟩
          have hcm := cmp_any _ _ _ _ w2 (HN1.out.below hb2) hn2 (by omega) (by rw [wd_one (by decide) (by decide)]; simp)
          rw [val_wd, val_wd] at hcm
          have HCM := Lib.hid hcm; have HB2 := Lib.hid (HB1.out.step hb2); clear hcm hn2 hb2
          by_cases hg1 : g = 1
          · have hc0 : cmpN g 1 = 0 := cmpN_eq hg1
            rw [hc0] at HCM
            have hd : decide (g = 1) = true := decide_eq_true hg1
            rw [hd]
            have HG1 := Lib.hid hg1
            clear hc0 hg1 hd
            go_wp2_with fail
            (with_reducible refine HCM.out.mono ?_); rintro e w3 ⟨rfl, hb3⟩
            go_wp2_with fail
            go_ret
            exact ⟨by first | rfl | (simp; done) | (simp; exact HG1.out), HB2.out.step hb3⟩
          · have hd : decide (g = 1) = false := decide_eq_false hg1
            rw [hd]
            obtain ⟨c, hc⟩ : ∃ c, c = cmpN g 1 := ⟨_, rfl⟩
            rw [← hc] at HCM
            have hc0 : (c == 0) = false := by
              rw [beq_eq_false_iff_ne, hc]; unfold cmpN; split
              · decide
              · split
                · decide
                · omega
            have HG1 := Lib.hid hg1
            clear hc hg1 hd
            go_wp2_with fail
            (with_reducible refine HCM.out.mono ?_); rintro e w3 ⟨rfl, hb3⟩
            go_wp2_with fail
            go_ret
            exact ⟨by first | rfl | (simp; done) | (simp; exact HG1.out), HB2.out.step hb3⟩
        · go_enter Try.func62, Try.ntmps62
          go_wp2_with fail
          (with_reducible refine HP1.out.mono ?_); rintro e wx ⟨rfl, rfl⟩
          go_wp2_with fail
          (with_reducible refine HP2.out.mono ?_); rintro e wx ⟨rfl, rfl⟩
          go_wp2_with fail
          (with_reducible refine HG.out.mono ?_); rintro e w1 ⟨v1, l1, rfl, hb1, hn1, rfl⟩
          have HN1 := Lib.hid hn1; have HB1 := Lib.hid (HBX.out.step hb1); clear hn1 hb1
          go_wp2_with fail
          (with_reducible refine (one_any _).mono ?_); rintro e w2 ⟨v2, rfl, hb2, hn2⟩
          have hcm := cmp_any _ _ _ _ w2 (HN1.out.below hb2) hn2 (by omega) (by rw [wd_one (by decide) (by decide)]; simp)
          rw [val_wd, val_wd] at hcm
          have HCM := Lib.hid hcm; have HB2 := Lib.hid (HB1.out.step hb2); clear hcm hn2 hb2
          by_cases hg1 : g = 1
          · have hc0 : cmpN g 1 = 0 := cmpN_eq hg1
            rw [hc0] at HCM
            have hd : decide (g = 1) = true := decide_eq_true hg1
            rw [hd]
            have HG1 := Lib.hid hg1
            clear hc0 hg1 hd
            go_wp2_with fail
            (with_reducible refine HCM.out.mono ?_); rintro e w3 ⟨rfl, hb3⟩
            go_wp2_with fail
            go_ret
            exact ⟨by first | rfl | (simp; done) | (simp; exact HG1.out), HB2.out.step hb3⟩
          · have hd : decide (g = 1) = false := decide_eq_false hg1
            rw [hd]
            obtain ⟨c, hc⟩ : ∃ c, c = cmpN g 1 := ⟨_, rfl⟩
            rw [← hc] at HCM
            have hc0 : (c == 0) = false := by
              rw [beq_eq_false_iff_ne, hc]; unfold cmpN; split
              · decide
              · split
                · decide
                · omega
            have HG1 := Lib.hid hg1
            clear hc hg1 hd
            go_wp2_with fail
            (with_reducible refine HCM.out.mono ?_); rintro e w3 ⟨rfl, hb3⟩
            go_wp2_with fail
            go_ret
            exact ⟨by first | rfl | (simp; done) | (simp; exact HG1.out), HB2.out.step hb3⟩
      · have hres : decide ((a ≠ [] ∧ Clean a) ∧ (b ≠ [] ∧ Clean b) ∧ Nat.gcd (val a) (val b) = 1) = false := decide_eq_false fun h => c2 h.2.1
        rw [hres]
        rw [decide_eq_true c1] at hp1
        rw [decide_eq_false c2] at hp2
        have HP1 := Lib.hid hp1; have HP2 := Lib.hid hp2
        clear hp1 hp2 hres
        rcases hab with hab | ⟨hab, hab2⟩
        · go_enter Try.func62, Try.ntmps62
          go_wp2_with fail
          (with_reducible refine HP1.out.mono ?_); rintro e wx ⟨rfl, rfl⟩
          go_wp2_with fail
          (with_reducible refine HP2.out.mono ?_); rintro e wx ⟨rfl, rfl⟩
          go_wp2_with fail
          go_ret
          exact ⟨rfl, HBX.out⟩
        · go_enter Try.func62, Try.ntmps62
          go_wp2_with fail
          (with_reducible refine HP1.out.mono ?_); rintro e wx ⟨rfl, rfl⟩
          go_wp2_with fail
          (with_reducible refine HP2.out.mono ?_); rintro e wx ⟨rfl, rfl⟩
          go_wp2_with fail
          go_ret
          exact ⟨rfl, HBX.out⟩
    · have hres : decide ((a ≠ [] ∧ Clean a) ∧ (b ≠ [] ∧ Clean b) ∧ Nat.gcd (val a) (val b) = 1) = false := decide_eq_false fun h => c1 h.1
      rw [hres]
      rw [decide_eq_false c1] at hp1
      have HP1 := Lib.hid hp1; have HP2 := Lib.hid hp2
      clear hp1 hp2 hres
      rcases hab with hab | ⟨hab, hab2⟩
      · go_enter Try.func62, Try.ntmps62
        go_wp2_with fail
        (with_reducible refine HP1.out.mono ?_); rintro e wx ⟨rfl, rfl⟩
        go_wp2_with fail
        go_ret
        exact ⟨rfl, HBX.out⟩
      · go_enter Try.func62, Try.ntmps62
        go_wp2_with fail
        (with_reducible refine HP1.out.mono ?_); rintro e wx ⟨rfl, rfl⟩
        go_wp2_with fail
        go_ret
        exact ⟨rfl, HBX.out⟩
end Go.Proofs.Ytaefimegiobkmaa
/-
  rational.parts, form: what they hand back.
  Conditions: each theorem's own.
-/
namespace Go.Proofs.Ytaefimegiobkmaa
open Go.RowKit Go.ChangeShapes Go.WideShapes

/-- hands back the sign, numerator and denominator of q -/
def RetParts (w : World) (q : Rat) (e : Ending) (w' : World) : Prop := ∃ vn vd, e = .returned (.tuple #[.bool (ng q), vn, vd]) ∧ Below w.heap.size w w' ∧ Num w' vn (wd (nn q)) ∧ Num w' vd (wd q.den)

set_option maxRecDepth 100000 in
set_option maxHeartbeats 1600000 in
theorem parts_any (v : Value) (q : Rat) (w : World) (h : RatIs w v q) :
    Calls Try.prog 42 #[v] w (RetParts w q) := by
  obtain ⟨s, a, b, hv, rfl, hla, hlb⟩ := h
  obtain ⟨va, vb, rfl, ha, hb⟩ := hv
  obtain ⟨ao, ca, rfl, hca, hca2, _⟩ := ha.shape
  obtain ⟨bo, cb, rfl, hcb, hcb2, _⟩ := hb.shape
  have hbx : Below w.heap.size w (w.alloc (.cells #[.bool s, .slice ao a.length ca, .slice bo b.length cb] 32)) := (Below.refl _ _).alloc (Nat.le_refl _) _
  have hvl := valid_any _ s a b _ (⟨_, _, rfl, ha.below hbx, hb.below hbx⟩ : RatV (w.alloc (.cells #[.bool s, .slice ao a.length ca, .slice bo b.length cb] 32)) _ s a b) (by omega) (by omega)
  by_cases h0 : rq s a b = 0
  · rw [h0]
    have hbad : decide (Vld s a b) = false ∨ decide (Vld s a b) = true ∧ a.length = 0 := by
      by_cases hv : Vld s a b
      · right
        obtain ⟨_, e, _⟩ := vld_fields ha.lt hb.lt hv
        rw [h0, nn_zero, wd_zero] at e
        exact ⟨decide_eq_true hv, by rw [e]; rfl⟩
      · left; exact decide_eq_false hv
    have HBX := Lib.hid hbx; clear hbx h0
    rcases hbad with hd | ⟨hd, hl⟩
    · rw [hd] at hvl
      have HV := Lib.hid hvl; clear hvl hd ha hb
      go_enter Try.func42, Try.ntmps42
      go_wp2_with fail
      (with_reducible refine HV.out.mono ?_); rintro e w1 ⟨rfl, hb1⟩
      go_wp2_with fail
      (with_reducible refine (one_any _).mono ?_); rintro e w2 ⟨v2, rfl, hb2, hn2⟩
      go_wp2_with fail
      go_ret3
      exact ⟨_, _, rfl, (HBX.out.step hb1).step hb2, by rw [nn_zero, wd_zero]; exact Num.nil _, hn2⟩
    · rw [hd] at hvl
      have c1 := fun w1 (h : Below _ _ w1) => box_kept (w := w) (cs := #[.bool s, .slice ao a.length ca, .slice bo b.length cb]) (T := 32) (w1 := w1) h 1
      have C1 := Lib.hid c1
      have HV := Lib.hid hvl; have HL := Lib.hid hl; clear hvl hd c1 ha hb hl
      go_enter Try.func42, Try.ntmps42
      go_wp2_with fail
      (with_reducible refine HV.out.mono ?_); rintro e w1 ⟨rfl, hb1⟩
      have c1 : w1.cell? ⟨w.heap.size, 1, none⟩ = some (.slice ao a.length ca) := C1.out w1 hb1
      rw [HL.out] at c1
      go_wp2_with fail
      (with_reducible refine (one_any _).mono ?_); rintro e w2 ⟨v2, rfl, hb2, hn2⟩
      go_wp2_with fail
      go_ret3
      exact ⟨_, _, rfl, (HBX.out.step hb1).step hb2, by rw [nn_zero, wd_zero]; exact Num.nil _, hn2⟩
  · have hv : Vld s a b := Decidable.byContradiction fun h => h0 (rq_invalid h)
    obtain ⟨e1, e2, e3⟩ := vld_fields ha.lt hb.lt hv
    rw [dn_pos h0] at e3
    have hl : ((a.length : Int) == 0) = false := by
      rw [beq_eq_false_iff_ne]
      intro h
      have : a = [] := List.eq_nil_of_length_eq_zero (by omega)
      rw [e2] at this
      exact wd_ne (fun e => h0 (nn_eq_zero.1 e)) this
    rw [decide_eq_true hv] at hvl
    have HE := Lib.hid (And.intro e1 (And.intro e2 e3)); have HBX := Lib.hid hbx; have HA := Lib.hid (ha.below hbx); have HB := Lib.hid (hb.below hbx); have HV := Lib.hid hvl
    have bk := fun w1 (h : Below _ _ w1) j => box_kept (w := w) (cs := #[.bool s, .slice ao a.length ca, .slice bo b.length cb]) (T := 32) (w1 := w1) h j
    have BK := Lib.hid bk
    clear e1 e2 e3 hbx ha hb hv hvl bk h0
    go_enter Try.func42, Try.ntmps42
    go_wp2_with fail
    (with_reducible refine HV.out.mono ?_); rintro e w1 ⟨rfl, hb1⟩
    have c0 : w1.cell? ⟨w.heap.size, 0, none⟩ = some (.bool s) := BK.out w1 hb1 0
    have c1 : w1.cell? ⟨w.heap.size, 1, none⟩ = some (.slice ao a.length ca) := BK.out w1 hb1 1
    have c2 : w1.cell? ⟨w.heap.size, 2, none⟩ = some (.slice bo b.length cb) := BK.out w1 hb1 2
    go_wp2_with fail
    go_quiet (fail)
    go_wp2_with fail
    go_ret3
    obtain ⟨e1, e2, e3⟩ := HE.out
    refine ⟨.slice ao a.length ca, .slice bo b.length cb, by rw [← e1]; rfl, below_drewN (HBX.out.step hb1) _, ?_, ?_⟩
    · rw [← e2]; exact (HA.out.below hb1).below (below_drewN (Below.refl _ _) _)
    · rw [← e3]; exact (HB.out.below hb1).below (below_drewN (Below.refl _ _) _)

theorem frozen_kept {w w1 : World} {cs : Array Value} {T : TypeId} (hb : Below (w.alloc (.cells cs T)).heap.size (w.alloc (.cells cs T)) w1) (j : Nat) :
    w1.frozen? ⟨w.heap.size, j, none⟩ = false := by
  have h : w1.heap[w.heap.size]? = some (.cells cs T) := by
    rw [hb.block _ (by simp)]; exact heap_alloc_new w _
  simp [World.frozen?, h]

theorem heap_kept {w w1 : World} {o : Obj} (hb : Below (w.alloc o).heap.size (w.alloc o) w1) : w1.heap[w.heap.size]? = some o := by
  rw [hb.block _ (by simp)]; exact heap_alloc_new w _
/-- a fraction's three cells are written -/
def put3 (w : World) (g : Nat) (x y z : Value) : World := ((w.setCell ⟨g, 0, none⟩ x).setCell ⟨g, 1, none⟩ y).setCell ⟨g, 2, none⟩ z
theorem put3_heap {w : World} {g : Nat} {a b c x y z : Value} {T : TypeId} (h : w.heap[g]? = some (.cells #[a, b, c] T)) : (put3 w g x y z).heap[g]? = some (.cells #[x, y, z] T) := by
  unfold put3 World.setCell
  simp [Array.getElem?_modify, h]
theorem put3_below {w0 w : World} {B g : Nat} (h : Below B w0 w) (hg : B ≤ g) (x y z : Value) : Below B w0 (put3 w g x y z) :=
  ((h.setCell hg x).setCell hg y).setCell hg z
theorem put3_num {w : World} {g : Nat} {v : Value} {l : List Nat} {x y z : Value} {a b c : Value} {T : TypeId} (hn : Num w v l) (h : w.heap[g]? = some (.cells #[a, b, c] T)) (ha : ∀ n : Int, a ≠ .int .u32 n) (hb : ∀ n : Int, b ≠ .int .u32 n) (hc : ∀ n : Int, c ≠ .int .u32 n) : Num (put3 w g x y z) v l := by
  obtain ⟨ao, k, rfl, h1, h2, h3, h4, h5⟩ := hn
  refine ⟨ao, k, rfl, h1, h2, h3, ?_, h5⟩
  intro b' off s hs
  obtain ⟨k1, k2⟩ := h4 b' off s hs
  have hsz : (put3 w g x y z).heap.size = w.heap.size := by simp [put3, World.setCell]
  refine ⟨fun h0 => by rw [hsz]; exact k1 h0, fun j hj => ?_⟩
  by_cases he : b' = g
  · subst he
    have := k2 j hj
    rw [cell_of_row w b' (off + j) _ _ _ h] at this
    have hsz3 : off + j < 3 := by
      have := (Array.getElem?_eq_some_iff.1 this).1; simpa using this
    have e : off + j = 0 ∨ off + j = 1 ∨ off + j = 2 := by omega
    rcases e with e | e | e <;> rw [e] at this <;> simp at this
    · exact absurd this (ha _)
    · exact absurd this (hb _)
    · exact absurd this (hc _)
  · rw [← k2 j hj]
    unfold World.cell?
    have e : (put3 w g x y z).heap[b']? = w.heap[b']? := by
      unfold put3
      rw [Below.heap_setCell _ _ _ _ he, Below.heap_setCell _ _ _ _ he, Below.heap_setCell _ _ _ _ he]
    simp only [e]
theorem rat_info : (Try.prog.info? 32).map (·.size) = some 3 := by kernel_rfl
/-- a function that hands back a fraction in a variable of its own -/
theorem ret_rat {fn : Func} {R : Ending → World → Prop} {a : Act} {w : World} {p : Tmp} (h : fn.results = #[.cell p 32]) (g : Nat) (x y z : Value)
    (hp : a.tmps.getD p undef = .pointer (some ⟨g, 0, none⟩)) (hg : w.heap[g]? = some (.cells #[x, y, z] 32)) (hd : a.defers = []) (hR : R (.returned (.agg #[x, y, z])) w) : bodyPost Try.prog fn R .ret a w :=
  bodyPost_ret (results_cell_row h a.tmps w g 32 _ _ _ hp hg Try.underlying32 rfl rat_info) hd hR
/-- .. and an error (or its number) -/
theorem ret_rat2 {fn : Func} {R : Ending → World → Prop} {a : Act} {w : World} {p u : Tmp} (h : fn.results = #[.cell p 32, .tmp u]) (g : Nat) (x y z : Value)
    (hp : a.tmps.getD p undef = .pointer (some ⟨g, 0, none⟩)) (hg : w.heap[g]? = some (.cells #[x, y, z] 32)) (hd : a.defers = []) (hR : R (.returned (.tuple #[.agg #[x, y, z], a.tmps.getD u undef])) w) : bodyPost Try.prog fn R .ret a w := by
  refine bodyPost_ret (v := .tuple #[.agg #[x, y, z], a.tmps.getD u undef]) ?_ hd hR
  rw [results_cell_tmp h, hp]
  simp only [asAddr, Sem.run_pure, Result.andThen, run_loadVar_row w g 32 32 _ _ _ hg Try.underlying32 rfl rat_info]

set_option maxRecDepth 100000 in
set_option maxHeartbeats 3200000 in
theorem form_any (s : Bool) (vn vd : Value) (a b : List Nat) (w : World) (ha : Num w vn a) (hb : Num w vd b) (hla : a.length ≤ 400000) (hlb : b.length ≤ 400000) (hd : val b ≠ 0) :
    Calls Try.prog 43 #[.bool s, vn, vd] w (RetR w (qm s (val a) (val b))) := by
  have hbx : Below w.heap.size w (w.alloc (.cells #[.bool false, .slice none 0 0, .slice none 0 0] 32)) := (Below.refl _ _).alloc (Nat.le_refl _) _
  have hbits := bits_any vn a _ (ha.below hbx) (by omega)
  have HBX := Lib.hid hbx
  by_cases h0 : val a = 0
  · rw [h0, blen_zero] at hbits
    rw [h0, qm_zero]
    have HB := Lib.hid hbits; clear hbits h0 ha hb hbx
    go_enter Try.func43, Try.ntmps43
    go_wp2_with fail
    (with_reducible refine HB.out.mono ?_); rintro e w1 ⟨rfl, rfl⟩
    go_wp2_with fail
    refine ret_rat rfl w.heap.size _ _ _ rfl (heap_alloc_new w _) rfl ?_
    exact ⟨_, rfl, HBX.out, isR_zero _⟩
  · have hz : ((blen (val a) : Int) == 0) = false := by
      rw [beq_eq_false_iff_ne]; have := blen_pos.2 h0; omega
    have hgd := gcd_any vn vd a b _ (ha.below hbx) (hb.below hbx) (by omega) (by omega)
    obtain ⟨bl, hbl⟩ : ∃ bl, bl = blen (val a) := ⟨_, rfl⟩
    rw [← hbl] at hbits hz
    have hl1 := wd_length_le ha.lt
    have hl2 := wd_length_le hb.lt
    have hgl : (wd (Nat.gcd (val a) (val b))).length ≤ 400000 := by
      have h3 := wd_length_mono (Nat.le_of_dvd (Nat.pos_of_ne_zero h0) (Nat.gcd_dvd_left (val a) (val b)))
      omega
    have hg0 : Nat.gcd (val a) (val b) ≠ 0 := fun h => h0 (Nat.eq_zero_of_gcd_eq_zero_left h)
    have hR : ng (qm s (val a) (val b)) = s ∧ nn (qm s (val a) (val b)) = val a / Nat.gcd (val a) (val b) ∧ dn (qm s (val a) (val b)) = val b / Nat.gcd (val a) (val b) :=
      ⟨ng_qm hd h0, nn_qm hd, dn_qm hd h0⟩
    obtain ⟨q, hq⟩ : ∃ q, q = qm s (val a) (val b) := ⟨_, rfl⟩
    rw [← hq] at hR ⊢
    obtain ⟨g, hg⟩ : ∃ g, g = Nat.gcd (val a) (val b) := ⟨_, rfl⟩
    rw [← hg] at hgd hgl hg0 hR
    have HR := Lib.hid hR; have HBI := Lib.hid hbits; have HGD := Lib.hid hgd; have HA := Lib.hid (ha.below hbx); have HB := Lib.hid (hb.below hbx); have HG0 := Lib.hid hg0
    clear hR hbits hgd ha hb hg0 hg hq hbl hbx h0
    go_enter Try.func43, Try.ntmps43
    go_wp2_with fail
    (with_reducible refine HBI.out.mono ?_); rintro e w1 ⟨rfl, rfl⟩
    go_wp2_with fail
    (with_reducible refine HGD.out.mono ?_); rintro e w1 ⟨v1, l1, rfl, hb1, hn1, rfl⟩
    have hd1 := div_any vn v1 a _ w1 (HA.out.below hb1) hn1 (by omega) (by omega) (by rw [val_wd]; exact HG0.out)
    rw [val_wd, errV_zero] at hd1
    have HD1 := Lib.hid hd1; have HB1 := Lib.hid hb1; have HN1 := Lib.hid hn1
    clear hd1 hn1
    go_wp2_with fail
    (with_reducible refine HD1.out.mono ?_); rintro e w2 ⟨v2, u2, rfl, hb2, hn2, _⟩
    have hd2 := div_any vd v1 b _ w2 ((HB.out.below hb1).below hb2) (HN1.out.below hb2) (by omega) (by omega) (by rw [val_wd]; exact HG0.out)
    rw [val_wd, errV_zero] at hd2
    have HD2 := Lib.hid hd2; have HB2 := Lib.hid (HB1.out.step hb2); have HN2 := Lib.hid hn2
    clear hd2 hn2 hb1
    go_wp2_with fail
    (with_reducible refine HD2.out.mono ?_); rintro e w3 ⟨v3, u3, rfl, hb3, hn3, _⟩
    have HB3 := Lib.hid (HB2.out.step hb3); have HN2 := Lib.hid (HN2.out.below hb3); have HN3 := Lib.hid hn3
    clear hn3 hb2
    obtain ⟨o2, k2, rfl, _, _, _⟩ := HN2.out.shape
    obtain ⟨o3, k3, rfl, _, _, _⟩ := HN3.out.shape
    have f0 := frozen_kept HB3.out 0
    have f1 := frozen_kept HB3.out 1
    have f2 := frozen_kept HB3.out 2
    have c0 : w3.cell? ⟨w.heap.size, 0, none⟩ = some (.bool false) := box_kept HB3.out 0
    have c1 : w3.cell? ⟨w.heap.size, 1, none⟩ = some (.slice none 0 0) := box_kept HB3.out 1
    have c2 : w3.cell? ⟨w.heap.size, 2, none⟩ = some (.slice none 0 0) := box_kept HB3.out 2
    have hh := heap_kept HB3.out
    have HH := Lib.hid hh; clear hh
    go_wp2_with fail
    refine ret_rat rfl w.heap.size _ _ _ rfl (put3_heap HH.out) rfl ?_
    refine ⟨_, rfl, put3_below (HBX.out.trans (HB3.out.mono (by simp))) (Nat.le_refl _) _ _ _, ?_⟩
    obtain ⟨e1, e2, e3⟩ := HR.out
    unfold IsR
    rw [e1, e2, e3]
    exact ⟨_, _, rfl, put3_num HN2.out HH.out (fun _ h => by cases h) (fun _ h => by cases h) (fun _ h => by cases h), put3_num HN3.out HH.out (fun _ h => by cases h) (fun _ h => by cases h) (fun _ h => by cases h)⟩
end Go.Proofs.Ytaefimegiobkmaa
/-
  The reference's Parts, From, and rational.From: what they hand back.
  Conditions: each theorem's own.
-/
namespace Go.Proofs.Ytaefimegiobkmaa
open Go.RowKit Go.ChangeShapes Go.WideShapes

theorem wd_one_len : (wd 1).length = 1 := by rw [wd_one (by decide) (by decide)]; rfl
end Go.Proofs.Ytaefimegiobkmaa
/-
  Contracts on numbers by what they stand for; a fraction's cells behind a call.
  Conditions: each theorem's own.
-/
namespace Go.Proofs.Ytaefimegiobkmaa
open Go.RowKit Go.ChangeShapes Go.WideShapes

theorem heap_below {w w1 : World} {g : Nat} {o : Obj} (h : w.heap[g]? = some o) (hb : Below w.heap.size w w1) : w1.heap[g]? = some o := by
  rw [hb.block _ (Array.getElem?_eq_some_iff.1 h).1]; exact h
theorem row3 {w : World} {g : Nat} {x y z : Value} {T : TypeId} (h : w.heap[g]? = some (.cells #[x, y, z] T)) :
    w.cell? ⟨g, 0, none⟩ = some x ∧ w.cell? ⟨g, 1, none⟩ = some y ∧ w.cell? ⟨g, 2, none⟩ = some z :=
  ⟨cell_of_row _ _ _ _ _ _ h, cell_of_row _ _ _ _ _ _ h, cell_of_row _ _ _ _ _ _ h⟩
theorem froz3 {w : World} {g : Nat} {x y z : Value} {T : TypeId} (h : w.heap[g]? = some (.cells #[x, y, z] T)) :
    w.frozen? ⟨g, 0, none⟩ = false ∧ w.frozen? ⟨g, 1, none⟩ = false ∧ w.frozen? ⟨g, 2, none⟩ = false := by
  refine ⟨?_, ?_, ?_⟩ <;> simp [World.frozen?, h]
theorem RatIs.shape {w : World} {v : Value} {q : Rat} (h : RatIs w v q) : ∃ s ao n c bo m d, v = .agg #[.bool s, .slice ao n c, .slice bo m d] := by
  obtain ⟨s, a, b, ⟨va, vb, rfl, h1, h2⟩, _⟩ := h
  obtain ⟨ao, c, rfl, _⟩ := h1.shape
  obtain ⟨bo, d, rfl, _⟩ := h2.shape
  exact ⟨s, ao, _, c, bo, _, d, rfl⟩
theorem IsR.shape {w : World} {v : Value} {q : Rat} (h : IsR w v q) : ∃ s ao n c bo m d, v = .agg #[.bool s, .slice ao n c, .slice bo m d] := by
  obtain ⟨va, vb, rfl, h1, h2⟩ := h
  obtain ⟨ao, c, rfl, _⟩ := h1.shape
  obtain ⟨bo, d, rfl, _⟩ := h2.shape
  exact ⟨_, ao, _, c, bo, _, d, rfl⟩
/-- cells of a fraction hold no words -/
theorem ratV_put {w : World} {g : Nat} {v : Value} {s : Bool} {a b : List Nat} {x y z p q r : Value} {T : TypeId} (h : RatV w v s a b) (hg : w.heap[g]? = some (.cells #[p, q, r] T))
    (hp : ∀ n : Int, p ≠ .int .u32 n) (hq : ∀ n : Int, q ≠ .int .u32 n) (hr : ∀ n : Int, r ≠ .int .u32 n) : RatV (put3 w g x y z) v s a b := by
  obtain ⟨va, vb, rfl, h1, h2⟩ := h
  exact ⟨va, vb, rfl, put3_num h1 hg hp hq hr, put3_num h2 hg hp hq hr⟩
theorem isR_put {w : World} {g : Nat} {v : Value} {u : Rat} {x y z : Value} {s : Bool} {ao bo : Option Addr} {n c m d : Nat} {T : TypeId} (h : IsR w v u) (hg : w.heap[g]? = some (.cells #[.bool s, .slice ao n c, .slice bo m d] T)) : IsR (put3 w g x y z) v u :=
  ratV_put h hg (fun _ h => by cases h) (fun _ h => by cases h) (fun _ h => by cases h)
section
variable {u v : Value} {m n : Nat} {w : World}
theorem addN (h1 : Num w u (wd m)) (h2 : Num w v (wd n)) (l1 : (wd m).length ≤ 400000) (l2 : (wd n).length ≤ 400000) : Calls Try.prog 67 #[u, v] w (RetN w (m + n)) := by
  have h := add_any u v _ _ w h1 h2 (by omega) (by omega)
  rw [val_wd, val_wd] at h; exact h.mono fun _ _ => RetNum.n
theorem mulN (h1 : Num w u (wd m)) (h2 : Num w v (wd n)) (l1 : (wd m).length ≤ 400000) (l2 : (wd n).length ≤ 400000) : Calls Try.prog 44 #[u, v] w (RetN w (m * n)) := by
  have h := mul_any u v _ _ w h1 h2 (by omega) (by omega)
  rw [val_wd, val_wd] at h; exact h.mono fun _ _ => RetNum.n
theorem cmpN_ (h1 : Num w u (wd m)) (h2 : Num w v (wd n)) (l1 : (wd m).length ≤ 400000) (l2 : (wd n).length ≤ 400000) : Calls Try.prog 68 #[u, v] w (RetV w (.int .i64 (cmpN m n))) := by
  have h := cmp_any u v _ _ w h1 h2 (by omega) (by omega)
  rw [val_wd, val_wd] at h; exact h
theorem subN (h1 : Num w u (wd m)) (h2 : Num w v (wd n)) (l1 : (wd m).length ≤ 400000) (l2 : (wd n).length ≤ 400000) (hle : n ≤ m) : Calls Try.prog 69 #[u, v] w (RetNE w (m - n) .nilIface) := by
  have h := sub_ge u v _ _ w h1 h2 (by omega) (by omega) (by rw [val_wd, val_wd]; exact hle)
  rw [val_wd, val_wd, errV_zero] at h; exact h
theorem formN (s : Bool) (h1 : Num w u (wd m)) (h2 : Num w v (wd n)) (l1 : (wd m).length ≤ 400000) (l2 : (wd n).length ≤ 400000) (h0 : n ≠ 0) : Calls Try.prog 43 #[.bool s, u, v] w (RetR w (qm s m n)) := by
  have h := form_any s u v _ _ w h1 h2 l1 l2 (by rw [val_wd]; exact h0)
  rw [val_wd, val_wd] at h; exact h
end
end Go.Proofs.Ytaefimegiobkmaa
/-
  rational.Neg, Abs, Mul, Add: what they hand back.
  Conditions: each theorem's own.
-/
namespace Go.Proofs.Ytaefimegiobkmaa
open Go.RowKit Go.ChangeShapes Go.WideShapes

theorem nest1_0 (w : World) (a : Obj) : (w.alloc a).heap[w.heap.size]? = some a := heap_alloc_new w a
theorem nest2_0 (w : World) (a b : Obj) : ((w.alloc a).alloc b).heap[w.heap.size]? = some a := by
  rw [heap_alloc_old _ _ (by simp), heap_alloc_new]
theorem nest2_1 (w : World) (a b : Obj) : ((w.alloc a).alloc b).heap[w.heap.size + 1]? = some b := by
  rw [show w.heap.size + 1 = (w.alloc a).heap.size from by simp, heap_alloc_new]
theorem nest3_0 (w : World) (a b c : Obj) : (((w.alloc a).alloc b).alloc c).heap[w.heap.size]? = some a := by
  rw [heap_alloc_old _ _ (by simp; omega), nest2_0]
theorem nest3_1 (w : World) (a b c : Obj) : (((w.alloc a).alloc b).alloc c).heap[w.heap.size + 1]? = some b := by
  rw [heap_alloc_old _ _ (by simp), nest2_1]
theorem nest3_2 (w : World) (a b c : Obj) : (((w.alloc a).alloc b).alloc c).heap[w.heap.size + 2]? = some c := by
  rw [show w.heap.size + 2 = ((w.alloc a).alloc b).heap.size from by simp, heap_alloc_new]
theorem q_mul' (p q : Rat) : qm (!(ng p == ng q)) (nn p * nn q) (p.den * q.den) = p * q := q_mul p q
theorem q_div' (p q : Rat) (h : q ≠ 0) : qm (!(ng p == ng q)) (nn p * q.den) (p.den * nn q) = p / q := q_div p q h

set_option maxRecDepth 100000 in
set_option maxHeartbeats 3200000 in
theorem mulq_any (vp : Value) (p : Rat) (vq : Value) (q : Rat) (w : World) (hp : RatIs w vp p) (hq : RatIs w vq q)  :
    Calls Try.prog 26 #[vp, vq] w (RetR w (p * q)) := by
  obtain ⟨sp, op, np, cp, ap, mp, dp, rfl⟩ := hp.shape
  have hlp := hp.rl
  obtain ⟨sq, oq, nq, cq, aq, mq, dq, rfl⟩ := hq.shape
  have hlq := hq.rl
  have hb0 := ((((Below.refl w.heap.size w).alloc (by first | (simp; done) | (simp; omega)) (.cells #[.bool sp, .slice op np cp, .slice ap mp dp] 32)).alloc (by first | (simp; done) | (simp; omega)) (.cells #[.bool sq, .slice oq nq cq, .slice aq mq dq] 32)).alloc (by first | (simp; done) | (simp; omega)) (.cells #[.bool false, .slice none 0 0, .slice none 0 0] 32))
  have hxp := nest3_0 w (.cells #[.bool sp, .slice op np cp, .slice ap mp dp] 32) (.cells #[.bool sq, .slice oq nq cq, .slice aq mq dq] 32) (.cells #[.bool false, .slice none 0 0, .slice none 0 0] 32)
  have hxq := nest3_1 w (.cells #[.bool sp, .slice op np cp, .slice ap mp dp] 32) (.cells #[.bool sq, .slice oq nq cq, .slice aq mq dq] 32) (.cells #[.bool false, .slice none 0 0, .slice none 0 0] 32)
  have hxR := nest3_2 w (.cells #[.bool sp, .slice op np cp, .slice ap mp dp] 32) (.cells #[.bool sq, .slice oq nq cq, .slice aq mq dq] 32) (.cells #[.bool false, .slice none 0 0, .slice none 0 0] 32)
  have hpp := hp.below hb0
  have hpq := hq.below hb0
  obtain ⟨w0, hw0⟩ : ∃ w0, w0 = (((w.alloc (.cells #[.bool sp, .slice op np cp, .slice ap mp dp] 32)).alloc (.cells #[.bool sq, .slice oq nq cq, .slice aq mq dq] 32)).alloc (.cells #[.bool false, .slice none 0 0, .slice none 0 0] 32)) := ⟨_, rfl⟩
  rw [← hw0] at hb0 hxp hxq hxR hpp hpq
  have HB0 := Lib.hid hb0; have HW0 := Lib.hid hw0
  have BXp := Lib.hid hxp
  have BXq := Lib.hid hxq
  have BXR := Lib.hid hxR
  have Fp := Lib.hid hpp
  have Fq := Lib.hid hpq
  clear hb0 hw0 hxp hxq hxR hpp hp hpq hq
  have l1 := rl_n p; have l2 := rl_d p; have l3 := rl_n q; have l4 := rl_d q
  have L1 : (wd (nn p * nn q)).length ≤ 200000 := by have := wd_mul_len (nn p) (nn q); have := rl_n p; have := rl_n q; omega
  have L2 : (wd (p.den * q.den)).length ≤ 200000 := by have := wd_mul_len p.den q.den; have := rl_d p; have := rl_d q; omega
  go_enter Try.func26, Try.ntmps26
  have hs := parts_any _ p w0 Fp.out
  have HS := Lib.hid hs; clear hs
  go_wp2_with fail
  rw [← HW0.out]
  (with_reducible refine HS.out.mono ?_); rintro e w1 ⟨v1, u1, rfl, hb1, hn1, hm1⟩
  clear HS
  have HB1 := Lib.hid (HB0.out.step hb1)
  have Fp := Lib.hid (Fp.out.below hb1)
  have Fq := Lib.hid (Fq.out.below hb1)
  have BXp := Lib.hid (heap_below BXp.out hb1)
  have BXq := Lib.hid (heap_below BXq.out hb1)
  have BXR := Lib.hid (heap_below BXR.out hb1)
  have N := Lib.hid hn1
  have D := Lib.hid hm1
  clear hn1 hm1
  clear hb1
  have hs := parts_any _ q w1 Fq.out
  have HS := Lib.hid hs; clear hs
  obtain ⟨eq0, eq1, eq2⟩ := row3 BXq.out
  go_wp2_with fail
  clear eq0 eq1 eq2
  (with_reducible refine HS.out.mono ?_); rintro e w2 ⟨v2, u2, rfl, hb2, hn2, hm2⟩
  clear HS
  have HB2 := Lib.hid (HB1.out.step hb2)
  have Fp := Lib.hid (Fp.out.below hb2)
  have Fq := Lib.hid (Fq.out.below hb2)
  have N := Lib.hid (N.out.below hb2)
  have D := Lib.hid (D.out.below hb2)
  have BXp := Lib.hid (heap_below BXp.out hb2)
  have BXq := Lib.hid (heap_below BXq.out hb2)
  have BXR := Lib.hid (heap_below BXR.out hb2)
  have M := Lib.hid hn2
  have E := Lib.hid hm2
  clear hn2 hm2
  clear hb2
  have hs := mulN N.out M.out (by omega) (by omega)
  have HS := Lib.hid hs; clear hs
  go_wp2_with fail
  (with_reducible refine HS.out.mono ?_); rintro e w3 ⟨v3, rfl, hb3, hn3⟩
  clear HS
  have HB3 := Lib.hid (HB2.out.step hb3)
  have Fp := Lib.hid (Fp.out.below hb3)
  have Fq := Lib.hid (Fq.out.below hb3)
  have N := Lib.hid (N.out.below hb3)
  have D := Lib.hid (D.out.below hb3)
  have M := Lib.hid (M.out.below hb3)
  have E := Lib.hid (E.out.below hb3)
  have BXp := Lib.hid (heap_below BXp.out hb3)
  have BXq := Lib.hid (heap_below BXq.out hb3)
  have BXR := Lib.hid (heap_below BXR.out hb3)
  have NM := Lib.hid hn3; clear hn3
  clear hb3
  have hs := mulN D.out E.out (by omega) (by omega)
  have HS := Lib.hid hs; clear hs
  go_wp2_with fail
  (with_reducible refine HS.out.mono ?_); rintro e w4 ⟨v4, rfl, hb4, hn4⟩
  clear HS
  have HB4 := Lib.hid (HB3.out.step hb4)
  have Fp := Lib.hid (Fp.out.below hb4)
  have Fq := Lib.hid (Fq.out.below hb4)
  have N := Lib.hid (N.out.below hb4)
  have D := Lib.hid (D.out.below hb4)
  have M := Lib.hid (M.out.below hb4)
  have E := Lib.hid (E.out.below hb4)
  have NM := Lib.hid (NM.out.below hb4)
  have BXp := Lib.hid (heap_below BXp.out hb4)
  have BXq := Lib.hid (heap_below BXq.out hb4)
  have BXR := Lib.hid (heap_below BXR.out hb4)
  have DE := Lib.hid hn4; clear hn4
  clear hb4
  have hs := formN (!(ng p == ng q)) NM.out DE.out (by omega) (by omega) (den_mul_nz p.den_nz q.den_nz)
  rw [q_mul'] at hs
  have HS := Lib.hid hs; clear hs
  go_wp2_with fail
  (with_reducible refine HS.out.mono ?_); rintro e w5 ⟨v5, rfl, hb5, hn5⟩
  clear HS
  have HB5 := Lib.hid (HB4.out.step hb5)
  have Fp := Lib.hid (Fp.out.below hb5)
  have Fq := Lib.hid (Fq.out.below hb5)
  have N := Lib.hid (N.out.below hb5)
  have D := Lib.hid (D.out.below hb5)
  have M := Lib.hid (M.out.below hb5)
  have E := Lib.hid (E.out.below hb5)
  have NM := Lib.hid (NM.out.below hb5)
  have DE := Lib.hid (DE.out.below hb5)
  have BXp := Lib.hid (heap_below BXp.out hb5)
  have BXq := Lib.hid (heap_below BXq.out hb5)
  have BXR := Lib.hid (heap_below BXR.out hb5)
  have Q := Lib.hid hn5; clear hn5
  clear hb5
  obtain ⟨sQ, oQ, nQ, cQ, aQ, mQ, dQ, rfl⟩ := Q.out.shape
  obtain ⟨eR0, eR1, eR2⟩ := row3 BXR.out
  obtain ⟨fR0, fR1, fR2⟩ := froz3 BXR.out
  go_wp2_with fail
  clear eR0 eR1 eR2 fR0 fR1 fR2
  refine ret_rat rfl (w.heap.size + 2) _ _ _ rfl (put3_heap BXR.out) rfl ?_
  exact ⟨_, rfl, put3_below HB5.out (by omega) _ _ _, isR_put Q.out BXR.out⟩
set_option maxRecDepth 100000 in
set_option maxHeartbeats 3200000 in
theorem add_same (vp : Value) (p : Rat) (vq : Value) (q : Rat) (w : World) (hp : RatIs w vp p) (hq : RatIs w vq q) (hs : ng p = ng q) :
    Calls Try.prog 45 #[vp, vq] w (RetR w (p + q)) := by
  obtain ⟨sp, op, np, cp, ap, mp, dp, rfl⟩ := hp.shape
  have hlp := hp.rl
  obtain ⟨sq, oq, nq, cq, aq, mq, dq, rfl⟩ := hq.shape
  have hlq := hq.rl
  have hb0 := ((((Below.refl w.heap.size w).alloc (by first | (simp; done) | (simp; omega)) (.cells #[.bool sp, .slice op np cp, .slice ap mp dp] 32)).alloc (by first | (simp; done) | (simp; omega)) (.cells #[.bool sq, .slice oq nq cq, .slice aq mq dq] 32)).alloc (by first | (simp; done) | (simp; omega)) (.cells #[.bool false, .slice none 0 0, .slice none 0 0] 32))
  have hxp := nest3_0 w (.cells #[.bool sp, .slice op np cp, .slice ap mp dp] 32) (.cells #[.bool sq, .slice oq nq cq, .slice aq mq dq] 32) (.cells #[.bool false, .slice none 0 0, .slice none 0 0] 32)
  have hxq := nest3_1 w (.cells #[.bool sp, .slice op np cp, .slice ap mp dp] 32) (.cells #[.bool sq, .slice oq nq cq, .slice aq mq dq] 32) (.cells #[.bool false, .slice none 0 0, .slice none 0 0] 32)
  have hxR := nest3_2 w (.cells #[.bool sp, .slice op np cp, .slice ap mp dp] 32) (.cells #[.bool sq, .slice oq nq cq, .slice aq mq dq] 32) (.cells #[.bool false, .slice none 0 0, .slice none 0 0] 32)
  have hpp := hp.below hb0
  have hpq := hq.below hb0
  obtain ⟨w0, hw0⟩ : ∃ w0, w0 = (((w.alloc (.cells #[.bool sp, .slice op np cp, .slice ap mp dp] 32)).alloc (.cells #[.bool sq, .slice oq nq cq, .slice aq mq dq] 32)).alloc (.cells #[.bool false, .slice none 0 0, .slice none 0 0] 32)) := ⟨_, rfl⟩
  rw [← hw0] at hb0 hxp hxq hxR hpp hpq
  have HB0 := Lib.hid hb0; have HW0 := Lib.hid hw0
  have BXp := Lib.hid hxp
  have BXq := Lib.hid hxq
  have BXR := Lib.hid hxR
  have Fp := Lib.hid hpp
  have Fq := Lib.hid hpq
  clear hb0 hw0 hxp hxq hxR hpp hp hpq hq
  have l1 := rl_n p; have l2 := rl_d p; have l3 := rl_n q; have l4 := rl_d q
  have L1 : (wd (nn p * q.den)).length ≤ 200000 := by have := wd_mul_len (nn p) q.den; omega
  have L2 : (wd (nn q * p.den)).length ≤ 200000 := by have := wd_mul_len (nn q) p.den; omega
  have L3 : (wd (p.den * q.den)).length ≤ 200000 := by have := wd_mul_len p.den q.den; omega
  have heq := q_add_same p q hs
  have HEQ := Lib.hid heq; clear heq
  have L4 : (wd (nn p * q.den + nn q * p.den)).length ≤ 200001 := by have := wd_add_len (nn p * q.den) (nn q * p.den); omega
  have f1 : (ng p == ng q) = true := by rw [beq_iff_eq]; exact hs
  obtain ⟨x, hx⟩ : ∃ x, x = ng p := ⟨_, rfl⟩; obtain ⟨y, hy⟩ : ∃ y, y = ng q := ⟨_, rfl⟩
  rw [← hx, ← hy] at f1
  have HX := Lib.hid hx; have HY := Lib.hid hy; clear hx hy hs
  go_enter Try.func45, Try.ntmps45
  have hs := parts_any _ p w0 Fp.out
  have HS := Lib.hid hs; clear hs
  go_wp2_with fail
  rw [← HW0.out]
  (with_reducible refine HS.out.mono ?_); rintro e w1 ⟨v1, u1, rfl, hb1, hn1, hm1⟩
  clear HS
  have HB1 := Lib.hid (HB0.out.step hb1)
  have Fp := Lib.hid (Fp.out.below hb1)
  have Fq := Lib.hid (Fq.out.below hb1)
  have BXp := Lib.hid (heap_below BXp.out hb1)
  have BXq := Lib.hid (heap_below BXq.out hb1)
  have BXR := Lib.hid (heap_below BXR.out hb1)
  have N := Lib.hid hn1
  have D := Lib.hid hm1
  clear hn1 hm1
  clear hb1
  rw [← HX.out]
  have hs := parts_any _ q w1 Fq.out
  have HS := Lib.hid hs; clear hs
  obtain ⟨eq0, eq1, eq2⟩ := row3 BXq.out
  go_wp2_with fail
  clear eq0 eq1 eq2
  (with_reducible refine HS.out.mono ?_); rintro e w2 ⟨v2, u2, rfl, hb2, hn2, hm2⟩
  clear HS
  have HB2 := Lib.hid (HB1.out.step hb2)
  have Fp := Lib.hid (Fp.out.below hb2)
  have Fq := Lib.hid (Fq.out.below hb2)
  have N := Lib.hid (N.out.below hb2)
  have D := Lib.hid (D.out.below hb2)
  have BXp := Lib.hid (heap_below BXp.out hb2)
  have BXq := Lib.hid (heap_below BXq.out hb2)
  have BXR := Lib.hid (heap_below BXR.out hb2)
  have M := Lib.hid hn2
  have E := Lib.hid hm2
  clear hn2 hm2
  clear hb2
  rw [← HY.out]
  have hs := mulN N.out E.out (by omega) (by omega)
  have HS := Lib.hid hs; clear hs
  go_wp2_with fail
  (with_reducible refine HS.out.mono ?_); rintro e w3 ⟨v3, rfl, hb3, hn3⟩
  clear HS
  have HB3 := Lib.hid (HB2.out.step hb3)
  have Fp := Lib.hid (Fp.out.below hb3)
  have Fq := Lib.hid (Fq.out.below hb3)
  have N := Lib.hid (N.out.below hb3)
  have D := Lib.hid (D.out.below hb3)
  have M := Lib.hid (M.out.below hb3)
  have E := Lib.hid (E.out.below hb3)
  have BXp := Lib.hid (heap_below BXp.out hb3)
  have BXq := Lib.hid (heap_below BXq.out hb3)
  have BXR := Lib.hid (heap_below BXR.out hb3)
  have X := Lib.hid hn3; clear hn3
  clear hb3
  have hs := mulN M.out D.out (by omega) (by omega)
  have HS := Lib.hid hs; clear hs
  go_wp2_with fail
  (with_reducible refine HS.out.mono ?_); rintro e w4 ⟨v4, rfl, hb4, hn4⟩
  clear HS
  have HB4 := Lib.hid (HB3.out.step hb4)
  have Fp := Lib.hid (Fp.out.below hb4)
  have Fq := Lib.hid (Fq.out.below hb4)
  have N := Lib.hid (N.out.below hb4)
  have D := Lib.hid (D.out.below hb4)
  have M := Lib.hid (M.out.below hb4)
  have E := Lib.hid (E.out.below hb4)
  have X := Lib.hid (X.out.below hb4)
  have BXp := Lib.hid (heap_below BXp.out hb4)
  have BXq := Lib.hid (heap_below BXq.out hb4)
  have BXR := Lib.hid (heap_below BXR.out hb4)
  have Y := Lib.hid hn4; clear hn4
  clear hb4
  have hs := mulN D.out E.out (by omega) (by omega)
  have HS := Lib.hid hs; clear hs
  go_wp2_with fail
  (with_reducible refine HS.out.mono ?_); rintro e w5 ⟨v5, rfl, hb5, hn5⟩
  clear HS
  have HB5 := Lib.hid (HB4.out.step hb5)
  have Fp := Lib.hid (Fp.out.below hb5)
  have Fq := Lib.hid (Fq.out.below hb5)
  have N := Lib.hid (N.out.below hb5)
  have D := Lib.hid (D.out.below hb5)
  have M := Lib.hid (M.out.below hb5)
  have E := Lib.hid (E.out.below hb5)
  have X := Lib.hid (X.out.below hb5)
  have Y := Lib.hid (Y.out.below hb5)
  have BXp := Lib.hid (heap_below BXp.out hb5)
  have BXq := Lib.hid (heap_below BXq.out hb5)
  have BXR := Lib.hid (heap_below BXR.out hb5)
  have DE := Lib.hid hn5; clear hn5
  clear hb5
  have hs := addN X.out Y.out (by omega) (by omega)
  have HS := Lib.hid hs; clear hs
  go_wp2_with fail
  (with_reducible refine HS.out.mono ?_); rintro e w6 ⟨v6, rfl, hb6, hn6⟩
  clear HS
  have HB6 := Lib.hid (HB5.out.step hb6)
  have Fp := Lib.hid (Fp.out.below hb6)
  have Fq := Lib.hid (Fq.out.below hb6)
  have N := Lib.hid (N.out.below hb6)
  have D := Lib.hid (D.out.below hb6)
  have M := Lib.hid (M.out.below hb6)
  have E := Lib.hid (E.out.below hb6)
  have X := Lib.hid (X.out.below hb6)
  have Y := Lib.hid (Y.out.below hb6)
  have DE := Lib.hid (DE.out.below hb6)
  have BXp := Lib.hid (heap_below BXp.out hb6)
  have BXq := Lib.hid (heap_below BXq.out hb6)
  have BXR := Lib.hid (heap_below BXR.out hb6)
  have S := Lib.hid hn6; clear hn6
  clear hb6
  have hs := formN x S.out DE.out (by omega) (by omega) (den_mul_nz p.den_nz q.den_nz)
  have HS := Lib.hid hs; clear hs
  go_wp2_with fail
  (with_reducible refine HS.out.mono ?_); rintro e w7 ⟨v7, rfl, hb7, hn7⟩
  clear HS
  have HB7 := Lib.hid (HB6.out.step hb7)
  have Fp := Lib.hid (Fp.out.below hb7)
  have Fq := Lib.hid (Fq.out.below hb7)
  have N := Lib.hid (N.out.below hb7)
  have D := Lib.hid (D.out.below hb7)
  have M := Lib.hid (M.out.below hb7)
  have E := Lib.hid (E.out.below hb7)
  have X := Lib.hid (X.out.below hb7)
  have Y := Lib.hid (Y.out.below hb7)
  have DE := Lib.hid (DE.out.below hb7)
  have S := Lib.hid (S.out.below hb7)
  have BXp := Lib.hid (heap_below BXp.out hb7)
  have BXq := Lib.hid (heap_below BXq.out hb7)
  have BXR := Lib.hid (heap_below BXR.out hb7)
  have Q := Lib.hid hn7; clear hn7
  clear hb7
  have hq := Q.out; rw [HX.out, HEQ.out] at hq; have Q := Lib.hid hq; clear hq
  obtain ⟨sQ, oQ, nQ, cQ, aQ, mQ, dQ, rfl⟩ := Q.out.shape
  obtain ⟨eR0, eR1, eR2⟩ := row3 BXR.out
  obtain ⟨fR0, fR1, fR2⟩ := froz3 BXR.out
  go_wp2_with fail
  clear eR0 eR1 eR2 fR0 fR1 fR2
  refine ret_rat rfl (w.heap.size + 2) _ _ _ rfl (put3_heap BXR.out) rfl ?_
  exact ⟨_, rfl, put3_below HB7.out (by omega) _ _ _, isR_put Q.out BXR.out⟩
set_option maxRecDepth 100000 in
set_option maxHeartbeats 3200000 in
theorem add_diff (vp : Value) (p : Rat) (vq : Value) (q : Rat) (w : World) (hp : RatIs w vp p) (hq : RatIs w vq q) (hs : ng p ≠ ng q) (hle : nn q * p.den ≤ nn p * q.den) :
    Calls Try.prog 45 #[vp, vq] w (RetR w (p + q)) := by
  obtain ⟨sp, op, np, cp, ap, mp, dp, rfl⟩ := hp.shape
  have hlp := hp.rl
  obtain ⟨sq, oq, nq, cq, aq, mq, dq, rfl⟩ := hq.shape
  have hlq := hq.rl
  have hb0 := ((((Below.refl w.heap.size w).alloc (by first | (simp; done) | (simp; omega)) (.cells #[.bool sp, .slice op np cp, .slice ap mp dp] 32)).alloc (by first | (simp; done) | (simp; omega)) (.cells #[.bool sq, .slice oq nq cq, .slice aq mq dq] 32)).alloc (by first | (simp; done) | (simp; omega)) (.cells #[.bool false, .slice none 0 0, .slice none 0 0] 32))
  have hxp := nest3_0 w (.cells #[.bool sp, .slice op np cp, .slice ap mp dp] 32) (.cells #[.bool sq, .slice oq nq cq, .slice aq mq dq] 32) (.cells #[.bool false, .slice none 0 0, .slice none 0 0] 32)
  have hxq := nest3_1 w (.cells #[.bool sp, .slice op np cp, .slice ap mp dp] 32) (.cells #[.bool sq, .slice oq nq cq, .slice aq mq dq] 32) (.cells #[.bool false, .slice none 0 0, .slice none 0 0] 32)
  have hxR := nest3_2 w (.cells #[.bool sp, .slice op np cp, .slice ap mp dp] 32) (.cells #[.bool sq, .slice oq nq cq, .slice aq mq dq] 32) (.cells #[.bool false, .slice none 0 0, .slice none 0 0] 32)
  have hpp := hp.below hb0
  have hpq := hq.below hb0
  obtain ⟨w0, hw0⟩ : ∃ w0, w0 = (((w.alloc (.cells #[.bool sp, .slice op np cp, .slice ap mp dp] 32)).alloc (.cells #[.bool sq, .slice oq nq cq, .slice aq mq dq] 32)).alloc (.cells #[.bool false, .slice none 0 0, .slice none 0 0] 32)) := ⟨_, rfl⟩
  rw [← hw0] at hb0 hxp hxq hxR hpp hpq
  have HB0 := Lib.hid hb0; have HW0 := Lib.hid hw0
  have BXp := Lib.hid hxp
  have BXq := Lib.hid hxq
  have BXR := Lib.hid hxR
  have Fp := Lib.hid hpp
  have Fq := Lib.hid hpq
  clear hb0 hw0 hxp hxq hxR hpp hp hpq hq
  have l1 := rl_n p; have l2 := rl_d p; have l3 := rl_n q; have l4 := rl_d q
  have L1 : (wd (nn p * q.den)).length ≤ 200000 := by have := wd_mul_len (nn p) q.den; omega
  have L2 : (wd (nn q * p.den)).length ≤ 200000 := by have := wd_mul_len (nn q) p.den; omega
  have L3 : (wd (p.den * q.den)).length ≤ 200000 := by have := wd_mul_len p.den q.den; omega
  have heq := q_add_diff p q hs hle
  have HEQ := Lib.hid heq; clear heq
  have f1 : (ng p == ng q) = false := by rw [beq_eq_false_iff_ne]; exact hs
  obtain ⟨c, hc⟩ : ∃ c, c = cmpN (nn p * q.den) (nn q * p.den) := ⟨_, rfl⟩
  have L4 : (wd (nn p * q.den - nn q * p.den)).length ≤ 200000 := by exact Nat.le_trans (wd_length_mono (Nat.sub_le _ _)) L1
  have f2 : decide (0 ≤ c) = true := by rw [hc, decide_eq_true_eq]; unfold cmpN; rw [if_neg (by omega)]; split <;> decide
  have HC := Lib.hid hc; have HLE := Lib.hid hle; clear hc hle
  obtain ⟨x, hx⟩ : ∃ x, x = ng p := ⟨_, rfl⟩; obtain ⟨y, hy⟩ : ∃ y, y = ng q := ⟨_, rfl⟩
  rw [← hx, ← hy] at f1
  have HX := Lib.hid hx; have HY := Lib.hid hy; clear hx hy hs
  go_enter Try.func45, Try.ntmps45
  have hs := parts_any _ p w0 Fp.out
  have HS := Lib.hid hs; clear hs
  go_wp2_with fail
  rw [← HW0.out]
  (with_reducible refine HS.out.mono ?_); rintro e w1 ⟨v1, u1, rfl, hb1, hn1, hm1⟩
  clear HS
  have HB1 := Lib.hid (HB0.out.step hb1)
  have Fp := Lib.hid (Fp.out.below hb1)
  have Fq := Lib.hid (Fq.out.below hb1)
  have BXp := Lib.hid (heap_below BXp.out hb1)
  have BXq := Lib.hid (heap_below BXq.out hb1)
  have BXR := Lib.hid (heap_below BXR.out hb1)
  have N := Lib.hid hn1
  have D := Lib.hid hm1
  clear hn1 hm1
  clear hb1
  rw [← HX.out]
  have hs := parts_any _ q w1 Fq.out
  have HS := Lib.hid hs; clear hs
  obtain ⟨eq0, eq1, eq2⟩ := row3 BXq.out
  go_wp2_with fail
  clear eq0 eq1 eq2
  (with_reducible refine HS.out.mono ?_); rintro e w2 ⟨v2, u2, rfl, hb2, hn2, hm2⟩
  clear HS
  have HB2 := Lib.hid (HB1.out.step hb2)
  have Fp := Lib.hid (Fp.out.below hb2)
  have Fq := Lib.hid (Fq.out.below hb2)
  have N := Lib.hid (N.out.below hb2)
  have D := Lib.hid (D.out.below hb2)
  have BXp := Lib.hid (heap_below BXp.out hb2)
  have BXq := Lib.hid (heap_below BXq.out hb2)
  have BXR := Lib.hid (heap_below BXR.out hb2)
  have M := Lib.hid hn2
  have E := Lib.hid hm2
  clear hn2 hm2
  clear hb2
  rw [← HY.out]
  have hs := mulN N.out E.out (by omega) (by omega)
  have HS := Lib.hid hs; clear hs
  go_wp2_with fail
  (with_reducible refine HS.out.mono ?_); rintro e w3 ⟨v3, rfl, hb3, hn3⟩
  clear HS
  have HB3 := Lib.hid (HB2.out.step hb3)
  have Fp := Lib.hid (Fp.out.below hb3)
  have Fq := Lib.hid (Fq.out.below hb3)
  have N := Lib.hid (N.out.below hb3)
  have D := Lib.hid (D.out.below hb3)
  have M := Lib.hid (M.out.below hb3)
  have E := Lib.hid (E.out.below hb3)
  have BXp := Lib.hid (heap_below BXp.out hb3)
  have BXq := Lib.hid (heap_below BXq.out hb3)
  have BXR := Lib.hid (heap_below BXR.out hb3)
  have X := Lib.hid hn3; clear hn3
  clear hb3
  have hs := mulN M.out D.out (by omega) (by omega)
  have HS := Lib.hid hs; clear hs
  go_wp2_with fail
  (with_reducible refine HS.out.mono ?_); rintro e w4 ⟨v4, rfl, hb4, hn4⟩
  clear HS
  have HB4 := Lib.hid (HB3.out.step hb4)
  have Fp := Lib.hid (Fp.out.below hb4)
  have Fq := Lib.hid (Fq.out.below hb4)
  have N := Lib.hid (N.out.below hb4)
  have D := Lib.hid (D.out.below hb4)
  have M := Lib.hid (M.out.below hb4)
  have E := Lib.hid (E.out.below hb4)
  have X := Lib.hid (X.out.below hb4)
  have BXp := Lib.hid (heap_below BXp.out hb4)
  have BXq := Lib.hid (heap_below BXq.out hb4)
  have BXR := Lib.hid (heap_below BXR.out hb4)
  have Y := Lib.hid hn4; clear hn4
  clear hb4
  have hs := mulN D.out E.out (by omega) (by omega)
  have HS := Lib.hid hs; clear hs
  go_wp2_with fail
  (with_reducible refine HS.out.mono ?_); rintro e w5 ⟨v5, rfl, hb5, hn5⟩
  clear HS
  have HB5 := Lib.hid (HB4.out.step hb5)
  have Fp := Lib.hid (Fp.out.below hb5)
  have Fq := Lib.hid (Fq.out.below hb5)
  have N := Lib.hid (N.out.below hb5)
  have D := Lib.hid (D.out.below hb5)
  have M := Lib.hid (M.out.below hb5)
  have E := Lib.hid (E.out.below hb5)
  have X := Lib.hid (X.out.below hb5)
  have Y := Lib.hid (Y.out.below hb5)
  have BXp := Lib.hid (heap_below BXp.out hb5)
  have BXq := Lib.hid (heap_below BXq.out hb5)
  have BXR := Lib.hid (heap_below BXR.out hb5)
  have DE := Lib.hid hn5; clear hn5
  clear hb5
  have hs := cmpN_ X.out Y.out (by omega) (by omega)
  rw [← HC.out] at hs
  have HS := Lib.hid hs; clear hs
  go_wp2_with fail
  (with_reducible refine HS.out.mono ?_); rintro e w6 ⟨rfl, hb6⟩
  clear HS
  have HB6 := Lib.hid (HB5.out.step hb6)
  have Fp := Lib.hid (Fp.out.below hb6)
  have Fq := Lib.hid (Fq.out.below hb6)
  have N := Lib.hid (N.out.below hb6)
  have D := Lib.hid (D.out.below hb6)
  have M := Lib.hid (M.out.below hb6)
  have E := Lib.hid (E.out.below hb6)
  have X := Lib.hid (X.out.below hb6)
  have Y := Lib.hid (Y.out.below hb6)
  have DE := Lib.hid (DE.out.below hb6)
  have BXp := Lib.hid (heap_below BXp.out hb6)
  have BXq := Lib.hid (heap_below BXq.out hb6)
  have BXR := Lib.hid (heap_below BXR.out hb6)
  clear hb6
  have hs := subN X.out Y.out (by omega) (by omega) HLE.out
  have HS := Lib.hid hs; clear hs
  go_wp2_with fail
  (with_reducible refine HS.out.mono ?_); rintro e w7 ⟨v7, rfl, hb7, hn7⟩
  clear HS
  have HB7 := Lib.hid (HB6.out.step hb7)
  have Fp := Lib.hid (Fp.out.below hb7)
  have Fq := Lib.hid (Fq.out.below hb7)
  have N := Lib.hid (N.out.below hb7)
  have D := Lib.hid (D.out.below hb7)
  have M := Lib.hid (M.out.below hb7)
  have E := Lib.hid (E.out.below hb7)
  have X := Lib.hid (X.out.below hb7)
  have Y := Lib.hid (Y.out.below hb7)
  have DE := Lib.hid (DE.out.below hb7)
  have BXp := Lib.hid (heap_below BXp.out hb7)
  have BXq := Lib.hid (heap_below BXq.out hb7)
  have BXR := Lib.hid (heap_below BXR.out hb7)
  have S := Lib.hid hn7; clear hn7
  clear hb7
  have hs := formN x S.out DE.out (by omega) (by omega) (den_mul_nz p.den_nz q.den_nz)
  have HS := Lib.hid hs; clear hs
  go_wp2_with fail
  (with_reducible refine HS.out.mono ?_); rintro e w8 ⟨v8, rfl, hb8, hn8⟩
  clear HS
  have HB8 := Lib.hid (HB7.out.step hb8)
  have Fp := Lib.hid (Fp.out.below hb8)
  have Fq := Lib.hid (Fq.out.below hb8)
  have N := Lib.hid (N.out.below hb8)
  have D := Lib.hid (D.out.below hb8)
  have M := Lib.hid (M.out.below hb8)
  have E := Lib.hid (E.out.below hb8)
  have X := Lib.hid (X.out.below hb8)
  have Y := Lib.hid (Y.out.below hb8)
  have DE := Lib.hid (DE.out.below hb8)
  have S := Lib.hid (S.out.below hb8)
  have BXp := Lib.hid (heap_below BXp.out hb8)
  have BXq := Lib.hid (heap_below BXq.out hb8)
  have BXR := Lib.hid (heap_below BXR.out hb8)
  have Q := Lib.hid hn8; clear hn8
  clear hb8
  have hq := Q.out; rw [HX.out, HEQ.out] at hq; have Q := Lib.hid hq; clear hq
  obtain ⟨sQ, oQ, nQ, cQ, aQ, mQ, dQ, rfl⟩ := Q.out.shape
  obtain ⟨eR0, eR1, eR2⟩ := row3 BXR.out
  obtain ⟨fR0, fR1, fR2⟩ := froz3 BXR.out
  go_wp2_with fail
  clear eR0 eR1 eR2 fR0 fR1 fR2
  refine ret_rat rfl (w.heap.size + 2) _ _ _ rfl (put3_heap BXR.out) rfl ?_
  exact ⟨_, rfl, put3_below HB8.out (by omega) _ _ _, isR_put Q.out BXR.out⟩
set_option maxRecDepth 100000 in
set_option maxHeartbeats 3200000 in
theorem add_diff' (vp : Value) (p : Rat) (vq : Value) (q : Rat) (w : World) (hp : RatIs w vp p) (hq : RatIs w vq q) (hs : ng p ≠ ng q) (hle : nn p * q.den < nn q * p.den) :
    Calls Try.prog 45 #[vp, vq] w (RetR w (p + q)) := by
  obtain ⟨sp, op, np, cp, ap, mp, dp, rfl⟩ := hp.shape
  have hlp := hp.rl
  obtain ⟨sq, oq, nq, cq, aq, mq, dq, rfl⟩ := hq.shape
  have hlq := hq.rl
  have hb0 := ((((Below.refl w.heap.size w).alloc (by first | (simp; done) | (simp; omega)) (.cells #[.bool sp, .slice op np cp, .slice ap mp dp] 32)).alloc (by first | (simp; done) | (simp; omega)) (.cells #[.bool sq, .slice oq nq cq, .slice aq mq dq] 32)).alloc (by first | (simp; done) | (simp; omega)) (.cells #[.bool false, .slice none 0 0, .slice none 0 0] 32))
  have hxp := nest3_0 w (.cells #[.bool sp, .slice op np cp, .slice ap mp dp] 32) (.cells #[.bool sq, .slice oq nq cq, .slice aq mq dq] 32) (.cells #[.bool false, .slice none 0 0, .slice none 0 0] 32)
  have hxq := nest3_1 w (.cells #[.bool sp, .slice op np cp, .slice ap mp dp] 32) (.cells #[.bool sq, .slice oq nq cq, .slice aq mq dq] 32) (.cells #[.bool false, .slice none 0 0, .slice none 0 0] 32)
  have hxR := nest3_2 w (.cells #[.bool sp, .slice op np cp, .slice ap mp dp] 32) (.cells #[.bool sq, .slice oq nq cq, .slice aq mq dq] 32) (.cells #[.bool false, .slice none 0 0, .slice none 0 0] 32)
  have hpp := hp.below hb0
  have hpq := hq.below hb0
  obtain ⟨w0, hw0⟩ : ∃ w0, w0 = (((w.alloc (.cells #[.bool sp, .slice op np cp, .slice ap mp dp] 32)).alloc (.cells #[.bool sq, .slice oq nq cq, .slice aq mq dq] 32)).alloc (.cells #[.bool false, .slice none 0 0, .slice none 0 0] 32)) := ⟨_, rfl⟩
  rw [← hw0] at hb0 hxp hxq hxR hpp hpq
  have HB0 := Lib.hid hb0; have HW0 := Lib.hid hw0
  have BXp := Lib.hid hxp
  have BXq := Lib.hid hxq
  have BXR := Lib.hid hxR
  have Fp := Lib.hid hpp
  have Fq := Lib.hid hpq
  clear hb0 hw0 hxp hxq hxR hpp hp hpq hq
  have l1 := rl_n p; have l2 := rl_d p; have l3 := rl_n q; have l4 := rl_d q
  have L1 : (wd (nn p * q.den)).length ≤ 200000 := by have := wd_mul_len (nn p) q.den; omega
  have L2 : (wd (nn q * p.den)).length ≤ 200000 := by have := wd_mul_len (nn q) p.den; omega
  have L3 : (wd (p.den * q.den)).length ≤ 200000 := by have := wd_mul_len p.den q.den; omega
  have heq := q_add_diff' p q hs (Nat.le_of_lt hle)
  have HEQ := Lib.hid heq; clear heq
  have f1 : (ng p == ng q) = false := by rw [beq_eq_false_iff_ne]; exact hs
  obtain ⟨c, hc⟩ : ∃ c, c = cmpN (nn p * q.den) (nn q * p.den) := ⟨_, rfl⟩
  have L4 : (wd (nn q * p.den - nn p * q.den)).length ≤ 200000 := by exact Nat.le_trans (wd_length_mono (Nat.sub_le _ _)) L2
  have f2 : decide (0 ≤ c) = false := by rw [hc, decide_eq_false_iff_not]; unfold cmpN; rw [if_pos hle]; decide
  have HC := Lib.hid hc; have HLE := Lib.hid hle; clear hc hle
  obtain ⟨x, hx⟩ : ∃ x, x = ng p := ⟨_, rfl⟩; obtain ⟨y, hy⟩ : ∃ y, y = ng q := ⟨_, rfl⟩
  rw [← hx, ← hy] at f1
  have HX := Lib.hid hx; have HY := Lib.hid hy; clear hx hy hs
  go_enter Try.func45, Try.ntmps45
  have hs := parts_any _ p w0 Fp.out
  have HS := Lib.hid hs; clear hs
  go_wp2_with fail
  rw [← HW0.out]
  (with_reducible refine HS.out.mono ?_); rintro e w1 ⟨v1, u1, rfl, hb1, hn1, hm1⟩
  clear HS
  have HB1 := Lib.hid (HB0.out.step hb1)
  have Fp := Lib.hid (Fp.out.below hb1)
  have Fq := Lib.hid (Fq.out.below hb1)
  have BXp := Lib.hid (heap_below BXp.out hb1)
  have BXq := Lib.hid (heap_below BXq.out hb1)
  have BXR := Lib.hid (heap_below BXR.out hb1)
  have N := Lib.hid hn1
  have D := Lib.hid hm1
  clear hn1 hm1
  clear hb1
  rw [← HX.out]
  have hs := parts_any _ q w1 Fq.out
  have HS := Lib.hid hs; clear hs
  obtain ⟨eq0, eq1, eq2⟩ := row3 BXq.out
  go_wp2_with fail
  clear eq0 eq1 eq2
  (with_reducible refine HS.out.mono ?_); rintro e w2 ⟨v2, u2, rfl, hb2, hn2, hm2⟩
  clear HS
  have HB2 := Lib.hid (HB1.out.step hb2)
  have Fp := Lib.hid (Fp.out.below hb2)
  have Fq := Lib.hid (Fq.out.below hb2)
  have N := Lib.hid (N.out.below hb2)
  have D := Lib.hid (D.out.below hb2)
  have BXp := Lib.hid (heap_below BXp.out hb2)
  have BXq := Lib.hid (heap_below BXq.out hb2)
  have BXR := Lib.hid (heap_below BXR.out hb2)
  have M := Lib.hid hn2
  have E := Lib.hid hm2
  clear hn2 hm2
  clear hb2
  rw [← HY.out]
  have hs := mulN N.out E.out (by omega) (by omega)
  have HS := Lib.hid hs; clear hs
  go_wp2_with fail
  (with_reducible refine HS.out.mono ?_); rintro e w3 ⟨v3, rfl, hb3, hn3⟩
  clear HS
  have HB3 := Lib.hid (HB2.out.step hb3)
  have Fp := Lib.hid (Fp.out.below hb3)
  have Fq := Lib.hid (Fq.out.below hb3)
  have N := Lib.hid (N.out.below hb3)
  have D := Lib.hid (D.out.below hb3)
  have M := Lib.hid (M.out.below hb3)
  have E := Lib.hid (E.out.below hb3)
  have BXp := Lib.hid (heap_below BXp.out hb3)
  have BXq := Lib.hid (heap_below BXq.out hb3)
  have BXR := Lib.hid (heap_below BXR.out hb3)
  have X := Lib.hid hn3; clear hn3
  clear hb3
  have hs := mulN M.out D.out (by omega) (by omega)
  have HS := Lib.hid hs; clear hs
  go_wp2_with fail
  (with_reducible refine HS.out.mono ?_); rintro e w4 ⟨v4, rfl, hb4, hn4⟩
  clear HS
  have HB4 := Lib.hid (HB3.out.step hb4)
  have Fp := Lib.hid (Fp.out.below hb4)
  have Fq := Lib.hid (Fq.out.below hb4)
  have N := Lib.hid (N.out.below hb4)
  have D := Lib.hid (D.out.below hb4)
  have M := Lib.hid (M.out.below hb4)
  have E := Lib.hid (E.out.below hb4)
  have X := Lib.hid (X.out.below hb4)
  have BXp := Lib.hid (heap_below BXp.out hb4)
  have BXq := Lib.hid (heap_below BXq.out hb4)
  have BXR := Lib.hid (heap_below BXR.out hb4)
  have Y := Lib.hid hn4; clear hn4
  clear hb4
  have hs := mulN D.out E.out (by omega) (by omega)
  have HS := Lib.hid hs; clear hs
  go_wp2_with fail
  (with_reducible refine HS.out.mono ?_); rintro e w5 ⟨v5, rfl, hb5, hn5⟩
  clear HS
  have HB5 := Lib.hid (HB4.out.step hb5)
  have Fp := Lib.hid (Fp.out.below hb5)
  have Fq := Lib.hid (Fq.out.below hb5)
  have N := Lib.hid (N.out.below hb5)
  have D := Lib.hid (D.out.below hb5)
  have M := Lib.hid (M.out.below hb5)
  have E := Lib.hid (E.out.below hb5)
  have X := Lib.hid (X.out.below hb5)
  have Y := Lib.hid (Y.out.below hb5)
  have BXp := Lib.hid (heap_below BXp.out hb5)
  have BXq := Lib.hid (heap_below BXq.out hb5)
  have BXR := Lib.hid (heap_below BXR.out hb5)
  have DE := Lib.hid hn5; clear hn5
  clear hb5
  have hs := cmpN_ X.out Y.out (by omega) (by omega)
  rw [← HC.out] at hs
  have HS := Lib.hid hs; clear hs
  go_wp2_with fail
  (with_reducible refine HS.out.mono ?_); rintro e w6 ⟨rfl, hb6⟩
  clear HS
  have HB6 := Lib.hid (HB5.out.step hb6)
  have Fp := Lib.hid (Fp.out.below hb6)
  have Fq := Lib.hid (Fq.out.below hb6)
  have N := Lib.hid (N.out.below hb6)
  have D := Lib.hid (D.out.below hb6)
  have M := Lib.hid (M.out.below hb6)
  have E := Lib.hid (E.out.below hb6)
  have X := Lib.hid (X.out.below hb6)
  have Y := Lib.hid (Y.out.below hb6)
  have DE := Lib.hid (DE.out.below hb6)
  have BXp := Lib.hid (heap_below BXp.out hb6)
  have BXq := Lib.hid (heap_below BXq.out hb6)
  have BXR := Lib.hid (heap_below BXR.out hb6)
  clear hb6
  have hs := subN Y.out X.out (by omega) (by omega) (Nat.le_of_lt HLE.out)
  have HS := Lib.hid hs; clear hs
  go_wp2_with fail
  (with_reducible refine HS.out.mono ?_); rintro e w7 ⟨v7, rfl, hb7, hn7⟩
  clear HS
  have HB7 := Lib.hid (HB6.out.step hb7)
  have Fp := Lib.hid (Fp.out.below hb7)
  have Fq := Lib.hid (Fq.out.below hb7)
  have N := Lib.hid (N.out.below hb7)
  have D := Lib.hid (D.out.below hb7)
  have M := Lib.hid (M.out.below hb7)
  have E := Lib.hid (E.out.below hb7)
  have X := Lib.hid (X.out.below hb7)
  have Y := Lib.hid (Y.out.below hb7)
  have DE := Lib.hid (DE.out.below hb7)
  have BXp := Lib.hid (heap_below BXp.out hb7)
  have BXq := Lib.hid (heap_below BXq.out hb7)
  have BXR := Lib.hid (heap_below BXR.out hb7)
  have S := Lib.hid hn7; clear hn7
  clear hb7
  have hs := formN y S.out DE.out (by omega) (by omega) (den_mul_nz p.den_nz q.den_nz)
  have HS := Lib.hid hs; clear hs
  go_wp2_with fail
  (with_reducible refine HS.out.mono ?_); rintro e w8 ⟨v8, rfl, hb8, hn8⟩
  clear HS
  have HB8 := Lib.hid (HB7.out.step hb8)
  have Fp := Lib.hid (Fp.out.below hb8)
  have Fq := Lib.hid (Fq.out.below hb8)
  have N := Lib.hid (N.out.below hb8)
  have D := Lib.hid (D.out.below hb8)
  have M := Lib.hid (M.out.below hb8)
  have E := Lib.hid (E.out.below hb8)
  have X := Lib.hid (X.out.below hb8)
  have Y := Lib.hid (Y.out.below hb8)
  have DE := Lib.hid (DE.out.below hb8)
  have S := Lib.hid (S.out.below hb8)
  have BXp := Lib.hid (heap_below BXp.out hb8)
  have BXq := Lib.hid (heap_below BXq.out hb8)
  have BXR := Lib.hid (heap_below BXR.out hb8)
  have Q := Lib.hid hn8; clear hn8
  clear hb8
  have hq := Q.out; rw [HY.out, HEQ.out] at hq; have Q := Lib.hid hq; clear hq
  obtain ⟨sQ, oQ, nQ, cQ, aQ, mQ, dQ, rfl⟩ := Q.out.shape
  obtain ⟨eR0, eR1, eR2⟩ := row3 BXR.out
  obtain ⟨fR0, fR1, fR2⟩ := froz3 BXR.out
  go_wp2_with fail
  clear eR0 eR1 eR2 fR0 fR1 fR2
  refine ret_rat rfl (w.heap.size + 2) _ _ _ rfl (put3_heap BXR.out) rfl ?_
  exact ⟨_, rfl, put3_below HB8.out (by omega) _ _ _, isR_put Q.out BXR.out⟩
theorem addq_any (vp : Value) (p : Rat) (vq : Value) (q : Rat) (w : World) (hp : RatIs w vp p) (hq : RatIs w vq q) :
    Calls Try.prog 45 #[vp, vq] w (RetR w (p + q)) := by
  by_cases h : ng p = ng q
  · exact add_same vp p vq q w hp hq h
  · rcases Nat.lt_or_ge (nn p * q.den) (nn q * p.den) with h2 | h2
    · exact add_diff' vp p vq q w hp hq h h2
    · exact add_diff vp p vq q w hp hq h h2
end Go.Proofs.Ytaefimegiobkmaa
/-
  rational.size, Of, Make, Sub, Sign, Cmp, same, Min, Max, Div: what they hand back.
  Conditions: each theorem's own.
-/
namespace Go.Proofs.Ytaefimegiobkmaa
open Go.RowKit Go.ChangeShapes Go.WideShapes

theorem wd_two63 : wd 9223372036854775808 = [0, 2147483648] := by
  rw [wd_pos (by decide), show (9223372036854775808 : Nat) % 4294967296 = 0 from rfl, show (9223372036854775808 : Nat) / 4294967296 = 2147483648 from rfl, wd_one (by decide) (by decide)]
theorem wd_small {n : Nat} (h : n ≤ 9223372036854775808) : (wd n).length ≤ 2 := wd_length_of_lt (Nat.lt_of_le_of_lt h (by decide))
set_option maxRecDepth 100000 in
set_option maxHeartbeats 800000 in
theorem size_any (n : Int) (w : World) (h0 : -9223372036854775808 ≤ n) (h1 : n < 9223372036854775808) :
    Calls Try.prog 46 #[.int .i64 n] w (RetN w n.natAbs) := by
  by_cases h : n = -9223372036854775808
  · subst h
    go_enter Try.func46, Try.ntmps46
    go_wp2_with fail
    go_ret
    refine ⟨_, rfl, (Below.refl _ _).alloc (Nat.le_refl _) _, ?_⟩
    rw [show (-9223372036854775808 : Int).natAbs = 9223372036854775808 from rfl, wd_two63]
    exact num_lit w 70 _ [0, 2147483648] 2 (U32.cons (by decide) (U32.cons (by decide) U32.nil)) rfl (by simp) rfl
  · have f1 : (n == -9223372036854775808) = false := by rw [beq_eq_false_iff_ne]; exact h
    have hof := of_any (max n (-n)) w (by omega) (by omega)
    rw [show (max n (-n)).toNat = n.natAbs by omega] at hof
    have HO := Lib.hid hof
    have hwr : wrap64 (-n) = -n := by unfold wrap64; omega
    clear hof h
    go_enter Try.func46, Try.ntmps46
    go_wp2_with fail
    (with_reducible refine HO.out.mono ?_); rintro e w1 ⟨v1, l1, rfl, hb1, hn1, rfl⟩
    go_wp2_with fail
    go_ret
    exact ⟨_, rfl, hb1, hn1⟩
theorem sgn_int (n : Int) : sgn (decide (n < 0)) n.natAbs = n := by
  unfold sgn
  by_cases h : n < 0
  · rw [decide_eq_true h, if_pos rfl]; omega
  · rw [decide_eq_false h, if_neg (by decide)]; omega
theorem q_int (n : Int) : qm (decide (n < 0)) n.natAbs 1 = (n : Rat) := by rw [qm_one, sgn_int]
set_option maxRecDepth 100000 in
set_option maxHeartbeats 3200000 in
theorem ofq_any (n : Int) (w : World)  (h0 : -9223372036854775808 ≤ n) (h1 : n < 9223372036854775808) :
    Calls Try.prog 25 #[.int .i64 n] w (RetR w (n : Rat)) := by
  have hb0 := ((Below.refl w.heap.size w).alloc (by first | (simp; done) | (simp; omega)) (.cells #[.bool false, .slice none 0 0, .slice none 0 0] 32))
  have hxR := nest1_0 w (.cells #[.bool false, .slice none 0 0, .slice none 0 0] 32)
  obtain ⟨w0, hw0⟩ : ∃ w0, w0 = (w.alloc (.cells #[.bool false, .slice none 0 0, .slice none 0 0] 32)) := ⟨_, rfl⟩
  rw [← hw0] at hb0 hxR
  have HB0 := Lib.hid hb0; have HW0 := Lib.hid hw0
  have BXR := Lib.hid hxR
  clear hb0 hw0 hxR
  have L1 : (wd (n.natAbs)).length ≤ 2 := by exact wd_small (by omega)
  have L2 : (wd (1)).length ≤ 1 := by rw [wd_one_len]; exact Nat.le_refl _
  have BD := Lib.hid (And.intro h0 h1)
  go_enter Try.func25, Try.ntmps25
  have hs := size_any n w0 BD.out.1 BD.out.2
  have HS := Lib.hid hs; clear hs
  go_wp2_with fail
  rw [← HW0.out]
  (with_reducible refine HS.out.mono ?_); rintro e w1 ⟨v1, rfl, hb1, hn1⟩
  clear HS
  have HB1 := Lib.hid (HB0.out.step hb1)
  have BXR := Lib.hid (heap_below BXR.out hb1)
  have N := Lib.hid hn1; clear hn1
  clear hb1
  have hs := one_any w1
  have HS := Lib.hid hs; clear hs
  go_wp2_with fail
  (with_reducible refine HS.out.mono ?_); rintro e w2 ⟨v2, rfl, hb2, hn2⟩
  clear HS
  have HB2 := Lib.hid (HB1.out.step hb2)
  have N := Lib.hid (N.out.below hb2)
  have BXR := Lib.hid (heap_below BXR.out hb2)
  have O := Lib.hid hn2; clear hn2
  clear hb2
  have hs := formN (decide (n < 0)) N.out O.out (by omega) (by omega) (by decide)
  rw [q_int] at hs
  have HS := Lib.hid hs; clear hs
  go_wp2_with fail
  (with_reducible refine HS.out.mono ?_); rintro e w3 ⟨v3, rfl, hb3, hn3⟩
  clear HS
  have HB3 := Lib.hid (HB2.out.step hb3)
  have N := Lib.hid (N.out.below hb3)
  have O := Lib.hid (O.out.below hb3)
  have BXR := Lib.hid (heap_below BXR.out hb3)
  have Q := Lib.hid hn3; clear hn3
  clear hb3
  obtain ⟨sQ, oQ, nQ, cQ, aQ, mQ, dQ, rfl⟩ := Q.out.shape
  obtain ⟨eR0, eR1, eR2⟩ := row3 BXR.out
  obtain ⟨fR0, fR1, fR2⟩ := froz3 BXR.out
  go_wp2_with fail
  clear eR0 eR1 eR2 fR0 fR1 fR2
  refine ret_rat rfl w.heap.size _ _ _ rfl (put3_heap BXR.out) rfl ?_
  exact ⟨_, rfl, put3_below HB3.out (by omega) _ _ _, isR_put Q.out BXR.out⟩
end Go.Proofs.Ytaefimegiobkmaa
