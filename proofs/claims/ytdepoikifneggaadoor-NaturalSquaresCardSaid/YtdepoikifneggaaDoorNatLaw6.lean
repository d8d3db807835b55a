/-
  NaturalSquares: the walk of the statement.
  Conditions: none.
-/
import Derived.Test.YtdepoikifneggaaDoorNat17
import Derived.Test.YtdepoikifneggaaDoorNat18
import Derived.Test.YtdepoikifneggaaDoorNatLaw1
namespace Go.Proofs.YtdepoikifneggaaDoor
open Go.RowKit Go.ChangeShapes Go.WideShapes

theorem cmpN_ngt {m n : Nat} (h : m ≤ n) : decide (0 < cmpN m n) = false := by
  rcases Nat.lt_or_eq_of_le h with g | g
  · rw [cmpN_lt g]; rfl
  · rw [cmpN_eq g]; rfl
theorem pow2_len {m : Nat} (h : m ≤ 255) : (wd (2 ^ m)).length ≤ 8 := by
  apply wd_length_of_lt
  rw [show (4294967296 : Nat) = 2 ^ 32 from rfl, ← Nat.pow_mul]
  exact Nat.pow_lt_pow_right (by decide) (by omega)
theorem blen_two : blen 2 = 2 := by decide
theorem pow2C {m : Nat} (h : m ≤ 255) : powC 2 (m : Int) = 0 := by
  unfold powC
  rw [if_neg (by omega), Int.toNat_natCast, blen_two, wd_one (by decide) (by decide), if_neg (by simp; omega)]
theorem pow2V {m : Nat} (h : m ≤ 255) : powV 2 (m : Int) = 2 ^ m := by
  unfold powV; rw [if_pos (pow2C h), Int.toNat_natCast]
theorem shift2C {m : Nat} (h : m ≤ 255) : shiftC (m : Int) = 0 := by unfold shiftC; rw [if_neg (by omega)]
theorem shift2C' {m : Nat} (h : m ≤ 255) : shiftC (-(m : Int)) = 0 := by unfold shiftC; rw [if_neg (by omega)]
theorem shift2V {A m : Nat} (h : m ≤ 255) : shiftV A (m : Int) = A * 2 ^ m := by
  unfold shiftV; rw [if_neg (by omega), if_pos (by omega), Int.toNat_natCast]
theorem shift2V' {A m : Nat} (h : m ≤ 255) : shiftV A (-(m : Int)) = A / 2 ^ m := by
  unfold shiftV; rw [if_neg (by omega)]
  by_cases h0 : m = 0
  · subst h0; simp
  · rw [if_neg (by omega), Int.neg_neg, Int.toNat_natCast]

set_option maxRecDepth 100000 in
set_option maxHeartbeats 8000000 in
theorem squares_walk' (va : Value) (a : List Nat) (m : Nat) (w : World) (ha : Num w va a) (hm : m ≤ 255) :
    Calls Tryd.prog 13 #[va, .int .u8 (m : Int)] w (RetV w (.bool true)) := by
  obtain ⟨ao, ca, rfl, hca, hca2, _⟩ := ha.shape
  have HA := Lib.hid ha
  have HM := Lib.hid hm
  have hm1 : IntKind.i64.wrap (m : Int) = (m : Int) := wraps_i64 _ (by omega) (by omega)
  have hm2 : IntKind.i64.wrap (-(m : Int)) = -(m : Int) := by rw [IntKind.wrap_i64]; omega
  clear ha
  by_cases hbig : (decide (40 < a.length)) = true
  · have HBIG := Lib.hid hbig; clear hbig
    go_enter Tryd.func13, Tryd.ntmps13
    go_wp2_with fail
    (with_reducible refine (awake_any _).mono ?_); rintro e w1 ⟨rfl, hb1⟩
    have hla := large1 (.slice ao a.length ca) a w1 22 (HA.out.below hb1)
    rw [HBIG.out] at hla
    have HLA := Lib.hid hla; clear hla
    go_wp2_with fail
    (with_reducible refine HLA.out.mono ?_); rintro e w2 ⟨rfl, rfl⟩
    go_wp2_with fail
    (with_reducible refine (awake_any _).mono ?_); rintro e w3 ⟨rfl, hb3⟩
    go_wp2_with fail
    go_ret
    exact ⟨rfl, (hb1.alloc hb1.size _).trans (hb3.mono (by have := hb1.size; simp; omega))⟩
  · have hbf := Bool.eq_false_iff.2 hbig
    have hl : a.length ≤ 40 := by simpa using hbf
    have HBIG := Lib.hid hbf; clear hbig hbf
    obtain hla := hl
    go_enter Tryd.func13, Tryd.ntmps13
    go_wp2_with fail
    (with_reducible refine (awake_any _).mono ?_); rintro e w1 ⟨rfl, hb1⟩
    have hla := large1 (.slice ao a.length ca) a w1 22 (HA.out.below hb1)
    rw [HBIG.out] at hla
    have HLA := Lib.hid hla; clear hla
    go_wp2_with fail
    (with_reducible refine HLA.out.mono ?_); rintro e w2 ⟨rfl, rfl⟩
    have HB2 := Lib.hid (hb1.alloc hb1.size (.cells #[.slice ao a.length ca] 22))
    obtain ⟨w2, hw2⟩ : ∃ w2, w2 = w1.alloc (.cells #[.slice ao a.length ca] 22) := ⟨_, rfl⟩
    rw [← hw2] at HB2 ⊢
    clear hw2 hb1
    have hwa := wd_length_le HA.out.lt
    have hs := root_any _ _ w2 (HA.out.below HB2.out) (by omega)
    have HS := Lib.hid hs
    clear hs
    go_wp2_with fail
    (with_reducible refine HS.out.mono ?_); rintro e w3 ⟨v3, l3, rfl, hb3, hn3, s, hl3, hroot⟩
    rw [hl3] at hn3
    have HROOT := Lib.hid hroot; clear hroot
    have HB3 := Lib.hid (HB2.out.trans (hb3.mono HB2.out.size))
    have R := Lib.hid hn3
    clear hn3 hl3 hb3
    have LR : Hid ((wd (s)).length ≤ 40) := Lib.hid (by have h1 := HROOT.out.1; have h2 := Nat.le_mul_self s; have := hwa; have := wd_length_mono (Nat.le_trans h2 h1); omega)
    have LONE : Hid ((wd (1)).length ≤ 1) := Lib.hid (by rw [wd_one (by decide) (by decide)]; simp)
    have hs := of_any 1 w3 (by decide) (by decide)
    rw [show (1 : Int).toNat = 1 from rfl] at hs
    have HS := Lib.hid hs
    clear hs
    go_wp2_with fail
    (with_reducible refine HS.out.mono ?_); rintro e w4 ⟨v4, l4, rfl, hb4, hn4, hl4⟩
    rw [hl4] at hn4
    have HB4 := Lib.hid (HB3.out.trans (hb4.mono HB3.out.size))
    have R := Lib.hid (R.out.below hb4)
    have ONE := Lib.hid hn4
    clear hn4 hl4 hb4
    have LNX : Hid ((wd (s + 1)).length ≤ 41) := Lib.hid (by have h := wd_add_len (s) (1); have := LR.out; have := LONE.out; omega)
    have hs := add_any _ _ _ _ w4 R.out ONE.out (Nat.le_trans LR.out (by decide)) (Nat.le_trans LONE.out (by decide))
    simp only [val_wd] at hs
    have HS := Lib.hid hs
    clear hs
    go_wp2_with fail
    (with_reducible refine HS.out.mono ?_); rintro e w5 ⟨v5, l5, rfl, hb5, hn5, hl5⟩
    rw [hl5] at hn5
    have HB5 := Lib.hid (HB4.out.trans (hb5.mono HB4.out.size))
    have R := Lib.hid (R.out.below hb5)
    have ONE := Lib.hid (ONE.out.below hb5)
    have NX := Lib.hid hn5
    clear hn5 hl5 hb5
    have hs := clean_any _ _ w5 R.out
    have HS := Lib.hid hs
    clear hs
    go_wp2_with fail
    (with_reducible refine HS.out.mono ?_); rintro e w6 ⟨rfl, hb6⟩
    have HB6 := Lib.hid (HB5.out.trans (hb6.mono HB5.out.size))
    have R := Lib.hid (R.out.below hb6)
    have ONE := Lib.hid (ONE.out.below hb6)
    have NX := Lib.hid (NX.out.below hb6)
    clear hb6
    have LRR : Hid ((wd (s * s)).length ≤ 80) := Lib.hid (by have h := wd_mul_len (s) (s); have := LR.out; have := LR.out; omega)
    have hs := mul_any _ _ _ _ w6 R.out R.out (Nat.le_trans LR.out (by decide)) (Nat.le_trans LR.out (by decide))
    simp only [val_wd] at hs
    have HS := Lib.hid hs
    clear hs
    go_wp2_with fail
    (with_reducible refine HS.out.mono ?_); rintro e w7 ⟨v7, l7, rfl, hb7, hn7, hl7⟩
    rw [hl7] at hn7
    have HB7 := Lib.hid (HB6.out.trans (hb7.mono HB6.out.size))
    have R := Lib.hid (R.out.below hb7)
    have ONE := Lib.hid (ONE.out.below hb7)
    have NX := Lib.hid (NX.out.below hb7)
    have RR := Lib.hid hn7
    clear hn7 hl7 hb7
    have hs := cmp_any _ _ _ _ w7 RR.out (HA.out.below HB7.out) (Nat.le_trans LRR.out (by decide)) (by omega)
    simp only [val_wd] at hs
    obtain ⟨c1, hc1⟩ : ∃ c1, c1 = cmpN (s * s) (val a) := ⟨_, rfl⟩
    have hc1f : decide (0 < c1) = false := by rw [hc1]; exact cmpN_ngt HROOT.out.1
    rw [← hc1] at hs; clear hc1
    have HS := Lib.hid hs
    clear hs
    go_wp2_with fail
    (with_reducible refine HS.out.mono ?_); rintro e w8 ⟨rfl, hb8⟩
    have HB8 := Lib.hid (HB7.out.trans (hb8.mono HB7.out.size))
    have R := Lib.hid (R.out.below hb8)
    have ONE := Lib.hid (ONE.out.below hb8)
    have NX := Lib.hid (NX.out.below hb8)
    have RR := Lib.hid (RR.out.below hb8)
    clear hb8
    have LNN : Hid ((wd ((s + 1) * (s + 1))).length ≤ 82) := Lib.hid (by have h := wd_mul_len (s + 1) (s + 1); have := LNX.out; have := LNX.out; omega)
    have hs := mul_any _ _ _ _ w8 NX.out NX.out (Nat.le_trans LNX.out (by decide)) (Nat.le_trans LNX.out (by decide))
    simp only [val_wd] at hs
    have HS := Lib.hid hs
    clear hs
    go_wp2_with fail
    (with_reducible refine HS.out.mono ?_); rintro e w9 ⟨v9, l9, rfl, hb9, hn9, hl9⟩
    rw [hl9] at hn9
    have HB9 := Lib.hid (HB8.out.trans (hb9.mono HB8.out.size))
    have R := Lib.hid (R.out.below hb9)
    have ONE := Lib.hid (ONE.out.below hb9)
    have NX := Lib.hid (NX.out.below hb9)
    have RR := Lib.hid (RR.out.below hb9)
    have NN := Lib.hid hn9
    clear hn9 hl9 hb9
    have hs := cmp_any _ _ _ _ w9 NN.out (HA.out.below HB9.out) (Nat.le_trans LNN.out (by decide)) (by omega)
    simp only [val_wd] at hs; rw [cmpN_gt HROOT.out.2] at hs
    have HS := Lib.hid hs
    clear hs
    go_wp2_with fail
    (with_reducible refine HS.out.mono ?_); rintro e w10 ⟨rfl, hb10⟩
    have HB10 := Lib.hid (HB9.out.trans (hb10.mono HB9.out.size))
    have R := Lib.hid (R.out.below hb10)
    have ONE := Lib.hid (ONE.out.below hb10)
    have NX := Lib.hid (NX.out.below hb10)
    have RR := Lib.hid (RR.out.below hb10)
    have NN := Lib.hid (NN.out.below hb10)
    clear hb10
    have LTWO : Hid ((wd (2)).length ≤ 1) := Lib.hid (by rw [wd_one (by decide) (by decide)]; simp)
    have hs := of_any 2 w10 (by decide) (by decide)
    rw [show (2 : Int).toNat = 2 from rfl] at hs
    have HS := Lib.hid hs
    clear hs
    go_wp2_with fail
    (with_reducible refine HS.out.mono ?_); rintro e w11 ⟨v11, l11, rfl, hb11, hn11, hl11⟩
    rw [hl11] at hn11
    have HB11 := Lib.hid (HB10.out.trans (hb11.mono HB10.out.size))
    have R := Lib.hid (R.out.below hb11)
    have ONE := Lib.hid (ONE.out.below hb11)
    have NX := Lib.hid (NX.out.below hb11)
    have RR := Lib.hid (RR.out.below hb11)
    have NN := Lib.hid (NN.out.below hb11)
    have TWO := Lib.hid hn11
    clear hn11 hl11 hb11
    have LP : Hid ((wd (2 ^ m)).length ≤ 8) := Lib.hid (by exact pow2_len HM.out)
    have hs := power_any _ _ (m : Int) w11 TWO.out (Nat.le_trans LTWO.out (by decide))
    rw [val_wd, pow2C HM.out, pow2V HM.out, errV_zero] at hs
    have HS := Lib.hid hs
    clear hs
    go_wp2_with fail
    (with_reducible refine HS.out.mono ?_); rintro e w12 ⟨v12, rfl, hb12, hn12⟩
    have HB12 := Lib.hid (HB11.out.trans (hb12.mono HB11.out.size))
    have R := Lib.hid (R.out.below hb12)
    have ONE := Lib.hid (ONE.out.below hb12)
    have NX := Lib.hid (NX.out.below hb12)
    have RR := Lib.hid (RR.out.below hb12)
    have NN := Lib.hid (NN.out.below hb12)
    have TWO := Lib.hid (TWO.out.below hb12)
    have P := Lib.hid hn12
    clear hn12 hb12
    have LUP : Hid ((wd (val a * 2 ^ m)).length ≤ 48) := Lib.hid (by have h := wd_mul_len (val a) (2 ^ m); have := hwa; have := LP.out; omega)
    have hs := shift_any _ a (m : Int) w12 (HA.out.below HB12.out) (by omega)
    rw [shift2C HM.out, shift2V HM.out, errV_zero] at hs
    have HS := Lib.hid hs
    clear hs
    go_wp2_with fail
    (with_reducible refine HS.out.mono ?_); rintro e w13 ⟨v13, rfl, hb13, hn13⟩
    have HB13 := Lib.hid (HB12.out.trans (hb13.mono HB12.out.size))
    have R := Lib.hid (R.out.below hb13)
    have ONE := Lib.hid (ONE.out.below hb13)
    have NX := Lib.hid (NX.out.below hb13)
    have RR := Lib.hid (RR.out.below hb13)
    have NN := Lib.hid (NN.out.below hb13)
    have TWO := Lib.hid (TWO.out.below hb13)
    have P := Lib.hid (P.out.below hb13)
    have UP := Lib.hid hn13
    clear hn13 hb13
    have LDN : Hid ((wd (val a / 2 ^ m)).length ≤ 40) := Lib.hid (by have := hwa; have := wd_length_mono (Nat.div_le_self (val a) (2 ^ m)); omega)
    have hs := shift_any _ a (-(m : Int)) w13 (HA.out.below HB13.out) (by omega)
    rw [shift2C' HM.out, shift2V' HM.out, errV_zero] at hs
    have HS := Lib.hid hs
    clear hs
    go_wp2_with fail
    (with_reducible refine HS.out.mono ?_); rintro e w14 ⟨v14, rfl, hb14, hn14⟩
    have HB14 := Lib.hid (HB13.out.trans (hb14.mono HB13.out.size))
    have R := Lib.hid (R.out.below hb14)
    have ONE := Lib.hid (ONE.out.below hb14)
    have NX := Lib.hid (NX.out.below hb14)
    have RR := Lib.hid (RR.out.below hb14)
    have NN := Lib.hid (NN.out.below hb14)
    have TWO := Lib.hid (TWO.out.below hb14)
    have P := Lib.hid (P.out.below hb14)
    have UP := Lib.hid (UP.out.below hb14)
    have DN := Lib.hid hn14
    clear hn14 hb14
    have LQ : Hid ((wd (val a / 2 ^ m)).length ≤ 40) := Lib.hid (by exact LDN.out)
    have LREM : Hid ((wd (val a % 2 ^ m)).length ≤ 40) := Lib.hid (by have := hwa; have := wd_length_mono (Nat.mod_le (val a) (2 ^ m)); omega)
    have hs := div_any _ _ _ _ w14 (HA.out.below HB14.out) P.out (by omega) (Nat.le_trans LP.out (by decide)) (by rw [val_wd]; exact Nat.pos_iff_ne_zero.1 (Nat.pow_pos (by decide)))
    rw [val_wd, errV_zero] at hs
    have HS := Lib.hid hs
    clear hs
    go_wp2_with fail
    (with_reducible refine HS.out.mono ?_); rintro e w15 ⟨v15, u15, rfl, hb15, hn15, hm15⟩
    have HB15 := Lib.hid (HB14.out.trans (hb15.mono HB14.out.size))
    have R := Lib.hid (R.out.below hb15)
    have ONE := Lib.hid (ONE.out.below hb15)
    have NX := Lib.hid (NX.out.below hb15)
    have RR := Lib.hid (RR.out.below hb15)
    have NN := Lib.hid (NN.out.below hb15)
    have TWO := Lib.hid (TWO.out.below hb15)
    have P := Lib.hid (P.out.below hb15)
    have UP := Lib.hid (UP.out.below hb15)
    have DN := Lib.hid (DN.out.below hb15)
    have Q := Lib.hid hn15; have REM := Lib.hid hm15
    clear hn15 hm15 hb15
    have LAP : Hid ((wd ((val a) * (2 ^ m))).length ≤ 48) := Lib.hid (by have h := wd_mul_len (val a) (2 ^ m); have := hwa; have := LP.out; omega)
    have hs := mul_any _ _ _ _ w15 (HA.out.below HB15.out) P.out (by omega) (Nat.le_trans LP.out (by decide))
    simp only [val_wd] at hs
    have HS := Lib.hid hs
    clear hs
    go_wp2_with fail
    (with_reducible refine HS.out.mono ?_); rintro e w16 ⟨v16, l16, rfl, hb16, hn16, hl16⟩
    rw [hl16] at hn16
    have HB16 := Lib.hid (HB15.out.trans (hb16.mono HB15.out.size))
    have R := Lib.hid (R.out.below hb16)
    have ONE := Lib.hid (ONE.out.below hb16)
    have NX := Lib.hid (NX.out.below hb16)
    have RR := Lib.hid (RR.out.below hb16)
    have NN := Lib.hid (NN.out.below hb16)
    have TWO := Lib.hid (TWO.out.below hb16)
    have P := Lib.hid (P.out.below hb16)
    have UP := Lib.hid (UP.out.below hb16)
    have DN := Lib.hid (DN.out.below hb16)
    have Q := Lib.hid (Q.out.below hb16)
    have REM := Lib.hid (REM.out.below hb16)
    have AP := Lib.hid hn16
    clear hn16 hl16 hb16
    have hs := cmp_any _ _ _ _ w16 UP.out AP.out (Nat.le_trans LUP.out (by decide)) (Nat.le_trans LAP.out (by decide))
    simp only [val_wd] at hs; rw [cmpN_eq rfl] at hs
    have HS := Lib.hid hs
    clear hs
    go_wp2_with fail
    (with_reducible refine HS.out.mono ?_); rintro e w17 ⟨rfl, hb17⟩
    have HB17 := Lib.hid (HB16.out.trans (hb17.mono HB16.out.size))
    have R := Lib.hid (R.out.below hb17)
    have ONE := Lib.hid (ONE.out.below hb17)
    have NX := Lib.hid (NX.out.below hb17)
    have RR := Lib.hid (RR.out.below hb17)
    have NN := Lib.hid (NN.out.below hb17)
    have TWO := Lib.hid (TWO.out.below hb17)
    have P := Lib.hid (P.out.below hb17)
    have UP := Lib.hid (UP.out.below hb17)
    have DN := Lib.hid (DN.out.below hb17)
    have Q := Lib.hid (Q.out.below hb17)
    have REM := Lib.hid (REM.out.below hb17)
    have AP := Lib.hid (AP.out.below hb17)
    clear hb17
    have hs := cmp_any _ _ _ _ w17 DN.out Q.out (Nat.le_trans LDN.out (by decide)) (Nat.le_trans LQ.out (by decide))
    simp only [val_wd] at hs; rw [cmpN_eq rfl] at hs
    have HS := Lib.hid hs
    clear hs
    go_wp2_with fail
    (with_reducible refine HS.out.mono ?_); rintro e w18 ⟨rfl, hb18⟩
    have HB18 := Lib.hid (HB17.out.trans (hb18.mono HB17.out.size))
    have R := Lib.hid (R.out.below hb18)
    have ONE := Lib.hid (ONE.out.below hb18)
    have NX := Lib.hid (NX.out.below hb18)
    have RR := Lib.hid (RR.out.below hb18)
    have NN := Lib.hid (NN.out.below hb18)
    have TWO := Lib.hid (TWO.out.below hb18)
    have P := Lib.hid (P.out.below hb18)
    have UP := Lib.hid (UP.out.below hb18)
    have DN := Lib.hid (DN.out.below hb18)
    have Q := Lib.hid (Q.out.below hb18)
    have REM := Lib.hid (REM.out.below hb18)
    have AP := Lib.hid (AP.out.below hb18)
    clear hb18
    go_wp2_with fail
    go_ret
    exact ⟨by simp, HB18.out⟩

theorem squares_walk (va : Value) (a : List Nat) (n : Int) (w : World) (ha : Num w va a) (h0 : 0 ≤ n) (h1 : n ≤ 255) :
    Calls Tryd.prog 13 #[va, .int .u8 n] w (RetV w (.bool true)) := by
  obtain ⟨m, rfl⟩ := Int.eq_ofNat_of_zero_le h0
  exact squares_walk' va a m w ha (by omega)
end Go.Proofs.YtdepoikifneggaaDoor
