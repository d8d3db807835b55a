/-
  NaturalRing: the walk of the statement.
  Conditions: none.
-/
import Derived.Test.YtdepoikifneggaaDoorNatLaw1
namespace Go.Proofs.YtdepoikifneggaaDoor
open Go.RowKit Go.ChangeShapes Go.WideShapes

theorem subC_add (m n : Nat) : subC (m + n) n = 0 := by unfold subC; rw [if_neg (by omega)]

set_option maxRecDepth 100000 in
set_option maxHeartbeats 8000000 in
theorem ring_walk (va vb vc : Value) (a b c : List Nat) (w : World) (ha : Num w va a) (hb : Num w vb b) (hc : Num w vc c) :
    Calls Tryd.prog 9 #[va, vb, vc] w (RetV w (.bool true)) := by
  obtain ⟨ao, ca, rfl, hca, hca2, _⟩ := ha.shape
  obtain ⟨bo, cb, rfl, hcb, hcb2, _⟩ := hb.shape
  obtain ⟨co, cc, rfl, hcc, hcc2, _⟩ := hc.shape
  have HA := Lib.hid ha
  have HB := Lib.hid hb
  have HC := Lib.hid hc
  clear ha hb hc
  by_cases hbig : (decide (40 < a.length) || decide (40 < b.length) || decide (40 < c.length)) = true
  · have HBIG := Lib.hid hbig; clear hbig
    go_enter Tryd.func9, Tryd.ntmps9
    go_wp2_with fail
    (with_reducible refine (awake_any _).mono ?_); rintro e w1 ⟨rfl, hb1⟩
    have hla := large3 (.slice ao a.length ca) (.slice bo b.length cb) (.slice co c.length cc) a b c w1 22 (HA.out.below hb1) (HB.out.below hb1) (HC.out.below hb1)
    rw [HBIG.out] at hla
    have HLA := Lib.hid hla; clear hla
    go_wp2_with fail
    (with_reducible refine HLA.out.mono ?_); rintro e w2 ⟨rfl, rfl⟩
    go_wp2_with fail
    (with_reducible refine (awake_any _).mono ?_); rintro e w3 ⟨rfl, hb3⟩
    go_wp2_with fail
    go_ret
    exact ⟨rfl, (hb1.alloc hb1.size _).trans (hb3.mono (by have := hb1.size; simp; omega))⟩
  · have hbf := Bool.eq_false_iff.2 hbig
    have hl : (a.length ≤ 40 ∧ b.length ≤ 40) ∧ c.length ≤ 40 := by simpa using hbf
    have HBIG := Lib.hid hbf; clear hbig hbf
    obtain ⟨⟨hla, hlb⟩, hlc⟩ := hl
    go_enter Tryd.func9, Tryd.ntmps9
    go_wp2_with fail
    (with_reducible refine (awake_any _).mono ?_); rintro e w1 ⟨rfl, hb1⟩
    have hla := large3 (.slice ao a.length ca) (.slice bo b.length cb) (.slice co c.length cc) a b c w1 22 (HA.out.below hb1) (HB.out.below hb1) (HC.out.below hb1)
    rw [HBIG.out] at hla
    have HLA := Lib.hid hla; clear hla
    go_wp2_with fail
    (with_reducible refine HLA.out.mono ?_); rintro e w2 ⟨rfl, rfl⟩
    have HB2 := Lib.hid (hb1.alloc hb1.size (.cells #[.slice ao a.length ca, .slice bo b.length cb, .slice co c.length cc] 22))
    obtain ⟨w2, hw2⟩ : ∃ w2, w2 = w1.alloc (.cells #[.slice ao a.length ca, .slice bo b.length cb, .slice co c.length cc] 22) := ⟨_, rfl⟩
    rw [← hw2] at HB2 ⊢
    clear hw2 hb1
    have hwa := wd_length_le HA.out.lt
    have hwb := wd_length_le HB.out.lt
    have hwc := wd_length_le HC.out.lt
    have LAB : Hid ((wd ((val a) + (val b))).length ≤ 41) := Lib.hid (by have h := wd_add_len (val a) (val b); have := hwa; have := hwb; omega)
    have hs := add_any _ _ _ _ w2 (HA.out.below HB2.out) (HB.out.below HB2.out) (by omega) (by omega)
    have HS := Lib.hid hs
    clear hs
    go_wp2_with fail
    (with_reducible refine HS.out.mono ?_); rintro e w3 ⟨v3, l3, rfl, hb3, hn3, hl3⟩
    rw [hl3] at hn3
    have HB3 := Lib.hid (HB2.out.trans (hb3.mono HB2.out.size))
    have AB := Lib.hid hn3
    clear hn3 hl3 hb3
    have LBC : Hid ((wd ((val b) + (val c))).length ≤ 41) := Lib.hid (by have h := wd_add_len (val b) (val c); have := hwb; have := hwc; omega)
    have hs := add_any _ _ _ _ w3 (HB.out.below HB3.out) (HC.out.below HB3.out) (by omega) (by omega)
    have HS := Lib.hid hs
    clear hs
    go_wp2_with fail
    (with_reducible refine HS.out.mono ?_); rintro e w4 ⟨v4, l4, rfl, hb4, hn4, hl4⟩
    rw [hl4] at hn4
    have HB4 := Lib.hid (HB3.out.trans (hb4.mono HB3.out.size))
    have AB := Lib.hid (AB.out.below hb4)
    have BC := Lib.hid hn4
    clear hn4 hl4 hb4
    have LD : Hid ((wd (val a)).length ≤ 40) := Lib.hid (by have := hwa; omega)
    have hs := sub_any _ _ _ _ w4 AB.out (HB.out.below HB4.out) (Nat.le_trans LAB.out (by decide)) (by omega)
    simp only [val_wd, Nat.add_sub_cancel, subC_add, errV_zero] at hs
    have HS := Lib.hid hs
    clear hs
    go_wp2_with fail
    (with_reducible refine HS.out.mono ?_); rintro e w5 ⟨v5, rfl, hb5, hn5⟩
    have HB5 := Lib.hid (HB4.out.trans (hb5.mono HB4.out.size))
    have AB := Lib.hid (AB.out.below hb5)
    have BC := Lib.hid (BC.out.below hb5)
    have D := Lib.hid hn5
    clear hn5 hb5
    have hs := cmp_any _ _ _ _ w5 D.out (HA.out.below HB5.out) (Nat.le_trans LD.out (by decide)) (by omega)
    simp only [val_wd] at hs; rw [cmpN_eq rfl] at hs
    have HS := Lib.hid hs
    clear hs
    go_wp2_with fail
    (with_reducible refine HS.out.mono ?_); rintro e w6 ⟨rfl, hb6⟩
    have HB6 := Lib.hid (HB5.out.trans (hb6.mono HB5.out.size))
    have AB := Lib.hid (AB.out.below hb6)
    have BC := Lib.hid (BC.out.below hb6)
    have D := Lib.hid (D.out.below hb6)
    clear hb6
    have hs := clean_any _ _ w6 AB.out
    have HS := Lib.hid hs
    clear hs
    go_wp2_with fail
    (with_reducible refine HS.out.mono ?_); rintro e w7 ⟨rfl, hb7⟩
    have HB7 := Lib.hid (HB6.out.trans (hb7.mono HB6.out.size))
    have AB := Lib.hid (AB.out.below hb7)
    have BC := Lib.hid (BC.out.below hb7)
    have D := Lib.hid (D.out.below hb7)
    clear hb7
    have hs := clean_any _ _ w7 D.out
    have HS := Lib.hid hs
    clear hs
    go_wp2_with fail
    (with_reducible refine HS.out.mono ?_); rintro e w8 ⟨rfl, hb8⟩
    have HB8 := Lib.hid (HB7.out.trans (hb8.mono HB7.out.size))
    have AB := Lib.hid (AB.out.below hb8)
    have BC := Lib.hid (BC.out.below hb8)
    have D := Lib.hid (D.out.below hb8)
    clear hb8
    have LBA : Hid ((wd ((val b) + (val a))).length ≤ 41) := Lib.hid (by have h := wd_add_len (val b) (val a); have := hwb; have := hwa; omega)
    have hs := add_any _ _ _ _ w8 (HB.out.below HB8.out) (HA.out.below HB8.out) (by omega) (by omega)
    have HS := Lib.hid hs
    clear hs
    go_wp2_with fail
    (with_reducible refine HS.out.mono ?_); rintro e w9 ⟨v9, l9, rfl, hb9, hn9, hl9⟩
    rw [hl9] at hn9
    have HB9 := Lib.hid (HB8.out.trans (hb9.mono HB8.out.size))
    have AB := Lib.hid (AB.out.below hb9)
    have BC := Lib.hid (BC.out.below hb9)
    have D := Lib.hid (D.out.below hb9)
    have BA := Lib.hid hn9
    clear hn9 hl9 hb9
    have hs := cmp_any _ _ _ _ w9 AB.out BA.out (Nat.le_trans LAB.out (by decide)) (Nat.le_trans LBA.out (by decide))
    simp only [val_wd] at hs; rw [cmpN_eq (Nat.add_comm _ _)] at hs
    have HS := Lib.hid hs
    clear hs
    go_wp2_with fail
    (with_reducible refine HS.out.mono ?_); rintro e w10 ⟨rfl, hb10⟩
    have HB10 := Lib.hid (HB9.out.trans (hb10.mono HB9.out.size))
    have AB := Lib.hid (AB.out.below hb10)
    have BC := Lib.hid (BC.out.below hb10)
    have D := Lib.hid (D.out.below hb10)
    have BA := Lib.hid (BA.out.below hb10)
    clear hb10
    have LABC : Hid ((wd (((val a) + (val b)) + (val c))).length ≤ 42) := Lib.hid (by have h := wd_add_len ((val a) + (val b)) (val c); have := LAB.out; have := hwc; omega)
    have hs := add_any _ _ _ _ w10 AB.out (HC.out.below HB10.out) (Nat.le_trans LAB.out (by decide)) (by omega)
    simp only [val_wd] at hs
    have HS := Lib.hid hs
    clear hs
    go_wp2_with fail
    (with_reducible refine HS.out.mono ?_); rintro e w11 ⟨v11, l11, rfl, hb11, hn11, hl11⟩
    rw [hl11] at hn11
    have HB11 := Lib.hid (HB10.out.trans (hb11.mono HB10.out.size))
    have AB := Lib.hid (AB.out.below hb11)
    have BC := Lib.hid (BC.out.below hb11)
    have D := Lib.hid (D.out.below hb11)
    have BA := Lib.hid (BA.out.below hb11)
    have ABC := Lib.hid hn11
    clear hn11 hl11 hb11
    have LABC2 : Hid ((wd ((val a) + ((val b) + (val c)))).length ≤ 42) := Lib.hid (by have h := wd_add_len (val a) ((val b) + (val c)); have := hwa; have := LBC.out; omega)
    have hs := add_any _ _ _ _ w11 (HA.out.below HB11.out) BC.out (by omega) (Nat.le_trans LBC.out (by decide))
    simp only [val_wd] at hs
    have HS := Lib.hid hs
    clear hs
    go_wp2_with fail
    (with_reducible refine HS.out.mono ?_); rintro e w12 ⟨v12, l12, rfl, hb12, hn12, hl12⟩
    rw [hl12] at hn12
    have HB12 := Lib.hid (HB11.out.trans (hb12.mono HB11.out.size))
    have AB := Lib.hid (AB.out.below hb12)
    have BC := Lib.hid (BC.out.below hb12)
    have D := Lib.hid (D.out.below hb12)
    have BA := Lib.hid (BA.out.below hb12)
    have ABC := Lib.hid (ABC.out.below hb12)
    have ABC2 := Lib.hid hn12
    clear hn12 hl12 hb12
    have hs := cmp_any _ _ _ _ w12 ABC.out ABC2.out (Nat.le_trans LABC.out (by decide)) (Nat.le_trans LABC2.out (by decide))
    simp only [val_wd] at hs; rw [cmpN_eq (Nat.add_assoc _ _ _)] at hs
    have HS := Lib.hid hs
    clear hs
    go_wp2_with fail
    (with_reducible refine HS.out.mono ?_); rintro e w13 ⟨rfl, hb13⟩
    have HB13 := Lib.hid (HB12.out.trans (hb13.mono HB12.out.size))
    have AB := Lib.hid (AB.out.below hb13)
    have BC := Lib.hid (BC.out.below hb13)
    have D := Lib.hid (D.out.below hb13)
    have BA := Lib.hid (BA.out.below hb13)
    have ABC := Lib.hid (ABC.out.below hb13)
    have ABC2 := Lib.hid (ABC2.out.below hb13)
    clear hb13
    have LP : Hid ((wd ((val a) * (val b))).length ≤ 80) := Lib.hid (by have h := wd_mul_len (val a) (val b); have := hwa; have := hwb; omega)
    have hs := mul_any _ _ _ _ w13 (HA.out.below HB13.out) (HB.out.below HB13.out) (by omega) (by omega)
    have HS := Lib.hid hs
    clear hs
    go_wp2_with fail
    (with_reducible refine HS.out.mono ?_); rintro e w14 ⟨v14, l14, rfl, hb14, hn14, hl14⟩
    rw [hl14] at hn14
    have HB14 := Lib.hid (HB13.out.trans (hb14.mono HB13.out.size))
    have AB := Lib.hid (AB.out.below hb14)
    have BC := Lib.hid (BC.out.below hb14)
    have D := Lib.hid (D.out.below hb14)
    have BA := Lib.hid (BA.out.below hb14)
    have ABC := Lib.hid (ABC.out.below hb14)
    have ABC2 := Lib.hid (ABC2.out.below hb14)
    have P := Lib.hid hn14
    clear hn14 hl14 hb14
    have hs := clean_any _ _ w14 P.out
    have HS := Lib.hid hs
    clear hs
    go_wp2_with fail
    (with_reducible refine HS.out.mono ?_); rintro e w15 ⟨rfl, hb15⟩
    have HB15 := Lib.hid (HB14.out.trans (hb15.mono HB14.out.size))
    have AB := Lib.hid (AB.out.below hb15)
    have BC := Lib.hid (BC.out.below hb15)
    have D := Lib.hid (D.out.below hb15)
    have BA := Lib.hid (BA.out.below hb15)
    have ABC := Lib.hid (ABC.out.below hb15)
    have ABC2 := Lib.hid (ABC2.out.below hb15)
    have P := Lib.hid (P.out.below hb15)
    clear hb15
    have LP2 : Hid ((wd ((val b) * (val a))).length ≤ 80) := Lib.hid (by have h := wd_mul_len (val b) (val a); have := hwb; have := hwa; omega)
    have hs := mul_any _ _ _ _ w15 (HB.out.below HB15.out) (HA.out.below HB15.out) (by omega) (by omega)
    have HS := Lib.hid hs
    clear hs
    go_wp2_with fail
    (with_reducible refine HS.out.mono ?_); rintro e w16 ⟨v16, l16, rfl, hb16, hn16, hl16⟩
    rw [hl16] at hn16
    have HB16 := Lib.hid (HB15.out.trans (hb16.mono HB15.out.size))
    have AB := Lib.hid (AB.out.below hb16)
    have BC := Lib.hid (BC.out.below hb16)
    have D := Lib.hid (D.out.below hb16)
    have BA := Lib.hid (BA.out.below hb16)
    have ABC := Lib.hid (ABC.out.below hb16)
    have ABC2 := Lib.hid (ABC2.out.below hb16)
    have P := Lib.hid (P.out.below hb16)
    have P2 := Lib.hid hn16
    clear hn16 hl16 hb16
    have hs := cmp_any _ _ _ _ w16 P.out P2.out (Nat.le_trans LP.out (by decide)) (Nat.le_trans LP2.out (by decide))
    simp only [val_wd] at hs; rw [cmpN_eq (Nat.mul_comm _ _)] at hs
    have HS := Lib.hid hs
    clear hs
    go_wp2_with fail
    (with_reducible refine HS.out.mono ?_); rintro e w17 ⟨rfl, hb17⟩
    have HB17 := Lib.hid (HB16.out.trans (hb17.mono HB16.out.size))
    have AB := Lib.hid (AB.out.below hb17)
    have BC := Lib.hid (BC.out.below hb17)
    have D := Lib.hid (D.out.below hb17)
    have BA := Lib.hid (BA.out.below hb17)
    have ABC := Lib.hid (ABC.out.below hb17)
    have ABC2 := Lib.hid (ABC2.out.below hb17)
    have P := Lib.hid (P.out.below hb17)
    have P2 := Lib.hid (P2.out.below hb17)
    clear hb17
    have LPC : Hid ((wd (((val a) * (val b)) * (val c))).length ≤ 120) := Lib.hid (by have h := wd_mul_len ((val a) * (val b)) (val c); have := LP.out; have := hwc; omega)
    have hs := mul_any _ _ _ _ w17 P.out (HC.out.below HB17.out) (Nat.le_trans LP.out (by decide)) (by omega)
    simp only [val_wd] at hs
    have HS := Lib.hid hs
    clear hs
    go_wp2_with fail
    (with_reducible refine HS.out.mono ?_); rintro e w18 ⟨v18, l18, rfl, hb18, hn18, hl18⟩
    rw [hl18] at hn18
    have HB18 := Lib.hid (HB17.out.trans (hb18.mono HB17.out.size))
    have AB := Lib.hid (AB.out.below hb18)
    have BC := Lib.hid (BC.out.below hb18)
    have D := Lib.hid (D.out.below hb18)
    have BA := Lib.hid (BA.out.below hb18)
    have ABC := Lib.hid (ABC.out.below hb18)
    have ABC2 := Lib.hid (ABC2.out.below hb18)
    have P := Lib.hid (P.out.below hb18)
    have P2 := Lib.hid (P2.out.below hb18)
    have PC := Lib.hid hn18
    clear hn18 hl18 hb18
    have LMBC : Hid ((wd ((val b) * (val c))).length ≤ 80) := Lib.hid (by have h := wd_mul_len (val b) (val c); have := hwb; have := hwc; omega)
    have hs := mul_any _ _ _ _ w18 (HB.out.below HB18.out) (HC.out.below HB18.out) (by omega) (by omega)
    have HS := Lib.hid hs
    clear hs
    go_wp2_with fail
    (with_reducible refine HS.out.mono ?_); rintro e w19 ⟨v19, l19, rfl, hb19, hn19, hl19⟩
    rw [hl19] at hn19
    have HB19 := Lib.hid (HB18.out.trans (hb19.mono HB18.out.size))
    have AB := Lib.hid (AB.out.below hb19)
    have BC := Lib.hid (BC.out.below hb19)
    have D := Lib.hid (D.out.below hb19)
    have BA := Lib.hid (BA.out.below hb19)
    have ABC := Lib.hid (ABC.out.below hb19)
    have ABC2 := Lib.hid (ABC2.out.below hb19)
    have P := Lib.hid (P.out.below hb19)
    have P2 := Lib.hid (P2.out.below hb19)
    have PC := Lib.hid (PC.out.below hb19)
    have MBC := Lib.hid hn19
    clear hn19 hl19 hb19
    have LAMBC : Hid ((wd ((val a) * ((val b) * (val c)))).length ≤ 120) := Lib.hid (by have h := wd_mul_len (val a) ((val b) * (val c)); have := hwa; have := LMBC.out; omega)
    have hs := mul_any _ _ _ _ w19 (HA.out.below HB19.out) MBC.out (by omega) (Nat.le_trans LMBC.out (by decide))
    simp only [val_wd] at hs
    have HS := Lib.hid hs
    clear hs
    go_wp2_with fail
    (with_reducible refine HS.out.mono ?_); rintro e w20 ⟨v20, l20, rfl, hb20, hn20, hl20⟩
    rw [hl20] at hn20
    have HB20 := Lib.hid (HB19.out.trans (hb20.mono HB19.out.size))
    have AB := Lib.hid (AB.out.below hb20)
    have BC := Lib.hid (BC.out.below hb20)
    have D := Lib.hid (D.out.below hb20)
    have BA := Lib.hid (BA.out.below hb20)
    have ABC := Lib.hid (ABC.out.below hb20)
    have ABC2 := Lib.hid (ABC2.out.below hb20)
    have P := Lib.hid (P.out.below hb20)
    have P2 := Lib.hid (P2.out.below hb20)
    have PC := Lib.hid (PC.out.below hb20)
    have MBC := Lib.hid (MBC.out.below hb20)
    have AMBC := Lib.hid hn20
    clear hn20 hl20 hb20
    have hs := cmp_any _ _ _ _ w20 PC.out AMBC.out (Nat.le_trans LPC.out (by decide)) (Nat.le_trans LAMBC.out (by decide))
    simp only [val_wd] at hs; rw [cmpN_eq (Nat.mul_assoc _ _ _)] at hs
    have HS := Lib.hid hs
    clear hs
    go_wp2_with fail
    (with_reducible refine HS.out.mono ?_); rintro e w21 ⟨rfl, hb21⟩
    have HB21 := Lib.hid (HB20.out.trans (hb21.mono HB20.out.size))
    have AB := Lib.hid (AB.out.below hb21)
    have BC := Lib.hid (BC.out.below hb21)
    have D := Lib.hid (D.out.below hb21)
    have BA := Lib.hid (BA.out.below hb21)
    have ABC := Lib.hid (ABC.out.below hb21)
    have ABC2 := Lib.hid (ABC2.out.below hb21)
    have P := Lib.hid (P.out.below hb21)
    have P2 := Lib.hid (P2.out.below hb21)
    have PC := Lib.hid (PC.out.below hb21)
    have MBC := Lib.hid (MBC.out.below hb21)
    have AMBC := Lib.hid (AMBC.out.below hb21)
    clear hb21
    have LABCm : Hid ((wd ((val a) * ((val b) + (val c)))).length ≤ 81) := Lib.hid (by have h := wd_mul_len (val a) ((val b) + (val c)); have := hwa; have := LBC.out; omega)
    have hs := mul_any _ _ _ _ w21 (HA.out.below HB21.out) BC.out (by omega) (Nat.le_trans LBC.out (by decide))
    simp only [val_wd] at hs
    have HS := Lib.hid hs
    clear hs
    go_wp2_with fail
    (with_reducible refine HS.out.mono ?_); rintro e w22 ⟨v22, l22, rfl, hb22, hn22, hl22⟩
    rw [hl22] at hn22
    have HB22 := Lib.hid (HB21.out.trans (hb22.mono HB21.out.size))
    have AB := Lib.hid (AB.out.below hb22)
    have BC := Lib.hid (BC.out.below hb22)
    have D := Lib.hid (D.out.below hb22)
    have BA := Lib.hid (BA.out.below hb22)
    have ABC := Lib.hid (ABC.out.below hb22)
    have ABC2 := Lib.hid (ABC2.out.below hb22)
    have P := Lib.hid (P.out.below hb22)
    have P2 := Lib.hid (P2.out.below hb22)
    have PC := Lib.hid (PC.out.below hb22)
    have MBC := Lib.hid (MBC.out.below hb22)
    have AMBC := Lib.hid (AMBC.out.below hb22)
    have ABCm := Lib.hid hn22
    clear hn22 hl22 hb22
    have LAC : Hid ((wd ((val a) * (val c))).length ≤ 80) := Lib.hid (by have h := wd_mul_len (val a) (val c); have := hwa; have := hwc; omega)
    have hs := mul_any _ _ _ _ w22 (HA.out.below HB22.out) (HC.out.below HB22.out) (by omega) (by omega)
    have HS := Lib.hid hs
    clear hs
    go_wp2_with fail
    (with_reducible refine HS.out.mono ?_); rintro e w23 ⟨v23, l23, rfl, hb23, hn23, hl23⟩
    rw [hl23] at hn23
    have HB23 := Lib.hid (HB22.out.trans (hb23.mono HB22.out.size))
    have AB := Lib.hid (AB.out.below hb23)
    have BC := Lib.hid (BC.out.below hb23)
    have D := Lib.hid (D.out.below hb23)
    have BA := Lib.hid (BA.out.below hb23)
    have ABC := Lib.hid (ABC.out.below hb23)
    have ABC2 := Lib.hid (ABC2.out.below hb23)
    have P := Lib.hid (P.out.below hb23)
    have P2 := Lib.hid (P2.out.below hb23)
    have PC := Lib.hid (PC.out.below hb23)
    have MBC := Lib.hid (MBC.out.below hb23)
    have AMBC := Lib.hid (AMBC.out.below hb23)
    have ABCm := Lib.hid (ABCm.out.below hb23)
    have AC := Lib.hid hn23
    clear hn23 hl23 hb23
    have LPAC : Hid ((wd (((val a) * (val b)) + ((val a) * (val c)))).length ≤ 81) := Lib.hid (by have h := wd_add_len ((val a) * (val b)) ((val a) * (val c)); have := LP.out; have := LAC.out; omega)
    have hs := add_any _ _ _ _ w23 P.out AC.out (Nat.le_trans LP.out (by decide)) (Nat.le_trans LAC.out (by decide))
    simp only [val_wd] at hs
    have HS := Lib.hid hs
    clear hs
    go_wp2_with fail
    (with_reducible refine HS.out.mono ?_); rintro e w24 ⟨v24, l24, rfl, hb24, hn24, hl24⟩
    rw [hl24] at hn24
    have HB24 := Lib.hid (HB23.out.trans (hb24.mono HB23.out.size))
    have AB := Lib.hid (AB.out.below hb24)
    have BC := Lib.hid (BC.out.below hb24)
    have D := Lib.hid (D.out.below hb24)
    have BA := Lib.hid (BA.out.below hb24)
    have ABC := Lib.hid (ABC.out.below hb24)
    have ABC2 := Lib.hid (ABC2.out.below hb24)
    have P := Lib.hid (P.out.below hb24)
    have P2 := Lib.hid (P2.out.below hb24)
    have PC := Lib.hid (PC.out.below hb24)
    have MBC := Lib.hid (MBC.out.below hb24)
    have AMBC := Lib.hid (AMBC.out.below hb24)
    have ABCm := Lib.hid (ABCm.out.below hb24)
    have AC := Lib.hid (AC.out.below hb24)
    have PAC := Lib.hid hn24
    clear hn24 hl24 hb24
    have hs := cmp_any _ _ _ _ w24 ABCm.out PAC.out (Nat.le_trans LABCm.out (by decide)) (Nat.le_trans LPAC.out (by decide))
    simp only [val_wd] at hs; rw [cmpN_eq (Nat.mul_add _ _ _)] at hs
    have HS := Lib.hid hs
    clear hs
    go_wp2_with fail
    (with_reducible refine HS.out.mono ?_); rintro e w25 ⟨rfl, hb25⟩
    have HB25 := Lib.hid (HB24.out.trans (hb25.mono HB24.out.size))
    have AB := Lib.hid (AB.out.below hb25)
    have BC := Lib.hid (BC.out.below hb25)
    have D := Lib.hid (D.out.below hb25)
    have BA := Lib.hid (BA.out.below hb25)
    have ABC := Lib.hid (ABC.out.below hb25)
    have ABC2 := Lib.hid (ABC2.out.below hb25)
    have P := Lib.hid (P.out.below hb25)
    have P2 := Lib.hid (P2.out.below hb25)
    have PC := Lib.hid (PC.out.below hb25)
    have MBC := Lib.hid (MBC.out.below hb25)
    have AMBC := Lib.hid (AMBC.out.below hb25)
    have ABCm := Lib.hid (ABCm.out.below hb25)
    have AC := Lib.hid (AC.out.below hb25)
    have PAC := Lib.hid (PAC.out.below hb25)
    clear hb25
    go_wp2_with fail
    go_ret
    exact ⟨by simp, HB25.out⟩
end Go.Proofs.YtdepoikifneggaaDoor
