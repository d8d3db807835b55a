/-
  NaturalDivides, NaturalCommon: the walks of the statements.
  Conditions: none.
-/
import Derived.Test.YtdepoikifneggaaDoorNatLaw1
namespace Go.Proofs.YtdepoikifneggaaDoor
open Go.RowKit Go.ChangeShapes Go.WideShapes

theorem gcd_len (m n : Nat) : (wd (Nat.gcd m n)).length ≤ max (wd m).length (wd n).length := by
  rcases Nat.eq_zero_or_pos m with h | h
  · rw [h, Nat.gcd_zero_left]; omega
  · have := wd_length_mono (Nat.gcd_le_left n h); omega

set_option maxRecDepth 100000 in
set_option maxHeartbeats 8000000 in
theorem divides_walk (va vb : Value) (a b : List Nat) (w : World) (ha : Num w va a) (hb : Num w vb b) :
    Calls Tryd.prog 7 #[va, vb] w (RetV w (.bool true)) := by
  obtain ⟨ao, ca, rfl, hca, hca2, _⟩ := ha.shape
  obtain ⟨bo, cb, rfl, hcb, hcb2, _⟩ := hb.shape
  have HA := Lib.hid ha
  have HB := Lib.hid hb
  clear ha hb
  by_cases hbig : (decide (40 < a.length) || decide (40 < b.length)) = true
  · have HBIG := Lib.hid hbig; clear hbig
    go_enter Tryd.func7, Tryd.ntmps7
    go_wp2_with fail
    (with_reducible refine (awake_any _).mono ?_); rintro e w1 ⟨rfl, hb1⟩
    have hla := large2 (.slice ao a.length ca) (.slice bo b.length cb) a b w1 22 (HA.out.below hb1) (HB.out.below hb1)
    rw [HBIG.out] at hla
    have HLA := Lib.hid hla; clear hla
    go_wp2_with fail
    (with_reducible refine HLA.out.mono ?_); rintro e w2 ⟨rfl, rfl⟩
    go_wp2_with fail
    (with_reducible refine (awake_any _).mono ?_); rintro e w3 ⟨rfl, hb3⟩
    go_wp2_with fail
    go_ret
    exact ⟨rfl, (hb1.alloc hb1.size _).trans (hb3.mono (by have := hb1.size; simp; omega))⟩
  · have hbf := Bool.eq_false_iff.2 hbig
    have hl : a.length ≤ 40 ∧ b.length ≤ 40 := by simpa using hbf
    have HBIG := Lib.hid hbf; clear hbig hbf
    obtain ⟨hla, hlb⟩ := hl
    go_enter Tryd.func7, Tryd.ntmps7
    go_wp2_with fail
    (with_reducible refine (awake_any _).mono ?_); rintro e w1 ⟨rfl, hb1⟩
    have hla := large2 (.slice ao a.length ca) (.slice bo b.length cb) a b w1 22 (HA.out.below hb1) (HB.out.below hb1)
    rw [HBIG.out] at hla
    have HLA := Lib.hid hla; clear hla
    go_wp2_with fail
    (with_reducible refine HLA.out.mono ?_); rintro e w2 ⟨rfl, rfl⟩
    have HB2 := Lib.hid (hb1.alloc hb1.size (.cells #[.slice ao a.length ca, .slice bo b.length cb] 22))
    obtain ⟨w2, hw2⟩ : ∃ w2, w2 = w1.alloc (.cells #[.slice ao a.length ca, .slice bo b.length cb] 22) := ⟨_, rfl⟩
    rw [← hw2] at HB2 ⊢
    clear hw2 hb1
    have hwa := wd_length_le HA.out.lt
    have hwb := wd_length_le HB.out.lt
    by_cases hb0 : val b = 0
    · have HB0 := Lib.hid hb0; clear hb0
      have LQ : Hid ((wd (0)).length ≤ 0) := Lib.hid (by rw [wd_zero]; exact Nat.le_refl _)
      have LR : Hid ((wd (0)).length ≤ 0) := Lib.hid (by rw [wd_zero]; exact Nat.le_refl _)
      have hs := div_zero _ _ _ _ w2 (HA.out.below HB2.out) (HB.out.below HB2.out) (by omega) (by omega) HB0.out
      have HS := Lib.hid hs
      clear hs
      go_wp2_with fail
      (with_reducible refine HS.out.mono ?_); rintro e w3 ⟨v3, u3, rfl, hb3, hn3, hm3⟩
      rw [wd_zero] at hn3 hm3
      obtain ⟨qo, cq, rfl, _, _, _⟩ := hn3.shape
      obtain ⟨ro, cr, rfl, _, _, _⟩ := hm3.shape
      rw [List.length_nil] at hn3 hm3 ⊢
      have HB3 := Lib.hid (HB2.out.trans (hb3.mono HB2.out.size))
      have Q := Lib.hid hn3; have R := Lib.hid hm3
      clear hn3 hm3 hb3
      have hs := cmp_any _ _ _ _ w3 (HB.out.below HB3.out) (Num.nil _) (by omega) (by simp)
      rw [show val [] = 0 from rfl, HB0.out, cmpN_eq rfl] at hs
      have HS := Lib.hid hs
      clear hs
      go_wp2_with fail
      (with_reducible refine HS.out.mono ?_); rintro e w4 ⟨rfl, hb4⟩
      have HB4 := Lib.hid (HB3.out.trans (hb4.mono HB3.out.size))
      have Q := Lib.hid (Q.out.below hb4)
      have R := Lib.hid (R.out.below hb4)
      clear hb4
      have hs := is_any 8 8 8 w4 rfl (by decide)
      rw [decide_eq_true rfl] at hs
      have HS := Lib.hid hs
      clear hs
      go_wp2_with fail
      (with_reducible refine HS.out.mono ?_); rintro e wx ⟨rfl, rfl⟩
      go_wp2_with fail
      go_ret
      exact ⟨by simp, HB4.out⟩
    · have HB0 := Lib.hid hb0; clear hb0
      have LQ : Hid ((wd (val a / val b)).length ≤ 40) := Lib.hid (by have := hwa; have := wd_length_mono (Nat.div_le_self (val a) (val b)); omega)
      have LR : Hid ((wd (val a % val b)).length ≤ 40) := Lib.hid (by have := hwa; have := wd_length_mono (Nat.mod_le (val a) (val b)); omega)
      have hs := div_any _ _ _ _ w2 (HA.out.below HB2.out) (HB.out.below HB2.out) (by omega) (by omega) HB0.out
      rw [errV_zero] at hs
      have HS := Lib.hid hs
      clear hs
      go_wp2_with fail
      (with_reducible refine HS.out.mono ?_); rintro e w3 ⟨v3, u3, rfl, hb3, hn3, hm3⟩
      have HB3 := Lib.hid (HB2.out.trans (hb3.mono HB2.out.size))
      have Q := Lib.hid hn3; have R := Lib.hid hm3
      clear hn3 hm3 hb3
      have hs := cmp_any _ _ _ _ w3 (HB.out.below HB3.out) (Num.nil _) (by omega) (by simp)
      rw [show val [] = 0 from rfl, cmpN_gt (Nat.pos_of_ne_zero HB0.out)] at hs
      have HS := Lib.hid hs
      clear hs
      go_wp2_with fail
      (with_reducible refine HS.out.mono ?_); rintro e w4 ⟨rfl, hb4⟩
      have HB4 := Lib.hid (HB3.out.trans (hb4.mono HB3.out.size))
      have Q := Lib.hid (Q.out.below hb4)
      have R := Lib.hid (R.out.below hb4)
      clear hb4
      have hs := clean_any _ _ w4 Q.out
      have HS := Lib.hid hs
      clear hs
      go_wp2_with fail
      (with_reducible refine HS.out.mono ?_); rintro e w5 ⟨rfl, hb5⟩
      have HB5 := Lib.hid (HB4.out.trans (hb5.mono HB4.out.size))
      have Q := Lib.hid (Q.out.below hb5)
      have R := Lib.hid (R.out.below hb5)
      clear hb5
      have hs := clean_any _ _ w5 R.out
      have HS := Lib.hid hs
      clear hs
      go_wp2_with fail
      (with_reducible refine HS.out.mono ?_); rintro e w6 ⟨rfl, hb6⟩
      have HB6 := Lib.hid (HB5.out.trans (hb6.mono HB5.out.size))
      have Q := Lib.hid (Q.out.below hb6)
      have R := Lib.hid (R.out.below hb6)
      clear hb6
      have hs := cmp_any _ _ _ _ w6 R.out (HB.out.below HB6.out) (Nat.le_trans LR.out (by decide)) (by omega)
      simp only [val_wd] at hs; rw [cmpN_lt (Nat.mod_lt _ (Nat.pos_of_ne_zero HB0.out))] at hs
      have HS := Lib.hid hs
      clear hs
      go_wp2_with fail
      (with_reducible refine HS.out.mono ?_); rintro e w7 ⟨rfl, hb7⟩
      have HB7 := Lib.hid (HB6.out.trans (hb7.mono HB6.out.size))
      have Q := Lib.hid (Q.out.below hb7)
      have R := Lib.hid (R.out.below hb7)
      clear hb7
      have LQB : Hid ((wd ((val a / val b) * (val b))).length ≤ 80) := Lib.hid (by have h := wd_mul_len (val a / val b) (val b); have := LQ.out; have := hwb; omega)
      have hs := mul_any _ _ _ _ w7 Q.out (HB.out.below HB7.out) (Nat.le_trans LQ.out (by decide)) (by omega)
      simp only [val_wd] at hs
      have HS := Lib.hid hs
      clear hs
      go_wp2_with fail
      (with_reducible refine HS.out.mono ?_); rintro e w8 ⟨v8, l8, rfl, hb8, hn8, hl8⟩
      rw [hl8] at hn8
      have HB8 := Lib.hid (HB7.out.trans (hb8.mono HB7.out.size))
      have Q := Lib.hid (Q.out.below hb8)
      have R := Lib.hid (R.out.below hb8)
      have QB := Lib.hid hn8
      clear hn8 hl8 hb8
      have LS : Hid ((wd (((val a / val b) * (val b)) + (val a % val b))).length ≤ 81) := Lib.hid (by have h := wd_add_len ((val a / val b) * (val b)) (val a % val b); have := LQB.out; have := LR.out; omega)
      have hs := add_any _ _ _ _ w8 QB.out R.out (Nat.le_trans LQB.out (by decide)) (Nat.le_trans LR.out (by decide))
      simp only [val_wd] at hs
      have HS := Lib.hid hs
      clear hs
      go_wp2_with fail
      (with_reducible refine HS.out.mono ?_); rintro e w9 ⟨v9, l9, rfl, hb9, hn9, hl9⟩
      rw [hl9] at hn9
      have HB9 := Lib.hid (HB8.out.trans (hb9.mono HB8.out.size))
      have Q := Lib.hid (Q.out.below hb9)
      have R := Lib.hid (R.out.below hb9)
      have QB := Lib.hid (QB.out.below hb9)
      have S := Lib.hid hn9
      clear hn9 hl9 hb9
      have hs := cmp_any _ _ _ _ w9 S.out (HA.out.below HB9.out) (Nat.le_trans LS.out (by decide)) (by omega)
      simp only [val_wd] at hs; rw [cmpN_eq (by rw [Nat.mul_comm]; exact Nat.div_add_mod _ _)] at hs
      have HS := Lib.hid hs
      clear hs
      go_wp2_with fail
      (with_reducible refine HS.out.mono ?_); rintro e w10 ⟨rfl, hb10⟩
      have HB10 := Lib.hid (HB9.out.trans (hb10.mono HB9.out.size))
      have Q := Lib.hid (Q.out.below hb10)
      have R := Lib.hid (R.out.below hb10)
      have QB := Lib.hid (QB.out.below hb10)
      have S := Lib.hid (S.out.below hb10)
      clear hb10
      go_wp2_with fail
      go_ret
      exact ⟨by simp, HB10.out⟩
set_option maxRecDepth 100000 in
set_option maxHeartbeats 8000000 in
theorem common_walk (va vb vc : Value) (a b c : List Nat) (w : World) (ha : Num w va a) (hb : Num w vb b) (hc : Num w vc c) :
    Calls Tryd.prog 8 #[va, vb, vc] w (RetV w (.bool true)) := by
  obtain ⟨ao, ca, rfl, hca, hca2, _⟩ := ha.shape
  obtain ⟨bo, cb, rfl, hcb, hcb2, _⟩ := hb.shape
  obtain ⟨co, cc, rfl, hcc, hcc2, _⟩ := hc.shape
  have HA := Lib.hid ha
  have HB := Lib.hid hb
  have HC := Lib.hid hc
  clear ha hb hc
  by_cases hbig : (decide (40 < a.length) || decide (40 < b.length) || decide (40 < c.length)) = true
  · have HBIG := Lib.hid hbig; clear hbig
    go_enter Tryd.func8, Tryd.ntmps8
    go_wp2_with fail
    (with_reducible refine (awake_any _).mono ?_); rintro e w1 ⟨rfl, hb1⟩
    have hla := large3 (.slice ao a.length ca) (.slice bo b.length cb) (.slice co c.length cc) a b c w1 22 (HA.out.below hb1) (HB.out.below hb1) (HC.out.below hb1)
    rw [HBIG.out] at hla
    have HLA := Lib.hid hla; clear hla
    go_wp2_with fail
    (with_reducible refine HLA.out.mono ?_); rintro e w2 ⟨rfl, rfl⟩
    go_wp2_with fail
    (with_reducible refine (awake_any _).mono ?_); rintro e w3 ⟨rfl, hb3⟩
    go_wp2_with fail
    go_ret
    exact ⟨rfl, (hb1.alloc hb1.size _).trans (hb3.mono (by have := hb1.size; simp; omega))⟩
  · have hbf := Bool.eq_false_iff.2 hbig
    have hl : (a.length ≤ 40 ∧ b.length ≤ 40) ∧ c.length ≤ 40 := by simpa using hbf
    have HBIG := Lib.hid hbf; clear hbig hbf
    obtain ⟨⟨hla, hlb⟩, hlc⟩ := hl
    go_enter Tryd.func8, Tryd.ntmps8
    go_wp2_with fail
    (with_reducible refine (awake_any _).mono ?_); rintro e w1 ⟨rfl, hb1⟩
    have hla := large3 (.slice ao a.length ca) (.slice bo b.length cb) (.slice co c.length cc) a b c w1 22 (HA.out.below hb1) (HB.out.below hb1) (HC.out.below hb1)
    rw [HBIG.out] at hla
    have HLA := Lib.hid hla; clear hla
    go_wp2_with fail
    (with_reducible refine HLA.out.mono ?_); rintro e w2 ⟨rfl, rfl⟩
    have HB2 := Lib.hid (hb1.alloc hb1.size (.cells #[.slice ao a.length ca, .slice bo b.length cb, .slice co c.length cc] 22))
    obtain ⟨w2, hw2⟩ : ∃ w2, w2 = w1.alloc (.cells #[.slice ao a.length ca, .slice bo b.length cb, .slice co c.length cc] 22) := ⟨_, rfl⟩
    rw [← hw2] at HB2 ⊢
    clear hw2 hb1
    have hwa := wd_length_le HA.out.lt
    have hwb := wd_length_le HB.out.lt
    have hwc := wd_length_le HC.out.lt
    by_cases h0 : val a = 0
    · have H0 := Lib.hid h0; clear h0
      have LG : Hid ((wd (Nat.gcd (val a) (val b))).length ≤ 40) := Lib.hid (by have := hwa; have := hwb; have := gcd_len (val a) (val b); omega)
      have hs := gcd_any _ _ _ _ w2 (HA.out.below HB2.out) (HB.out.below HB2.out) (by omega) (by omega)
      have HS := Lib.hid hs
      clear hs
      go_wp2_with fail
      (with_reducible refine HS.out.mono ?_); rintro e w3 ⟨v3, l3, rfl, hb3, hn3, hl3⟩
      rw [hl3] at hn3
      have HB3 := Lib.hid (HB2.out.trans (hb3.mono HB2.out.size))
      have G := Lib.hid hn3
      clear hn3 hl3 hb3
      have hs := cmp_any _ _ _ _ w3 (HA.out.below HB3.out) (Num.nil _) (by omega) (by simp)
      rw [show val [] = 0 from rfl, cmpN_eq H0.out] at hs
      have HS := Lib.hid hs
      clear hs
      go_wp2_with fail
      (with_reducible refine HS.out.mono ?_); rintro e w4 ⟨rfl, hb4⟩
      have HB4 := Lib.hid (HB3.out.trans (hb4.mono HB3.out.size))
      have G := Lib.hid (G.out.below hb4)
      clear hb4
      have LAB : Hid ((wd ((val a) + (val b))).length ≤ 41) := Lib.hid (by have h := wd_add_len (val a) (val b); have := hwa; have := hwb; omega)
      have hs := add_any _ _ _ _ w4 (HA.out.below HB4.out) (HB.out.below HB4.out) (by omega) (by omega)
      have HS := Lib.hid hs
      clear hs
      go_wp2_with fail
      (with_reducible refine HS.out.mono ?_); rintro e w5 ⟨v5, l5, rfl, hb5, hn5, hl5⟩
      rw [hl5] at hn5
      have HB5 := Lib.hid (HB4.out.trans (hb5.mono HB4.out.size))
      have G := Lib.hid (G.out.below hb5)
      have AB := Lib.hid hn5
      clear hn5 hl5 hb5
      have hs := cmp_any _ _ _ _ w5 G.out AB.out (Nat.le_trans LG.out (by decide)) (Nat.le_trans LAB.out (by decide))
      simp only [val_wd] at hs; rw [cmpN_eq (by rw [H0.out]; simp)] at hs
      have HS := Lib.hid hs
      clear hs
      go_wp2_with fail
      (with_reducible refine HS.out.mono ?_); rintro e w6 ⟨rfl, hb6⟩
      have HB6 := Lib.hid (HB5.out.trans (hb6.mono HB5.out.size))
      have G := Lib.hid (G.out.below hb6)
      have AB := Lib.hid (AB.out.below hb6)
      clear hb6
      go_wp2_with fail
      go_ret
      exact ⟨by simp, HB6.out⟩
    · by_cases h1 : val b = 0
      · have H0 := Lib.hid h0; clear h0
        have H1 := Lib.hid h1; clear h1
        have LG : Hid ((wd (Nat.gcd (val a) (val b))).length ≤ 40) := Lib.hid (by have := hwa; have := hwb; have := gcd_len (val a) (val b); omega)
        have hs := gcd_any _ _ _ _ w2 (HA.out.below HB2.out) (HB.out.below HB2.out) (by omega) (by omega)
        have HS := Lib.hid hs
        clear hs
        go_wp2_with fail
        (with_reducible refine HS.out.mono ?_); rintro e w3 ⟨v3, l3, rfl, hb3, hn3, hl3⟩
        rw [hl3] at hn3
        have HB3 := Lib.hid (HB2.out.trans (hb3.mono HB2.out.size))
        have G := Lib.hid hn3
        clear hn3 hl3 hb3
        have hs := cmp_any _ _ _ _ w3 (HA.out.below HB3.out) (Num.nil _) (by omega) (by simp)
        rw [show val [] = 0 from rfl, cmpN_gt (Nat.pos_of_ne_zero H0.out)] at hs
        have HS := Lib.hid hs
        clear hs
        go_wp2_with fail
        (with_reducible refine HS.out.mono ?_); rintro e w4 ⟨rfl, hb4⟩
        have HB4 := Lib.hid (HB3.out.trans (hb4.mono HB3.out.size))
        have G := Lib.hid (G.out.below hb4)
        clear hb4
        have hs := cmp_any _ _ _ _ w4 (HB.out.below HB4.out) (Num.nil _) (by omega) (by simp)
        rw [show val [] = 0 from rfl, cmpN_eq H1.out] at hs
        have HS := Lib.hid hs
        clear hs
        go_wp2_with fail
        (with_reducible refine HS.out.mono ?_); rintro e w5 ⟨rfl, hb5⟩
        have HB5 := Lib.hid (HB4.out.trans (hb5.mono HB4.out.size))
        have G := Lib.hid (G.out.below hb5)
        clear hb5
        have LAB : Hid ((wd ((val a) + (val b))).length ≤ 41) := Lib.hid (by have h := wd_add_len (val a) (val b); have := hwa; have := hwb; omega)
        have hs := add_any _ _ _ _ w5 (HA.out.below HB5.out) (HB.out.below HB5.out) (by omega) (by omega)
        have HS := Lib.hid hs
        clear hs
        go_wp2_with fail
        (with_reducible refine HS.out.mono ?_); rintro e w6 ⟨v6, l6, rfl, hb6, hn6, hl6⟩
        rw [hl6] at hn6
        have HB6 := Lib.hid (HB5.out.trans (hb6.mono HB5.out.size))
        have G := Lib.hid (G.out.below hb6)
        have AB := Lib.hid hn6
        clear hn6 hl6 hb6
        have hs := cmp_any _ _ _ _ w6 G.out AB.out (Nat.le_trans LG.out (by decide)) (Nat.le_trans LAB.out (by decide))
        simp only [val_wd] at hs; rw [cmpN_eq (by rw [H1.out]; simp)] at hs
        have HS := Lib.hid hs
        clear hs
        go_wp2_with fail
        (with_reducible refine HS.out.mono ?_); rintro e w7 ⟨rfl, hb7⟩
        have HB7 := Lib.hid (HB6.out.trans (hb7.mono HB6.out.size))
        have G := Lib.hid (G.out.below hb7)
        have AB := Lib.hid (AB.out.below hb7)
        clear hb7
        go_wp2_with fail
        go_ret
        exact ⟨by simp, HB7.out⟩
      · have H0 := Lib.hid h0; clear h0
        have H1 := Lib.hid h1; clear h1
        have LG : Hid ((wd (Nat.gcd (val a) (val b))).length ≤ 40) := Lib.hid (by have := hwa; have := hwb; have := gcd_len (val a) (val b); omega)
        have hs := gcd_any _ _ _ _ w2 (HA.out.below HB2.out) (HB.out.below HB2.out) (by omega) (by omega)
        have HS := Lib.hid hs
        clear hs
        go_wp2_with fail
        (with_reducible refine HS.out.mono ?_); rintro e w3 ⟨v3, l3, rfl, hb3, hn3, hl3⟩
        rw [hl3] at hn3
        have HB3 := Lib.hid (HB2.out.trans (hb3.mono HB2.out.size))
        have G := Lib.hid hn3
        clear hn3 hl3 hb3
        have hs := cmp_any _ _ _ _ w3 (HA.out.below HB3.out) (Num.nil _) (by omega) (by simp)
        rw [show val [] = 0 from rfl, cmpN_gt (Nat.pos_of_ne_zero H0.out)] at hs
        have HS := Lib.hid hs
        clear hs
        go_wp2_with fail
        (with_reducible refine HS.out.mono ?_); rintro e w4 ⟨rfl, hb4⟩
        have HB4 := Lib.hid (HB3.out.trans (hb4.mono HB3.out.size))
        have G := Lib.hid (G.out.below hb4)
        clear hb4
        have hs := cmp_any _ _ _ _ w4 (HB.out.below HB4.out) (Num.nil _) (by omega) (by simp)
        rw [show val [] = 0 from rfl, cmpN_gt (Nat.pos_of_ne_zero H1.out)] at hs
        have HS := Lib.hid hs
        clear hs
        go_wp2_with fail
        (with_reducible refine HS.out.mono ?_); rintro e w5 ⟨rfl, hb5⟩
        have HB5 := Lib.hid (HB4.out.trans (hb5.mono HB4.out.size))
        have G := Lib.hid (G.out.below hb5)
        clear hb5
        have hg0 : Nat.gcd (val a) (val b) ≠ 0 := fun h => H0.out (Nat.eq_zero_of_gcd_eq_zero_left h)
        have HG0 := Lib.hid hg0; clear hg0
        have LX : Hid ((wd (val a / Nat.gcd (val a) (val b))).length ≤ 40) := Lib.hid (by have := hwa; have := wd_length_mono (Nat.div_le_self (val a) (Nat.gcd (val a) (val b))); omega)
        have LR0 : Hid ((wd (0)).length ≤ 0) := Lib.hid (by rw [wd_zero]; exact Nat.le_refl _)
        have hs := div_any _ _ _ _ w5 (HA.out.below HB5.out) G.out (by omega) (Nat.le_trans LG.out (by decide)) (by rw [val_wd]; exact HG0.out)
        rw [val_wd, Nat.mod_eq_zero_of_dvd (Nat.gcd_dvd_left _ _), errV_zero] at hs
        have HS := Lib.hid hs
        clear hs
        go_wp2_with fail
        (with_reducible refine HS.out.mono ?_); rintro e w6 ⟨v6, u6, rfl, hb6, hn6, hm6⟩
        rw [wd_zero] at hm6
        obtain ⟨ro, cr2, rfl, _, _, _⟩ := hm6.shape
        rw [List.length_nil] at hm6 ⊢
        have HB6 := Lib.hid (HB5.out.trans (hb6.mono HB5.out.size))
        have G := Lib.hid (G.out.below hb6)
        have X := Lib.hid hn6; have R0 := Lib.hid hm6
        clear hn6 hm6 hb6
        have LY : Hid ((wd (val b / Nat.gcd (val a) (val b))).length ≤ 40) := Lib.hid (by have := hwb; have := wd_length_mono (Nat.div_le_self (val b) (Nat.gcd (val a) (val b))); omega)
        have LS0 : Hid ((wd (0)).length ≤ 0) := Lib.hid (by rw [wd_zero]; exact Nat.le_refl _)
        have hs := div_any _ _ _ _ w6 (HB.out.below HB6.out) G.out (by omega) (Nat.le_trans LG.out (by decide)) (by rw [val_wd]; exact HG0.out)
        rw [val_wd, Nat.mod_eq_zero_of_dvd (Nat.gcd_dvd_right _ _), errV_zero] at hs
        have HS := Lib.hid hs
        clear hs
        go_wp2_with fail
        (with_reducible refine HS.out.mono ?_); rintro e w7 ⟨v7, u7, rfl, hb7, hn7, hm7⟩
        rw [wd_zero] at hm7
        obtain ⟨so, cs2, rfl, _, _, _⟩ := hm7.shape
        rw [List.length_nil] at hm7 ⊢
        have HB7 := Lib.hid (HB6.out.trans (hb7.mono HB6.out.size))
        have G := Lib.hid (G.out.below hb7)
        have X := Lib.hid (X.out.below hb7)
        have Y := Lib.hid hn7; have S0 := Lib.hid hm7
        clear hn7 hm7 hb7
        have LGXY : Hid ((wd (1)).length ≤ 1) := Lib.hid (by rw [wd_one (by decide) (by decide)]; simp)
        have hs := gcd_any _ _ _ _ w7 X.out Y.out (Nat.le_trans LX.out (by decide)) (Nat.le_trans LY.out (by decide))
        simp only [val_wd] at hs; rw [Nat.gcd_div (Nat.gcd_dvd_left _ _) (Nat.gcd_dvd_right _ _), Nat.div_self (Nat.pos_of_ne_zero HG0.out)] at hs
        have HS := Lib.hid hs
        clear hs
        go_wp2_with fail
        (with_reducible refine HS.out.mono ?_); rintro e w8 ⟨v8, l8, rfl, hb8, hn8, hl8⟩
        rw [hl8] at hn8
        have HB8 := Lib.hid (HB7.out.trans (hb8.mono HB7.out.size))
        have G := Lib.hid (G.out.below hb8)
        have X := Lib.hid (X.out.below hb8)
        have Y := Lib.hid (Y.out.below hb8)
        have GXY := Lib.hid hn8
        clear hn8 hl8 hb8
        have LONE : Hid ((wd (1)).length ≤ 1) := Lib.hid (by rw [wd_one (by decide) (by decide)]; simp)
        have hs := of_any 1 w8 (by decide) (by decide)
        rw [show (1 : Int).toNat = 1 from rfl] at hs
        have HS := Lib.hid hs
        clear hs
        go_wp2_with fail
        (with_reducible refine HS.out.mono ?_); rintro e w9 ⟨v9, l9, rfl, hb9, hn9, hl9⟩
        rw [hl9] at hn9
        have HB9 := Lib.hid (HB8.out.trans (hb9.mono HB8.out.size))
        have G := Lib.hid (G.out.below hb9)
        have X := Lib.hid (X.out.below hb9)
        have Y := Lib.hid (Y.out.below hb9)
        have GXY := Lib.hid (GXY.out.below hb9)
        have ONE := Lib.hid hn9
        clear hn9 hl9 hb9
        have hs := cmp_any _ _ _ _ w9 GXY.out ONE.out (Nat.le_trans LGXY.out (by decide)) (Nat.le_trans LONE.out (by decide))
        simp only [val_wd] at hs; rw [cmpN_eq rfl] at hs
        have HS := Lib.hid hs
        clear hs
        go_wp2_with fail
        (with_reducible refine HS.out.mono ?_); rintro e w10 ⟨rfl, hb10⟩
        have HB10 := Lib.hid (HB9.out.trans (hb10.mono HB9.out.size))
        have G := Lib.hid (G.out.below hb10)
        have X := Lib.hid (X.out.below hb10)
        have Y := Lib.hid (Y.out.below hb10)
        have GXY := Lib.hid (GXY.out.below hb10)
        have ONE := Lib.hid (ONE.out.below hb10)
        clear hb10
        have LAC : Hid ((wd ((val a) * (val c))).length ≤ 80) := Lib.hid (by have h := wd_mul_len (val a) (val c); have := hwa; have := hwc; omega)
        have hs := mul_any _ _ _ _ w10 (HA.out.below HB10.out) (HC.out.below HB10.out) (by omega) (by omega)
        have HS := Lib.hid hs
        clear hs
        go_wp2_with fail
        (with_reducible refine HS.out.mono ?_); rintro e w11 ⟨v11, l11, rfl, hb11, hn11, hl11⟩
        rw [hl11] at hn11
        have HB11 := Lib.hid (HB10.out.trans (hb11.mono HB10.out.size))
        have G := Lib.hid (G.out.below hb11)
        have X := Lib.hid (X.out.below hb11)
        have Y := Lib.hid (Y.out.below hb11)
        have GXY := Lib.hid (GXY.out.below hb11)
        have ONE := Lib.hid (ONE.out.below hb11)
        have AC := Lib.hid hn11
        clear hn11 hl11 hb11
        have LBC : Hid ((wd ((val b) * (val c))).length ≤ 80) := Lib.hid (by have h := wd_mul_len (val b) (val c); have := hwb; have := hwc; omega)
        have hs := mul_any _ _ _ _ w11 (HB.out.below HB11.out) (HC.out.below HB11.out) (by omega) (by omega)
        have HS := Lib.hid hs
        clear hs
        go_wp2_with fail
        (with_reducible refine HS.out.mono ?_); rintro e w12 ⟨v12, l12, rfl, hb12, hn12, hl12⟩
        rw [hl12] at hn12
        have HB12 := Lib.hid (HB11.out.trans (hb12.mono HB11.out.size))
        have G := Lib.hid (G.out.below hb12)
        have X := Lib.hid (X.out.below hb12)
        have Y := Lib.hid (Y.out.below hb12)
        have GXY := Lib.hid (GXY.out.below hb12)
        have ONE := Lib.hid (ONE.out.below hb12)
        have AC := Lib.hid (AC.out.below hb12)
        have BC := Lib.hid hn12
        clear hn12 hl12 hb12
        have LGM : Hid ((wd (Nat.gcd (val a * val c) (val b * val c))).length ≤ 80) := Lib.hid (by have := LAC.out; have := LBC.out; have := gcd_len (val a * val c) (val b * val c); omega)
        have hs := gcd_any _ _ _ _ w12 AC.out BC.out (Nat.le_trans LAC.out (by decide)) (Nat.le_trans LBC.out (by decide))
        simp only [val_wd] at hs
        have HS := Lib.hid hs
        clear hs
        go_wp2_with fail
        (with_reducible refine HS.out.mono ?_); rintro e w13 ⟨v13, l13, rfl, hb13, hn13, hl13⟩
        rw [hl13] at hn13
        have HB13 := Lib.hid (HB12.out.trans (hb13.mono HB12.out.size))
        have G := Lib.hid (G.out.below hb13)
        have X := Lib.hid (X.out.below hb13)
        have Y := Lib.hid (Y.out.below hb13)
        have GXY := Lib.hid (GXY.out.below hb13)
        have ONE := Lib.hid (ONE.out.below hb13)
        have AC := Lib.hid (AC.out.below hb13)
        have BC := Lib.hid (BC.out.below hb13)
        have GM := Lib.hid hn13
        clear hn13 hl13 hb13
        have LGC : Hid ((wd ((Nat.gcd (val a) (val b)) * (val c))).length ≤ 80) := Lib.hid (by have h := wd_mul_len (Nat.gcd (val a) (val b)) (val c); have := LG.out; have := hwc; omega)
        have hs := mul_any _ _ _ _ w13 G.out (HC.out.below HB13.out) (Nat.le_trans LG.out (by decide)) (by omega)
        simp only [val_wd] at hs
        have HS := Lib.hid hs
        clear hs
        go_wp2_with fail
        (with_reducible refine HS.out.mono ?_); rintro e w14 ⟨v14, l14, rfl, hb14, hn14, hl14⟩
        rw [hl14] at hn14
        have HB14 := Lib.hid (HB13.out.trans (hb14.mono HB13.out.size))
        have G := Lib.hid (G.out.below hb14)
        have X := Lib.hid (X.out.below hb14)
        have Y := Lib.hid (Y.out.below hb14)
        have GXY := Lib.hid (GXY.out.below hb14)
        have ONE := Lib.hid (ONE.out.below hb14)
        have AC := Lib.hid (AC.out.below hb14)
        have BC := Lib.hid (BC.out.below hb14)
        have GM := Lib.hid (GM.out.below hb14)
        have GC := Lib.hid hn14
        clear hn14 hl14 hb14
        have hs := cmp_any _ _ _ _ w14 GM.out GC.out (Nat.le_trans LGM.out (by decide)) (Nat.le_trans LGC.out (by decide))
        simp only [val_wd] at hs; rw [cmpN_eq (Nat.gcd_mul_right _ _ _)] at hs
        have HS := Lib.hid hs
        clear hs
        go_wp2_with fail
        (with_reducible refine HS.out.mono ?_); rintro e w15 ⟨rfl, hb15⟩
        have HB15 := Lib.hid (HB14.out.trans (hb15.mono HB14.out.size))
        have G := Lib.hid (G.out.below hb15)
        have X := Lib.hid (X.out.below hb15)
        have Y := Lib.hid (Y.out.below hb15)
        have GXY := Lib.hid (GXY.out.below hb15)
        have ONE := Lib.hid (ONE.out.below hb15)
        have AC := Lib.hid (AC.out.below hb15)
        have BC := Lib.hid (BC.out.below hb15)
        have GM := Lib.hid (GM.out.below hb15)
        have GC := Lib.hid (GC.out.below hb15)
        clear hb15
        go_wp2_with fail
        go_ret
        exact ⟨by simp, HB15.out⟩
end Go.Proofs.YtdepoikifneggaaDoor
