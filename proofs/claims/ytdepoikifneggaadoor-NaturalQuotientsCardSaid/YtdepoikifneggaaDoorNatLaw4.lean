/-
  NaturalQuotients: the walk of the statement.
  Conditions: none.
-/
import Derived.Test.YtdepoikifneggaaDoorNatLaw3
import Derived.Test.YtdepoikifneggaaDoorNat15
namespace Go.Proofs.YtdepoikifneggaaDoor
open Go.RowKit Go.ChangeShapes Go.WideShapes

set_option maxRecDepth 100000 in
set_option maxHeartbeats 8000000 in
theorem quotients_walk (va vb : Value) (a b : List Nat) (w : World) (ha : Num w va a) (hb : Num w vb b) :
    Calls Tryd.prog 3 #[va, vb] w (RetV w (.bool true)) := by
  obtain ⟨ao, ca, rfl, hca, hca2, _⟩ := ha.shape
  obtain ⟨bo, cb, rfl, hcb, hcb2, _⟩ := hb.shape
  have HA := Lib.hid ha
  have HB := Lib.hid hb
  clear ha hb
  by_cases hbig : (decide (40 < a.length) || decide (40 < b.length)) = true
  · have HBIG := Lib.hid hbig; clear hbig
    go_enter Tryd.func3, Tryd.ntmps3
    go_wp2_with fail
    (with_reducible refine (awake_any _).mono ?_); rintro e w1 ⟨rfl, hb1⟩
    have hla := large2 (.slice ao a.length ca) (.slice bo b.length cb) a b w1 22 (HA.out.below hb1) (HB.out.below hb1)
    rw [HBIG.out] at hla
    have HLA := Lib.hid hla; clear hla
    go_wp2_with fail
    (with_reducible refine HLA.out.mono ?_); rintro e w2 ⟨rfl, rfl⟩
    go_wp2_with fail
    (with_reducible refine (awake_any _).mono ?_); rintro e w3 ⟨rfl, hb3⟩
    go_wp2_with fail
    go_ret
    exact ⟨rfl, (hb1.alloc hb1.size _).trans (hb3.mono (by have := hb1.size; simp; omega))⟩
  · have hbf := Bool.eq_false_iff.2 hbig
    have hl : a.length ≤ 40 ∧ b.length ≤ 40 := by simpa using hbf
    have HBIG := Lib.hid hbf; clear hbig hbf
    obtain ⟨hla, hlb⟩ := hl
    go_enter Tryd.func3, Tryd.ntmps3
    go_wp2_with fail
    (with_reducible refine (awake_any _).mono ?_); rintro e w1 ⟨rfl, hb1⟩
    have hla := large2 (.slice ao a.length ca) (.slice bo b.length cb) a b w1 22 (HA.out.below hb1) (HB.out.below hb1)
    rw [HBIG.out] at hla
    have HLA := Lib.hid hla; clear hla
    go_wp2_with fail
    (with_reducible refine HLA.out.mono ?_); rintro e w2 ⟨rfl, rfl⟩
    have HB2 := Lib.hid (hb1.alloc hb1.size (.cells #[.slice ao a.length ca, .slice bo b.length cb] 22))
    obtain ⟨w2, hw2⟩ : ∃ w2, w2 = w1.alloc (.cells #[.slice ao a.length ca, .slice bo b.length cb] 22) := ⟨_, rfl⟩
    rw [← hw2] at HB2 ⊢
    clear hw2 hb1
    have hwa := wd_length_le HA.out.lt
    have hwb := wd_length_le HB.out.lt
    by_cases hb0 : val b = 0
    · have HB0 := Lib.hid hb0; clear hb0
      have LQ : Hid ((wd (0)).length ≤ 0) := Lib.hid (by rw [wd_zero]; exact Nat.le_refl _)
      have LR : Hid ((wd (0)).length ≤ 0) := Lib.hid (by rw [wd_zero]; exact Nat.le_refl _)
      have LX : Hid ((wd (0)).length ≤ 0) := Lib.hid (by rw [wd_zero]; exact Nat.le_refl _)
      have LY : Hid ((wd (0)).length ≤ 0) := Lib.hid (by rw [wd_zero]; exact Nat.le_refl _)
      have hs := div_zero _ _ _ _ w2 (HA.out.below HB2.out) (HB.out.below HB2.out) (by omega) (by omega) HB0.out
      have HS := Lib.hid hs
      clear hs
      go_wp2_with fail
      (with_reducible refine HS.out.mono ?_); rintro e w3 ⟨v3, u3, rfl, hb3, hn3, hm3⟩
      have HB3 := Lib.hid (HB2.out.trans (hb3.mono HB2.out.size))
      have Q := Lib.hid hn3; have R := Lib.hid hm3
      clear hn3 hm3 hb3
      have hs := rdiv_zero (.slice ao a.length ca) _ _ w3 (HB.out.below HB3.out) (by omega) HB0.out
      have HS := Lib.hid hs
      clear hs
      go_wp2_with fail
      (with_reducible refine HS.out.mono ?_); rintro e w4 ⟨v4, u4, rfl, hb4, hn4, hm4⟩
      have HB4 := Lib.hid (HB3.out.trans (hb4.mono HB3.out.size))
      have Q := Lib.hid (Q.out.below hb4)
      have R := Lib.hid (R.out.below hb4)
      have X := Lib.hid hn4; have Y := Lib.hid hm4
      clear hn4 hm4 hb4
      have hs := words_same _ _ _ w4 Q.out X.out (Nat.le_trans LQ.out (by decide))
      have HS := Lib.hid hs
      clear hs
      go_wp2_with fail
      (with_reducible refine HS.out.mono ?_); rintro e w5 ⟨rfl, hb5⟩
      have HB5 := Lib.hid (HB4.out.trans (hb5.mono HB4.out.size))
      have Q := Lib.hid (Q.out.below hb5)
      have R := Lib.hid (R.out.below hb5)
      have X := Lib.hid (X.out.below hb5)
      have Y := Lib.hid (Y.out.below hb5)
      clear hb5
      have hs := words_same _ _ _ w5 R.out Y.out (Nat.le_trans LR.out (by decide))
      have HS := Lib.hid hs
      clear hs
      go_wp2_with fail
      (with_reducible refine HS.out.mono ?_); rintro e w6 ⟨rfl, hb6⟩
      have HB6 := Lib.hid (HB5.out.trans (hb6.mono HB5.out.size))
      have Q := Lib.hid (Q.out.below hb6)
      have R := Lib.hid (R.out.below hb6)
      have X := Lib.hid (X.out.below hb6)
      have Y := Lib.hid (Y.out.below hb6)
      clear hb6
      have hs := num_any 8 w6 (by decide)
      rw [show ((8 : Nat) : Int) = 8 from rfl] at hs
      have HS := Lib.hid hs
      clear hs
      go_wp2_with fail
      (with_reducible refine HS.out.mono ?_); rintro e wx ⟨rfl, rfl⟩
      by_cases h12 : 12 < a.length
      · have h12i : decide ((12 : Int) < (a.length : Int)) = true := by simp; omega
        go_wp2_with fail
        go_ret
        exact ⟨by simp, HB6.out⟩
      by_cases h13 : 12 < b.length
      · have h12i : decide ((12 : Int) < (a.length : Int)) = false := by simp; omega
        have h13i : decide ((12 : Int) < (b.length : Int)) = true := by simp; omega
        go_wp2_with fail
        go_ret
        exact ⟨by simp, HB6.out⟩
      · have h12i : decide ((12 : Int) < (a.length : Int)) = false := by simp; omega
        have h13i : decide ((12 : Int) < (b.length : Int)) = false := by simp; omega
        have LG : Hid ((wd (Nat.gcd (val a) (val b))).length ≤ 40) := Lib.hid (by have := hwa; have := hwb; have := gcd_len (val a) (val b); omega)
        have hs := gcd_any _ _ _ _ w6 (HA.out.below HB6.out) (HB.out.below HB6.out) (by omega) (by omega)
        have HS := Lib.hid hs
        clear hs
        go_wp2_with fail
        (with_reducible refine HS.out.mono ?_); rintro e w7 ⟨v7, l7, rfl, hb7, hn7, hl7⟩
        rw [hl7] at hn7
        have HB7 := Lib.hid (HB6.out.trans (hb7.mono HB6.out.size))
        have Q := Lib.hid (Q.out.below hb7)
        have R := Lib.hid (R.out.below hb7)
        have X := Lib.hid (X.out.below hb7)
        have Y := Lib.hid (Y.out.below hb7)
        have G := Lib.hid hn7
        clear hn7 hl7 hb7
        have LG2 : Hid ((wd (Nat.gcd (val a) (val b))).length ≤ 40) := Lib.hid (by have := hwa; have := hwb; have := gcd_len (val a) (val b); omega)
        have hs := rgcd_any _ _ _ _ w7 (HA.out.below HB7.out) (HB.out.below HB7.out) (by omega) (by omega)
        have HS := Lib.hid hs
        clear hs
        go_wp2_with fail
        (with_reducible refine HS.out.mono ?_); rintro e w8 ⟨v8, l8, rfl, hb8, hn8, hl8⟩
        rw [hl8] at hn8
        have HB8 := Lib.hid (HB7.out.trans (hb8.mono HB7.out.size))
        have Q := Lib.hid (Q.out.below hb8)
        have R := Lib.hid (R.out.below hb8)
        have X := Lib.hid (X.out.below hb8)
        have Y := Lib.hid (Y.out.below hb8)
        have G := Lib.hid (G.out.below hb8)
        have G2 := Lib.hid hn8
        clear hn8 hl8 hb8
        have hs := words_same _ _ _ w8 G.out G2.out (Nat.le_trans LG.out (by decide))
        have HS := Lib.hid hs
        clear hs
        go_wp2_with fail
        (with_reducible refine HS.out.mono ?_); rintro e w9 ⟨rfl, hb9⟩
        have HB9 := Lib.hid (HB8.out.trans (hb9.mono HB8.out.size))
        have Q := Lib.hid (Q.out.below hb9)
        have R := Lib.hid (R.out.below hb9)
        have X := Lib.hid (X.out.below hb9)
        have Y := Lib.hid (Y.out.below hb9)
        have G := Lib.hid (G.out.below hb9)
        have G2 := Lib.hid (G2.out.below hb9)
        clear hb9
        go_wp2_with fail
        go_ret
        exact ⟨by simp, HB9.out⟩
    · have HB0 := Lib.hid hb0; clear hb0
      have LQ : Hid ((wd (val a / val b)).length ≤ 40) := Lib.hid (by have := hwa; have := wd_length_mono (Nat.div_le_self (val a) (val b)); omega)
      have LX : Hid ((wd (val a / val b)).length ≤ 40) := Lib.hid (by have := hwa; have := wd_length_mono (Nat.div_le_self (val a) (val b)); omega)
      have LR : Hid ((wd (val a % val b)).length ≤ 40) := Lib.hid (by have := hwa; have := wd_length_mono (Nat.mod_le (val a) (val b)); omega)
      have LY : Hid ((wd (val a % val b)).length ≤ 40) := Lib.hid (by have := hwa; have := wd_length_mono (Nat.mod_le (val a) (val b)); omega)
      have hs := div_any _ _ _ _ w2 (HA.out.below HB2.out) (HB.out.below HB2.out) (by omega) (by omega) HB0.out
      have HS := Lib.hid hs
      clear hs
      go_wp2_with fail
      (with_reducible refine HS.out.mono ?_); rintro e w3 ⟨v3, u3, rfl, hb3, hn3, hm3⟩
      have HB3 := Lib.hid (HB2.out.trans (hb3.mono HB2.out.size))
      have Q := Lib.hid hn3; have R := Lib.hid hm3
      clear hn3 hm3 hb3
      have hs := rdiv_any _ _ _ _ w3 (HA.out.below HB3.out) (HB.out.below HB3.out) (by omega) (by omega) HB0.out
      have HS := Lib.hid hs
      clear hs
      go_wp2_with fail
      (with_reducible refine HS.out.mono ?_); rintro e w4 ⟨v4, u4, rfl, hb4, hn4, hm4⟩
      have HB4 := Lib.hid (HB3.out.trans (hb4.mono HB3.out.size))
      have Q := Lib.hid (Q.out.below hb4)
      have R := Lib.hid (R.out.below hb4)
      have X := Lib.hid hn4; have Y := Lib.hid hm4
      clear hn4 hm4 hb4
      have hs := words_same _ _ _ w4 Q.out X.out (Nat.le_trans LQ.out (by decide))
      have HS := Lib.hid hs
      clear hs
      go_wp2_with fail
      (with_reducible refine HS.out.mono ?_); rintro e w5 ⟨rfl, hb5⟩
      have HB5 := Lib.hid (HB4.out.trans (hb5.mono HB4.out.size))
      have Q := Lib.hid (Q.out.below hb5)
      have R := Lib.hid (R.out.below hb5)
      have X := Lib.hid (X.out.below hb5)
      have Y := Lib.hid (Y.out.below hb5)
      clear hb5
      have hs := words_same _ _ _ w5 R.out Y.out (Nat.le_trans LR.out (by decide))
      have HS := Lib.hid hs
      clear hs
      go_wp2_with fail
      (with_reducible refine HS.out.mono ?_); rintro e w6 ⟨rfl, hb6⟩
      have HB6 := Lib.hid (HB5.out.trans (hb6.mono HB5.out.size))
      have Q := Lib.hid (Q.out.below hb6)
      have R := Lib.hid (R.out.below hb6)
      have X := Lib.hid (X.out.below hb6)
      have Y := Lib.hid (Y.out.below hb6)
      clear hb6
      have hs := num_any 0 w6 (by decide)
      rw [show ((0 : Nat) : Int) = 0 from rfl] at hs
      have HS := Lib.hid hs
      clear hs
      go_wp2_with fail
      (with_reducible refine HS.out.mono ?_); rintro e wx ⟨rfl, rfl⟩
      by_cases h12 : 12 < a.length
      · have h12i : decide ((12 : Int) < (a.length : Int)) = true := by simp; omega
        go_wp2_with fail
        go_ret
        exact ⟨by simp, HB6.out⟩
      by_cases h13 : 12 < b.length
      · have h12i : decide ((12 : Int) < (a.length : Int)) = false := by simp; omega
        have h13i : decide ((12 : Int) < (b.length : Int)) = true := by simp; omega
        go_wp2_with fail
        go_ret
        exact ⟨by simp, HB6.out⟩
      · have h12i : decide ((12 : Int) < (a.length : Int)) = false := by simp; omega
        have h13i : decide ((12 : Int) < (b.length : Int)) = false := by simp; omega
        have LG : Hid ((wd (Nat.gcd (val a) (val b))).length ≤ 40) := Lib.hid (by have := hwa; have := hwb; have := gcd_len (val a) (val b); omega)
        have hs := gcd_any _ _ _ _ w6 (HA.out.below HB6.out) (HB.out.below HB6.out) (by omega) (by omega)
        have HS := Lib.hid hs
        clear hs
        go_wp2_with fail
        (with_reducible refine HS.out.mono ?_); rintro e w7 ⟨v7, l7, rfl, hb7, hn7, hl7⟩
        rw [hl7] at hn7
        have HB7 := Lib.hid (HB6.out.trans (hb7.mono HB6.out.size))
        have Q := Lib.hid (Q.out.below hb7)
        have R := Lib.hid (R.out.below hb7)
        have X := Lib.hid (X.out.below hb7)
        have Y := Lib.hid (Y.out.below hb7)
        have G := Lib.hid hn7
        clear hn7 hl7 hb7
        have LG2 : Hid ((wd (Nat.gcd (val a) (val b))).length ≤ 40) := Lib.hid (by have := hwa; have := hwb; have := gcd_len (val a) (val b); omega)
        have hs := rgcd_any _ _ _ _ w7 (HA.out.below HB7.out) (HB.out.below HB7.out) (by omega) (by omega)
        have HS := Lib.hid hs
        clear hs
        go_wp2_with fail
        (with_reducible refine HS.out.mono ?_); rintro e w8 ⟨v8, l8, rfl, hb8, hn8, hl8⟩
        rw [hl8] at hn8
        have HB8 := Lib.hid (HB7.out.trans (hb8.mono HB7.out.size))
        have Q := Lib.hid (Q.out.below hb8)
        have R := Lib.hid (R.out.below hb8)
        have X := Lib.hid (X.out.below hb8)
        have Y := Lib.hid (Y.out.below hb8)
        have G := Lib.hid (G.out.below hb8)
        have G2 := Lib.hid hn8
        clear hn8 hl8 hb8
        have hs := words_same _ _ _ w8 G.out G2.out (Nat.le_trans LG.out (by decide))
        have HS := Lib.hid hs
        clear hs
        go_wp2_with fail
        (with_reducible refine HS.out.mono ?_); rintro e w9 ⟨rfl, hb9⟩
        have HB9 := Lib.hid (HB8.out.trans (hb9.mono HB8.out.size))
        have Q := Lib.hid (Q.out.below hb9)
        have R := Lib.hid (R.out.below hb9)
        have X := Lib.hid (X.out.below hb9)
        have Y := Lib.hid (Y.out.below hb9)
        have G := Lib.hid (G.out.below hb9)
        have G2 := Lib.hid (G2.out.below hb9)
        clear hb9
        go_wp2_with fail
        go_ret
        exact ⟨by simp, HB9.out⟩
end Go.Proofs.YtdepoikifneggaaDoor
