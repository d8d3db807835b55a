/-
  NaturalProducts: the walk of the statement.
  Conditions: none.
-/
import Derived.Test.YtdepoikifneggaaDoorNat17
import Derived.Test.YtdepoikifneggaaDoorNatLaw1
namespace Go.Proofs.YtdepoikifneggaaDoor
open Go.RowKit Go.ChangeShapes Go.WideShapes

set_option maxRecDepth 100000 in
set_option maxHeartbeats 8000000 in
theorem products_walk (va vb : Value) (a b : List Nat) (n : Int) (w : World) (ha : Num w va a) (hb : Num w vb b) (hn0 : -9223372036854775808 ≤ n) (hn1 : n ≤ 9223372036854775807) :
    Calls Tryd.prog 10 #[va, vb, .int .i64 n] w (RetV w (.bool true)) := by
  obtain ⟨ao, ca, rfl, hca, hca2, _⟩ := ha.shape
  obtain ⟨bo, cb, rfl, hcb, hcb2, _⟩ := hb.shape
  have HA := Lib.hid ha
  have HB := Lib.hid hb
  clear ha hb
  by_cases hbig : (decide (40 < a.length) || decide (40 < b.length)) = true
  · have HBIG := Lib.hid hbig; clear hbig
    go_enter Tryd.func10, Tryd.ntmps10
    go_wp2_with fail
    (with_reducible refine (awake_any _).mono ?_); rintro e w1 ⟨rfl, hb1⟩
    have hla := large2 (.slice ao a.length ca) (.slice bo b.length cb) a b w1 22 (HA.out.below hb1) (HB.out.below hb1)
    rw [HBIG.out] at hla
    have HLA := Lib.hid hla; clear hla
    go_wp2_with fail
    (with_reducible refine HLA.out.mono ?_); rintro e w2 ⟨rfl, rfl⟩
    go_wp2_with fail
    (with_reducible refine (awake_any _).mono ?_); rintro e w3 ⟨rfl, hb3⟩
    go_wp2_with fail
    go_ret
    exact ⟨rfl, (hb1.alloc hb1.size _).trans (hb3.mono (by have := hb1.size; simp; omega))⟩
  · have hbf := Bool.eq_false_iff.2 hbig
    have hl : a.length ≤ 40 ∧ b.length ≤ 40 := by simpa using hbf
    have HBIG := Lib.hid hbf; clear hbig hbf
    obtain ⟨hla, hlb⟩ := hl
    go_enter Tryd.func10, Tryd.ntmps10
    go_wp2_with fail
    (with_reducible refine (awake_any _).mono ?_); rintro e w1 ⟨rfl, hb1⟩
    have hla := large2 (.slice ao a.length ca) (.slice bo b.length cb) a b w1 22 (HA.out.below hb1) (HB.out.below hb1)
    rw [HBIG.out] at hla
    have HLA := Lib.hid hla; clear hla
    go_wp2_with fail
    (with_reducible refine HLA.out.mono ?_); rintro e w2 ⟨rfl, rfl⟩
    have HB2 := Lib.hid (hb1.alloc hb1.size (.cells #[.slice ao a.length ca, .slice bo b.length cb] 22))
    obtain ⟨w2, hw2⟩ : ∃ w2, w2 = w1.alloc (.cells #[.slice ao a.length ca, .slice bo b.length cb] 22) := ⟨_, rfl⟩
    rw [← hw2] at HB2 ⊢
    clear hw2 hb1
    have hwa := wd_length_le HA.out.lt
    have hwb := wd_length_le HB.out.lt
    have LP : Hid ((wd ((val a) * (val b))).length ≤ 80) := Lib.hid (by have h := wd_mul_len (val a) (val b); have := hwa; have := hwb; omega)
    have hs := mul_any _ _ _ _ w2 (HA.out.below HB2.out) (HB.out.below HB2.out) (by omega) (by omega)
    have HS := Lib.hid hs
    clear hs
    go_wp2_with fail
    (with_reducible refine HS.out.mono ?_); rintro e w3 ⟨v3, l3, rfl, hb3, hn3, hl3⟩
    rw [hl3] at hn3
    have HB3 := Lib.hid (HB2.out.trans (hb3.mono HB2.out.size))
    have P := Lib.hid hn3
    clear hn3 hl3 hb3
    have LP2 : Hid ((wd ((val a) * (val b))).length ≤ 80) := Lib.hid (by have h := wd_mul_len (val a) (val b); have := hwa; have := hwb; omega)
    have hs := rmul_any _ _ _ _ w3 (HA.out.below HB3.out) (HB.out.below HB3.out) (by omega) (by omega)
    have HS := Lib.hid hs
    clear hs
    go_wp2_with fail
    (with_reducible refine HS.out.mono ?_); rintro e w4 ⟨v4, l4, rfl, hb4, hn4, hl4⟩
    rw [hl4] at hn4
    have HB4 := Lib.hid (HB3.out.trans (hb4.mono HB3.out.size))
    have P := Lib.hid (P.out.below hb4)
    have P2 := Lib.hid hn4
    clear hn4 hl4 hb4
    have hs := words_same _ _ _ w4 P.out P2.out (Nat.le_trans LP.out (by decide))
    have HS := Lib.hid hs
    clear hs
    go_wp2_with fail
    (with_reducible refine HS.out.mono ?_); rintro e w5 ⟨rfl, hb5⟩
    have HB5 := Lib.hid (HB4.out.trans (hb5.mono HB4.out.size))
    have P := Lib.hid (P.out.below hb5)
    have P2 := Lib.hid (P2.out.below hb5)
    clear hb5
    by_cases hn1 : n ≤ 1
    · have f1 : decide (1 < n) = false := by simp; omega
      have LX : Hid ((wd (powV (val a) (n))).length ≤ 4097) := Lib.hid (by exact powV_len _ _)
      have hs := power_any _ a (n) w5 (HA.out.below HB5.out) (by omega)
      have HS := Lib.hid hs
      clear hs
      go_wp2_with fail
      (with_reducible refine HS.out.mono ?_); rintro e w6 ⟨v6, rfl, hb6, hn6⟩
      have HB6 := Lib.hid (HB5.out.trans (hb6.mono HB5.out.size))
      have P := Lib.hid (P.out.below hb6)
      have P2 := Lib.hid (P2.out.below hb6)
      have X := Lib.hid hn6
      clear hn6 hb6
      have LY : Hid ((wd (powV (val a) (n))).length ≤ 4097) := Lib.hid (by exact powV_len _ _)
      have hs := rpower_any _ a (n) w6 (HA.out.below HB6.out) (by omega)
      have HS := Lib.hid hs
      clear hs
      go_wp2_with fail
      (with_reducible refine HS.out.mono ?_); rintro e w7 ⟨v7, rfl, hb7, hn7⟩
      have HB7 := Lib.hid (HB6.out.trans (hb7.mono HB6.out.size))
      have P := Lib.hid (P.out.below hb7)
      have P2 := Lib.hid (P2.out.below hb7)
      have X := Lib.hid (X.out.below hb7)
      have Y := Lib.hid hn7
      clear hn7 hb7
      have hs := words_same _ _ _ w7 X.out Y.out (Nat.le_trans LX.out (by decide))
      have HS := Lib.hid hs
      clear hs
      go_wp2_with fail
      (with_reducible refine HS.out.mono ?_); rintro e w8 ⟨rfl, hb8⟩
      have HB8 := Lib.hid (HB7.out.trans (hb8.mono HB7.out.size))
      have P := Lib.hid (P.out.below hb8)
      have P2 := Lib.hid (P2.out.below hb8)
      have X := Lib.hid (X.out.below hb8)
      have Y := Lib.hid (Y.out.below hb8)
      clear hb8
      have hs := num_any (powC (val a) (n)) w8 (powC_small _ _)
      have HS := Lib.hid hs
      clear hs
      go_wp2_with fail
      (with_reducible refine HS.out.mono ?_); rintro e wx ⟨rfl, rfl⟩
      go_wp2_with fail
      go_ret
      exact ⟨by simp, HB8.out⟩
    by_cases hn2 : 1024 < n
    · have f1 : decide (1 < n) = true := by simp; omega
      have f2 : decide (n ≤ 1024) = false := by simp; omega
      have LX : Hid ((wd (powV (val a) (n))).length ≤ 4097) := Lib.hid (by exact powV_len _ _)
      have hs := power_any _ a (n) w5 (HA.out.below HB5.out) (by omega)
      have HS := Lib.hid hs
      clear hs
      go_wp2_with fail
      (with_reducible refine HS.out.mono ?_); rintro e w6 ⟨v6, rfl, hb6, hn6⟩
      have HB6 := Lib.hid (HB5.out.trans (hb6.mono HB5.out.size))
      have P := Lib.hid (P.out.below hb6)
      have P2 := Lib.hid (P2.out.below hb6)
      have X := Lib.hid hn6
      clear hn6 hb6
      have LY : Hid ((wd (powV (val a) (n))).length ≤ 4097) := Lib.hid (by exact powV_len _ _)
      have hs := rpower_any _ a (n) w6 (HA.out.below HB6.out) (by omega)
      have HS := Lib.hid hs
      clear hs
      go_wp2_with fail
      (with_reducible refine HS.out.mono ?_); rintro e w7 ⟨v7, rfl, hb7, hn7⟩
      have HB7 := Lib.hid (HB6.out.trans (hb7.mono HB6.out.size))
      have P := Lib.hid (P.out.below hb7)
      have P2 := Lib.hid (P2.out.below hb7)
      have X := Lib.hid (X.out.below hb7)
      have Y := Lib.hid hn7
      clear hn7 hb7
      have hs := words_same _ _ _ w7 X.out Y.out (Nat.le_trans LX.out (by decide))
      have HS := Lib.hid hs
      clear hs
      go_wp2_with fail
      (with_reducible refine HS.out.mono ?_); rintro e w8 ⟨rfl, hb8⟩
      have HB8 := Lib.hid (HB7.out.trans (hb8.mono HB7.out.size))
      have P := Lib.hid (P.out.below hb8)
      have P2 := Lib.hid (P2.out.below hb8)
      have X := Lib.hid (X.out.below hb8)
      have Y := Lib.hid (Y.out.below hb8)
      clear hb8
      have hs := num_any (powC (val a) (n)) w8 (powC_small _ _)
      have HS := Lib.hid hs
      clear hs
      go_wp2_with fail
      (with_reducible refine HS.out.mono ?_); rintro e wx ⟨rfl, rfl⟩
      go_wp2_with fail
      go_ret
      exact ⟨by simp, HB8.out⟩
    obtain ⟨m, rfl⟩ := Int.eq_ofNat_of_zero_le (show 0 ≤ n by omega)
    have f1 : decide ((1 : Int) < (m : Int)) = true := by simp; omega
    have f2 : decide ((m : Int) ≤ 1024) = true := by simp; omega
    have hbl := blen_le_len HA.out.lt
    obtain ⟨bl, hble⟩ : ∃ bl, bl = blen (val a) := ⟨_, rfl⟩
    rw [← hble] at hbl
    have hpl : bl * m ≤ 1280 * 1024 := Nat.mul_le_mul (by omega) (by omega)
    obtain ⟨p, hp⟩ : ∃ p, p = bl * m := ⟨_, rfl⟩
    rw [← hp] at hpl
    have hpi : (bl : Int) * (m : Int) = (p : Int) := by rw [hp]; simp
    have HBL := Lib.hid hble; clear hble hp
    by_cases hp1 : 6000 < p
    · by_cases hp2 : p ≤ 131072
      · have f3 : decide ((6000 : Int) < (p : Int)) = true := by simp; omega
        have f4 : decide ((p : Int) ≤ 131072) = true := by simp; omega
        have hs := rbits_any _ a w5 (HA.out.below HB5.out) (by omega)
        rw [← HBL.out] at hs
        have HS := Lib.hid hs
        clear hs
        go_wp2_with fail
        (with_reducible refine HS.out.mono ?_); rintro e wx ⟨rfl, rfl⟩
        have hs := rbits_any _ a w5 (HA.out.below HB5.out) (by omega)
        rw [← HBL.out] at hs
        have HS := Lib.hid hs
        clear hs
        go_wp2_with fail
        (with_reducible refine HS.out.mono ?_); rintro e wx ⟨rfl, rfl⟩
        have LX : Hid ((wd (powV (val a) (2))).length ≤ 4097) := Lib.hid (by exact powV_len _ _)
        have hs := power_any _ a (2) w5 (HA.out.below HB5.out) (by omega)
        have HS := Lib.hid hs
        clear hs
        go_wp2_with fail
        (with_reducible refine HS.out.mono ?_); rintro e w6 ⟨v6, rfl, hb6, hn6⟩
        have HB6 := Lib.hid (HB5.out.trans (hb6.mono HB5.out.size))
        have P := Lib.hid (P.out.below hb6)
        have P2 := Lib.hid (P2.out.below hb6)
        have X := Lib.hid hn6
        clear hn6 hb6
        have LY : Hid ((wd (powV (val a) (2))).length ≤ 4097) := Lib.hid (by exact powV_len _ _)
        have hs := rpower_any _ a (2) w6 (HA.out.below HB6.out) (by omega)
        have HS := Lib.hid hs
        clear hs
        go_wp2_with fail
        (with_reducible refine HS.out.mono ?_); rintro e w7 ⟨v7, rfl, hb7, hn7⟩
        have HB7 := Lib.hid (HB6.out.trans (hb7.mono HB6.out.size))
        have P := Lib.hid (P.out.below hb7)
        have P2 := Lib.hid (P2.out.below hb7)
        have X := Lib.hid (X.out.below hb7)
        have Y := Lib.hid hn7
        clear hn7 hb7
        have hs := words_same _ _ _ w7 X.out Y.out (Nat.le_trans LX.out (by decide))
        have HS := Lib.hid hs
        clear hs
        go_wp2_with fail
        (with_reducible refine HS.out.mono ?_); rintro e w8 ⟨rfl, hb8⟩
        have HB8 := Lib.hid (HB7.out.trans (hb8.mono HB7.out.size))
        have P := Lib.hid (P.out.below hb8)
        have P2 := Lib.hid (P2.out.below hb8)
        have X := Lib.hid (X.out.below hb8)
        have Y := Lib.hid (Y.out.below hb8)
        clear hb8
        have hs := num_any (powC (val a) (2)) w8 (powC_small _ _)
        have HS := Lib.hid hs
        clear hs
        go_wp2_with fail
        (with_reducible refine HS.out.mono ?_); rintro e wx ⟨rfl, rfl⟩
        go_wp2_with fail
        go_ret
        exact ⟨by simp, HB8.out⟩
      · have f3 : decide ((6000 : Int) < (p : Int)) = true := by simp; omega
        have f4 : decide ((p : Int) ≤ 131072) = false := by simp; omega
        have hs := rbits_any _ a w5 (HA.out.below HB5.out) (by omega)
        rw [← HBL.out] at hs
        have HS := Lib.hid hs
        clear hs
        go_wp2_with fail
        (with_reducible refine HS.out.mono ?_); rintro e wx ⟨rfl, rfl⟩
        have hs := rbits_any _ a w5 (HA.out.below HB5.out) (by omega)
        rw [← HBL.out] at hs
        have HS := Lib.hid hs
        clear hs
        go_wp2_with fail
        (with_reducible refine HS.out.mono ?_); rintro e wx ⟨rfl, rfl⟩
        have LX : Hid ((wd (powV (val a) ((m : Int)))).length ≤ 4097) := Lib.hid (by exact powV_len _ _)
        have hs := power_any _ a ((m : Int)) w5 (HA.out.below HB5.out) (by omega)
        have HS := Lib.hid hs
        clear hs
        go_wp2_with fail
        (with_reducible refine HS.out.mono ?_); rintro e w6 ⟨v6, rfl, hb6, hn6⟩
        have HB6 := Lib.hid (HB5.out.trans (hb6.mono HB5.out.size))
        have P := Lib.hid (P.out.below hb6)
        have P2 := Lib.hid (P2.out.below hb6)
        have X := Lib.hid hn6
        clear hn6 hb6
        have LY : Hid ((wd (powV (val a) ((m : Int)))).length ≤ 4097) := Lib.hid (by exact powV_len _ _)
        have hs := rpower_any _ a ((m : Int)) w6 (HA.out.below HB6.out) (by omega)
        have HS := Lib.hid hs
        clear hs
        go_wp2_with fail
        (with_reducible refine HS.out.mono ?_); rintro e w7 ⟨v7, rfl, hb7, hn7⟩
        have HB7 := Lib.hid (HB6.out.trans (hb7.mono HB6.out.size))
        have P := Lib.hid (P.out.below hb7)
        have P2 := Lib.hid (P2.out.below hb7)
        have X := Lib.hid (X.out.below hb7)
        have Y := Lib.hid hn7
        clear hn7 hb7
        have hs := words_same _ _ _ w7 X.out Y.out (Nat.le_trans LX.out (by decide))
        have HS := Lib.hid hs
        clear hs
        go_wp2_with fail
        (with_reducible refine HS.out.mono ?_); rintro e w8 ⟨rfl, hb8⟩
        have HB8 := Lib.hid (HB7.out.trans (hb8.mono HB7.out.size))
        have P := Lib.hid (P.out.below hb8)
        have P2 := Lib.hid (P2.out.below hb8)
        have X := Lib.hid (X.out.below hb8)
        have Y := Lib.hid (Y.out.below hb8)
        clear hb8
        have hs := num_any (powC (val a) ((m : Int))) w8 (powC_small _ _)
        have HS := Lib.hid hs
        clear hs
        go_wp2_with fail
        (with_reducible refine HS.out.mono ?_); rintro e wx ⟨rfl, rfl⟩
        go_wp2_with fail
        go_ret
        exact ⟨by simp, HB8.out⟩
    · have f3 : decide ((6000 : Int) < (p : Int)) = false := by simp; omega
      have hs := rbits_any _ a w5 (HA.out.below HB5.out) (by omega)
      rw [← HBL.out] at hs
      have HS := Lib.hid hs
      clear hs
      go_wp2_with fail
      (with_reducible refine HS.out.mono ?_); rintro e wx ⟨rfl, rfl⟩
      have LX : Hid ((wd (powV (val a) ((m : Int)))).length ≤ 4097) := Lib.hid (by exact powV_len _ _)
      have hs := power_any _ a ((m : Int)) w5 (HA.out.below HB5.out) (by omega)
      have HS := Lib.hid hs
      clear hs
      go_wp2_with fail
      (with_reducible refine HS.out.mono ?_); rintro e w6 ⟨v6, rfl, hb6, hn6⟩
      have HB6 := Lib.hid (HB5.out.trans (hb6.mono HB5.out.size))
      have P := Lib.hid (P.out.below hb6)
      have P2 := Lib.hid (P2.out.below hb6)
      have X := Lib.hid hn6
      clear hn6 hb6
      have LY : Hid ((wd (powV (val a) ((m : Int)))).length ≤ 4097) := Lib.hid (by exact powV_len _ _)
      have hs := rpower_any _ a ((m : Int)) w6 (HA.out.below HB6.out) (by omega)
      have HS := Lib.hid hs
      clear hs
      go_wp2_with fail
      (with_reducible refine HS.out.mono ?_); rintro e w7 ⟨v7, rfl, hb7, hn7⟩
      have HB7 := Lib.hid (HB6.out.trans (hb7.mono HB6.out.size))
      have P := Lib.hid (P.out.below hb7)
      have P2 := Lib.hid (P2.out.below hb7)
      have X := Lib.hid (X.out.below hb7)
      have Y := Lib.hid hn7
      clear hn7 hb7
      have hs := words_same _ _ _ w7 X.out Y.out (Nat.le_trans LX.out (by decide))
      have HS := Lib.hid hs
      clear hs
      go_wp2_with fail
      (with_reducible refine HS.out.mono ?_); rintro e w8 ⟨rfl, hb8⟩
      have HB8 := Lib.hid (HB7.out.trans (hb8.mono HB7.out.size))
      have P := Lib.hid (P.out.below hb8)
      have P2 := Lib.hid (P2.out.below hb8)
      have X := Lib.hid (X.out.below hb8)
      have Y := Lib.hid (Y.out.below hb8)
      clear hb8
      have hs := num_any (powC (val a) ((m : Int))) w8 (powC_small _ _)
      have HS := Lib.hid hs
      clear hs
      go_wp2_with fail
      (with_reducible refine HS.out.mono ?_); rintro e wx ⟨rfl, rfl⟩
      go_wp2_with fail
      go_ret
      exact ⟨by simp, HB8.out⟩
end Go.Proofs.YtdepoikifneggaaDoor
