/-
  NaturalTexts: the walk of the statement.
  Conditions: the texts are no longer than a machine's.
-/
import Derived.Test.YtdepoikifneggaaDoorNat25
import Derived.Test.YtdepoikifneggaaDoorNatMath13
import Derived.Test.YtdepoikifneggaaDoorNatLaw1
namespace Go.Proofs.YtdepoikifneggaaDoor
open Go.RowKit Go.ChangeShapes Go.WideShapes

set_option maxRecDepth 100000 in
set_option maxHeartbeats 8000000 in
theorem texts_walk' (va : Value) (a : List Nat) (l : List UInt8) (w : World) (ha : Num w va a) (hs : l.length ≤ 9223372036854775807) :
    Calls Tryd.prog 11 #[va, .string ⟨l.toArray⟩] w (RetV w (.bool true)) := by
  obtain ⟨ao, ca, rfl, hca, hca2, _⟩ := ha.shape
  have HA := Lib.hid ha
  clear ha
  by_cases hbig : 40 < a.length
  · have hbf : decide (40 < a.length) = true := decide_eq_true hbig
    have HBIG := Lib.hid hbf; clear hbf
    go_enter Tryd.func11, Tryd.ntmps11
    go_wp2_with fail
    (with_reducible refine (awake_any _).mono ?_); rintro e w1 ⟨rfl, hb1⟩
    have hla := large1 (.slice ao a.length ca) a w1 22 (HA.out.below hb1)
    rw [HBIG.out] at hla
    have HLA := Lib.hid hla; clear hla
    go_wp2_with fail
    (with_reducible refine HLA.out.mono ?_); rintro e w2 ⟨rfl, rfl⟩
    go_wp2_with fail
    (with_reducible refine (awake_any _).mono ?_); rintro e w3 ⟨rfl, hb3⟩
    go_wp2_with fail
    go_ret
    exact ⟨rfl, (hb1.alloc hb1.size _).trans (hb3.mono (by have := hb1.size; simp; omega))⟩
  · by_cases h4 : 400 < l.length
    · have f1 : decide ((400 : Int) < (l.length : Int)) = true := decide_eq_true (by omega)
      by_cases h5 : l.length ≤ 65536
      · have f2 : decide ((l.length : Int) ≤ 65536) = true := decide_eq_true (by omega)
        have hbf : decide (40 < a.length) = false := decide_eq_false hbig
        have HBIG := Lib.hid hbf; clear hbf
        go_enter Tryd.func11, Tryd.ntmps11
        go_wp2_with fail
        (with_reducible refine (awake_any _).mono ?_); rintro e w1 ⟨rfl, hb1⟩
        have hla := large1 (.slice ao a.length ca) a w1 22 (HA.out.below hb1)
        rw [HBIG.out] at hla
        have HLA := Lib.hid hla; clear hla
        go_wp2_with fail
        (with_reducible refine HLA.out.mono ?_); rintro e w2 ⟨rfl, rfl⟩
        go_wp2_with fail
        (with_reducible refine (awake_any _).mono ?_); rintro e w3 ⟨rfl, hb3⟩
        go_wp2_with fail
        go_ret
        exact ⟨rfl, (hb1.alloc hb1.size _).trans (hb3.mono (by have := hb1.size; simp; omega))⟩
      · have f2 : decide ((l.length : Int) ≤ 65536) = false := decide_eq_false (by omega)
        have hvl : (wd (parV l)).length ≤ 1000000 := by rw [parV_zero (by rw [(parC_big (by omega)).1]; decide), wd_zero]; exact Nat.zero_le _
        have HVL := Lib.hid hvl; clear hvl
        have hbf : decide (40 < a.length) = false := decide_eq_false hbig
        have HBIG := Lib.hid hbf; clear hbf
        go_enter Tryd.func11, Tryd.ntmps11
        go_wp2_with fail
        (with_reducible refine (awake_any _).mono ?_); rintro e w1 ⟨rfl, hb1⟩
        have hla := large1 (.slice ao a.length ca) a w1 22 (HA.out.below hb1)
        rw [HBIG.out] at hla
        have HLA := Lib.hid hla; clear hla
        go_wp2_with fail
        (with_reducible refine HLA.out.mono ?_); rintro e w2 ⟨rfl, rfl⟩
        have HB2 := Lib.hid (hb1.alloc hb1.size (.cells #[.slice ao a.length ca] 22))
        obtain ⟨w2, hw2⟩ : ∃ w2, w2 = w1.alloc (.cells #[.slice ao a.length ca] 22) := ⟨_, rfl⟩
        rw [← hw2] at HB2 ⊢
        clear hw2 hb1
        have hwa := wd_length_le HA.out.lt
        have hs := parse_any l w2 hs
        have HS := Lib.hid hs
        clear hs
        go_wp2_with fail
        (with_reducible refine HS.out.mono ?_); rintro e w3 ⟨v3, rfl, hb3, hn3⟩
        have HB3 := Lib.hid (HB2.out.trans (hb3.mono HB2.out.size))
        have X := Lib.hid hn3
        clear hn3 hb3
        have hs := rparse_any l w3 (by omega)
        have HS := Lib.hid hs
        clear hs
        go_wp2_with fail
        (with_reducible refine HS.out.mono ?_); rintro e w4 ⟨v4, rfl, hb4, hn4⟩
        have HB4 := Lib.hid (HB3.out.trans (hb4.mono HB3.out.size))
        have X := Lib.hid (X.out.below hb4)
        have Y := Lib.hid hn4
        clear hn4 hb4
        have hs := text_any _ a w4 (HA.out.below HB4.out) (by omega)
        have HS := Lib.hid hs
        clear hs
        go_wp2_with fail
        (with_reducible refine HS.out.mono ?_); rintro e w5 ⟨rfl, hb5⟩
        have HB5 := Lib.hid (HB4.out.trans (hb5.mono HB4.out.size))
        have X := Lib.hid (X.out.below hb5)
        have Y := Lib.hid (Y.out.below hb5)
        clear hb5
        have hs := rtext_any _ a w5 (HA.out.below HB5.out) (by omega)
        have HS := Lib.hid hs
        clear hs
        go_wp2_with fail
        (with_reducible refine HS.out.mono ?_); rintro e w6 ⟨rfl, hb6⟩
        have HB6 := Lib.hid (HB5.out.trans (hb6.mono HB5.out.size))
        have X := Lib.hid (X.out.below hb6)
        have Y := Lib.hid (Y.out.below hb6)
        clear hb6
        have hs := words_same _ _ _ w6 X.out Y.out HVL.out
        have HS := Lib.hid hs
        clear hs
        go_wp2_with fail
        (with_reducible refine HS.out.mono ?_); rintro e w7 ⟨rfl, hb7⟩
        have HB7 := Lib.hid (HB6.out.trans (hb7.mono HB6.out.size))
        have X := Lib.hid (X.out.below hb7)
        have Y := Lib.hid (Y.out.below hb7)
        clear hb7
        have hs := num_any (parC l) w7 (by have := parC_small l; omega)
        have HS := Lib.hid hs
        clear hs
        go_wp2_with fail
        (with_reducible refine HS.out.mono ?_); rintro e wx ⟨rfl, rfl⟩
        go_wp2_with fail
        go_ret
        exact ⟨by simp, HB7.out⟩
    · have f1 : decide ((400 : Int) < (l.length : Int)) = false := decide_eq_false (by omega)
      have hvl : (wd (parV l)).length ≤ 1000000 := parV_len (by omega)
      have HVL := Lib.hid hvl; clear hvl
      have hbf : decide (40 < a.length) = false := decide_eq_false hbig
      have HBIG := Lib.hid hbf; clear hbf
      go_enter Tryd.func11, Tryd.ntmps11
      go_wp2_with fail
      (with_reducible refine (awake_any _).mono ?_); rintro e w1 ⟨rfl, hb1⟩
      have hla := large1 (.slice ao a.length ca) a w1 22 (HA.out.below hb1)
      rw [HBIG.out] at hla
      have HLA := Lib.hid hla; clear hla
      go_wp2_with fail
      (with_reducible refine HLA.out.mono ?_); rintro e w2 ⟨rfl, rfl⟩
      have HB2 := Lib.hid (hb1.alloc hb1.size (.cells #[.slice ao a.length ca] 22))
      obtain ⟨w2, hw2⟩ : ∃ w2, w2 = w1.alloc (.cells #[.slice ao a.length ca] 22) := ⟨_, rfl⟩
      rw [← hw2] at HB2 ⊢
      clear hw2 hb1
      have hwa := wd_length_le HA.out.lt
      have hs := parse_any l w2 hs
      have HS := Lib.hid hs
      clear hs
      go_wp2_with fail
      (with_reducible refine HS.out.mono ?_); rintro e w3 ⟨v3, rfl, hb3, hn3⟩
      have HB3 := Lib.hid (HB2.out.trans (hb3.mono HB2.out.size))
      have X := Lib.hid hn3
      clear hn3 hb3
      have hs := rparse_any l w3 (by omega)
      have HS := Lib.hid hs
      clear hs
      go_wp2_with fail
      (with_reducible refine HS.out.mono ?_); rintro e w4 ⟨v4, rfl, hb4, hn4⟩
      have HB4 := Lib.hid (HB3.out.trans (hb4.mono HB3.out.size))
      have X := Lib.hid (X.out.below hb4)
      have Y := Lib.hid hn4
      clear hn4 hb4
      have hs := text_any _ a w4 (HA.out.below HB4.out) (by omega)
      have HS := Lib.hid hs
      clear hs
      go_wp2_with fail
      (with_reducible refine HS.out.mono ?_); rintro e w5 ⟨rfl, hb5⟩
      have HB5 := Lib.hid (HB4.out.trans (hb5.mono HB4.out.size))
      have X := Lib.hid (X.out.below hb5)
      have Y := Lib.hid (Y.out.below hb5)
      clear hb5
      have hs := rtext_any _ a w5 (HA.out.below HB5.out) (by omega)
      have HS := Lib.hid hs
      clear hs
      go_wp2_with fail
      (with_reducible refine HS.out.mono ?_); rintro e w6 ⟨rfl, hb6⟩
      have HB6 := Lib.hid (HB5.out.trans (hb6.mono HB5.out.size))
      have X := Lib.hid (X.out.below hb6)
      have Y := Lib.hid (Y.out.below hb6)
      clear hb6
      have hs := words_same _ _ _ w6 X.out Y.out HVL.out
      have HS := Lib.hid hs
      clear hs
      go_wp2_with fail
      (with_reducible refine HS.out.mono ?_); rintro e w7 ⟨rfl, hb7⟩
      have HB7 := Lib.hid (HB6.out.trans (hb7.mono HB6.out.size))
      have X := Lib.hid (X.out.below hb7)
      have Y := Lib.hid (Y.out.below hb7)
      clear hb7
      have hs := num_any (parC l) w7 (by have := parC_small l; omega)
      have HS := Lib.hid hs
      clear hs
      go_wp2_with fail
      (with_reducible refine HS.out.mono ?_); rintro e wx ⟨rfl, rfl⟩
      go_wp2_with fail
      go_ret
      exact ⟨by simp, HB7.out⟩
theorem texts_walk (va : Value) (a : List Nat) (s : ByteArray) (w : World) (ha : Num w va a) (hs : s.size ≤ 9223372036854775807) :
    Calls Tryd.prog 11 #[va, .string s] w (RetV w (.bool true)) := by
  have e : s = ⟨s.data.toList.toArray⟩ := by apply ByteArray.ext; simp
  have h2 : s.data.toList.length ≤ 9223372036854775807 := by have : s.data.toList.length = s.size := rfl; omega
  rw [e]
  exact texts_walk' va a s.data.toList w ha h2
end Go.Proofs.YtdepoikifneggaaDoor
