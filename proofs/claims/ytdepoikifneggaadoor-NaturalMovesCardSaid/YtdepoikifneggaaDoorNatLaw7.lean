/-
  NaturalMoves: the walk of the statement.
  Conditions: none.
-/
import Derived.Test.YtdepoikifneggaaDoorNat20
import Derived.Test.YtdepoikifneggaaDoorNatLaw1
namespace Go.Proofs.YtdepoikifneggaaDoor
open Go.RowKit Go.ChangeShapes Go.WideShapes

theorem shiftV_len (A : Nat) (n : Int) (h : (wd A).length ≤ 40) : (wd (shiftV A n)).length ≤ 4200 := by
  unfold shiftV
  split
  · rw [wd_zero]; simp
  · split
    · have h1 := wd_mul_len A (2 ^ n.toNat)
      have h2 : (wd (2 ^ n.toNat)).length ≤ 4097 := pow2_len' (by omega)
      omega
    · have := wd_length_mono (Nat.div_le_self A (2 ^ (-n).toNat)); omega

set_option maxRecDepth 100000 in
set_option maxHeartbeats 8000000 in
theorem moves_walk (va : Value) (a : List Nat) (n : Int) (w : World) (ha : Num w va a)  :
    Calls Tryd.prog 6 #[va, .int .i64 n] w (RetV w (.bool true)) := by
  obtain ⟨ao, ca, rfl, hca, hca2, _⟩ := ha.shape
  have HA := Lib.hid ha
  clear ha
  by_cases hbig : (decide (40 < a.length)) = true
  · have HBIG := Lib.hid hbig; clear hbig
    go_enter Tryd.func6, Tryd.ntmps6
    go_wp2_with fail
    (with_reducible refine (awake_any _).mono ?_); rintro e w1 ⟨rfl, hb1⟩
    have hla := large1 (.slice ao a.length ca) a w1 22 (HA.out.below hb1)
    rw [HBIG.out] at hla
    have HLA := Lib.hid hla; clear hla
    go_wp2_with fail
    (with_reducible refine HLA.out.mono ?_); rintro e w2 ⟨rfl, rfl⟩
    go_wp2_with fail
    (with_reducible refine (awake_any _).mono ?_); rintro e w3 ⟨rfl, hb3⟩
    go_wp2_with fail
    go_ret
    exact ⟨rfl, (hb1.alloc hb1.size _).trans (hb3.mono (by have := hb1.size; simp; omega))⟩
  · have hbf := Bool.eq_false_iff.2 hbig
    have hl : a.length ≤ 40 := by simpa using hbf
    have HBIG := Lib.hid hbf; clear hbig hbf
    obtain hla := hl
    go_enter Tryd.func6, Tryd.ntmps6
    go_wp2_with fail
    (with_reducible refine (awake_any _).mono ?_); rintro e w1 ⟨rfl, hb1⟩
    have hla := large1 (.slice ao a.length ca) a w1 22 (HA.out.below hb1)
    rw [HBIG.out] at hla
    have HLA := Lib.hid hla; clear hla
    go_wp2_with fail
    (with_reducible refine HLA.out.mono ?_); rintro e w2 ⟨rfl, rfl⟩
    have HB2 := Lib.hid (hb1.alloc hb1.size (.cells #[.slice ao a.length ca] 22))
    obtain ⟨w2, hw2⟩ : ∃ w2, w2 = w1.alloc (.cells #[.slice ao a.length ca] 22) := ⟨_, rfl⟩
    rw [← hw2] at HB2 ⊢
    clear hw2 hb1
    have hwa := wd_length_le HA.out.lt
    have LX : Hid ((wd (shiftV (val a) n)).length ≤ 4200) := Lib.hid (by exact shiftV_len _ _ (by have := hwa; omega))
    have hs := shift_any _ a n w2 (HA.out.below HB2.out) (by omega)
    have HS := Lib.hid hs
    clear hs
    go_wp2_with fail
    (with_reducible refine HS.out.mono ?_); rintro e w3 ⟨v3, rfl, hb3, hn3⟩
    have HB3 := Lib.hid (HB2.out.trans (hb3.mono HB2.out.size))
    have X := Lib.hid hn3
    clear hn3 hb3
    have LY : Hid ((wd (shiftV (val a) n)).length ≤ 4200) := Lib.hid (by exact LX.out)
    have hs := rshift_any _ a n w3 (HA.out.below HB3.out) (by omega)
    have HS := Lib.hid hs
    clear hs
    go_wp2_with fail
    (with_reducible refine HS.out.mono ?_); rintro e w4 ⟨v4, rfl, hb4, hn4⟩
    have HB4 := Lib.hid (HB3.out.trans (hb4.mono HB3.out.size))
    have X := Lib.hid (X.out.below hb4)
    have Y := Lib.hid hn4
    clear hn4 hb4
    have hs := words_same _ _ _ w4 X.out Y.out (Nat.le_trans LX.out (by decide))
    have HS := Lib.hid hs
    clear hs
    go_wp2_with fail
    (with_reducible refine HS.out.mono ?_); rintro e w5 ⟨rfl, hb5⟩
    have HB5 := Lib.hid (HB4.out.trans (hb5.mono HB4.out.size))
    have X := Lib.hid (X.out.below hb5)
    have Y := Lib.hid (Y.out.below hb5)
    clear hb5
    have hs := num_any (shiftC n) w5 (shiftC_small _)
    have HS := Lib.hid hs
    clear hs
    go_wp2_with fail
    (with_reducible refine HS.out.mono ?_); rintro e wx ⟨rfl, rfl⟩
    by_cases h12 : 12 < a.length
    · have h12i : decide ((12 : Int) < (a.length : Int)) = true := by simp; omega
      go_wp2_with fail
      go_ret
      exact ⟨by simp, HB5.out⟩
    · have h12i : decide ((12 : Int) < (a.length : Int)) = false := by simp; omega
      have hs := root_any _ _ w5 (HA.out.below HB5.out) (by omega)
      have HS := Lib.hid hs
      clear hs
      go_wp2_with fail
      (with_reducible refine HS.out.mono ?_); rintro e w6 ⟨v6, l6, rfl, hb6, hn6, s, hl6, hroot⟩
      rw [hl6] at hn6
      have HROOTs := Lib.hid hroot; clear hroot
      have HB6 := Lib.hid (HB5.out.trans (hb6.mono HB5.out.size))
      have X := Lib.hid (X.out.below hb6)
      have Y := Lib.hid (Y.out.below hb6)
      have R := Lib.hid hn6
      clear hn6 hl6 hb6
      have LR : Hid ((wd (s)).length ≤ 40) := Lib.hid (by have h1 := HROOTs.out.1; have h2 := Nat.le_mul_self s; have := hwa; have := wd_length_mono (Nat.le_trans h2 h1); omega)
      have hs := rroot_any _ _ w6 (HA.out.below HB6.out) (by omega)
      have HS := Lib.hid hs
      clear hs
      go_wp2_with fail
      (with_reducible refine HS.out.mono ?_); rintro e w7 ⟨v7, l7, rfl, hb7, hn7, t, hl7, hroot⟩
      rw [hl7] at hn7
      have HROOTt := Lib.hid hroot; clear hroot
      have HB7 := Lib.hid (HB6.out.trans (hb7.mono HB6.out.size))
      have X := Lib.hid (X.out.below hb7)
      have Y := Lib.hid (Y.out.below hb7)
      have R := Lib.hid (R.out.below hb7)
      have R2 := Lib.hid hn7
      clear hn7 hl7 hb7
      obtain rfl : s = t := HROOTs.out.unique HROOTt.out
      have hs := words_same _ _ _ w7 R.out R2.out (Nat.le_trans LR.out (by decide))
      have HS := Lib.hid hs
      clear hs
      go_wp2_with fail
      (with_reducible refine HS.out.mono ?_); rintro e w8 ⟨rfl, hb8⟩
      have HB8 := Lib.hid (HB7.out.trans (hb8.mono HB7.out.size))
      have X := Lib.hid (X.out.below hb8)
      have Y := Lib.hid (Y.out.below hb8)
      have R := Lib.hid (R.out.below hb8)
      have R2 := Lib.hid (R2.out.below hb8)
      clear hb8
      go_wp2_with fail
      go_ret
      exact ⟨by simp, HB8.out⟩
end Go.Proofs.YtdepoikifneggaaDoor
