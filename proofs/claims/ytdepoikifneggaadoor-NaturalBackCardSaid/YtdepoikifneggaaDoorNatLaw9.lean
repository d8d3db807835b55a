/-
  NaturalBack: the walk of the statement.
  Conditions: the texts are no longer than a machine's.
-/
import Derived.Test.YtdepoikifneggaaDoorNat25
import Derived.Test.YtdepoikifneggaaDoorNatMath13
import Derived.Test.YtdepoikifneggaaDoorNatLaw1
namespace Go.Proofs.YtdepoikifneggaaDoor
open Go.RowKit Go.ChangeShapes Go.WideShapes

set_option maxRecDepth 100000 in
set_option maxHeartbeats 8000000 in
theorem back_walk' (va : Value) (a : List Nat) (l : List UInt8) (w : World) (ha : Num w va a) (hs : l.length ≤ 9223372036854775807) :
    Calls Tryd.prog 12 #[va, .string ⟨l.toArray⟩] w (RetV w (.bool true)) := by
  obtain ⟨ao, ca, rfl, hca, hca2, _⟩ := ha.shape
  have HA := Lib.hid ha
  clear ha
  by_cases hbig : 40 < a.length
  · have hbf : decide (40 < a.length) = true := decide_eq_true hbig
    have HBIG := Lib.hid hbf; clear hbf
    go_enter Tryd.func12, Tryd.ntmps12
    go_wp2_with fail
    (with_reducible refine (awake_any _).mono ?_); rintro e w1 ⟨rfl, hb1⟩
    have hla := large1 (.slice ao a.length ca) a w1 22 (HA.out.below hb1)
    rw [HBIG.out] at hla
    have HLA := Lib.hid hla; clear hla
    go_wp2_with fail
    (with_reducible refine HLA.out.mono ?_); rintro e w2 ⟨rfl, rfl⟩
    go_wp2_with fail
    (with_reducible refine (awake_any _).mono ?_); rintro e w3 ⟨rfl, hb3⟩
    go_wp2_with fail
    go_ret
    exact ⟨rfl, (hb1.alloc hb1.size _).trans (hb3.mono (by have := hb1.size; simp; omega))⟩
  · by_cases h4 : 400 < l.length
    · have f1 : decide ((400 : Int) < (l.length : Int)) = true := decide_eq_true (by omega)
      have hbf : decide (40 < a.length) = false := decide_eq_false hbig
      have HBIG := Lib.hid hbf; clear hbf
      go_enter Tryd.func12, Tryd.ntmps12
      go_wp2_with fail
      (with_reducible refine (awake_any _).mono ?_); rintro e w1 ⟨rfl, hb1⟩
      have hla := large1 (.slice ao a.length ca) a w1 22 (HA.out.below hb1)
      rw [HBIG.out] at hla
      have HLA := Lib.hid hla; clear hla
      go_wp2_with fail
      (with_reducible refine HLA.out.mono ?_); rintro e w2 ⟨rfl, rfl⟩
      go_wp2_with fail
      (with_reducible refine (awake_any _).mono ?_); rintro e w3 ⟨rfl, hb3⟩
      go_wp2_with fail
      go_ret
      exact ⟨rfl, (hb1.alloc hb1.size _).trans (hb3.mono (by have := hb1.size; simp; omega))⟩
    · have f1 : decide ((400 : Int) < (l.length : Int)) = false := decide_eq_false (by omega)
      by_cases hpc : parC l = 0
      · have HPC := Lib.hid hpc; clear hpc
        have hs0 := hs
        have hdl : (decL (val a)).length ≤ 65536 := by have := decL_words (n := val a) (k := 40) (Nat.le_trans (wd_length_le HA.out.lt) (by omega)) (by decide); omega
        have HDL := Lib.hid hdl
        have HVL := Lib.hid (parV_len (l := l) (K := 400) (by omega))
        clear hdl
        have hbf : decide (40 < a.length) = false := decide_eq_false hbig
        have HBIG := Lib.hid hbf; clear hbf
        go_enter Tryd.func12, Tryd.ntmps12
        go_wp2_with fail
        (with_reducible refine (awake_any _).mono ?_); rintro e w1 ⟨rfl, hb1⟩
        have hla := large1 (.slice ao a.length ca) a w1 22 (HA.out.below hb1)
        rw [HBIG.out] at hla
        have HLA := Lib.hid hla; clear hla
        go_wp2_with fail
        (with_reducible refine HLA.out.mono ?_); rintro e w2 ⟨rfl, rfl⟩
        have HB2 := Lib.hid (hb1.alloc hb1.size (.cells #[.slice ao a.length ca] 22))
        obtain ⟨w2, hw2⟩ : ∃ w2, w2 = w1.alloc (.cells #[.slice ao a.length ca] 22) := ⟨_, rfl⟩
        rw [← hw2] at HB2 ⊢
        clear hw2 hb1
        have hwa := wd_length_le HA.out.lt
        have hs := text_any _ a w2 (HA.out.below HB2.out) (by omega)
        rw [decB_decL] at hs
        have HS := Lib.hid hs
        clear hs
        go_wp2_with fail
        (with_reducible refine HS.out.mono ?_); rintro e w3 ⟨rfl, hb3⟩
        have HB3 := Lib.hid (HB2.out.trans (hb3.mono HB2.out.size))
        clear hb3
        have LX : Hid ((wd (val a)).length ≤ 40) := Lib.hid (by omega)
        have hs := parse_any (decL (val a)) w3 (by have := HDL.out; omega)
        rw [(parC_decL HDL.out).1, (parC_decL HDL.out).2, errV_zero] at hs
        have HS := Lib.hid hs
        clear hs
        go_wp2_with fail
        (with_reducible refine HS.out.mono ?_); rintro e w4 ⟨v4, rfl, hb4, hn4⟩
        have HB4 := Lib.hid (HB3.out.trans (hb4.mono HB3.out.size))
        have X := Lib.hid hn4
        clear hn4 hb4
        have hs := cmp_any _ _ _ _ w4 X.out (HA.out.below HB4.out) (Nat.le_trans LX.out (by decide)) (by omega)
        simp only [val_wd] at hs; rw [cmpN_eq rfl] at hs
        have HS := Lib.hid hs
        clear hs
        go_wp2_with fail
        (with_reducible refine HS.out.mono ?_); rintro e w5 ⟨rfl, hb5⟩
        have HB5 := Lib.hid (HB4.out.trans (hb5.mono HB4.out.size))
        have X := Lib.hid (X.out.below hb5)
        clear hb5
        have hs := clean_any _ _ w5 X.out
        have HS := Lib.hid hs
        clear hs
        go_wp2_with fail
        (with_reducible refine HS.out.mono ?_); rintro e w6 ⟨rfl, hb6⟩
        have HB6 := Lib.hid (HB5.out.trans (hb6.mono HB5.out.size))
        have X := Lib.hid (X.out.below hb6)
        clear hb6
        have hs := parse_any l w6 hs0
        rw [HPC.out, errV_zero] at hs
        have HS := Lib.hid hs
        clear hs
        go_wp2_with fail
        (with_reducible refine HS.out.mono ?_); rintro e w7 ⟨v7, rfl, hb7, hn7⟩
        have HB7 := Lib.hid (HB6.out.trans (hb7.mono HB6.out.size))
        have X := Lib.hid (X.out.below hb7)
        have Y := Lib.hid hn7
        clear hn7 hb7
        have hs := text_any _ (wd (parV l)) w7 Y.out (by have := HVL.out; omega)
        rw [val_wd, decB_decL, decL_parV HPC.out] at hs
        have HS := Lib.hid hs
        clear hs
        go_wp2_with fail
        (with_reducible refine HS.out.mono ?_); rintro e w8 ⟨rfl, hb8⟩
        have HB8 := Lib.hid (HB7.out.trans (hb8.mono HB7.out.size))
        have X := Lib.hid (X.out.below hb8)
        have Y := Lib.hid (Y.out.below hb8)
        clear hb8
        go_wp2_with fail
        go_ret
        exact ⟨by simp, HB8.out⟩
      · have HPC := Lib.hid hpc; clear hpc
        have hs0 := hs
        have hdl : (decL (val a)).length ≤ 65536 := by have := decL_words (n := val a) (k := 40) (Nat.le_trans (wd_length_le HA.out.lt) (by omega)) (by decide); omega
        have HDL := Lib.hid hdl
        have HVL := Lib.hid (parV_len (l := l) (K := 400) (by omega))
        clear hdl
        have hbf : decide (40 < a.length) = false := decide_eq_false hbig
        have HBIG := Lib.hid hbf; clear hbf
        go_enter Tryd.func12, Tryd.ntmps12
        go_wp2_with fail
        (with_reducible refine (awake_any _).mono ?_); rintro e w1 ⟨rfl, hb1⟩
        have hla := large1 (.slice ao a.length ca) a w1 22 (HA.out.below hb1)
        rw [HBIG.out] at hla
        have HLA := Lib.hid hla; clear hla
        go_wp2_with fail
        (with_reducible refine HLA.out.mono ?_); rintro e w2 ⟨rfl, rfl⟩
        have HB2 := Lib.hid (hb1.alloc hb1.size (.cells #[.slice ao a.length ca] 22))
        obtain ⟨w2, hw2⟩ : ∃ w2, w2 = w1.alloc (.cells #[.slice ao a.length ca] 22) := ⟨_, rfl⟩
        rw [← hw2] at HB2 ⊢
        clear hw2 hb1
        have hwa := wd_length_le HA.out.lt
        have hs := text_any _ a w2 (HA.out.below HB2.out) (by omega)
        rw [decB_decL] at hs
        have HS := Lib.hid hs
        clear hs
        go_wp2_with fail
        (with_reducible refine HS.out.mono ?_); rintro e w3 ⟨rfl, hb3⟩
        have HB3 := Lib.hid (HB2.out.trans (hb3.mono HB2.out.size))
        clear hb3
        have LX : Hid ((wd (val a)).length ≤ 40) := Lib.hid (by omega)
        have hs := parse_any (decL (val a)) w3 (by have := HDL.out; omega)
        rw [(parC_decL HDL.out).1, (parC_decL HDL.out).2, errV_zero] at hs
        have HS := Lib.hid hs
        clear hs
        go_wp2_with fail
        (with_reducible refine HS.out.mono ?_); rintro e w4 ⟨v4, rfl, hb4, hn4⟩
        have HB4 := Lib.hid (HB3.out.trans (hb4.mono HB3.out.size))
        have X := Lib.hid hn4
        clear hn4 hb4
        have hs := cmp_any _ _ _ _ w4 X.out (HA.out.below HB4.out) (Nat.le_trans LX.out (by decide)) (by omega)
        simp only [val_wd] at hs; rw [cmpN_eq rfl] at hs
        have HS := Lib.hid hs
        clear hs
        go_wp2_with fail
        (with_reducible refine HS.out.mono ?_); rintro e w5 ⟨rfl, hb5⟩
        have HB5 := Lib.hid (HB4.out.trans (hb5.mono HB4.out.size))
        have X := Lib.hid (X.out.below hb5)
        clear hb5
        have hs := clean_any _ _ w5 X.out
        have HS := Lib.hid hs
        clear hs
        go_wp2_with fail
        (with_reducible refine HS.out.mono ?_); rintro e w6 ⟨rfl, hb6⟩
        have HB6 := Lib.hid (HB5.out.trans (hb6.mono HB5.out.size))
        have X := Lib.hid (X.out.below hb6)
        clear hb6
        have hs := parse_any l w6 hs0
        rw [errV_pos HPC.out, parV_zero HPC.out] at hs
        have HS := Lib.hid hs
        clear hs
        go_wp2_with fail
        (with_reducible refine HS.out.mono ?_); rintro e w7 ⟨v7, rfl, hb7, hn7⟩
        have HB7 := Lib.hid (HB6.out.trans (hb7.mono HB6.out.size))
        have X := Lib.hid (X.out.below hb7)
        have Y := Lib.hid hn7
        clear hn7 hb7
        have hY := Y.out; rw [wd_zero] at hY
        obtain ⟨yo, cy, rfl, _, _, _⟩ := hY.shape
        clear hY; rw [List.length_nil] at Y ⊢
        go_wp2_with fail
        go_ret
        exact ⟨by simp, HB7.out⟩
theorem back_walk (va : Value) (a : List Nat) (s : ByteArray) (w : World) (ha : Num w va a) (hs : s.size ≤ 9223372036854775807) :
    Calls Tryd.prog 12 #[va, .string s] w (RetV w (.bool true)) := by
  have e : s = ⟨s.data.toList.toArray⟩ := by apply ByteArray.ext; simp
  have h2 : s.data.toList.length ≤ 9223372036854775807 := by have : s.data.toList.length = s.size := rfl; omega
  rw [e]
  exact back_walk' va a s.data.toList w ha h2
end Go.Proofs.YtdepoikifneggaaDoor
