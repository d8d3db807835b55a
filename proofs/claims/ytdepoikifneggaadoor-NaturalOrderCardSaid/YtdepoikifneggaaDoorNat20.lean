/-
  The reference's Root: what it hands back.
  Conditions: each theorem's own.
-/
import Derived.Test.YtdepoikifneggaaDoorNat19
import Derived.Test.YtdepoikifneggaaDoorNat13
namespace Go.Proofs.YtdepoikifneggaaDoor
open Go.RowKit Go.ChangeShapes Go.WideShapes

theorem root_start {A B : Nat} (h : A < 2 ^ B) : A < (0 + 2 ^ (B / 2 + 1)) * (0 + 2 ^ (B / 2 + 1)) := by
  rw [Nat.zero_add, ← Nat.pow_add]
  exact Nat.lt_of_lt_of_le h (Nat.pow_le_pow_right (by decide) (by omega))
theorem root_half (s i : Nat) : s + 2 ^ (i + 1) = s + 2 ^ i + 2 ^ i := by rw [Nat.pow_succ]; omega

theorem pow2_len' {i k : Nat} (h : i < 32 * k) : (wd (2 ^ i)).length ≤ k := by
  apply wd_length_of_lt
  rw [pow32]; exact Nat.pow_lt_pow_right (by decide) h
theorem num_empty (w : World) (ad : Addr) : Num w (.slice (some ad) 0 0) [] :=
  ⟨some ad, 0, rfl, by simp, by omega, by simp, fun b off s h => ⟨fun h0 => absurd h0 (by simp), fun j hj => absurd hj (by simp)⟩, fun j => by simp [gd]⟩
theorem one_shift {i : Nat} (h : i ≤ 131072) : shiftV 1 (i : Int) = 2 ^ i ∧ shiftC (i : Int) = 0 := by
  unfold shiftV shiftC
  have h1 : ¬ ((i : Int) < -131072 ∨ 131072 < (i : Int)) := by omega
  have h2 : (0 : Int) ≤ (i : Int) := by omega
  simp only [if_neg h1, if_pos h2, Int.toNat_natCast, Nat.one_mul, and_self]
theorem cmpN_le0 (m n : Nat) : decide (cmpN m n ≤ 0) = decide (m ≤ n) := by
  rcases Nat.lt_trichotomy m n with h | h | h
  · rw [cmpN_lt h, decide_eq_true (show m ≤ n by omega)]; rfl
  · rw [cmpN_eq h, decide_eq_true (show m ≤ n by omega)]; rfl
  · rw [cmpN_gt h, decide_eq_false (show ¬ m ≤ n by omega)]; rfl

set_option maxRecDepth 100000 in
set_option maxHeartbeats 1600000 in
theorem rroot_any (va : Value) (a : List Nat) (w : World) (ha : Num w va a) (hla : a.length ≤ 40) :
    Calls Tryd.prog 37 #[va] w (RetNum w fun r => ∃ s, r = wd s ∧ IsRoot (val a) s) := by
  have hbits := fun wx (h : Below w.heap.size w wx) => rbits_any va a wx (ha.below h) (by omega)
  have hbl := blen_le_len ha.lt
  have hend := lt_of_blen (n := val a) (b := blen (val a)) (Nat.le_refl _)
  have hwl := wd_length_le ha.lt
  obtain ⟨A, hA⟩ : ∃ A, A = val a := ⟨_, rfl⟩
  rw [← hA] at hbits hbl hend hwl ⊢
  obtain ⟨B, hB⟩ : ∃ B, B = blen A := ⟨_, rfl⟩
  rw [← hB] at hbits hbl hend
  have hBu : B ≤ 1280 := by omega
  have hst := root_start hend
  have hB2 : (B : Int) / 2 = ((B / 2 : Nat) : Int) := by omega
  obtain ⟨H, hH⟩ : ∃ H, H = B / 2 := ⟨_, rfl⟩
  have hHb : H ≤ 640 := by omega
  rw [← hH] at hst hB2
  have HBITS := Lib.hid hbits; have HA := Lib.hid hA; have HST := Lib.hid hst; have HNA := Lib.hid ha
  clear hbits hA hB hend ha hbl hst hH
  go_enter Tryd.func37, Tryd.ntmps37
  go_wp2_with fail
  (with_reducible refine (HBITS.out _ ((Below.refl _ _).alloc (Nat.le_refl _) _)).mono ?_); rintro e w1 ⟨rfl, rfl⟩
  go_wp2_with fail
  go_loopw [3, 4, 5, 6, 7] (fun rv iv _ _ _ wr => ∃ (j s : Nat), j ≤ H + 1 ∧ iv = .int .i64 ((j : Int) - 1) ∧ Num wr rv (wd s) ∧ Below w.heap.size w wr ∧ Hid (s * s ≤ A) ∧ Hid (A < (s + 2 ^ j) * (s + 2 ^ j))) (fun _ iv _ _ _ _ => (intOf iv + 1).toNat)
  case atStart => exact ⟨H + 1, 0, Nat.le_refl _, by go_num, by rw [wd_zero]; exact num_empty _ _, (Below.refl _ _).alloc (Nat.le_refl _) _, Lib.hid (Nat.zero_le _), HST⟩
  case round =>
    obtain ⟨j, s, hj, rfl, hr, hBr, hlo, hhi⟩ := hrel
    have HR := Lib.hid hr; have HBR := Lib.hid hBr
    clear hr hBr
    cases j with
    | zero =>
      rw [show ((0 : Nat) : Int) - 1 = -1 from rfl]
      have hroot : IsRoot A s := ⟨hlo.out, by have := hhi.out; rwa [Nat.pow_zero] at this⟩
      go_wp2_with fail
      go_ret
      exact ⟨_, _, rfl, HBR.out, HR.out, s, rfl, hroot⟩
    | succ i =>
      rw [show ((i + 1 : Nat) : Int) - 1 = (i : Int) from by omega]
      obtain ⟨hs1, hs2⟩ := one_shift (i := i) (by omega)
      have hsl : (wd s).length ≤ 40 := by
        have h1 := hlo.out; have h2 := Nat.le_mul_self s; have := wd_length_mono (Nat.le_trans h2 h1); omega
      have hpl : (wd (2 ^ i)).length ≤ 40 := pow2_len' (by omega)
      have hxl : (wd (s + 2 ^ i)).length ≤ 41 := by have := wd_add_len s (2 ^ i); omega
      have hxxl : (wd ((s + 2 ^ i) * (s + 2 ^ i))).length ≤ 82 := by have := wd_mul_len (s + 2 ^ i) (s + 2 ^ i); omega
      have hhi2 := hhi.out
      rw [root_half] at hhi2
      have HHI := Lib.hid hhi2; have HS1 := Lib.hid hs1; have HS2 := Lib.hid hs2
      clear hhi2 hs1 hs2
      go_wp2_with fail
      (with_reducible refine (rof_any 1 _ (by decide) (by decide)).mono ?_); rintro e w1 ⟨v1, l1, rfl, hb1, hn1, hl1⟩
      rw [hl1, show (1 : Int).toNat = 1 from rfl] at hn1
      have HB1 := Lib.hid (HBR.out.trans (hb1.mono HBR.out.size)); have HR1 := Lib.hid (HR.out.below hb1)
      have h1l : (wd 1).length ≤ 800000 := by rw [wd_one (by decide) (by decide)]; simp
      have hs := rshift_any v1 (wd 1) (i : Int) w1 hn1 h1l
      rw [val_wd, HS1.out, HS2.out] at hs
      have HS := Lib.hid hs
      clear hs hn1 hl1 hb1 h1l
      go_wp2_with fail
      (with_reducible refine HS.out.mono ?_); rintro e w2 ⟨v2, rfl, hb2, hn2⟩
      have HB2 := Lib.hid (HB1.out.trans (hb2.mono HB1.out.size)); have HR2 := Lib.hid (HR1.out.below hb2)
      have hs := radd_any _ _ _ _ w2 HR2.out hn2 (by omega) (by omega)
      rw [val_wd, val_wd] at hs
      have HS := Lib.hid hs
      clear hs hn2 hb2
      go_wp2_with fail
      (with_reducible refine HS.out.mono ?_); rintro e w3 ⟨v3, l3, rfl, hb3, hn3, hl3⟩
      rw [hl3] at hn3
      have HB3 := Lib.hid (HB2.out.trans (hb3.mono HB2.out.size)); have HR3 := Lib.hid (HR2.out.below hb3); have HN3 := Lib.hid hn3
      have hs := rmul_any _ _ _ _ w3 hn3 hn3 (by omega) (by omega)
      rw [val_wd] at hs
      have HS := Lib.hid hs
      clear hs hn3 hb3 hl3
      go_wp2_with fail
      (with_reducible refine HS.out.mono ?_); rintro e w4 ⟨v4, l4, rfl, hb4, hn4, hl4⟩
      rw [hl4] at hn4
      have HB4 := Lib.hid (HB3.out.trans (hb4.mono HB3.out.size)); have HR4 := Lib.hid (HR3.out.below hb4); have HN34 := Lib.hid (HN3.out.below hb4)
      have hs := rcmp_any _ _ _ _ w4 hn4 (HNA.out.below HB4.out) (by omega) (by omega)
      rw [val_wd, ← HA.out] at hs
      have hct := cmpN_le0 ((s + 2 ^ i) * (s + 2 ^ i)) A
      obtain ⟨c, hc⟩ : ∃ c, c = cmpN ((s + 2 ^ i) * (s + 2 ^ i)) A := ⟨_, rfl⟩
      rw [← hc] at hs hct
      have HS := Lib.hid hs
      clear hs hn4 hb4 hl4 hc
      by_cases hle : (s + 2 ^ i) * (s + 2 ^ i) ≤ A
      · rw [decide_eq_true hle] at hct
        have HLE := Lib.hid hle; clear hle
        go_wp2_with fail
        (with_reducible refine HS.out.mono ?_); rintro e wx ⟨rfl, rfl⟩
        go_wp2_with fail
        go_roundw
        case rel => exact ⟨i, s + 2 ^ i, by omega, by go_num, HN34.out, HB4.out, HLE, HHI⟩
        case measure => simp [intOf]
      · rw [decide_eq_false hle] at hct
        have hlt : A < (s + 2 ^ i) * (s + 2 ^ i) := by omega
        have HLT := Lib.hid hlt; clear hle hlt
        go_wp2_with fail
        (with_reducible refine HS.out.mono ?_); rintro e wx ⟨rfl, rfl⟩
        go_wp2_with fail
        go_roundw
        case rel => exact ⟨i, s, by omega, by go_num, HR4.out, HB4.out, hlo, HLT⟩
        case measure => simp [intOf]
end Go.Proofs.YtdepoikifneggaaDoor
