/-
  natural.Power and the reference's: what they hand back.
  Conditions: each theorem's own.
-/
import Derived.Test.YtdepoikifneggaaDoorNat15
namespace Go.Proofs.YtdepoikifneggaaDoor
open Go.RowKit Go.ChangeShapes Go.WideShapes

/-- the error of a power -/
def powC (A : Nat) (n : Int) : Nat := if n < 0 ∨ 1024 < n then 3 else if 1024 < (wd A).length ∨ 131072 < blen A * n.toNat then 4 else 0
/-- a power, 0 where there is an error -/
def powV (A : Nat) (n : Int) : Nat := if powC A n = 0 then A ^ n.toNat else 0
theorem wraps_i64 (n : Int) (h₀ : 0 ≤ n) (h₁ : n < 2 ^ 63) : IntKind.i64.wrap n = n := by rw [IntKind.wrap_i64]; omega
theorem odd_test (m : Nat) (hm : m < 9223372036854775808) : bits .and .i64 (m : Int) 1 = ((m % 2 : Nat) : Int) := by
  have h := bits_mask .i64 63 (by decide) wraps_i64 1 (by decide) (m : Int) (by omega) (by omega)
  rw [show ((2 : Int) ^ 1 - 1) = 1 from rfl] at h
  rw [h]; simp
theorem pow_len' {A n k : Nat} (h : blen A * n < 32 * k) : (wd (A ^ n)).length ≤ k := by
  apply wd_length_of_lt
  have h1 : A ^ n ≤ (2 ^ blen A) ^ n := Nat.pow_le_pow_left (Nat.le_of_lt (lt_two_blen A)) n
  rw [← Nat.pow_mul] at h1
  rw [pow32]
  exact Nat.lt_of_le_of_lt h1 (Nat.pow_lt_pow_right (by decide) h)
theorem pow_len {A n : Nat} (h : blen A * n ≤ 131072) : (wd (A ^ n)).length ≤ 4097 := pow_len' (by omega)
theorem blen_wd_len (A : Nat) : blen A ≤ 32 * (wd A).length := by
  have := blen_le_len (u32_wd A)
  rwa [val_wd] at this
/-- how the square-and-multiply loop goes on -/
theorem pow_half (X m : Nat) : X ^ m = X ^ (m % 2) * (X * X) ^ (m / 2) := by
  rw [← Nat.pow_two, ← Nat.pow_mul, ← Nat.pow_add]; congr 1; omega
/-- the bounds of the loop -/
theorem pow_bounds {O X m N A : Nat} (h : O * X ^ m = N) (hX : X ≤ max N A) (hA : N = 0 → A = 0) (hm : 1 ≤ m) : O * X ≤ max N 1 ∧ (1 < m → X * X ≤ max N A) := by
  by_cases hN : N = 0
  · have hA0 := hA hN
    have hX0 : X = 0 := by omega
    subst hX0
    simp
  · have hO1 : 1 ≤ O := by
      rcases Nat.eq_zero_or_pos O with g | g
      · rw [g, Nat.zero_mul] at h; omega
      · exact g
    have hX1 : 1 ≤ X := by
      rcases Nat.eq_zero_or_pos X with g | g
      · rw [g, Nat.zero_pow hm, Nat.mul_zero] at h; omega
      · exact g
    have h1 : ∀ k, k ≤ m → X ^ k ≤ X ^ m := fun k hk => Nat.pow_le_pow_right hX1 hk
    constructor
    · have := Nat.mul_le_mul_left O (h1 1 hm)
      rw [Nat.pow_one] at this; omega
    · intro h2
      have g1 := h1 2 h2
      rw [Nat.pow_two] at g1
      have g2 := Nat.le_mul_of_pos_left (X ^ m) hO1
      omega

set_option maxRecDepth 100000 in
set_option maxHeartbeats 1600000 in
theorem power_err (va : Value) (n : Int) (w : World) (hn : n < 0 ∨ 1024 < n) :
    Calls Tryd.prog 42 #[va, .int .i64 n] w (RetNE w 0 (errV 3)) := by
  rw [errV_pos (by decide)]
  rcases Int.lt_or_le n 0 with h | h
  · have h1 : decide (n < 0) = true := by simp; omega
    clear hn
    go_enter Tryd.func42, Tryd.ntmps42
    go_wp2_with fail
    go_ret2
    exact ⟨_, rfl, Below.refl _ _, by rw [wd_zero]; exact Num.nil _⟩
  · have h1 : decide (n < 0) = false := by simp; omega
    have h2 : decide (1024 < n) = true := by simp; omega
    clear hn
    go_enter Tryd.func42, Tryd.ntmps42
    go_wp2_with fail
    go_ret2
    exact ⟨_, rfl, Below.refl _ _, by rw [wd_zero]; exact Num.nil _⟩

set_option maxRecDepth 100000 in
set_option maxHeartbeats 1600000 in
theorem power_large (va : Value) (a : List Nat) (n : Nat) (w : World) (ha : Num w va a) (hla : a.length ≤ 800000) (hn : n ≤ 1024) (hbig : 1024 < (wd (val a)).length ∨ 131072 < blen (val a) * n) :
    Calls Tryd.prog 42 #[va, .int .i64 n] w (RetNE w 0 (errV 4)) := by
  rw [errV_pos (by decide)]
  have hwl := wd_length_le ha.lt
  have h1 : decide ((n : Int) < 0) = false := by simp
  have h2 : decide ((1024 : Int) < (n : Int)) = false := by simp; omega
  have HBIG := Lib.hid hbig; clear hbig
  go_enter Tryd.func42, Tryd.ntmps42
  go_wp2_with fail
  (with_reducible refine (trim_any _ _ _ ha (by omega)).mono ?_); rintro e w1 ⟨v1, l1, rfl, hb1, hn1, hl1⟩
  rw [hl1] at hn1
  obtain ⟨ao, ca, rfl, hca, hca2, _⟩ := hn1.shape
  obtain ⟨L, hL⟩ : ∃ L, L = (wd (val a)).length := ⟨_, rfl⟩
  rw [← hL] at hca hwl ⊢
  have HL := Lib.hid hL; have HN1 := Lib.hid hn1; have HB1 := Lib.hid hb1
  clear hL hn1 hl1 ha hb1
  by_cases hL1 : 1024 < L
  · have h3 : decide ((1024 : Int) < (L : Int)) = true := by simp; omega
    go_wp2_with fail
    go_ret2
    exact ⟨_, rfl, HB1.out, by rw [wd_zero]; exact Num.nil _⟩
  · have h3 : decide ((1024 : Int) < (L : Int)) = false := by simp; omega
    have hbits := bits_any _ _ w1 HN1.out (by rw [← HL.out]; omega)
    rw [val_wd, ← HL.out] at hbits
    have hbl := blen_wd_len (val a)
    rw [← HL.out] at hbl
    have hpr : 131072 < blen (val a) * n := by rcases HBIG.out with h | h <;> first | (rw [← HL.out] at h; omega) | exact h
    have hpl : blen (val a) * n ≤ 32768 * 1024 := Nat.mul_le_mul (by omega) hn
    obtain ⟨bl, hble⟩ : ∃ bl, bl = blen (val a) := ⟨_, rfl⟩
    obtain ⟨p, hp⟩ : ∃ p, p = bl * n := ⟨_, rfl⟩
    rw [← hble] at hbits hpr hpl hbl
    rw [← hp] at hpr hpl
    have hpi : (bl : Int) * (n : Int) = (p : Int) := by rw [hp]; simp
    have h4 : decide ((131072 : Int) < (p : Int)) = true := by simp; omega
    have HB := Lib.hid hbits
    clear hbits hble hp
    go_wp2_with fail
    (with_reducible refine HB.out.mono ?_); rintro e wx ⟨rfl, rfl⟩
    go_wp2_with fail
    go_ret2
    exact ⟨_, rfl, HB1.out, by rw [wd_zero]; exact Num.nil _⟩

set_option maxRecDepth 100000 in
set_option maxHeartbeats 4000000 in
theorem power_ok (va : Value) (a : List Nat) (n : Nat) (w : World) (ha : Num w va a) (hla : a.length ≤ 800000) (hn : n ≤ 1024) (hL : (wd (val a)).length ≤ 1024) (hbn : blen (val a) * n ≤ 131072) :
    Calls Tryd.prog 42 #[va, .int .i64 n] w (RetNE w (val a ^ n) (errV 0)) := by
  rw [errV_zero]
  have h1 : decide ((n : Int) < 0) = false := by simp
  have h2 : decide ((1024 : Int) < (n : Int)) = false := by simp; omega
  have hNl := pow_len hbn
  obtain ⟨A, hA⟩ : ∃ A, A = val a := ⟨_, rfl⟩
  rw [← hA] at hL hbn hNl ⊢
  have HA := Lib.hid hA; clear hA
  obtain ⟨N, hN⟩ : ∃ N, N = A ^ n := ⟨_, rfl⟩
  rw [← hN] at hNl ⊢
  have hNA : N = 0 → A = 0 := fun h => by rw [hN] at h; exact Nat.pow_eq_zero.1 h |>.1
  have HN := Lib.hid hN; have HNA := Lib.hid hNA; clear hN hNA
  have hbl := blen_wd_len A
  go_enter Tryd.func42, Tryd.ntmps42
  go_wp2_with fail
  (with_reducible refine (trim_any _ _ _ ha (by omega)).mono ?_); rintro e w1 ⟨v1, l1, rfl, hb1, hn1, hl1⟩
  rw [hl1, ← HA.out] at hn1
  have hbits := bits_any _ _ w1 hn1 (by omega)
  rw [val_wd] at hbits
  obtain ⟨ao, ca, rfl, hca, hca2, _⟩ := hn1.shape
  obtain ⟨L, hLe⟩ : ∃ L, L = (wd A).length := ⟨_, rfl⟩
  rw [← hLe] at hca hL hbl hbits ⊢
  have h3 : decide ((1024 : Int) < (L : Int)) = false := by simp; omega
  obtain ⟨bl, hble⟩ : ∃ bl, bl = blen A := ⟨_, rfl⟩
  obtain ⟨p, hp⟩ : ∃ p, p = bl * n := ⟨_, rfl⟩
  rw [← hble] at hbits hbn hbl
  rw [← hp] at hbn
  have hpi : (bl : Int) * (n : Int) = (p : Int) := by rw [hp]; simp
  have h4 : decide ((131072 : Int) < (p : Int)) = false := by simp; omega
  have HL := Lib.hid hLe; have HN1 := Lib.hid hn1; have HB1 := Lib.hid hb1; have HB := Lib.hid hbits
  clear hLe hn1 hl1 ha hb1 hbits hble hp
  go_wp2_with fail
  (with_reducible refine HB.out.mono ?_); rintro e wx ⟨rfl, rfl⟩
  go_wp2_with fail
  clear hpi h1 h2 h3 h4
  have hone := num_one w1 38 1 (by decide)
  rw [← wd_one (n := 1) (by decide) (by decide), show ((1 : Nat) : Int) = 1 from rfl] at hone
  have HONE := Lib.hid hone; clear hone
  have HN1 := Lib.hid (HN1.out.below ((Below.refl _ _).alloc (Nat.le_refl _) (.cells #[.int .u32 1] 38)))
  have hsz := HB1.out.size
  rw [← HL.out] at HN1
  go_loopw [0, 1, 6] (fun xv mv ov wr => ∃ X m O : Nat, Num wr xv (wd X) ∧ mv = .int .i64 m ∧ m ≤ 1024 ∧ Num wr ov (wd O) ∧ Below w.heap.size w wr ∧ Hid (O * X ^ m = N) ∧ Hid (O ≤ max N 1) ∧ Hid (X ≤ max N A)) (fun _ mv _ _ => (intOf mv).toNat)
  case atStart => exact ⟨A, n, 1, HN1.out, rfl, hn, HONE.out, HB1.out.alloc hsz _, Lib.hid (by rw [Nat.one_mul, ← HN.out]), Lib.hid (by omega), Lib.hid (by omega)⟩
  case round =>
    obtain ⟨X, m, O, hnx, rfl, hm, hno, hBr, hinv, hO, hX⟩ := hrel
    by_cases hm0 : m = 0
    · subst hm0
      have hON : O = N := by have := hinv.out; rw [Nat.pow_zero, Nat.mul_one] at this; exact this
      have HON := Lib.hid hON; have HNO := Lib.hid hno
      clear hnx hON hno
      go_wp2_with fail
      go_ret2
      exact ⟨_, rfl, hBr, by rw [← HON.out]; exact HNO.out⟩
    · obtain ⟨g1, g2⟩ := pow_bounds hinv.out hX.out HNA.out (show 1 ≤ m by omega)
      have hAl : (wd A).length ≤ 1024 := by rw [← HL.out]; exact hL
      have hXl : (wd X).length ≤ 4097 := by
        have h1 := wd_length_mono hX.out
        rcases Nat.le_total N A with h | h
        · rw [Nat.max_eq_right h] at h1; omega
        · rw [Nat.max_eq_left h] at h1; omega
      have hOl : (wd O).length ≤ 4097 := by
        have h1 := wd_length_mono hO.out
        rcases Nat.le_total N 1 with h | h
        · rw [Nat.max_eq_right h, wd_one (n := 1) (by decide) (by decide)] at h1; simp at h1; omega
        · rw [Nat.max_eq_left h] at h1; omega
      have hot := odd_test m (by omega)
      have hm2 : (m : Int) / 2 = ((m / 2 : Nat) : Int) := by omega
      have HNX := Lib.hid hnx; have HNO := Lib.hid hno; have G1 := Lib.hid g1; have G2 := Lib.hid g2
      clear hnx hno g1 g2
      obtain ⟨q, hq⟩ : ∃ q, q = m / 2 := ⟨_, rfl⟩
      rw [← hq] at hm2
      have hqm : q ≤ 1024 ∧ q < m := by omega
      obtain ⟨hq1, hq2⟩ := hqm
      have HQ := Lib.hid hq
      clear hq
      have hmu1 := mul_any _ _ _ _ wr HNO.out HNX.out (by omega) (by omega)
      rw [val_wd, val_wd] at hmu1
      have HMU1 := Lib.hid hmu1; clear hmu1
      by_cases hodd : m % 2 = 1
      · rw [hodd] at hot
        by_cases hm1 : m = 1
        · subst hm1
          have hq0 : q = 0 := by rw [HQ.out]
          subst hq0
          have hi1 : O * X * X ^ 0 = N := by have := hinv.out; rw [Nat.pow_one] at this; rw [Nat.pow_zero, Nat.mul_one]; exact this
          have HI1 := Lib.hid hi1
          clear hi1 hodd
          go_wp2_with fail
          (with_reducible refine HMU1.out.mono ?_); rintro e w2 ⟨v2, l2, rfl, hb2, hn2, hl2⟩
          rw [hl2] at hn2
          have HN2 := Lib.hid hn2; have HNX := Lib.hid (HNX.out.below hb2)
          clear hn2 hl2
          go_wp2_with fail
          go_roundw
          case rel => exact ⟨X, 0, O * X, HNX.out, rfl, by omega, HN2.out, hBr.trans (hb2.mono hBr.size), HI1, G1, hX⟩
          case measure => simp [intOf]
        · have hm1d : decide ((1 : Int) < (m : Int)) = true := by simp; omega
          have hi1 : O * X * (X * X) ^ q = N := by
            have := hinv.out; rw [pow_half X m, hodd, Nat.pow_one, ← HQ.out, ← Nat.mul_assoc] at this; exact this
          have HI1 := Lib.hid hi1; have G2 := Lib.hid (G2.out (by omega))
          clear hi1 hodd
          go_wp2_with fail
          (with_reducible refine HMU1.out.mono ?_); rintro e w2 ⟨v2, l2, rfl, hb2, hn2, hl2⟩
          rw [hl2] at hn2
          have HN2 := Lib.hid hn2; have HNX := Lib.hid (HNX.out.below hb2)
          have hmu2 := mul_any _ _ _ _ w2 HNX.out HNX.out (by omega) (by omega)
          rw [val_wd] at hmu2
          have HMU2 := Lib.hid hmu2
          clear hn2 hl2 hmu2
          go_wp2_with fail
          (with_reducible refine HMU2.out.mono ?_); rintro e w3 ⟨v3, l3, rfl, hb3, hn3, hl3⟩
          rw [hl3] at hn3
          have HN3 := Lib.hid hn3; have HN2 := Lib.hid (HN2.out.below hb3)
          have hB3 := (hBr.trans (hb2.mono hBr.size))
          have hB4 := hB3.trans (hb3.mono hB3.size)
          clear hn3 hl3
          go_wp2_with fail
          go_roundw
          case rel => exact ⟨X * X, q, O * X, HN3.out, rfl, hq1, HN2.out, hB4, HI1, G1, G2⟩
          case measure => simp [intOf]; omega
      · have hev : m % 2 = 0 := by omega
        rw [hev] at hot
        have hm1d : decide ((1 : Int) < (m : Int)) = true := by simp; omega
        have hi1 : O * (X * X) ^ q = N := by
          have := hinv.out; rw [pow_half X m, hev, Nat.pow_zero, Nat.one_mul, ← HQ.out] at this; exact this
        have HI1 := Lib.hid hi1; have G2 := Lib.hid (G2.out (by omega))
        have hmu2 := mul_any _ _ _ _ wr HNX.out HNX.out (by omega) (by omega)
        rw [val_wd] at hmu2
        have HMU2 := Lib.hid hmu2
        clear hi1 hodd hev hmu2
        go_wp2_with fail
        (with_reducible refine HMU2.out.mono ?_); rintro e w3 ⟨v3, l3, rfl, hb3, hn3, hl3⟩
        rw [hl3] at hn3
        have HN3 := Lib.hid hn3; have HNO := Lib.hid (HNO.out.below hb3)
        have hB3 := (hBr.trans (hb3.mono hBr.size))
        clear hn3 hl3
        go_wp2_with fail
        go_roundw
        case rel => exact ⟨X * X, q, O, HN3.out, rfl, hq1, HNO.out, hB3, HI1, hO, G2⟩
        case measure => simp [intOf]; omega
end Go.Proofs.YtdepoikifneggaaDoor
