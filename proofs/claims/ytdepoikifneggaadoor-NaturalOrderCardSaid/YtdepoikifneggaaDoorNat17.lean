/-
  The reference's Power: what it hands back; both with their errors.
  Conditions: each theorem's own.
-/
import Derived.Test.YtdepoikifneggaaDoorNat16
namespace Go.Proofs.YtdepoikifneggaaDoor
open Go.RowKit Go.ChangeShapes Go.WideShapes

set_option maxRecDepth 100000 in
set_option maxHeartbeats 1600000 in
theorem rpower_err (va : Value) (n : Int) (w : World) (hn : n < 0 ∨ 1024 < n) :
    Calls Tryd.prog 43 #[va, .int .i64 n] w (RetNE w 0 (.int .i64 3)) := by
  rcases Int.lt_or_le n 0 with h | h
  · have h1 : decide (n < 0) = true := by simp; omega
    clear hn
    go_enter Tryd.func43, Tryd.ntmps43
    go_wp2_with fail
    go_ret2
    exact ⟨_, rfl, Below.refl _ _, by rw [wd_zero]; exact Num.nil _⟩
  · have h1 : decide (n < 0) = false := by simp; omega
    have h2 : decide (1024 < n) = true := by simp; omega
    clear hn
    go_enter Tryd.func43, Tryd.ntmps43
    go_wp2_with fail
    go_ret2
    exact ⟨_, rfl, Below.refl _ _, by rw [wd_zero]; exact Num.nil _⟩

set_option maxRecDepth 100000 in
set_option maxHeartbeats 1600000 in
theorem rpower_large (va : Value) (a : List Nat) (n : Nat) (w : World) (ha : Num w va a) (hla : a.length ≤ 800000) (hn : n ≤ 1024) (hbig : 1024 < (wd (val a)).length ∨ 131072 < blen (val a) * n) :
    Calls Tryd.prog 43 #[va, .int .i64 n] w (RetNE w 0 (.int .i64 4)) := by
  have hwl := wd_length_le ha.lt
  have h1 : decide ((n : Int) < 0) = false := by simp
  have h2 : decide ((1024 : Int) < (n : Int)) = false := by simp; omega
  have HBIG := Lib.hid hbig; clear hbig
  go_enter Tryd.func43, Tryd.ntmps43
  go_wp2_with fail
  (with_reducible refine (rtrim_any _ _ _ ha (by omega)).mono ?_); rintro e w1 ⟨v1, l1, rfl, hb1, hn1, hl1⟩
  rw [hl1] at hn1
  obtain ⟨ao, ca, rfl, hca, hca2, _⟩ := hn1.shape
  obtain ⟨L, hL⟩ : ∃ L, L = (wd (val a)).length := ⟨_, rfl⟩
  rw [← hL] at hca hwl ⊢
  have HL := Lib.hid hL; have HN1 := Lib.hid hn1; have HB1 := Lib.hid hb1
  clear hL hn1 hl1 ha hb1
  by_cases hL1 : 1024 < L
  · have h3 : decide ((1024 : Int) < (L : Int)) = true := by simp; omega
    go_wp2_with fail
    go_ret2
    exact ⟨_, rfl, HB1.out, by rw [wd_zero]; exact Num.nil _⟩
  · have h3 : decide ((1024 : Int) < (L : Int)) = false := by simp; omega
    have hbits := rbits_any _ _ w1 HN1.out (by rw [← HL.out]; omega)
    rw [val_wd, ← HL.out] at hbits
    have hbl := blen_wd_len (val a)
    rw [← HL.out] at hbl
    have hpr : 131072 < blen (val a) * n := by rcases HBIG.out with h | h <;> first | (rw [← HL.out] at h; omega) | exact h
    have hpl : blen (val a) * n ≤ 32768 * 1024 := Nat.mul_le_mul (by omega) hn
    obtain ⟨bl, hble⟩ : ∃ bl, bl = blen (val a) := ⟨_, rfl⟩
    obtain ⟨p, hp⟩ : ∃ p, p = bl * n := ⟨_, rfl⟩
    rw [← hble] at hbits hpr hpl hbl
    rw [← hp] at hpr hpl
    have hpi : (bl : Int) * (n : Int) = (p : Int) := by rw [hp]; simp
    have h4 : decide ((131072 : Int) < (p : Int)) = true := by simp; omega
    have HB := Lib.hid hbits
    clear hbits hble hp
    go_wp2_with fail
    (with_reducible refine HB.out.mono ?_); rintro e wx ⟨rfl, rfl⟩
    go_wp2_with fail
    go_ret2
    exact ⟨_, rfl, HB1.out, by rw [wd_zero]; exact Num.nil _⟩

set_option maxRecDepth 100000 in
set_option maxHeartbeats 4000000 in
theorem rpower_ok (va : Value) (a : List Nat) (n : Nat) (w : World) (ha : Num w va a) (hla : a.length ≤ 800000) (hn : n ≤ 1024) (hL : (wd (val a)).length ≤ 1024) (hbn : blen (val a) * n ≤ 131072) :
    Calls Tryd.prog 43 #[va, .int .i64 n] w (RetNE w (val a ^ n) (.int .i64 0)) := by
  have h1 : decide ((n : Int) < 0) = false := by simp
  have h2 : decide ((1024 : Int) < (n : Int)) = false := by simp; omega
  have hNl := pow_len hbn
  obtain ⟨A, hA⟩ : ∃ A, A = val a := ⟨_, rfl⟩
  rw [← hA] at hL hbn hNl ⊢
  have HA := Lib.hid hA; clear hA
  obtain ⟨N, hN⟩ : ∃ N, N = A ^ n := ⟨_, rfl⟩
  rw [← hN] at hNl ⊢
  have hNA : N = 0 → A = 0 := fun h => by rw [hN] at h; exact Nat.pow_eq_zero.1 h |>.1
  have HN := Lib.hid hN; have HNA := Lib.hid hNA; clear hN hNA
  have hbl := blen_wd_len A
  have hall : ∀ k, k ≤ n → (wd (A ^ k)).length ≤ 4097 := fun k hk => pow_len (Nat.le_trans (Nat.mul_le_mul_left _ hk) hbn)
  have HALL := Lib.hid hall; clear hall
  go_enter Tryd.func43, Tryd.ntmps43
  go_wp2_with fail
  (with_reducible refine (rtrim_any _ _ _ ha (by omega)).mono ?_); rintro e w1 ⟨v1, l1, rfl, hb1, hn1, hl1⟩
  rw [hl1, ← HA.out] at hn1
  have hbits := rbits_any _ _ w1 hn1 (by omega)
  rw [val_wd] at hbits
  obtain ⟨ao, ca, rfl, hca, hca2, _⟩ := hn1.shape
  obtain ⟨L, hLe⟩ : ∃ L, L = (wd A).length := ⟨_, rfl⟩
  rw [← hLe] at hca hL hbl hbits ⊢
  have h3 : decide ((1024 : Int) < (L : Int)) = false := by simp; omega
  obtain ⟨bl, hble⟩ : ∃ bl, bl = blen A := ⟨_, rfl⟩
  obtain ⟨p, hp⟩ : ∃ p, p = bl * n := ⟨_, rfl⟩
  rw [← hble] at hbits hbn hbl
  rw [← hp] at hbn
  have hpi : (bl : Int) * (n : Int) = (p : Int) := by rw [hp]; simp
  have h4 : decide ((131072 : Int) < (p : Int)) = false := by simp; omega
  have HL := Lib.hid hLe; have HN1 := Lib.hid hn1; have HB1 := Lib.hid hb1; have HB := Lib.hid hbits
  clear hLe hn1 hl1 ha hb1 hbits hble hp
  go_wp2_with fail
  (with_reducible refine HB.out.mono ?_); rintro e wx ⟨rfl, rfl⟩
  have hof := rof_any 1 w1 (by decide) (by decide)
  rw [show (1 : Int).toNat = 1 from rfl] at hof
  have HOF := Lib.hid hof; clear hof
  go_wp2_with fail
  (with_reducible refine HOF.out.mono ?_); rintro e w2 ⟨v2, l2, rfl, hb2, hn2, hl2⟩
  rw [hl2] at hn2
  have HN2 := Lib.hid hn2; have HB2 := Lib.hid (HB1.out.trans (hb2.mono HB1.out.size)); have HN1 := Lib.hid (HN1.out.below hb2)
  clear hn2 hl2 hb2
  go_wp2_with fail
  clear hpi h1 h2 h3 h4
  rw [← HL.out] at HN1
  go_loopw [6, 27] (fun ov kv wr => ∃ k : Nat, k ≤ n ∧ kv = .int .i64 k ∧ Num wr ov (wd (A ^ k)) ∧ Below w2.heap.size w2 wr) (fun _ kv _ => n - (intOf kv).toNat)
  case atStart => exact ⟨0, Nat.zero_le _, rfl, HN2.out, Below.refl _ _⟩
  case round =>
    obtain ⟨k, hk, rfl, hno, hBr⟩ := hrel
    have HNO := Lib.hid hno; clear hno
    by_cases hkn : k < n
    · have hmu := rmul_any _ _ _ _ wr HNO.out (HN1.out.below hBr) (by have := HALL.out k hk; omega) (by rw [← HL.out]; omega)
      rw [val_wd, val_wd, ← Nat.pow_succ] at hmu
      have HMU := Lib.hid hmu; clear hmu
      go_wp2_with fail
      (with_reducible refine HMU.out.mono ?_); rintro e w3 ⟨v3, l3, rfl, hb3, hn3, hl3⟩
      rw [hl3] at hn3
      have HN3 := Lib.hid hn3
      clear hn3 hl3
      go_wp2_with fail
      go_roundw
      case rel => exact ⟨k + 1, by omega, by go_num, HN3.out, hBr.trans (hb3.mono hBr.size)⟩
      case measure => simp [intOf]; omega
    · obtain rfl : k = n := by omega
      go_wp2_with fail
      go_ret2
      exact ⟨_, rfl, HB2.out.trans (hBr.mono HB2.out.size), by rw [HN.out]; exact HNO.out⟩

theorem powC_small (A : Nat) (n : Int) : powC A n < 1000 := by unfold powC; split <;> (try split) <;> omega
theorem power_any (va : Value) (a : List Nat) (n : Int) (w : World) (ha : Num w va a) (hla : a.length ≤ 800000) :
    Calls Tryd.prog 42 #[va, .int .i64 n] w (RetNE w (powV (val a) n) (errV (powC (val a) n))) := by
  unfold powV powC
  by_cases h1 : n < 0 ∨ 1024 < n
  · rw [if_pos h1, if_neg (by decide)]; exact power_err va n w h1
  · obtain ⟨m, rfl⟩ := Int.eq_ofNat_of_zero_le (show 0 ≤ n by omega)
    rw [if_neg h1, Int.toNat_natCast]
    by_cases h2 : 1024 < (wd (val a)).length ∨ 131072 < blen (val a) * m
    · rw [if_pos h2, if_neg (by decide)]; exact power_large va a m w ha hla (by omega) h2
    · rw [if_neg h2, if_pos rfl]; exact power_ok va a m w ha hla (by omega) (by omega) (by omega)
theorem rpower_any (va : Value) (a : List Nat) (n : Int) (w : World) (ha : Num w va a) (hla : a.length ≤ 800000) :
    Calls Tryd.prog 43 #[va, .int .i64 n] w (RetNE w (powV (val a) n) (.int .i64 (powC (val a) n : Nat))) := by
  unfold powV powC
  by_cases h1 : n < 0 ∨ 1024 < n
  · rw [if_pos h1, if_neg (by decide)]; exact rpower_err va n w h1
  · obtain ⟨m, rfl⟩ := Int.eq_ofNat_of_zero_le (show 0 ≤ n by omega)
    rw [if_neg h1, Int.toNat_natCast]
    by_cases h2 : 1024 < (wd (val a)).length ∨ 131072 < blen (val a) * m
    · rw [if_pos h2, if_neg (by decide)]; exact rpower_large va a m w ha hla (by omega) h2
    · rw [if_neg h2, if_pos rfl]; exact rpower_ok va a m w ha hla (by omega) (by omega) (by omega)
theorem powV_len (A : Nat) (n : Int) : (wd (powV A n)).length ≤ 4097 := by
  unfold powV
  split
  · rename_i h
    unfold powC at h
    split at h
    · cases h
    · split at h
      · cases h
      · exact pow_len (by omega)
  · rw [wd_zero]; exact Nat.zero_le _
end Go.Proofs.YtdepoikifneggaaDoor
