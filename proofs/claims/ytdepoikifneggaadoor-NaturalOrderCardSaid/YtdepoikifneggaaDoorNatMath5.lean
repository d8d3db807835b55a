/-
  Plain numbers: how many bits a number has; words joined and cut by bits.
  Conditions: each theorem's own.
-/
import Derived.Test.YtdepoikifneggaaDoorNatMath4
import Derived.Laws.BitsLemmas
import Derived.Lib.BitFns
namespace Go.Proofs.YtdepoikifneggaaDoor
open Go.RowKit

/-- how many bits a number has -/
def blen (n : Nat) : Nat := if n = 0 then 0 else n.log2 + 1
theorem blen_zero : blen 0 = 0 := rfl
theorem blen_eq {n b : Nat} (h1 : n < 2 ^ b) (h2 : b = 0 ∨ 2 ^ (b - 1) ≤ n) : blen n = b := by
  unfold blen
  by_cases h0 : n = 0
  · subst h0
    rw [if_pos rfl]
    rcases h2 with h2 | h2
    · exact h2.symm
    · have := Nat.two_pow_pos (b - 1); omega
  · rw [if_neg h0]
    have g1 := (Nat.log2_lt h0).2 h1
    rcases h2 with h2 | h2
    · omega
    · have := (Nat.le_log2 h0).2 h2; omega
theorem lt_two_blen (n : Nat) : n < 2 ^ blen n := by
  unfold blen; split
  · omega
  · exact Nat.lt_log2_self
theorem two_blen_le {n : Nat} (h : n ≠ 0) : 2 ^ (blen n - 1) ≤ n ∧ 0 < blen n := by
  unfold blen; rw [if_neg h]; exact ⟨Nat.log2_self_le h, by omega⟩
theorem blen_le {n b : Nat} (h : n < 2 ^ b) : blen n ≤ b := by
  by_cases h0 : n = 0
  · subst h0; exact Nat.zero_le _
  · unfold blen; rw [if_neg h0]; exact (Nat.log2_lt h0).2 h
theorem lt_of_blen {n b : Nat} (h : blen n ≤ b) : n < 2 ^ b := Nat.lt_of_lt_of_le (lt_two_blen n) (Nat.pow_le_pow_right (by decide) h)
theorem blen_pos {n : Nat} : 0 < blen n ↔ n ≠ 0 := by
  constructor
  · intro h h0; subst h0; exact absurd h (by decide)
  · intro h; exact (two_blen_le h).2
theorem bitLenAux_eq : ∀ (f x : Nat), x < 2 ^ f → Lib.bitLenAux f x = blen x
  | 0, x, h => by have : x = 0 := by simpa using h
                  subst this; rfl
  | f + 1, x, h => by
    unfold Lib.bitLenAux
    by_cases h0 : x = 0
    · subst h0; rfl
    · rw [if_neg h0, bitLenAux_eq f (x / 2) (by rw [Nat.pow_succ] at h; omega)]
      symm
      have h2 := lt_two_blen (x / 2)
      apply blen_eq
      · rw [Nat.add_comm, Nat.pow_succ]; omega
      · right
        by_cases h3 : x / 2 = 0
        · rw [h3]; simp [blen_zero]; omega
        · have := two_blen_le h3
          rw [Nat.add_sub_cancel_left, show blen (x / 2) = (blen (x / 2) - 1) + 1 from by omega, Nat.pow_succ]; omega
theorem bitLen_eq (x : Nat) (h : x < 4294967296) : Lib.bitLen x = blen x := bitLenAux_eq 64 x (Nat.lt_trans h (by decide))
theorem pow32 (i : Nat) : 4294967296 ^ i = 2 ^ (32 * i) := by rw [Nat.pow_mul]
/-- a number with a highest word -/
theorem blen_top {lo x i : Nat} (hlo : lo < 4294967296 ^ i) (hx : x ≠ 0) : blen (lo + 4294967296 ^ i * x) = 32 * i + blen x := by
  rw [pow32] at *
  have h1 := lt_two_blen x
  have h2 := two_blen_le hx
  apply blen_eq
  · rw [Nat.pow_add]
    have : 2 ^ (32 * i) * (x + 1) ≤ 2 ^ (32 * i) * 2 ^ blen x := Nat.mul_le_mul_left _ h1
    rw [Nat.mul_add] at this; omega
  · right
    rw [show 32 * i + blen x - 1 = 32 * i + (blen x - 1) from by omega, Nat.pow_add]
    have : 2 ^ (32 * i) * 2 ^ (blen x - 1) ≤ 2 ^ (32 * i) * x := Nat.mul_le_mul_left _ h2.1
    omega
theorem blen_le_len {l : List Nat} (h : U32 l) : blen (val l) ≤ 32 * l.length := by
  apply blen_le
  rw [← pow32]; exact val_lt h
theorem val_take_lt {l : List Nat} (h : U32 l) (i : Nat) : val (l.take i) < 4294967296 ^ i := by
  rw [val_take h]; exact Nat.mod_lt _ (Nat.pow_pos (by decide))
/-- one bit more of a word -/
theorem mod_two_pow_succ (x k : Nat) : x % 2 ^ (k + 1) = x % 2 ^ k + 2 ^ k * (x / 2 ^ k % 2) := by
  rw [Nat.pow_succ, Nat.mod_mul]
theorem blen_bit {lo x i k : Nat} (hlo : lo < 4294967296 ^ i) (hb : x / 2 ^ k % 2 = 1) : blen (lo + 4294967296 ^ i * (x % 2 ^ (k + 1))) = 32 * i + k + 1 := by
  have hm : x % 2 ^ k < 2 ^ k := Nat.mod_lt _ (Nat.two_pow_pos _)
  have e : blen (x % 2 ^ (k + 1)) = k + 1 := by
    rw [mod_two_pow_succ, hb, Nat.mul_one]
    exact blen_eq (by rw [Nat.pow_succ]; omega) (.inr (by rw [Nat.add_sub_cancel]; omega))
  have h0 : x % 2 ^ (k + 1) ≠ 0 := by
    have := Nat.two_pow_pos k
    rw [mod_two_pow_succ, hb]; omega
  rw [blen_top hlo h0, e]; omega

theorem wraps_u64 (n : Int) (h₀ : 0 ≤ n) (h₁ : n < 2 ^ 64) : IntKind.u64.wrap n = n := by
  have e : IntKind.u64.wrap n = n % 18446744073709551616 := rfl
  rw [e]; omega
theorem wraps_u32 (n : Int) (h₀ : 0 ≤ n) (h₁ : n < 2 ^ 32) : IntKind.u32.wrap n = n := by
  have e : IntKind.u32.wrap n = n % 4294967296 := rfl
  rw [e]; omega
/-- two words of 32 bits side by side -/
theorem or_words (x y : Nat) (hx : x < 4294967296) (hy : y < 4294967296) : bits .or .u64 (x : Int) ((y : Int) * 4294967296) = ((x + y * 4294967296 : Nat) : Int) := by
  have e : ((y : Int) * 4294967296) = ((y * 4294967296 : Nat) : Int) := rfl
  rw [e, (bits_nat .u64 64 (by decide) wraps_u64 x (y * 4294967296) (by omega) (by omega)).2]
  congr 1
  rw [Nat.or_comm, Nat.mul_comm, show (4294967296 : Nat) = 2 ^ 32 from rfl, ← Nat.two_pow_add_eq_or_of_lt (by omega)]; omega
theorem or_words' (x y : Nat) (hx : x < 4294967296) (hy : y < 4294967296) : bits .or .u64 ((y : Int) * 4294967296) (x : Int) = ((y * 4294967296 + x : Nat) : Int) := by
  have e : ((y : Int) * 4294967296) = ((y * 4294967296 : Nat) : Int) := rfl
  rw [e, (bits_nat .u64 64 (by decide) wraps_u64 (y * 4294967296) x (by omega) (by omega)).2]
  congr 1
  rw [Nat.mul_comm, show (4294967296 : Nat) = 2 ^ 32 from rfl, ← Nat.two_pow_add_eq_or_of_lt (by omega)]
/-- the two lowest words -/
theorem val_two {l : List Nat} (h : U32 l) (hv : val l < 18446744073709551616) : val l = gd l 0 + gd l 1 * 4294967296 := by
  have h0 := val_gd h 0
  have h1 := val_gd h 1
  simp only [Nat.pow_zero, Nat.div_one, Nat.pow_one] at h0 h1
  omega
end Go.Proofs.YtdepoikifneggaaDoor
