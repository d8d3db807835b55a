/-
  The number of a decimal text.
  Conditions: none.
-/
import Derived.Test.YtdepoikifneggaaDoorNat21
namespace Go.Proofs.YtdepoikifneggaaDoor

/-- the digits' number, the first digit highest -/
def decN (l : List UInt8) : Nat := l.foldl (fun v b => 10 * v + (b.toNat - 48)) 0
def isDig (b : UInt8) : Bool := decide (48 ≤ b.toNat) && decide (b.toNat ≤ 57)
theorem decN_snoc (l : List UInt8) (b : UInt8) : decN (l ++ [b]) = 10 * decN l + (b.toNat - 48) := by
  unfold decN; rw [List.foldl_append]; rfl
theorem decN_nil : decN [] = 0 := rfl
theorem fold_at (m : List UInt8) (v : Nat) : m.foldl (fun v b => 10 * v + (b.toNat - 48)) v = v * 10 ^ m.length + decN m := by
  induction m generalizing v with
  | nil => simp [decN]
  | cons b m ih =>
    unfold decN
    rw [List.foldl_cons, List.foldl_cons, ih, ih (10 * 0 + (b.toNat - 48)), List.length_cons, Nat.pow_succ, Nat.add_mul, Nat.add_mul]
    have e : 10 * v * 10 ^ m.length = v * (10 ^ m.length * 10) := by ac_rfl
    rw [e, Nat.mul_zero, Nat.zero_mul, Nat.zero_add, Nat.add_assoc]
theorem decN_app (l m : List UInt8) : decN (l ++ m) = decN l * 10 ^ m.length + decN m := by
  show (l ++ m).foldl _ 0 = _
  rw [List.foldl_append, fold_at]; rfl
theorem decN_digD (n : Nat) : decN (digD n).reverse = n := by
  induction n using Nat.strongRecOn with
  | _ n ih =>
    by_cases h : n = 0
    · subst h; rw [digD_zero]; rfl
    · rw [digD_pos h, List.reverse_cons, decN_snoc, ih _ (Nat.div_lt_self (by omega) (by decide)), digB_toNat]; omega
theorem digB_of {n : Nat} {b : UInt8} (h : isDig b = true) (hn : n % 10 = b.toNat - 48) : digB n = b := by
  apply UInt8.toNat_inj.1
  rw [digB_toNat, hn]
  have : 48 ≤ b.toNat ∧ b.toNat ≤ 57 := by simpa [isDig] using h
  omega
theorem digD_rev (m : List UInt8) (hd : m.all isDig = true) (h : ∀ x, m.getLast? = some x → x ≠ 48) : digD (decN m.reverse) = m := by
  induction m with
  | nil => exact digD_zero
  | cons b m ih =>
    rw [List.all_cons, Bool.and_eq_true] at hd
    have hb : 48 ≤ b.toNat ∧ b.toNat ≤ 57 := by simpa [isDig] using hd.1
    rw [List.reverse_cons, decN_snoc]
    have e1 : (10 * decN m.reverse + (b.toNat - 48)) / 10 = decN m.reverse := by omega
    have e2 : (10 * decN m.reverse + (b.toNat - 48)) % 10 = b.toNat - 48 := by omega
    cases m with
    | nil =>
      have hb0 : b.toNat ≠ 48 := fun e => h b rfl (UInt8.toNat_inj.1 e)
      have e3 : decN ([] : List UInt8).reverse = 0 := rfl
      rw [digD_pos (by omega), e1, digB_of hd.1 e2, e3, digD_zero]
    | cons c m =>
      have ih' := ih hd.2 (fun x hx => h x (by rw [List.getLast?_cons_cons]; exact hx))
      have h0 : decN (c :: m).reverse ≠ 0 := fun e => by rw [e, digD_zero] at ih'; cases ih'
      rw [digD_pos (by omega), e1, digB_of hd.1 e2, ih']
/-- the number of the error, 0 where there is none -/
def parC (l : List UInt8) : Nat :=
  if 65536 < l.length then 4 else if l = [] ∨ (l.head? = some 48 ∧ 1 < l.length) then 2 else if l.all isDig then 0 else 2
def parV (l : List UInt8) : Nat := if parC l = 0 then decN l else 0
end Go.Proofs.YtdepoikifneggaaDoor
