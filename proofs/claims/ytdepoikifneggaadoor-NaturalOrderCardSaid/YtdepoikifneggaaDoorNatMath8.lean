/-
  Plain numbers: long division, round by round.
  Conditions: each theorem's own.
-/
import Derived.Test.YtdepoikifneggaaDoorNatMath7
namespace Go.Proofs.YtdepoikifneggaaDoor
open Go.RowKit

theorem div_scaled {A Bv p U q : Nat} (hp : 0 < p) (h : U + Bv * p * q = A * p) (hU : U < Bv * p) : q = A / Bv ∧ U / p = A % Bv := by
  have h1 : A * p = q * (Bv * p) + U := by rw [Nat.mul_comm q]; omega
  obtain ⟨e1, e2⟩ := div_of_eq h1 hU
  rw [Nat.mul_div_mul_right _ _ hp] at e1
  rw [Nat.mul_mod_mul_right] at e2
  refine ⟨e1, ?_⟩
  rw [e2, Nat.mul_div_cancel _ hp]
/-- the divisor, moved up till its highest bit is set -/
theorem norm_top {Bv nb x s : Nat} (hB : Bv ≠ 0) (hb : blen Bv = 32 * (nb - 1) + blen x) (hx : x ≠ 0) (hxl : x < 4294967296) (hnb : 0 < nb) (hs : s = 32 - blen x) :
    Bv * 2 ^ s < 4294967296 ^ nb ∧ 2147483648 * 4294967296 ^ (nb - 1) ≤ Bv * 2 ^ s ∧ s < 32 := by
  have h1 : blen x ≤ 32 := blen_le hxl
  have h2 := two_blen_le hx
  have h3 := lt_two_blen Bv
  have h4 := two_blen_le hB
  have e : blen Bv + s = 32 * nb := by omega
  refine ⟨?_, ?_, by omega⟩
  · rw [pow32, ← e, Nat.pow_add]; exact Nat.mul_lt_mul_of_pos_right h3 (Nat.two_pow_pos _)
  · have e2 : 2147483648 * 4294967296 ^ (nb - 1) = 2 ^ (blen Bv - 1) * 2 ^ s := by
      rw [pow32, ← Nat.pow_add, show (2147483648 : Nat) = 2 ^ 31 from rfl, ← Nat.pow_add]; congr 1; omega
    rw [e2]; exact Nat.mul_le_mul_right _ h4.1
/-- words of a number below a power, cut -/
theorem take_all {l : List Nat} (h : U32 l) {n : Nat} (hv : val l < 4294967296 ^ n) : val (l.take n) = val l := by
  rw [val_take h, Nat.mod_eq_of_lt hv]
theorem winv_all {l : List Nat} (h : U32 l) {j m : Nat} (hv : val (l.drop j) < 4294967296 ^ m) : winv l j m = val (l.drop j) := take_all (h.drop j) hv
/-- the divisor's two highest words -/
theorem div_two {lv : List Nat} (h : U32 lv) {nb : Nat} (hl : lv.length = nb) (h2 : 2 ≤ nb) (hlo : 2147483648 * 4294967296 ^ (nb - 1) ≤ val lv) :
    2147483648 ≤ gd lv (nb - 1) ∧ val lv = (gd lv (nb - 1) * 4294967296 + gd lv (nb - 2)) * 4294967296 ^ (nb - 2) + winv lv 0 (nb - 2) := by
  obtain ⟨d, rfl⟩ : ∃ d, nb = d + 2 := ⟨nb - 2, by omega⟩
  have hlt := val_lt h
  rw [hl] at hlt
  rw [show d + 2 - 1 = d + 1 from rfl, show d + 2 - 2 = d from rfl] at *
  have e : val lv = winv lv 0 (d + 1 + 1) := by rw [winv_all h (by rw [List.drop_zero]; exact hlt), List.drop_zero]
  constructor
  · rw [val_gd h]
    have h3 : val lv / 4294967296 ^ (d + 1) < 4294967296 := by
      rw [Nat.div_lt_iff_lt_mul (Nat.pow_pos (by decide)), Nat.mul_comm, ← Nat.pow_succ]; exact hlt
    rw [Nat.mod_eq_of_lt h3, Nat.le_div_iff_mul_le (Nat.pow_pos (by decide))]
    exact hlo
  · rw [e, winv_succ, winv_succ, Nat.zero_add, Nat.zero_add]
    simp only [Nat.pow_succ, Nat.add_mul]
    generalize gd lv d = x
    generalize gd lv (d + 1) = t
    generalize 4294967296 ^ d = P
    have e1 : P * 4294967296 * t = t * 4294967296 * P := by ac_rfl
    have e2 : P * x = x * P := by ac_rfl
    omega
/-- the dividend's three highest words in the window -/
theorem div_three (lu : List Nat) (j : Nat) {nb : Nat} (h2 : 2 ≤ nb) :
    winv lu j (nb + 1) = ((gd lu (j + nb) * 4294967296 + gd lu (j + nb - 1)) * 4294967296 + gd lu (j + nb - 2)) * 4294967296 ^ (nb - 2) + winv lu j (nb - 2) := by
  obtain ⟨d, rfl⟩ : ∃ d, nb = d + 2 := ⟨nb - 2, by omega⟩
  rw [show j + (d + 2) - 1 = j + (d + 1) from rfl, show j + (d + 2) - 2 = j + d from rfl, show d + 2 - 2 = d from rfl]
  rw [winv_succ, winv_succ, winv_succ]
  generalize gd lu (j + (d + 2)) = a
  generalize gd lu (j + (d + 1)) = b
  generalize gd lu (j + d) = c
  generalize winv lu j d = w
  simp only [Nat.pow_succ, Nat.add_mul]
  generalize 4294967296 ^ d = P
  have e1 : P * 4294967296 * 4294967296 * a = a * 4294967296 * 4294967296 * P := by ac_rfl
  have e2 : P * 4294967296 * b = b * 4294967296 * P := by ac_rfl
  have e3 : P * c = c * P := by ac_rfl
  omega
/-- the estimate of one round -/
theorem div_round {lu lv : List Nat} (hu : U32 lu) (hv : U32 lv) {j nb : Nat} (hl : lv.length = nb) (h2 : 2 ≤ nb) (hlo : 2147483648 * 4294967296 ^ (nb - 1) ≤ val lv) (hW : winv lu j (nb + 1) < 4294967296 * val lv) :
    gd lu (j + nb) ≤ gd lv (nb - 1) ∧
    winv lu j (nb + 1) / val lv ≤ fit ((gd lu (j + nb) * 4294967296 + gd lu (j + nb - 1)) * 4294967296 + gd lu (j + nb - 2)) (gd lv (nb - 1) * 4294967296 + gd lv (nb - 2)) ∧
    fit ((gd lu (j + nb) * 4294967296 + gd lu (j + nb - 1)) * 4294967296 + gd lu (j + nb - 2)) (gd lv (nb - 1) * 4294967296 + gd lv (nb - 2)) ≤ winv lu j (nb + 1) / val lv + 1 := by
  obtain ⟨t1, t2⟩ := div_two hv hl h2 hlo
  have t3 := div_three lu j h2
  have hD : 0 < 4294967296 ^ (nb - 2) := Nat.pow_pos (by decide)
  have hn := fit_near hD t3 (winv_lt hu j (nb - 2)) t2 (winv_lt hv 0 (nb - 2)) (by omega) hW
  refine ⟨?_, hn.1, hn.2⟩
  have hvl := winv_lt hv 0 (nb - 2)
  have hnx := hv (nb - 2)
  rw [t3, t2] at hW
  generalize gd lu (j + nb) = a at *
  generalize gd lu (j + nb - 1) = b at *
  generalize gd lu (j + nb - 2) = c at *
  generalize gd lv (nb - 1) = top at *
  generalize gd lv (nb - 2) = next at *
  generalize winv lv 0 (nb - 2) = vl at *
  generalize 4294967296 ^ (nb - 2) = D at *
  generalize winv lu j (nb - 2) = ul at *
  clear hn t1 t2 t3 hlo
  rcases Nat.lt_or_ge top a with h | h
  · exfalso
    have h4 : (top * 4294967296 + next) * D + vl < (top * 4294967296 + 4294967296) * D := by
      have h6 : (top * 4294967296 + next + 1) * D ≤ (top * 4294967296 + 4294967296) * D := Nat.mul_le_mul (show top * 4294967296 + next + 1 ≤ top * 4294967296 + 4294967296 from by omega) (Nat.le_refl D)
      rw [Nat.add_mul (top * 4294967296 + next) 1 D, Nat.one_mul] at h6
      exact Nat.lt_of_lt_of_le (Nat.add_lt_add_left hvl _) h6
    have h5 : (4294967296 * (top * 4294967296 + 4294967296)) * D ≤ ((a * 4294967296 + b) * 4294967296 + c) * D :=
      Nat.mul_le_mul (show 4294967296 * (top * 4294967296 + 4294967296) ≤ (a * 4294967296 + b) * 4294967296 + c from by omega) (Nat.le_refl D)
    rw [Nat.mul_assoc] at h5
    exact absurd (Nat.lt_of_lt_of_le (Nat.lt_of_le_of_lt (Nat.le_trans h5 (Nat.le_add_right _ ul)) hW) (Nat.mul_le_mul_left _ (Nat.le_of_lt h4))) (Nat.lt_irrefl _)
  · exact h
/-- the estimate was right -/
theorem round_right {W V g l' : Nat} (hV : 0 < V) (h1 : W / V ≤ g) (h2 : l' + g * V = W) : g = W / V ∧ l' = W % V := by
  have : g ≤ W / V := by rw [Nat.le_div_iff_mul_le hV]; omega
  have e : g = W / V := by omega
  refine ⟨e, ?_⟩
  have := Nat.div_add_mod W V
  rw [← e, Nat.mul_comm] at this; omega
/-- the estimate was one too great -/
theorem round_over {W V g P l' l'' r' : Nat} (hV : 0 < V) (hVP : V < P) (h1 : g ≤ W / V + 1) (h2 : l' + g * V = W + P) (hl' : l' < P) (h3 : l'' + P * r' = l' + V) (hl'' : l'' < P) : g - 1 = W / V ∧ l'' = W % V ∧ 0 < g := by
  have hg : W < g * V := by omega
  have h4 : W / V < g := by rw [Nat.div_lt_iff_lt_mul hV]; exact hg
  have e : g = W / V + 1 := by omega
  have h5 := Nat.div_add_mod W V
  have h6 := Nat.mod_lt W hV
  have e2 : g * V = V * (W / V) + V := by rw [e, Nat.add_mul, Nat.mul_comm]; omega
  have h7 : l'' + P * r' = W % V + P := by omega
  refine ⟨by rw [e]; rfl, ?_, by rw [e]; exact Nat.succ_pos _⟩
  clear h1 h2 h3 h4 h5 e2 e
  match r' with
  | 0 => omega
  | 1 => omega
  | r + 2 =>
    exfalso
    have : P * 2 ≤ P * (r + 2) := Nat.mul_le_mul_left _ (by omega)
    omega
/-- the invariant, over one round -/
theorem round_inv {lu lu' lq : List Nat} {j m W qd V S : Nat} (hW : winv lu j m = W) (hW' : winv lu' j m = W % V) (hqd : qd = W / V) (hz : val (lu.drop (j + m)) = 0) (hsame : ∀ i, i < j ∨ j + m ≤ i → gd lu' i = gd lu i)
    (hj : j < lq.length) (hq0 : gd lq j = 0) (h : val lu + V * val lq = S) : val lu' + V * val (lq.set j qd) = S ∧ val (lu'.drop (j + m)) = 0 ∧ val (lu'.drop j) = W % V := by
  have e1 := val_window lu j m
  have e2 := val_window lu' j m
  have hz' : val (lu'.drop (j + m)) = 0 := by
    rw [← hz]; exact val_ext fun i => by rw [gd_drop, gd_drop]; exact hsame _ (.inr (by omega))
  have hlow : winv lu' 0 j = winv lu 0 j := winv_congr 0 j fun i _ h2 => hsame i (.inl (by omega))
  have hs := val_set lq j qd hj
  rw [hq0, Nat.mul_zero, Nat.add_zero] at hs
  rw [hz, hW, Nat.mul_zero, Nat.add_zero] at e1
  rw [hz', hW', hlow, Nat.mul_zero, Nat.add_zero] at e2
  have h5 := Nat.div_add_mod W V
  refine ⟨?_, hz', ?_⟩
  · rw [hs, e2, ← h, e1, Nat.mul_add, hqd]
    have : 4294967296 ^ j * W = V * (4294967296 ^ j * (W / V)) + 4294967296 ^ j * (W % V) := by
      rw [Nat.mul_left_comm, ← Nat.mul_add, h5]
    omega
  · have e3 := val_window (lu'.drop j) 0 m
    rw [List.drop_drop, Nat.zero_add, hz', Nat.mul_zero, Nat.add_zero, Nat.pow_zero, Nat.one_mul, winv_zero, Nat.zero_add] at e3
    rw [e3, ← hW']; rfl
theorem wd_top {n : Nat} (h : n ≠ 0) : 0 < (wd n).length ∧ gd (wd n) ((wd n).length - 1) ≠ 0 ∧ blen n = 32 * ((wd n).length - 1) + blen (gd (wd n) ((wd n).length - 1)) := by
  have h1 : 0 < (wd n).length := by rw [wd_pos h]; simp
  have h2 : gd (wd n) ((wd n).length - 1) ≠ 0 := by
    rcases clean_wd n with hc | hc
    · rw [hc] at h1; cases h1
    · exact hc
  refine ⟨h1, h2, ?_⟩
  have e := val_take_succ (wd n) ((wd n).length - 1)
  rw [show (wd n).length - 1 + 1 = (wd n).length from by omega, List.take_of_length_le (Nat.le_refl _), val_wd] at e
  have := blen_top (val_take_lt (u32_wd n) ((wd n).length - 1)) h2
  rw [← e] at this; exact this
theorem wd_two {n : Nat} (h : 4294967296 ≤ n) : 2 ≤ (wd n).length := by
  rcases Nat.lt_or_ge 1 (wd n).length with h1 | h1
  · exact h1
  · have h2 := val_lt (u32_wd n)
    rw [val_wd] at h2
    have h3 : 4294967296 ^ (wd n).length ≤ 4294967296 ^ 1 := Nat.pow_le_pow_right (by decide) h1
    rw [Nat.pow_one] at h3
    omega
theorem guess_down {g top r hd : Nat} (h : g * top + r = hd) (hg : 0 < g) : (g - 1) * top + (r + top) = hd := by
  obtain ⟨k, rfl⟩ : ∃ k, g = k + 1 := ⟨g - 1, by omega⟩
  rw [Nat.add_sub_cancel]; rw [Nat.add_mul, Nat.one_mul] at h; omega
/-- what the head of a round gives -/
theorem round_head {lu : List Nat} (hu : U32 lu) {j nb V : Nat} (hV : V < 4294967296 ^ nb) (h : val (lu.drop (j + 1)) < V) :
    winv lu j (nb + 1) = val (lu.drop j) ∧ winv lu j (nb + 1) < 4294967296 * V ∧ val (lu.drop (j + (nb + 1))) = 0 := by
  have h1 : val (lu.drop j) < 4294967296 * V := by
    rw [val_drop_at]
    have := hu j
    omega
  have h2 : val (lu.drop j) < 4294967296 ^ (nb + 1) := by
    rw [Nat.pow_succ, Nat.mul_comm]
    exact Nat.lt_of_lt_of_le h1 (Nat.mul_le_mul_left _ (Nat.le_of_lt hV))
  have h3 := winv_all hu h2
  refine ⟨h3, by rw [h3]; exact h1, ?_⟩
  rw [← List.drop_drop, val_drop (hu.drop j), Nat.div_eq_of_lt h2]
/-- the dividend is short enough for the first round -/
theorem first_round {lu : List Nat} (hu : U32 lu) {A s na nb V k : Nat} (hA : A < 4294967296 ^ na) (hl : val lu = A * 2 ^ s) (hs : s < 32) (hk : k + nb = na + 1) (hnb : 0 < nb) (hlo : 2147483648 * 4294967296 ^ (nb - 1) ≤ V) : val (lu.drop k) < V := by
  rw [val_drop hu, hl]
  refine Nat.lt_of_lt_of_le ?_ hlo
  rw [Nat.div_lt_iff_lt_mul (Nat.pow_pos (by decide)), Nat.mul_assoc, ← Nat.pow_add, show nb - 1 + k = na from by omega]
  have h1 : 2 ^ s ≤ 2147483648 := by rw [show (2147483648 : Nat) = 2 ^ 31 from rfl]; exact Nat.pow_le_pow_right (by decide) (by omega)
  have h2 : A * 2 ^ s < 4294967296 ^ na * 2 ^ s := Nat.mul_lt_mul_of_pos_right hA (Nat.two_pow_pos s)
  have h3 : 4294967296 ^ na * 2 ^ s ≤ 2147483648 * 4294967296 ^ na := by rw [Nat.mul_comm]; exact Nat.mul_le_mul_right _ h1
  exact Nat.lt_of_lt_of_le h2 h3
end Go.Proofs.YtdepoikifneggaaDoor
