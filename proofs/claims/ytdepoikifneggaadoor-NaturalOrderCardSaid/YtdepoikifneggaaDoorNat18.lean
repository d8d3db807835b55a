/-
  natural.Shift: what it hands back.
  Conditions: each theorem's own.
-/
import Derived.Test.YtdepoikifneggaaDoorNat17
namespace Go.Proofs.YtdepoikifneggaaDoor
open Go.RowKit Go.ChangeShapes Go.WideShapes

set_option maxRecDepth 100000 in
set_option maxHeartbeats 1600000 in
theorem shift_err (va : Value) (n : Int) (w : World) (hn : n < -131072 ∨ 131072 < n) :
    Calls Tryd.prog 34 #[va, .int .i64 n] w (RetNE w 0 (errV 3)) := by
  rw [errV_pos (by decide)]
  rcases Int.lt_or_le n (-131072) with h | h
  · have h1 : decide (n < -131072) = true := by simp; omega
    clear hn
    go_enter Tryd.func34, Tryd.ntmps34
    go_wp2_with fail
    go_ret2
    exact ⟨_, rfl, Below.refl _ _, by rw [wd_zero]; exact Num.nil _⟩
  · have h1 : decide (n < -131072) = false := by simp; omega
    have h2 : decide (131072 < n) = true := by simp; omega
    clear hn
    go_enter Tryd.func34, Tryd.ntmps34
    go_wp2_with fail
    go_ret2
    exact ⟨_, rfl, Below.refl _ _, by rw [wd_zero]; exact Num.nil _⟩

set_option maxRecDepth 100000 in
set_option maxHeartbeats 4000000 in
theorem shift_up (va : Value) (a : List Nat) (n : Nat) (w : World) (ha : Num w va a) (hla : a.length ≤ 800000) (hn : n ≤ 131072) :
    Calls Tryd.prog 34 #[va, .int .i64 n] w (RetNE w (val a * 2 ^ n) (errV 0)) := by
  rw [errV_zero]
  have hwl := wd_length_le ha.lt
  have h1 : decide ((n : Int) < -131072) = false := decide_eq_false (by omega)
  have h2 : decide ((131072 : Int) < (n : Int)) = false := decide_eq_false (by omega)
  have h3 : decide ((0 : Int) ≤ (n : Int)) = true := decide_eq_true (by omega)
  obtain ⟨A, hA⟩ : ∃ A, A = val a := ⟨_, rfl⟩
  rw [← hA] at hwl ⊢
  have HA := Lib.hid hA; clear hA
  obtain ⟨q, hq⟩ : ∃ q, q = n / 32 := ⟨_, rfl⟩
  obtain ⟨r, hr⟩ : ∃ r, r = n % 32 := ⟨_, rfl⟩
  have hrl : r < 32 := by omega
  have hqb : q ≤ 4096 := by omega
  have hqr : n = 32 * q + r := by omega
  have e3 : IntKind.i64.wrap ((n : Int) / 32) = (q : Int) := by rw [IntWalk.i64_in _ (by omega)]; omega
  have e4 : (n : Int).tmod 32 = (r : Int) := by rw [Int.tmod_eq_emod_of_nonneg (by omega)]; omega
  have hmk := fun wx : World => run_makeW wx q (by omega)
  have E3 := Lib.hid e3; have E4 := Lib.hid e4; have HQR := Lib.hid hqr; have HMK := Lib.hid hmk
  clear e3 e4 hq hr hqr hmk
  go_enter Tryd.func34, Tryd.ntmps34
  go_wp2_with fail
  (with_reducible refine (trim_any _ _ _ ha (by omega)).mono ?_); rintro e w1 ⟨v1, l1, rfl, hb1, hn1, hl1⟩
  rw [hl1, ← HA.out] at hn1
  have HN1 := Lib.hid hn1; have HB1 := Lib.hid hb1
  have hsz1 := hb1.size
  clear hn1 hl1 ha hb1
  go_wp2_with fail
  have P1 : Hid (Below w1.heap.size w1 (w1.alloc (.cells (freshW q) 38)).drew) := Lib.hid ((Below.refl _ _).alloc (Nat.le_refl _) _).drew
  have P2 : Hid (Below w1.heap.size w1 w1.drew) := Lib.hid (Below.refl _ _).drew
  have hleft : ∀ wx, Below w1.heap.size w1 wx → Calls Tryd.prog 51 #[v1, .int .i64 r] wx (RetOwn wx fun l => l.length = (wd A).length + 1 ∧ val l = A * 2 ^ r) := fun wx hx => by
    have h := left_any v1 (wd A) r wx (HN1.out.below hx) (by omega) hrl
    rw [val_wd] at h; exact h
  have HLEFT := Lib.hid hleft
  have G1 : Hid (OwnW 38 (w1.alloc (.cells (freshW q) 38)).drew w1.heap.size (.slice (some ⟨w1.heap.size, 0, none⟩) q q) (List.replicate q 0)) := Lib.hid (own_made w1 w1.heap.size q (Nat.le_refl _) (by omega)).drew
  have HLR : Hid ((List.replicate q 0).length = q) := Lib.hid (List.length_replicate ..)
  have HWL := Lib.hid hwl; have HLA := Lib.hid hla; have HQB := Lib.hid hqb
  have hlen : ∀ l1 : List Nat, l1.length = (wd A).length + 1 → (List.replicate q 0).length + l1.length ≤ 1000000 := fun l1 h => by rw [HLR.out, h]; have := HWL.out; have := HLA.out; have := HQB.out; omega
  have HLEN := Lib.hid hlen
  have hvv : ∀ l1 : List Nat, val l1 = A * 2 ^ r → val (List.replicate q 0 ++ l1) = A * 2 ^ n := fun l1 h => by
    rw [val_append, val_zeros, HLR.out, h, Nat.zero_add, pow32, Nat.mul_left_comm, ← Nat.pow_add, ← HQR.out]
  have HVV := Lib.hid hvv
  have hmadeq : ∀ wx : World, w1.heap.size ≤ wx.heap.size → OwnW 38 (wx.alloc (.cells (freshW q) 38)) w1.heap.size (.slice (some ⟨wx.heap.size, 0, none⟩) q q) (List.replicate q 0) := fun wx h => own_made wx _ q h (by have := HQB.out; omega)
  have HMADE := Lib.hid hmadeq
  have h9 : (1000000 : Nat) ≤ 17592186044416 := by omega
  have H9 := Lib.hid h9
  clear hleft hlen hvv hmadeq h9
  have e3 := E3.out; have e4 := E4.out; have hmk := HMK.out
  go_region_held3 (fun _ => True) (trivial) (first
    | (go_at_call 51; (with_reducible refine (HLEFT.out _ ?_).mono ?_); (first | exact P1.out | exact P2.out); rintro e w' ⟨v3, l3, rfl, hb3, ho3, hln3, hv3⟩; (have hbw : Below w1.heap.size w1 w' := (by first | exact P1.out.trans (hb3.mono P1.out.size) | exact P2.out.trans (hb3.mono P2.out.size))); (have H1 := Lib.hid hln3); (have H2 := Lib.hid hv3); (clear hln3 hv3))
    | (refine step_appendN Tryd.wordsTy (by rfl) (.tmp 19) (.tmp 23) rfl w1.heap.size _ _ (List.replicate q 0) l3 (by rfl) (by rfl) (by first | exact G1.out.below hb3 | exact HMADE.out _ hbw.size) (by first | exact ho3.num | exact (ho3.alloc _).num) (Nat.le_trans (HLEN.out _ H1.out) H9.out) (by first | exact hbw.size | exact (hbw.alloc hbw.size _).size) ?_; intro v' w2 h1 h2 h3)
    | (go_at_call 48; (with_reducible refine (trim_any _ _ _ h1.num ?_).mono ?_); (rw [List.length_append]; exact HLEN.out _ H1.out); rintro e w5 ⟨v5, l5, rfl, hb5, hn5, hl5⟩; (have H5 := Lib.hid hl5); (clear hl5)))
  all_goals
    have h4 := h2 w1 (by first | exact hbw | exact hbw.alloc hbw.size _)
    clear e3 e4
    go_wp2_with fail
    go_ret2
    have hB := HB1.out.trans (h4.mono hsz1)
    exact ⟨_, rfl, hB.trans (hb5.mono hB.size), by rw [← HVV.out _ H2.out, ← H5.out]; exact hn5⟩

set_option maxRecDepth 100000 in
set_option maxHeartbeats 4000000 in
theorem shift_down (va : Value) (a : List Nat) (m : Nat) (w : World) (ha : Num w va a) (hla : a.length ≤ 800000) (hm0 : 0 < m) (hm : m ≤ 131072) :
    Calls Tryd.prog 34 #[va, .int .i64 (-(m : Int))] w (RetNE w (val a / 2 ^ m) (errV 0)) := by
  rw [errV_zero]
  have hwl := wd_length_le ha.lt
  obtain ⟨nn, hnn⟩ : ∃ nn : Int, nn = -(m : Int) := ⟨_, rfl⟩
  rw [← hnn]
  have h1 : decide (nn < -131072) = false := decide_eq_false (by omega)
  have h2 : decide ((131072 : Int) < nn) = false := decide_eq_false (by omega)
  have h3 : decide ((0 : Int) ≤ nn) = false := decide_eq_false (by omega)
  have hneg : -nn = (m : Int) := by omega
  have hnb : -131072 ≤ nn ∧ nn ≤ 131072 := by omega
  obtain ⟨A, hA⟩ : ∃ A, A = val a := ⟨_, rfl⟩
  rw [← hA] at hwl ⊢
  have HA := Lib.hid hA; clear hA
  obtain ⟨q, hq⟩ : ∃ q, q = m / 32 := ⟨_, rfl⟩
  obtain ⟨r, hr⟩ : ∃ r, r = m % 32 := ⟨_, rfl⟩
  have hrl : r < 32 := by omega
  have hqb : q ≤ 4096 := by omega
  have hqr : m = 32 * q + r := by omega
  have e3 : (m : Int) / 32 = (q : Int) := by omega
  have e4 : (m : Int) % 32 = (r : Int) := by omega
  have HQR := Lib.hid hqr
  have hdiv : A / 2 ^ m = A / 4294967296 ^ q / 2 ^ r := by rw [Nat.div_div_eq_div_mul, pow32, ← Nat.pow_add, ← hqr]
  have HDIV := Lib.hid hdiv
  obtain ⟨hnb1, hnb2⟩ := hnb
  have hmi : (m : Int) ≤ 131072 := by omega
  clear hnn hq hr hqr hdiv
  go_enter Tryd.func34, Tryd.ntmps34
  go_wp2_with fail
  (with_reducible refine (trim_any _ _ _ ha (by omega)).mono ?_); rintro e w1 ⟨v1, l1, rfl, hb1, hn1, hl1⟩
  rw [hl1, ← HA.out] at hn1
  have HN1 := Lib.hid hn1; have HB1 := Lib.hid hb1
  obtain ⟨ao, ca, rfl, hca, hca2, _⟩ := hn1.shape
  obtain ⟨L, hL⟩ : ∃ L, L = (wd A).length := ⟨_, rfl⟩
  rw [← hL] at hca hwl HN1 ⊢
  have HL := Lib.hid hL
  clear hn1 hl1 ha hb1 hL
  by_cases hqL : L ≤ q
  · have hd : decide ((L : Int) ≤ (q : Int)) = true := decide_eq_true (by omega)
    have hz : A / 2 ^ m = 0 := by
      apply Nat.div_eq_of_lt
      have h5 := val_lt (u32_wd A)
      rw [val_wd, ← HL.out, pow32] at h5
      exact Nat.lt_of_lt_of_le h5 (Nat.pow_le_pow_right (by decide) (by rw [HQR.out]; omega))
    have HZ := Lib.hid hz; clear hz
    go_wp2_with fail
    go_ret2
    exact ⟨_, rfl, HB1.out, by rw [HZ.out, wd_zero]; exact Num.nil _⟩
  · have hd : decide ((L : Int) ≤ (q : Int)) = false := decide_eq_false (by omega)
    have hcut := fun wx : World => run_cutS wx ao q L ca (by omega)
    have hnc := HN1.out.cut q (by omega)
    have hri := right_any _ _ r w1 hnc (by rw [List.length_drop, ← HL.out]; omega) hrl
    rw [val_drop (u32_wd A), val_wd, ← HDIV.out] at hri
    have HRI := Lib.hid hri
    have hll : ((wd A).drop q).length ≤ 900000 := by rw [List.length_drop, ← HL.out]; omega
    clear hnc hri
    go_wp2_with fail
    (with_reducible refine HRI.out.mono ?_); rintro e w2 ⟨v2, l2, rfl, hb2, ho2, hln2, hv2⟩
    have htr := trim_any _ _ _ ho2.num (by rw [hln2]; omega)
    rw [hv2] at htr
    have HTR := Lib.hid htr; have HB2 := Lib.hid (HB1.out.trans (hb2.mono HB1.out.size))
    clear htr hln2 hv2 ho2 hb2
    go_wp2_with fail
    (with_reducible refine HTR.out.mono ?_); rintro e w3 ⟨v3, l3, rfl, hb3, hn3, hl3⟩
    go_wp2_with fail
    go_ret2
    exact ⟨_, rfl, HB2.out.trans (hb3.mono HB2.out.size), by rw [← hl3]; exact hn3⟩

/-- the error of a shift, and its value -/
def shiftC (n : Int) : Nat := if n < -131072 ∨ 131072 < n then 3 else 0
def shiftV (A : Nat) (n : Int) : Nat := if n < -131072 ∨ 131072 < n then 0 else if 0 ≤ n then A * 2 ^ n.toNat else A / 2 ^ (-n).toNat
theorem shiftC_small (n : Int) : shiftC n < 1000 := by unfold shiftC; split <;> omega
theorem shift_any (va : Value) (a : List Nat) (n : Int) (w : World) (ha : Num w va a) (hla : a.length ≤ 800000) :
    Calls Tryd.prog 34 #[va, .int .i64 n] w (RetNE w (shiftV (val a) n) (errV (shiftC n))) := by
  unfold shiftV shiftC
  by_cases h1 : n < -131072 ∨ 131072 < n
  · rw [if_pos h1, if_pos h1]; exact shift_err va n w h1
  · rw [if_neg h1, if_neg h1]
    by_cases h2 : 0 ≤ n
    · rw [if_pos h2]
      obtain ⟨m, rfl⟩ := Int.eq_ofNat_of_zero_le h2
      rw [Int.toNat_natCast]; exact shift_up va a m w ha hla (by omega)
    · rw [if_neg h2]
      obtain ⟨m, hm⟩ := Int.eq_ofNat_of_zero_le (show 0 ≤ -n by omega)
      rw [hm, Int.toNat_natCast, show n = -(m : Int) by omega]
      exact shift_down va a m w ha hla (by omega) (by omega)
end Go.Proofs.YtdepoikifneggaaDoor
