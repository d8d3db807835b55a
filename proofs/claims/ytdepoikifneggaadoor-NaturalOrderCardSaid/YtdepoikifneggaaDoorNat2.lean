/-
  natural.Cmp and the reference's: what they hand back.
  Conditions: each theorem's own.
-/
import Derived.Test.YtdepoikifneggaaDoorNat1
import Derived.Test.YtdepoikifneggaaDoorNatMath2
namespace Go.Proofs.YtdepoikifneggaaDoor
open Go.RowKit Go.ChangeShapes Go.WideShapes

theorem below_drewN {B : Nat} {a w : World} (h : Below B a w) (n : Nat) : Below B a (w.drewN n) := h.trans ⟨rfl, rfl, rfl, Nat.le_refl _, fun _ _ => rfl⟩

set_option maxRecDepth 100000 in
set_option maxHeartbeats 800000 in
theorem rcmp_any (va vb : Value) (a b : List Nat) (w : World) (ha : Num w va a) (hb : Num w vb b) (hla : a.length ≤ 1000000) (hlb : b.length ≤ 1000000) :
    Calls Tryd.prog 27 #[va, vb] w (RetS w (.int .i64 (cmpN (val a) (val b)))) := by
  obtain ⟨ao, ca, rfl, hca, hca2, _⟩ := ha.shape
  obtain ⟨bo, cb, rfl, hcb, hcb2, _⟩ := hb.shape
  have HA := Lib.hid ha; have HB := Lib.hid hb; clear ha hb
  obtain ⟨r, hr⟩ : ∃ r, r = cmpN (val a) (val b) := ⟨_, rfl⟩
  rw [← hr]
  have HR := Lib.hid hr; clear hr
  go_enter Tryd.func27, Tryd.ntmps27
  go_wp2_with fail
  go_loop [5] (fun i => ∃ k : Nat, k ≤ max a.length b.length ∧ i = .int .i64 ((k : Int) - 1) ∧ Hid (∀ j, k ≤ j → gd a j = gd b j)) (fun i => (intOf i + 1).toNat)
  case atStart => exact ⟨max a.length b.length, Nat.le_refl _, by go_num, Lib.hid fun j hj => by rw [gd_over _ _ (by omega), gd_over _ _ (by omega)]⟩
  case round =>
    obtain ⟨k, hk, rfl, hz⟩ := hrel
    by_cases hk0 : k = 0
    · subst hk0
      have hv : r = 0 := by rw [HR.out]; exact cmpN_eq (val_ext fun j => hz.out j (Nat.zero_le _))
      have HV := Lib.hid hv; clear hv
      go_wp2_with fail
      go_ret
      exact ⟨ret_int HV.out.symm, rfl⟩
    · obtain ⟨m, rfl⟩ : ∃ m, k = m + 1 := ⟨k - 1, by omega⟩
      have hm1 : ((m + 1 : Nat) : Int) - 1 = (m : Int) := by omega
      rw [hm1]
      clear hm1
      have hxa := HA.out.lt m
      have hxb := HB.out.lt m
      obtain ⟨x, hx⟩ : ∃ x, x = gd a m := ⟨_, rfl⟩
      obtain ⟨y, hy⟩ : ∃ y, y = gd b m := ⟨_, rfl⟩
      have hwa := rword_any _ a m w HA.out (by omega) (by omega)
      have hwb := rword_any _ b m w HB.out (by omega) (by omega)
      rw [Int.toNat_natCast, ← hx] at hwa
      rw [Int.toNat_natCast, ← hy] at hwb
      rw [← hx] at hxa
      rw [← hy] at hxb
      have HWA := Lib.hid hwa; have HWB := Lib.hid hwb; have HX := Lib.hid hx; have HY := Lib.hid hy; clear hwa hwb hx hy
      rcases Nat.lt_trichotomy x y with h1 | h1 | h1
      · have hv : r = -1 := by rw [HR.out]; exact cmpN_lt (val_lt_of_digit HA.out.lt HB.out.lt m (fun j hj => hz.out j (by omega)) (by rw [← HX.out, ← HY.out]; exact h1))
        have HV := Lib.hid hv; clear hv
        go_wp2_with (first | (go_at_call 57; (with_reducible refine HWA.out.mono ?_); rintro e w' ⟨rfl, rfl⟩) | (go_at_call 57; (with_reducible refine HWB.out.mono ?_); rintro e w' ⟨rfl, rfl⟩))
        go_ret
        exact ⟨ret_int HV.out.symm, rfl⟩
      · subst h1
        have hzm : ∀ j, m ≤ j → gd a j = gd b j := fun j hj => by
          by_cases hjm : j = m
          · rw [hjm, ← HX.out, ← HY.out]
          · exact hz.out j (by omega)
        have HZ := Lib.hid hzm; clear hzm
        go_wp2_with (first | (go_at_call 57; (with_reducible refine HWA.out.mono ?_); rintro e w' ⟨rfl, rfl⟩) | (go_at_call 57; (with_reducible refine HWB.out.mono ?_); rintro e w' ⟨rfl, rfl⟩))
        go_round
        case rel => exact ⟨m, by omega, rfl, HZ⟩
        case measure => simp [intOf]
      · have hv : r = 1 := by rw [HR.out]; exact cmpN_gt (val_lt_of_digit HB.out.lt HA.out.lt m (fun j hj => (hz.out j (by omega)).symm) (by rw [← HX.out, ← HY.out]; exact h1))
        have HV := Lib.hid hv; clear hv
        go_wp2_with (first | (go_at_call 57; (with_reducible refine HWA.out.mono ?_); rintro e w' ⟨rfl, rfl⟩) | (go_at_call 57; (with_reducible refine HWB.out.mono ?_); rintro e w' ⟨rfl, rfl⟩))
        go_ret
        exact ⟨ret_int HV.out.symm, rfl⟩

set_option maxRecDepth 100000 in
set_option maxHeartbeats 800000 in
theorem cmp_any (va vb : Value) (a b : List Nat) (w : World) (ha : Num w va a) (hb : Num w vb b) (hla : a.length ≤ 1000000) (hlb : b.length ≤ 1000000) :
    Calls Tryd.prog 26 #[va, vb] w (RetV w (.int .i64 (cmpN (val a) (val b)))) := by
  obtain ⟨r, hr⟩ : ∃ r, r = cmpN (val a) (val b) := ⟨_, rfl⟩
  rw [← hr]
  have HR := Lib.hid hr; clear hr
  have hl1 := wd_length_le ha.lt
  have hl2 := wd_length_le hb.lt
  go_enter Tryd.func26, Tryd.ntmps26
  go_wp2_with fail
  (with_reducible refine (trim_any _ _ _ ha hla).mono ?_); rintro e w1 ⟨v1, l1, rfl, hb1, hn1, hl1'⟩
  go_wp2_with fail
  (with_reducible refine (trim_any _ _ _ (hb.below hb1) hlb).mono ?_); rintro e w2 ⟨v2, l2, rfl, hb2, hn2, hl2'⟩
  have hn1 := hn1.below hb2
  have hb12 := hb1.trans (hb2.mono hb1.size)
  rw [← hl1'] at hl1
  rw [← hl2'] at hl2
  obtain ⟨ao, ca, rfl, hca, hca2, _⟩ := hn1.shape
  obtain ⟨bo, cb, rfl, hcb, hcb2, _⟩ := hn2.shape
  have H1 := Lib.hid hl1'; have H2 := Lib.hid hl2'; have HA := Lib.hid hn1; have HB := Lib.hid hn2
  clear hl1' hl2' hn1 hn2 hb1 hb2 ha hb
  rcases Nat.lt_trichotomy l1.length l2.length with h1 | h1 | h1
  · have hv : r = -1 := by
      rw [HR.out]; apply cmpN_lt
      rcases Nat.lt_or_ge (val a) (val b) with h | h
      · exact h
      · have := wd_length_mono h; rw [← H1.out, ← H2.out] at this; omega
    have HV := Lib.hid hv; clear hv
    go_wp2_with fail
    go_ret
    exact ⟨ret_int HV.out.symm, hb12⟩
  · rw [← h1] at hl2 hcb ⊢
    have HB' := HB.out
    rw [← h1] at HB'
    have HBB := Lib.hid HB'; have HL := Lib.hid h1; clear h1 HB'
    go_wp2_with fail
    go_loopw [5] (fun i wx => ∃ k : Nat, k ≤ l1.length ∧ i = .int .i64 ((k : Int) - 1) ∧ Hid (∀ j, k ≤ j → gd l1 j = gd l2 j) ∧ Below w2.heap.size w2 wx) (fun i _ => (intOf i + 1).toNat)
    case atStart => exact ⟨l1.length, Nat.le_refl _, by go_num, Lib.hid fun j hj => by rw [gd_over _ _ (by omega), gd_over _ _ (by rw [← HL.out]; exact hj)], Below.refl _ _⟩
    case round =>
      obtain ⟨k, hk, rfl, hz, hbx⟩ := hrel
      by_cases hk0 : k = 0
      · subst hk0
        have hv : r = 0 := by
          rw [HR.out]; apply cmpN_eq
          rw [← val_wd (val a), ← H1.out, ← val_wd (val b), ← H2.out]; exact val_ext fun j => hz.out j (Nat.zero_le _)
        have HV := Lib.hid hv; clear hv
        go_wp2_with fail
        go_ret
        exact ⟨ret_int HV.out.symm, hb12.trans (hbx.mono hb12.size)⟩
      · obtain ⟨m, rfl⟩ : ∃ m, k = m + 1 := ⟨k - 1, by omega⟩
        have hm1 : ((m + 1 : Nat) : Int) - 1 = (m : Int) := by omega
        rw [hm1]
        clear hm1
        obtain ⟨b1, o1, rfl, _, hc1⟩ := (HA.out.below hbx).at (by omega)
        obtain ⟨b2, o2, rfl, _, hc2⟩ := (HBB.out.below hbx).at (by omega)
        have hx1 := hc1 m (by omega)
        have hx2 := hc2 m (by omega)
        clear hc1 hc2
        have hxa := HA.out.lt m
        have hxb := HB.out.lt m
        obtain ⟨x, hx⟩ : ∃ x, x = gd l1 m := ⟨_, rfl⟩
        obtain ⟨y, hy⟩ : ∃ y, y = gd l2 m := ⟨_, rfl⟩
        rw [← hx] at hxa hx1
        rw [← hy] at hxb hx2
        have HX := Lib.hid hx; have HY := Lib.hid hy; clear hx hy
        rcases Nat.lt_trichotomy x y with g1 | g1 | g1
        · have hv : r = -1 := by
            rw [HR.out, ← val_wd (val a), ← H1.out, ← val_wd (val b), ← H2.out]
            exact cmpN_lt (val_lt_of_digit HA.out.lt HB.out.lt m (fun j hj => hz.out j (by omega)) (by rw [← HX.out, ← HY.out]; exact g1))
          have HV := Lib.hid hv; clear hv
          go_wp2_with fail
          go_quiet (fail)
          go_wp2_with fail
          go_ret
          exact ⟨ret_int HV.out.symm, hb12.trans ((below_drewN hbx _).mono hb12.size)⟩
        · subst g1
          have hzm : ∀ j, m ≤ j → gd l1 j = gd l2 j := fun j hj => by
            by_cases hjm : j = m
            · rw [hjm, ← HX.out, ← HY.out]
            · exact hz.out j (by omega)
          have HZ := Lib.hid hzm; clear hzm
          go_wp2_with fail
          go_quiet (fail)
          go_wp2_with fail
          go_quiet (fail)
          go_wp2_with fail
          go_roundw
          case rel => exact ⟨m, by omega, rfl, HZ, below_drewN hbx _⟩
          case measure => simp [intOf]
        · have hv : r = 1 := by
            rw [HR.out, ← val_wd (val a), ← H1.out, ← val_wd (val b), ← H2.out]
            exact cmpN_gt (val_lt_of_digit HB.out.lt HA.out.lt m (fun j hj => (hz.out j (by omega)).symm) (by rw [← HX.out, ← HY.out]; exact g1))
          have HV := Lib.hid hv; clear hv
          go_wp2_with fail
          go_quiet (fail)
          go_wp2_with fail
          go_quiet (fail)
          go_wp2_with fail
          go_ret
          exact ⟨ret_int HV.out.symm, hb12.trans ((below_drewN (below_drewN hbx _) _).mono hb12.size)⟩
  · have hv : r = 1 := by
      rw [HR.out]; apply cmpN_gt
      rcases Nat.lt_or_ge (val b) (val a) with h | h
      · exact h
      · have := wd_length_mono h; rw [← H1.out, ← H2.out] at this; omega
    have HV := Lib.hid hv; clear hv
    go_wp2_with fail
    go_ret
    exact ⟨ret_int HV.out.symm, hb12⟩
end Go.Proofs.YtdepoikifneggaaDoor
