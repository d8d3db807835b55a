/-
  The texts Nat2, Nat3, Nat4, Nat5, ShelfN, Nat6, Nat7, Nat8, Nat9, Nat10, Nat11, Nat12, Reg, one behind the other.
  Conditions: each theorem's own.
-/
import Derived.Shelf.Strings.Builder1
import Derived.Shelf.Strings.Trim
import Derived.Shelf.Small.Utf8
import Derived.Shelf.Small.Bits
import Derived.Shelf.Small.Strs
import Derived.Shelf.Strings.BuilderF
import Derived.Shelf.Strings.BuilderK
import Derived.Shelf.Strings.Search1
import Derived.Shelf.Strings.Search2
import Derived.Shelf.Strings.Cut
import Derived.Shelf.LaysM
import Derived.Shelf.Strings.Shaped
import Derived.Shelf.Unicode.Decode
import Derived.Shelf.Strings.Runes
import Derived.Shelf.Strings.AsciiSet
import Derived.Shelf.Unicode.DecodeSlow
import Derived.Deep.RegionHeld3
import Derived.Deep.DeepCutAuto
import Derived.Test.YtkedjammeoaciaaGreatDoorM1
/-
  natural.Cmp and the reference's: what they hand back.
  Conditions: each theorem's own.
-/
namespace Go.Proofs.YtkedjammeoaciaaGreatDoor
open Go.RowKit Go.ChangeShapes Go.WideShapes

theorem below_drewN {B : Nat} {a w : World} (h : Below B a w) (n : Nat) : Below B a (w.drewN n) := h.trans ⟨rfl, rfl, rfl, Nat.le_refl _, fun _ _ => rfl⟩

set_option maxRecDepth 100000 in
set_option maxHeartbeats 800000 in
theorem rcmp_any (va vb : Value) (a b : List Nat) (w : World) (ha : Num w va a) (hb : Num w vb b) (hla : a.length ≤ 1000000) (hlb : b.length ≤ 1000000) :
    Calls Tryz.prog 79 #[va, vb] w (RetS w (.int .i64 (cmpN (val a) (val b)))) := by
  obtain ⟨ao, ca, rfl, hca, hca2, _⟩ := ha.shape
  obtain ⟨bo, cb, rfl, hcb, hcb2, _⟩ := hb.shape
  have HA := Lib.hid ha; have HB := Lib.hid hb; clear ha hb
  obtain ⟨r, hr⟩ : ∃ r, r = cmpN (val a) (val b) := ⟨_, rfl⟩
  rw [← hr]
  have HR := Lib.hid hr; clear hr
  go_enter Tryz.func79, Tryz.ntmps79
  go_wp2_with fail
  go_loop [5] (fun i => ∃ k : Nat, k ≤ max a.length b.length ∧ i = .int .i64 ((k : Int) - 1) ∧ Hid (∀ j, k ≤ j → gd a j = gd b j)) (fun i => (intOf i + 1).toNat)
  case atStart => exact ⟨max a.length b.length, Nat.le_refl _, by go_num, Lib.hid fun j hj => by rw [gd_over _ _ (by omega), gd_over _ _ (by omega)]⟩
  case round =>
    obtain ⟨k, hk, rfl, hz⟩ := hrel
    by_cases hk0 : k = 0
    · subst hk0
      have hv : r = 0 := by rw [HR.out]; exact cmpN_eq (val_ext fun j => hz.out j (Nat.zero_le _))
      have HV := Lib.hid hv; clear hv
      go_wp2_with fail
      go_ret
      exact ⟨ret_int HV.out.symm, rfl⟩
    · obtain ⟨m, rfl⟩ : ∃ m, k = m + 1 := ⟨k - 1, by omega⟩
      have hm1 : ((m + 1 : Nat) : Int) - 1 = (m : Int) := by omega
      rw [hm1]
      clear hm1
      have hxa := HA.out.lt m
      have hxb := HB.out.lt m
      obtain ⟨x, hx⟩ : ∃ x, x = gd a m := ⟨_, rfl⟩
      obtain ⟨y, hy⟩ : ∃ y, y = gd b m := ⟨_, rfl⟩
      have hwa := rword_any _ a m w HA.out (by omega) (by omega)
      have hwb := rword_any _ b m w HB.out (by omega) (by omega)
      rw [Int.toNat_natCast, ← hx] at hwa
      rw [Int.toNat_natCast, ← hy] at hwb
      rw [← hx] at hxa
      rw [← hy] at hxb
      have HWA := Lib.hid hwa; have HWB := Lib.hid hwb; have HX := Lib.hid hx; have HY := Lib.hid hy; clear hwa hwb hx hy
      rcases Nat.lt_trichotomy x y with h1 | h1 | h1
      · have hv : r = -1 := by rw [HR.out]; exact cmpN_lt (val_lt_of_digit HA.out.lt HB.out.lt m (fun j hj => hz.out j (by omega)) (by rw [← HX.out, ← HY.out]; exact h1))
        have HV := Lib.hid hv; clear hv
        go_wp2_with (first | (go_at_call 115; (with_reducible refine HWA.out.mono ?_); rintro e w' ⟨rfl, rfl⟩) | (go_at_call 115; (with_reducible refine HWB.out.mono ?_); rintro e w' ⟨rfl, rfl⟩))
        go_ret
        exact ⟨ret_int HV.out.symm, rfl⟩
      · subst h1
        have hzm : ∀ j, m ≤ j → gd a j = gd b j := fun j hj => by
          by_cases hjm : j = m
          · rw [hjm, ← HX.out, ← HY.out]
          · exact hz.out j (by omega)
        have HZ := Lib.hid hzm; clear hzm
        go_wp2_with (first | (go_at_call 115; (with_reducible refine HWA.out.mono ?_); rintro e w' ⟨rfl, rfl⟩) | (go_at_call 115; (with_reducible refine HWB.out.mono ?_); rintro e w' ⟨rfl, rfl⟩))
        go_round
        case rel => exact ⟨m, by omega, rfl, HZ⟩
        case measure => simp [intOf]
      · have hv : r = 1 := by rw [HR.out]; exact cmpN_gt (val_lt_of_digit HB.out.lt HA.out.lt m (fun j hj => (hz.out j (by omega)).symm) (by rw [← HX.out, ← HY.out]; exact h1))
        have HV := Lib.hid hv; clear hv
        go_wp2_with (first | (go_at_call 115; (with_reducible refine HWA.out.mono ?_); rintro e w' ⟨rfl, rfl⟩) | (go_at_call 115; (with_reducible refine HWB.out.mono ?_); rintro e w' ⟨rfl, rfl⟩))
        go_ret
        exact ⟨ret_int HV.out.symm, rfl⟩

set_option maxRecDepth 100000 in
set_option maxHeartbeats 800000 in
theorem cmp_any (va vb : Value) (a b : List Nat) (w : World) (ha : Num w va a) (hb : Num w vb b) (hla : a.length ≤ 1000000) (hlb : b.length ≤ 1000000) :
    Calls Tryz.prog 74 #[va, vb] w (RetV w (.int .i64 (cmpN (val a) (val b)))) := by
  obtain ⟨r, hr⟩ : ∃ r, r = cmpN (val a) (val b) := ⟨_, rfl⟩
  rw [← hr]
  have HR := Lib.hid hr; clear hr
  have hl1 := wd_length_le ha.lt
  have hl2 := wd_length_le hb.lt
  go_enter Tryz.func74, Tryz.ntmps74
  go_wp2_with fail
  (with_reducible refine (trim_any _ _ _ ha hla).mono ?_); rintro e w1 ⟨v1, l1, rfl, hb1, hn1, hl1'⟩
  go_wp2_with fail
  (with_reducible refine (trim_any _ _ _ (hb.below hb1) hlb).mono ?_); rintro e w2 ⟨v2, l2, rfl, hb2, hn2, hl2'⟩
  have hn1 := hn1.below hb2
  have hb12 := hb1.trans (hb2.mono hb1.size)
  rw [← hl1'] at hl1
  rw [← hl2'] at hl2
  obtain ⟨ao, ca, rfl, hca, hca2, _⟩ := hn1.shape
  obtain ⟨bo, cb, rfl, hcb, hcb2, _⟩ := hn2.shape
  have H1 := Lib.hid hl1'; have H2 := Lib.hid hl2'; have HA := Lib.hid hn1; have HB := Lib.hid hn2
  clear hl1' hl2' hn1 hn2 hb1 hb2 ha hb
  rcases Nat.lt_trichotomy l1.length l2.length with h1 | h1 | h1
  · have hv : r = -1 := by
      rw [HR.out]; apply cmpN_lt
      rcases Nat.lt_or_ge (val a) (val b) with h | h
      · exact h
      · have := wd_length_mono h; rw [← H1.out, ← H2.out] at this; omega
    have HV := Lib.hid hv; clear hv
    go_wp2_with fail
    go_ret
    exact ⟨ret_int HV.out.symm, hb12⟩
  · rw [← h1] at hl2 hcb ⊢
    have HB' := HB.out
    rw [← h1] at HB'
    have HBB := Lib.hid HB'; have HL := Lib.hid h1; clear h1 HB'
    go_wp2_with fail
    go_loopw [5] (fun i wx => ∃ k : Nat, k ≤ l1.length ∧ i = .int .i64 ((k : Int) - 1) ∧ Hid (∀ j, k ≤ j → gd l1 j = gd l2 j) ∧ Below w2.heap.size w2 wx) (fun i _ => (intOf i + 1).toNat)
    case atStart => exact ⟨l1.length, Nat.le_refl _, by go_num, Lib.hid fun j hj => by rw [gd_over _ _ (by omega), gd_over _ _ (by rw [← HL.out]; exact hj)], Below.refl _ _⟩
    case round =>
      obtain ⟨k, hk, rfl, hz, hbx⟩ := hrel
      by_cases hk0 : k = 0
      · subst hk0
        have hv : r = 0 := by
          rw [HR.out]; apply cmpN_eq
          rw [← val_wd (val a), ← H1.out, ← val_wd (val b), ← H2.out]; exact val_ext fun j => hz.out j (Nat.zero_le _)
        have HV := Lib.hid hv; clear hv
        go_wp2_with fail
        go_ret
        exact ⟨ret_int HV.out.symm, hb12.trans (hbx.mono hb12.size)⟩
      · obtain ⟨m, rfl⟩ : ∃ m, k = m + 1 := ⟨k - 1, by omega⟩
        have hm1 : ((m + 1 : Nat) : Int) - 1 = (m : Int) := by omega
        rw [hm1]
        clear hm1
        obtain ⟨b1, o1, rfl, _, hc1⟩ := (HA.out.below hbx).at (by omega)
        obtain ⟨b2, o2, rfl, _, hc2⟩ := (HBB.out.below hbx).at (by omega)
        have hx1 := hc1 m (by omega)
        have hx2 := hc2 m (by omega)
        clear hc1 hc2
        have hxa := HA.out.lt m
        have hxb := HB.out.lt m
        obtain ⟨x, hx⟩ : ∃ x, x = gd l1 m := ⟨_, rfl⟩
        obtain ⟨y, hy⟩ : ∃ y, y = gd l2 m := ⟨_, rfl⟩
        rw [← hx] at hxa hx1
        rw [← hy] at hxb hx2
        have HX := Lib.hid hx; have HY := Lib.hid hy; clear hx hy
        rcases Nat.lt_trichotomy x y with g1 | g1 | g1
        · have hv : r = -1 := by
            rw [HR.out, ← val_wd (val a), ← H1.out, ← val_wd (val b), ← H2.out]
            exact cmpN_lt (val_lt_of_digit HA.out.lt HB.out.lt m (fun j hj => hz.out j (by omega)) (by rw [← HX.out, ← HY.out]; exact g1))
          have HV := Lib.hid hv; clear hv
          go_wp2_with fail
          go_quiet (fail)
          go_wp2_with fail
          go_ret
          exact ⟨ret_int HV.out.symm, hb12.trans ((below_drewN hbx _).mono hb12.size)⟩
        · subst g1
          have hzm : ∀ j, m ≤ j → gd l1 j = gd l2 j := fun j hj => by
            by_cases hjm : j = m
            · rw [hjm, ← HX.out, ← HY.out]
            · exact hz.out j (by omega)
          have HZ := Lib.hid hzm; clear hzm
          go_wp2_with fail
          go_quiet (fail)
          go_wp2_with fail
          go_quiet (fail)
          go_wp2_with fail
          go_roundw
          case rel => exact ⟨m, by omega, rfl, HZ, below_drewN hbx _⟩
          case measure => simp [intOf]
        · have hv : r = 1 := by
            rw [HR.out, ← val_wd (val a), ← H1.out, ← val_wd (val b), ← H2.out]
            exact cmpN_gt (val_lt_of_digit HB.out.lt HA.out.lt m (fun j hj => (hz.out j (by omega)).symm) (by rw [← HX.out, ← HY.out]; exact g1))
          have HV := Lib.hid hv; clear hv
          go_wp2_with fail
          go_quiet (fail)
          go_wp2_with fail
          go_quiet (fail)
          go_wp2_with fail
          go_ret
          exact ⟨ret_int HV.out.symm, hb12.trans ((below_drewN (below_drewN hbx _) _).mono hb12.size)⟩
  · have hv : r = 1 := by
      rw [HR.out]; apply cmpN_gt
      rcases Nat.lt_or_ge (val b) (val a) with h | h
      · exact h
      · have := wd_length_mono h; rw [← H1.out, ← H2.out] at this; omega
    have HV := Lib.hid hv; clear hv
    go_wp2_with fail
    go_ret
    exact ⟨ret_int HV.out.symm, hb12⟩
end Go.Proofs.YtkedjammeoaciaaGreatDoor
/-
  natural.Of, natural.Add and the reference's: what they hand back.
  Conditions: each theorem's own.
-/
namespace Go.Proofs.YtkedjammeoaciaaGreatDoor
open Go.RowKit Go.ChangeShapes Go.WideShapes

set_option maxRecDepth 100000 in
set_option maxHeartbeats 800000 in
theorem of_any (n : Int) (w : World) (h0 : -9223372036854775808 ≤ n) (h1 : n < 9223372036854775808) :
    Calls Tryz.prog 113 #[.int .i64 n] w (RetNum w fun r => r = wd n.toNat) := by
  by_cases hn : n ≤ 0
  · have hz : n.toNat = 0 := by omega
    have HZ := Lib.hid hz; clear hz
    go_enter Tryz.func113, Tryz.ntmps113
    go_wp2_with fail
    go_ret
    exact ⟨_, [], rfl, Below.refl _ _, Num.nil _, by rw [HZ.out, wd_zero]⟩
  · obtain ⟨k, rfl⟩ := Int.eq_ofNat_of_zero_le (show 0 ≤ n by omega)
    have hcv1 : ∀ wx : World, (convert 3 75 (.int .i64 (k : Int))).run Tryz.prog wx = .ok (.int .u32 ((k % 4294967296 : Nat) : Int)) wx := fun wx => by
      rw [run_convert_int (P := Tryz.prog) wx 3 75 .i64 k (by kernel_rfl) (by kernel_rfl)]
      rfl
    have hcv2 : ∀ wx : World, (convert 3 75 (.int .i64 ((k : Int) / 4294967296))).run Tryz.prog wx = .ok (.int .u32 ((k / 4294967296 % 4294967296 : Nat) : Int)) wx := fun wx => by
      rw [run_convert_int (P := Tryz.prog) wx 3 75 .i64 _ (by kernel_rfl) (by kernel_rfl)]
      rfl
    go_enter Tryz.func113, Tryz.ntmps113
    have hk0 : 0 < k := by omega
    have hk1 : k < 9223372036854775808 := by omega
    clear h0 h1 hn
    have hnl := num_lit w 75 #[.int .u32 ((k % 4294967296 : Nat) : Int), .int .u32 ((k / 4294967296 % 4294967296 : Nat) : Int)] [k % 4294967296, k / 4294967296 % 4294967296] 2 (U32.cons (by omega) (U32.cons (by omega) U32.nil)) rfl (by simp) rfl
    have hv : val [k % 4294967296, k / 4294967296 % 4294967296] = k := by simp only [val]; omega
    have htr := trim_any _ _ _ hnl (by simp)
    rw [hv] at htr
    have HTR := Lib.hid htr; clear hnl hv htr
    go_wp2_with (go_at_call 112; go_loud ((refine HTR.out.mono ?_)); rintro e w1 ⟨v1, l1, rfl, hb1, hn1, hl1⟩)
    go_ret
    exact ⟨_, _, rfl, ((Below.refl _ _).alloc (Nat.le_refl _) _).trans (hb1.mono (by simp)), hn1, hl1⟩

set_option maxRecDepth 100000 in
set_option maxHeartbeats 800000 in
theorem rof_any (n : Int) (w : World) (h0 : -9223372036854775808 ≤ n) (h1 : n < 9223372036854775808) :
    Calls Tryz.prog 141 #[.int .i64 n] w (RetNum w fun r => r = wd n.toNat) := by
  obtain ⟨k, hk⟩ : ∃ k : Nat, k = n.toNat := ⟨_, rfl⟩
  have hk1 : k < 9223372036854775808 := by omega
  have hmax : max n 0 = (k : Int) := by omega
  rw [← hk]
  clear hk h0 h1
  have hcv1 : ∀ wx : World, (convert 3 75 (.int .i64 (k : Int))).run Tryz.prog wx = .ok (.int .u32 ((k % 4294967296 : Nat) : Int)) wx := fun wx => by
    rw [run_convert_int (P := Tryz.prog) wx 3 75 .i64 k (by kernel_rfl) (by kernel_rfl)]
    rfl
  have hcv2 : ∀ wx : World, (convert 3 75 (.int .i64 ((k : Int) / 4294967296))).run Tryz.prog wx = .ok (.int .u32 ((k / 4294967296 % 4294967296 : Nat) : Int)) wx := fun wx => by
    rw [run_convert_int (P := Tryz.prog) wx 3 75 .i64 _ (by kernel_rfl) (by kernel_rfl)]
    rfl
  have hnl := num_lit w 75 #[.int .u32 ((k % 4294967296 : Nat) : Int), .int .u32 ((k / 4294967296 % 4294967296 : Nat) : Int)] [k % 4294967296, k / 4294967296 % 4294967296] 2 (U32.cons (by omega) (U32.cons (by omega) U32.nil)) rfl (by simp) rfl
  have hv : val [k % 4294967296, k / 4294967296 % 4294967296] = k := by simp only [val]; omega
  have htr := rtrim_any _ _ _ hnl (by simp)
  rw [hv] at htr
  have HTR := Lib.hid htr; clear hnl hv htr
  go_enter Tryz.func141, Tryz.ntmps141
  go_wp2_with (go_at_call 124; go_loud ((refine HTR.out.mono ?_)); rintro e w1 ⟨v1, l1, rfl, hb1, hn1, hl1⟩)
  go_ret
  exact ⟨_, _, rfl, ((Below.refl _ _).alloc (Nat.le_refl _) _).trans (hb1.mono (by simp)), hn1, hl1⟩

theorem add_bounds {c x y : Nat} (hc : c ≤ 1) (hx : x < 4294967296) (hy : y < 4294967296) : (c + (x + y)) / 4294967296 ≤ 1 ∧ (c + (x + y)) % 4294967296 < 4294967296 := by omega

set_option maxRecDepth 100000 in
set_option maxHeartbeats 800000 in
theorem add_any (va vb : Value) (a b : List Nat) (w : World) (ha : Num w va a) (hb : Num w vb b) (hla : a.length ≤ 900000) (hlb : b.length ≤ 900000) :
    Calls Tryz.prog 83 #[va, vb] w (RetNum w fun r => r = wd (val a + val b)) := by
  obtain ⟨ao, ca, rfl, hca, hca2, _⟩ := ha.shape
  obtain ⟨bo, cb, rfl, hcb, hcb2, _⟩ := hb.shape
  obtain ⟨n, hn⟩ : ∃ n, n = max a.length b.length + 1 := ⟨_, rfl⟩
  have hnb : n ≤ 900001 := by omega
  have hnb' : n ≤ 70368744177664 := by omega
  have hnz : 0 < n := by omega
  have HN := Lib.hid hn
  have HA := Lib.hid ha; have HB := Lib.hid hb
  clear hn ha hb
  go_enter Tryz.func83, Tryz.ntmps83
  go_wp2_with (at_make; refine wpList_makeN Tryz.wordsTy rfl _ _ rfl _ _ _ _ n rfl rfl ?c1 ?c2 hnb' ?_)
  case c1 => rw [HN.out]; simp; omega
  case c2 => rw [HN.out]; simp; omega
  intro w1 hO hB hsz
  go_wp2_with fail
  go_loopw [6, 17] (fun c i wr => ∃ (k cc : Nat) (l : List Nat), k ≤ n ∧ i = .int .i64 k ∧ c = .int .u64 cc ∧ cc ≤ 1 ∧ OwnW 75 wr w.heap.size (.slice (some ⟨w.heap.size, 0, none⟩) n n) l ∧ Hid (l.length = n) ∧ Below w.heap.size w wr ∧
      Hid (val (l.take k) + 4294967296 ^ k * cc = val (a.take k) + val (b.take k))) (fun _ i _ => n - (intOf i).toNat)
  case atStart => exact ⟨0, 0, _, Nat.zero_le _, rfl, rfl, by omega, hO, Lib.hid (by simp), hB, Lib.hid (by simp [val])⟩
  case round =>
    obtain ⟨k, cc, l, hk, rfl, rfl, hcc, hOr, hll, hBr, hinv⟩ := hrel
    have hak := HA.out.lt k
    have hbk := HB.out.lt k
    have har := Lib.hid (HA.out.below hBr)
    have hbr := Lib.hid (HB.out.below hBr)
    by_cases hkn : k < n
    · obtain ⟨x, hx⟩ : ∃ x, x = gd a k := ⟨_, rfl⟩
      obtain ⟨y, hy⟩ : ∃ y, y = gd b k := ⟨_, rfl⟩
      have hwa := word_any _ a k wr har.out (by omega) (by omega)
      have hwb := word_any _ b k wr hbr.out (by omega) (by omega)
      rw [Int.toNat_natCast, ← hx] at hwa
      rw [Int.toNat_natCast, ← hy] at hwb
      rw [← hx] at hak
      rw [← hy] at hbk
      have HWA := Lib.hid hwa; have HWB := Lib.hid hwb; have HX := Lib.hid hx; have HY := Lib.hid hy; clear hwa hwb hx hy
      have hcell := hOr.cell hll.out k hkn
      have hfr := hOr.frozen hll.out k
      have HO := Lib.hid hOr
      obtain ⟨s1, s2⟩ := add_bounds hcc hak hbk
      have S2 := Lib.hid s2; have S1 := Lib.hid s1
      clear hOr s1 s2
      go_wp2_with (first | (go_at_call 114; (with_reducible refine HWA.out.mono ?_); rintro e w' ⟨rfl, rfl⟩) | (go_at_call 114; (with_reducible refine HWB.out.mono ?_); rintro e w' ⟨rfl, rfl⟩))
      go_roundw
      case rel =>
        have hst := HO.out.stored hll.out k ((cc + (x + y)) % 4294967296) S2.out
        exact ⟨k + 1, (cc + (x + y)) / 4294967296, l.set k ((cc + (x + y)) % 4294967296), by omega, by go_num, rfl, S1.out, hst, Lib.hid (by rw [List.length_set]; exact hll.out), hBr.setCell (Nat.le_refl _) _,
          Lib.hid (by rw [val_take_set _ _ _ (by rw [hll.out]; exact hkn), Nat.pow_succ, add_step hinv.out, val_take_succ, val_take_succ, ← HX.out, ← HY.out])⟩
      case measure => simp [intOf]; omega
    · obtain rfl : k = n := by omega
      have hnum := hOr.num
      have hv : val l = val a + val b := by
        have := hinv.out
        rw [val_take_full l (by rw [hll.out]; exact Nat.le_refl _), val_take_full a (by rw [HN.out]; omega), val_take_full b (by rw [HN.out]; omega)] at this
        exact add_end HA.out.lt HB.out.lt (by rw [HN.out]; omega) this
      have htr := trim_any _ _ _ hnum (by rw [hll.out]; omega)
      rw [hv] at htr
      have HT := Lib.hid htr; clear hnum hv htr
      have HL := hll.out
      go_wp2_with (go_at_call 112; (with_reducible refine HT.out.mono ?_); rintro e w' ⟨v', l', rfl, hB', hN', hl'⟩)
      go_ret
      exact ⟨_, _, rfl, hBr.trans (hB'.mono hBr.size), hN', hl'⟩
end Go.Proofs.YtkedjammeoaciaaGreatDoor
/-
  The reference's Add, natural.Sub and the reference's: what they hand back.
  Conditions: each theorem's own.
-/
namespace Go.Proofs.YtkedjammeoaciaaGreatDoor
open Go.RowKit Go.ChangeShapes Go.WideShapes

theorem cmpN_nlt {m n : Nat} (h : n ≤ m) : decide (cmpN m n < 0) = false := by
  unfold cmpN; rw [if_neg (by omega)]; split <;> rfl
theorem cmpN_islt {m n : Nat} (h : m < n) : decide (cmpN m n < 0) = true := by
  unfold cmpN; rw [if_pos h]; rfl
/-- an error by its number -/
def errV (c : Nat) : Value := if c = 0 then .nilIface else .iface 65 (.int .i64 c)
theorem errV_zero : errV 0 = .nilIface := rfl
theorem errV_pos {c : Nat} (h : c ≠ 0) : errV c = .iface 65 (.int .i64 c) := by simp [errV, h]
/-- hands back words and an error -/
def RetNE (w : World) (n : Nat) (er : Value) (e : Ending) (w' : World) : Prop := ∃ v, e = .returned (.tuple #[v, er]) ∧ Below w.heap.size w w' ∧ Num w' v (wd n)
/-- .. words of the call's own -/
def RetNEO (w : World) (n : Nat) (er : Value) (e : Ending) (w' : World) : Prop := ∃ v, e = .returned (.tuple #[v, er]) ∧ Below w.heap.size w w' ∧ OwnW 75 w' w.heap.size v (wd n)
/-- a slice literal of one word, as the walk lays it -/
theorem num_one (w : World) (e : TypeId) (x : Nat) (hx : x < 4294967296) : Num (w.alloc (.cells #[.int .u32 x] e)) (.slice (some ⟨w.heap.size, 0, none⟩) 1 1) [x] :=
  num_lit w e _ [x] 1 (U32.cons hx U32.nil) rfl (by simp) rfl

set_option maxRecDepth 100000 in
set_option maxHeartbeats 800000 in
theorem radd_any (va vb : Value) (a b : List Nat) (w : World) (ha : Num w va a) (hb : Num w vb b) (hla : a.length ≤ 900000) (hlb : b.length ≤ 900000) :
    Calls Tryz.prog 86 #[va, vb] w (RetNum w fun r => r = wd (val a + val b)) := by
  obtain ⟨ao, ca, rfl, hca, hca2, _⟩ := ha.shape
  obtain ⟨bo, cb, rfl, hcb, hcb2, _⟩ := hb.shape
  obtain ⟨n, hn⟩ : ∃ n, n = max a.length b.length + 1 := ⟨_, rfl⟩
  have hnb : n ≤ 900001 := by omega
  have hni : max (a.length : Int) (b.length : Int) + 1 = (n : Int) := by omega
  have HN := Lib.hid hn
  have HA := Lib.hid ha; have HB := Lib.hid hb
  clear hn ha hb
  go_enter Tryz.func86, Tryz.ntmps86
  go_wp2_with fail
  have HNI := Lib.hid hni; clear hni
  go_loopw [5, 6, 15] (fun v c i wr => ∃ (k cc : Nat) (l : List Nat), k ≤ n ∧ i = .int .i64 k ∧ c = .int .u64 cc ∧ cc ≤ 1 ∧ OwnW 75 wr w.heap.size v l ∧ Hid (l.length = k) ∧ Below w.heap.size w wr ∧
      Hid (val l + 4294967296 ^ k * cc = val (a.take k) + val (b.take k))) (fun _ _ i _ => n - (intOf i).toNat)
  case atStart => exact ⟨0, 0, [], Nat.zero_le _, rfl, rfl, by omega, OwnW.nil _ _ _, Lib.hid rfl, Below.refl _ _, Lib.hid (by simp [val])⟩
  case round =>
    obtain ⟨k, cc, l, hk, rfl, rfl, hcc, hOr, hll, hBr, hinv⟩ := hrel
    have hak := HA.out.lt k
    have hbk := HB.out.lt k
    have har := Lib.hid (HA.out.below hBr)
    have hbr := Lib.hid (HB.out.below hBr)
    by_cases hkn : k < n
    · obtain ⟨x, hx⟩ : ∃ x, x = gd a k := ⟨_, rfl⟩
      obtain ⟨y, hy⟩ : ∃ y, y = gd b k := ⟨_, rfl⟩
      have hwa := rword_any _ a k wr har.out (by omega) (by omega)
      have hwb := rword_any _ b k wr hbr.out (by omega) (by omega)
      rw [Int.toNat_natCast, ← hx] at hwa
      rw [Int.toNat_natCast, ← hy] at hwb
      rw [← hx] at hak
      rw [← hy] at hbk
      have HWA := Lib.hid hwa; have HWB := Lib.hid hwb; have HX := Lib.hid hx; have HY := Lib.hid hy; clear hwa hwb hx hy
      have HO := Lib.hid hOr
      obtain ⟨s1, s2⟩ := add_bounds hcc hak hbk
      have h1 := num_one wr 75 ((cc + (x + y)) % 4294967296) s2
      have S2 := Lib.hid s2; have S1 := Lib.hid s1
      have hszr := hBr.size
      have H1 := Lib.hid h1
      have e1 : cc + (x + y) = x + y + cc := by omega
      have E1 := Lib.hid e1
      clear hOr s1 s2 h1 e1
      rw [E1.out] at H1 S1 S2
      go_wp2_with (first | (go_at_call 115; (with_reducible refine HWA.out.mono ?_); rintro e w' ⟨rfl, rfl⟩) | (go_at_call 115; (with_reducible refine HWB.out.mono ?_); rintro e w' ⟨rfl, rfl⟩) |
        (at_builtin; refine wpList_appendN Tryz.wordsTy rfl (.tmp 27) (.tmp 30) rfl w.heap.size _ _ l [(x + y + cc) % 4294967296] rfl rfl (HO.out.alloc _) H1.out ?c1 ?c2 ?_))
      case c1 => rw [hll.out]; simp; omega
      case c2 => simp; omega
      intro v' w1 h1 h2 h3
      have h4 := h2 w (hBr.alloc hszr _)
      go_wp2_with fail
      go_roundw
      case rel =>
        exact ⟨k + 1, (x + y + cc) / 4294967296, l ++ [(x + y + cc) % 4294967296], by omega, by go_num, rfl, S1.out, h1, Lib.hid (by rw [List.length_append, hll.out]; rfl), h4,
          Lib.hid (by rw [val_snoc, hll.out, Nat.pow_succ, ← E1.out, add_step hinv.out, val_take_succ, val_take_succ, ← HX.out, ← HY.out])⟩
      case measure => simp [intOf]; omega
    · obtain rfl : k = n := by omega
      have hnum := hOr.num
      have hv : val l = val a + val b := by
        have := hinv.out
        rw [val_take_full a (by rw [HN.out]; omega), val_take_full b (by rw [HN.out]; omega)] at this
        exact add_end HA.out.lt HB.out.lt (by rw [HN.out]; omega) this
      have htr := rtrim_any _ _ _ hnum (by rw [hll.out]; omega)
      rw [hv] at htr
      have HT := Lib.hid htr; clear hnum hv htr
      have HL := hll.out
      go_wp2_with (go_at_call 124; (with_reducible refine HT.out.mono ?_); rintro e w' ⟨v', l', rfl, hB', hN', hl'⟩)
      go_ret
      exact ⟨_, _, rfl, hBr.trans (hB'.mono hBr.size), hN', hl'⟩

/-- a word less another one less a borrow, in 64 bits -/
def subW (x y r : Nat) : Nat := if y + r ≤ x then x - y - r else 18446744073709551616 + x - y - r
theorem subW_lt {x y r : Nat} (hx : x < 4294967296) (hy : y < 4294967296) (hr : r ≤ 1) : subW x y r < 18446744073709551616 := by unfold subW; split <;> omega
theorem subW_wrap {x y r : Nat} (hx : x < 4294967296) (hy : y < 4294967296) (hr : r ≤ 1) : IntKind.u64.wrap (IntKind.u64.wrap ((x : Int) - y) - r) = (subW x y r : Nat) := by
  have e : ∀ n : Int, IntKind.u64.wrap n = n % 18446744073709551616 := fun n => rfl
  rw [e, e]; unfold subW; split <;> omega
theorem subW_borrow {x y r : Nat} (hx : x < 4294967296) (hy : y < 4294967296) (hr : r ≤ 1) : subW x y r / 9223372036854775808 ≤ 1 ∧
    subW x y r % 4294967296 + y + r = x + 4294967296 * (subW x y r / 9223372036854775808) := by unfold subW; split <;> omega

set_option maxRecDepth 100000 in
set_option maxHeartbeats 800000 in
theorem sub_ge (va vb : Value) (a b : List Nat) (w : World) (ha : Num w va a) (hb : Num w vb b) (hla : a.length ≤ 900000) (hlb : b.length ≤ 900000) (hge : val b ≤ val a) :
    Calls Tryz.prog 131 #[va, vb] w (RetNE w (val a - val b) (errV 0)) := by
  have hcmp := cmp_any va vb a b w ha hb (by omega) (by omega)
  obtain ⟨cr, hcr⟩ : ∃ cr, cr = cmpN (val a) (val b) := ⟨_, rfl⟩
  have hcr0 : decide (cr < 0) = false := by rw [hcr]; exact cmpN_nlt hge
  rw [← hcr] at hcmp
  have HC := Lib.hid hcmp; clear hcmp hcr
  obtain ⟨ao, ca, rfl, hca, hca2, _⟩ := ha.shape
  obtain ⟨bo, cb, rfl, hcb, hcb2, _⟩ := hb.shape
  obtain ⟨n, hn⟩ : ∃ n, n = a.length := ⟨_, rfl⟩
  have hnb : n ≤ 900000 := by omega
  have hnb' : n ≤ 70368744177664 := by omega
  have HN := Lib.hid hn
  have HA := Lib.hid ha; have HB := Lib.hid hb
  clear hn ha hb
  rw [errV_zero]
  go_enter Tryz.func131, Tryz.ntmps131
  go_wp2_with fail
  (with_reducible refine HC.out.mono ?_); rintro e w0 ⟨rfl, hb0⟩
  go_wp2_with (at_make; refine wpList_makeN Tryz.wordsTy rfl _ _ rfl _ _ _ _ n rfl rfl ?c1 ?c2 hnb' ?_)
  case c1 => rw [HN.out]
  case c2 => rw [HN.out]
  intro w1 hO hB hsz
  have hB01 := hb0.trans (hB.mono hb0.size)
  have hOb := hO.base hb0.size
  clear hO hB
  go_wp2_with fail
  go_loopw [7, 9, 20] (fun c d i wr => ∃ (k cc : Nat) (l : List Nat), k ≤ n ∧ i = .int .i64 k ∧ c = .int .u64 cc ∧ cc ≤ 1 ∧ OwnW 75 wr w.heap.size (.slice (some ⟨w0.heap.size, 0, none⟩) n n) l ∧ Hid (l.length = n) ∧ Below w.heap.size w wr ∧
      Hid (val (l.take k) + val (b.take k) = val (a.take k) + 4294967296 ^ k * cc)) (fun _ _ i _ => n - (intOf i).toNat)
  case atStart => exact ⟨0, 0, _, Nat.zero_le _, rfl, rfl, by omega, hOb, Lib.hid (by simp), hB01, Lib.hid (by simp [val])⟩
  case round =>
    obtain ⟨k, cc, l, hk, rfl, rfl, hcc, hOr, hll, hBr, hinv⟩ := hrel
    have hak := HA.out.lt k
    have hbk := HB.out.lt k
    have har := Lib.hid (HA.out.below hBr)
    have hbr := Lib.hid (HB.out.below hBr)
    by_cases hkn : k < n
    · obtain ⟨x, hx⟩ : ∃ x, x = gd a k := ⟨_, rfl⟩
      obtain ⟨y, hy⟩ : ∃ y, y = gd b k := ⟨_, rfl⟩
      have hwa := word_any _ a k wr har.out (by omega) (by omega)
      have hwb := word_any _ b k wr hbr.out (by omega) (by omega)
      rw [Int.toNat_natCast, ← hx] at hwa
      rw [Int.toNat_natCast, ← hy] at hwb
      rw [← hx] at hak
      rw [← hy] at hbk
      have HWA := Lib.hid hwa; have HWB := Lib.hid hwb; have HX := Lib.hid hx; have HY := Lib.hid hy; clear hwa hwb hx hy
      have hcell := hOr.cell hll.out k hkn
      have hfr := hOr.frozen hll.out k
      have HO := Lib.hid hOr
      have hsw := subW_wrap hak hbk hcc
      have hslt := subW_lt hak hbk hcc
      have hsb := subW_borrow hak hbk hcc
      obtain ⟨d, hd⟩ : ∃ d, d = subW x y cc := ⟨_, rfl⟩
      rw [← hd] at hsw hslt hsb
      obtain ⟨s1, s2⟩ := hsb
      have S2 := Lib.hid s2; have S1 := Lib.hid s1
      have hdm : d % 4294967296 < 4294967296 := Nat.mod_lt _ (by decide)
      have HDM := Lib.hid hdm
      clear hOr s1 s2 hd hdm
      have hcell' := hcell
      go_wp2_with (first | (go_at_call 114; (with_reducible refine HWA.out.mono ?_); rintro e w' ⟨rfl, rfl⟩) | (go_at_call 114; (with_reducible refine HWB.out.mono ?_); rintro e w' ⟨rfl, rfl⟩))
      go_roundw
      case rel =>
        have hst := HO.out.stored hll.out k (d % 4294967296) HDM.out
        exact ⟨k + 1, d / 9223372036854775808, l.set k (d % 4294967296), by omega, by go_num, rfl, S1.out, hst, Lib.hid (by rw [List.length_set]; exact hll.out), hBr.setCell hb0.size _,
          Lib.hid (by rw [val_take_set _ _ _ (by rw [hll.out]; exact hkn), Nat.pow_succ, val_take_succ, val_take_succ, ← HX.out, ← HY.out]; exact sub_step hinv.out S2.out)⟩
      case measure => simp [intOf]; omega
    · obtain rfl : k = n := by omega
      have hnum := hOr.num
      have hv : val l = val a - val b := by
        have hi := hinv.out
        have hlt := val_lt (hOr.lt)
        have halt := val_lt HA.out.lt
        rw [hll.out] at hlt
        rw [← HN.out] at halt
        rw [val_take_full l (by rw [hll.out]; exact Nat.le_refl _), val_take_full a (by rw [HN.out]; omega), val_take HB.out.lt, Nat.mod_eq_of_lt (by omega)] at hi
        exact sub_end hlt hi hge hcc
      have htr := trim_any _ _ _ hnum (by rw [hll.out]; omega)
      rw [hv] at htr
      have HT := Lib.hid htr; clear hnum hv htr
      have HL := hll.out
      go_wp2_with (go_at_call 112; (with_reducible refine HT.out.mono ?_); rintro e w' ⟨v', l', rfl, hB', hN', hl'⟩)
      go_ret2
      exact ⟨_, rfl, hBr.trans (hB'.mono hBr.size), by rw [← hl']; exact hN'⟩
set_option maxRecDepth 100000 in
set_option maxHeartbeats 800000 in
theorem sub_lt (va vb : Value) (a b : List Nat) (w : World) (ha : Num w va a) (hb : Num w vb b) (hla : a.length ≤ 900000) (hlb : b.length ≤ 900000) (hlt : val a < val b) :
    Calls Tryz.prog 131 #[va, vb] w (RetNE w 0 (errV 3)) := by
  have hcmp := cmp_any va vb a b w ha hb (by omega) (by omega)
  obtain ⟨cr, hcr⟩ : ∃ cr, cr = cmpN (val a) (val b) := ⟨_, rfl⟩
  have hcr0 : decide (cr < 0) = true := by rw [hcr]; exact cmpN_islt hlt
  rw [← hcr] at hcmp
  have HC := Lib.hid hcmp; clear hcmp hcr
  clear ha hb hla hlb hlt
  rw [errV_pos (by decide)]
  go_enter Tryz.func131, Tryz.ntmps131
  go_wp2_with (go_at_call 74; (with_reducible refine HC.out.mono ?_); rintro e w0 ⟨rfl, hb0⟩)
  go_ret2
  exact ⟨_, rfl, hb0, by rw [wd_zero]; exact Num.nil _⟩

set_option maxRecDepth 100000 in
set_option maxHeartbeats 800000 in
theorem rsub_lt (va vb : Value) (a b : List Nat) (w : World) (ha : Num w va a) (hb : Num w vb b) (hla : a.length ≤ 900000) (hlb : b.length ≤ 900000) (hlt : val a < val b) :
    Calls Tryz.prog 126 #[va, vb] w (RetNE w 0 (.int .i64 3)) := by
  have hcmp := rcmp_any va vb a b w ha hb (by omega) (by omega)
  obtain ⟨cr, hcr⟩ : ∃ cr, cr = cmpN (val a) (val b) := ⟨_, rfl⟩
  have hcr0 : decide (cr < 0) = true := by rw [hcr]; exact cmpN_islt hlt
  rw [← hcr] at hcmp
  have HC := Lib.hid hcmp; clear hcmp hcr
  clear ha hb hla hlb hlt
  go_enter Tryz.func126, Tryz.ntmps126
  go_wp2_with (go_at_call 79; (with_reducible refine HC.out.mono ?_); rintro e w0 ⟨rfl, rfl⟩)
  go_ret2
  exact ⟨_, rfl, Below.refl _ _, by rw [wd_zero]; exact Num.nil _⟩

set_option maxRecDepth 100000 in
set_option maxHeartbeats 800000 in
theorem rsub_own (va vb : Value) (a b : List Nat) (w : World) (ha : Num w va a) (hb : Num w vb b) (hla : a.length ≤ 900000) (hlb : b.length ≤ 900000) (hge : val b ≤ val a) :
    Calls Tryz.prog 126 #[va, vb] w (RetNEO w (val a - val b) (.int .i64 0)) := by
  have hcmp := rcmp_any va vb a b w ha hb (by omega) (by omega)
  obtain ⟨cr, hcr⟩ : ∃ cr, cr = cmpN (val a) (val b) := ⟨_, rfl⟩
  have hcr0 : decide (cr < 0) = false := by rw [hcr]; exact cmpN_nlt hge
  rw [← hcr] at hcmp
  have HC := Lib.hid hcmp; clear hcmp hcr
  obtain ⟨ao, ca, rfl, hca, hca2, _⟩ := ha.shape
  obtain ⟨bo, cb, rfl, hcb, hcb2, _⟩ := hb.shape
  obtain ⟨n, hn⟩ : ∃ n, n = a.length := ⟨_, rfl⟩
  have hni : (a.length : Int) = (n : Int) := by omega
  have HNI := Lib.hid hni; clear hni
  have hnb : n ≤ 900000 := by omega
  have hnb' : n ≤ 70368744177664 := by omega
  have HN := Lib.hid hn
  have HA := Lib.hid ha; have HB := Lib.hid hb
  clear hn ha hb
  go_enter Tryz.func126, Tryz.ntmps126
  go_wp2_with (go_at_call 79; (with_reducible refine HC.out.mono ?_); rintro e w0 ⟨rfl, rfl⟩)
  go_loopw [6, 7, 9, 16] (fun v c d i wr => ∃ (k cc : Nat) (l : List Nat), k ≤ n ∧ i = .int .i64 k ∧ c = .int .u64 cc ∧ cc ≤ 1 ∧ OwnW 75 wr w.heap.size v l ∧ Hid (l.length = k) ∧ Below w.heap.size w wr ∧
      Hid (val l + val (b.take k) = val (a.take k) + 4294967296 ^ k * cc)) (fun _ _ _ i _ => n - (intOf i).toNat)
  case atStart => exact ⟨0, 0, [], Nat.zero_le _, rfl, rfl, by omega, OwnW.nil _ _ _, Lib.hid rfl, Below.refl _ _, Lib.hid (by simp [val])⟩
  case round =>
    obtain ⟨k, cc, l, hk, rfl, rfl, hcc, hOr, hll, hBr, hinv⟩ := hrel
    have hak := HA.out.lt k
    have hbk := HB.out.lt k
    have har := Lib.hid (HA.out.below hBr)
    have hbr := Lib.hid (HB.out.below hBr)
    by_cases hkn : k < n
    · have hkl : k < a.length := by rw [← HN.out]; exact hkn
      obtain ⟨x, hx⟩ : ∃ x, x = gd a k := ⟨_, rfl⟩
      obtain ⟨y, hy⟩ : ∃ y, y = gd b k := ⟨_, rfl⟩
      have hwa := rword_any _ a k wr har.out (by omega) (by omega)
      have hwb := rword_any _ b k wr hbr.out (by omega) (by omega)
      rw [Int.toNat_natCast, ← hx] at hwa
      rw [Int.toNat_natCast, ← hy] at hwb
      rw [← hx] at hak
      rw [← hy] at hbk
      have HWA := Lib.hid hwa; have HWB := Lib.hid hwb; have HX := Lib.hid hx; have HY := Lib.hid hy; clear hwa hwb hx hy
      have hszr := hBr.size
      have HO := Lib.hid hOr
      have hsw := subW_wrap hak hbk hcc
      have hslt := subW_lt hak hbk hcc
      have hsb := subW_borrow hak hbk hcc
      obtain ⟨d, hd⟩ : ∃ d, d = subW x y cc := ⟨_, rfl⟩
      rw [← hd] at hsw hslt hsb
      obtain ⟨s1, s2⟩ := hsb
      have S2 := Lib.hid s2; have S1 := Lib.hid s1
      have hdm : d % 4294967296 < 4294967296 := Nat.mod_lt _ (by decide)
      have HDM := Lib.hid hdm
      have h1 := num_one wr 75 (d % 4294967296) hdm
      have H1 := Lib.hid h1
      clear hOr s1 s2 hd hdm h1
      go_wp2_with (first | (go_at_call 115; (with_reducible refine HWA.out.mono ?_); rintro e w' ⟨rfl, rfl⟩) | (go_at_call 115; (with_reducible refine HWB.out.mono ?_); rintro e w' ⟨rfl, rfl⟩) |
        (at_builtin; refine wpList_appendN Tryz.wordsTy rfl (.tmp 28) (.tmp 31) rfl w.heap.size _ _ l [d % 4294967296] rfl rfl (HO.out.alloc _) H1.out ?c1 ?c2 ?_))
      case c1 => rw [hll.out]; simp; omega
      case c2 => simp; omega
      intro v' w1 h1 h2 h3
      have h4 := h2 w (hBr.alloc hszr _)
      go_wp2_with fail
      go_roundw
      case rel =>
        exact ⟨k + 1, d / 9223372036854775808, l ++ [d % 4294967296], by omega, by go_num, rfl, S1.out, h1, Lib.hid (by rw [List.length_append, hll.out]; rfl), h4,
          Lib.hid (by rw [val_snoc, hll.out, Nat.pow_succ, val_take_succ, val_take_succ, ← HX.out, ← HY.out]; exact sub_step hinv.out S2.out)⟩
      case measure => simp [intOf]; omega
    · have hkl : ¬ k < a.length := by rw [← HN.out]; exact hkn
      obtain rfl : k = n := by omega
      have hnum := hOr.num
      have hv : val l = val a - val b := by
        have hi := hinv.out
        have hlt := val_lt (hOr.lt)
        have halt := val_lt HA.out.lt
        rw [hll.out] at hlt
        rw [← HN.out] at halt
        rw [val_take_full a (by rw [HN.out]; omega), val_take HB.out.lt, Nat.mod_eq_of_lt (by omega)] at hi
        exact sub_end hlt hi hge hcc
      have htr := rtrim_own _ _ _ hnum (by rw [hll.out]; omega)
      rw [hv] at htr
      have HT := Lib.hid htr; clear hnum hv htr
      have HL := hll.out
      go_wp2_with (go_at_call 124; (with_reducible refine HT.out.mono ?_); rintro e w' ⟨v', l', rfl, hB', hN', hl'⟩)
      go_ret2
      exact ⟨_, rfl, hBr.trans (hB'.mono hBr.size), by rw [← hl']; exact hN'.base hBr.size⟩
theorem rsub_ge (va vb : Value) (a b : List Nat) (w : World) (ha : Num w va a) (hb : Num w vb b) (hla : a.length ≤ 900000) (hlb : b.length ≤ 900000) (hge : val b ≤ val a) :
    Calls Tryz.prog 126 #[va, vb] w (RetNE w (val a - val b) (.int .i64 0)) := by
  refine (rsub_own va vb a b w ha hb hla hlb hge).mono ?_
  rintro e w' ⟨v, he, hbb, ho⟩
  exact ⟨v, he, hbb, ho.num⟩
end Go.Proofs.YtkedjammeoaciaaGreatDoor
/-
  natural.Mul and the reference's: what they hand back.
  Conditions: each theorem's own.
-/
namespace Go.Proofs.YtkedjammeoaciaaGreatDoor
open Go.RowKit Go.ChangeShapes Go.WideShapes

set_option maxRecDepth 100000 in
set_option maxHeartbeats 1600000 in
theorem mul_any (va vb : Value) (a b : List Nat) (w : World) (ha : Num w va a) (hb : Num w vb b) (hla : a.length ≤ 450000) (hlb : b.length ≤ 450000) :
    Calls Tryz.prog 109 #[va, vb] w (RetNum w fun r => r = wd (val a * val b)) := by
  obtain ⟨ao, ca, rfl, hca, hca2, _⟩ := ha.shape
  obtain ⟨bo, cb, rfl, hcb, hcb2, _⟩ := hb.shape
  obtain ⟨n, hn⟩ : ∃ n, n = a.length + b.length := ⟨_, rfl⟩
  have hnb : n ≤ 900000 := by omega
  have hnb' : n ≤ 70368744177664 := by omega
  have hna : a.length + b.length ≤ n := by omega
  have HN := Lib.hid hn
  have HA := Lib.hid ha; have HB := Lib.hid hb
  clear hn ha hb
  go_enter Tryz.func109, Tryz.ntmps109
  go_wp2_with (at_make; refine wpList_makeN Tryz.wordsTy rfl _ _ rfl _ _ _ _ n rfl rfl ?c1 ?c2 hnb' ?_)
  case c1 => rw [HN.out]; rfl
  case c2 => rw [HN.out]; rfl
  intro w1 hO hB hsz
  go_wp2_with fail
  go_loopw [19] (fun iv wr => ∃ (i : Nat) (l : List Nat), i ≤ a.length ∧ iv = .int .i64 i ∧ OwnW 75 wr w.heap.size (.slice (some ⟨w.heap.size, 0, none⟩) n n) l ∧ Hid (l.length = n) ∧ Below w.heap.size w wr ∧
      Hid (val l = val (a.take i) * val b)) (fun i _ => a.length - (intOf i).toNat)
  case atStart => exact ⟨0, _, Nat.zero_le _, rfl, hO, Lib.hid (by simp), hB, Lib.hid (by simp [val, val_zeros])⟩
  case round =>
    obtain ⟨i, l, hi, rfl, hOr, hll, hBr, hinv⟩ := hrel
    obtain ⟨wo, rfl⟩ : ∃ wo : World, wo = wr := ⟨_, rfl⟩
    by_cases hin : i < a.length
    · have har := HA.out.below hBr
      obtain ⟨ba, oa, rfl, _, hca⟩ := har.at (by omega)
      have hx := hca i hin
      have hxl := HA.out.lt i
      obtain ⟨x, hxe⟩ : ∃ x, x = gd a i := ⟨_, rfl⟩
      rw [← hxe] at hx hxl
      have hz := gd_zero_of_lt hOr.lt (n := i + b.length) (by rw [hinv.out]; exact mul_lt HA.out.lt HB.out.lt i)
      have HZ := Lib.hid hz
      have HX := Lib.hid hxe; have HO := Lib.hid hOr; have HAR := Lib.hid har
      clear hxe hOr har hca hz
      go_wp2_with fail
      go_loopw [8, 26] (fun cv kv wr => ∃ (k c : Nat) (m : List Nat), k ≤ b.length ∧ kv = .int .i64 k ∧ cv = .int .u64 c ∧ c < 4294967296 ∧ OwnW 75 wr w.heap.size (.slice (some ⟨w.heap.size, 0, none⟩) n n) m ∧ Hid (m.length = n) ∧ Below w.heap.size w wr ∧
          Hid (val m + 4294967296 ^ (i + k) * c = val (a.take i) * val b + 4294967296 ^ i * (x * val (b.take k))) ∧ Hid (∀ j, i + b.length ≤ j → gd m j = 0)) (fun _ k _ => b.length - (intOf k).toNat)
      case atStart => exact ⟨0, 0, l, Nat.zero_le _, rfl, rfl, by omega, HO.out, hll, hBr, Lib.hid (by rw [hinv.out]; simp [val]), HZ⟩
      case round =>
        obtain ⟨k, c, m, hk, rfl, rfl, hc, hOm, hml, hBm, hinm, hzm⟩ := hrel
        by_cases hkn : k < b.length
        · have hbr := HB.out.below hBm
          obtain ⟨bb, ob, rfl, _, hcb⟩ := hbr.at (by omega)
          have hy := hcb k hkn
          have hyl := HB.out.lt k
          obtain ⟨y, hye⟩ : ∃ y, y = gd b k := ⟨_, rfl⟩
          rw [← hye] at hy hyl
          have hik : i + k < n := by omega
          have hcell := hOm.cell hml.out (i + k) hik
          have hfr := hOm.frozen hml.out (i + k)
          have hol := hOm.lt (i + k)
          obtain ⟨o, hoe⟩ : ∃ o, o = gd m (i + k) := ⟨_, rfl⟩
          rw [← hoe] at hcell hol
          obtain ⟨p, hpe⟩ : ∃ p, p = x * y := ⟨_, rfl⟩
          have hpi : (x : Int) * (y : Int) = (p : Int) := by rw [hpe]; rfl
          have hpl := word_mul hxl hyl
          rw [← hpe] at hpl
          obtain ⟨s1, s2⟩ := mul_bounds hc hpl hol
          have HY := Lib.hid hye; have HO := Lib.hid hOm; have HOE := Lib.hid hoe; have HPE := Lib.hid hpe; have S1 := Lib.hid s1; have S2 := Lib.hid s2
          clear hye hOm hoe hpe hbr hcb s1 s2
          go_wp2_with fail
          go_roundw
          case rel =>
            have hst := HO.out.stored hml.out (i + k) ((c + (p + o)) % 4294967296) S2.out
            have hvs := val_set m (i + k) ((c + (p + o)) % 4294967296) (by rw [hml.out]; exact hik)
            rw [← HOE.out] at hvs
            refine ⟨k + 1, (c + (p + o)) / 4294967296, m.set (i + k) ((c + (p + o)) % 4294967296), by omega, by go_num, rfl, S1.out, hst, Lib.hid (by rw [List.length_set]; exact hml.out), hBm.setCell (Nat.le_refl _) _, Lib.hid ?_, Lib.hid ?_⟩
            · have h3 := mul_step hinm.out rfl hvs
              have e5 : i + (k + 1) = (i + k) + 1 := rfl
              rw [e5, Nat.pow_succ, h3, Nat.pow_add, HPE.out]
              exact mul_row _ _ _ _ _ _ HY.out
            · intro j hj
              rw [gd_set, if_neg (by omega)]; exact hzm.out j hj
          case measure => simp [intOf]; omega
        · obtain rfl : k = b.length := by omega
          have hik : i + b.length < n := by omega
          have hcell := hOm.cell hml.out (i + b.length) hik
          have hfr := hOm.frozen hml.out (i + b.length)
          have HO := Lib.hid hOm
          have hcm : c % 4294967296 = c := Nat.mod_eq_of_lt hc
          have hci : (c : Int) % 4294967296 = (c : Int) := by omega
          have HCM := Lib.hid hcm
          clear hOm hcm
          go_wp2_with fail
          go_roundw
          case rel =>
            have hst := HO.out.stored hml.out (i + b.length) c hc
            have hvs := val_set m (i + b.length) c (by rw [hml.out]; exact hik)
            rw [hzm.out _ (Nat.le_refl _)] at hvs
            refine ⟨i + 1, m.set (i + b.length) c, by omega, by go_num, hst, Lib.hid (by rw [List.length_set]; exact hml.out), hBm.setCell (Nat.le_refl _) _, Lib.hid ?_⟩
            have h3 := hinm.out
            rw [List.take_of_length_le (Nat.le_refl _), mul_rows _ _ _ _ HX.out] at h3
            omega
          case measure => simp [intOf]; omega
    · obtain rfl : i = a.length := by omega
      have hnum := hOr.num
      have htr := trim_any _ _ _ hnum (by rw [hll.out]; omega)
      rw [hinv.out, List.take_of_length_le (Nat.le_refl _)] at htr
      have HT := Lib.hid htr; clear hnum htr
      have HL := hll.out
      go_wp2_with (go_at_call 112; (with_reducible refine HT.out.mono ?_); rintro e w' ⟨v', l', rfl, hB', hN', hl'⟩)
      go_ret
      exact ⟨_, _, rfl, hBr.trans (hB'.mono hBr.size), hN', hl'⟩
set_option maxRecDepth 100000 in
set_option maxHeartbeats 1600000 in
theorem rmul_any (va vb : Value) (a b : List Nat) (w : World) (ha : Num w va a) (hb : Num w vb b) (hla : a.length ≤ 450000) (hlb : b.length ≤ 450000) :
    Calls Tryz.prog 110 #[va, vb] w (RetNum w fun r => r = wd (val a * val b)) := by
  obtain ⟨ao, ca, rfl, hca, hca2, _⟩ := ha.shape
  obtain ⟨bo, cb, rfl, hcb, hcb2, _⟩ := hb.shape
  obtain ⟨n, hn⟩ : ∃ n, n = a.length + b.length + 1 := ⟨_, rfl⟩
  have hnb : n ≤ 900001 := by omega
  have hnb' : n ≤ 70368744177664 := by omega
  have hna : a.length + b.length < n := by omega
  have HN := Lib.hid hn
  have HA := Lib.hid ha; have HB := Lib.hid hb
  clear hn ha hb
  go_enter Tryz.func110, Tryz.ntmps110
  go_wp2_with (at_make; refine wpList_makeN Tryz.wordsTy rfl _ _ rfl _ _ _ _ n rfl rfl ?c1 ?c2 hnb' ?_)
  case c1 => rw [HN.out]; rfl
  case c2 => rw [HN.out]; rfl
  intro w1 hO hB hsz
  go_wp2_with fail
  go_loopw [20] (fun iv wr => ∃ (i : Nat) (l : List Nat), i ≤ a.length ∧ iv = .int .i64 i ∧ OwnW 75 wr w.heap.size (.slice (some ⟨w.heap.size, 0, none⟩) n n) l ∧ Hid (l.length = n) ∧ Below w.heap.size w wr ∧
      Hid (val l = val (a.take i) * val b)) (fun i _ => a.length - (intOf i).toNat)
  case atStart => exact ⟨0, _, Nat.zero_le _, rfl, hO, Lib.hid (by simp), hB, Lib.hid (by simp [val, val_zeros])⟩
  case round =>
    obtain ⟨i, l, hi, rfl, hOr, hll, hBr, hinv⟩ := hrel
    obtain ⟨wo, rfl⟩ : ∃ wo : World, wo = wr := ⟨_, rfl⟩
    by_cases hin : i < a.length
    · have har := HA.out.below hBr
      obtain ⟨ba, oa, rfl, _, hca⟩ := har.at (by omega)
      have hx := hca i hin
      have hxl := HA.out.lt i
      obtain ⟨x, hxe⟩ : ∃ x, x = gd a i := ⟨_, rfl⟩
      rw [← hxe] at hx hxl
      have HX := Lib.hid hxe; have HO := Lib.hid hOr; have HAR := Lib.hid har
      clear hxe hOr har hca
      go_wp2_with fail
      go_loopw [8, 28] (fun cv kv wr => ∃ (k c : Nat) (m : List Nat), k ≤ b.length + 1 ∧ kv = .int .i64 k ∧ cv = .int .u64 c ∧ c < 4294967296 ∧ OwnW 75 wr w.heap.size (.slice (some ⟨w.heap.size, 0, none⟩) n n) m ∧ Hid (m.length = n) ∧ Below w.heap.size w wr ∧
          Hid (val m + 4294967296 ^ (i + k) * c = val (a.take i) * val b + 4294967296 ^ i * (x * val (b.take k)))) (fun _ k _ => b.length + 1 - (intOf k).toNat)
      case atStart => exact ⟨0, 0, l, Nat.zero_le _, rfl, rfl, by omega, HO.out, hll, hBr, Lib.hid (by rw [hinv.out]; simp [val])⟩
      case round =>
        obtain ⟨k, c, m, hk, rfl, rfl, hc, hOm, hml, hBm, hinm⟩ := hrel
        by_cases hkn : k < b.length + 1
        · have hbr := Lib.hid (HB.out.below hBm)
          have hyl := HB.out.lt k
          obtain ⟨y, hye⟩ : ∃ y, y = gd b k := ⟨_, rfl⟩
          have hwb : ∀ nq, Calls Tryz.prog 115 #[.slice bo b.length cb, .int .i64 k] (wr.drewN nq) (RetS (wr.drewN nq) (.int .u64 (y : Nat))) := fun nq => by
            have h := rword_any _ b k (wr.drewN nq) (hbr.out.below (below_drewN (Below.refl _ _) nq)) (by omega) (by omega)
            rw [Int.toNat_natCast, ← hye] at h; exact h
          have HWB := Lib.hid hwb
          rw [← hye] at hyl
          have hik : i + k < n := by omega
          have hcell := hOm.cell hml.out (i + k) hik
          have hfr := hOm.frozen hml.out (i + k)
          have hol := hOm.lt (i + k)
          obtain ⟨o, hoe⟩ : ∃ o, o = gd m (i + k) := ⟨_, rfl⟩
          rw [← hoe] at hcell hol
          obtain ⟨p, hpe⟩ : ∃ p, p = x * y := ⟨_, rfl⟩
          have hpi : (x : Int) * (y : Int) = (p : Int) := by rw [hpe]; rfl
          have hpl := word_mul hxl hyl
          rw [← hpe] at hpl
          obtain ⟨s1, s2⟩ := mul_bounds hc hpl hol
          have e1 : c + (p + o) = p + o + c := by omega
          have E1 := Lib.hid e1
          rw [e1] at s1 s2
          clear e1
          have HY := Lib.hid hye; have HO := Lib.hid hOm; have HOE := Lib.hid hoe; have HPE := Lib.hid hpe; have S1 := Lib.hid s1; have S2 := Lib.hid s2
          clear hye hOm hoe hpe hwb s1 s2
          go_wp2_with fail
          go_quiet ((go_at_call 115; exact Calls.quiet_of_same (ret_quiet (HWB.out _))))
          go_wp2_with fail
          go_roundw
          case rel =>
            have hst := (HO.out.below (below_drewN (Below.refl _ _) nq)).stored hml.out (i + k) ((p + o + c) % 4294967296) S2.out
            have hvs := val_set m (i + k) ((p + o + c) % 4294967296) (by rw [hml.out]; exact hik)
            rw [← HOE.out] at hvs
            refine ⟨k + 1, (p + o + c) / 4294967296, m.set (i + k) ((p + o + c) % 4294967296), by omega, by go_num, rfl, S1.out, hst, Lib.hid (by rw [List.length_set]; exact hml.out), (below_drewN hBm nq).setCell (Nat.le_refl _) _, Lib.hid ?_⟩
            · have h3 := mul_step hinm.out E1.out.symm hvs
              have e5 : i + (k + 1) = (i + k) + 1 := rfl
              rw [e5, Nat.pow_succ, h3, Nat.pow_add, HPE.out]
              exact mul_row _ _ _ _ _ _ HY.out
          case measure => simp [intOf]; omega
        · obtain rfl : k = b.length + 1 := by omega
          go_wp2_with fail
          go_roundw
          case rel =>
            refine ⟨i + 1, m, by omega, by go_num, hOm, hml, hBm, Lib.hid ?_⟩
            have h3 := hinm.out
            rw [List.take_of_length_le (Nat.le_succ _), mul_rows _ _ _ _ HX.out] at h3
            have h4 := mul_lt HA.out.lt HB.out.lt (i + 1)
            rw [show i + 1 + b.length = i + (b.length + 1) from by omega] at h4
            exact mul_spent h3 h4
          case measure => simp [intOf]; omega
    · obtain rfl : i = a.length := by omega
      have hnum := hOr.num
      have htr := rtrim_any _ _ _ hnum (by rw [hll.out]; omega)
      rw [hinv.out, List.take_of_length_le (Nat.le_refl _)] at htr
      have HT := Lib.hid htr; clear hnum htr
      have HL := hll.out
      go_wp2_with (go_at_call 124; (with_reducible refine HT.out.mono ?_); rintro e w' ⟨v', l', rfl, hB', hN', hl'⟩)
      go_ret
      exact ⟨_, _, rfl, hBr.trans (hB'.mono hBr.size), hN', hl'⟩
end Go.Proofs.YtkedjammeoaciaaGreatDoor
/-
  DERIVED: THE SHELF's CONTRACTS AT THIS DUMP, IN PLAIN WORDS (tools/lay-plain.mjs out of 'TryzShelfPick.lean', which tools/lay-shelf.mjs wrote): THE SAME DECLARATIONS UNDER THE SAME NAMES: 'import', 'namespace', 'open', 'def', 'theorem' AND NOTHING ELSE: no command of the shelf's: FOR A HAND-IN. Each laying: the table of numbers ('.._ren') and one theorem, a field a fact of the dump's own or the kernel's comparison; each contract: ONE APPLICATION.
-/
namespace Go.Proofs
open Go.Shelf
def Tryz.lays169_ren : Go.Shelf.Ren := ⟨fun | 169 => 139 | n => n, fun | 70 => 116 | 9 => 9 | 0 => 0 | 72 => 118 | 37 => 113 | 127 => 132 | 3 => 3 | 5 => 5 | n => n, fun | n => n⟩
theorem Tryz.lays169 : Go.Proofs.Lays.n169 Tryz.prog Tryz.lays169_ren := {
  mixed := by kernel_rfl
  f169 := Tryz.func139.trans (congrArg some (by kernel_rfl))
  t0 := Tryz.underlying0
  a0 := Tryz.isAgg0
  z0 := Tryz.sizeOf0
  v0 := Tryz.zeroValue0
  t3 := Tryz.underlying3
  a3 := Tryz.isAgg3
  z3 := Tryz.sizeOf3
  v3 := Tryz.zeroValue3
  t9 := Tryz.underlying9
  a9 := Tryz.isAgg9
  z9 := Tryz.sizeOf9
  v9 := Tryz.zeroValue9
  t37 := Tryz.underlying113
  a37 := Tryz.isAgg113
  z37 := Tryz.sizeOf113
  v37 := Tryz.zeroValue113
  t70 := Tryz.underlying116
  a70 := Tryz.isAgg116
  z70 := Tryz.sizeOf116
  v70 := Tryz.zeroValue116
  t72 := Tryz.underlying118
  a72 := Tryz.isAgg118
  z72 := Tryz.sizeOf118
  v72 := Tryz.zeroValue118
  t127 := Tryz.underlying132
  a127 := Tryz.isAgg132
  z127 := Tryz.sizeOf132
  v127 := Tryz.zeroValue132 }
theorem Tryz.Builder_Extra_169 : Builder.Extra Tryz.prog Tryz.lays169_ren := {
  sizeBuilder := by kernel_rfl
  liesBuilder := by kernel_rfl
  t5 := Tryz.underlying5
  a5 := Tryz.isAgg5
  z5 := Tryz.sizeOf5
  v5 := Tryz.zeroValue5
  infoByte := by kernel_rfl
  cellsByte := by kernel_rfl
  sizeByte := by kernel_rfl
  neB5 := by decide }
open Go.RowKit in
/-- (*strings.Builder).String: "String returns the accumulated string.": WHATEVER THE BUILDER HOLDS. (LAID: no walk: one application.) -/
theorem Tryz.Builder_String_any (B b : Nat) (l : List UInt8) (w : World) (h : Lib.IsBuilder 118 5 B b (Lib.byteCells l) w) (hBw : B ≤ w.heap.size) :
    Calls Tryz.prog 139 #[.pointer (some ⟨b, 0, none⟩)] w fun e w' => e = .returned (.string ⟨l.toArray⟩) ∧ Below B w w' := Any.Builder_String_any Tryz.lays169 Tryz.Builder_Extra_169 B b l w h hBw
def Tryz.lays161_ren : Go.Shelf.Ren := ⟨fun | 161 => 138 | 231 => 144 | 227 => 146 | 233 => 147 | 235 => 149 | 228 => 156 | 197 => 157 | 151 => 158 | 260 => 163 | 152 => 164 | 137 => 166 | 119 => 167 | 224 => 154 | 225 => 153 | 217 => 152 | 266 => 161 | n => n, fun | 9 => 9 | 4 => 4 | 3 => 3 | 5 => 5 | 117 => 127 | 116 => 126 | 0 => 0 | 124 => 130 | 105 => 136 | 21 => 21 | 119 => 144 | 46 => 101 | 139 => 147 | 138 => 146 | n => n, fun | 3 => 1 | 4 => 2 | n => n⟩
theorem Tryz.lays161 : Go.Proofs.Lays.n161 Tryz.prog Tryz.lays161_ren := {
  mixed := by kernel_rfl
  f119 := Tryz.func167.trans (congrArg some (by kernel_rfl))
  f137 := Tryz.func166.trans (congrArg some (by kernel_rfl))
  f151 := Tryz.func158.trans (congrArg some (by kernel_rfl))
  f152 := Tryz.func164.trans (congrArg some (by kernel_rfl))
  f161 := Tryz.func138.trans (congrArg some (by kernel_rfl))
  f197 := Tryz.func157.trans (congrArg some (by kernel_rfl))
  f217 := Tryz.func152.trans (congrArg some (by kernel_rfl))
  f224 := Tryz.func154.trans (congrArg some (by kernel_rfl))
  f225 := Tryz.func153.trans (congrArg some (by kernel_rfl))
  f227 := Tryz.func146.trans (congrArg some (by kernel_rfl))
  f228 := Tryz.func156.trans (congrArg some (by kernel_rfl))
  f231 := Tryz.func144.trans (congrArg some (by kernel_rfl))
  f233 := Tryz.func147.trans (congrArg some (by kernel_rfl))
  f235 := Tryz.func149.trans (congrArg some (by kernel_rfl))
  f260 := Tryz.func163.trans (congrArg some (by kernel_rfl))
  f266 := Tryz.func161.trans (congrArg some (by kernel_rfl))
  t0 := Tryz.underlying0
  a0 := Tryz.isAgg0
  z0 := Tryz.sizeOf0
  v0 := Tryz.zeroValue0
  t3 := Tryz.underlying3
  a3 := Tryz.isAgg3
  z3 := Tryz.sizeOf3
  v3 := Tryz.zeroValue3
  t4 := Tryz.underlying4
  a4 := Tryz.isAgg4
  z4 := Tryz.sizeOf4
  v4 := Tryz.zeroValue4
  t5 := Tryz.underlying5
  a5 := Tryz.isAgg5
  z5 := Tryz.sizeOf5
  v5 := Tryz.zeroValue5
  t9 := Tryz.underlying9
  a9 := Tryz.isAgg9
  z9 := Tryz.sizeOf9
  v9 := Tryz.zeroValue9
  t21 := Tryz.underlying21
  a21 := Tryz.isAgg21
  z21 := Tryz.sizeOf21
  v21 := Tryz.zeroValue21
  t46 := Tryz.underlying101
  a46 := Tryz.isAgg101
  z46 := Tryz.sizeOf101
  v46 := Tryz.zeroValue101
  t105 := Tryz.underlying136
  a105 := Tryz.isAgg136
  z105 := Tryz.sizeOf136
  v105 := Tryz.zeroValue136
  t116 := Tryz.underlying126
  a116 := Tryz.isAgg126
  z116 := Tryz.sizeOf126
  t117 := Tryz.underlying127
  a117 := Tryz.isAgg127
  z117 := Tryz.sizeOf127
  v117 := Tryz.zeroValue127
  t119 := Tryz.underlying144
  a119 := Tryz.isAgg144
  z119 := Tryz.sizeOf144
  t124 := Tryz.underlying130
  a124 := Tryz.isAgg130
  z124 := Tryz.sizeOf130
  v124 := Tryz.zeroValue130
  t138 := Tryz.underlying146
  a138 := Tryz.isAgg146
  z138 := Tryz.sizeOf146
  v138 := Tryz.zeroValue146
  t139 := Tryz.underlying147
  a139 := Tryz.isAgg147
  z139 := Tryz.sizeOf147
  v139 := Tryz.zeroValue147
  g3 := by kernel_rfl
  g4 := by kernel_rfl }
open Go.RowKit in
/-- strings.TrimLeft: "TrimLeft returns a slice of the string s with all leading Unicode code points contained in cutset removed.": AT A cutset OF ONE ASCII BYTE. The world is as it was. (LAID: no walk: one application.) -/
theorem Tryz.strings_TrimLeft_one (s : ByteArray) (c : UInt8) (hc : c.toNat < 128) (w : World) :
    Calls Tryz.prog 138 #[.string s, .string ⟨#[c]⟩] w fun e w' => e = .returned (.string ⟨(Lib.trimLeftB s.data.toList c).toArray⟩) ∧ w' = w := Any.strings_TrimLeft_one Tryz.lays161 s c hc w
def Tryz.lays128_ren : Go.Shelf.Ren := ⟨fun | 128 => 135 | n => n, fun | 51 => 75 | 3 => 3 | 4 => 4 | 46 => 101 | 5 => 5 | 9 => 9 | n => n, fun | n => n⟩
theorem Tryz.lays128 : Go.Proofs.Lays.n128 Tryz.prog Tryz.lays128_ren := {
  mixed := by kernel_rfl
  f128 := Tryz.func135.trans (congrArg some (by kernel_rfl))
  t3 := Tryz.underlying3
  a3 := Tryz.isAgg3
  z3 := Tryz.sizeOf3
  v3 := Tryz.zeroValue3
  t4 := Tryz.underlying4
  a4 := Tryz.isAgg4
  z4 := Tryz.sizeOf4
  v4 := Tryz.zeroValue4
  t5 := Tryz.underlying5
  a5 := Tryz.isAgg5
  z5 := Tryz.sizeOf5
  v5 := Tryz.zeroValue5
  t9 := Tryz.underlying9
  a9 := Tryz.isAgg9
  z9 := Tryz.sizeOf9
  v9 := Tryz.zeroValue9
  t46 := Tryz.underlying101
  a46 := Tryz.isAgg101
  z46 := Tryz.sizeOf101
  v46 := Tryz.zeroValue101
  t51 := Tryz.underlying75
  a51 := Tryz.isAgg75
  z51 := Tryz.sizeOf75
  v51 := Tryz.zeroValue75 }
/-- bits.Len32: "Len32 returns the minimum number of bits required to represent x; the result is 0 for x == 0.": IT RETURNS 'Lib.bitLen x'; the world is as it was. ('h0', 'h1': x is a uint32.) (LAID: no walk: one application.) -/
theorem Tryz.bits_Len32 (x : Int) (w : World) (h0 : 0 ≤ x) (h1 : x ≤ 4294967295) :
    Calls Tryz.prog 135 #[.int .u32 x] w fun e w' => e = .returned (.int .i64 (Lib.bitLen x.toNat)) ∧ w' = w := Any.bits_Len32 Tryz.lays128 x w h0 h1
def Tryz.lays133_ren : Go.Shelf.Ren := ⟨fun | 133 => 118 | 128 => 135 | n => n, fun | 51 => 75 | 3 => 3 | 4 => 4 | 46 => 101 | 5 => 5 | 9 => 9 | n => n, fun | n => n⟩
theorem Tryz.lays133 : Go.Proofs.Lays.n133 Tryz.prog Tryz.lays133_ren := {
  mixed := by kernel_rfl
  f128 := Tryz.func135.trans (congrArg some (by kernel_rfl))
  f133 := Tryz.func118.trans (congrArg some (by kernel_rfl))
  t3 := Tryz.underlying3
  a3 := Tryz.isAgg3
  z3 := Tryz.sizeOf3
  v3 := Tryz.zeroValue3
  t4 := Tryz.underlying4
  a4 := Tryz.isAgg4
  z4 := Tryz.sizeOf4
  v4 := Tryz.zeroValue4
  t5 := Tryz.underlying5
  a5 := Tryz.isAgg5
  z5 := Tryz.sizeOf5
  v5 := Tryz.zeroValue5
  t9 := Tryz.underlying9
  a9 := Tryz.isAgg9
  z9 := Tryz.sizeOf9
  v9 := Tryz.zeroValue9
  t46 := Tryz.underlying101
  a46 := Tryz.isAgg101
  z46 := Tryz.sizeOf101
  v46 := Tryz.zeroValue101
  t51 := Tryz.underlying75
  a51 := Tryz.isAgg75
  z51 := Tryz.sizeOf75
  v51 := Tryz.zeroValue75 }
/-- bits.LeadingZeros32: "LeadingZeros32 returns the number of leading zero bits in x; the result is 32 for x == 0.": IT RETURNS '32 - Lib.bitLen x'; the world is as it was. ITS CALLEE bits.Len32 IS MET BY ITS OWN CONTRACT OFF THE SHELF (lay that first): entered in place it sends the kernel out of memory. (LAID: no walk: one application.) -/
theorem Tryz.bits_LeadingZeros32 (x : Int) (w : World) (h0 : 0 ≤ x) (h1 : x ≤ 4294967295) :
    Calls Tryz.prog 118 #[.int .u32 x] w fun e w' => e = .returned (.int .i64 (32 - (Lib.bitLen x.toNat : Int))) ∧ w' = w := Any.bits_LeadingZeros32 Tryz.lays133 x w h0 h1
end Go.Proofs
/-
  natural.Bits, natural.Int and the reference's: what they hand back.
  Conditions: each theorem's own.
-/
namespace Go.Proofs.YtkedjammeoaciaaGreatDoor
open Go.RowKit Go.ChangeShapes Go.WideShapes

set_option maxRecDepth 100000 in
set_option maxHeartbeats 800000 in
theorem bits_any (va : Value) (a : List Nat) (w : World) (ha : Num w va a) (hla : a.length ≤ 1000000) :
    Calls Tryz.prog 107 #[va] w (RetS w (.int .i64 (blen (val a) : Nat))) := by
  obtain ⟨ao, ca, rfl, hca, hca2, _⟩ := ha.shape
  have HA := Lib.hid ha; clear ha
  obtain ⟨r, hr⟩ : ∃ r, r = blen (val a) := ⟨_, rfl⟩
  rw [← hr]
  have HR := Lib.hid hr; clear hr
  go_enter Tryz.func107, Tryz.ntmps107
  go_wp2_with fail
  go_loop [3] (fun i => ∃ k : Nat, k ≤ a.length ∧ i = .int .i64 ((k : Int) - 1) ∧ Hid (∀ j, k ≤ j → gd a j = 0)) (fun i => (intOf i + 1).toNat)
  case atStart => exact ⟨a.length, Nat.le_refl _, rfl, Lib.hid fun j hj => gd_over _ _ hj⟩
  case round =>
    obtain ⟨k, hk, rfl, hz⟩ := hrel
    by_cases hk0 : k = 0
    · subst hk0
      have hv : r = 0 := by rw [HR.out, ← val_take_zeros 0 hz.out]; rfl
      have HV := Lib.hid hv; clear hv
      go_wp2_with fail
      go_ret
      exact ⟨by rw [HV.out]; rfl, rfl⟩
    · obtain ⟨m, rfl⟩ : ∃ m, k = m + 1 := ⟨k - 1, by omega⟩
      have hm1 : ((m + 1 : Nat) : Int) - 1 = (m : Int) := by omega
      rw [hm1]
      clear hm1
      have hu := HA.out.lt
      obtain ⟨b, off, rfl, hbs, hcell⟩ := HA.out.at (by omega)
      have hx := hcell m (by omega)
      have hxl := hu m
      obtain ⟨x, hxe⟩ : ∃ x, x = gd a m := ⟨_, rfl⟩
      rw [← hxe] at hx hxl
      have HX := Lib.hid hxe; have HU := Lib.hid hu; clear hxe hcell hu
      by_cases hx0 : x = 0
      · subst hx0
        go_wp2_with fail
        go_round
        case rel =>
          refine ⟨m, by omega, rfl, Lib.hid fun j hj => ?_⟩
          by_cases hjm : j = m
          · rw [hjm, ← HX.out]
          · exact hz.out j (by omega)
        case measure => simp [intOf]
      · have hd : (bne (x : Int) 0) = true := by simp; omega
        have hv : r = 32 * m + blen x := by
          rw [HR.out, ← val_take_zeros (m + 1) hz.out, val_take_succ, ← HX.out]
          exact blen_top (val_take_lt HU.out m) hx0
        have hl := Tryz.bits_Len32 x w (by omega) (by omega)
        rw [Int.toNat_natCast, bitLen_eq x hxl] at hl
        have hbl : blen x ≤ 32 := blen_le hxl
        obtain ⟨y, hy⟩ : ∃ y, y = blen x := ⟨_, rfl⟩
        rw [← hy] at hl hv hbl
        have HL := Lib.hid hl; have HV := Lib.hid hv
        clear hl hv hy hx0
        go_wp2_with (go_at_call 135; (with_reducible refine HL.out.mono ?_); rintro e w' ⟨rfl, rfl⟩)
        go_ret
        exact ⟨ret_int (by rw [HV.out]; omega), rfl⟩

/-- the bit of a word, as the walk tests it -/
theorem bit_test (x k : Nat) (hx : x < 4294967296) : bits .and .u32 ((x : Int) / 2 ^ k) 1 = ((x / 2 ^ k % 2 : Nat) : Int) := by
  have e : ((x : Int) / 2 ^ k) = ((x / 2 ^ k : Nat) : Int) := by rw [Int.natCast_ediv]; simp
  have h : x / 2 ^ k ≤ x := Nat.div_le_self _ _
  rw [e, show (1 : Int) = ((1 : Nat) : Int) from rfl, (bits_nat .u32 32 (by decide) wraps_u32 (x / 2 ^ k) 1 (by omega) (by omega)).1]
  congr 1
  rw [Nat.and_one_is_mod]

set_option maxRecDepth 100000 in
set_option maxHeartbeats 800000 in
theorem int_yes (va : Value) (a : List Nat) (w : World) (ha : Num w va a) (hla : a.length ≤ 1000000) (hv : val a < 9223372036854775808) :
    Calls Tryz.prog 77 #[va] w (RetS w (.tuple #[.int .i64 (val a : Nat), .bool true])) := by
  have hb := bits_any va a w ha hla
  have hbl : blen (val a) ≤ 63 := blen_le hv
  obtain ⟨y, hy⟩ : ∃ y, y = blen (val a) := ⟨_, rfl⟩
  rw [← hy] at hb hbl
  have hw0 := word_any va a 0 w ha (by omega) (by omega)
  have hw1 := word_any va a 1 w ha (by omega) (by omega)
  have h2 := val_two ha.lt (by omega)
  have hx0 := ha.lt 0
  have hx1 := ha.lt 1
  obtain ⟨p, hp⟩ : ∃ p, p = gd a 0 := ⟨_, rfl⟩
  obtain ⟨q, hq⟩ : ∃ q, q = gd a 1 := ⟨_, rfl⟩
  rw [show (0 : Int).toNat = 0 from rfl, ← hp] at hw0
  rw [show (1 : Int).toNat = 1 from rfl, ← hq] at hw1
  rw [← hp, ← hq] at h2
  rw [← hp] at hx0
  rw [← hq] at hx1
  have hor := or_words p q hx0 hx1
  rw [h2] at hv ⊢
  have HB := Lib.hid hb; have HW0 := Lib.hid hw0; have HW1 := Lib.hid hw1
  obtain ⟨n, hn⟩ : ∃ n, n = p + q * 4294967296 := ⟨_, rfl⟩
  rw [← hn] at hv hor ⊢
  clear hb hw0 hw1 hy hp hq h2 ha hn
  go_enter Tryz.func77, Tryz.ntmps77
  go_wp2_with fail
  (with_reducible refine HB.out.mono ?_); rintro e w1 ⟨rfl, rfl⟩
  go_wp2_with fail
  (with_reducible refine HW0.out.mono ?_); rintro e w1 ⟨rfl, rfl⟩
  go_wp2_with fail
  (with_reducible refine HW1.out.mono ?_); rintro e w1 ⟨rfl, rfl⟩
  go_wp2_with fail
  go_ret2
  exact ⟨rfl, rfl⟩
set_option maxRecDepth 100000 in
set_option maxHeartbeats 800000 in
theorem int_no (va : Value) (a : List Nat) (w : World) (ha : Num w va a) (hla : a.length ≤ 1000000) (hv : 9223372036854775808 ≤ val a) :
    Calls Tryz.prog 77 #[va] w (RetS w (.tuple #[.int .i64 0, .bool false])) := by
  have hb := bits_any va a w ha hla
  have hbl : 63 < blen (val a) := by
    rcases Nat.lt_or_ge 63 (blen (val a)) with h | h
    · exact h
    · have := lt_of_blen h; omega
  have hbu : blen (val a) ≤ 32000000 := Nat.le_trans (blen_le_len ha.lt) (by omega)
  obtain ⟨y, hy⟩ : ∃ y, y = blen (val a) := ⟨_, rfl⟩
  rw [← hy] at hb hbl hbu
  have HB := Lib.hid hb
  clear hb hy ha hv
  go_enter Tryz.func77, Tryz.ntmps77
  go_wp2_with fail
  (with_reducible refine HB.out.mono ?_); rintro e w1 ⟨rfl, rfl⟩
  go_wp2_with fail
  go_ret2
  exact ⟨rfl, rfl⟩

set_option maxRecDepth 100000 in
set_option maxHeartbeats 1600000 in
theorem rbits_any (va : Value) (a : List Nat) (w : World) (ha : Num w va a) (hla : a.length ≤ 1000000) :
    Calls Tryz.prog 116 #[va] w (RetS w (.int .i64 (blen (val a) : Nat))) := by
  obtain ⟨ao, ca, rfl, hca, hca2, _⟩ := ha.shape
  have HA := Lib.hid ha; clear ha
  go_enter Tryz.func116, Tryz.ntmps116
  go_wp2_with fail
  go_loop [3, 9] (fun n i => ∃ k : Nat, k ≤ a.length ∧ i = .int .i64 k ∧ n = .int .i64 (blen (val (a.take k)) : Nat)) (fun _ i => a.length - (intOf i).toNat)
  case atStart => exact ⟨0, Nat.zero_le _, rfl, by simp [val, blen_zero]⟩
  case round =>
    obtain ⟨k, hk, rfl, rfl⟩ := hrel
    by_cases hkn : k < a.length
    · have hu := HA.out.lt
      obtain ⟨b, off, rfl, hbs, hcell⟩ := HA.out.at (by omega)
      have hx := hcell k (by omega)
      have hxl := hu k
      obtain ⟨x, hxe⟩ : ∃ x, x = gd a k := ⟨_, rfl⟩
      rw [← hxe] at hx hxl
      have HX := Lib.hid hxe; have HU := Lib.hid hu; clear hxe hcell hu
      go_wp2_with fail
      go_loop [3, 14] (fun n i => ∃ m : Nat, m ≤ 32 ∧ i = .int .i64 m ∧ n = .int .i64 (blen (val (a.take k) + 4294967296 ^ k * (x % 2 ^ m)) : Nat)) (fun _ i => 32 - (intOf i).toNat)
      case atStart => exact ⟨0, Nat.zero_le _, rfl, by simp [Nat.mod_one]⟩
      case round =>
        obtain ⟨m, hm, rfl, rfl⟩ := hrel
        by_cases hmn : m < 32
        · have hbt := bit_test x m hxl
          obtain ⟨y, hy⟩ : ∃ y, y = x / 2 ^ m % 2 := ⟨_, rfl⟩
          rw [← hy] at hbt
          have hyl : y < 2 := by omega
          have HY := Lib.hid hy; clear hy
          by_cases hy1 : y = 1
          · subst hy1
            have hB := blen_bit (k := m) (val_take_lt HU.out k) HY.out.symm
            have HB := Lib.hid hB; clear hB
            go_wp2_with fail
            go_round
            case rel => exact ⟨m + 1, by omega, by go_num, by rw [HB.out]; go_num⟩
            case measure => simp [intOf]; omega
          · obtain rfl : y = 0 := by omega
            have hB : x % 2 ^ (m + 1) = x % 2 ^ m := by rw [mod_two_pow_succ, ← HY.out, Nat.mul_zero, Nat.add_zero]
            have HB := Lib.hid hB; clear hB
            go_wp2_with fail
            go_round
            case rel => exact ⟨m + 1, by omega, by go_num, by rw [HB.out]⟩
            case measure => simp [intOf]; omega
        · obtain rfl : m = 32 := by omega
          have hB : val (a.take k) + 4294967296 ^ k * (x % 2 ^ 32) = val (a.take (k + 1)) := by
            rw [val_take_succ, ← HX.out, Nat.mod_eq_of_lt hxl]
          have HB := Lib.hid hB; clear hB
          go_wp2_with fail
          go_round
          case rel => exact ⟨k + 1, by omega, by go_num, by rw [HB.out]⟩
          case measure => simp [intOf]; omega
    · obtain rfl : k = a.length := by omega
      have hB : val (a.take a.length) = val a := by rw [List.take_of_length_le (Nat.le_refl _)]
      have HB := Lib.hid hB; clear hB
      go_wp2_with fail
      go_ret
      exact ⟨rfl, rfl⟩
end Go.Proofs.YtkedjammeoaciaaGreatDoor
/-
  natural.small, natural.left, natural.right: what they hand back.
  Conditions: each theorem's own.
-/
namespace Go.Proofs.YtkedjammeoaciaaGreatDoor
open Go.RowKit Go.ChangeShapes Go.WideShapes

/-- hands back words and a word -/
def RetSmall (w : World) (q r : Nat) (e : Ending) (w' : World) : Prop := ∃ v, e = .returned (.tuple #[v, .int .u32 r]) ∧ Below w.heap.size w w' ∧ Num w' v (wd q)

/-- .. of the call's own -/
def RetSmallO (w : World) (q r : Nat) (e : Ending) (w' : World) : Prop := ∃ v, e = .returned (.tuple #[v, .int .u32 r]) ∧ Below w.heap.size w w' ∧ OwnW 75 w' w.heap.size v (wd q)

set_option maxRecDepth 100000 in
set_option maxHeartbeats 1600000 in
theorem small_own (va : Value) (a : List Nat) (b : Nat) (w : World) (ha : Num w va a) (hla : a.length ≤ 900000) (hb0 : 0 < b) (hb : b < 4294967296) :
    Calls Tryz.prog 117 #[va, .int .u32 b] w (RetSmallO w (val a / b) (val a % b)) := by
  obtain ⟨ao, ca, rfl, hca, hca2, _⟩ := ha.shape
  obtain ⟨n, hn⟩ : ∃ n, n = a.length := ⟨_, rfl⟩
  have hnb' : n ≤ 70368744177664 := by omega
  have hnb : n ≤ 900000 := by omega
  have HN := Lib.hid hn
  have HA := Lib.hid ha
  clear hn ha
  go_enter Tryz.func117, Tryz.ntmps117
  go_wp2_with (at_make; refine wpList_makeN Tryz.wordsTy rfl _ _ rfl _ _ _ _ n rfl rfl ?c1 ?c2 hnb' ?_)
  case c1 => rw [HN.out]
  case c2 => rw [HN.out]
  intro w1 hO hB hsz
  go_wp2_with fail
  go_loopw [7, 8] (fun rv i wr => ∃ (k r : Nat) (l : List Nat), k ≤ n ∧ i = .int .i64 ((k : Int) - 1) ∧ rv = .int .u64 r ∧ r < b ∧ OwnW 75 wr w.heap.size (.slice (some ⟨w.heap.size, 0, none⟩) n n) l ∧ Hid (l.length = n) ∧ Below w.heap.size w wr ∧
      Hid (val (a.drop k) = val (l.drop k) * b + r)) (fun _ i _ => (intOf i + 1).toNat)
  case atStart => exact ⟨n, 0, _, Nat.le_refl _, by rw [HN.out], rfl, hb0, hO, Lib.hid (by simp), hB, Lib.hid (by rw [HN.out]; simp [val])⟩
  case round =>
    obtain ⟨k, r, l, hk, rfl, rfl, hr, hOr, hll, hBr, hinv⟩ := hrel
    by_cases hk0 : k = 0
    · subst hk0
      have hnum := hOr.num
      have hinv' := hinv.out
      rw [List.drop_zero, List.drop_zero] at hinv'
      obtain ⟨h1, h2⟩ := div_of_eq hinv' hr
      have htr := trim_own _ _ _ hnum (by rw [hll.out]; omega)
      rw [h1] at htr
      have hrm : (r : Int) % 4294967296 = (r : Int) := by omega
      have HT := Lib.hid htr; have H2 := Lib.hid h2; clear hnum hinv' h1 h2 htr
      have HL := hll.out
      go_wp2_with fail
      (with_reducible refine HT.out.mono ?_); rintro e w' ⟨v', l', rfl, hB', hN', hl'⟩
      go_wp2_with fail
      go_ret2
      exact ⟨v', by rw [← H2.out]; rfl, hBr.trans (hB'.mono hBr.size), by rw [← hl']; exact hN'.base hBr.size⟩
    · obtain ⟨m, rfl⟩ : ∃ m, k = m + 1 := ⟨k - 1, by omega⟩
      have hm1 : ((m + 1 : Nat) : Int) - 1 = (m : Int) := by omega
      rw [hm1]
      clear hm1
      have har := HA.out.below hBr
      obtain ⟨ba, oa, rfl, _, hca⟩ := har.at (by rw [← HN.out]; omega)
      have hma : m < a.length := by rw [← HN.out]; omega
      have hx := hca m hma
      have hxl := HA.out.lt m
      obtain ⟨x, hxe⟩ : ∃ x, x = gd a m := ⟨_, rfl⟩
      rw [← hxe] at hx hxl
      have hcell := hOr.cell hll.out m hk
      have hfr := hOr.frozen hll.out m
      have hor := or_words' x r hxl (by omega)
      have hst := small_step (x := x) hinv.out
      have hql := small_lt (Nat.le_of_lt hb) hr hxl
      have hrl : (r * 4294967296 + x) % b < b := Nat.mod_lt _ hb0
      have hnl : r * 4294967296 + x < 18446744073709551616 := by omega
      obtain ⟨N, hN⟩ : ∃ N, N = r * 4294967296 + x := ⟨_, rfl⟩
      rw [← hN] at hor hst hql hrl hnl
      obtain ⟨q, hq⟩ : ∃ q, q = N / b := ⟨_, rfl⟩
      obtain ⟨t, ht⟩ : ∃ t, t = N % b := ⟨_, rfl⟩
      rw [← hq] at hst hql
      rw [← ht] at hst hrl
      have hqi : (N : Int) / (b : Int) = (q : Int) := by rw [hq]; simp
      have hti : (N : Int) % (b : Int) = (t : Int) := by rw [ht]; simp
      have hqm : (q : Int) % 4294967296 = (q : Int) := by omega
      have HTI := Lib.hid hti
      have HX := Lib.hid hxe; have HO := Lib.hid hOr; have HST := Lib.hid hst; have HQL := Lib.hid hql; have HRL := Lib.hid hrl
      clear hxe hOr har hca hst hql hrl hN hq ht
      go_wp2_with fail
      go_roundw
      case rel =>
        have hst := HO.out.stored hll.out m q HQL.out
        exact ⟨m, t, l.set m q, by omega, rfl, by rw [HTI.out], HRL.out, hst, Lib.hid (by rw [List.length_set]; exact hll.out), hBr.setCell (Nat.le_refl _) _,
          Lib.hid (by rw [val_drop_set _ _ _ (by rw [hll.out]; exact hk), val_drop_at a, ← HX.out]; exact HST.out)⟩
      case measure => simp [intOf]

theorem small_any (va : Value) (a : List Nat) (b : Nat) (w : World) (ha : Num w va a) (hla : a.length ≤ 900000) (hb0 : 0 < b) (hb : b < 4294967296) :
    Calls Tryz.prog 117 #[va, .int .u32 b] w (RetSmall w (val a / b) (val a % b)) := by
  refine (small_own va a b w ha hla hb0 hb).mono ?_
  rintro e w' ⟨v, he, hbb, ho⟩
  exact ⟨v, he, hbb, ho.num⟩

set_option maxRecDepth 100000 in
set_option maxHeartbeats 1600000 in
theorem left_any (va : Value) (a : List Nat) (n : Nat) (w : World) (ha : Num w va a) (hla : a.length ≤ 900000) (hn : n < 32) :
    Calls Tryz.prog 119 #[va, .int .i64 n] w (RetOwn w fun r => r.length = a.length + 1 ∧ val r = val a * 2 ^ n) := by
  obtain ⟨ao, ca, rfl, hca, hca2, _⟩ := ha.shape
  obtain ⟨N, hN⟩ : ∃ N, N = a.length + 1 := ⟨_, rfl⟩
  have HN := Lib.hid hN
  have hnb' : N ≤ 70368744177664 := by omega
  clear hN
  have HA := Lib.hid ha; clear ha
  go_enter Tryz.func119, Tryz.ntmps119
  go_wp2_with (at_make; refine wpList_makeN Tryz.wordsTy rfl _ _ rfl _ _ _ _ N rfl rfl ?c1 ?c2 hnb' ?_)
  case c1 => rw [HN.out]; rfl
  case c2 => rw [HN.out]; rfl
  intro w1 hO hB hsz
  go_wp2_with fail
  go_loopw [15] (fun iv wr => ∃ (i : Nat) (l : List Nat), i ≤ a.length ∧ iv = .int .i64 i ∧ OwnW 75 wr w.heap.size (.slice (some ⟨w.heap.size, 0, none⟩) N N) l ∧ Hid (l.length = N) ∧ Below w.heap.size w wr ∧
      Hid (val l = val (a.take i) * 2 ^ n)) (fun i _ => a.length - (intOf i).toNat)
  case atStart => exact ⟨0, _, Nat.zero_le _, rfl, hO, Lib.hid (by simp), hB, Lib.hid (by simp [val, val_zeros])⟩
  case round =>
    obtain ⟨i, l, hi, rfl, hOr, hll, hBr, hinv⟩ := hrel
    by_cases hin : i < a.length
    · have har := HA.out.below hBr
      obtain ⟨ba, oa, rfl, _, hca⟩ := har.at (by omega)
      have hx := hca i hin
      have hxl := HA.out.lt i
      obtain ⟨x, hxe⟩ : ∃ x, x = gd a i := ⟨_, rfl⟩
      rw [← hxe] at hx hxl
      have hiN : i + 1 < N := by rw [HN.out]; omega
      have hlt : val l < 4294967296 ^ i * 2 ^ n := by
        rw [hinv.out]; exact Nat.mul_lt_mul_of_pos_right (val_take_lt HA.out.lt i) (Nat.two_pow_pos n)
      obtain ⟨hw, hyl, hyh, hp⟩ := shl_wrap x n hxl hn
      have hol : gd l i < 2 ^ n := by
        rw [val_gd hOr.lt]
        refine Nat.lt_of_le_of_lt (Nat.mod_le _ _) ?_
        rw [Nat.div_lt_iff_lt_mul (Nat.pow_pos (by decide)), Nat.mul_comm]; exact hlt
      have hoz : gd l (i + 1) = 0 := gd_zero_of_lt hOr.lt (n := i + 1) (Nat.lt_of_lt_of_le hlt (by rw [Nat.pow_succ]; exact Nat.mul_le_mul_left _ (by omega))) _ (Nat.le_refl _)
      have hcell := hOr.cell hll.out i (by omega)
      have hfr := hOr.frozen hll.out i
      have hfr1 := hOr.frozen hll.out (i + 1)
      have hcell1 := hOr.cell hll.out (i + 1) (by omega)
      rw [hoz] at hcell1
      obtain ⟨o, hoe⟩ : ∃ o, o = gd l i := ⟨_, rfl⟩
      rw [← hoe] at hol hcell
      obtain ⟨hor, hol2⟩ := or_low x n o hn hol
      obtain ⟨y, hy⟩ : ∃ y, y = x * 2 ^ n := ⟨_, rfl⟩
      rw [← hy] at hw hyl hyh hor hol2
      obtain ⟨p, hpe⟩ : ∃ p, p = o + y % 4294967296 := ⟨_, rfl⟩
      rw [← hpe] at hor hol2
      have hym : (y : Int) / 4294967296 = ((y / 4294967296 : Nat) : Int) := by omega
      obtain ⟨t, ht⟩ : ∃ t, t = y / 4294967296 := ⟨_, rfl⟩
      have htl : t < 4294967296 := by omega
      rw [← ht] at hym
      have HX := Lib.hid hxe; have HO := Lib.hid hOr; have HY := Lib.hid hy; have HP := Lib.hid hpe; have HT := Lib.hid ht; have HOE := Lib.hid hoe; have HOZ := Lib.hid hoz
      clear har hca hOr hxe hy hpe ht hoe hoz hlt
      go_wp2_with fail
      go_roundw
      case rel =>
        have h1 := HO.out.stored hll.out i p hol2
        have h2 := h1.stored (by rw [List.length_set]; exact hll.out) (i + 1) t htl
        have e1 := val_set l i p (by rw [hll.out]; omega)
        have e2 := val_set (l.set i p) (i + 1) t (by rw [List.length_set, hll.out]; exact hiN)
        rw [gd_set, if_neg (by omega), HOZ.out] at e2
        rw [← HOE.out] at e1
        refine ⟨i + 1, (l.set i p).set (i + 1) t, by omega, by go_num, h2, Lib.hid (by rw [List.length_set, List.length_set]; exact hll.out), (hBr.setCell (Nat.le_refl _) _).setCell (Nat.le_refl _) _, Lib.hid ?_⟩
        rw [val_take_succ, Nat.add_mul, ← hinv.out, ← HX.out, Nat.mul_assoc, ← HY.out]
        have e3 : y = y % 4294967296 + 4294967296 * t := by rw [HT.out]; omega
        rw [Nat.pow_succ] at e2
        have e4 : 4294967296 ^ i * y = 4294967296 ^ i * (y % 4294967296) + 4294967296 ^ i * 4294967296 * t := by
          rw [Nat.mul_assoc, ← Nat.mul_add, ← e3]
        rw [HP.out, Nat.mul_add] at e1
        rw [HP.out] at e2 ⊢
        omega
      case measure => simp [intOf]; omega
    · obtain rfl : i = a.length := by omega
      have hv := hinv.out
      rw [List.take_of_length_le (Nat.le_refl _)] at hv
      have hl := hll.out
      rw [HN.out] at hl
      have HV := Lib.hid hv; have HL := Lib.hid hl; clear hv hl
      go_wp2_with fail
      go_ret
      exact ⟨_, l, rfl, hBr, hOr, HL.out, HV.out⟩

set_option maxRecDepth 100000 in
set_option maxHeartbeats 1600000 in
theorem right_any (va : Value) (a : List Nat) (n : Nat) (w : World) (ha : Num w va a) (hla : a.length ≤ 900000) (hn : n < 32) :
    Calls Tryz.prog 122 #[va, .int .i64 n] w (RetOwn w fun r => r.length = a.length ∧ val r = val a / 2 ^ n) := by
  obtain ⟨ao, ca, rfl, hca, hca2, _⟩ := ha.shape
  obtain ⟨N, hN⟩ : ∃ N, N = a.length := ⟨_, rfl⟩
  have HN := Lib.hid hN
  have hnb' : N ≤ 70368744177664 := by omega
  have hnb : N ≤ 900000 := by omega
  clear hN
  have HA := Lib.hid ha; clear ha
  go_enter Tryz.func122, Tryz.ntmps122
  go_wp2_with (at_make; refine wpList_makeN Tryz.wordsTy rfl _ _ rfl _ _ _ _ N rfl rfl ?c1 ?c2 hnb' ?_)
  case c1 => rw [HN.out]
  case c2 => rw [HN.out]
  intro w1 hO hB hsz
  go_wp2_with fail
  go_loopw [12] (fun iv wr => ∃ (i : Nat) (l : List Nat), i ≤ a.length ∧ iv = .int .i64 i ∧ OwnW 75 wr w.heap.size (.slice (some ⟨w.heap.size, 0, none⟩) N N) l ∧ Hid (l.length = N) ∧ Below w.heap.size w wr ∧
      Hid (∀ j, j < i → gd l j = val a / 2 ^ n / 4294967296 ^ j % 4294967296)) (fun i _ => a.length - (intOf i).toNat)
  case atStart => exact ⟨0, _, Nat.zero_le _, rfl, hO, Lib.hid (by simp), hB, Lib.hid (fun j hj => by omega)⟩
  case round =>
    obtain ⟨i, l, hi, rfl, hOr, hll, hBr, hinv⟩ := hrel
    by_cases hin : i < a.length
    · have har := Lib.hid (HA.out.below hBr)
      have hiN : i < N := by rw [HN.out]; exact hin
      have hwa := word_any _ a i wr har.out (by omega) (by omega)
      have hwb := word_any _ a ((i : Int) + 1) wr har.out (by omega) (by omega)
      have hxl := HA.out.lt i
      have hyl := HA.out.lt (i + 1)
      have hd := word_down HA.out.lt i n hn
      obtain ⟨x, hx⟩ : ∃ x, x = gd a i := ⟨_, rfl⟩
      obtain ⟨y, hy⟩ : ∃ y, y = gd a (i + 1) := ⟨_, rfl⟩
      rw [Int.toNat_natCast, ← hx] at hwa
      rw [show ((i : Int) + 1).toNat = i + 1 from by omega, ← hy] at hwb
      rw [← hx] at hxl
      rw [← hy] at hyl
      rw [← hx, ← hy] at hd
      have hor := or_words x y hxl hyl
      have hzl : x + y * 4294967296 < 18446744073709551616 := by omega
      obtain ⟨z, hz⟩ : ∃ z, z = x + y * 4294967296 := ⟨_, rfl⟩
      rw [← hz] at hor hzl hd
      have hsh : (z : Int) / 2 ^ n % 4294967296 = ((z / 2 ^ n % 4294967296 : Nat) : Int) := by rw [Int.natCast_emod, Int.natCast_ediv]; simp
      obtain ⟨t, ht⟩ : ∃ t, t = z / 2 ^ n % 4294967296 := ⟨_, rfl⟩
      have htl : t < 4294967296 := by rw [ht]; exact Nat.mod_lt _ (by decide)
      rw [← ht] at hsh hd
      have hcell := hOr.cell hll.out i hiN
      have hfr := hOr.frozen hll.out i
      have HWA := Lib.hid hwa; have HWB := Lib.hid hwb; have HO := Lib.hid hOr; have HD := Lib.hid hd
      clear hwa hwb hx hy hz ht hd hOr
      go_wp2_with fail
      (with_reducible refine HWA.out.mono ?_); rintro e w' ⟨rfl, rfl⟩
      go_wp2_with fail
      (with_reducible refine HWB.out.mono ?_); rintro e w' ⟨rfl, rfl⟩
      go_wp2_with fail
      go_roundw
      case rel =>
        have h1 := HO.out.stored hll.out i t htl
        refine ⟨i + 1, l.set i t, by omega, by go_num, h1, Lib.hid (by rw [List.length_set]; exact hll.out), hBr.setCell (Nat.le_refl _) _, Lib.hid fun j hj => ?_⟩
        rw [gd_set]
        by_cases hji : j = i
        · subst hji
          rw [if_pos ⟨rfl, by rw [hll.out]; exact hiN⟩]; exact HD.out
        · rw [if_neg (by omega)]; exact hinv.out j (by omega)
      case measure => simp [intOf]; omega
    · obtain rfl : i = a.length := by omega
      have hl := hll.out
      rw [HN.out] at hl
      have hv : val l = val a / 2 ^ n := by
        apply val_of_digits
        · intro j hj; exact hinv.out j (by omega)
        · rw [hl]; exact Nat.lt_of_le_of_lt (Nat.div_le_self _ _) (val_lt HA.out.lt)
      have HV := Lib.hid hv; have HL := Lib.hid hl; clear hv hl
      go_wp2_with fail
      go_ret
      exact ⟨_, l, rfl, hBr, hOr, HL.out, HV.out⟩
end Go.Proofs.YtkedjammeoaciaaGreatDoor
/-
  The reference's Int, bit, up and down: what they hand back.
  Conditions: each theorem's own.
-/
namespace Go.Proofs.YtkedjammeoaciaaGreatDoor
open Go.RowKit Go.ChangeShapes Go.WideShapes

set_option maxRecDepth 100000 in
set_option maxHeartbeats 800000 in
theorem rint_yes (va : Value) (a : List Nat) (w : World) (ha : Num w va a) (hla : a.length ≤ 1000000) (hv : val a < 9223372036854775808) :
    Calls Tryz.prog 80 #[va] w (RetS w (.tuple #[.int .i64 (val a : Nat), .bool true])) := by
  have hb := rbits_any va a w ha hla
  have hbl : blen (val a) ≤ 63 := blen_le hv
  obtain ⟨y, hy⟩ : ∃ y, y = blen (val a) := ⟨_, rfl⟩
  rw [← hy] at hb hbl
  have hw0 := rword_any va a 0 w ha (by omega) (by omega)
  have hw1 := rword_any va a 1 w ha (by omega) (by omega)
  have h2 := val_two ha.lt (by omega)
  have hx0 := ha.lt 0
  have hx1 := ha.lt 1
  obtain ⟨p, hp⟩ : ∃ p, p = gd a 0 := ⟨_, rfl⟩
  obtain ⟨q, hq⟩ : ∃ q, q = gd a 1 := ⟨_, rfl⟩
  rw [show (0 : Int).toNat = 0 from rfl, ← hp] at hw0
  rw [show (1 : Int).toNat = 1 from rfl, ← hq] at hw1
  rw [← hp, ← hq] at h2
  rw [← hp] at hx0
  rw [← hq] at hx1
  have hor := or_words p q hx0 hx1
  rw [h2] at hv ⊢
  have HB := Lib.hid hb; have HW0 := Lib.hid hw0; have HW1 := Lib.hid hw1
  obtain ⟨n, hn⟩ : ∃ n, n = p + q * 4294967296 := ⟨_, rfl⟩
  rw [← hn] at hv hor ⊢
  clear hb hw0 hw1 hy hp hq h2 ha hn
  go_enter Tryz.func80, Tryz.ntmps80
  go_wp2_with fail
  (with_reducible refine HB.out.mono ?_); rintro e w1 ⟨rfl, rfl⟩
  go_wp2_with fail
  (with_reducible refine HW0.out.mono ?_); rintro e w1 ⟨rfl, rfl⟩
  go_wp2_with fail
  (with_reducible refine HW1.out.mono ?_); rintro e w1 ⟨rfl, rfl⟩
  go_wp2_with fail
  go_ret2
  exact ⟨rfl, rfl⟩
set_option maxRecDepth 100000 in
set_option maxHeartbeats 800000 in
theorem rint_no (va : Value) (a : List Nat) (w : World) (ha : Num w va a) (hla : a.length ≤ 1000000) (hv : 9223372036854775808 ≤ val a) :
    Calls Tryz.prog 80 #[va] w (RetS w (.tuple #[.int .i64 0, .bool false])) := by
  have hb := rbits_any va a w ha hla
  have hbl : 63 < blen (val a) := by
    rcases Nat.lt_or_ge 63 (blen (val a)) with h | h
    · exact h
    · have := lt_of_blen h; omega
  have hbu : blen (val a) ≤ 32000000 := Nat.le_trans (blen_le_len ha.lt) (by omega)
  obtain ⟨y, hy⟩ : ∃ y, y = blen (val a) := ⟨_, rfl⟩
  rw [← hy] at hb hbl hbu
  have HB := Lib.hid hb
  clear hb hy ha hv
  go_enter Tryz.func80, Tryz.ntmps80
  go_wp2_with fail
  (with_reducible refine HB.out.mono ?_); rintro e w1 ⟨rfl, rfl⟩
  go_wp2_with fail
  go_ret2
  exact ⟨rfl, rfl⟩


set_option maxRecDepth 100000 in
set_option maxHeartbeats 1600000 in
theorem rup_any (va : Value) (a : List Nat) (n : Nat) (w : World) (ha : Num w va a) (hla : a.length ≤ 900000) (hn : n < 32) :
    Calls Tryz.prog 125 #[va, .int .i64 n] w (RetNum w fun r => r = wd (val a * 2 ^ n)) := by
  obtain ⟨ao, ca, rfl, hca, hca2, _⟩ := ha.shape
  have HA := Lib.hid ha; clear ha
  go_enter Tryz.func125, Tryz.ntmps125
  go_wp2_with fail
  go_loopw [5, 6, 11] (fun ov cv iv wr => ∃ (i c : Nat) (l : List Nat), i ≤ a.length ∧ iv = .int .i64 i ∧ cv = .int .u64 c ∧ c < 2 ^ n ∧ OwnW 75 wr w.heap.size ov l ∧ Hid (l.length = i) ∧ Below w.heap.size w wr ∧
      Hid (val l + 4294967296 ^ i * c = val (a.take i) * 2 ^ n)) (fun _ _ i _ => a.length - (intOf i).toNat)
  case atStart => exact ⟨0, 0, [], Nat.zero_le _, rfl, rfl, Nat.two_pow_pos n, OwnW.nil _ _ _, Lib.hid rfl, Below.refl _ _, Lib.hid (by simp [val])⟩
  case round =>
    obtain ⟨i, c, l, hi, rfl, rfl, hc, hOr, hll, hBr, hinv⟩ := hrel
    have hszr := hBr.size
    by_cases hin : i < a.length
    · have har := HA.out.below hBr
      obtain ⟨ba, oa, rfl, _, hca⟩ := har.at (by omega)
      have hx := hca i hin
      have hxl := HA.out.lt i
      obtain ⟨x, hxe⟩ : ∃ x, x = gd a i := ⟨_, rfl⟩
      rw [← hxe] at hx hxl
      obtain ⟨hw, _, _, _⟩ := shl_wrap x n hxl hn
      obtain ⟨hor, h1, h2⟩ := or_low64 x n c hxl hn hc
      obtain ⟨y, hy⟩ : ∃ y, y = x * 2 ^ n := ⟨_, rfl⟩
      rw [← hy] at hw hor h1 h2
      obtain ⟨s, hs⟩ : ∃ s, s = c + y := ⟨_, rfl⟩
      rw [← hs] at hor h1 h2
      have hsd : s / 4294967296 < 2 ^ n := by rw [Nat.div_lt_iff_lt_mul (by decide), Nat.mul_comm (2 ^ n)]; exact h1
      have hone := num_one wr 75 (s % 4294967296) (Nat.mod_lt _ (by decide))
      have HX := Lib.hid hxe; have HO := Lib.hid hOr; have HY := Lib.hid hy; have HS := Lib.hid hs; have HSD := Lib.hid hsd; have HONE := Lib.hid hone
      clear har hca hOr hxe hy hs h1 hsd hone
      go_wp2_with (at_builtin; refine wpList_appendN Tryz.wordsTy rfl (.tmp 21) (.tmp 24) rfl w.heap.size _ _ l [s % 4294967296] rfl rfl (HO.out.alloc _) HONE.out ?c1 ?c2 ?_)
      case c1 => rw [hll.out]; simp; omega
      case c2 => simp; omega
      intro v' w1 g1 g2 g3
      have g4 := g2 w (hBr.alloc hszr _)
      go_wp2_with fail
      go_roundw
      case rel =>
        refine ⟨i + 1, s / 4294967296, l ++ [s % 4294967296], by omega, by go_num, rfl, HSD.out, g1, Lib.hid (by rw [List.length_append, hll.out]; rfl), g4, Lib.hid ?_⟩
        rw [val_snoc, hll.out, Nat.pow_succ, val_take_succ, Nat.add_mul, ← hinv.out, ← HX.out, Nat.mul_assoc _ x, ← HY.out, Nat.mul_assoc _ 4294967296, Nat.add_assoc, ← Nat.mul_add, Nat.mod_add_div, HS.out, Nat.mul_add, Nat.add_assoc]
      case measure => simp [intOf]; omega
    · obtain rfl : i = a.length := by omega
      have hp : 2 ^ n ≤ 2 ^ 31 := Nat.pow_le_pow_right (by decide) (by omega)
      have hcl : c < 4294967296 := by omega
      have hcm : c % 4294967296 = c := Nat.mod_eq_of_lt hcl
      have hci : (c : Int) % 4294967296 = (c : Int) := by omega
      have hone := num_one wr 75 c hcl
      have hv : val (l ++ [c]) = val a * 2 ^ n := by
        rw [val_snoc, hll.out, hinv.out, List.take_of_length_le (Nat.le_refl _)]
      have hl : (l ++ [c]).length = a.length + 1 := by rw [List.length_append, hll.out]; rfl
      have HO := Lib.hid hOr; have HONE := Lib.hid hone; have HV := Lib.hid hv; have HL := Lib.hid hl
      clear hp hcm hone hv hl hOr
      go_wp2_with (at_builtin; refine wpList_appendN Tryz.wordsTy rfl (.tmp 29) (.tmp 32) rfl w.heap.size _ _ l [c] rfl rfl (HO.out.alloc _) HONE.out ?d1 ?d2 ?_)
      case d1 => rw [hll.out]; simp; omega
      case d2 => simp; omega
      intro v' w1 g1 g2 g3
      have g4 := g2 w (hBr.alloc hszr _)
      have htr := rtrim_any _ _ _ g1.num (by rw [HL.out]; omega)
      rw [HV.out] at htr
      have HT := Lib.hid htr; clear htr
      go_wp2_with fail
      (with_reducible refine HT.out.mono ?_); rintro e w' ⟨v'', l'', rfl, hB', hN', hl'⟩
      go_wp2_with fail
      go_ret
      exact ⟨_, _, rfl, g4.trans (hB'.mono g4.size), hN', hl'⟩

set_option maxRecDepth 100000 in
set_option maxHeartbeats 1600000 in
theorem rdown_any (va : Value) (a : List Nat) (n : Nat) (w : World) (ha : Num w va a) (hla : a.length ≤ 900000) (hn : n < 32) :
    Calls Tryz.prog 127 #[va, .int .i64 n] w (RetNum w fun r => r = wd (val a / 2 ^ n)) := by
  obtain ⟨ao, ca, rfl, hca, hca2, _⟩ := ha.shape
  have HA := Lib.hid ha; clear ha
  go_enter Tryz.func127, Tryz.ntmps127
  go_wp2_with fail
  go_loopw [5, 9] (fun ov iv wr => ∃ (i : Nat) (l : List Nat), i ≤ a.length ∧ iv = .int .i64 i ∧ OwnW 75 wr w.heap.size ov l ∧ Hid (l.length = i) ∧ Below w.heap.size w wr ∧
      Hid (∀ j, j < i → gd l j = val a / 2 ^ n / 4294967296 ^ j % 4294967296)) (fun _ i _ => a.length - (intOf i).toNat)
  case atStart => exact ⟨0, [], Nat.zero_le _, rfl, OwnW.nil _ _ _, Lib.hid rfl, Below.refl _ _, Lib.hid (fun j hj => by omega)⟩
  case round =>
    obtain ⟨i, l, hi, rfl, hOr, hll, hBr, hinv⟩ := hrel
    have hszr := hBr.size
    by_cases hin : i < a.length
    · have har := Lib.hid (HA.out.below hBr)
      have hwa := rword_any _ a i wr har.out (by omega) (by omega)
      have hwb := rword_any _ a ((i : Int) + 1) wr har.out (by omega) (by omega)
      have hxl := HA.out.lt i
      have hyl := HA.out.lt (i + 1)
      have hd := word_down HA.out.lt i n hn
      obtain ⟨x, hx⟩ : ∃ x, x = gd a i := ⟨_, rfl⟩
      obtain ⟨y, hy⟩ : ∃ y, y = gd a (i + 1) := ⟨_, rfl⟩
      rw [Int.toNat_natCast, ← hx] at hwa
      rw [show ((i : Int) + 1).toNat = i + 1 from by omega, ← hy] at hwb
      rw [← hx] at hxl
      rw [← hy] at hyl
      rw [← hx, ← hy] at hd
      have hor := or_words x y hxl hyl
      have hzl : x + y * 4294967296 < 18446744073709551616 := by omega
      obtain ⟨z, hz⟩ : ∃ z, z = x + y * 4294967296 := ⟨_, rfl⟩
      rw [← hz] at hor hzl hd
      have hsh : (z : Int) / 2 ^ n % 4294967296 = ((z / 2 ^ n % 4294967296 : Nat) : Int) := by rw [Int.natCast_emod, Int.natCast_ediv]; simp
      obtain ⟨t, ht⟩ : ∃ t, t = z / 2 ^ n % 4294967296 := ⟨_, rfl⟩
      have htl : t < 4294967296 := by rw [ht]; exact Nat.mod_lt _ (by decide)
      rw [← ht] at hsh hd
      have hone := num_one wr 75 t htl
      have HWA := Lib.hid hwa; have HWB := Lib.hid hwb; have HO := Lib.hid hOr; have HD := Lib.hid hd; have HONE := Lib.hid hone
      clear hwa hwb hx hy hz ht hd hOr hone
      go_wp2_with fail
      (with_reducible refine HWA.out.mono ?_); rintro e w' ⟨rfl, rfl⟩
      go_wp2_with fail
      (with_reducible refine HWB.out.mono ?_); rintro e w' ⟨rfl, rfl⟩
      go_wp2_with (at_builtin; refine wpList_appendN Tryz.wordsTy rfl (.tmp 12) (.tmp 25) rfl w.heap.size _ _ l [t] rfl rfl (HO.out.alloc _) HONE.out ?c1 ?c2 ?_)
      case c1 => rw [hll.out]; simp; omega
      case c2 => simp; omega
      intro v' w1 g1 g2 g3
      have g4 := g2 w (hBr.alloc hszr _)
      go_wp2_with fail
      go_roundw
      case rel =>
        refine ⟨i + 1, l ++ [t], by omega, by go_num, g1, Lib.hid (by rw [List.length_append, hll.out]; rfl), g4, Lib.hid fun j hj => ?_⟩
        rw [gd_append, hll.out]
        by_cases hji : j = i
        · subst hji
          rw [if_neg (by omega), Nat.sub_self]; exact HD.out
        · rw [if_pos (by omega)]; exact hinv.out j (by omega)
      case measure => simp [intOf]; omega
    · obtain rfl : i = a.length := by omega
      have hl := hll.out
      have hv : val l = val a / 2 ^ n := by
        apply val_of_digits
        · intro j hj; exact hinv.out j (by omega)
        · rw [hl]; exact Nat.lt_of_le_of_lt (Nat.div_le_self _ _) (val_lt HA.out.lt)
      have htr := rtrim_any _ _ _ hOr.num (by rw [hl]; omega)
      rw [hv] at htr
      have HT := Lib.hid htr; clear htr hv hl
      go_wp2_with fail
      (with_reducible refine HT.out.mono ?_); rintro e w' ⟨v'', l'', rfl, hB', hN', hl'⟩
      go_wp2_with fail
      go_ret
      exact ⟨_, _, rfl, hBr.trans (hB'.mono hBr.size), hN', hl'⟩

end Go.Proofs.YtkedjammeoaciaaGreatDoor
/-
  natural.take, natural.give: what they do to a window of words.
  Conditions: each theorem's own.
-/
namespace Go.Proofs.YtkedjammeoaciaaGreatDoor
open Go.RowKit Go.ChangeShapes Go.WideShapes

theorem grown_refl (w : World) (row : Option Nat) : w.grownBy w row := ⟨rfl, rfl, rfl, Nat.le_refl _, fun _ _ _ => rfl⟩
theorem grown_trans {a b c : World} {row : Option Nat} (h : a.grownBy b row) (k : b.grownBy c row) : a.grownBy c row :=
  ⟨k.os.trans h.os, k.tape.trans h.tape, k.output.trans h.output, Nat.le_trans h.size k.size, fun i hi hr => (k.block i (Nat.lt_of_lt_of_le hi h.size) hr).trans (h.block i hi hr)⟩
theorem grown_below {a b : World} {row : Option Nat} (h : Below a.heap.size a b) : a.grownBy b row := ⟨h.os, h.tape, h.output, h.size, fun k hk _ => h.block k hk⟩
theorem grown_drewN {a b : World} {row : Option Nat} (h : a.grownBy b row) (n : Nat) : a.grownBy (b.drewN n) row := grown_trans h ⟨rfl, rfl, rfl, Nat.le_refl _, fun _ _ _ => rfl⟩
theorem OwnW.grown {e : TypeId} {w : World} {B g n c : Nat} {l : List Nat} (h : OwnW e w B (.slice (some ⟨g, 0, none⟩) n c) l) (hn : l.length = n) (k x : Nat) : w.grownBy (w.setCell ⟨g, k, none⟩ (.int .u32 x)) (some g) := by
  subst hn
  exact (h.1.stored k (.int .u32 x)).2
theorem OwnW.keptBy {e : TypeId} {w w' : World} {B g h n c : Nat} {l : List Nat} (ho : OwnW e w B (.slice (some ⟨h, 0, none⟩) n c) l) (hg : w.grownBy w' (some g)) (hne : h ≠ g) : OwnW e w' B (.slice (some ⟨h, 0, none⟩) n c) l :=
  ⟨ho.1.kept hg (.inr (by simp [Value.ownBlock]; exact hne)), ho.2⟩
theorem OwnW.keptFrom {e : TypeId} {w w' : World} {B : Nat} {row : Option Nat} {v : Value} {l : List Nat} (ho : OwnW e w B v l) (hg : w.grownBy w' row) (hr : ∀ k, row = some k → k < B) : OwnW e w' B v l := by
  refine ⟨ho.1.kept hg ?_, ho.2⟩
  cases hv : v.ownBlock with
  | none => exact .inl rfl
  | some k =>
    right
    intro he
    have h1 := (ho.1.lt k hv).1
    have h2 := hr k he.symm
    omega
theorem Num.keptBy {w w' : World} {g h o k c : Nat} {l : List Nat} (hn : Num w (.slice (some ⟨h, o, none⟩) k c) l) (hg : w.grownBy w' (some g)) (hne : h ≠ g) : Num w' (.slice (some ⟨h, o, none⟩) k c) l := by
  obtain ⟨ao', c', e, h1, h2, h3, h4, h5⟩ := hn
  refine ⟨ao', c', e, h1, h2, h3, ?_, h5⟩
  intro b off s hs
  cases e
  cases hs
  obtain ⟨k1, k2⟩ := h4 h o none rfl
  refine ⟨fun h0 => ⟨Nat.lt_of_lt_of_le (k1 h0).1 hg.size, rfl⟩, fun j hj => ?_⟩
  exact hg.cell (k2 j hj) (by simp; exact hne)

theorem Num.cap {w : World} {ao : Option Addr} {n c : Nat} {l : List Nat} (h : Num w (.slice ao n c) l) : n ≤ c ∧ c ≤ 9223372036854775807 := by
  obtain ⟨ao', c', e, h1, h2, h3, h4, h5⟩ := h
  cases e
  exact ⟨h1, h2⟩
theorem hO4n {e : TypeId} {w : World} {B g n c : Nat} {l : List Nat} (h : OwnW e w B (.slice (some ⟨g, 0, none⟩) n c) l) (k : Nat) (hk : k ≤ l.length) : Num w (.slice (some ⟨g, 0, none⟩) k c) (l.take k) := h.num.take k hk
/-- what take leaves: the window less the multiple, with a borrow -/
def RetTake (w : World) (g n cap B j m T : Nat) (l : List Nat) (e : Ending) (w' : World) : Prop :=
  ∃ l' r, e = .returned (.bool (decide (r = 1))) ∧ r ≤ 1 ∧ OwnW 75 w' B (.slice (some ⟨g, 0, none⟩) n cap) l' ∧ l'.length = n ∧ w.grownBy w' (some g) ∧
    (∀ i, i < j ∨ j + m ≤ i → gd l' i = gd l i) ∧ winv l' j m + T = winv l j m + 4294967296 ^ m * r

theorem take_bounds {c p : Nat} (hc : c < 4294967296) (hp : p ≤ 18446744065119617025) : (c + p) / 4294967296 < 4294967296 ∧ (c + p) % 4294967296 < 4294967296 ∧ c + p < 18446744073709551616 := by omega

set_option maxRecDepth 100000 in
set_option maxHeartbeats 1600000 in
theorem take_any (g j m c n cap h k ck q B : Nat) (l b : List Nat) (w : World) (hO : OwnW 75 w B (.slice (some ⟨g, 0, none⟩) n cap) l) (hl : l.length = n) (hjm : j + m ≤ n) (hn : n ≤ 900001) (hc : c ≤ 9223372036854775807) (hmc : m ≤ c)
    (hv : Num w (.slice (some ⟨h, 0, none⟩) k ck) b) (hne : h ≠ g) (hq : q < 4294967296) (hbm : b.length ≤ m) (hT : q * val b < 4294967296 ^ m) :
    Calls Tryz.prog 120 #[.slice (some ⟨g, j, none⟩) m c, .slice (some ⟨h, 0, none⟩) k ck, .int .u64 q] w (RetTake w g n cap B j m (q * val b) l) := by
  have HO := Lib.hid hO; have HV := Lib.hid hv; have HL := Lib.hid hl; have HT := Lib.hid hT; have HNE := Lib.hid hne
  clear hO hv hl hT hne
  go_enter Tryz.func120, Tryz.ntmps120
  go_wp2_with fail
  go_loopw [7, 8, 13] (fun cv rv iv wr => ∃ (i c r : Nat) (l' : List Nat), i ≤ m ∧ iv = .int .i64 i ∧ cv = .int .u64 c ∧ rv = .int .u64 r ∧ c < 4294967296 ∧ r ≤ 1 ∧
      OwnW 75 wr B (.slice (some ⟨g, 0, none⟩) n cap) l' ∧ Hid (l'.length = n) ∧ Hid (w.grownBy wr (some g)) ∧ Hid (∀ x, x < j ∨ j + i ≤ x → gd l' x = gd l x) ∧
      Hid (winv l' j i + q * val (b.take i) = winv l j i + 4294967296 ^ i * (r + c)) ∧ Hid (4294967296 ^ i * c ≤ q * val (b.take i))) (fun _ _ i _ => m - (intOf i).toNat)
  case atStart => exact ⟨0, 0, 0, l, Nat.zero_le _, rfl, rfl, rfl, by omega, by omega, HO.out, HL, Lib.hid (grown_refl _ _), Lib.hid (fun x _ => rfl), Lib.hid (by simp [winv_zero, val]), Lib.hid (by simp)⟩
  case round =>
    obtain ⟨i, c, r, l', hi, rfl, rfl, rfl, hcl, hrl, hOr, hll, hgr, hsame, hinv, hcar⟩ := hrel
    by_cases him : i < m
    · have hvr := Lib.hid (HV.out.keptBy hgr.out HNE.out)
      have hwv := word_any _ b i wr hvr.out (by omega) (by omega)
      have hyl := HV.out.lt i
      obtain ⟨y, hy⟩ : ∃ y, y = gd b i := ⟨_, rfl⟩
      rw [Int.toNat_natCast, ← hy] at hwv
      rw [← hy] at hyl
      have hji : j + i < n := by omega
      have hcell := hOr.cell hll.out (j + i) hji
      have hfr := hOr.frozen hll.out (j + i)
      have hxl := hOr.lt (j + i)
      have hxs := hsame.out (j + i) (.inr (Nat.le_refl _))
      obtain ⟨x, hx⟩ : ∃ x, x = gd l' (j + i) := ⟨_, rfl⟩
      rw [← hx] at hcell hxl hxs
      have hpl := word_mul hq hyl
      obtain ⟨p, hp⟩ : ∃ p, p = q * y := ⟨_, rfl⟩
      have hpi : (q : Int) * (y : Int) = (p : Int) := by rw [hp]; rfl
      rw [← hp] at hpl
      obtain ⟨s1, s2, s3⟩ := take_bounds hcl hpl
      obtain ⟨low, hlow⟩ : ∃ low, low = (c + p) % 4294967296 := ⟨_, rfl⟩
      obtain ⟨c', hc'⟩ : ∃ c', c' = (c + p) / 4294967296 := ⟨_, rfl⟩
      have hlowi : ((c : Int) + (p : Int)) % 4294967296 = (low : Int) := by rw [hlow]; rfl
      have hci : ((c : Int) + (p : Int)) / 4294967296 = (c' : Int) := by rw [hc']; rfl
      rw [← hlow] at s2
      rw [← hc'] at s1
      have hsw := subW_wrap hxl s2 hrl
      have hslt := subW_lt hxl s2 hrl
      obtain ⟨b1, b2⟩ := subW_borrow hxl s2 hrl
      obtain ⟨d, hd⟩ : ∃ d, d = subW x low r := ⟨_, rfl⟩
      rw [← hd] at hsw hslt b1 b2
      have HD := Lib.hid hd
      have hst := take_step (q := q) (y := y) (x := x) (c' := c') (d := d % 4294967296) (r' := d / 9223372036854775808) hinv.out (by rw [← hp, ← hlow]; exact b2) (by rw [← hp]; exact hc')
      have hca := take_carry (q := q) (y := y) (c' := c') hcar.out (by rw [← hp]; exact hc')
      have hdm : d % 4294967296 < 4294967296 := Nat.mod_lt _ (by decide)
      have HWV := Lib.hid hwv; have HOR := Lib.hid hOr; have HY := Lib.hid hy; have HXS := Lib.hid hxs; have S1 := Lib.hid s1; have B1 := Lib.hid b1; have HST := Lib.hid hst; have HCA := Lib.hid hca; have HDM := Lib.hid hdm
      have HLOWI := Lib.hid hlowi; have HCI := Lib.hid hci
      clear hwv hOr hy hxs hx hp hlow hc' b1 b2 hd hst hca hdm s1
      go_wp2_with fail
      (with_reducible refine HWV.out.mono ?_); rintro e w' ⟨rfl, rfl⟩
      go_wp2_with fail
      go_roundw
      case rel =>
        have h1 := HOR.out.stored hll.out (j + i) (d % 4294967296) HDM.out
        have h2 := HOR.out.grown hll.out (j + i) (d % 4294967296)
        refine ⟨i + 1, c', d / 9223372036854775808, l'.set (j + i) (d % 4294967296), by omega, by go_num, rfl, rfl, S1.out, B1.out, h1, Lib.hid (by rw [List.length_set]; exact hll.out), Lib.hid (grown_trans hgr.out h2), Lib.hid ?_, Lib.hid ?_, Lib.hid ?_⟩
        · intro z hz
          rw [gd_set, if_neg (by omega)]; exact hsame.out z (by omega)
        · rw [winv_set _ _ _ _ (by rw [hll.out]; exact hji), winv_succ, ← HXS.out, val_take_succ, ← HY.out, Nat.mul_add q, Nat.mul_left_comm q, Nat.pow_succ]
          exact HST.out
        · rw [val_take_succ, ← HY.out, Nat.mul_add q, Nat.mul_left_comm q, Nat.pow_succ]
          exact HCA.out
      case measure => simp [intOf]; omega
    · obtain rfl : i = m := by omega
      have hb : b.take i = b := List.take_of_length_le hbm
      have hi1 := hinv.out
      have hi2 := hcar.out
      rw [hb] at hi1 hi2
      have hc0 := take_end hi2 HT.out
      subst hc0
      rw [Nat.add_zero] at hi1
      have HI := Lib.hid hi1
      have hdec : ((r : Int) == 1) = decide (r = 1) := by rw [Bool.eq_iff_iff]; simp; omega
      have HDEC := Lib.hid hdec
      clear hi1 hi2 hb hdec
      go_wp2_with fail
      go_ret
      exact ⟨l', r, ret_bool HDEC.out, hrl, hOr, hll.out, hgr.out, hsame.out, HI.out⟩

/-- what give leaves: the window with the number added, with a carry lost -/
def RetGive (w : World) (g n cap B j m T : Nat) (l : List Nat) (e : Ending) (w' : World) : Prop :=
  ∃ l' r, e = .returned (.tuple #[]) ∧ OwnW 75 w' B (.slice (some ⟨g, 0, none⟩) n cap) l' ∧ l'.length = n ∧ w.grownBy w' (some g) ∧
    (∀ i, i < j ∨ j + m ≤ i → gd l' i = gd l i) ∧ winv l' j m + 4294967296 ^ m * r = winv l j m + T

set_option maxRecDepth 100000 in
set_option maxHeartbeats 1600000 in
theorem give_any (g j m c n cap h k ck B : Nat) (l b : List Nat) (w : World) (hO : OwnW 75 w B (.slice (some ⟨g, 0, none⟩) n cap) l) (hl : l.length = n) (hjm : j + m ≤ n) (hn : n ≤ 900001) (hc : c ≤ 9223372036854775807) (hmc : m ≤ c)
    (hv : Num w (.slice (some ⟨h, 0, none⟩) k ck) b) (hne : h ≠ g) (hbm : b.length ≤ m) :
    Calls Tryz.prog 121 #[.slice (some ⟨g, j, none⟩) m c, .slice (some ⟨h, 0, none⟩) k ck] w (RetGive w g n cap B j m (val b) l) := by
  have HO := Lib.hid hO; have HV := Lib.hid hv; have HL := Lib.hid hl; have HNE := Lib.hid hne
  clear hO hv hl hne
  go_enter Tryz.func121, Tryz.ntmps121
  go_wp2_with fail
  go_loopw [4, 8] (fun cv iv wr => ∃ (i c : Nat) (l' : List Nat), i ≤ m ∧ iv = .int .i64 i ∧ cv = .int .u64 c ∧ c ≤ 1 ∧
      OwnW 75 wr B (.slice (some ⟨g, 0, none⟩) n cap) l' ∧ Hid (l'.length = n) ∧ Hid (w.grownBy wr (some g)) ∧ Hid (∀ x, x < j ∨ j + i ≤ x → gd l' x = gd l x) ∧
      Hid (winv l' j i + 4294967296 ^ i * c = winv l j i + val (b.take i))) (fun _ i _ => m - (intOf i).toNat)
  case atStart => exact ⟨0, 0, l, Nat.zero_le _, rfl, rfl, by omega, HO.out, HL, Lib.hid (grown_refl _ _), Lib.hid (fun x _ => rfl), Lib.hid (by simp [winv_zero, val])⟩
  case round =>
    obtain ⟨i, c, l', hi, rfl, rfl, hcl, hOr, hll, hgr, hsame, hinv⟩ := hrel
    by_cases him : i < m
    · have hvr := Lib.hid (HV.out.keptBy hgr.out HNE.out)
      have hyl := HV.out.lt i
      obtain ⟨y, hy⟩ : ∃ y, y = gd b i := ⟨_, rfl⟩
      have hwv : ∀ nq, Calls Tryz.prog 114 #[.slice (some ⟨h, 0, none⟩) k ck, .int .i64 i] (wr.drewN nq) (RetS (wr.drewN nq) (.int .u64 (y : Nat))) := fun nq => by
        have hh := word_any _ b i (wr.drewN nq) (hvr.out.below (below_drewN (Below.refl _ _) nq)) (by omega) (by omega)
        rw [Int.toNat_natCast, ← hy] at hh; exact hh
      rw [← hy] at hyl
      have hji : j + i < n := by omega
      have hcell := hOr.cell hll.out (j + i) hji
      have hfr := hOr.frozen hll.out (j + i)
      have hxl := hOr.lt (j + i)
      have hxs := hsame.out (j + i) (.inr (Nat.le_refl _))
      obtain ⟨x, hx⟩ : ∃ x, x = gd l' (j + i) := ⟨_, rfl⟩
      rw [← hx] at hcell hxl hxs
      obtain ⟨s1, s2⟩ := add_bounds hcl hxl hyl
      have hst := add_step (x := x) (y := y) hinv.out
      have HWV := Lib.hid hwv; have HOR := Lib.hid hOr; have HY := Lib.hid hy; have HXS := Lib.hid hxs; have S1 := Lib.hid s1; have S2 := Lib.hid s2; have HST := Lib.hid hst
      clear hwv hOr hy hxs hx s1 s2 hst
      go_wp2_with fail
      go_quiet ((go_at_call 114; exact Calls.quiet_of_same (ret_quiet (HWV.out _))))
      go_wp2_with fail
      go_roundw
      case rel =>
        have hO' := HOR.out.below (below_drewN (Below.refl _ _) nq)
        have h1 := hO'.stored hll.out (j + i) ((c + (x + y)) % 4294967296) S2.out
        have h2 := hO'.grown hll.out (j + i) ((c + (x + y)) % 4294967296)
        refine ⟨i + 1, (c + (x + y)) / 4294967296, l'.set (j + i) ((c + (x + y)) % 4294967296), by omega, by go_num, rfl, S1.out, h1, Lib.hid (by rw [List.length_set]; exact hll.out), Lib.hid (grown_trans (grown_drewN hgr.out nq) h2), Lib.hid ?_, Lib.hid ?_⟩
        · intro z hz
          rw [gd_set, if_neg (by omega)]; exact hsame.out z (by omega)
        · rw [winv_set _ _ _ _ (by rw [hll.out]; exact hji), winv_succ, ← HXS.out, val_take_succ, ← HY.out, Nat.pow_succ]
          exact HST.out
      case measure => simp [intOf]; omega
    · obtain rfl : i = m := by omega
      have hb : b.take i = b := List.take_of_length_le hbm
      have hi1 := hinv.out
      rw [hb] at hi1
      have HI := Lib.hid hi1
      clear hi1 hb
      go_wp2_with fail
      go_end0
      exact ⟨l', c, rfl, hOr, hll.out, hgr.out, hsame.out, HI.out⟩
end Go.Proofs.YtkedjammeoaciaaGreatDoor
/-
  natural.Div: what it hands back.
  Conditions: each theorem's own.
-/
namespace Go.Proofs.YtkedjammeoaciaaGreatDoor
open Go.RowKit Go.ChangeShapes Go.WideShapes

/-- hands back quotient, remainder and an error -/
def RetDiv (w : World) (q r : Nat) (er : Value) (e : Ending) (w' : World) : Prop := ∃ v1 v2, e = .returned (.tuple #[v1, v2, er]) ∧ Below w.heap.size w w' ∧ Num w' v1 (wd q) ∧ Num w' v2 (wd r)

theorem wd_length_pos {n : Nat} (h : n ≠ 0) : 0 < (wd n).length := by rw [wd_pos h]; simp

set_option maxRecDepth 100000 in
set_option maxHeartbeats 800000 in
theorem div_zero (va vb : Value) (a b : List Nat) (w : World) (ha : Num w va a) (hb : Num w vb b) (hla : a.length ≤ 800000) (hlb : b.length ≤ 800000) (h0 : val b = 0) :
    Calls Tryz.prog 82 #[va, vb] w (RetDiv w 0 0 (errV 8)) := by
  rw [errV_pos (by decide)]
  go_enter Tryz.func82, Tryz.ntmps82
  go_wp2_with fail
  (with_reducible refine (trim_any _ _ _ ha (by omega)).mono ?_); rintro e w1 ⟨v1, l1, rfl, hb1, hn1, hl1⟩
  go_wp2_with fail
  (with_reducible refine (trim_any _ _ _ (hb.below hb1) (by omega)).mono ?_); rintro e w2 ⟨v2, l2, rfl, hb2, hn2, hl2⟩
  have hb12 := hb1.trans (hb2.mono hb1.size)
  rw [h0, wd_zero] at hl2
  subst hl2
  obtain ⟨bo, cb, rfl, hcb, hcb2, _⟩ := hn2.shape
  clear hn2 hb1 hb2 ha hb hl1 hn1 h0
  go_wp2_with fail
  go_ret3
  exact ⟨_, _, rfl, hb12, by rw [wd_zero]; exact Num.nil _, by rw [wd_zero]; exact Num.nil _⟩

set_option maxRecDepth 100000 in
set_option maxHeartbeats 800000 in
theorem div_less (va vb : Value) (a b : List Nat) (w : World) (ha : Num w va a) (hb : Num w vb b) (hla : a.length ≤ 800000) (hlb : b.length ≤ 800000) (hlt : val a < val b) :
    Calls Tryz.prog 82 #[va, vb] w (RetDiv w (val a / val b) (val a % val b) (errV 0)) := by
  have hd1 : val a / val b = 0 := Nat.div_eq_of_lt hlt
  have hd2 : val a % val b = val a := Nat.mod_eq_of_lt hlt
  rw [hd1, hd2, errV_zero]
  clear hd1 hd2
  have hl1 := wd_length_le ha.lt
  have hl2 := wd_length_le hb.lt
  have hp2 := wd_length_pos (show val b ≠ 0 by omega)
  have hcn := cmpN_islt hlt
  have HLT := Lib.hid hlt; clear hlt
  go_enter Tryz.func82, Tryz.ntmps82
  go_wp2_with fail
  (with_reducible refine (trim_any _ _ _ ha (by omega)).mono ?_); rintro e w1 ⟨v1, l1, rfl, hb1, hn1, hl1'⟩
  go_wp2_with fail
  (with_reducible refine (trim_any _ _ _ (hb.below hb1) (by omega)).mono ?_); rintro e w2 ⟨v2, l2, rfl, hb2, hn2, hl2'⟩
  have hn1 := hn1.below hb2
  have hb12 := hb1.trans (hb2.mono hb1.size)
  have hc := cmp_any _ _ _ _ _ hn1 hn2 (by rw [hl1']; omega) (by rw [hl2']; omega)
  rw [hl1', hl2', val_wd, val_wd] at hc
  rw [← hl2'] at hp2
  obtain ⟨r, hr⟩ : ∃ r, r = cmpN (val a) (val b) := ⟨_, rfl⟩
  rw [← hr] at hc hcn
  obtain ⟨bo, cb, rfl, hcb, hcb2, _⟩ := hn2.shape
  have HC := Lib.hid hc; have H1 := Lib.hid hl1'; have HN1 := Lib.hid hn1
  clear hc hl1' hl2' hn1 hn2 hb1 hb2 ha hb hr
  go_wp2_with fail
  (with_reducible refine HC.out.mono ?_); rintro e w3 ⟨rfl, hb3⟩
  go_wp2_with fail
  go_ret3
  exact ⟨_, _, rfl, hb12.trans (hb3.mono hb12.size), by rw [wd_zero]; exact Num.nil _, by rw [← H1.out]; exact HN1.out.below hb3⟩

set_option maxRecDepth 100000 in
set_option maxHeartbeats 800000 in
theorem div_small (va vb : Value) (a b : List Nat) (w : World) (ha : Num w va a) (hb : Num w vb b) (hla : a.length ≤ 800000) (hlb : b.length ≤ 800000) (hge : val b ≤ val a) (h0 : val b ≠ 0) (hs : val b < 4294967296) :
    Calls Tryz.prog 82 #[va, vb] w (RetDiv w (val a / val b) (val a % val b) (errV 0)) := by
  rw [errV_zero]
  have hl1 := wd_length_le ha.lt
  have hcn := cmpN_nlt hge
  have hwb : wd (val b) = [val b] := by
    rw [wd_pos h0, Nat.mod_eq_of_lt hs, Nat.div_eq_of_lt hs, wd_zero]
  obtain ⟨B, hB⟩ : ∃ B, B = val b := ⟨_, rfl⟩
  have HBE := Lib.hid hB
  rw [← hB] at hs h0 hwb hge hcn ⊢
  clear hB
  go_enter Tryz.func82, Tryz.ntmps82
  go_wp2_with fail
  (with_reducible refine (trim_any _ _ _ ha (by omega)).mono ?_); rintro e w1 ⟨v1, l1, rfl, hb1, hn1, hl1'⟩
  go_wp2_with fail
  (with_reducible refine (trim_any _ _ _ (hb.below hb1) (by omega)).mono ?_); rintro e w2 ⟨v2, l2, rfl, hb2, hn2, hl2'⟩
  have hn1 := hn1.below hb2
  have hb12 := hb1.trans (hb2.mono hb1.size)
  rw [← HBE.out] at hl2'
  have hc := cmp_any _ _ _ _ _ hn1 hn2 (by rw [hl1']; omega) (by rw [hl2', hwb]; simp)
  rw [hl1', hl2', val_wd, val_wd] at hc
  rw [hwb] at hl2'
  obtain ⟨r, hr⟩ : ∃ r, r = cmpN (val a) B := ⟨_, rfl⟩
  rw [← hr] at hc hcn
  subst hl2'
  obtain ⟨bo, cb, rfl, hcb, hcb2, _⟩ := hn2.shape
  have HC := Lib.hid hc; have H1 := Lib.hid hl1'; have HN1 := Lib.hid hn1; have HN2 := Lib.hid hn2; have HB12 := Lib.hid hb12
  clear hc hl1' hn1 hn2 hb1 hb2 ha hb hr hwb hge hb12
  simp only [List.length_singleton] at *
  go_wp2_with fail
  (with_reducible refine HC.out.mono ?_); rintro e w3 ⟨rfl, hb3⟩
  have hn2 := HN2.out.below hb3
  obtain ⟨bb, ob, rfl, _, hcell⟩ := hn2.at (Nat.succ_pos _)
  have hc0 : w3.cell? ⟨bb, ob, none⟩ = some (.int .u32 (B : Nat)) := hcell 0 (Nat.succ_pos _)
  have hsm := small_any _ _ B _ (HN1.out.below hb3) (by rw [H1.out]; omega) (by omega) hs
  rw [H1.out, val_wd] at hsm
  have HSM := Lib.hid hsm
  clear hcell hn2 hsm
  go_wp2_with fail
  (with_reducible refine HSM.out.mono ?_); rintro e w4 ⟨v4, rfl, hb4, hn4⟩
  have hrl : val a % B < B := Nat.mod_lt _ (by omega)
  obtain ⟨r, hr⟩ : ∃ r, r = val a % B := ⟨_, rfl⟩
  have HR := Lib.hid hr
  rw [← hr] at hrl ⊢
  have hof := of_any (r : Int) w4 (by omega) (by omega)
  rw [Int.toNat_natCast] at hof
  have HOF := Lib.hid hof; have HN4 := Lib.hid hn4
  clear hof hn4 hr
  go_wp2_with fail
  (with_reducible refine HOF.out.mono ?_); rintro e w5 ⟨v5, l5, rfl, hb5, hn5, hl5⟩
  go_wp2_with fail
  go_ret3
  have h3 := HB12.out.trans (hb3.mono HB12.out.size)
  have h4 := h3.trans (hb4.mono h3.size)
  have h5 := h4.trans (hb5.mono h4.size)
  exact ⟨_, _, rfl, h5, HN4.out.below hb5, by rw [← HR.out, ← hl5]; exact hn5⟩
end Go.Proofs.YtkedjammeoaciaaGreatDoor
/-
  natural.Div: long division.
  Conditions: each theorem's own.
-/
namespace Go.Proofs.YtkedjammeoaciaaGreatDoor
open Go.RowKit Go.ChangeShapes Go.WideShapes

set_option maxRecDepth 100000 in
set_option maxHeartbeats 16000000 in
theorem div_long (va vb : Value) (a b : List Nat) (w : World) (ha : Num w va a) (hb : Num w vb b) (hla : a.length ≤ 800000) (hlb : b.length ≤ 800000) (hge : val b ≤ val a) (hbig : 4294967296 ≤ val b) :
    Calls Tryz.prog 82 #[va, vb] w (RetDiv w (val a / val b) (val a % val b) (errV 0)) := by
  rw [errV_zero]
  have hl1 := wd_length_le ha.lt
  have hl2 := wd_length_le hb.lt
  have hcn := cmpN_nlt hge
  have hab := wd_length_mono hge
  have hnb2 := wd_two hbig
  obtain ⟨_, hx0, hbl⟩ := wd_top (show val b ≠ 0 by omega)
  have hAl := val_lt (u32_wd (val a))
  rw [val_wd] at hAl
  obtain ⟨A, hA⟩ : ∃ A, A = val a := ⟨_, rfl⟩
  obtain ⟨Bv, hBv⟩ : ∃ Bv, Bv = val b := ⟨_, rfl⟩
  obtain ⟨la, hla1⟩ : ∃ la, la = wd A := ⟨_, rfl⟩
  obtain ⟨lb, hlb1⟩ : ∃ lb, lb = wd Bv := ⟨_, rfl⟩
  rw [← hA, ← hla1] at hl1 hAl
  rw [← hBv, ← hlb1] at hl2
  rw [← hA, ← hBv, ← hla1, ← hlb1] at hab
  rw [← hBv, ← hlb1] at hnb2 hx0 hbl
  rw [← hA, ← hBv] at hge hcn ⊢
  rw [← hBv] at hbig
  obtain ⟨na, hna⟩ : ∃ na, na = la.length := ⟨_, rfl⟩
  obtain ⟨nb, hnb⟩ : ∃ nb, nb = lb.length := ⟨_, rfl⟩
  rw [← hna] at hl1 hab hAl
  rw [← hnb] at hl2 hab hnb2 hx0 hbl
  have hub : U32 lb := by rw [hlb1]; exact u32_wd _
  have hxl := hub (nb - 1)
  obtain ⟨x, hx⟩ : ∃ x, x = gd lb (nb - 1) := ⟨_, rfl⟩
  rw [← hx] at hx0 hbl hxl
  obtain ⟨s, hs⟩ : ∃ s, s = 32 - blen x := ⟨_, rfl⟩
  obtain ⟨hVB, hVlo, hs32⟩ := norm_top (show Bv ≠ 0 by omega) hbl hx0 hxl (by omega) hs
  have hlz : ∀ wx : World, Calls Tryz.prog 118 #[.int .u32 x] wx (RetS wx (.int .i64 (s : Nat))) := fun wx => by
    have h := Tryz.bits_LeadingZeros32 x wx (by omega) (by omega)
    rw [Int.toNat_natCast, bitLen_eq x hxl] at h
    have h32 : blen x ≤ 32 := blen_le hxl
    rw [show (32 - (blen x : Int)) = (s : Int) by omega] at h
    exact h.mono fun _ _ ⟨h1, h2⟩ => ⟨h1, h2.symm⟩
  have HA := Lib.hid hA; have HBV := Lib.hid hBv; have HLA := Lib.hid hla1; have HLB := Lib.hid hlb1; have HNA := Lib.hid hna; have HNB := Lib.hid hnb; have HX := Lib.hid hx; have HLZ := Lib.hid hlz
  have HVB := Lib.hid hVB; have HVLO := Lib.hid hVlo; have HAL := Lib.hid hAl
  clear hA hBv hla1 hlb1 hna hnb hx hs hlz hVB hVlo hub hbl hx0 hAl
  go_enter Tryz.func82, Tryz.ntmps82
  go_wp2_with fail
  (with_reducible refine (trim_any _ _ _ ha (by omega)).mono ?_); rintro e w1 ⟨v1, l1, rfl, hb1, hn1, hl1'⟩
  go_wp2_with fail
  (with_reducible refine (trim_any _ _ _ (hb.below hb1) (by omega)).mono ?_); rintro e w2 ⟨v2, l2, rfl, hb2, hn2, hl2'⟩
  have hn1 := hn1.below hb2
  have hb12 := hb1.trans (hb2.mono hb1.size)
  rw [← HA.out, ← HLA.out] at hl1'
  rw [← HBV.out, ← HLB.out] at hl2'
  rw [hl1'] at hn1
  rw [hl2'] at hn2
  clear hl1' hl2'
  have hc := cmp_any _ _ _ _ _ hn1 hn2 (by rw [← HNA.out]; omega) (by rw [← HNB.out]; omega)
  rw [HLA.out, HLB.out, val_wd, val_wd] at hc
  obtain ⟨r, hr⟩ : ∃ r, r = cmpN A Bv := ⟨_, rfl⟩
  rw [← hr] at hc hcn
  obtain ⟨ao, ca, rfl, hca, hca2, _⟩ := hn1.shape
  obtain ⟨bo, cb, rfl, hcb, hcb2, _⟩ := hn2.shape
  rw [← HNA.out] at hn1 hca ⊢
  rw [← HNB.out] at hn2 hcb ⊢
  rw [← HNA.out, ← HNB.out] at hc
  have HC := Lib.hid hc; have HN1 := Lib.hid hn1; have HN2 := Lib.hid hn2
  clear hc hn1 hn2 hb1 hb2 ha hb hr
  go_wp2_with fail
  (with_reducible refine HC.out.mono ?_); rintro e w3 ⟨rfl, hb3⟩
  have hb13 := hb12.trans (hb3.mono hb12.size)
  have hn2' := HN2.out.below hb3
  obtain ⟨bb, ob, rfl, _, hcell⟩ := hn2'.at (by omega)
  have hc0 := hcell (nb - 1) (by omega)
  rw [← HX.out] at hc0
  have hv := left_any _ lb s w3 hn2' (by rw [← HNB.out]; omega) hs32
  have HVC := Lib.hid hv; have HN1 := Lib.hid (HN1.out.below hb3)
  clear hcell hn2' hv hb3 hb12
  go_wp2_with fail
  (with_reducible refine (HLZ.out _).mono ?_); rintro e w' ⟨rfl, rfl⟩
  go_wp2_with fail
  (with_reducible refine HVC.out.mono ?_); rintro e w4 ⟨vv, lv0, rfl, hb4, hO4, hlen4, hval4⟩
  rw [← HNB.out] at hlen4
  rw [HLB.out, val_wd] at hval4
  obtain ⟨gv, cv, rfl, hgv⟩ := hO4.head (by rw [hlen4]; omega)
  rw [hlen4] at hO4 ⊢
  have hgv4 := hO4.block
  obtain ⟨hcv1, hcv2⟩ := hO4.num.cap
  have hu := left_any _ la s w4 (HN1.out.below hb4) (by rw [← HNA.out]; omega) hs32
  have hszb : w.heap.size ≤ w3.heap.size := hb13.size
  have hb14 := hb13.trans (hb4.mono hb13.size)
  have HU := Lib.hid hu; have HO4 := Lib.hid hO4; have HL4 := Lib.hid hlen4; have HV4 := Lib.hid hval4
  clear hu hO4 hlen4 hval4 hb4 hb13
  go_wp2_with fail
  (with_reducible refine HU.out.mono ?_); rintro e w5 ⟨vu, lu0, rfl, hb5, hO5, hlen5, hval5⟩
  rw [← HNA.out] at hlen5
  rw [HLA.out, val_wd] at hval5
  obtain ⟨gu, cu, rfl, hgu⟩ := hO5.head (by rw [hlen5]; omega)
  rw [hlen5] at hO5 ⊢
  have hgu5 := hO5.block
  obtain ⟨hcu1, hcu2⟩ := hO5.num.cap
  have hb15 := hb14.trans (hb5.mono hb14.size)
  have hNV := (hO4n HO4.out nb (by rw [HL4.out]; omega)).below hb5
  obtain ⟨lv, hlv⟩ : ∃ lv, lv = lv0.take nb := ⟨_, rfl⟩
  rw [← hlv] at hNV
  have hlvl : lv.length = nb := by rw [hlv, List.length_take, HL4.out]; omega
  have hvv : val lv = Bv * 2 ^ s := by rw [hlv, take_all HO4.out.lt (by rw [HV4.out]; exact HVB.out), HV4.out]
  have hO4' := HO4.out.below hb5
  have hcv1' := hO4'.cell HL4.out (nb - 1) (by omega)
  have hcv2' := hO4'.cell HL4.out (nb - 2) (by omega)
  have hg1 : gd lv0 (nb - 1) = gd lv (nb - 1) := by rw [hlv, gd_take, if_pos (by omega)]
  have hg2 : gd lv0 (nb - 2) = gd lv (nb - 2) := by rw [hlv, gd_take, if_pos (by omega)]
  rw [hg1] at hcv1'
  rw [hg2] at hcv2'
  have hVlo : 2147483648 * 4294967296 ^ (nb - 1) ≤ val lv := by rw [hvv]; exact HVLO.out
  have hd2 := div_two hNV.lt hlvl hnb2 hVlo
  have htl := hNV.lt (nb - 1)
  have hnl := hNV.lt (nb - 2)
  obtain ⟨top, htop⟩ : ∃ top, top = gd lv (nb - 1) := ⟨_, rfl⟩
  obtain ⟨next, hnext⟩ : ∃ next, next = gd lv (nb - 2) := ⟨_, rfl⟩
  rw [← htop] at hcv1' htl hd2
  rw [← hnext] at hcv2' hnl hd2
  have ht31 := hd2.1
  have hfr := first_round (k := na + 1 - nb) hO5.lt HAL.out hval5 hs32 (by omega) (by omega) hVlo
  obtain ⟨mq, hnq⟩ : ∃ mq, mq = na + 1 - nb := ⟨_, rfl⟩
  rw [← hnq] at hfr
  have hnqb : mq ≤ 70368744177664 := by omega
  have hmq : mq + nb = na + 1 := by omega
  have hguv : gv ≠ gu := by omega
  have hguw : w.heap.size ≤ gu := by have := hb14.size; omega
  have HO5 := Lib.hid (hO5.base hb14.size); have HL5 := Lib.hid hlen5; have HV5 := Lib.hid hval5; have HNV := Lib.hid hNV; have HLVL := Lib.hid hlvl; have HVV := Lib.hid hvv; have HTOP := Lib.hid htop; have HNEXT := Lib.hid hnext; have HFR := Lib.hid hfr; have HNQ := Lib.hid hnq; have HNE := Lib.hid hguv; have HVLO := Lib.hid hVlo
  have hni : (na : Int) + 1 - (nb : Int) = (mq : Int) := by omega
  have HNI := Lib.hid hni; have HMQ := Lib.hid hmq
  have HB15 := Lib.hid hb15
  clear hO5 hlen5 hval5 hNV hlvl hvv htop hnext hfr hguv hVlo hlv hO4' hg1 hg2 hd2 hb5 hb14 hb15 hni hnq hmq
  go_wp2_with fail
  go_quiet (fail)
  have hq1 : (w5.drewN nq).heap.size = w5.heap.size := rfl
  have HNV := Lib.hid (HNV.out.below (below_drewN (Below.refl _ _) nq))
  have HO5 := Lib.hid (HO5.out.below (below_drewN (Below.refl _ _) nq))
  have hb16 := below_drewN HB15.out nq
  obtain ⟨w6, hw6⟩ : ∃ w6, w6 = w5.drewN nq := ⟨_, rfl⟩
  rw [← hw6] at HNV HO5 hb16 hq1 ⊢
  have HB16 := Lib.hid hb16
  have hgu6 : gu < w6.heap.size := by rw [hq1]; exact hgu5.2
  have hmqi : mq + nb ≤ na + 1 ∧ na + 1 ≤ mq + nb := by have := HMQ.out; omega
  clear hw6 hq1 hb16 hcv1' hcv2'
  go_wp2_with (at_make; refine wpList_makeN Tryz.wordsTy rfl _ _ rfl _ _ _ _ mq rfl rfl ?c1 ?c2 hnqb ?_)
  case c1 => exact HNI.out
  case c2 => exact HNI.out
  intro w7 hO7 hB7 hsz7
  have hszw6 := HB16.out.size
  have hO7 := hO7.base hszw6
  have HB17 := Lib.hid (HB16.out.trans (hB7.mono hszw6))
  obtain ⟨gq, hgq⟩ : ∃ gq, gq = w6.heap.size := ⟨_, rfl⟩
  rw [← hgq] at hO7 hsz7 hgu6 hszw6 ⊢
  have hqu : gq ≠ gu := by omega
  have hqv : gv ≠ gq := by omega
  have HQU := Lib.hid hqu; have HQV := Lib.hid hqv
  have HNV := Lib.hid (HNV.out.below hB7)
  have HO5 := Lib.hid (HO5.out.below hB7)
  have hval0 : val lu0 + val lv * val (List.replicate mq 0) = A * 2 ^ s := by rw [val_zeros, Nat.mul_zero, Nat.add_zero]; exact HV5.out
  have HVAL0 := Lib.hid hval0; have HO7 := Lib.hid hO7; have HGQ := Lib.hid hgq
  clear hqu hqv hval0 hO7 hB7 hgq
  go_wp2_with fail
  rw [HNI.out]
  go_loopw [14] (fun jv wr => ∃ (k : Nat) (lu lq : List Nat), k ≤ mq ∧ jv = .int .i64 ((k : Int) - 1) ∧ OwnW 75 wr w.heap.size (.slice (some ⟨gu, 0, none⟩) (na + 1) cu) lu ∧ Hid (lu.length = na + 1) ∧
      OwnW 75 wr w.heap.size (.slice (some ⟨gq, 0, none⟩) mq mq) lq ∧ Hid (lq.length = mq) ∧ Hid (Num wr (.slice (some ⟨gv, 0, none⟩) nb cv) lv) ∧ Below w.heap.size w wr ∧
      Hid (val lu + val lv * val lq = A * 2 ^ s) ∧ Hid (∀ i, i < k → gd lq i = 0) ∧ Hid (val (lu.drop k) < val lv)) (fun jv _ => (intOf jv + 1).toNat)
  case atStart => exact ⟨mq, lu0, List.replicate mq 0, Nat.le_refl _, rfl, HO5.out, HL5, HO7.out, Lib.hid (by simp), HNV, HB17.out, HVAL0, Lib.hid (fun i _ => by rw [gd_replicate]; split <;> rfl), HFR⟩
  case round =>
    obtain ⟨k, lu, lq, hk, rfl, hOu, hlu, hOq, hlq, hNv, hBr, hinv, hzq, hdr⟩ := hrel
    obtain ⟨wo, rfl⟩ : ∃ wo : World, wo = wr := ⟨_, rfl⟩
    by_cases hk0 : k = 0
    · subst hk0
      have hi0 := hinv.out
      have hd0 := hdr.out
      rw [List.drop_zero] at hd0
      rw [HVV.out] at hi0 hd0
      obtain ⟨e1, e2⟩ := div_scaled (Nat.two_pow_pos s) hi0 hd0
      have htr := trim_any _ _ _ hOq.num (by rw [hlq.out]; omega)
      rw [e1] at htr
      have HTR := Lib.hid htr; have E2 := Lib.hid e2; have HOU := Lib.hid hOu
      clear htr e1 e2 hi0 hd0 hOq hOu
      have hlu' := hlu.out
      have hlq' : lq.length ≤ 800001 := by rw [hlq.out]; omega
      go_wp2_with fail
      (with_reducible refine HTR.out.mono ?_); rintro e wa ⟨va1, la1, rfl, hba, hna1, hla1⟩
      have hrt := right_any _ lu s wa (HOU.out.num.below hba) (by rw [hlu.out]; omega) hs32
      rw [hlu.out] at hrt
      have HRT := Lib.hid hrt; have HLA1 := Lib.hid hla1; have HNA1 := Lib.hid hna1
      clear hrt hla1 hna1
      go_wp2_with fail
      (with_reducible refine HRT.out.mono ?_); rintro e wb ⟨vb1, lb1, rfl, hbb, hob, hlb1, hvb1⟩
      have htr := trim_any _ _ _ hob.num (by rw [hlb1]; omega)
      rw [hvb1, E2.out] at htr
      have HTR := Lib.hid htr
      clear htr hlb1 hvb1
      go_wp2_with fail
      (with_reducible refine HTR.out.mono ?_); rintro e wc ⟨vc1, lc1, rfl, hbc, hnc, hlc⟩
      go_wp2_with fail
      go_ret3
      have h1 := hBr.trans (hba.mono hBr.size)
      have h2 := h1.trans (hbb.mono h1.size)
      have h3 := h2.trans (hbc.mono h2.size)
      exact ⟨_, _, rfl, h3, by rw [← HLA1.out]; exact (HNA1.out.below hbb).below hbc, by rw [← hlc]; exact hnc⟩
    · obtain ⟨j, rfl⟩ : ∃ j, k = j + 1 := ⟨k - 1, by omega⟩
      have hj1 : ((j + 1 : Nat) : Int) - 1 = (j : Int) := by omega
      rw [hj1]
      clear hj1
      have hvB : val lv < 4294967296 ^ nb := by rw [HVV.out]; exact HVB.out
      have hv0 : 0 < val lv := Nat.lt_of_lt_of_le (Nat.mul_pos (by decide) (Nat.pow_pos (by decide))) HVLO.out
      obtain ⟨k1, k2, k3⟩ := round_head (j := j) hOu.lt hvB hdr.out
      obtain ⟨t1, t2, t3⟩ := div_round (j := j) hOu.lt HNV.out.lt HLVL.out hnb2 HVLO.out k2
      have hc1 := hOu.cell hlu.out (j + nb) (by omega)
      have hc2 := hOu.cell hlu.out (j + nb - 1) (by omega)
      have hc3 := hOu.cell hlu.out (j + nb - 2) (by omega)
      have hu1l := hOu.lt (j + nb)
      have hu0l := hOu.lt (j + nb - 1)
      have hu2l := hOu.lt (j + nb - 2)
      obtain ⟨u1, hu1⟩ : ∃ u1, u1 = gd lu (j + nb) := ⟨_, rfl⟩
      obtain ⟨u0, hu0⟩ : ∃ u0, u0 = gd lu (j + nb - 1) := ⟨_, rfl⟩
      obtain ⟨u2, hu2⟩ : ∃ u2, u2 = gd lu (j + nb - 2) := ⟨_, rfl⟩
      rw [← hu1] at hc1 hu1l t1 t2 t3
      rw [← hu0] at hc2 hu0l t2 t3
      rw [← hu2] at hc3 hu2l t2 t3
      rw [← HTOP.out] at t1 t2 t3
      rw [← HNEXT.out] at t2 t3
      have hor := or_words' u0 u1 hu0l hu1l
      have hhb : u1 * 4294967296 + u0 ≤ top * 4294967296 + 4294967295 := by omega
      have hgl := guess_le (u0 := u0) ht31 t1 hu0l
      have hf1 := fit_first (top := top) (next := next) (head := u1 * 4294967296 + u0) (low := u2) (by omega) hu2l
      obtain ⟨hd, hhd⟩ : ∃ hd, hd = u1 * 4294967296 + u0 := ⟨_, rfl⟩
      rw [← hhd] at hor hhb hgl hf1 t2 t3
      have hhd64 : hd < 18446744073709551616 := by omega
      obtain ⟨g0, hg0⟩ : ∃ g0, g0 = hd / top := ⟨_, rfl⟩
      obtain ⟨r0, hr0⟩ : ∃ r0, r0 = hd % top := ⟨_, rfl⟩
      have hg0i : (hd : Int) / (top : Int) = (g0 : Int) := by rw [hg0]; simp
      have hr0i : (hd : Int) % (top : Int) = (r0 : Int) := by rw [hr0]; simp
      have hr0l : r0 < top := by rw [hr0]; exact Nat.mod_lt _ (by omega)
      have hsum : g0 * top + r0 = hd := by rw [hg0, hr0, Nat.mul_comm]; exact Nat.div_add_mod hd top
      rw [← hg0] at hgl hf1
      have HK1 := Lib.hid k1; have HK2 := Lib.hid k2; have HK3 := Lib.hid k3; have HT2 := Lib.hid t2; have HT3 := Lib.hid t3; have HF1 := Lib.hid hf1; have HSUM := Lib.hid hsum; have HOU := Lib.hid hOu; have HOQ := Lib.hid hOq; have HHB := Lib.hid hhb
      have HvB := Lib.hid hvB; have Hv0 := Lib.hid hv0; have HBO := Lib.hid hBr; have HHD := Lib.hid hhd
      have HG0I := Lib.hid hg0i; have HR0I := Lib.hid hr0i
      clear k1 k2 k3 t1 t2 t3 hf1 hsum hOu hOq hhb hvB hv0 hu1 hu0 hu2 hhd hg0 hr0 hBr hg0i hr0i
      go_wp2_with fail
      obtain ⟨F, hF⟩ : ∃ F, F = fit (hd * 4294967296 + u2) (top * 4294967296 + next) := ⟨_, rfl⟩
      rw [← hF] at HF1 HT2 HT3
      have hFB : F < 4294967296 := by rw [hF]; exact Nat.lt_of_le_of_lt (Nat.min_le_left _ _) (by decide)
      have HF := Lib.hid hF
      clear hF
      go_quiet (fail)
      go_wp2_with fail
      have hby := below_drewN (Below.refl wo.heap.size wo) nq
      obtain ⟨wy, hwy⟩ : ∃ wy, wy = wo.drewN nq := ⟨_, rfl⟩
      rw [← hwy] at hby ⊢
      have HBY := Lib.hid hby
      clear hwy hby
      have hg0i := HG0I.out
      go_quiet (fail)
      clear hg0i
      have hbz := below_drewN HBY.out nq
      obtain ⟨wz, hwz⟩ : ∃ wz, wz = wy.drewN nq := ⟨_, rfl⟩
      rw [← hwz] at hbz ⊢
      have HOZ := Lib.hid (HOU.out.below hbz)
      have HQZ := Lib.hid (HOQ.out.below hbz)
      have HNZ := Lib.hid (hNv.out.below hbz)
      have HBZ := Lib.hid (HBO.out.trans (hbz.mono HBO.out.size))
      have hc3' : wz.cell? ⟨gu, j + nb - 2, none⟩ = some (.int .u32 (u2 : Nat)) := by rw [hbz.cell (p := ⟨gu, j + nb - 2, none⟩) HOU.out.block.2]; exact hc3
      clear hwz hbz hc1 hc2 hc3
      go_wp2_with fail
      go_loop [16, 17] (fun gx rx => ∃ g r : Nat, gx = .int .u64 g ∧ rx = .int .u64 r ∧ r < 4294967296 ∧ g ≤ 4294967297 ∧ Hid (g * top + r = hd) ∧ Hid (F ≤ g)) (fun gx _ => (intOf gx).toNat)
      case atStart => exact ⟨g0, r0, rfl, by rw [HR0I.out], by omega, hgl, HSUM, HF1⟩
      case round =>
        obtain ⟨g, r1, rfl, rfl, hrl, hgl1, hgs, hgF⟩ := hrel
        have hct := hgF.out
        have htest := fit_test (next := next) (low := u2) (show 0 < top by omega) hgs.out
        rw [← HF.out] at htest
        by_cases hFg : F < g
        · have hg1 : 1 ≤ g := by omega
          have hgd := guess_down hgs.out (by omega)
          obtain ⟨gf, hgf⟩ : ∃ gf, gf = g - 1 := ⟨_, rfl⟩
          obtain ⟨rf, hrf⟩ : ∃ rf, rf = r1 + top := ⟨_, rfl⟩
          rw [← hgf, ← hrf] at hgd
          have hgfi : (g : Int) - 1 = (gf : Int) := by omega
          have hrfi : (r1 : Int) + (top : Int) = (rf : Int) := by omega
          have hrf64 : rf < 8589934592 := by omega
          have hFg' : F ≤ gf := by omega
          have hgf2 : gf ≤ 4294967297 := by omega
          have hgm : gf < g := by omega
          have hgrest : 4294967296 ≤ rf → gf = F := by
            intro hrr
            have hgfB : gf < 4294967296 := by
              rcases Nat.lt_or_ge gf 4294967296 with h | h
              · exact h
              · exfalso
                have : 4294967296 * top ≤ gf * top := Nat.mul_le_mul_right _ h
                have := HHB.out
                omega
            have := fit_rest (low := u2) (show 0 < top by omega) hgd hnl hgfB hrr
            rw [← HF.out] at this
            omega
          have hor2 := or_words' u2 r1 hu2l hrl
          have hRl : r1 * 4294967296 + u2 < 18446744073709551616 := by omega
          obtain ⟨R, hR⟩ : ∃ R, R = r1 * 4294967296 + u2 := ⟨_, rfl⟩
          rw [← hR] at hor2 htest hRl
          have HGREST := Lib.hid hgrest; have HGD := Lib.hid hgd
          have htest := htest.2 hFg
          obtain ⟨p, hp⟩ : ∃ p, p = g * next := ⟨_, rfl⟩
          have hpi : (g : Int) * (next : Int) = (p : Int) := by rw [hp]; rfl
          have hpl : g < 4294967296 → p < 18446744073709551616 := fun h => by have := word_mul h hnl; rw [hp]; omega
          rw [← hp] at htest
          clear hgrest hgd hgf hrf hR hp hct
          by_cases hrr : 4294967296 ≤ rf
          · have hgF := Lib.hid (HGREST.out hrr)
            have hrri : decide ((4294967296 : Int) ≤ (rf : Int)) = true := by simp; omega
            have HTEST := Lib.hid htest; clear htest
            by_cases hgB : 4294967296 ≤ g
            · clear hpl
              have hgBi : decide ((4294967296 : Int) ≤ (g : Int)) = true := by simp; omega
              have HGF := hgF
              go_wp2_with fail
              clear hgfi hrfi hor2 hpi hg1 hrr hgB hrri hgBi
              rw [show j + nb + 1 - j = nb + 1 from by omega]
              have hgB' : gf < 4294967296 := by rw [HGF.out]; exact hFB
              have hT : gf * val lv < 4294967296 ^ (nb + 1) := by
                rw [Nat.pow_succ, Nat.mul_comm _ 4294967296]
                exact Nat.mul_lt_mul_of_lt_of_le hgB' (Nat.le_of_lt HvB.out) (Nat.lt_of_lt_of_le Hv0.out (Nat.le_of_lt HvB.out))
              have HT2' := HT2.out
              have HT3' := HT3.out
              rw [← HGF.out] at HT2' HT3'
              have HT2 := Lib.hid HT2'; have HT3 := Lib.hid HT3'
              clear HT2' HT3'
              (with_reducible refine (take_any gu j (nb + 1) (cu - j) (na + 1) cu gv nb cv gf w.heap.size lu lv wz HOZ.out hlu.out (by omega) (by omega) (by omega) (by omega) HNZ.out HNE.out hgB' (by rw [HLVL.out]; exact Nat.le_succ nb) hT).mono ?_)
              rintro e wt ⟨lt, rb, rfl, hrb, hOt, hlt, hgt, hst, hwt⟩
              have hQt := HQZ.out.keptBy hgt HQU.out
              have hBt := HBZ.out.grown hgt HBZ.out.size (fun k hk => by cases hk; exact hguw)
              have hNt := HNZ.out.keptBy hgt HNE.out
              have hwl := winv_lt hOt.lt j (nb + 1)
              clear hT
              by_cases hr1 : rb = 1
              · subst hr1
                rw [Nat.mul_one] at hwt
                have hg1 : 1 ≤ gf := by
                  rcases Nat.eq_zero_or_pos gf with h0 | h0
                  · exfalso
                    rw [h0, Nat.zero_mul, Nat.add_zero] at hwt
                    omega
                  · exact h0
                have hgv := give_any gu j (nb + 1) (cu - j) (na + 1) cu gv nb cv w.heap.size lt lv wt hOt hlt (by omega) (by omega) (by omega) (by omega) hNt HNE.out (by rw [HLVL.out]; exact Nat.le_succ nb)
                obtain ⟨gm, hgm⟩ : ∃ gm, gm = gf - 1 := ⟨_, rfl⟩
                have hgmi : (gf : Int) - 1 = (gm : Int) := by omega
                have hQB := Lib.hid (show gm < 4294967296 by omega)
                have hgmb : gm < 4294967296 := by omega
                have HGV := Lib.hid hgv; have HWT := Lib.hid hwt; have HWL := Lib.hid hwl; have HST := Lib.hid hst; have HQT := Lib.hid hQt; have HBT := Lib.hid hBt; have HNT := Lib.hid hNt; have HGM := Lib.hid hgm
                clear hgv hwt hwl hst hQt hBt hNt hOt hlt hgt hgm
                go_wp2_with fail
                rw [show j + nb + 1 - j = nb + 1 from by omega]
                (with_reducible refine HGV.out.mono ?_); rintro e wg ⟨lg, rg, rfl, hOg, hlg, hgg, hsg, hwg⟩
                obtain ⟨e1, e2, _⟩ := round_over Hv0.out (Nat.lt_trans HvB.out (Nat.pow_lt_pow_right (by decide) (Nat.lt_succ_self nb))) HT3.out HWT.out HWL.out hwg (winv_lt hOg.lt j (nb + 1))
                have hsame : ∀ i, i < j ∨ j + (nb + 1) ≤ i → gd lg i = gd lu i := fun i hi => (hsg i hi).trans (HST.out i hi)
                rw [← HGM.out] at e1
                have HQX := Lib.hid (HQT.out.keptBy hgg HQU.out)
                have HBX := Lib.hid (HBT.out.grown hgg HBT.out.size (fun k hk => by cases hk; exact hguw))
                have HNX := Lib.hid (HNT.out.keptBy hgg HNE.out)
                have HOX := Lib.hid hOg; have HLX := Lib.hid hlg; have HWX := Lib.hid e2; have HQD := Lib.hid e1; have HSX := Lib.hid hsame
                clear e1 e2 hsame hOg hlg hgg hsg hwg
                have hOqx := HQX.out.cell hlq.out j (by omega)
                have hfqx := HQX.out.frozen hlq.out j
                have hqmod : (gm : Int) % 4294967296 = (gm : Int) := by omega
                have hgrq := HQX.out.grown hlq.out j gm
                have HGRQ := Lib.hid hgrq
                clear hgrq
                go_wp2_with fail
                go_roundw
                case rel =>
                  have h1 := HQX.out.stored hlq.out j gm hQB.out
                  obtain ⟨e1, e2, e3⟩ := round_inv (lq := lq) (qd := gm) rfl HWX.out HQD.out HK3.out HSX.out (by rw [hlq.out]; omega) (hzq.out j (by omega)) hinv.out
                  refine ⟨j, lg, lq.set j gm, by omega, rfl, HOX.out.keptBy HGRQ.out HQU.out.symm, HLX, h1, Lib.hid (by rw [List.length_set]; exact hlq.out), Lib.hid (HNX.out.keptBy HGRQ.out HQV.out), HBX.out.setCell hszw6 _, Lib.hid e1, Lib.hid ?_, Lib.hid ?_⟩
                  · intro i hi
                    rw [gd_set, if_neg (by omega)]; exact hzq.out i (by omega)
                  · rw [e3]; exact Nat.mod_lt _ Hv0.out
                case measure => simp [intOf]
              · obtain rfl : rb = 0 := by omega
                rw [Nat.mul_zero, Nat.add_zero] at hwt
                obtain ⟨e1, e2⟩ := round_right Hv0.out HT2.out hwt
                have hQB := Lib.hid hgB'
                have HQX := Lib.hid hQt; have HBX := Lib.hid hBt; have HNX := Lib.hid hNt; have HOX := Lib.hid hOt; have HLX := Lib.hid hlt; have HWX := Lib.hid e2; have HQD := Lib.hid e1; have HSX := Lib.hid hst
                clear e1 e2 hQt hBt hNt hOt hlt hst hwt hwl hgt hr1
                have hOqx := HQX.out.cell hlq.out j (by omega)
                have hfqx := HQX.out.frozen hlq.out j
                have hqmod : (gf : Int) % 4294967296 = (gf : Int) := by omega
                have hgrq := HQX.out.grown hlq.out j gf
                have HGRQ := Lib.hid hgrq
                clear hgrq
                go_wp2_with fail
                go_roundw
                case rel =>
                  have h1 := HQX.out.stored hlq.out j gf hQB.out
                  obtain ⟨e1, e2, e3⟩ := round_inv (lq := lq) (qd := gf) rfl HWX.out HQD.out HK3.out HSX.out (by rw [hlq.out]; omega) (hzq.out j (by omega)) hinv.out
                  refine ⟨j, lt, lq.set j gf, by omega, rfl, HOX.out.keptBy HGRQ.out HQU.out.symm, HLX, h1, Lib.hid (by rw [List.length_set]; exact hlq.out), Lib.hid (HNX.out.keptBy HGRQ.out HQV.out), HBX.out.setCell hszw6 _, Lib.hid e1, Lib.hid ?_, Lib.hid ?_⟩
                  · intro i hi
                    rw [gd_set, if_neg (by omega)]; exact hzq.out i (by omega)
                  · rw [e3]; exact Nat.mod_lt _ Hv0.out
                case measure => simp [intOf]
            · have hpl := hpl (by omega)
              have hpR : R < p := by have := HTEST.out; omega
              have hgBi : decide ((4294967296 : Int) ≤ (g : Int)) = false := by simp; omega
              have hpRi : decide (R < p) = true := by simp; omega
              have HGF := hgF
              go_wp2_with fail
              clear hgfi hrfi hor2 hpi hg1 hrr hgB hrri hgBi hpR hpRi hpl
              rw [show j + nb + 1 - j = nb + 1 from by omega]
              have hgB' : gf < 4294967296 := by rw [HGF.out]; exact hFB
              have hT : gf * val lv < 4294967296 ^ (nb + 1) := by
                rw [Nat.pow_succ, Nat.mul_comm _ 4294967296]
                exact Nat.mul_lt_mul_of_lt_of_le hgB' (Nat.le_of_lt HvB.out) (Nat.lt_of_lt_of_le Hv0.out (Nat.le_of_lt HvB.out))
              have HT2' := HT2.out
              have HT3' := HT3.out
              rw [← HGF.out] at HT2' HT3'
              have HT2 := Lib.hid HT2'; have HT3 := Lib.hid HT3'
              clear HT2' HT3'
              (with_reducible refine (take_any gu j (nb + 1) (cu - j) (na + 1) cu gv nb cv gf w.heap.size lu lv wz HOZ.out hlu.out (by omega) (by omega) (by omega) (by omega) HNZ.out HNE.out hgB' (by rw [HLVL.out]; exact Nat.le_succ nb) hT).mono ?_)
              rintro e wt ⟨lt, rb, rfl, hrb, hOt, hlt, hgt, hst, hwt⟩
              have hQt := HQZ.out.keptBy hgt HQU.out
              have hBt := HBZ.out.grown hgt HBZ.out.size (fun k hk => by cases hk; exact hguw)
              have hNt := HNZ.out.keptBy hgt HNE.out
              have hwl := winv_lt hOt.lt j (nb + 1)
              clear hT
              by_cases hr1 : rb = 1
              · subst hr1
                rw [Nat.mul_one] at hwt
                have hg1 : 1 ≤ gf := by
                  rcases Nat.eq_zero_or_pos gf with h0 | h0
                  · exfalso
                    rw [h0, Nat.zero_mul, Nat.add_zero] at hwt
                    omega
                  · exact h0
                have hgv := give_any gu j (nb + 1) (cu - j) (na + 1) cu gv nb cv w.heap.size lt lv wt hOt hlt (by omega) (by omega) (by omega) (by omega) hNt HNE.out (by rw [HLVL.out]; exact Nat.le_succ nb)
                obtain ⟨gm, hgm⟩ : ∃ gm, gm = gf - 1 := ⟨_, rfl⟩
                have hgmi : (gf : Int) - 1 = (gm : Int) := by omega
                have hQB := Lib.hid (show gm < 4294967296 by omega)
                have hgmb : gm < 4294967296 := by omega
                have HGV := Lib.hid hgv; have HWT := Lib.hid hwt; have HWL := Lib.hid hwl; have HST := Lib.hid hst; have HQT := Lib.hid hQt; have HBT := Lib.hid hBt; have HNT := Lib.hid hNt; have HGM := Lib.hid hgm
                clear hgv hwt hwl hst hQt hBt hNt hOt hlt hgt hgm
                go_wp2_with fail
                rw [show j + nb + 1 - j = nb + 1 from by omega]
                (with_reducible refine HGV.out.mono ?_); rintro e wg ⟨lg, rg, rfl, hOg, hlg, hgg, hsg, hwg⟩
                obtain ⟨e1, e2, _⟩ := round_over Hv0.out (Nat.lt_trans HvB.out (Nat.pow_lt_pow_right (by decide) (Nat.lt_succ_self nb))) HT3.out HWT.out HWL.out hwg (winv_lt hOg.lt j (nb + 1))
                have hsame : ∀ i, i < j ∨ j + (nb + 1) ≤ i → gd lg i = gd lu i := fun i hi => (hsg i hi).trans (HST.out i hi)
                rw [← HGM.out] at e1
                have HQX := Lib.hid (HQT.out.keptBy hgg HQU.out)
                have HBX := Lib.hid (HBT.out.grown hgg HBT.out.size (fun k hk => by cases hk; exact hguw))
                have HNX := Lib.hid (HNT.out.keptBy hgg HNE.out)
                have HOX := Lib.hid hOg; have HLX := Lib.hid hlg; have HWX := Lib.hid e2; have HQD := Lib.hid e1; have HSX := Lib.hid hsame
                clear e1 e2 hsame hOg hlg hgg hsg hwg
                have hOqx := HQX.out.cell hlq.out j (by omega)
                have hfqx := HQX.out.frozen hlq.out j
                have hqmod : (gm : Int) % 4294967296 = (gm : Int) := by omega
                have hgrq := HQX.out.grown hlq.out j gm
                have HGRQ := Lib.hid hgrq
                clear hgrq
                go_wp2_with fail
                go_roundw
                case rel =>
                  have h1 := HQX.out.stored hlq.out j gm hQB.out
                  obtain ⟨e1, e2, e3⟩ := round_inv (lq := lq) (qd := gm) rfl HWX.out HQD.out HK3.out HSX.out (by rw [hlq.out]; omega) (hzq.out j (by omega)) hinv.out
                  refine ⟨j, lg, lq.set j gm, by omega, rfl, HOX.out.keptBy HGRQ.out HQU.out.symm, HLX, h1, Lib.hid (by rw [List.length_set]; exact hlq.out), Lib.hid (HNX.out.keptBy HGRQ.out HQV.out), HBX.out.setCell hszw6 _, Lib.hid e1, Lib.hid ?_, Lib.hid ?_⟩
                  · intro i hi
                    rw [gd_set, if_neg (by omega)]; exact hzq.out i (by omega)
                  · rw [e3]; exact Nat.mod_lt _ Hv0.out
                case measure => simp [intOf]
              · obtain rfl : rb = 0 := by omega
                rw [Nat.mul_zero, Nat.add_zero] at hwt
                obtain ⟨e1, e2⟩ := round_right Hv0.out HT2.out hwt
                have hQB := Lib.hid hgB'
                have HQX := Lib.hid hQt; have HBX := Lib.hid hBt; have HNX := Lib.hid hNt; have HOX := Lib.hid hOt; have HLX := Lib.hid hlt; have HWX := Lib.hid e2; have HQD := Lib.hid e1; have HSX := Lib.hid hst
                clear e1 e2 hQt hBt hNt hOt hlt hst hwt hwl hgt hr1
                have hOqx := HQX.out.cell hlq.out j (by omega)
                have hfqx := HQX.out.frozen hlq.out j
                have hqmod : (gf : Int) % 4294967296 = (gf : Int) := by omega
                have hgrq := HQX.out.grown hlq.out j gf
                have HGRQ := Lib.hid hgrq
                clear hgrq
                go_wp2_with fail
                go_roundw
                case rel =>
                  have h1 := HQX.out.stored hlq.out j gf hQB.out
                  obtain ⟨e1, e2, e3⟩ := round_inv (lq := lq) (qd := gf) rfl HWX.out HQD.out HK3.out HSX.out (by rw [hlq.out]; omega) (hzq.out j (by omega)) hinv.out
                  refine ⟨j, lt, lq.set j gf, by omega, rfl, HOX.out.keptBy HGRQ.out HQU.out.symm, HLX, h1, Lib.hid (by rw [List.length_set]; exact hlq.out), Lib.hid (HNX.out.keptBy HGRQ.out HQV.out), HBX.out.setCell hszw6 _, Lib.hid e1, Lib.hid ?_, Lib.hid ?_⟩
                  · intro i hi
                    rw [gd_set, if_neg (by omega)]; exact hzq.out i (by omega)
                  · rw [e3]; exact Nat.mod_lt _ Hv0.out
                case measure => simp [intOf]
          · have hrri : decide ((4294967296 : Int) ≤ (rf : Int)) = false := by simp; omega
            have HTEST := Lib.hid htest; clear htest
            by_cases hgB : 4294967296 ≤ g
            · clear hpl
              have hgBi : decide ((4294967296 : Int) ≤ (g : Int)) = true := by simp; omega
              go_wp2_with fail
              go_round
              case rel => exact ⟨gf, rf, rfl, rfl, by omega, hgf2, HGD, Lib.hid hFg'⟩
              case measure => simp [intOf]; omega
            · have hpl := hpl (by omega)
              have hpR : R < p := by have := HTEST.out; omega
              have hgBi : decide ((4294967296 : Int) ≤ (g : Int)) = false := by simp; omega
              have hpRi : decide (R < p) = true := by simp; omega
              go_wp2_with fail
              go_round
              case rel => exact ⟨gf, rf, rfl, rfl, by omega, hgf2, HGD, Lib.hid hFg'⟩
              case measure => simp [intOf]; omega
        · have hgFe : g = F := by omega
          have HGF := Lib.hid hgFe
          have hneg : ¬(4294967296 ≤ g ∨ r1 * 4294967296 + u2 < g * next) := fun h => hFg (htest.1 h)
          have hgB : g < 4294967296 := by omega
          have hor2 := or_words' u2 r1 hu2l hrl
          have hRl : r1 * 4294967296 + u2 < 18446744073709551616 := by omega
          have hpl := word_mul hgB hnl
          have hnR : ¬ r1 * 4294967296 + u2 < g * next := fun h => hneg (.inr h)
          obtain ⟨R, hR⟩ : ∃ R, R = r1 * 4294967296 + u2 := ⟨_, rfl⟩
          obtain ⟨p, hp⟩ : ∃ p, p = g * next := ⟨_, rfl⟩
          rw [← hR] at hor2 hRl hnR
          rw [← hp] at hpl hnR
          have hpi : (g : Int) * (next : Int) = (p : Int) := by rw [hp]; rfl
          have hgBi : decide ((4294967296 : Int) ≤ (g : Int)) = false := by simp; omega
          have hpRi : decide (R < p) = false := by simp; omega
          obtain ⟨gf, hgf⟩ : ∃ gf, gf = g := ⟨_, rfl⟩
          subst hgf
          clear htest hneg hR hp hgFe hct hgl1 hFg
          go_wp2_with fail
          clear hor2 hpi hgBi hpRi hnR hpl hRl
          rw [show j + nb + 1 - j = nb + 1 from by omega]
          have hgB' : gf < 4294967296 := by rw [HGF.out]; exact hFB
          have hT : gf * val lv < 4294967296 ^ (nb + 1) := by
            rw [Nat.pow_succ, Nat.mul_comm _ 4294967296]
            exact Nat.mul_lt_mul_of_lt_of_le hgB' (Nat.le_of_lt HvB.out) (Nat.lt_of_lt_of_le Hv0.out (Nat.le_of_lt HvB.out))
          have HT2' := HT2.out
          have HT3' := HT3.out
          rw [← HGF.out] at HT2' HT3'
          have HT2 := Lib.hid HT2'; have HT3 := Lib.hid HT3'
          clear HT2' HT3'
          (with_reducible refine (take_any gu j (nb + 1) (cu - j) (na + 1) cu gv nb cv gf w.heap.size lu lv wz HOZ.out hlu.out (by omega) (by omega) (by omega) (by omega) HNZ.out HNE.out hgB' (by rw [HLVL.out]; exact Nat.le_succ nb) hT).mono ?_)
          rintro e wt ⟨lt, rb, rfl, hrb, hOt, hlt, hgt, hst, hwt⟩
          have hQt := HQZ.out.keptBy hgt HQU.out
          have hBt := HBZ.out.grown hgt HBZ.out.size (fun k hk => by cases hk; exact hguw)
          have hNt := HNZ.out.keptBy hgt HNE.out
          have hwl := winv_lt hOt.lt j (nb + 1)
          clear hT
          by_cases hr1 : rb = 1
          · subst hr1
            rw [Nat.mul_one] at hwt
            have hg1 : 1 ≤ gf := by
              rcases Nat.eq_zero_or_pos gf with h0 | h0
              · exfalso
                rw [h0, Nat.zero_mul, Nat.add_zero] at hwt
                omega
              · exact h0
            have hgv := give_any gu j (nb + 1) (cu - j) (na + 1) cu gv nb cv w.heap.size lt lv wt hOt hlt (by omega) (by omega) (by omega) (by omega) hNt HNE.out (by rw [HLVL.out]; exact Nat.le_succ nb)
            obtain ⟨gm, hgm⟩ : ∃ gm, gm = gf - 1 := ⟨_, rfl⟩
            have hgmi : (gf : Int) - 1 = (gm : Int) := by omega
            have hQB := Lib.hid (show gm < 4294967296 by omega)
            have hgmb : gm < 4294967296 := by omega
            have HGV := Lib.hid hgv; have HWT := Lib.hid hwt; have HWL := Lib.hid hwl; have HST := Lib.hid hst; have HQT := Lib.hid hQt; have HBT := Lib.hid hBt; have HNT := Lib.hid hNt; have HGM := Lib.hid hgm
            clear hgv hwt hwl hst hQt hBt hNt hOt hlt hgt hgm
            go_wp2_with fail
            rw [show j + nb + 1 - j = nb + 1 from by omega]
            (with_reducible refine HGV.out.mono ?_); rintro e wg ⟨lg, rg, rfl, hOg, hlg, hgg, hsg, hwg⟩
            obtain ⟨e1, e2, _⟩ := round_over Hv0.out (Nat.lt_trans HvB.out (Nat.pow_lt_pow_right (by decide) (Nat.lt_succ_self nb))) HT3.out HWT.out HWL.out hwg (winv_lt hOg.lt j (nb + 1))
            have hsame : ∀ i, i < j ∨ j + (nb + 1) ≤ i → gd lg i = gd lu i := fun i hi => (hsg i hi).trans (HST.out i hi)
            rw [← HGM.out] at e1
            have HQX := Lib.hid (HQT.out.keptBy hgg HQU.out)
            have HBX := Lib.hid (HBT.out.grown hgg HBT.out.size (fun k hk => by cases hk; exact hguw))
            have HNX := Lib.hid (HNT.out.keptBy hgg HNE.out)
            have HOX := Lib.hid hOg; have HLX := Lib.hid hlg; have HWX := Lib.hid e2; have HQD := Lib.hid e1; have HSX := Lib.hid hsame
            clear e1 e2 hsame hOg hlg hgg hsg hwg
            have hOqx := HQX.out.cell hlq.out j (by omega)
            have hfqx := HQX.out.frozen hlq.out j
            have hqmod : (gm : Int) % 4294967296 = (gm : Int) := by omega
            have hgrq := HQX.out.grown hlq.out j gm
            have HGRQ := Lib.hid hgrq
            clear hgrq
            go_wp2_with fail
            go_roundw
            case rel =>
              have h1 := HQX.out.stored hlq.out j gm hQB.out
              obtain ⟨e1, e2, e3⟩ := round_inv (lq := lq) (qd := gm) rfl HWX.out HQD.out HK3.out HSX.out (by rw [hlq.out]; omega) (hzq.out j (by omega)) hinv.out
              refine ⟨j, lg, lq.set j gm, by omega, rfl, HOX.out.keptBy HGRQ.out HQU.out.symm, HLX, h1, Lib.hid (by rw [List.length_set]; exact hlq.out), Lib.hid (HNX.out.keptBy HGRQ.out HQV.out), HBX.out.setCell hszw6 _, Lib.hid e1, Lib.hid ?_, Lib.hid ?_⟩
              · intro i hi
                rw [gd_set, if_neg (by omega)]; exact hzq.out i (by omega)
              · rw [e3]; exact Nat.mod_lt _ Hv0.out
            case measure => simp [intOf]
          · obtain rfl : rb = 0 := by omega
            rw [Nat.mul_zero, Nat.add_zero] at hwt
            obtain ⟨e1, e2⟩ := round_right Hv0.out HT2.out hwt
            have hQB := Lib.hid hgB'
            have HQX := Lib.hid hQt; have HBX := Lib.hid hBt; have HNX := Lib.hid hNt; have HOX := Lib.hid hOt; have HLX := Lib.hid hlt; have HWX := Lib.hid e2; have HQD := Lib.hid e1; have HSX := Lib.hid hst
            clear e1 e2 hQt hBt hNt hOt hlt hst hwt hwl hgt hr1
            have hOqx := HQX.out.cell hlq.out j (by omega)
            have hfqx := HQX.out.frozen hlq.out j
            have hqmod : (gf : Int) % 4294967296 = (gf : Int) := by omega
            have hgrq := HQX.out.grown hlq.out j gf
            have HGRQ := Lib.hid hgrq
            clear hgrq
            go_wp2_with fail
            go_roundw
            case rel =>
              have h1 := HQX.out.stored hlq.out j gf hQB.out
              obtain ⟨e1, e2, e3⟩ := round_inv (lq := lq) (qd := gf) rfl HWX.out HQD.out HK3.out HSX.out (by rw [hlq.out]; omega) (hzq.out j (by omega)) hinv.out
              refine ⟨j, lt, lq.set j gf, by omega, rfl, HOX.out.keptBy HGRQ.out HQU.out.symm, HLX, h1, Lib.hid (by rw [List.length_set]; exact hlq.out), Lib.hid (HNX.out.keptBy HGRQ.out HQV.out), HBX.out.setCell hszw6 _, Lib.hid e1, Lib.hid ?_, Lib.hid ?_⟩
              · intro i hi
                rw [gd_set, if_neg (by omega)]; exact hzq.out i (by omega)
              · rw [e3]; exact Nat.mod_lt _ Hv0.out
            case measure => simp [intOf]
end Go.Proofs.YtkedjammeoaciaaGreatDoor
/-
  natural.Div for every divisor but 0, natural.Gcd: what they hand back.
  Conditions: each theorem's own.
-/
namespace Go.Proofs.YtkedjammeoaciaaGreatDoor
open Go.RowKit Go.ChangeShapes Go.WideShapes

theorem div_any (va vb : Value) (a b : List Nat) (w : World) (ha : Num w va a) (hb : Num w vb b) (hla : a.length ≤ 800000) (hlb : b.length ≤ 800000) (h0 : val b ≠ 0) :
    Calls Tryz.prog 82 #[va, vb] w (RetDiv w (val a / val b) (val a % val b) (errV 0)) := by
  by_cases h1 : val a < val b
  · exact div_less va vb a b w ha hb hla hlb h1
  · by_cases h2 : val b < 4294967296
    · exact div_small va vb a b w ha hb hla hlb (by omega) h0 h2
    · exact div_long va vb a b w ha hb hla hlb (by omega) (by omega)

/-- the words that a slice value reads as are known by the value -/
theorem Num.unique {w : World} {v : Value} {l m : List Nat} (h : Num w v l) (k : Num w v m) : l = m := by
  obtain ⟨ao, c, e, h1, h2, h3, h4, h5⟩ := h
  subst e
  obtain ⟨ao', c', e', k1, k2, k3, k4, k5⟩ := k
  simp only [Value.slice.injEq] at e'
  obtain ⟨rfl, hl, rfl⟩ := e'
  apply gd_ext hl
  intro j hj
  cases hao : ao with
  | none => have := h3 hao; omega
  | some a =>
    obtain ⟨b, off, s⟩ := a
    obtain ⟨_, c1⟩ := h4 b off s hao
    obtain ⟨_, c2⟩ := k4 b off s hao
    have e1 := c1 j hj
    have e2 := c2 j (by omega)
    rw [e1] at e2
    simp only [Option.some.injEq, Value.int.injEq, true_and] at e2
    omega
open Classical in
/-- what a slice value is worth in a world -/
noncomputable def numOf (w : World) (v : Value) : Nat := if h : ∃ l, Num w v l then val h.choose else 0
theorem numOf_eq {w : World} {v : Value} {l : List Nat} (h : Num w v l) : numOf w v = val l := by
  have hx : ∃ l, Num w v l := ⟨l, h⟩
  unfold numOf
  rw [dif_pos hx, hx.choose_spec.unique h]

set_option maxRecDepth 100000 in
set_option maxHeartbeats 1600000 in
theorem gcd_any (va vb : Value) (a b : List Nat) (w : World) (ha : Num w va a) (hb : Num w vb b) (hla : a.length ≤ 800000) (hlb : b.length ≤ 800000) :
    Calls Tryz.prog 123 #[va, vb] w (RetNum w fun r => r = wd (Nat.gcd (val a) (val b))) := by
  have hl1 := wd_length_le ha.lt
  have hl2 := wd_length_le hb.lt
  obtain ⟨G, hG⟩ : ∃ G, G = Nat.gcd (val a) (val b) := ⟨_, rfl⟩
  rw [← hG]
  have HG := Lib.hid hG; clear hG
  go_enter Tryz.func123, Tryz.ntmps123
  go_wp2_with fail
  (with_reducible refine (trim_any _ _ _ ha (by omega)).mono ?_); rintro e w1 ⟨v1, l1, rfl, hb1, hn1, hl1'⟩
  go_wp2_with fail
  (with_reducible refine (trim_any _ _ _ (hb.below hb1) (by omega)).mono ?_); rintro e w2 ⟨v2, l2, rfl, hb2, hn2, hl2'⟩
  have hn1 := hn1.below hb2
  have hb12 := hb1.trans (hb2.mono hb1.size)
  rw [hl1'] at hn1
  rw [hl2'] at hn2
  obtain ⟨x0, hx0⟩ : ∃ x0, x0 = val a := ⟨_, rfl⟩
  obtain ⟨y0, hy0⟩ : ∃ y0, y0 = val b := ⟨_, rfl⟩
  rw [← hx0] at hn1 hl1
  rw [← hy0] at hn2 hl2
  have hg0 : Nat.gcd x0 y0 = G := by rw [HG.out, hx0, hy0]
  have HG0 := Lib.hid hg0; have HN1 := Lib.hid hn1; have HN2 := Lib.hid hn2
  clear hg0 hx0 hy0 hn1 hn2 hl1' hl2' hb1 hb2 ha hb
  go_wp2_with fail
  go_loopw [0, 1] (fun xv yv wr => ∃ x y : Nat, Num wr xv (wd x) ∧ Num wr yv (wd y) ∧ Below w.heap.size w wr ∧ Hid (Nat.gcd x y = G) ∧ (wd x).length ≤ 800000 ∧ (wd y).length ≤ 800000) (fun _ yv wr => numOf wr yv)
  case atStart => exact ⟨x0, y0, HN1.out, HN2.out, hb12, HG0, by omega, by omega⟩
  case round =>
    obtain ⟨x, y, hnx, hny, hBr, hgr, hlx, hly⟩ := hrel
    by_cases hy0 : y = 0
    · subst hy0
      rw [wd_zero] at hny hly
      obtain ⟨yo, cy, rfl, hcy, hcy2, _⟩ := hny.shape
      have hgx : x = G := by rw [← hgr.out, Nat.gcd_zero_right]
      have HGX := Lib.hid hgx; have HNX := Lib.hid hnx
      clear hny hgx hnx
      go_wp2_with fail
      go_ret
      exact ⟨_, _, rfl, hBr, HNX.out, by rw [HGX.out]⟩
    · have hd := div_any _ _ _ _ _ hnx hny hlx hly (by rw [val_wd]; exact hy0)
      rw [val_wd, val_wd, errV_zero] at hd
      have hpos := wd_length_pos hy0
      have hm0 := numOf_eq hny
      rw [val_wd] at hm0
      obtain ⟨yo, cy, rfl, hcy, hcy2, _⟩ := hny.shape
      have hlm : (wd (x % y)).length ≤ (wd y).length := wd_length_mono (Nat.le_of_lt (Nat.mod_lt _ (by omega)))
      have hml : x % y < y := Nat.mod_lt _ (by omega)
      have hgm : Nat.gcd y (x % y) = G := by rw [← hgr.out, Nat.gcd_comm x y, Nat.gcd_rec y x, Nat.gcd_comm]
      have HD := Lib.hid hd; have HNY := Lib.hid hny; have HM0 := Lib.hid hm0; have HLM := Lib.hid hlm; have HML := Lib.hid hml; have HGM := Lib.hid hgm
      clear hd hny hm0 hlm hml hgm hnx
      go_wp2_with fail
      (with_reducible refine HD.out.mono ?_); rintro e w3 ⟨v1, v2, rfl, hb3, hq, hr⟩
      have HR := Lib.hid hr
      clear hq hr
      go_wp2_with fail
      go_roundw
      case rel => exact ⟨y, x % y, HNY.out.below hb3, HR.out, hBr.trans (hb3.mono hBr.size), HGM, hly, Nat.le_trans HLM.out hly⟩
      case measure =>
        have e1 := numOf_eq HR.out
        rw [val_wd] at e1
        show numOf _ _ < numOf _ _
        rw [HM0.out]
        exact Nat.lt_of_le_of_lt (Nat.le_of_eq e1) HML.out
end Go.Proofs.YtkedjammeoaciaaGreatDoor
/-
  Laws for statements that make slices of words and append to them in an order that Go leaves open.
  Conditions: each theorem's own.
-/
namespace Go.Proofs.YtkedjammeoaciaaGreatDoor
open Go.RowKit Go.ChangeShapes Go.WideShapes

/-- the cells of a fresh slice of n words -/
def freshW (n : Nat) : Array Value := madeCells #[.int .u32 0] n
theorem run_makeW (wx : World) (n : Nat) (hn : n ≤ 70368744177664) :
    (Instr.makeSlice 22 (.int .i64 (n : Int)) (.int .i64 (n : Int))).run Tryz.prog wx = .ok (.slice (some ⟨wx.heap.size, 0, none⟩) n n) (wx.alloc (.cells (freshW n) 75)) := by
  obtain ⟨i0, hi, hz0, hz1, hz2⟩ := Tryz.wordsTy.info
  have h := run_make (P := Tryz.prog) wx 22 75 i0 (.int .u32 0) Tryz.wordsTy.under hi hz0 .i64 .i64 (n : Int) (n : Int) (by omega) (Int.le_refl _) (by rw [hz2]; omega) (by omega)
  rw [h, Int.toNat_natCast, hz1, Nat.mul_one]; rfl
theorem own_made (w : World) (B n : Nat) (hB : B ≤ w.heap.size) (hn : n ≤ 70368744177664) :
    OwnW 75 (w.alloc (.cells (freshW n) 75)) B (.slice (some ⟨w.heap.size, 0, none⟩) n n) (List.replicate n 0) := by
  have e : (freshW n).toList = List.replicate n (.int .u32 0) := by unfold freshW; rw [toList_madeCells_one]
  have hs : (freshW n).size = n := by rw [← Array.length_toList, e, List.length_replicate]
  refine ⟨⟨by simp, .inr ⟨w.heap.size, n, _, ?_, hB, heap_alloc_new w _, ?_, ?_, ?_, ?_⟩⟩, U32.replicate n (by decide)⟩
  · rw [List.length_replicate]
  · rw [List.length_replicate]; exact Nat.le_refl _
  · unfold maxLen; omega
  · rw [Nat.mul_one]; exact hs
  · rw [e, List.map_replicate, List.length_replicate, Nat.mul_one, List.take_of_length_le (by simp)]; rfl

section
variable {P : Program} {w : World} {ops : Array Oper} {o : Oper} {a : Act} {K : Act → World → Prop} {Q : Exit → Act → World → Prop} {E : Prop} {t e : TypeId}
/-- 'append(s, x...)' as one step of a region that draws: s the call's own, x any slice of words -/
theorem step_appendN (T : SliceTy P t e (.int .u32 0) 1 4)
    (hg : o.guard = none) (s x : Operand) (hop : o.op = Op.call { callee := Callee.builtin Builtin.append, args := #[s, x], argTypes := #[t, t] })
    (B : Nat) (v xv : Value) (l m : List Nat) (hs : a.eval s = v) (hx : a.eval x = xv) (hown : OwnW e w B v l) (hm : Num w xv m)
    (hlen : l.length + m.length ≤ 17592186044416) (hB : B ≤ w.heap.size)
    (hK : ∀ v' w', OwnW e w' B v' (l ++ m) → (∀ w0, Below B w0 w → Below B w0 w') → w.heap.size ≤ w'.heap.size → K (a.put o.dst v') w') :
    if Region.wanted o (yielded ops a.tmps) = true then Oper.wp P o a w K Q else E := by
  have hw : Region.wanted o (yielded ops a.tmps) = true := by simp [Region.wanted, hg]
  rw [if_pos hw]
  have key : ∃ v' w', (Builtin.append_ #[t, t] o.type #[v, xv]).run P w = .ok v' w' ∧ OwnW e w' B v' (l ++ m) ∧ w.grownBy w' v.ownBlock := run_appendN T o.type B v xv l m hown hm hlen hB
  obtain ⟨v', w', hrun, r1, r2⟩ := key
  unfold Oper.wp
  simp [execOp, hop, resolve, invoke, builtin, hs, hx, hrun, Result.andThen]
  refine hK v' w' r1 (fun w0 h0 => h0.grown r2 hB ?_) r2.size
  intro k hk
  exact (hown.1.lt k hk).1
/-- 'append(s, x...)' as one step of a region that draws, and what else stays: s the call's own, x any slice of words -/
theorem step_appendN2 (T : SliceTy P t e (.int .u32 0) 1 4)
    (hg : o.guard = none) (s x : Operand) (hop : o.op = Op.call { callee := Callee.builtin Builtin.append, args := #[s, x], argTypes := #[t, t] })
    (B : Nat) (v xv : Value) (l m : List Nat) (hs : a.eval s = v) (hx : a.eval x = xv) (hown : OwnW e w B v l) (hm : Num w xv m)
    (hlen : l.length + m.length ≤ 17592186044416) (hB : B ≤ w.heap.size)
    (hK : ∀ v' w', OwnW e w' B v' (l ++ m) → (∀ w0, Below B w0 w → Below B w0 w') → w.heap.size ≤ w'.heap.size → w.grownBy w' v.ownBlock → K (a.put o.dst v') w') :
    if Region.wanted o (yielded ops a.tmps) = true then Oper.wp P o a w K Q else E := by
  have hw : Region.wanted o (yielded ops a.tmps) = true := by simp [Region.wanted, hg]
  rw [if_pos hw]
  have key : ∃ v' w', (Builtin.append_ #[t, t] o.type #[v, xv]).run P w = .ok v' w' ∧ OwnW e w' B v' (l ++ m) ∧ w.grownBy w' v.ownBlock := run_appendN T o.type B v xv l m hown hm hlen hB
  obtain ⟨v', w', hrun, r1, r2⟩ := key
  unfold Oper.wp
  simp [execOp, hop, resolve, invoke, builtin, hs, hx, hrun, Result.andThen]
  refine hK v' w' r1 (fun w0 h0 => h0.grown r2 hB ?_) r2.size r2
  intro k hk
  exact (hown.1.lt k hk).1
end
end Go.Proofs.YtkedjammeoaciaaGreatDoor
