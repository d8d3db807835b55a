/-
  natural.small, natural.left, natural.right: what they hand back.
  Conditions: each theorem's own.
-/
import Derived.Test.YtdepoikifneggaaDoorNat6
import Derived.Test.YtdepoikifneggaaDoorNatMath6
namespace Go.Proofs.YtdepoikifneggaaDoor
open Go.RowKit Go.ChangeShapes Go.WideShapes

/-- hands back words and a word -/
def RetSmall (w : World) (q r : Nat) (e : Ending) (w' : World) : Prop := ∃ v, e = .returned (.tuple #[v, .int .u32 r]) ∧ Below w.heap.size w w' ∧ Num w' v (wd q)

/-- .. of the call's own -/
def RetSmallO (w : World) (q r : Nat) (e : Ending) (w' : World) : Prop := ∃ v, e = .returned (.tuple #[v, .int .u32 r]) ∧ Below w.heap.size w w' ∧ OwnW 38 w' w.heap.size v (wd q)

set_option maxRecDepth 100000 in
set_option maxHeartbeats 1600000 in
theorem small_own (va : Value) (a : List Nat) (b : Nat) (w : World) (ha : Num w va a) (hla : a.length ≤ 900000) (hb0 : 0 < b) (hb : b < 4294967296) :
    Calls Tryd.prog 49 #[va, .int .u32 b] w (RetSmallO w (val a / b) (val a % b)) := by
  obtain ⟨ao, ca, rfl, hca, hca2, _⟩ := ha.shape
  obtain ⟨n, hn⟩ : ∃ n, n = a.length := ⟨_, rfl⟩
  have hnb' : n ≤ 70368744177664 := by omega
  have hnb : n ≤ 900000 := by omega
  have HN := Lib.hid hn
  have HA := Lib.hid ha
  clear hn ha
  go_enter Tryd.func49, Tryd.ntmps49
  go_wp2_with (at_make; refine wpList_makeN Tryd.wordsTy rfl _ _ rfl _ _ _ _ n rfl rfl ?c1 ?c2 hnb' ?_)
  case c1 => rw [HN.out]
  case c2 => rw [HN.out]
  intro w1 hO hB hsz
  go_wp2_with fail
  go_loopw [7, 8] (fun rv i wr => ∃ (k r : Nat) (l : List Nat), k ≤ n ∧ i = .int .i64 ((k : Int) - 1) ∧ rv = .int .u64 r ∧ r < b ∧ OwnW 38 wr w.heap.size (.slice (some ⟨w.heap.size, 0, none⟩) n n) l ∧ Hid (l.length = n) ∧ Below w.heap.size w wr ∧
      Hid (val (a.drop k) = val (l.drop k) * b + r)) (fun _ i _ => (intOf i + 1).toNat)
  case atStart => exact ⟨n, 0, _, Nat.le_refl _, by rw [HN.out], rfl, hb0, hO, Lib.hid (by simp), hB, Lib.hid (by rw [HN.out]; simp [val])⟩
  case round =>
    obtain ⟨k, r, l, hk, rfl, rfl, hr, hOr, hll, hBr, hinv⟩ := hrel
    by_cases hk0 : k = 0
    · subst hk0
      have hnum := hOr.num
      have hinv' := hinv.out
      rw [List.drop_zero, List.drop_zero] at hinv'
      obtain ⟨h1, h2⟩ := div_of_eq hinv' hr
      have htr := trim_own _ _ _ hnum (by rw [hll.out]; omega)
      rw [h1] at htr
      have hrm : (r : Int) % 4294967296 = (r : Int) := by omega
      have HT := Lib.hid htr; have H2 := Lib.hid h2; clear hnum hinv' h1 h2 htr
      have HL := hll.out
      go_wp2_with fail
      (with_reducible refine HT.out.mono ?_); rintro e w' ⟨v', l', rfl, hB', hN', hl'⟩
      go_wp2_with fail
      go_ret2
      exact ⟨v', by rw [← H2.out]; rfl, hBr.trans (hB'.mono hBr.size), by rw [← hl']; exact hN'.base hBr.size⟩
    · obtain ⟨m, rfl⟩ : ∃ m, k = m + 1 := ⟨k - 1, by omega⟩
      have hm1 : ((m + 1 : Nat) : Int) - 1 = (m : Int) := by omega
      rw [hm1]
      clear hm1
      have har := HA.out.below hBr
      obtain ⟨ba, oa, rfl, _, hca⟩ := har.at (by rw [← HN.out]; omega)
      have hma : m < a.length := by rw [← HN.out]; omega
      have hx := hca m hma
      have hxl := HA.out.lt m
      obtain ⟨x, hxe⟩ : ∃ x, x = gd a m := ⟨_, rfl⟩
      rw [← hxe] at hx hxl
      have hcell := hOr.cell hll.out m hk
      have hfr := hOr.frozen hll.out m
      have hor := or_words' x r hxl (by omega)
      have hst := small_step (x := x) hinv.out
      have hql := small_lt (Nat.le_of_lt hb) hr hxl
      have hrl : (r * 4294967296 + x) % b < b := Nat.mod_lt _ hb0
      have hnl : r * 4294967296 + x < 18446744073709551616 := by omega
      obtain ⟨N, hN⟩ : ∃ N, N = r * 4294967296 + x := ⟨_, rfl⟩
      rw [← hN] at hor hst hql hrl hnl
      obtain ⟨q, hq⟩ : ∃ q, q = N / b := ⟨_, rfl⟩
      obtain ⟨t, ht⟩ : ∃ t, t = N % b := ⟨_, rfl⟩
      rw [← hq] at hst hql
      rw [← ht] at hst hrl
      have hqi : (N : Int) / (b : Int) = (q : Int) := by rw [hq]; simp
      have hti : (N : Int) % (b : Int) = (t : Int) := by rw [ht]; simp
      have hqm : (q : Int) % 4294967296 = (q : Int) := by omega
      have HTI := Lib.hid hti
      have HX := Lib.hid hxe; have HO := Lib.hid hOr; have HST := Lib.hid hst; have HQL := Lib.hid hql; have HRL := Lib.hid hrl
      clear hxe hOr har hca hst hql hrl hN hq ht
      go_wp2_with fail
      go_roundw
      case rel =>
        have hst := HO.out.stored hll.out m q HQL.out
        exact ⟨m, t, l.set m q, by omega, rfl, by rw [HTI.out], HRL.out, hst, Lib.hid (by rw [List.length_set]; exact hll.out), hBr.setCell (Nat.le_refl _) _,
          Lib.hid (by rw [val_drop_set _ _ _ (by rw [hll.out]; exact hk), val_drop_at a, ← HX.out]; exact HST.out)⟩
      case measure => simp [intOf]

theorem small_any (va : Value) (a : List Nat) (b : Nat) (w : World) (ha : Num w va a) (hla : a.length ≤ 900000) (hb0 : 0 < b) (hb : b < 4294967296) :
    Calls Tryd.prog 49 #[va, .int .u32 b] w (RetSmall w (val a / b) (val a % b)) := by
  refine (small_own va a b w ha hla hb0 hb).mono ?_
  rintro e w' ⟨v, he, hbb, ho⟩
  exact ⟨v, he, hbb, ho.num⟩

set_option maxRecDepth 100000 in
set_option maxHeartbeats 1600000 in
theorem left_any (va : Value) (a : List Nat) (n : Nat) (w : World) (ha : Num w va a) (hla : a.length ≤ 900000) (hn : n < 32) :
    Calls Tryd.prog 51 #[va, .int .i64 n] w (RetOwn w fun r => r.length = a.length + 1 ∧ val r = val a * 2 ^ n) := by
  obtain ⟨ao, ca, rfl, hca, hca2, _⟩ := ha.shape
  obtain ⟨N, hN⟩ : ∃ N, N = a.length + 1 := ⟨_, rfl⟩
  have HN := Lib.hid hN
  have hnb' : N ≤ 70368744177664 := by omega
  clear hN
  have HA := Lib.hid ha; clear ha
  go_enter Tryd.func51, Tryd.ntmps51
  go_wp2_with (at_make; refine wpList_makeN Tryd.wordsTy rfl _ _ rfl _ _ _ _ N rfl rfl ?c1 ?c2 hnb' ?_)
  case c1 => rw [HN.out]; rfl
  case c2 => rw [HN.out]; rfl
  intro w1 hO hB hsz
  go_wp2_with fail
  go_loopw [15] (fun iv wr => ∃ (i : Nat) (l : List Nat), i ≤ a.length ∧ iv = .int .i64 i ∧ OwnW 38 wr w.heap.size (.slice (some ⟨w.heap.size, 0, none⟩) N N) l ∧ Hid (l.length = N) ∧ Below w.heap.size w wr ∧
      Hid (val l = val (a.take i) * 2 ^ n)) (fun i _ => a.length - (intOf i).toNat)
  case atStart => exact ⟨0, _, Nat.zero_le _, rfl, hO, Lib.hid (by simp), hB, Lib.hid (by simp [val, val_zeros])⟩
  case round =>
    obtain ⟨i, l, hi, rfl, hOr, hll, hBr, hinv⟩ := hrel
    by_cases hin : i < a.length
    · have har := HA.out.below hBr
      obtain ⟨ba, oa, rfl, _, hca⟩ := har.at (by omega)
      have hx := hca i hin
      have hxl := HA.out.lt i
      obtain ⟨x, hxe⟩ : ∃ x, x = gd a i := ⟨_, rfl⟩
      rw [← hxe] at hx hxl
      have hiN : i + 1 < N := by rw [HN.out]; omega
      have hlt : val l < 4294967296 ^ i * 2 ^ n := by
        rw [hinv.out]; exact Nat.mul_lt_mul_of_pos_right (val_take_lt HA.out.lt i) (Nat.two_pow_pos n)
      obtain ⟨hw, hyl, hyh, hp⟩ := shl_wrap x n hxl hn
      have hol : gd l i < 2 ^ n := by
        rw [val_gd hOr.lt]
        refine Nat.lt_of_le_of_lt (Nat.mod_le _ _) ?_
        rw [Nat.div_lt_iff_lt_mul (Nat.pow_pos (by decide)), Nat.mul_comm]; exact hlt
      have hoz : gd l (i + 1) = 0 := gd_zero_of_lt hOr.lt (n := i + 1) (Nat.lt_of_lt_of_le hlt (by rw [Nat.pow_succ]; exact Nat.mul_le_mul_left _ (by omega))) _ (Nat.le_refl _)
      have hcell := hOr.cell hll.out i (by omega)
      have hfr := hOr.frozen hll.out i
      have hfr1 := hOr.frozen hll.out (i + 1)
      have hcell1 := hOr.cell hll.out (i + 1) (by omega)
      rw [hoz] at hcell1
      obtain ⟨o, hoe⟩ : ∃ o, o = gd l i := ⟨_, rfl⟩
      rw [← hoe] at hol hcell
      obtain ⟨hor, hol2⟩ := or_low x n o hn hol
      obtain ⟨y, hy⟩ : ∃ y, y = x * 2 ^ n := ⟨_, rfl⟩
      rw [← hy] at hw hyl hyh hor hol2
      obtain ⟨p, hpe⟩ : ∃ p, p = o + y % 4294967296 := ⟨_, rfl⟩
      rw [← hpe] at hor hol2
      have hym : (y : Int) / 4294967296 = ((y / 4294967296 : Nat) : Int) := by omega
      obtain ⟨t, ht⟩ : ∃ t, t = y / 4294967296 := ⟨_, rfl⟩
      have htl : t < 4294967296 := by omega
      rw [← ht] at hym
      have HX := Lib.hid hxe; have HO := Lib.hid hOr; have HY := Lib.hid hy; have HP := Lib.hid hpe; have HT := Lib.hid ht; have HOE := Lib.hid hoe; have HOZ := Lib.hid hoz
      clear har hca hOr hxe hy hpe ht hoe hoz hlt
      go_wp2_with fail
      go_roundw
      case rel =>
        have h1 := HO.out.stored hll.out i p hol2
        have h2 := h1.stored (by rw [List.length_set]; exact hll.out) (i + 1) t htl
        have e1 := val_set l i p (by rw [hll.out]; omega)
        have e2 := val_set (l.set i p) (i + 1) t (by rw [List.length_set, hll.out]; exact hiN)
        rw [gd_set, if_neg (by omega), HOZ.out] at e2
        rw [← HOE.out] at e1
        refine ⟨i + 1, (l.set i p).set (i + 1) t, by omega, by go_num, h2, Lib.hid (by rw [List.length_set, List.length_set]; exact hll.out), (hBr.setCell (Nat.le_refl _) _).setCell (Nat.le_refl _) _, Lib.hid ?_⟩
        rw [val_take_succ, Nat.add_mul, ← hinv.out, ← HX.out, Nat.mul_assoc, ← HY.out]
        have e3 : y = y % 4294967296 + 4294967296 * t := by rw [HT.out]; omega
        rw [Nat.pow_succ] at e2
        have e4 : 4294967296 ^ i * y = 4294967296 ^ i * (y % 4294967296) + 4294967296 ^ i * 4294967296 * t := by
          rw [Nat.mul_assoc, ← Nat.mul_add, ← e3]
        rw [HP.out, Nat.mul_add] at e1
        rw [HP.out] at e2 ⊢
        omega
      case measure => simp [intOf]; omega
    · obtain rfl : i = a.length := by omega
      have hv := hinv.out
      rw [List.take_of_length_le (Nat.le_refl _)] at hv
      have hl := hll.out
      rw [HN.out] at hl
      have HV := Lib.hid hv; have HL := Lib.hid hl; clear hv hl
      go_wp2_with fail
      go_ret
      exact ⟨_, l, rfl, hBr, hOr, HL.out, HV.out⟩

set_option maxRecDepth 100000 in
set_option maxHeartbeats 1600000 in
theorem right_any (va : Value) (a : List Nat) (n : Nat) (w : World) (ha : Num w va a) (hla : a.length ≤ 900000) (hn : n < 32) :
    Calls Tryd.prog 54 #[va, .int .i64 n] w (RetOwn w fun r => r.length = a.length ∧ val r = val a / 2 ^ n) := by
  obtain ⟨ao, ca, rfl, hca, hca2, _⟩ := ha.shape
  obtain ⟨N, hN⟩ : ∃ N, N = a.length := ⟨_, rfl⟩
  have HN := Lib.hid hN
  have hnb' : N ≤ 70368744177664 := by omega
  have hnb : N ≤ 900000 := by omega
  clear hN
  have HA := Lib.hid ha; clear ha
  go_enter Tryd.func54, Tryd.ntmps54
  go_wp2_with (at_make; refine wpList_makeN Tryd.wordsTy rfl _ _ rfl _ _ _ _ N rfl rfl ?c1 ?c2 hnb' ?_)
  case c1 => rw [HN.out]
  case c2 => rw [HN.out]
  intro w1 hO hB hsz
  go_wp2_with fail
  go_loopw [12] (fun iv wr => ∃ (i : Nat) (l : List Nat), i ≤ a.length ∧ iv = .int .i64 i ∧ OwnW 38 wr w.heap.size (.slice (some ⟨w.heap.size, 0, none⟩) N N) l ∧ Hid (l.length = N) ∧ Below w.heap.size w wr ∧
      Hid (∀ j, j < i → gd l j = val a / 2 ^ n / 4294967296 ^ j % 4294967296)) (fun i _ => a.length - (intOf i).toNat)
  case atStart => exact ⟨0, _, Nat.zero_le _, rfl, hO, Lib.hid (by simp), hB, Lib.hid (fun j hj => by omega)⟩
  case round =>
    obtain ⟨i, l, hi, rfl, hOr, hll, hBr, hinv⟩ := hrel
    by_cases hin : i < a.length
    · have har := Lib.hid (HA.out.below hBr)
      have hiN : i < N := by rw [HN.out]; exact hin
      have hwa := word_any _ a i wr har.out (by omega) (by omega)
      have hwb := word_any _ a ((i : Int) + 1) wr har.out (by omega) (by omega)
      have hxl := HA.out.lt i
      have hyl := HA.out.lt (i + 1)
      have hd := word_down HA.out.lt i n hn
      obtain ⟨x, hx⟩ : ∃ x, x = gd a i := ⟨_, rfl⟩
      obtain ⟨y, hy⟩ : ∃ y, y = gd a (i + 1) := ⟨_, rfl⟩
      rw [Int.toNat_natCast, ← hx] at hwa
      rw [show ((i : Int) + 1).toNat = i + 1 from by omega, ← hy] at hwb
      rw [← hx] at hxl
      rw [← hy] at hyl
      rw [← hx, ← hy] at hd
      have hor := or_words x y hxl hyl
      have hzl : x + y * 4294967296 < 18446744073709551616 := by omega
      obtain ⟨z, hz⟩ : ∃ z, z = x + y * 4294967296 := ⟨_, rfl⟩
      rw [← hz] at hor hzl hd
      have hsh : (z : Int) / 2 ^ n % 4294967296 = ((z / 2 ^ n % 4294967296 : Nat) : Int) := by rw [Int.natCast_emod, Int.natCast_ediv]; simp
      obtain ⟨t, ht⟩ : ∃ t, t = z / 2 ^ n % 4294967296 := ⟨_, rfl⟩
      have htl : t < 4294967296 := by rw [ht]; exact Nat.mod_lt _ (by decide)
      rw [← ht] at hsh hd
      have hcell := hOr.cell hll.out i hiN
      have hfr := hOr.frozen hll.out i
      have HWA := Lib.hid hwa; have HWB := Lib.hid hwb; have HO := Lib.hid hOr; have HD := Lib.hid hd
      clear hwa hwb hx hy hz ht hd hOr
      go_wp2_with fail
      (with_reducible refine HWA.out.mono ?_); rintro e w' ⟨rfl, rfl⟩
      go_wp2_with fail
      (with_reducible refine HWB.out.mono ?_); rintro e w' ⟨rfl, rfl⟩
      go_wp2_with fail
      go_roundw
      case rel =>
        have h1 := HO.out.stored hll.out i t htl
        refine ⟨i + 1, l.set i t, by omega, by go_num, h1, Lib.hid (by rw [List.length_set]; exact hll.out), hBr.setCell (Nat.le_refl _) _, Lib.hid fun j hj => ?_⟩
        rw [gd_set]
        by_cases hji : j = i
        · subst hji
          rw [if_pos ⟨rfl, by rw [hll.out]; exact hiN⟩]; exact HD.out
        · rw [if_neg (by omega)]; exact hinv.out j (by omega)
      case measure => simp [intOf]; omega
    · obtain rfl : i = a.length := by omega
      have hl := hll.out
      rw [HN.out] at hl
      have hv : val l = val a / 2 ^ n := by
        apply val_of_digits
        · intro j hj; exact hinv.out j (by omega)
        · rw [hl]; exact Nat.lt_of_le_of_lt (Nat.div_le_self _ _) (val_lt HA.out.lt)
      have HV := Lib.hid hv; have HL := Lib.hid hl; clear hv hl
      go_wp2_with fail
      go_ret
      exact ⟨_, l, rfl, hBr, hOr, HL.out, HV.out⟩
end Go.Proofs.YtdepoikifneggaaDoor
