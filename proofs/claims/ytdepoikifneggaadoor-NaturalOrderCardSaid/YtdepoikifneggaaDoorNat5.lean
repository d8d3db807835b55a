/-
  natural.Mul and the reference's: what they hand back.
  Conditions: each theorem's own.
-/
import Derived.Test.YtdepoikifneggaaDoorNat4
namespace Go.Proofs.YtdepoikifneggaaDoor
open Go.RowKit Go.ChangeShapes Go.WideShapes

set_option maxRecDepth 100000 in
set_option maxHeartbeats 1600000 in
theorem mul_any (va vb : Value) (a b : List Nat) (w : World) (ha : Num w va a) (hb : Num w vb b) (hla : a.length ≤ 450000) (hlb : b.length ≤ 450000) :
    Calls Tryd.prog 40 #[va, vb] w (RetNum w fun r => r = wd (val a * val b)) := by
  obtain ⟨ao, ca, rfl, hca, hca2, _⟩ := ha.shape
  obtain ⟨bo, cb, rfl, hcb, hcb2, _⟩ := hb.shape
  obtain ⟨n, hn⟩ : ∃ n, n = a.length + b.length := ⟨_, rfl⟩
  have hnb : n ≤ 900000 := by omega
  have hnb' : n ≤ 70368744177664 := by omega
  have hna : a.length + b.length ≤ n := by omega
  have HN := Lib.hid hn
  have HA := Lib.hid ha; have HB := Lib.hid hb
  clear hn ha hb
  go_enter Tryd.func40, Tryd.ntmps40
  go_wp2_with (at_make; refine wpList_makeN Tryd.wordsTy rfl _ _ rfl _ _ _ _ n rfl rfl ?c1 ?c2 hnb' ?_)
  case c1 => rw [HN.out]; rfl
  case c2 => rw [HN.out]; rfl
  intro w1 hO hB hsz
  go_wp2_with fail
  go_loopw [19] (fun iv wr => ∃ (i : Nat) (l : List Nat), i ≤ a.length ∧ iv = .int .i64 i ∧ OwnW 38 wr w.heap.size (.slice (some ⟨w.heap.size, 0, none⟩) n n) l ∧ Hid (l.length = n) ∧ Below w.heap.size w wr ∧
      Hid (val l = val (a.take i) * val b)) (fun i _ => a.length - (intOf i).toNat)
  case atStart => exact ⟨0, _, Nat.zero_le _, rfl, hO, Lib.hid (by simp), hB, Lib.hid (by simp [val, val_zeros])⟩
  case round =>
    obtain ⟨i, l, hi, rfl, hOr, hll, hBr, hinv⟩ := hrel
    obtain ⟨wo, rfl⟩ : ∃ wo : World, wo = wr := ⟨_, rfl⟩
    by_cases hin : i < a.length
    · have har := HA.out.below hBr
      obtain ⟨ba, oa, rfl, _, hca⟩ := har.at (by omega)
      have hx := hca i hin
      have hxl := HA.out.lt i
      obtain ⟨x, hxe⟩ : ∃ x, x = gd a i := ⟨_, rfl⟩
      rw [← hxe] at hx hxl
      have hz := gd_zero_of_lt hOr.lt (n := i + b.length) (by rw [hinv.out]; exact mul_lt HA.out.lt HB.out.lt i)
      have HZ := Lib.hid hz
      have HX := Lib.hid hxe; have HO := Lib.hid hOr; have HAR := Lib.hid har
      clear hxe hOr har hca hz
      go_wp2_with fail
      go_loopw [8, 26] (fun cv kv wr => ∃ (k c : Nat) (m : List Nat), k ≤ b.length ∧ kv = .int .i64 k ∧ cv = .int .u64 c ∧ c < 4294967296 ∧ OwnW 38 wr w.heap.size (.slice (some ⟨w.heap.size, 0, none⟩) n n) m ∧ Hid (m.length = n) ∧ Below w.heap.size w wr ∧
          Hid (val m + 4294967296 ^ (i + k) * c = val (a.take i) * val b + 4294967296 ^ i * (x * val (b.take k))) ∧ Hid (∀ j, i + b.length ≤ j → gd m j = 0)) (fun _ k _ => b.length - (intOf k).toNat)
      case atStart => exact ⟨0, 0, l, Nat.zero_le _, rfl, rfl, by omega, HO.out, hll, hBr, Lib.hid (by rw [hinv.out]; simp [val]), HZ⟩
      case round =>
        obtain ⟨k, c, m, hk, rfl, rfl, hc, hOm, hml, hBm, hinm, hzm⟩ := hrel
        by_cases hkn : k < b.length
        · have hbr := HB.out.below hBm
          obtain ⟨bb, ob, rfl, _, hcb⟩ := hbr.at (by omega)
          have hy := hcb k hkn
          have hyl := HB.out.lt k
          obtain ⟨y, hye⟩ : ∃ y, y = gd b k := ⟨_, rfl⟩
          rw [← hye] at hy hyl
          have hik : i + k < n := by omega
          have hcell := hOm.cell hml.out (i + k) hik
          have hfr := hOm.frozen hml.out (i + k)
          have hol := hOm.lt (i + k)
          obtain ⟨o, hoe⟩ : ∃ o, o = gd m (i + k) := ⟨_, rfl⟩
          rw [← hoe] at hcell hol
          obtain ⟨p, hpe⟩ : ∃ p, p = x * y := ⟨_, rfl⟩
          have hpi : (x : Int) * (y : Int) = (p : Int) := by rw [hpe]; rfl
          have hpl := word_mul hxl hyl
          rw [← hpe] at hpl
          obtain ⟨s1, s2⟩ := mul_bounds hc hpl hol
          have HY := Lib.hid hye; have HO := Lib.hid hOm; have HOE := Lib.hid hoe; have HPE := Lib.hid hpe; have S1 := Lib.hid s1; have S2 := Lib.hid s2
          clear hye hOm hoe hpe hbr hcb s1 s2
          go_wp2_with fail
          go_roundw
          case rel =>
            have hst := HO.out.stored hml.out (i + k) ((c + (p + o)) % 4294967296) S2.out
            have hvs := val_set m (i + k) ((c + (p + o)) % 4294967296) (by rw [hml.out]; exact hik)
            rw [← HOE.out] at hvs
            refine ⟨k + 1, (c + (p + o)) / 4294967296, m.set (i + k) ((c + (p + o)) % 4294967296), by omega, by go_num, rfl, S1.out, hst, Lib.hid (by rw [List.length_set]; exact hml.out), hBm.setCell (Nat.le_refl _) _, Lib.hid ?_, Lib.hid ?_⟩
            · have h3 := mul_step hinm.out rfl hvs
              have e5 : i + (k + 1) = (i + k) + 1 := rfl
              rw [e5, Nat.pow_succ, h3, Nat.pow_add, HPE.out]
              exact mul_row _ _ _ _ _ _ HY.out
            · intro j hj
              rw [gd_set, if_neg (by omega)]; exact hzm.out j hj
          case measure => simp [intOf]; omega
        · obtain rfl : k = b.length := by omega
          have hik : i + b.length < n := by omega
          have hcell := hOm.cell hml.out (i + b.length) hik
          have hfr := hOm.frozen hml.out (i + b.length)
          have HO := Lib.hid hOm
          have hcm : c % 4294967296 = c := Nat.mod_eq_of_lt hc
          have hci : (c : Int) % 4294967296 = (c : Int) := by omega
          have HCM := Lib.hid hcm
          clear hOm hcm
          go_wp2_with fail
          go_roundw
          case rel =>
            have hst := HO.out.stored hml.out (i + b.length) c hc
            have hvs := val_set m (i + b.length) c (by rw [hml.out]; exact hik)
            rw [hzm.out _ (Nat.le_refl _)] at hvs
            refine ⟨i + 1, m.set (i + b.length) c, by omega, by go_num, hst, Lib.hid (by rw [List.length_set]; exact hml.out), hBm.setCell (Nat.le_refl _) _, Lib.hid ?_⟩
            have h3 := hinm.out
            rw [List.take_of_length_le (Nat.le_refl _), mul_rows _ _ _ _ HX.out] at h3
            omega
          case measure => simp [intOf]; omega
    · obtain rfl : i = a.length := by omega
      have hnum := hOr.num
      have htr := trim_any _ _ _ hnum (by rw [hll.out]; omega)
      rw [hinv.out, List.take_of_length_le (Nat.le_refl _)] at htr
      have HT := Lib.hid htr; clear hnum htr
      have HL := hll.out
      go_wp2_with (go_at_call 48; (with_reducible refine HT.out.mono ?_); rintro e w' ⟨v', l', rfl, hB', hN', hl'⟩)
      go_ret
      exact ⟨_, _, rfl, hBr.trans (hB'.mono hBr.size), hN', hl'⟩
set_option maxRecDepth 100000 in
set_option maxHeartbeats 1600000 in
theorem rmul_any (va vb : Value) (a b : List Nat) (w : World) (ha : Num w va a) (hb : Num w vb b) (hla : a.length ≤ 450000) (hlb : b.length ≤ 450000) :
    Calls Tryd.prog 41 #[va, vb] w (RetNum w fun r => r = wd (val a * val b)) := by
  obtain ⟨ao, ca, rfl, hca, hca2, _⟩ := ha.shape
  obtain ⟨bo, cb, rfl, hcb, hcb2, _⟩ := hb.shape
  obtain ⟨n, hn⟩ : ∃ n, n = a.length + b.length + 1 := ⟨_, rfl⟩
  have hnb : n ≤ 900001 := by omega
  have hnb' : n ≤ 70368744177664 := by omega
  have hna : a.length + b.length < n := by omega
  have HN := Lib.hid hn
  have HA := Lib.hid ha; have HB := Lib.hid hb
  clear hn ha hb
  go_enter Tryd.func41, Tryd.ntmps41
  go_wp2_with (at_make; refine wpList_makeN Tryd.wordsTy rfl _ _ rfl _ _ _ _ n rfl rfl ?c1 ?c2 hnb' ?_)
  case c1 => rw [HN.out]; rfl
  case c2 => rw [HN.out]; rfl
  intro w1 hO hB hsz
  go_wp2_with fail
  go_loopw [20] (fun iv wr => ∃ (i : Nat) (l : List Nat), i ≤ a.length ∧ iv = .int .i64 i ∧ OwnW 38 wr w.heap.size (.slice (some ⟨w.heap.size, 0, none⟩) n n) l ∧ Hid (l.length = n) ∧ Below w.heap.size w wr ∧
      Hid (val l = val (a.take i) * val b)) (fun i _ => a.length - (intOf i).toNat)
  case atStart => exact ⟨0, _, Nat.zero_le _, rfl, hO, Lib.hid (by simp), hB, Lib.hid (by simp [val, val_zeros])⟩
  case round =>
    obtain ⟨i, l, hi, rfl, hOr, hll, hBr, hinv⟩ := hrel
    obtain ⟨wo, rfl⟩ : ∃ wo : World, wo = wr := ⟨_, rfl⟩
    by_cases hin : i < a.length
    · have har := HA.out.below hBr
      obtain ⟨ba, oa, rfl, _, hca⟩ := har.at (by omega)
      have hx := hca i hin
      have hxl := HA.out.lt i
      obtain ⟨x, hxe⟩ : ∃ x, x = gd a i := ⟨_, rfl⟩
      rw [← hxe] at hx hxl
      have HX := Lib.hid hxe; have HO := Lib.hid hOr; have HAR := Lib.hid har
      clear hxe hOr har hca
      go_wp2_with fail
      go_loopw [8, 28] (fun cv kv wr => ∃ (k c : Nat) (m : List Nat), k ≤ b.length + 1 ∧ kv = .int .i64 k ∧ cv = .int .u64 c ∧ c < 4294967296 ∧ OwnW 38 wr w.heap.size (.slice (some ⟨w.heap.size, 0, none⟩) n n) m ∧ Hid (m.length = n) ∧ Below w.heap.size w wr ∧
          Hid (val m + 4294967296 ^ (i + k) * c = val (a.take i) * val b + 4294967296 ^ i * (x * val (b.take k)))) (fun _ k _ => b.length + 1 - (intOf k).toNat)
      case atStart => exact ⟨0, 0, l, Nat.zero_le _, rfl, rfl, by omega, HO.out, hll, hBr, Lib.hid (by rw [hinv.out]; simp [val])⟩
      case round =>
        obtain ⟨k, c, m, hk, rfl, rfl, hc, hOm, hml, hBm, hinm⟩ := hrel
        by_cases hkn : k < b.length + 1
        · have hbr := Lib.hid (HB.out.below hBm)
          have hyl := HB.out.lt k
          obtain ⟨y, hye⟩ : ∃ y, y = gd b k := ⟨_, rfl⟩
          have hwb : ∀ nq, Calls Tryd.prog 57 #[.slice bo b.length cb, .int .i64 k] (wr.drewN nq) (RetS (wr.drewN nq) (.int .u64 (y : Nat))) := fun nq => by
            have h := rword_any _ b k (wr.drewN nq) (hbr.out.below (below_drewN (Below.refl _ _) nq)) (by omega) (by omega)
            rw [Int.toNat_natCast, ← hye] at h; exact h
          have HWB := Lib.hid hwb
          rw [← hye] at hyl
          have hik : i + k < n := by omega
          have hcell := hOm.cell hml.out (i + k) hik
          have hfr := hOm.frozen hml.out (i + k)
          have hol := hOm.lt (i + k)
          obtain ⟨o, hoe⟩ : ∃ o, o = gd m (i + k) := ⟨_, rfl⟩
          rw [← hoe] at hcell hol
          obtain ⟨p, hpe⟩ : ∃ p, p = x * y := ⟨_, rfl⟩
          have hpi : (x : Int) * (y : Int) = (p : Int) := by rw [hpe]; rfl
          have hpl := word_mul hxl hyl
          rw [← hpe] at hpl
          obtain ⟨s1, s2⟩ := mul_bounds hc hpl hol
          have e1 : c + (p + o) = p + o + c := by omega
          have E1 := Lib.hid e1
          rw [e1] at s1 s2
          clear e1
          have HY := Lib.hid hye; have HO := Lib.hid hOm; have HOE := Lib.hid hoe; have HPE := Lib.hid hpe; have S1 := Lib.hid s1; have S2 := Lib.hid s2
          clear hye hOm hoe hpe hwb s1 s2
          go_wp2_with fail
          go_quiet ((go_at_call 57; exact Calls.quiet_of_same (ret_quiet (HWB.out _))))
          go_wp2_with fail
          go_roundw
          case rel =>
            have hst := (HO.out.below (below_drewN (Below.refl _ _) nq)).stored hml.out (i + k) ((p + o + c) % 4294967296) S2.out
            have hvs := val_set m (i + k) ((p + o + c) % 4294967296) (by rw [hml.out]; exact hik)
            rw [← HOE.out] at hvs
            refine ⟨k + 1, (p + o + c) / 4294967296, m.set (i + k) ((p + o + c) % 4294967296), by omega, by go_num, rfl, S1.out, hst, Lib.hid (by rw [List.length_set]; exact hml.out), (below_drewN hBm nq).setCell (Nat.le_refl _) _, Lib.hid ?_⟩
            · have h3 := mul_step hinm.out E1.out.symm hvs
              have e5 : i + (k + 1) = (i + k) + 1 := rfl
              rw [e5, Nat.pow_succ, h3, Nat.pow_add, HPE.out]
              exact mul_row _ _ _ _ _ _ HY.out
          case measure => simp [intOf]; omega
        · obtain rfl : k = b.length + 1 := by omega
          go_wp2_with fail
          go_roundw
          case rel =>
            refine ⟨i + 1, m, by omega, by go_num, hOm, hml, hBm, Lib.hid ?_⟩
            have h3 := hinm.out
            rw [List.take_of_length_le (Nat.le_succ _), mul_rows _ _ _ _ HX.out] at h3
            have h4 := mul_lt HA.out.lt HB.out.lt (i + 1)
            rw [show i + 1 + b.length = i + (b.length + 1) from by omega] at h4
            exact mul_spent h3 h4
          case measure => simp [intOf]; omega
    · obtain rfl : i = a.length := by omega
      have hnum := hOr.num
      have htr := rtrim_any _ _ _ hnum (by rw [hll.out]; omega)
      rw [hinv.out, List.take_of_length_le (Nat.le_refl _)] at htr
      have HT := Lib.hid htr; clear hnum htr
      have HL := hll.out
      go_wp2_with (go_at_call 55; (with_reducible refine HT.out.mono ?_); rintro e w' ⟨v', l', rfl, hB', hN', hl'⟩)
      go_ret
      exact ⟨_, _, rfl, hBr.trans (hB'.mono hBr.size), hN', hl'⟩
end Go.Proofs.YtdepoikifneggaaDoor
