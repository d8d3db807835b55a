/-
  natural.Of, natural.Add and the reference's: what they hand back.
  Conditions: each theorem's own.
-/
import Derived.Test.YtdepoikifneggaaDoorNat2
import Derived.Test.YtdepoikifneggaaDoorNatMath3
namespace Go.Proofs.YtdepoikifneggaaDoor
open Go.RowKit Go.ChangeShapes Go.WideShapes

set_option maxRecDepth 100000 in
set_option maxHeartbeats 800000 in
theorem of_any (n : Int) (w : World) (h0 : -9223372036854775808 ≤ n) (h1 : n < 9223372036854775808) :
    Calls Tryd.prog 24 #[.int .i64 n] w (RetNum w fun r => r = wd n.toNat) := by
  by_cases hn : n ≤ 0
  · have hz : n.toNat = 0 := by omega
    have HZ := Lib.hid hz; clear hz
    go_enter Tryd.func24, Tryd.ntmps24
    go_wp2_with fail
    go_ret
    exact ⟨_, [], rfl, Below.refl _ _, Num.nil _, by rw [HZ.out, wd_zero]⟩
  · obtain ⟨k, rfl⟩ := Int.eq_ofNat_of_zero_le (show 0 ≤ n by omega)
    have hcv1 : ∀ wx : World, (convert 3 38 (.int .i64 (k : Int))).run Tryd.prog wx = .ok (.int .u32 ((k % 4294967296 : Nat) : Int)) wx := fun wx => by
      rw [run_convert_int (P := Tryd.prog) wx 3 38 .i64 k (by kernel_rfl) (by kernel_rfl)]
      rfl
    have hcv2 : ∀ wx : World, (convert 3 38 (.int .i64 ((k : Int) / 4294967296))).run Tryd.prog wx = .ok (.int .u32 ((k / 4294967296 % 4294967296 : Nat) : Int)) wx := fun wx => by
      rw [run_convert_int (P := Tryd.prog) wx 3 38 .i64 _ (by kernel_rfl) (by kernel_rfl)]
      rfl
    go_enter Tryd.func24, Tryd.ntmps24
    have hk0 : 0 < k := by omega
    have hk1 : k < 9223372036854775808 := by omega
    clear h0 h1 hn
    have hnl := num_lit w 38 #[.int .u32 ((k % 4294967296 : Nat) : Int), .int .u32 ((k / 4294967296 % 4294967296 : Nat) : Int)] [k % 4294967296, k / 4294967296 % 4294967296] 2 (U32.cons (by omega) (U32.cons (by omega) U32.nil)) rfl (by simp) rfl
    have hv : val [k % 4294967296, k / 4294967296 % 4294967296] = k := by simp only [val]; omega
    have htr := trim_any _ _ _ hnl (by simp)
    rw [hv] at htr
    have HTR := Lib.hid htr; clear hnl hv htr
    go_wp2_with (go_at_call 48; go_loud ((refine HTR.out.mono ?_)); rintro e w1 ⟨v1, l1, rfl, hb1, hn1, hl1⟩)
    go_ret
    exact ⟨_, _, rfl, ((Below.refl _ _).alloc (Nat.le_refl _) _).trans (hb1.mono (by simp)), hn1, hl1⟩

set_option maxRecDepth 100000 in
set_option maxHeartbeats 800000 in
theorem rof_any (n : Int) (w : World) (h0 : -9223372036854775808 ≤ n) (h1 : n < 9223372036854775808) :
    Calls Tryd.prog 25 #[.int .i64 n] w (RetNum w fun r => r = wd n.toNat) := by
  obtain ⟨k, hk⟩ : ∃ k : Nat, k = n.toNat := ⟨_, rfl⟩
  have hk1 : k < 9223372036854775808 := by omega
  have hmax : max n 0 = (k : Int) := by omega
  rw [← hk]
  clear hk h0 h1
  have hcv1 : ∀ wx : World, (convert 3 38 (.int .i64 (k : Int))).run Tryd.prog wx = .ok (.int .u32 ((k % 4294967296 : Nat) : Int)) wx := fun wx => by
    rw [run_convert_int (P := Tryd.prog) wx 3 38 .i64 k (by kernel_rfl) (by kernel_rfl)]
    rfl
  have hcv2 : ∀ wx : World, (convert 3 38 (.int .i64 ((k : Int) / 4294967296))).run Tryd.prog wx = .ok (.int .u32 ((k / 4294967296 % 4294967296 : Nat) : Int)) wx := fun wx => by
    rw [run_convert_int (P := Tryd.prog) wx 3 38 .i64 _ (by kernel_rfl) (by kernel_rfl)]
    rfl
  have hnl := num_lit w 38 #[.int .u32 ((k % 4294967296 : Nat) : Int), .int .u32 ((k / 4294967296 % 4294967296 : Nat) : Int)] [k % 4294967296, k / 4294967296 % 4294967296] 2 (U32.cons (by omega) (U32.cons (by omega) U32.nil)) rfl (by simp) rfl
  have hv : val [k % 4294967296, k / 4294967296 % 4294967296] = k := by simp only [val]; omega
  have htr := rtrim_any _ _ _ hnl (by simp)
  rw [hv] at htr
  have HTR := Lib.hid htr; clear hnl hv htr
  go_enter Tryd.func25, Tryd.ntmps25
  go_wp2_with (go_at_call 55; go_loud ((refine HTR.out.mono ?_)); rintro e w1 ⟨v1, l1, rfl, hb1, hn1, hl1⟩)
  go_ret
  exact ⟨_, _, rfl, ((Below.refl _ _).alloc (Nat.le_refl _) _).trans (hb1.mono (by simp)), hn1, hl1⟩

theorem add_bounds {c x y : Nat} (hc : c ≤ 1) (hx : x < 4294967296) (hy : y < 4294967296) : (c + (x + y)) / 4294967296 ≤ 1 ∧ (c + (x + y)) % 4294967296 < 4294967296 := by omega

set_option maxRecDepth 100000 in
set_option maxHeartbeats 800000 in
theorem add_any (va vb : Value) (a b : List Nat) (w : World) (ha : Num w va a) (hb : Num w vb b) (hla : a.length ≤ 900000) (hlb : b.length ≤ 900000) :
    Calls Tryd.prog 32 #[va, vb] w (RetNum w fun r => r = wd (val a + val b)) := by
  obtain ⟨ao, ca, rfl, hca, hca2, _⟩ := ha.shape
  obtain ⟨bo, cb, rfl, hcb, hcb2, _⟩ := hb.shape
  obtain ⟨n, hn⟩ : ∃ n, n = max a.length b.length + 1 := ⟨_, rfl⟩
  have hnb : n ≤ 900001 := by omega
  have hnb' : n ≤ 70368744177664 := by omega
  have hnz : 0 < n := by omega
  have HN := Lib.hid hn
  have HA := Lib.hid ha; have HB := Lib.hid hb
  clear hn ha hb
  go_enter Tryd.func32, Tryd.ntmps32
  go_wp2_with (at_make; refine wpList_makeN Tryd.wordsTy rfl _ _ rfl _ _ _ _ n rfl rfl ?c1 ?c2 hnb' ?_)
  case c1 => rw [HN.out]; simp; omega
  case c2 => rw [HN.out]; simp; omega
  intro w1 hO hB hsz
  go_wp2_with fail
  go_loopw [6, 17] (fun c i wr => ∃ (k cc : Nat) (l : List Nat), k ≤ n ∧ i = .int .i64 k ∧ c = .int .u64 cc ∧ cc ≤ 1 ∧ OwnW 38 wr w.heap.size (.slice (some ⟨w.heap.size, 0, none⟩) n n) l ∧ Hid (l.length = n) ∧ Below w.heap.size w wr ∧
      Hid (val (l.take k) + 4294967296 ^ k * cc = val (a.take k) + val (b.take k))) (fun _ i _ => n - (intOf i).toNat)
  case atStart => exact ⟨0, 0, _, Nat.zero_le _, rfl, rfl, by omega, hO, Lib.hid (by simp), hB, Lib.hid (by simp [val])⟩
  case round =>
    obtain ⟨k, cc, l, hk, rfl, rfl, hcc, hOr, hll, hBr, hinv⟩ := hrel
    have hak := HA.out.lt k
    have hbk := HB.out.lt k
    have har := Lib.hid (HA.out.below hBr)
    have hbr := Lib.hid (HB.out.below hBr)
    by_cases hkn : k < n
    · obtain ⟨x, hx⟩ : ∃ x, x = gd a k := ⟨_, rfl⟩
      obtain ⟨y, hy⟩ : ∃ y, y = gd b k := ⟨_, rfl⟩
      have hwa := word_any _ a k wr har.out (by omega) (by omega)
      have hwb := word_any _ b k wr hbr.out (by omega) (by omega)
      rw [Int.toNat_natCast, ← hx] at hwa
      rw [Int.toNat_natCast, ← hy] at hwb
      rw [← hx] at hak
      rw [← hy] at hbk
      have HWA := Lib.hid hwa; have HWB := Lib.hid hwb; have HX := Lib.hid hx; have HY := Lib.hid hy; clear hwa hwb hx hy
      have hcell := hOr.cell hll.out k hkn
      have hfr := hOr.frozen hll.out k
      have HO := Lib.hid hOr
      obtain ⟨s1, s2⟩ := add_bounds hcc hak hbk
      have S2 := Lib.hid s2; have S1 := Lib.hid s1
      clear hOr s1 s2
      go_wp2_with (first | (go_at_call 59; (with_reducible refine HWA.out.mono ?_); rintro e w' ⟨rfl, rfl⟩) | (go_at_call 59; (with_reducible refine HWB.out.mono ?_); rintro e w' ⟨rfl, rfl⟩))
      go_roundw
      case rel =>
        have hst := HO.out.stored hll.out k ((cc + (x + y)) % 4294967296) S2.out
        exact ⟨k + 1, (cc + (x + y)) / 4294967296, l.set k ((cc + (x + y)) % 4294967296), by omega, by go_num, rfl, S1.out, hst, Lib.hid (by rw [List.length_set]; exact hll.out), hBr.setCell (Nat.le_refl _) _,
          Lib.hid (by rw [val_take_set _ _ _ (by rw [hll.out]; exact hkn), Nat.pow_succ, add_step hinv.out, val_take_succ, val_take_succ, ← HX.out, ← HY.out])⟩
      case measure => simp [intOf]; omega
    · obtain rfl : k = n := by omega
      have hnum := hOr.num
      have hv : val l = val a + val b := by
        have := hinv.out
        rw [val_take_full l (by rw [hll.out]; exact Nat.le_refl _), val_take_full a (by rw [HN.out]; omega), val_take_full b (by rw [HN.out]; omega)] at this
        exact add_end HA.out.lt HB.out.lt (by rw [HN.out]; omega) this
      have htr := trim_any _ _ _ hnum (by rw [hll.out]; omega)
      rw [hv] at htr
      have HT := Lib.hid htr; clear hnum hv htr
      have HL := hll.out
      go_wp2_with (go_at_call 48; (with_reducible refine HT.out.mono ?_); rintro e w' ⟨v', l', rfl, hB', hN', hl'⟩)
      go_ret
      exact ⟨_, _, rfl, hBr.trans (hB'.mono hBr.size), hN', hl'⟩
end Go.Proofs.YtdepoikifneggaaDoor
