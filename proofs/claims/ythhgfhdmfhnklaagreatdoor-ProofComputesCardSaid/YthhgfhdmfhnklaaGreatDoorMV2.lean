/-
  What the law leans on, one text behind the other (the base).
  Conditions: each theorem's own.
-/
import Derived.Shelf.Strings.Builder1
import Derived.Shelf.Strings.Trim
import Derived.Shelf.Small.Utf8
import Derived.Shelf.Small.Bits
import Derived.Shelf.Small.Strs
import Derived.Shelf.Strings.BuilderF
import Derived.Shelf.Strings.BuilderK
import Derived.Shelf.Strconv.Itoa0
import Derived.Shelf.Strconv.Itoa1
import Derived.Shelf.LaysM
import Derived.Shelf.Strconv.Itoa2
import Derived.Shelf.Strconv.Itoa3
import Derived.Shelf.Strings.Search1
import Derived.Shelf.Unicode.Decode
import Derived.Shelf.Strings.Runes
import Derived.Shelf.Strings.AsciiSet
import Derived.Shelf.Unicode.DecodeSlow
import Derived.Shelf.Unicode.DecodeAny
import Derived.Shelf.Strings.BuilderCap
import Derived.Deep.RegionHeld3
import Derived.Deep.DeepCutAuto
import Derived.IntWalk
import Derived.LoopN
import Derived.Handy
import Derived.Lib.TrimByte
import Derived.Test.YthhgfhdmfhnklaaGreatDoorMV1
set_option maxRecDepth 100000
set_option maxHeartbeats 16000000
namespace Go.Proofs.YthhgfhdmfhnklaaGreatDoor
open Go.RowKit Go.ChangeShapes Go.WideShapes
theorem cmpN_nlt {m n : Nat} (h : n ≤ m) : decide (cmpN m n < 0) = false := by
 unfold cmpN; rw [if_neg (by omega)]; split <;> rfl
theorem cmpN_islt {m n : Nat} (h : m < n) : decide (cmpN m n < 0) = true := by
 unfold cmpN; rw [if_pos h]; rfl
def errV (c : Nat) : Value := if c = 0 then .nilIface else .iface 74 (.int .i64 c)
theorem qbi : errV 0 = .nilIface := rfl
theorem qbz {c : Nat} (h : c ≠ 0) : errV c = .iface 74 (.int .i64 c) := by simp [errV, h]
def RetNE (w : World) (n : Nat) (er : Value) (e : Ending) (w' : World) : Prop := ∃ v, e = .returned (.tuple #[v, er]) ∧ Below w.heap.size w w' ∧ Num w' v (wd n)
def RetNEO (w : World) (n : Nat) (er : Value) (e : Ending) (w' : World) : Prop := ∃ v, e = .returned (.tuple #[v, er]) ∧ Below w.heap.size w w' ∧ qdu 156 w' w.heap.size v (wd n)
theorem num_one (w : World) (e : TypeId) (x : Nat) (hx : x < 4294967296) : Num (w.alloc (.cells #[.int .u32 x] e)) (.slice (some ⟨w.heap.size, 0, none⟩) 1 1) [x] :=
 num_lit w e _ [x] 1 (U32.cons hx U32.nil) rfl (by simp) rfl

theorem radd_any (va vb : Value) (a b : List Nat) (w : World) (ha : Num w va a) (hb : Num w vb b) (hla : a.length ≤ 900000) (hlb : b.length ≤ 900000) :
  Calls Tryz.prog 134 #[va, vb] w (RetNum w fun r => r = wd (val a + val b)) := by
 obtain ⟨ao, ca, rfl, hca, hca2, _⟩ := ha.shape
 obtain ⟨bo, cb, rfl, hcb, hcb2, _⟩ := hb.shape
 obtain ⟨n, hn⟩ : ∃ n, n = max a.length b.length + 1 := ⟨_, rfl⟩
 have hnb : n ≤ 900001 := by omega
 have hni : max (a.length : Int) (b.length : Int) + 1 = (n : Int) := by omega
 have HN := qHd hn
 have HA := qHd ha; have HB := qHd hb
 clear hn ha hb
 go_enter Tryz.func134, Tryz.ntmps134
 go_wp2_with fail
 have HNI := qHd hni; clear hni
 go_loopw [5, 6, 15] (fun v c i wr => ∃ (k cc : Nat) (l : List Nat), k ≤ n ∧ i = .int .i64 k ∧ c = .int .u64 cc ∧ cc ≤ 1 ∧ qdu 156 wr w.heap.size v l ∧ Hid (l.length = k) ∧ Below w.heap.size w wr ∧
   Hid (val l + 4294967296 ^ k * cc = val (a.take k) + val (b.take k))) (fun _ _ i _ => n - (intOf i).toNat)
 case atStart => exact ⟨0, 0, [], Nat.zero_le _, rfl, rfl, by omega, qdu.nil _ _ _, qHd rfl, Below.refl _ _, qHd (by simp [val])⟩
 case round =>
  obtain ⟨k, cc, l, hk, rfl, rfl, hcc, hOr, hll, hBr, hinv⟩ := hrel
  have hak := HA.out.lt k
  have hbk := HB.out.lt k
  have har := qHd (HA.out.below hBr)
  have hbr := qHd (HB.out.below hBr)
  by_cases hkn : k < n
  ·obtain ⟨x, hx⟩ : ∃ x, x = gd a k := ⟨_, rfl⟩
   obtain ⟨y, hy⟩ : ∃ y, y = gd b k := ⟨_, rfl⟩
   have hwa := qef _ a k wr har.out (by omega) (by omega)
   have hwb := qef _ b k wr hbr.out (by omega) (by omega)
   rw [Int.toNat_natCast, ← hx] at hwa
   rw [Int.toNat_natCast, ← hy] at hwb
   rw [← hx] at hak
   rw [← hy] at hbk
   have HWA := qHd hwa; have HWB := qHd hwb; have HX := qHd hx; have HY := qHd hy; clear hwa hwb hx hy
   have HO := qHd hOr
   obtain ⟨s1, s2⟩ := add_bounds hcc hak hbk
   have h1 := num_one wr 156 ((cc + (x + y)) % 4294967296) s2
   have S2 := qHd s2; have S1 := qHd s1
   have hszr := hBr.size
   have H1 := qHd h1
   have e1 : cc + (x + y) = x + y + cc := by omega
   have E1 := qHd e1
   clear hOr s1 s2 h1 e1
   rw [E1.out] at H1 S1 S2
   go_wp2_with (first | (go_at_call 159; (with_reducible refine HWA.out.mono ?_); rintro e w' ⟨rfl, rfl⟩) | (go_at_call 159; (with_reducible refine HWB.out.mono ?_); rintro e w' ⟨rfl, rfl⟩) |
    (at_builtin; refine qcq Tryz.wordsTy rfl (.tmp 27) (.tmp 30) rfl w.heap.size _ _ l [(x + y + cc) % 4294967296] rfl rfl (HO.out.alloc _) H1.out ?c1 ?c2 ?_))
   case c1 => rw [hll.out]; simp; omega
   case c2 => simp; omega
   intro v' w1 h1 h2 h3
   have h4 := h2 w (hBr.alloc hszr _)
   go_wp2_with fail
   go_roundw
   case rel =>
    exact ⟨k + 1, (x + y + cc) / 4294967296, l ++ [(x + y + cc) % 4294967296], by omega, by go_num, rfl, S1.out, h1, qHd (by rw [List.length_append, hll.out]; rfl), h4,
     qHd (by rw [val_snoc, hll.out, Nat.pow_succ, ← E1.out, add_step hinv.out, qbm, qbm, ← HX.out, ← HY.out])⟩
   case measure => simp [intOf]; omega
  ·obtain rfl : k = n := by omega
   have hnum := hOr.num
   have hv : val l = val a + val b := by
    have := hinv.out
    rw [qdm a (by rw [HN.out]; omega), qdm b (by rw [HN.out]; omega)] at this
    exact add_end HA.out.lt HB.out.lt (by rw [HN.out]; omega) this
   have htr := qfs _ _ _ hnum (by rw [hll.out]; omega)
   rw [hv] at htr
   have HT := qHd htr; clear hnum hv htr
   have HL := hll.out
   go_wp2_with (go_at_call 160; (with_reducible refine HT.out.mono ?_); rintro e w' ⟨v', l', rfl, hB', hN', hl'⟩)
   go_ret
   exact ⟨_, _, rfl, hBr.trans (hB'.mono hBr.size), hN', hl'⟩

def subW (x y r : Nat) : Nat := if y + r ≤ x then x - y - r else 18446744073709551616 + x - y - r
theorem subW_lt {x y r : Nat} (hx : x < 4294967296) (hy : y < 4294967296) (hr : r ≤ 1) : subW x y r < 18446744073709551616 := by unfold subW; split <;> omega
theorem subW_wrap {x y r : Nat} (hx : x < 4294967296) (hy : y < 4294967296) (hr : r ≤ 1) : IntKind.u64.wrap (IntKind.u64.wrap ((x : Int) - y) - r) = (subW x y r : Nat) := by
 have e : ∀ n : Int, IntKind.u64.wrap n = n % 18446744073709551616 := fun n => rfl
 rw [e, e]; unfold subW; split <;> omega
theorem subW_borrow {x y r : Nat} (hx : x < 4294967296) (hy : y < 4294967296) (hr : r ≤ 1) : subW x y r / 9223372036854775808 ≤ 1 ∧
  subW x y r % 4294967296 + y + r = x + 4294967296 * (subW x y r / 9223372036854775808) := by unfold subW; split <;> omega

theorem sub_ge (va vb : Value) (a b : List Nat) (w : World) (ha : Num w va a) (hb : Num w vb b) (hla : a.length ≤ 900000) (hlb : b.length ≤ 900000) (hge : val b ≤ val a) :
  Calls Tryz.prog 106 #[va, vb] w (RetNE w (val a - val b) (errV 0)) := by
 have hcmp := cmp_any va vb a b w ha hb (by omega) (by omega)
 obtain ⟨cr, hcr⟩ : ∃ cr, cr = cmpN (val a) (val b) := ⟨_, rfl⟩
 have hcr0 : decide (cr < 0) = false := by rw [hcr]; exact cmpN_nlt hge
 rw [← hcr] at hcmp
 have HC := qHd hcmp; clear hcmp hcr
 obtain ⟨ao, ca, rfl, hca, hca2, _⟩ := ha.shape
 obtain ⟨bo, cb, rfl, hcb, hcb2, _⟩ := hb.shape
 obtain ⟨n, hn⟩ : ∃ n, n = a.length := ⟨_, rfl⟩
 have hnb : n ≤ 900000 := by omega
 have hnb' : n ≤ 70368744177664 := by omega
 have HN := qHd hn
 have HA := qHd ha; have HB := qHd hb
 clear hn ha hb
 rw [qbi]
 go_enter Tryz.func106, Tryz.ntmps106
 go_wp2_with fail
 (with_reducible refine HC.out.mono ?_); rintro e w0 ⟨rfl, hb0⟩
 go_wp2_with (at_make; refine qdz Tryz.wordsTy rfl _ _ rfl _ _ _ _ n rfl rfl ?c1 ?c2 hnb' ?_)
 case c1 => rw [HN.out]
 case c2 => rw [HN.out]
 intro w1 hO hB hsz
 have hB01 := hb0.trans (hB.mono hb0.size)
 have hOb := hO.base hb0.size
 clear hO hB
 go_wp2_with fail
 go_loopw [7, 9, 20] (fun c d i wr => ∃ (k cc : Nat) (l : List Nat), k ≤ n ∧ i = .int .i64 k ∧ c = .int .u64 cc ∧ cc ≤ 1 ∧ qdu 156 wr w.heap.size (.slice (some ⟨w0.heap.size, 0, none⟩) n n) l ∧ Hid (l.length = n) ∧ Below w.heap.size w wr ∧
   Hid (val (l.take k) + val (b.take k) = val (a.take k) + 4294967296 ^ k * cc)) (fun _ _ i _ => n - (intOf i).toNat)
 case atStart => exact ⟨0, 0, _, Nat.zero_le _, rfl, rfl, by omega, hOb, qHd (by simp), hB01, qHd (by simp [val])⟩
 case round =>
  obtain ⟨k, cc, l, hk, rfl, rfl, hcc, hOr, hll, hBr, hinv⟩ := hrel
  have hak := HA.out.lt k
  have hbk := HB.out.lt k
  have har := qHd (HA.out.below hBr)
  have hbr := qHd (HB.out.below hBr)
  by_cases hkn : k < n
  ·obtain ⟨x, hx⟩ : ∃ x, x = gd a k := ⟨_, rfl⟩
   obtain ⟨y, hy⟩ : ∃ y, y = gd b k := ⟨_, rfl⟩
   have hwa := word_any _ a k wr har.out (by omega) (by omega)
   have hwb := word_any _ b k wr hbr.out (by omega) (by omega)
   rw [Int.toNat_natCast, ← hx] at hwa
   rw [Int.toNat_natCast, ← hy] at hwb
   rw [← hx] at hak
   rw [← hy] at hbk
   have HWA := qHd hwa; have HWB := qHd hwb; have HX := qHd hx; have HY := qHd hy; clear hwa hwb hx hy
   have hcell := hOr.cell hll.out k hkn
   have hfr := hOr.frozen hll.out k
   have HO := qHd hOr
   have hsw := subW_wrap hak hbk hcc
   have hslt := subW_lt hak hbk hcc
   have hsb := subW_borrow hak hbk hcc
   obtain ⟨d, hd⟩ : ∃ d, d = subW x y cc := ⟨_, rfl⟩
   rw [← hd] at hsw hslt hsb
   obtain ⟨s1, s2⟩ := hsb
   have S2 := qHd s2; have S1 := qHd s1
   have hdm : d % 4294967296 < 4294967296 := Nat.mod_lt _ (by decide)
   have HDM := qHd hdm
   clear hOr s1 s2 hd hdm
   have hcell' := hcell
   go_wp2_with (first | (go_at_call 138; (with_reducible refine HWA.out.mono ?_); rintro e w' ⟨rfl, rfl⟩) | (go_at_call 138; (with_reducible refine HWB.out.mono ?_); rintro e w' ⟨rfl, rfl⟩))
   go_roundw
   case rel =>
    have hst := HO.out.stored hll.out k (d % 4294967296) HDM.out
    exact ⟨k + 1, d / 9223372036854775808, l.set k (d % 4294967296), by omega, by go_num, rfl, S1.out, hst, qHd (by rw [List.length_set]; exact hll.out), hBr.setCell hb0.size _,
     qHd (by rw [val_take_set _ _ _ (by rw [hll.out]; exact hkn), Nat.pow_succ, qbm, qbm, ← HX.out, ← HY.out]; exact sub_step hinv.out S2.out)⟩
   case measure => simp [intOf]; omega
  ·obtain rfl : k = n := by omega
   have hnum := hOr.num
   have hv : val l = val a - val b := by
    have hi := hinv.out
    have hlt := qem (hOr.lt)
    have halt := qem HA.out.lt
    rw [hll.out] at hlt
    rw [← HN.out] at halt
    rw [qdm l (by rw [hll.out]; exact Nat.le_refl _), qdm a (by rw [HN.out]; omega), val_take HB.out.lt, Nat.mod_eq_of_lt (by omega)] at hi
    exact sub_end hlt hi hge hcc
   have htr := qda _ _ _ hnum (by rw [hll.out]; omega)
   rw [hv] at htr
   have HT := qHd htr; clear hnum hv htr
   have HL := hll.out
   go_wp2_with (go_at_call 112; (with_reducible refine HT.out.mono ?_); rintro e w' ⟨v', l', rfl, hB', hN', hl'⟩)
   go_ret2
   exact ⟨_, rfl, hBr.trans (hB'.mono hBr.size), by rw [← hl']; exact hN'⟩
theorem rsub_own (va vb : Value) (a b : List Nat) (w : World) (ha : Num w va a) (hb : Num w vb b) (hla : a.length ≤ 900000) (hlb : b.length ≤ 900000) (hge : val b ≤ val a) :
  Calls Tryz.prog 136 #[va, vb] w (RetNEO w (val a - val b) (.int .i64 0)) := by
 have hcmp := rcmp_any va vb a b w ha hb (by omega) (by omega)
 obtain ⟨cr, hcr⟩ : ∃ cr, cr = cmpN (val a) (val b) := ⟨_, rfl⟩
 have hcr0 : decide (cr < 0) = false := by rw [hcr]; exact cmpN_nlt hge
 rw [← hcr] at hcmp
 have HC := qHd hcmp; clear hcmp hcr
 obtain ⟨ao, ca, rfl, hca, hca2, _⟩ := ha.shape
 obtain ⟨bo, cb, rfl, hcb, hcb2, _⟩ := hb.shape
 obtain ⟨n, hn⟩ : ∃ n, n = a.length := ⟨_, rfl⟩
 have hni : (a.length : Int) = (n : Int) := by omega
 have HNI := qHd hni; clear hni
 have hnb : n ≤ 900000 := by omega
 have hnb' : n ≤ 70368744177664 := by omega
 have HN := qHd hn
 have HA := qHd ha; have HB := qHd hb
 clear hn ha hb
 go_enter Tryz.func136, Tryz.ntmps136
 go_wp2_with (go_at_call 135; (with_reducible refine HC.out.mono ?_); rintro e w0 ⟨rfl, rfl⟩)
 go_loopw [6, 7, 9, 16] (fun v c d i wr => ∃ (k cc : Nat) (l : List Nat), k ≤ n ∧ i = .int .i64 k ∧ c = .int .u64 cc ∧ cc ≤ 1 ∧ qdu 156 wr w.heap.size v l ∧ Hid (l.length = k) ∧ Below w.heap.size w wr ∧
   Hid (val l + val (b.take k) = val (a.take k) + 4294967296 ^ k * cc)) (fun _ _ _ i _ => n - (intOf i).toNat)
 case atStart => exact ⟨0, 0, [], Nat.zero_le _, rfl, rfl, by omega, qdu.nil _ _ _, qHd rfl, Below.refl _ _, qHd (by simp [val])⟩
 case round =>
  obtain ⟨k, cc, l, hk, rfl, rfl, hcc, hOr, hll, hBr, hinv⟩ := hrel
  have hak := HA.out.lt k
  have hbk := HB.out.lt k
  have har := qHd (HA.out.below hBr)
  have hbr := qHd (HB.out.below hBr)
  by_cases hkn : k < n
  ·have hkl : k < a.length := by rw [← HN.out]; exact hkn
   obtain ⟨x, hx⟩ : ∃ x, x = gd a k := ⟨_, rfl⟩
   obtain ⟨y, hy⟩ : ∃ y, y = gd b k := ⟨_, rfl⟩
   have hwa := qef _ a k wr har.out (by omega) (by omega)
   have hwb := qef _ b k wr hbr.out (by omega) (by omega)
   rw [Int.toNat_natCast, ← hx] at hwa
   rw [Int.toNat_natCast, ← hy] at hwb
   rw [← hx] at hak
   rw [← hy] at hbk
   have HWA := qHd hwa; have HWB := qHd hwb; have HX := qHd hx; have HY := qHd hy; clear hwa hwb hx hy
   have hszr := hBr.size
   have HO := qHd hOr
   have hsw := subW_wrap hak hbk hcc
   have hslt := subW_lt hak hbk hcc
   have hsb := subW_borrow hak hbk hcc
   obtain ⟨d, hd⟩ : ∃ d, d = subW x y cc := ⟨_, rfl⟩
   rw [← hd] at hsw hslt hsb
   obtain ⟨s1, s2⟩ := hsb
   have S2 := qHd s2; have S1 := qHd s1
   have hdm : d % 4294967296 < 4294967296 := Nat.mod_lt _ (by decide)
   have HDM := qHd hdm
   have h1 := num_one wr 156 (d % 4294967296) hdm
   have H1 := qHd h1
   clear hOr s1 s2 hd hdm h1
   go_wp2_with (first | (go_at_call 159; (with_reducible refine HWA.out.mono ?_); rintro e w' ⟨rfl, rfl⟩) | (go_at_call 159; (with_reducible refine HWB.out.mono ?_); rintro e w' ⟨rfl, rfl⟩) |
    (at_builtin; refine qcq Tryz.wordsTy rfl (.tmp 28) (.tmp 31) rfl w.heap.size _ _ l [d % 4294967296] rfl rfl (HO.out.alloc _) H1.out ?c1 ?c2 ?_))
   case c1 => rw [hll.out]; simp; omega
   case c2 => simp; omega
   intro v' w1 h1 h2 h3
   have h4 := h2 w (hBr.alloc hszr _)
   go_wp2_with fail
   go_roundw
   case rel =>
    exact ⟨k + 1, d / 9223372036854775808, l ++ [d % 4294967296], by omega, by go_num, rfl, S1.out, h1, qHd (by rw [List.length_append, hll.out]; rfl), h4,
     qHd (by rw [val_snoc, hll.out, Nat.pow_succ, qbm, qbm, ← HX.out, ← HY.out]; exact sub_step hinv.out S2.out)⟩
   case measure => simp [intOf]; omega
  ·have hkl : ¬ k < a.length := by rw [← HN.out]; exact hkn
   obtain rfl : k = n := by omega
   have hnum := hOr.num
   have hv : val l = val a - val b := by
    have hi := hinv.out
    have hlt := qem (hOr.lt)
    have halt := qem HA.out.lt
    rw [hll.out] at hlt
    rw [← HN.out] at halt
    rw [qdm a (by rw [HN.out]; omega), val_take HB.out.lt, Nat.mod_eq_of_lt (by omega)] at hi
    exact sub_end hlt hi hge hcc
   have htr := rtrim_own _ _ _ hnum (by rw [hll.out]; omega)
   rw [hv] at htr
   have HT := qHd htr; clear hnum hv htr
   have HL := hll.out
   go_wp2_with (go_at_call 160; (with_reducible refine HT.out.mono ?_); rintro e w' ⟨v', l', rfl, hB', hN', hl'⟩)
   go_ret2
   exact ⟨_, rfl, hBr.trans (hB'.mono hBr.size), by rw [← hl']; exact hN'.base hBr.size⟩
theorem rsub_ge (va vb : Value) (a b : List Nat) (w : World) (ha : Num w va a) (hb : Num w vb b) (hla : a.length ≤ 900000) (hlb : b.length ≤ 900000) (hge : val b ≤ val a) :
  Calls Tryz.prog 136 #[va, vb] w (RetNE w (val a - val b) (.int .i64 0)) := by
 refine (rsub_own va vb a b w ha hb hla hlb hge).mono ?_
 rintro e w' ⟨v, he, hbb, ho⟩
 exact ⟨v, he, hbb, ho.num⟩
theorem mul_any (va vb : Value) (a b : List Nat) (w : World) (ha : Num w va a) (hb : Num w vb b) (hla : a.length ≤ 450000) (hlb : b.length ≤ 450000) :
  Calls Tryz.prog 104 #[va, vb] w (RetNum w fun r => r = wd (val a * val b)) := by
 obtain ⟨ao, ca, rfl, hca, hca2, _⟩ := ha.shape
 obtain ⟨bo, cb, rfl, hcb, hcb2, _⟩ := hb.shape
 obtain ⟨n, hn⟩ : ∃ n, n = a.length + b.length := ⟨_, rfl⟩
 have hnb : n ≤ 900000 := by omega
 have hnb' : n ≤ 70368744177664 := by omega
 have hna : a.length + b.length ≤ n := by omega
 have HN := qHd hn
 have HA := qHd ha; have HB := qHd hb
 clear hn ha hb
 go_enter Tryz.func104, Tryz.ntmps104
 go_wp2_with (at_make; refine qdz Tryz.wordsTy rfl _ _ rfl _ _ _ _ n rfl rfl ?c1 ?c2 hnb' ?_)
 case c1 => rw [HN.out]; rfl
 case c2 => rw [HN.out]; rfl
 intro w1 hO hB hsz
 go_wp2_with fail
 go_loopw [19] (fun iv wr => ∃ (i : Nat) (l : List Nat), i ≤ a.length ∧ iv = .int .i64 i ∧ qdu 156 wr w.heap.size (.slice (some ⟨w.heap.size, 0, none⟩) n n) l ∧ Hid (l.length = n) ∧ Below w.heap.size w wr ∧
   Hid (val l = val (a.take i) * val b)) (fun i _ => a.length - (intOf i).toNat)
 case atStart => exact ⟨0, _, Nat.zero_le _, rfl, hO, qHd (by simp), hB, qHd (by simp [val, val_zeros])⟩
 case round =>
  obtain ⟨i, l, hi, rfl, hOr, hll, hBr, hinv⟩ := hrel
  obtain ⟨wo, rfl⟩ : ∃ wo : World, wo = wr := ⟨_, rfl⟩
  by_cases hin : i < a.length
  ·have har := HA.out.below hBr
   obtain ⟨ba, oa, rfl, _, hca⟩ := har.at (by omega)
   have hx := hca i hin
   have hxl := HA.out.lt i
   obtain ⟨x, hxe⟩ : ∃ x, x = gd a i := ⟨_, rfl⟩
   rw [← hxe] at hx hxl
   have hz := gd_zero_of_lt hOr.lt (n := i + b.length) (by rw [hinv.out]; exact mul_lt HA.out.lt HB.out.lt i)
   have HZ := qHd hz
   have HX := qHd hxe; have HO := qHd hOr; have HAR := qHd har
   clear hxe hOr har hca hz
   go_wp2_with fail
   go_loopw [8, 26] (fun cv kv wr => ∃ (k c : Nat) (m : List Nat), k ≤ b.length ∧ kv = .int .i64 k ∧ cv = .int .u64 c ∧ c < 4294967296 ∧ qdu 156 wr w.heap.size (.slice (some ⟨w.heap.size, 0, none⟩) n n) m ∧ Hid (m.length = n) ∧ Below w.heap.size w wr ∧
     Hid (val m + 4294967296 ^ (i + k) * c = val (a.take i) * val b + 4294967296 ^ i * (x * val (b.take k))) ∧ Hid (∀ j, i + b.length ≤ j → gd m j = 0)) (fun _ k _ => b.length - (intOf k).toNat)
   case atStart => exact ⟨0, 0, l, Nat.zero_le _, rfl, rfl, by omega, HO.out, hll, hBr, qHd (by rw [hinv.out]; simp [val]), HZ⟩
   case round =>
    obtain ⟨k, c, m, hk, rfl, rfl, hc, hOm, hml, hBm, hinm, hzm⟩ := hrel
    by_cases hkn : k < b.length
    ·have hbr := HB.out.below hBm
     obtain ⟨bb, ob, rfl, _, hcb⟩ := hbr.at (by omega)
     have hy := hcb k hkn
     have hyl := HB.out.lt k
     obtain ⟨y, hye⟩ : ∃ y, y = gd b k := ⟨_, rfl⟩
     rw [← hye] at hy hyl
     have hik : i + k < n := by omega
     have hcell := hOm.cell hml.out (i + k) hik
     have hfr := hOm.frozen hml.out (i + k)
     have hol := hOm.lt (i + k)
     obtain ⟨o, hoe⟩ : ∃ o, o = gd m (i + k) := ⟨_, rfl⟩
     rw [← hoe] at hcell hol
     obtain ⟨p, hpe⟩ : ∃ p, p = x * y := ⟨_, rfl⟩
     have hpi : (x : Int) * (y : Int) = (p : Int) := by rw [hpe]; rfl
     have hpl := word_mul hxl hyl
     rw [← hpe] at hpl
     obtain ⟨s1, s2⟩ := mul_bounds hc hpl hol
     have HY := qHd hye; have HO := qHd hOm; have HOE := qHd hoe; have HPE := qHd hpe; have S1 := qHd s1; have S2 := qHd s2
     clear hye hOm hoe hpe hbr hcb s1 s2
     go_wp2_with fail
     go_roundw
     case rel =>
      have hst := HO.out.stored hml.out (i + k) ((c + (p + o)) % 4294967296) S2.out
      have hvs := val_set m (i + k) ((c + (p + o)) % 4294967296) (by rw [hml.out]; exact hik)
      rw [← HOE.out] at hvs
      refine ⟨k + 1, (c + (p + o)) / 4294967296, m.set (i + k) ((c + (p + o)) % 4294967296), by omega, by go_num, rfl, S1.out, hst, qHd (by rw [List.length_set]; exact hml.out), hBm.setCell (Nat.le_refl _) _, qHd ?_, qHd ?_⟩
      ·have h3 := mul_step hinm.out rfl hvs
       have e5 : i + (k + 1) = (i + k) + 1 := rfl
       rw [e5, Nat.pow_succ, h3, Nat.pow_add, HPE.out]
       exact mul_row _ _ _ _ _ _ HY.out
      ·intro j hj
       rw [gd_set, if_neg (by omega)]; exact hzm.out j hj
     case measure => simp [intOf]; omega
    ·obtain rfl : k = b.length := by omega
     have hik : i + b.length < n := by omega
     have hcell := hOm.cell hml.out (i + b.length) hik
     have hfr := hOm.frozen hml.out (i + b.length)
     have HO := qHd hOm
     have hcm : c % 4294967296 = c := Nat.mod_eq_of_lt hc
     have hci : (c : Int) % 4294967296 = (c : Int) := by omega
     have HCM := qHd hcm
     clear hOm hcm
     go_wp2_with fail
     go_roundw
     case rel =>
      have hst := HO.out.stored hml.out (i + b.length) c hc
      have hvs := val_set m (i + b.length) c (by rw [hml.out]; exact hik)
      rw [hzm.out _ (Nat.le_refl _)] at hvs
      refine ⟨i + 1, m.set (i + b.length) c, by omega, by go_num, hst, qHd (by rw [List.length_set]; exact hml.out), hBm.setCell (Nat.le_refl _) _, qHd ?_⟩
      have h3 := hinm.out
      rw [List.take_of_length_le (Nat.le_refl _), mul_rows _ _ _ _ HX.out] at h3
      omega
     case measure => simp [intOf]; omega
  ·obtain rfl : i = a.length := by omega
   have hnum := hOr.num
   have htr := qda _ _ _ hnum (by rw [hll.out]; omega)
   rw [hinv.out, List.take_of_length_le (Nat.le_refl _)] at htr
   have HT := qHd htr; clear hnum htr
   have HL := hll.out
   go_wp2_with (go_at_call 112; (with_reducible refine HT.out.mono ?_); rintro e w' ⟨v', l', rfl, hB', hN', hl'⟩)
   go_ret
   exact ⟨_, _, rfl, hBr.trans (hB'.mono hBr.size), hN', hl'⟩
theorem rmul_any (va vb : Value) (a b : List Nat) (w : World) (ha : Num w va a) (hb : Num w vb b) (hla : a.length ≤ 450000) (hlb : b.length ≤ 450000) :
  Calls Tryz.prog 133 #[va, vb] w (RetNum w fun r => r = wd (val a * val b)) := by
 obtain ⟨ao, ca, rfl, hca, hca2, _⟩ := ha.shape
 obtain ⟨bo, cb, rfl, hcb, hcb2, _⟩ := hb.shape
 obtain ⟨n, hn⟩ : ∃ n, n = a.length + b.length + 1 := ⟨_, rfl⟩
 have hnb : n ≤ 900001 := by omega
 have hnb' : n ≤ 70368744177664 := by omega
 have hna : a.length + b.length < n := by omega
 have HN := qHd hn
 have HA := qHd ha; have HB := qHd hb
 clear hn ha hb
 go_enter Tryz.func133, Tryz.ntmps133
 go_wp2_with (at_make; refine qdz Tryz.wordsTy rfl _ _ rfl _ _ _ _ n rfl rfl ?c1 ?c2 hnb' ?_)
 case c1 => rw [HN.out]; rfl
 case c2 => rw [HN.out]; rfl
 intro w1 hO hB hsz
 go_wp2_with fail
 go_loopw [20] (fun iv wr => ∃ (i : Nat) (l : List Nat), i ≤ a.length ∧ iv = .int .i64 i ∧ qdu 156 wr w.heap.size (.slice (some ⟨w.heap.size, 0, none⟩) n n) l ∧ Hid (l.length = n) ∧ Below w.heap.size w wr ∧
   Hid (val l = val (a.take i) * val b)) (fun i _ => a.length - (intOf i).toNat)
 case atStart => exact ⟨0, _, Nat.zero_le _, rfl, hO, qHd (by simp), hB, qHd (by simp [val, val_zeros])⟩
 case round =>
  obtain ⟨i, l, hi, rfl, hOr, hll, hBr, hinv⟩ := hrel
  obtain ⟨wo, rfl⟩ : ∃ wo : World, wo = wr := ⟨_, rfl⟩
  by_cases hin : i < a.length
  ·have har := HA.out.below hBr
   obtain ⟨ba, oa, rfl, _, hca⟩ := har.at (by omega)
   have hx := hca i hin
   have hxl := HA.out.lt i
   obtain ⟨x, hxe⟩ : ∃ x, x = gd a i := ⟨_, rfl⟩
   rw [← hxe] at hx hxl
   have HX := qHd hxe; have HO := qHd hOr; have HAR := qHd har
   clear hxe hOr har hca
   go_wp2_with fail
   go_loopw [8, 28] (fun cv kv wr => ∃ (k c : Nat) (m : List Nat), k ≤ b.length + 1 ∧ kv = .int .i64 k ∧ cv = .int .u64 c ∧ c < 4294967296 ∧ qdu 156 wr w.heap.size (.slice (some ⟨w.heap.size, 0, none⟩) n n) m ∧ Hid (m.length = n) ∧ Below w.heap.size w wr ∧
     Hid (val m + 4294967296 ^ (i + k) * c = val (a.take i) * val b + 4294967296 ^ i * (x * val (b.take k)))) (fun _ k _ => b.length + 1 - (intOf k).toNat)
   case atStart => exact ⟨0, 0, l, Nat.zero_le _, rfl, rfl, by omega, HO.out, hll, hBr, qHd (by rw [hinv.out]; simp [val])⟩
   case round =>
    obtain ⟨k, c, m, hk, rfl, rfl, hc, hOm, hml, hBm, hinm⟩ := hrel
    by_cases hkn : k < b.length + 1
    ·have hbr := qHd (HB.out.below hBm)
     have hyl := HB.out.lt k
     obtain ⟨y, hye⟩ : ∃ y, y = gd b k := ⟨_, rfl⟩
     have hwb : ∀ nq, Calls Tryz.prog 159 #[.slice bo b.length cb, .int .i64 k] (wr.drewN nq) (RetS (wr.drewN nq) (.int .u64 (y : Nat))) := fun nq => by
      have h := qef _ b k (wr.drewN nq) (hbr.out.below (qbg (Below.refl _ _) nq)) (by omega) (by omega)
      rw [Int.toNat_natCast, ← hye] at h; exact h
     have HWB := qHd hwb
     rw [← hye] at hyl
     have hik : i + k < n := by omega
     have hcell := hOm.cell hml.out (i + k) hik
     have hfr := hOm.frozen hml.out (i + k)
     have hol := hOm.lt (i + k)
     obtain ⟨o, hoe⟩ : ∃ o, o = gd m (i + k) := ⟨_, rfl⟩
     rw [← hoe] at hcell hol
     obtain ⟨p, hpe⟩ : ∃ p, p = x * y := ⟨_, rfl⟩
     have hpi : (x : Int) * (y : Int) = (p : Int) := by rw [hpe]; rfl
     have hpl := word_mul hxl hyl
     rw [← hpe] at hpl
     obtain ⟨s1, s2⟩ := mul_bounds hc hpl hol
     have e1 : c + (p + o) = p + o + c := by omega
     have E1 := qHd e1
     rw [e1] at s1 s2
     clear e1
     have HY := qHd hye; have HO := qHd hOm; have HOE := qHd hoe; have HPE := qHd hpe; have S1 := qHd s1; have S2 := qHd s2
     clear hye hOm hoe hpe hwb s1 s2
     go_wp2_with fail
     go_quiet ((go_at_call 159; exact Calls.quiet_of_same (ret_quiet (HWB.out _))))
     go_wp2_with fail
     go_roundw
     case rel =>
      have hst := (HO.out.below (qbg (Below.refl _ _) nq)).stored hml.out (i + k) ((p + o + c) % 4294967296) S2.out
      have hvs := val_set m (i + k) ((p + o + c) % 4294967296) (by rw [hml.out]; exact hik)
      rw [← HOE.out] at hvs
      refine ⟨k + 1, (p + o + c) / 4294967296, m.set (i + k) ((p + o + c) % 4294967296), by omega, by go_num, rfl, S1.out, hst, qHd (by rw [List.length_set]; exact hml.out), (qbg hBm nq).setCell (Nat.le_refl _) _, qHd ?_⟩
      ·have h3 := mul_step hinm.out E1.out.symm hvs
       have e5 : i + (k + 1) = (i + k) + 1 := rfl
       rw [e5, Nat.pow_succ, h3, Nat.pow_add, HPE.out]
       exact mul_row _ _ _ _ _ _ HY.out
     case measure => simp [intOf]; omega
    ·obtain rfl : k = b.length + 1 := by omega
     go_wp2_with fail
     go_roundw
     case rel =>
      refine ⟨i + 1, m, by omega, by go_num, hOm, hml, hBm, qHd ?_⟩
      have h3 := hinm.out
      rw [List.take_of_length_le (Nat.le_succ _), mul_rows _ _ _ _ HX.out] at h3
      have h4 := mul_lt HA.out.lt HB.out.lt (i + 1)
      rw [show i + 1 + b.length = i + (b.length + 1) from by omega] at h4
      exact mul_spent h3 h4
     case measure => simp [intOf]; omega
  ·obtain rfl : i = a.length := by omega
   have hnum := hOr.num
   have htr := qfs _ _ _ hnum (by rw [hll.out]; omega)
   rw [hinv.out, List.take_of_length_le (Nat.le_refl _)] at htr
   have HT := qHd htr; clear hnum htr
   have HL := hll.out
   go_wp2_with (go_at_call 160; (with_reducible refine HT.out.mono ?_); rintro e w' ⟨v', l', rfl, hB', hN', hl'⟩)
   go_ret
   exact ⟨_, _, rfl, hBr.trans (hB'.mono hBr.size), hN', hl'⟩
end Go.Proofs.YthhgfhdmfhnklaaGreatDoor
namespace Go.Proofs
open Go.Shelf
def Tryz.lays169_ren : Go.Shelf.Ren := ⟨fun | 169 => 72 | n => n, fun | 70 => 126 | 9 => 9 | 0 => 0 | 72 => 129 | 37 => 127 | 127 => 165 | 3 => 3 | 5 => 5 | n => n, fun | n => n⟩
theorem Tryz.lays169 : Go.Proofs.Lays.n169 Tryz.prog Tryz.lays169_ren := {
 mixed := by kernel_rfl
 f169 := Tryz.func72.trans (congrArg some (by kernel_rfl))
 t0 := Tryz.underlying0
 a0 := Tryz.isAgg0
 z0 := Tryz.sizeOf0
 v0 := Tryz.zeroValue0
 t3 := Tryz.underlying3
 a3 := Tryz.isAgg3
 z3 := Tryz.sizeOf3
 v3 := Tryz.zeroValue3
 t9 := Tryz.underlying9
 a9 := Tryz.isAgg9
 z9 := Tryz.sizeOf9
 v9 := Tryz.zeroValue9
 t37 := Tryz.underlying127
 a37 := Tryz.isAgg127
 z37 := Tryz.sizeOf127
 v37 := Tryz.zeroValue127
 t70 := Tryz.underlying126
 a70 := Tryz.isAgg126
 z70 := Tryz.sizeOf126
 v70 := Tryz.zeroValue126
 t72 := Tryz.underlying129
 a72 := Tryz.isAgg129
 z72 := Tryz.sizeOf129
 v72 := Tryz.zeroValue129
 t127 := Tryz.underlying165
 a127 := Tryz.isAgg165
 z127 := Tryz.sizeOf165
 v127 := Tryz.zeroValue165 }
theorem Tryz.Builder_Extra_169 : Builder.Extra Tryz.prog Tryz.lays169_ren := {
 sizeBuilder := by kernel_rfl
 liesBuilder := by kernel_rfl
 t5 := Tryz.underlying5
 a5 := Tryz.isAgg5
 z5 := Tryz.sizeOf5
 v5 := Tryz.zeroValue5
 infoByte := by kernel_rfl
 cellsByte := by kernel_rfl
 sizeByte := by kernel_rfl
 neB5 := by decide }
open Go.RowKit in
/-- (*strings.Builder).String: "String returns the accumulated string.": WHATEVER THE BUILDER HOLDS. (LAID: no walk: one application.) -/
theorem Tryz.Builder_String_any (B b : Nat) (l : List UInt8) (w : World) (h : Lib.IsBuilder 129 5 B b (Lib.byteCells l) w) (hBw : B ≤ w.heap.size) :
  Calls Tryz.prog 72 #[.pointer (some ⟨b, 0, none⟩)] w fun e w' => e = .returned (.string ⟨l.toArray⟩) ∧ Below B w w' := Any.Builder_String_any Tryz.lays169 Tryz.Builder_Extra_169 B b l w h hBw
def Tryz.lays161_ren : Go.Shelf.Ren := ⟨fun | 161 => 115 | 231 => 145 | 227 => 146 | 233 => 147 | 235 => 148 | 228 => 165 | 197 => 166 | 151 => 167 | 260 => 172 | 152 => 173 | 137 => 179 | 119 => 180 | 224 => 181 | 225 => 182 | 217 => 185 | 266 => 186 | n => n, fun | 9 => 9 | 4 => 4 | 3 => 3 | 5 => 5 | 117 => 195 | 116 => 194 | 0 => 0 | 124 => 198 | 105 => 210 | 21 => 21 | 119 => 224 | 46 => 186 | 139 => 227 | 138 => 226 | n => n, fun | 3 => 1 | 4 => 2 | n => n⟩
theorem Tryz.lays161 : Go.Proofs.Lays.n161 Tryz.prog Tryz.lays161_ren := {
 mixed := by kernel_rfl
 f119 := Tryz.func180.trans (congrArg some (by kernel_rfl))
 f137 := Tryz.func179.trans (congrArg some (by kernel_rfl))
 f151 := Tryz.func167.trans (congrArg some (by kernel_rfl))
 f152 := Tryz.func173.trans (congrArg some (by kernel_rfl))
 f161 := Tryz.func115.trans (congrArg some (by kernel_rfl))
 f197 := Tryz.func166.trans (congrArg some (by kernel_rfl))
 f217 := Tryz.func185.trans (congrArg some (by kernel_rfl))
 f224 := Tryz.func181.trans (congrArg some (by kernel_rfl))
 f225 := Tryz.func182.trans (congrArg some (by kernel_rfl))
 f227 := Tryz.func146.trans (congrArg some (by kernel_rfl))
 f228 := Tryz.func165.trans (congrArg some (by kernel_rfl))
 f231 := Tryz.func145.trans (congrArg some (by kernel_rfl))
 f233 := Tryz.func147.trans (congrArg some (by kernel_rfl))
 f235 := Tryz.func148.trans (congrArg some (by kernel_rfl))
 f260 := Tryz.func172.trans (congrArg some (by kernel_rfl))
 f266 := Tryz.func186.trans (congrArg some (by kernel_rfl))
 t0 := Tryz.underlying0
 a0 := Tryz.isAgg0
 z0 := Tryz.sizeOf0
 v0 := Tryz.zeroValue0
 t3 := Tryz.underlying3
 a3 := Tryz.isAgg3
 z3 := Tryz.sizeOf3
 v3 := Tryz.zeroValue3
 t4 := Tryz.underlying4
 a4 := Tryz.isAgg4
 z4 := Tryz.sizeOf4
 v4 := Tryz.zeroValue4
 t5 := Tryz.underlying5
 a5 := Tryz.isAgg5
 z5 := Tryz.sizeOf5
 v5 := Tryz.zeroValue5
 t9 := Tryz.underlying9
 a9 := Tryz.isAgg9
 z9 := Tryz.sizeOf9
 v9 := Tryz.zeroValue9
 t21 := Tryz.underlying21
 a21 := Tryz.isAgg21
 z21 := Tryz.sizeOf21
 v21 := Tryz.zeroValue21
 t46 := Tryz.underlying186
 a46 := Tryz.isAgg186
 z46 := Tryz.sizeOf186
 v46 := Tryz.zeroValue186
 t105 := Tryz.underlying210
 a105 := Tryz.isAgg210
 z105 := Tryz.sizeOf210
 v105 := Tryz.zeroValue210
 t116 := Tryz.underlying194
 a116 := Tryz.isAgg194
 z116 := Tryz.sizeOf194
 t117 := Tryz.underlying195
 a117 := Tryz.isAgg195
 z117 := Tryz.sizeOf195
 v117 := Tryz.zeroValue195
 t119 := Tryz.underlying224
 a119 := Tryz.isAgg224
 z119 := Tryz.sizeOf224
 t124 := Tryz.underlying198
 a124 := Tryz.isAgg198
 z124 := Tryz.sizeOf198
 v124 := Tryz.zeroValue198
 t138 := Tryz.underlying226
 a138 := Tryz.isAgg226
 z138 := Tryz.sizeOf226
 v138 := Tryz.zeroValue226
 t139 := Tryz.underlying227
 a139 := Tryz.isAgg227
 z139 := Tryz.sizeOf227
 v139 := Tryz.zeroValue227
 g3 := by kernel_rfl
 g4 := by kernel_rfl }
open Go.RowKit in
/-- strings.TrimLeft: "TrimLeft returns a slice of the string s with all leading Unicode code points contained in cutset removed.": AT A cutset OF ONE ASCII BYTE. The world is as it was. (LAID: no walk: one application.) -/
theorem Tryz.strings_TrimLeft_one (s : ByteArray) (c : UInt8) (hc : c.toNat < 128) (w : World) :
  Calls Tryz.prog 115 #[.string s, .string ⟨#[c]⟩] w fun e w' => e = .returned (.string ⟨(Lib.trimLeftB s.data.toList c).toArray⟩) ∧ w' = w := Any.strings_TrimLeft_one Tryz.lays161 s c hc w
def Tryz.lays128_ren : Go.Shelf.Ren := ⟨fun | 128 => 152 | n => n, fun | 51 => 156 | 3 => 3 | 4 => 4 | 46 => 186 | 5 => 5 | 9 => 9 | n => n, fun | n => n⟩
theorem Tryz.lays128 : Go.Proofs.Lays.n128 Tryz.prog Tryz.lays128_ren := {
 mixed := by kernel_rfl
 f128 := Tryz.func152.trans (congrArg some (by kernel_rfl))
 t3 := Tryz.underlying3
 a3 := Tryz.isAgg3
 z3 := Tryz.sizeOf3
 v3 := Tryz.zeroValue3
 t4 := Tryz.underlying4
 a4 := Tryz.isAgg4
 z4 := Tryz.sizeOf4
 v4 := Tryz.zeroValue4
 t5 := Tryz.underlying5
 a5 := Tryz.isAgg5
 z5 := Tryz.sizeOf5
 v5 := Tryz.zeroValue5
 t9 := Tryz.underlying9
 a9 := Tryz.isAgg9
 z9 := Tryz.sizeOf9
 v9 := Tryz.zeroValue9
 t46 := Tryz.underlying186
 a46 := Tryz.isAgg186
 z46 := Tryz.sizeOf186
 v46 := Tryz.zeroValue186
 t51 := Tryz.underlying156
 a51 := Tryz.isAgg156
 z51 := Tryz.sizeOf156
 v51 := Tryz.zeroValue156 }
theorem Tryz.bits_Len32 (x : Int) (w : World) (h0 : 0 ≤ x) (h1 : x ≤ 4294967295) :
  Calls Tryz.prog 152 #[.int .u32 x] w fun e w' => e = .returned (.int .i64 (Lib.bitLen x.toNat)) ∧ w' = w := Any.bits_Len32 Tryz.lays128 x w h0 h1
def Tryz.lays133_ren : Go.Shelf.Ren := ⟨fun | 133 => 153 | 128 => 152 | n => n, fun | 51 => 156 | 3 => 3 | 4 => 4 | 46 => 186 | 5 => 5 | 9 => 9 | n => n, fun | n => n⟩
theorem Tryz.lays133 : Go.Proofs.Lays.n133 Tryz.prog Tryz.lays133_ren := {
 mixed := by kernel_rfl
 f128 := Tryz.func152.trans (congrArg some (by kernel_rfl))
 f133 := Tryz.func153.trans (congrArg some (by kernel_rfl))
 t3 := Tryz.underlying3
 a3 := Tryz.isAgg3
 z3 := Tryz.sizeOf3
 v3 := Tryz.zeroValue3
 t4 := Tryz.underlying4
 a4 := Tryz.isAgg4
 z4 := Tryz.sizeOf4
 v4 := Tryz.zeroValue4
 t5 := Tryz.underlying5
 a5 := Tryz.isAgg5
 z5 := Tryz.sizeOf5
 v5 := Tryz.zeroValue5
 t9 := Tryz.underlying9
 a9 := Tryz.isAgg9
 z9 := Tryz.sizeOf9
 v9 := Tryz.zeroValue9
 t46 := Tryz.underlying186
 a46 := Tryz.isAgg186
 z46 := Tryz.sizeOf186
 v46 := Tryz.zeroValue186
 t51 := Tryz.underlying156
 a51 := Tryz.isAgg156
 z51 := Tryz.sizeOf156
 v51 := Tryz.zeroValue156 }
theorem Tryz.bits_LeadingZeros32 (x : Int) (w : World) (h0 : 0 ≤ x) (h1 : x ≤ 4294967295) :
  Calls Tryz.prog 153 #[.int .u32 x] w fun e w' => e = .returned (.int .i64 (32 - (Lib.bitLen x.toNat : Int))) ∧ w' = w := Any.bits_LeadingZeros32 Tryz.lays133 x w h0 h1
end Go.Proofs
namespace Go.Proofs.YthhgfhdmfhnklaaGreatDoor
open Go.RowKit Go.ChangeShapes Go.WideShapes
theorem bits_any (va : Value) (a : List Nat) (w : World) (ha : Num w va a) (hla : a.length ≤ 1000000) :
  Calls Tryz.prog 124 #[va] w (RetS w (.int .i64 (blen (val a) : Nat))) := by
 obtain ⟨ao, ca, rfl, hca, hca2, _⟩ := ha.shape
 have HA := qHd ha; clear ha
 obtain ⟨r, hr⟩ : ∃ r, r = blen (val a) := ⟨_, rfl⟩
 rw [← hr]
 have HR := qHd hr; clear hr
 go_enter Tryz.func124, Tryz.ntmps124
 go_wp2_with fail
 go_loop [3] (fun i => ∃ k : Nat, k ≤ a.length ∧ i = .int .i64 ((k : Int) - 1) ∧ Hid (∀ j, k ≤ j → gd a j = 0)) (fun i => (intOf i + 1).toNat)
 case atStart => exact ⟨a.length, Nat.le_refl _, rfl, qHd fun j hj => gd_over _ _ hj⟩
 case round =>
  obtain ⟨k, hk, rfl, hz⟩ := hrel
  by_cases hk0 : k = 0
  ·subst hk0
   have hv : r = 0 := by rw [HR.out, ← qdr 0 hz.out]; rfl
   have HV := qHd hv; clear hv
   go_wp2_with fail
   go_ret
   exact ⟨by rw [HV.out]; rfl, rfl⟩
  ·obtain ⟨m, rfl⟩ : ∃ m, k = m + 1 := ⟨k - 1, by omega⟩
   have hm1 : ((m + 1 : Nat) : Int) - 1 = (m : Int) := by omega
   rw [hm1]
   clear hm1
   have hu := HA.out.lt
   obtain ⟨b, off, rfl, hbs, hcell⟩ := HA.out.at (by omega)
   have hx := hcell m (by omega)
   have hxl := hu m
   obtain ⟨x, hxe⟩ : ∃ x, x = gd a m := ⟨_, rfl⟩
   rw [← hxe] at hx hxl
   have HX := qHd hxe; have HU := qHd hu; clear hxe hcell hu
   by_cases hx0 : x = 0
   ·subst hx0
    go_wp2_with fail
    go_round
    case rel =>
     refine ⟨m, by omega, rfl, qHd fun j hj => ?_⟩
     by_cases hjm : j = m
     ·rw [hjm, ← HX.out]
     ·exact hz.out j (by omega)
    case measure => simp [intOf]
   ·have hd : (bne (x : Int) 0) = true := by simp; omega
    have hv : r = 32 * m + blen x := by
     rw [HR.out, ← qdr (m + 1) hz.out, qbm, ← HX.out]
     exact blen_top (val_take_lt HU.out m) hx0
    have hl := Tryz.bits_Len32 x w (by omega) (by omega)
    rw [Int.toNat_natCast, bitLen_eq x hxl] at hl
    have hbl : blen x ≤ 32 := blen_le hxl
    obtain ⟨y, hy⟩ : ∃ y, y = blen x := ⟨_, rfl⟩
    rw [← hy] at hl hv hbl
    have HL := qHd hl; have HV := qHd hv
    clear hl hv hy hx0
    go_wp2_with (go_at_call 152; (with_reducible refine HL.out.mono ?_); rintro e w' ⟨rfl, rfl⟩)
    go_ret
    exact ⟨qfb (by rw [HV.out]; omega), rfl⟩

theorem bit_test (x k : Nat) (hx : x < 4294967296) : bits .and .u32 ((x : Int) / 2 ^ k) 1 = ((x / 2 ^ k % 2 : Nat) : Int) := by
 have e : ((x : Int) / 2 ^ k) = ((x / 2 ^ k : Nat) : Int) := by rw [Int.natCast_ediv]; simp
 have h : x / 2 ^ k ≤ x := Nat.div_le_self _ _
 rw [e, show (1 : Int) = ((1 : Nat) : Int) from rfl, (bits_nat .u32 32 (by decide) wraps_u32 (x / 2 ^ k) 1 (by omega) (by omega)).1]
 congr 1
 rw [Nat.and_one_is_mod]

theorem rbits_any (va : Value) (a : List Nat) (w : World) (ha : Num w va a) (hla : a.length ≤ 1000000) :
  Calls Tryz.prog 139 #[va] w (RetS w (.int .i64 (blen (val a) : Nat))) := by
 obtain ⟨ao, ca, rfl, hca, hca2, _⟩ := ha.shape
 have HA := qHd ha; clear ha
 go_enter Tryz.func139, Tryz.ntmps139
 go_wp2_with fail
 go_loop [3, 9] (fun n i => ∃ k : Nat, k ≤ a.length ∧ i = .int .i64 k ∧ n = .int .i64 (blen (val (a.take k)) : Nat)) (fun _ i => a.length - (intOf i).toNat)
 case atStart => exact ⟨0, Nat.zero_le _, rfl, by simp [val, blen_zero]⟩
 case round =>
  obtain ⟨k, hk, rfl, rfl⟩ := hrel
  by_cases hkn : k < a.length
  ·have hu := HA.out.lt
   obtain ⟨b, off, rfl, hbs, hcell⟩ := HA.out.at (by omega)
   have hx := hcell k (by omega)
   have hxl := hu k
   obtain ⟨x, hxe⟩ : ∃ x, x = gd a k := ⟨_, rfl⟩
   rw [← hxe] at hx hxl
   have HX := qHd hxe; have HU := qHd hu; clear hxe hcell hu
   go_wp2_with fail
   go_loop [3, 14] (fun n i => ∃ m : Nat, m ≤ 32 ∧ i = .int .i64 m ∧ n = .int .i64 (blen (val (a.take k) + 4294967296 ^ k * (x % 2 ^ m)) : Nat)) (fun _ i => 32 - (intOf i).toNat)
   case atStart => exact ⟨0, Nat.zero_le _, rfl, by simp [Nat.mod_one]⟩
   case round =>
    obtain ⟨m, hm, rfl, rfl⟩ := hrel
    by_cases hmn : m < 32
    ·have hbt := bit_test x m hxl
     obtain ⟨y, hy⟩ : ∃ y, y = x / 2 ^ m % 2 := ⟨_, rfl⟩
     rw [← hy] at hbt
     have hyl : y < 2 := by omega
     have HY := qHd hy; clear hy
     by_cases hy1 : y = 1
     ·subst hy1
      have hB := blen_bit (k := m) (val_take_lt HU.out k) HY.out.symm
      have HB := qHd hB; clear hB
      go_wp2_with fail
      go_round
      case rel => exact ⟨m + 1, by omega, by go_num, by rw [HB.out]; go_num⟩
      case measure => simp [intOf]; omega
     ·obtain rfl : y = 0 := by omega
      have hB : x % 2 ^ (m + 1) = x % 2 ^ m := by rw [mod_two_pow_succ, ← HY.out, Nat.mul_zero, Nat.add_zero]
      have HB := qHd hB; clear hB
      go_wp2_with fail
      go_round
      case rel => exact ⟨m + 1, by omega, by go_num, by rw [HB.out]⟩
      case measure => simp [intOf]; omega
    ·obtain rfl : m = 32 := by omega
     have hB : val (a.take k) + 4294967296 ^ k * (x % 2 ^ 32) = val (a.take (k + 1)) := by
      rw [qbm, ← HX.out, Nat.mod_eq_of_lt hxl]
     have HB := qHd hB; clear hB
     go_wp2_with fail
     go_round
     case rel => exact ⟨k + 1, by omega, by go_num, by rw [HB.out]⟩
     case measure => simp [intOf]; omega
  ·obtain rfl : k = a.length := by omega
   have hB : val (a.take a.length) = val a := by rw [List.take_of_length_le (Nat.le_refl _)]
   have HB := qHd hB; clear hB
   go_wp2_with fail
   go_ret
   exact ⟨rfl, rfl⟩
def RetSmall (w : World) (q r : Nat) (e : Ending) (w' : World) : Prop := ∃ v, e = .returned (.tuple #[v, .int .u32 r]) ∧ Below w.heap.size w w' ∧ Num w' v (wd q)

def RetSmallO (w : World) (q r : Nat) (e : Ending) (w' : World) : Prop := ∃ v, e = .returned (.tuple #[v, .int .u32 r]) ∧ Below w.heap.size w w' ∧ qdu 156 w' w.heap.size v (wd q)

theorem small_own (va : Value) (a : List Nat) (b : Nat) (w : World) (ha : Num w va a) (hla : a.length ≤ 900000) (hb0 : 0 < b) (hb : b < 4294967296) :
  Calls Tryz.prog 113 #[va, .int .u32 b] w (RetSmallO w (val a / b) (val a % b)) := by
 obtain ⟨ao, ca, rfl, hca, hca2, _⟩ := ha.shape
 obtain ⟨n, hn⟩ : ∃ n, n = a.length := ⟨_, rfl⟩
 have hnb' : n ≤ 70368744177664 := by omega
 have hnb : n ≤ 900000 := by omega
 have HN := qHd hn
 have HA := qHd ha
 clear hn ha
 go_enter Tryz.func113, Tryz.ntmps113
 go_wp2_with (at_make; refine qdz Tryz.wordsTy rfl _ _ rfl _ _ _ _ n rfl rfl ?c1 ?c2 hnb' ?_)
 case c1 => rw [HN.out]
 case c2 => rw [HN.out]
 intro w1 hO hB hsz
 go_wp2_with fail
 go_loopw [7, 8] (fun rv i wr => ∃ (k r : Nat) (l : List Nat), k ≤ n ∧ i = .int .i64 ((k : Int) - 1) ∧ rv = .int .u64 r ∧ r < b ∧ qdu 156 wr w.heap.size (.slice (some ⟨w.heap.size, 0, none⟩) n n) l ∧ Hid (l.length = n) ∧ Below w.heap.size w wr ∧
   Hid (val (a.drop k) = val (l.drop k) * b + r)) (fun _ i _ => (intOf i + 1).toNat)
 case atStart => exact ⟨n, 0, _, Nat.le_refl _, by rw [HN.out], rfl, hb0, hO, qHd (by simp), hB, qHd (by rw [HN.out]; simp [val])⟩
 case round =>
  obtain ⟨k, r, l, hk, rfl, rfl, hr, hOr, hll, hBr, hinv⟩ := hrel
  by_cases hk0 : k = 0
  ·subst hk0
   have hnum := hOr.num
   have hinv' := hinv.out
   rw [List.drop_zero, List.drop_zero] at hinv'
   obtain ⟨h1, h2⟩ := div_of_eq hinv' hr
   have htr := trim_own _ _ _ hnum (by rw [hll.out]; omega)
   rw [h1] at htr
   have hrm : (r : Int) % 4294967296 = (r : Int) := by omega
   have HT := qHd htr; have H2 := qHd h2; clear hnum hinv' h1 h2 htr
   have HL := hll.out
   go_wp2_with fail
   (with_reducible refine HT.out.mono ?_); rintro e w' ⟨v', l', rfl, hB', hN', hl'⟩
   go_wp2_with fail
   go_ret2
   exact ⟨v', by rw [← H2.out]; rfl, hBr.trans (hB'.mono hBr.size), by rw [← hl']; exact hN'.base hBr.size⟩
  ·obtain ⟨m, rfl⟩ : ∃ m, k = m + 1 := ⟨k - 1, by omega⟩
   have hm1 : ((m + 1 : Nat) : Int) - 1 = (m : Int) := by omega
   rw [hm1]
   clear hm1
   have har := HA.out.below hBr
   obtain ⟨ba, oa, rfl, _, hca⟩ := har.at (by rw [← HN.out]; omega)
   have hma : m < a.length := by rw [← HN.out]; omega
   have hx := hca m hma
   have hxl := HA.out.lt m
   obtain ⟨x, hxe⟩ : ∃ x, x = gd a m := ⟨_, rfl⟩
   rw [← hxe] at hx hxl
   have hcell := hOr.cell hll.out m hk
   have hfr := hOr.frozen hll.out m
   have hor := or_words' x r hxl (by omega)
   have hst := small_step (x := x) hinv.out
   have hql := small_lt (Nat.le_of_lt hb) hr hxl
   have hrl : (r * 4294967296 + x) % b < b := Nat.mod_lt _ hb0
   have hnl : r * 4294967296 + x < 18446744073709551616 := by omega
   obtain ⟨N, hN⟩ : ∃ N, N = r * 4294967296 + x := ⟨_, rfl⟩
   rw [← hN] at hor hst hql hrl hnl
   obtain ⟨q, hq⟩ : ∃ q, q = N / b := ⟨_, rfl⟩
   obtain ⟨t, ht⟩ : ∃ t, t = N % b := ⟨_, rfl⟩
   rw [← hq] at hst hql
   rw [← ht] at hst hrl
   have hqi : (N : Int) / (b : Int) = (q : Int) := by rw [hq]; simp
   have hti : (N : Int) % (b : Int) = (t : Int) := by rw [ht]; simp
   have hqm : (q : Int) % 4294967296 = (q : Int) := by omega
   have HTI := qHd hti
   have HX := qHd hxe; have HO := qHd hOr; have HST := qHd hst; have HQL := qHd hql; have HRL := qHd hrl
   clear hxe hOr har hca hst hql hrl hN hq ht
   go_wp2_with fail
   go_roundw
   case rel =>
    have hst := HO.out.stored hll.out m q HQL.out
    exact ⟨m, t, l.set m q, by omega, rfl, by rw [HTI.out], HRL.out, hst, qHd (by rw [List.length_set]; exact hll.out), hBr.setCell (Nat.le_refl _) _,
     qHd (by rw [val_drop_set _ _ _ (by rw [hll.out]; exact hk), val_drop_at a, ← HX.out]; exact HST.out)⟩
   case measure => simp [intOf]

theorem small_any (va : Value) (a : List Nat) (b : Nat) (w : World) (ha : Num w va a) (hla : a.length ≤ 900000) (hb0 : 0 < b) (hb : b < 4294967296) :
  Calls Tryz.prog 113 #[va, .int .u32 b] w (RetSmall w (val a / b) (val a % b)) := by
 refine (small_own va a b w ha hla hb0 hb).mono ?_
 rintro e w' ⟨v, he, hbb, ho⟩
 exact ⟨v, he, hbb, ho.num⟩

theorem left_any (va : Value) (a : List Nat) (n : Nat) (w : World) (ha : Num w va a) (hla : a.length ≤ 900000) (hn : n < 32) :
  Calls Tryz.prog 154 #[va, .int .i64 n] w (RetOwn w fun r => r.length = a.length + 1 ∧ val r = val a * 2 ^ n) := by
 obtain ⟨ao, ca, rfl, hca, hca2, _⟩ := ha.shape
 obtain ⟨N, hN⟩ : ∃ N, N = a.length + 1 := ⟨_, rfl⟩
 have HN := qHd hN
 have hnb' : N ≤ 70368744177664 := by omega
 clear hN
 have HA := qHd ha; clear ha
 go_enter Tryz.func154, Tryz.ntmps154
 go_wp2_with (at_make; refine qdz Tryz.wordsTy rfl _ _ rfl _ _ _ _ N rfl rfl ?c1 ?c2 hnb' ?_)
 case c1 => rw [HN.out]; rfl
 case c2 => rw [HN.out]; rfl
 intro w1 hO hB hsz
 go_wp2_with fail
 go_loopw [15] (fun iv wr => ∃ (i : Nat) (l : List Nat), i ≤ a.length ∧ iv = .int .i64 i ∧ qdu 156 wr w.heap.size (.slice (some ⟨w.heap.size, 0, none⟩) N N) l ∧ Hid (l.length = N) ∧ Below w.heap.size w wr ∧
   Hid (val l = val (a.take i) * 2 ^ n)) (fun i _ => a.length - (intOf i).toNat)
 case atStart => exact ⟨0, _, Nat.zero_le _, rfl, hO, qHd (by simp), hB, qHd (by simp [val, val_zeros])⟩
 case round =>
  obtain ⟨i, l, hi, rfl, hOr, hll, hBr, hinv⟩ := hrel
  by_cases hin : i < a.length
  ·have har := HA.out.below hBr
   obtain ⟨ba, oa, rfl, _, hca⟩ := har.at (by omega)
   have hx := hca i hin
   have hxl := HA.out.lt i
   obtain ⟨x, hxe⟩ : ∃ x, x = gd a i := ⟨_, rfl⟩
   rw [← hxe] at hx hxl
   have hiN : i + 1 < N := by rw [HN.out]; omega
   have hlt : val l < 4294967296 ^ i * 2 ^ n := by
    rw [hinv.out]; exact Nat.mul_lt_mul_of_pos_right (val_take_lt HA.out.lt i) (Nat.two_pow_pos n)
   obtain ⟨hw, hyl, hyh, hp⟩ := shl_wrap x n hxl hn
   have hol : gd l i < 2 ^ n := by
    rw [val_gd hOr.lt]
    refine Nat.lt_of_le_of_lt (Nat.mod_le _ _) ?_
    rw [Nat.div_lt_iff_lt_mul (Nat.pow_pos (by decide)), Nat.mul_comm]; exact hlt
   have hoz : gd l (i + 1) = 0 := gd_zero_of_lt hOr.lt (n := i + 1) (Nat.lt_of_lt_of_le hlt (by rw [Nat.pow_succ]; exact Nat.mul_le_mul_left _ (by omega))) _ (Nat.le_refl _)
   have hcell := hOr.cell hll.out i (by omega)
   have hfr := hOr.frozen hll.out i
   have hfr1 := hOr.frozen hll.out (i + 1)
   have hcell1 := hOr.cell hll.out (i + 1) (by omega)
   rw [hoz] at hcell1
   obtain ⟨o, hoe⟩ : ∃ o, o = gd l i := ⟨_, rfl⟩
   rw [← hoe] at hol hcell
   obtain ⟨hor, hol2⟩ := or_low x n o hn hol
   obtain ⟨y, hy⟩ : ∃ y, y = x * 2 ^ n := ⟨_, rfl⟩
   rw [← hy] at hw hyl hyh hor hol2
   obtain ⟨p, hpe⟩ : ∃ p, p = o + y % 4294967296 := ⟨_, rfl⟩
   rw [← hpe] at hor hol2
   have hym : (y : Int) / 4294967296 = ((y / 4294967296 : Nat) : Int) := by omega
   obtain ⟨t, ht⟩ : ∃ t, t = y / 4294967296 := ⟨_, rfl⟩
   have htl : t < 4294967296 := by omega
   rw [← ht] at hym
   have HX := qHd hxe; have HO := qHd hOr; have HY := qHd hy; have HP := qHd hpe; have HT := qHd ht; have HOE := qHd hoe; have HOZ := qHd hoz
   clear har hca hOr hxe hy hpe ht hoe hoz hlt
   go_wp2_with fail
   go_roundw
   case rel =>
    have h1 := HO.out.stored hll.out i p hol2
    have h2 := h1.stored (by rw [List.length_set]; exact hll.out) (i + 1) t htl
    have e1 := val_set l i p (by rw [hll.out]; omega)
    have e2 := val_set (l.set i p) (i + 1) t (by rw [List.length_set, hll.out]; exact hiN)
    rw [gd_set, if_neg (by omega), HOZ.out] at e2
    rw [← HOE.out] at e1
    refine ⟨i + 1, (l.set i p).set (i + 1) t, by omega, by go_num, h2, qHd (by rw [List.length_set, List.length_set]; exact hll.out), (hBr.setCell (Nat.le_refl _) _).setCell (Nat.le_refl _) _, qHd ?_⟩
    rw [qbm, Nat.add_mul, ← hinv.out, ← HX.out, Nat.mul_assoc, ← HY.out]
    have e3 : y = y % 4294967296 + 4294967296 * t := by rw [HT.out]; omega
    rw [Nat.pow_succ] at e2
    have e4 : 4294967296 ^ i * y = 4294967296 ^ i * (y % 4294967296) + 4294967296 ^ i * 4294967296 * t := by
     rw [Nat.mul_assoc, ← Nat.mul_add, ← e3]
    rw [HP.out, Nat.mul_add] at e1
    rw [HP.out] at e2 ⊢
    omega
   case measure => simp [intOf]; omega
  ·obtain rfl : i = a.length := by omega
   have hv := hinv.out
   rw [List.take_of_length_le (Nat.le_refl _)] at hv
   have hl := hll.out
   rw [HN.out] at hl
   have HV := qHd hv; have HL := qHd hl; clear hv hl
   go_wp2_with fail
   go_ret
   exact ⟨_, l, rfl, hBr, hOr, HL.out, HV.out⟩

theorem right_any (va : Value) (a : List Nat) (n : Nat) (w : World) (ha : Num w va a) (hla : a.length ≤ 900000) (hn : n < 32) :
  Calls Tryz.prog 157 #[va, .int .i64 n] w (RetOwn w fun r => r.length = a.length ∧ val r = val a / 2 ^ n) := by
 obtain ⟨ao, ca, rfl, hca, hca2, _⟩ := ha.shape
 obtain ⟨N, hN⟩ : ∃ N, N = a.length := ⟨_, rfl⟩
 have HN := qHd hN
 have hnb' : N ≤ 70368744177664 := by omega
 have hnb : N ≤ 900000 := by omega
 clear hN
 have HA := qHd ha; clear ha
 go_enter Tryz.func157, Tryz.ntmps157
 go_wp2_with (at_make; refine qdz Tryz.wordsTy rfl _ _ rfl _ _ _ _ N rfl rfl ?c1 ?c2 hnb' ?_)
 case c1 => rw [HN.out]
 case c2 => rw [HN.out]
 intro w1 hO hB hsz
 go_wp2_with fail
 go_loopw [12] (fun iv wr => ∃ (i : Nat) (l : List Nat), i ≤ a.length ∧ iv = .int .i64 i ∧ qdu 156 wr w.heap.size (.slice (some ⟨w.heap.size, 0, none⟩) N N) l ∧ Hid (l.length = N) ∧ Below w.heap.size w wr ∧
   Hid (∀ j, j < i → gd l j = val a / 2 ^ n / 4294967296 ^ j % 4294967296)) (fun i _ => a.length - (intOf i).toNat)
 case atStart => exact ⟨0, _, Nat.zero_le _, rfl, hO, qHd (by simp), hB, qHd (fun j hj => by omega)⟩
 case round =>
  obtain ⟨i, l, hi, rfl, hOr, hll, hBr, hinv⟩ := hrel
  by_cases hin : i < a.length
  ·have har := qHd (HA.out.below hBr)
   have hiN : i < N := by rw [HN.out]; exact hin
   have hwa := word_any _ a i wr har.out (by omega) (by omega)
   have hwb := word_any _ a ((i : Int) + 1) wr har.out (by omega) (by omega)
   have hxl := HA.out.lt i
   have hyl := HA.out.lt (i + 1)
   have hd := word_down HA.out.lt i n hn
   obtain ⟨x, hx⟩ : ∃ x, x = gd a i := ⟨_, rfl⟩
   obtain ⟨y, hy⟩ : ∃ y, y = gd a (i + 1) := ⟨_, rfl⟩
   rw [Int.toNat_natCast, ← hx] at hwa
   rw [show ((i : Int) + 1).toNat = i + 1 from by omega, ← hy] at hwb
   rw [← hx] at hxl
   rw [← hy] at hyl
   rw [← hx, ← hy] at hd
   have hor := or_words x y hxl hyl
   have hzl : x + y * 4294967296 < 18446744073709551616 := by omega
   obtain ⟨z, hz⟩ : ∃ z, z = x + y * 4294967296 := ⟨_, rfl⟩
   rw [← hz] at hor hzl hd
   have hsh : (z : Int) / 2 ^ n % 4294967296 = ((z / 2 ^ n % 4294967296 : Nat) : Int) := by rw [Int.natCast_emod, Int.natCast_ediv]; simp
   obtain ⟨t, ht⟩ : ∃ t, t = z / 2 ^ n % 4294967296 := ⟨_, rfl⟩
   have htl : t < 4294967296 := by rw [ht]; exact Nat.mod_lt _ (by decide)
   rw [← ht] at hsh hd
   have hcell := hOr.cell hll.out i hiN
   have hfr := hOr.frozen hll.out i
   have HWA := qHd hwa; have HWB := qHd hwb; have HO := qHd hOr; have HD := qHd hd
   clear hwa hwb hx hy hz ht hd hOr
   go_wp2_with fail
   (with_reducible refine HWA.out.mono ?_); rintro e w' ⟨rfl, rfl⟩
   go_wp2_with fail
   (with_reducible refine HWB.out.mono ?_); rintro e w' ⟨rfl, rfl⟩
   go_wp2_with fail
   go_roundw
   case rel =>
    have h1 := HO.out.stored hll.out i t htl
    refine ⟨i + 1, l.set i t, by omega, by go_num, h1, qHd (by rw [List.length_set]; exact hll.out), hBr.setCell (Nat.le_refl _) _, qHd fun j hj => ?_⟩
    rw [gd_set]
    by_cases hji : j = i
    ·subst hji
     rw [if_pos ⟨rfl, by rw [hll.out]; exact hiN⟩]; exact HD.out
    ·rw [if_neg (by omega)]; exact hinv.out j (by omega)
   case measure => simp [intOf]; omega
  ·obtain rfl : i = a.length := by omega
   have hl := hll.out
   rw [HN.out] at hl
   have hv : val l = val a / 2 ^ n := by
    apply val_of_digits
    ·intro j hj; exact hinv.out j (by omega)
    ·rw [hl]; exact Nat.lt_of_le_of_lt (Nat.div_le_self _ _) (qem HA.out.lt)
   have HV := qHd hv; have HL := qHd hl; clear hv hl
   go_wp2_with fail
   go_ret
   exact ⟨_, l, rfl, hBr, hOr, HL.out, HV.out⟩
theorem rup_any (va : Value) (a : List Nat) (n : Nat) (w : World) (ha : Num w va a) (hla : a.length ≤ 900000) (hn : n < 32) :
  Calls Tryz.prog 161 #[va, .int .i64 n] w (RetNum w fun r => r = wd (val a * 2 ^ n)) := by
 obtain ⟨ao, ca, rfl, hca, hca2, _⟩ := ha.shape
 have HA := qHd ha; clear ha
 go_enter Tryz.func161, Tryz.ntmps161
 go_wp2_with fail
 go_loopw [5, 6, 11] (fun ov cv iv wr => ∃ (i c : Nat) (l : List Nat), i ≤ a.length ∧ iv = .int .i64 i ∧ cv = .int .u64 c ∧ c < 2 ^ n ∧ qdu 156 wr w.heap.size ov l ∧ Hid (l.length = i) ∧ Below w.heap.size w wr ∧
   Hid (val l + 4294967296 ^ i * c = val (a.take i) * 2 ^ n)) (fun _ _ i _ => a.length - (intOf i).toNat)
 case atStart => exact ⟨0, 0, [], Nat.zero_le _, rfl, rfl, Nat.two_pow_pos n, qdu.nil _ _ _, qHd rfl, Below.refl _ _, qHd (by simp [val])⟩
 case round =>
  obtain ⟨i, c, l, hi, rfl, rfl, hc, hOr, hll, hBr, hinv⟩ := hrel
  have hszr := hBr.size
  by_cases hin : i < a.length
  ·have har := HA.out.below hBr
   obtain ⟨ba, oa, rfl, _, hca⟩ := har.at (by omega)
   have hx := hca i hin
   have hxl := HA.out.lt i
   obtain ⟨x, hxe⟩ : ∃ x, x = gd a i := ⟨_, rfl⟩
   rw [← hxe] at hx hxl
   obtain ⟨hw, _, _, _⟩ := shl_wrap x n hxl hn
   obtain ⟨hor, h1, h2⟩ := or_low64 x n c hxl hn hc
   obtain ⟨y, hy⟩ : ∃ y, y = x * 2 ^ n := ⟨_, rfl⟩
   rw [← hy] at hw hor h1 h2
   obtain ⟨s, hs⟩ : ∃ s, s = c + y := ⟨_, rfl⟩
   rw [← hs] at hor h1 h2
   have hsd : s / 4294967296 < 2 ^ n := by rw [Nat.div_lt_iff_lt_mul (by decide), Nat.mul_comm (2 ^ n)]; exact h1
   have hone := num_one wr 156 (s % 4294967296) (Nat.mod_lt _ (by decide))
   have HX := qHd hxe; have HO := qHd hOr; have HY := qHd hy; have HS := qHd hs; have HSD := qHd hsd; have HONE := qHd hone
   clear har hca hOr hxe hy hs h1 hsd hone
   go_wp2_with (at_builtin; refine qcq Tryz.wordsTy rfl (.tmp 21) (.tmp 24) rfl w.heap.size _ _ l [s % 4294967296] rfl rfl (HO.out.alloc _) HONE.out ?c1 ?c2 ?_)
   case c1 => rw [hll.out]; simp; omega
   case c2 => simp; omega
   intro v' w1 g1 g2 g3
   have g4 := g2 w (hBr.alloc hszr _)
   go_wp2_with fail
   go_roundw
   case rel =>
    refine ⟨i + 1, s / 4294967296, l ++ [s % 4294967296], by omega, by go_num, rfl, HSD.out, g1, qHd (by rw [List.length_append, hll.out]; rfl), g4, qHd ?_⟩
    rw [val_snoc, hll.out, Nat.pow_succ, qbm, Nat.add_mul, ← hinv.out, ← HX.out, Nat.mul_assoc _ x, ← HY.out, Nat.mul_assoc _ 4294967296, Nat.add_assoc, ← Nat.mul_add, Nat.mod_add_div, HS.out, Nat.mul_add, Nat.add_assoc]
   case measure => simp [intOf]; omega
  ·obtain rfl : i = a.length := by omega
   have hp : 2 ^ n ≤ 2 ^ 31 := Nat.pow_le_pow_right (by decide) (by omega)
   have hcl : c < 4294967296 := by omega
   have hcm : c % 4294967296 = c := Nat.mod_eq_of_lt hcl
   have hci : (c : Int) % 4294967296 = (c : Int) := by omega
   have hone := num_one wr 156 c hcl
   have hv : val (l ++ [c]) = val a * 2 ^ n := by
    rw [val_snoc, hll.out, hinv.out, List.take_of_length_le (Nat.le_refl _)]
   have hl : (l ++ [c]).length = a.length + 1 := by rw [List.length_append, hll.out]; rfl
   have HO := qHd hOr; have HONE := qHd hone; have HV := qHd hv; have HL := qHd hl
   clear hp hcm hone hv hl hOr
   go_wp2_with (at_builtin; refine qcq Tryz.wordsTy rfl (.tmp 29) (.tmp 32) rfl w.heap.size _ _ l [c] rfl rfl (HO.out.alloc _) HONE.out ?d1 ?d2 ?_)
   case d1 => rw [hll.out]; simp; omega
   case d2 => simp; omega
   intro v' w1 g1 g2 g3
   have g4 := g2 w (hBr.alloc hszr _)
   have htr := qfs _ _ _ g1.num (by rw [HL.out]; omega)
   rw [HV.out] at htr
   have HT := qHd htr; clear htr
   go_wp2_with fail
   (with_reducible refine HT.out.mono ?_); rintro e w' ⟨v'', l'', rfl, hB', hN', hl'⟩
   go_wp2_with fail
   go_ret
   exact ⟨_, _, rfl, g4.trans (hB'.mono g4.size), hN', hl'⟩

theorem rdown_any (va : Value) (a : List Nat) (n : Nat) (w : World) (ha : Num w va a) (hla : a.length ≤ 900000) (hn : n < 32) :
  Calls Tryz.prog 162 #[va, .int .i64 n] w (RetNum w fun r => r = wd (val a / 2 ^ n)) := by
 obtain ⟨ao, ca, rfl, hca, hca2, _⟩ := ha.shape
 have HA := qHd ha; clear ha
 go_enter Tryz.func162, Tryz.ntmps162
 go_wp2_with fail
 go_loopw [5, 9] (fun ov iv wr => ∃ (i : Nat) (l : List Nat), i ≤ a.length ∧ iv = .int .i64 i ∧ qdu 156 wr w.heap.size ov l ∧ Hid (l.length = i) ∧ Below w.heap.size w wr ∧
   Hid (∀ j, j < i → gd l j = val a / 2 ^ n / 4294967296 ^ j % 4294967296)) (fun _ i _ => a.length - (intOf i).toNat)
 case atStart => exact ⟨0, [], Nat.zero_le _, rfl, qdu.nil _ _ _, qHd rfl, Below.refl _ _, qHd (fun j hj => by omega)⟩
 case round =>
  obtain ⟨i, l, hi, rfl, hOr, hll, hBr, hinv⟩ := hrel
  have hszr := hBr.size
  by_cases hin : i < a.length
  ·have har := qHd (HA.out.below hBr)
   have hwa := qef _ a i wr har.out (by omega) (by omega)
   have hwb := qef _ a ((i : Int) + 1) wr har.out (by omega) (by omega)
   have hxl := HA.out.lt i
   have hyl := HA.out.lt (i + 1)
   have hd := word_down HA.out.lt i n hn
   obtain ⟨x, hx⟩ : ∃ x, x = gd a i := ⟨_, rfl⟩
   obtain ⟨y, hy⟩ : ∃ y, y = gd a (i + 1) := ⟨_, rfl⟩
   rw [Int.toNat_natCast, ← hx] at hwa
   rw [show ((i : Int) + 1).toNat = i + 1 from by omega, ← hy] at hwb
   rw [← hx] at hxl
   rw [← hy] at hyl
   rw [← hx, ← hy] at hd
   have hor := or_words x y hxl hyl
   have hzl : x + y * 4294967296 < 18446744073709551616 := by omega
   obtain ⟨z, hz⟩ : ∃ z, z = x + y * 4294967296 := ⟨_, rfl⟩
   rw [← hz] at hor hzl hd
   have hsh : (z : Int) / 2 ^ n % 4294967296 = ((z / 2 ^ n % 4294967296 : Nat) : Int) := by rw [Int.natCast_emod, Int.natCast_ediv]; simp
   obtain ⟨t, ht⟩ : ∃ t, t = z / 2 ^ n % 4294967296 := ⟨_, rfl⟩
   have htl : t < 4294967296 := by rw [ht]; exact Nat.mod_lt _ (by decide)
   rw [← ht] at hsh hd
   have hone := num_one wr 156 t htl
   have HWA := qHd hwa; have HWB := qHd hwb; have HO := qHd hOr; have HD := qHd hd; have HONE := qHd hone
   clear hwa hwb hx hy hz ht hd hOr hone
   go_wp2_with fail
   (with_reducible refine HWA.out.mono ?_); rintro e w' ⟨rfl, rfl⟩
   go_wp2_with fail
   (with_reducible refine HWB.out.mono ?_); rintro e w' ⟨rfl, rfl⟩
   go_wp2_with (at_builtin; refine qcq Tryz.wordsTy rfl (.tmp 12) (.tmp 25) rfl w.heap.size _ _ l [t] rfl rfl (HO.out.alloc _) HONE.out ?c1 ?c2 ?_)
   case c1 => rw [hll.out]; simp; omega
   case c2 => simp; omega
   intro v' w1 g1 g2 g3
   have g4 := g2 w (hBr.alloc hszr _)
   go_wp2_with fail
   go_roundw
   case rel =>
    refine ⟨i + 1, l ++ [t], by omega, by go_num, g1, qHd (by rw [List.length_append, hll.out]; rfl), g4, qHd fun j hj => ?_⟩
    rw [gd_append, hll.out]
    by_cases hji : j = i
    ·subst hji
     rw [if_neg (by omega), Nat.sub_self]; exact HD.out
    ·rw [if_pos (by omega)]; exact hinv.out j (by omega)
   case measure => simp [intOf]; omega
  ·obtain rfl : i = a.length := by omega
   have hl := hll.out
   have hv : val l = val a / 2 ^ n := by
    apply val_of_digits
    ·intro j hj; exact hinv.out j (by omega)
    ·rw [hl]; exact Nat.lt_of_le_of_lt (Nat.div_le_self _ _) (qem HA.out.lt)
   have htr := qfs _ _ _ hOr.num (by rw [hl]; omega)
   rw [hv] at htr
   have HT := qHd htr; clear htr hv hl
   go_wp2_with fail
   (with_reducible refine HT.out.mono ?_); rintro e w' ⟨v'', l'', rfl, hB', hN', hl'⟩
   go_wp2_with fail
   go_ret
   exact ⟨_, _, rfl, hBr.trans (hB'.mono hBr.size), hN', hl'⟩
theorem grown_refl (w : World) (row : Option Nat) : w.grownBy w row := ⟨rfl, rfl, rfl, Nat.le_refl _, fun _ _ _ => rfl⟩
theorem grown_trans {a b c : World} {row : Option Nat} (h : a.grownBy b row) (k : b.grownBy c row) : a.grownBy c row :=
 ⟨k.os.trans h.os, k.tape.trans h.tape, k.output.trans h.output, Nat.le_trans h.size k.size, fun i hi hr => (k.block i (Nat.lt_of_lt_of_le hi h.size) hr).trans (h.block i hi hr)⟩
theorem grown_drewN {a b : World} {row : Option Nat} (h : a.grownBy b row) (n : Nat) : a.grownBy (b.drewN n) row := grown_trans h ⟨rfl, rfl, rfl, Nat.le_refl _, fun _ _ _ => rfl⟩
theorem qdu.grown {e : TypeId} {w : World} {B g n c : Nat} {l : List Nat} (h : qdu e w B (.slice (some ⟨g, 0, none⟩) n c) l) (hn : l.length = n) (k x : Nat) : w.grownBy (w.setCell ⟨g, k, none⟩ (.int .u32 x)) (some g) := by
 subst hn
 exact (h.1.stored k (.int .u32 x)).2
theorem qdu.keptBy {e : TypeId} {w w' : World} {B g h n c : Nat} {l : List Nat} (ho : qdu e w B (.slice (some ⟨h, 0, none⟩) n c) l) (hg : w.grownBy w' (some g)) (hne : h ≠ g) : qdu e w' B (.slice (some ⟨h, 0, none⟩) n c) l :=
 ⟨ho.1.kept hg (.inr (by simp [Value.ownBlock]; exact hne)), ho.2⟩
theorem qdu.keptFrom {e : TypeId} {w w' : World} {B : Nat} {row : Option Nat} {v : Value} {l : List Nat} (ho : qdu e w B v l) (hg : w.grownBy w' row) (hr : ∀ k, row = some k → k < B) : qdu e w' B v l := by
 refine ⟨ho.1.kept hg ?_, ho.2⟩
 cases hv : v.ownBlock with
 | none => exact .inl rfl
 | some k =>
  right
  intro he
  have h1 := (ho.1.lt k hv).1
  have h2 := hr k he.symm
  omega
theorem Num.keptBy {w w' : World} {g h o k c : Nat} {l : List Nat} (hn : Num w (.slice (some ⟨h, o, none⟩) k c) l) (hg : w.grownBy w' (some g)) (hne : h ≠ g) : Num w' (.slice (some ⟨h, o, none⟩) k c) l := by
 obtain ⟨ao', c', e, h1, h2, h3, h4, h5⟩ := hn
 refine ⟨ao', c', e, h1, h2, h3, ?_, h5⟩
 intro b off s hs
 cases e
 cases hs
 obtain ⟨k1, k2⟩ := h4 h o none rfl
 refine ⟨fun h0 => ⟨Nat.lt_of_lt_of_le (k1 h0).1 hg.size, rfl⟩, fun j hj => ?_⟩
 exact hg.cell (k2 j hj) (by simp; exact hne)

theorem Num.cap {w : World} {ao : Option Addr} {n c : Nat} {l : List Nat} (h : Num w (.slice ao n c) l) : n ≤ c ∧ c ≤ 9223372036854775807 := by
 obtain ⟨ao', c', e, h1, h2, h3, h4, h5⟩ := h
 cases e
 exact ⟨h1, h2⟩
theorem hO4n {e : TypeId} {w : World} {B g n c : Nat} {l : List Nat} (h : qdu e w B (.slice (some ⟨g, 0, none⟩) n c) l) (k : Nat) (hk : k ≤ l.length) : Num w (.slice (some ⟨g, 0, none⟩) k c) (l.take k) := h.num.take k hk
def RetTake (w : World) (g n cap B j m T : Nat) (l : List Nat) (e : Ending) (w' : World) : Prop :=
 ∃ l' r, e = .returned (.bool (decide (r = 1))) ∧ r ≤ 1 ∧ qdu 156 w' B (.slice (some ⟨g, 0, none⟩) n cap) l' ∧ l'.length = n ∧ w.grownBy w' (some g) ∧
  (∀ i, i < j ∨ j + m ≤ i → gd l' i = gd l i) ∧ winv l' j m + T = winv l j m + 4294967296 ^ m * r

theorem take_bounds {c p : Nat} (hc : c < 4294967296) (hp : p ≤ 18446744065119617025) : (c + p) / 4294967296 < 4294967296 ∧ (c + p) % 4294967296 < 4294967296 ∧ c + p < 18446744073709551616 := by omega

theorem take_any (g j m c n cap h k ck q B : Nat) (l b : List Nat) (w : World) (hO : qdu 156 w B (.slice (some ⟨g, 0, none⟩) n cap) l) (hl : l.length = n) (hjm : j + m ≤ n) (hn : n ≤ 900001) (hc : c ≤ 9223372036854775807) (hmc : m ≤ c)
  (hv : Num w (.slice (some ⟨h, 0, none⟩) k ck) b) (hne : h ≠ g) (hq : q < 4294967296) (hbm : b.length ≤ m) (hT : q * val b < 4294967296 ^ m) :
  Calls Tryz.prog 155 #[.slice (some ⟨g, j, none⟩) m c, .slice (some ⟨h, 0, none⟩) k ck, .int .u64 q] w (RetTake w g n cap B j m (q * val b) l) := by
 have HO := qHd hO; have HV := qHd hv; have HL := qHd hl; have HT := qHd hT; have HNE := qHd hne
 clear hO hv hl hT hne
 go_enter Tryz.func155, Tryz.ntmps155
 go_wp2_with fail
 go_loopw [7, 8, 13] (fun cv rv iv wr => ∃ (i c r : Nat) (l' : List Nat), i ≤ m ∧ iv = .int .i64 i ∧ cv = .int .u64 c ∧ rv = .int .u64 r ∧ c < 4294967296 ∧ r ≤ 1 ∧
   qdu 156 wr B (.slice (some ⟨g, 0, none⟩) n cap) l' ∧ Hid (l'.length = n) ∧ Hid (w.grownBy wr (some g)) ∧ Hid (∀ x, x < j ∨ j + i ≤ x → gd l' x = gd l x) ∧
   Hid (winv l' j i + q * val (b.take i) = winv l j i + 4294967296 ^ i * (r + c)) ∧ Hid (4294967296 ^ i * c ≤ q * val (b.take i))) (fun _ _ i _ => m - (intOf i).toNat)
 case atStart => exact ⟨0, 0, 0, l, Nat.zero_le _, rfl, rfl, rfl, by omega, by omega, HO.out, HL, qHd (grown_refl _ _), qHd (fun x _ => rfl), qHd (by simp [winv_zero, val]), qHd (by simp)⟩
 case round =>
  obtain ⟨i, c, r, l', hi, rfl, rfl, rfl, hcl, hrl, hOr, hll, hgr, hsame, hinv, hcar⟩ := hrel
  by_cases him : i < m
  ·have hvr := qHd (HV.out.keptBy hgr.out HNE.out)
   have hwv := word_any _ b i wr hvr.out (by omega) (by omega)
   have hyl := HV.out.lt i
   obtain ⟨y, hy⟩ : ∃ y, y = gd b i := ⟨_, rfl⟩
   rw [Int.toNat_natCast, ← hy] at hwv
   rw [← hy] at hyl
   have hji : j + i < n := by omega
   have hcell := hOr.cell hll.out (j + i) hji
   have hfr := hOr.frozen hll.out (j + i)
   have hxl := hOr.lt (j + i)
   have hxs := hsame.out (j + i) (.inr (Nat.le_refl _))
   obtain ⟨x, hx⟩ : ∃ x, x = gd l' (j + i) := ⟨_, rfl⟩
   rw [← hx] at hcell hxl hxs
   have hpl := word_mul hq hyl
   obtain ⟨p, hp⟩ : ∃ p, p = q * y := ⟨_, rfl⟩
   have hpi : (q : Int) * (y : Int) = (p : Int) := by rw [hp]; rfl
   rw [← hp] at hpl
   obtain ⟨s1, s2, s3⟩ := take_bounds hcl hpl
   obtain ⟨low, hlow⟩ : ∃ low, low = (c + p) % 4294967296 := ⟨_, rfl⟩
   obtain ⟨c', hc'⟩ : ∃ c', c' = (c + p) / 4294967296 := ⟨_, rfl⟩
   have hlowi : ((c : Int) + (p : Int)) % 4294967296 = (low : Int) := by rw [hlow]; rfl
   have hci : ((c : Int) + (p : Int)) / 4294967296 = (c' : Int) := by rw [hc']; rfl
   rw [← hlow] at s2
   rw [← hc'] at s1
   have hsw := subW_wrap hxl s2 hrl
   have hslt := subW_lt hxl s2 hrl
   obtain ⟨b1, b2⟩ := subW_borrow hxl s2 hrl
   obtain ⟨d, hd⟩ : ∃ d, d = subW x low r := ⟨_, rfl⟩
   rw [← hd] at hsw hslt b1 b2
   have HD := qHd hd
   have hst := take_step (q := q) (y := y) (x := x) (c' := c') (d := d % 4294967296) (r' := d / 9223372036854775808) hinv.out (by rw [← hp, ← hlow]; exact b2) (by rw [← hp]; exact hc')
   have hca := take_carry (q := q) (y := y) (c' := c') hcar.out (by rw [← hp]; exact hc')
   have hdm : d % 4294967296 < 4294967296 := Nat.mod_lt _ (by decide)
   have HWV := qHd hwv; have HOR := qHd hOr; have HY := qHd hy; have HXS := qHd hxs; have S1 := qHd s1; have B1 := qHd b1; have HST := qHd hst; have HCA := qHd hca; have HDM := qHd hdm
   have HLOWI := qHd hlowi; have HCI := qHd hci
   clear hwv hOr hy hxs hx hp hlow hc' b1 b2 hd hst hca hdm s1
   go_wp2_with fail
   (with_reducible refine HWV.out.mono ?_); rintro e w' ⟨rfl, rfl⟩
   go_wp2_with fail
   go_roundw
   case rel =>
    have h1 := HOR.out.stored hll.out (j + i) (d % 4294967296) HDM.out
    have h2 := HOR.out.grown hll.out (j + i) (d % 4294967296)
    refine ⟨i + 1, c', d / 9223372036854775808, l'.set (j + i) (d % 4294967296), by omega, by go_num, rfl, rfl, S1.out, B1.out, h1, qHd (by rw [List.length_set]; exact hll.out), qHd (grown_trans hgr.out h2), qHd ?_, qHd ?_, qHd ?_⟩
    ·intro z hz
     rw [gd_set, if_neg (by omega)]; exact hsame.out z (by omega)
    ·rw [winv_set _ _ _ _ (by rw [hll.out]; exact hji), winv_succ, ← HXS.out, qbm, ← HY.out, Nat.mul_add q, Nat.mul_left_comm q, Nat.pow_succ]
     exact HST.out
    ·rw [qbm, ← HY.out, Nat.mul_add q, Nat.mul_left_comm q, Nat.pow_succ]
     exact HCA.out
   case measure => simp [intOf]; omega
  ·obtain rfl : i = m := by omega
   have hb : b.take i = b := List.take_of_length_le hbm
   have hi1 := hinv.out
   have hi2 := hcar.out
   rw [hb] at hi1 hi2
   have hc0 := take_end hi2 HT.out
   subst hc0
   rw [Nat.add_zero] at hi1
   have HI := qHd hi1
   have hdec : ((r : Int) == 1) = decide (r = 1) := by rw [Bool.eq_iff_iff]; simp; omega
   have HDEC := qHd hdec
   clear hi1 hi2 hb hdec
   go_wp2_with fail
   go_ret
   exact ⟨l', r, qdp HDEC.out, hrl, hOr, hll.out, hgr.out, hsame.out, HI.out⟩

def RetGive (w : World) (g n cap B j m T : Nat) (l : List Nat) (e : Ending) (w' : World) : Prop :=
 ∃ l' r, e = .returned (.tuple #[]) ∧ qdu 156 w' B (.slice (some ⟨g, 0, none⟩) n cap) l' ∧ l'.length = n ∧ w.grownBy w' (some g) ∧
  (∀ i, i < j ∨ j + m ≤ i → gd l' i = gd l i) ∧ winv l' j m + 4294967296 ^ m * r = winv l j m + T

theorem give_any (g j m c n cap h k ck B : Nat) (l b : List Nat) (w : World) (hO : qdu 156 w B (.slice (some ⟨g, 0, none⟩) n cap) l) (hl : l.length = n) (hjm : j + m ≤ n) (hn : n ≤ 900001) (hc : c ≤ 9223372036854775807) (hmc : m ≤ c)
  (hv : Num w (.slice (some ⟨h, 0, none⟩) k ck) b) (hne : h ≠ g) (hbm : b.length ≤ m) :
  Calls Tryz.prog 156 #[.slice (some ⟨g, j, none⟩) m c, .slice (some ⟨h, 0, none⟩) k ck] w (RetGive w g n cap B j m (val b) l) := by
 have HO := qHd hO; have HV := qHd hv; have HL := qHd hl; have HNE := qHd hne
 clear hO hv hl hne
 go_enter Tryz.func156, Tryz.ntmps156
 go_wp2_with fail
 go_loopw [4, 8] (fun cv iv wr => ∃ (i c : Nat) (l' : List Nat), i ≤ m ∧ iv = .int .i64 i ∧ cv = .int .u64 c ∧ c ≤ 1 ∧
   qdu 156 wr B (.slice (some ⟨g, 0, none⟩) n cap) l' ∧ Hid (l'.length = n) ∧ Hid (w.grownBy wr (some g)) ∧ Hid (∀ x, x < j ∨ j + i ≤ x → gd l' x = gd l x) ∧
   Hid (winv l' j i + 4294967296 ^ i * c = winv l j i + val (b.take i))) (fun _ i _ => m - (intOf i).toNat)
 case atStart => exact ⟨0, 0, l, Nat.zero_le _, rfl, rfl, by omega, HO.out, HL, qHd (grown_refl _ _), qHd (fun x _ => rfl), qHd (by simp [winv_zero, val])⟩
 case round =>
  obtain ⟨i, c, l', hi, rfl, rfl, hcl, hOr, hll, hgr, hsame, hinv⟩ := hrel
  by_cases him : i < m
  ·have hvr := qHd (HV.out.keptBy hgr.out HNE.out)
   have hyl := HV.out.lt i
   obtain ⟨y, hy⟩ : ∃ y, y = gd b i := ⟨_, rfl⟩
   have hwv : ∀ nq, Calls Tryz.prog 138 #[.slice (some ⟨h, 0, none⟩) k ck, .int .i64 i] (wr.drewN nq) (RetS (wr.drewN nq) (.int .u64 (y : Nat))) := fun nq => by
    have hh := word_any _ b i (wr.drewN nq) (hvr.out.below (qbg (Below.refl _ _) nq)) (by omega) (by omega)
    rw [Int.toNat_natCast, ← hy] at hh; exact hh
   rw [← hy] at hyl
   have hji : j + i < n := by omega
   have hcell := hOr.cell hll.out (j + i) hji
   have hfr := hOr.frozen hll.out (j + i)
   have hxl := hOr.lt (j + i)
   have hxs := hsame.out (j + i) (.inr (Nat.le_refl _))
   obtain ⟨x, hx⟩ : ∃ x, x = gd l' (j + i) := ⟨_, rfl⟩
   rw [← hx] at hcell hxl hxs
   obtain ⟨s1, s2⟩ := add_bounds hcl hxl hyl
   have hst := add_step (x := x) (y := y) hinv.out
   have HWV := qHd hwv; have HOR := qHd hOr; have HY := qHd hy; have HXS := qHd hxs; have S1 := qHd s1; have S2 := qHd s2; have HST := qHd hst
   clear hwv hOr hy hxs hx s1 s2 hst
   go_wp2_with fail
   go_quiet ((go_at_call 138; exact Calls.quiet_of_same (ret_quiet (HWV.out _))))
   go_wp2_with fail
   go_roundw
   case rel =>
    have hO' := HOR.out.below (qbg (Below.refl _ _) nq)
    have h1 := hO'.stored hll.out (j + i) ((c + (x + y)) % 4294967296) S2.out
    have h2 := hO'.grown hll.out (j + i) ((c + (x + y)) % 4294967296)
    refine ⟨i + 1, (c + (x + y)) / 4294967296, l'.set (j + i) ((c + (x + y)) % 4294967296), by omega, by go_num, rfl, S1.out, h1, qHd (by rw [List.length_set]; exact hll.out), qHd (grown_trans (grown_drewN hgr.out nq) h2), qHd ?_, qHd ?_⟩
    ·intro z hz
     rw [gd_set, if_neg (by omega)]; exact hsame.out z (by omega)
    ·rw [winv_set _ _ _ _ (by rw [hll.out]; exact hji), winv_succ, ← HXS.out, qbm, ← HY.out, Nat.pow_succ]
     exact HST.out
   case measure => simp [intOf]; omega
  ·obtain rfl : i = m := by omega
   have hb : b.take i = b := List.take_of_length_le hbm
   have hi1 := hinv.out
   rw [hb] at hi1
   have HI := qHd hi1
   clear hi1 hb
   go_wp2_with fail
   go_end0
   exact ⟨l', c, rfl, hOr, hll.out, hgr.out, hsame.out, HI.out⟩
def RetDiv (w : World) (q r : Nat) (er : Value) (e : Ending) (w' : World) : Prop := ∃ v1 v2, e = .returned (.tuple #[v1, v2, er]) ∧ Below w.heap.size w w' ∧ Num w' v1 (wd q) ∧ Num w' v2 (wd r)

theorem wd_length_pos {n : Nat} (h : n ≠ 0) : 0 < (wd n).length := by rw [wd_pos h]; simp

theorem div_zero (va vb : Value) (a b : List Nat) (w : World) (ha : Num w va a) (hb : Num w vb b) (hla : a.length ≤ 800000) (hlb : b.length ≤ 800000) (h0 : val b = 0) :
  Calls Tryz.prog 126 #[va, vb] w (RetDiv w 0 0 (errV 8)) := by
 rw [qbz (by decide)]
 go_enter Tryz.func126, Tryz.ntmps126
 go_wp2_with fail
 (with_reducible refine (qda _ _ _ ha (by omega)).mono ?_); rintro e w1 ⟨v1, l1, rfl, hb1, hn1, hl1⟩
 go_wp2_with fail
 (with_reducible refine (qda _ _ _ (hb.below hb1) (by omega)).mono ?_); rintro e w2 ⟨v2, l2, rfl, hb2, hn2, hl2⟩
 have hb12 := hb1.trans (hb2.mono hb1.size)
 rw [h0, qca] at hl2
 subst hl2
 obtain ⟨bo, cb, rfl, hcb, hcb2, _⟩ := hn2.shape
 clear hn2 hb1 hb2 ha hb hl1 hn1 h0
 go_wp2_with fail
 go_ret3
 exact ⟨_, _, rfl, hb12, by rw [qca]; exact Num.nil _, by rw [qca]; exact Num.nil _⟩

theorem div_less (va vb : Value) (a b : List Nat) (w : World) (ha : Num w va a) (hb : Num w vb b) (hla : a.length ≤ 800000) (hlb : b.length ≤ 800000) (hlt : val a < val b) :
  Calls Tryz.prog 126 #[va, vb] w (RetDiv w (val a / val b) (val a % val b) (errV 0)) := by
 have hd1 : val a / val b = 0 := Nat.div_eq_of_lt hlt
 have hd2 : val a % val b = val a := Nat.mod_eq_of_lt hlt
 rw [hd1, hd2, qbi]
 clear hd1 hd2
 have hl1 := qbp ha.lt
 have hl2 := qbp hb.lt
 have hp2 := wd_length_pos (show val b ≠ 0 by omega)
 have hcn := cmpN_islt hlt
 have HLT := qHd hlt; clear hlt
 go_enter Tryz.func126, Tryz.ntmps126
 go_wp2_with fail
 (with_reducible refine (qda _ _ _ ha (by omega)).mono ?_); rintro e w1 ⟨v1, l1, rfl, hb1, hn1, hl1'⟩
 go_wp2_with fail
 (with_reducible refine (qda _ _ _ (hb.below hb1) (by omega)).mono ?_); rintro e w2 ⟨v2, l2, rfl, hb2, hn2, hl2'⟩
 have hn1 := hn1.below hb2
 have hb12 := hb1.trans (hb2.mono hb1.size)
 have hc := cmp_any _ _ _ _ _ hn1 hn2 (by rw [hl1']; omega) (by rw [hl2']; omega)
 rw [hl1', hl2', qaz, qaz] at hc
 rw [← hl2'] at hp2
 obtain ⟨r, hr⟩ : ∃ r, r = cmpN (val a) (val b) := ⟨_, rfl⟩
 rw [← hr] at hc hcn
 obtain ⟨bo, cb, rfl, hcb, hcb2, _⟩ := hn2.shape
 have HC := qHd hc; have H1 := qHd hl1'; have HN1 := qHd hn1
 clear hc hl1' hl2' hn1 hn2 hb1 hb2 ha hb hr
 go_wp2_with fail
 (with_reducible refine HC.out.mono ?_); rintro e w3 ⟨rfl, hb3⟩
 go_wp2_with fail
 go_ret3
 exact ⟨_, _, rfl, hb12.trans (hb3.mono hb12.size), by rw [qca]; exact Num.nil _, by rw [← H1.out]; exact HN1.out.below hb3⟩

theorem div_small (va vb : Value) (a b : List Nat) (w : World) (ha : Num w va a) (hb : Num w vb b) (hla : a.length ≤ 800000) (hlb : b.length ≤ 800000) (hge : val b ≤ val a) (h0 : val b ≠ 0) (hs : val b < 4294967296) :
  Calls Tryz.prog 126 #[va, vb] w (RetDiv w (val a / val b) (val a % val b) (errV 0)) := by
 rw [qbi]
 have hl1 := qbp ha.lt
 have hcn := cmpN_nlt hge
 have hwb : wd (val b) = [val b] := by
  rw [wd_pos h0, Nat.mod_eq_of_lt hs, Nat.div_eq_of_lt hs, qca]
 obtain ⟨B, hB⟩ : ∃ B, B = val b := ⟨_, rfl⟩
 have HBE := qHd hB
 rw [← hB] at hs h0 hwb hge hcn ⊢
 clear hB
 go_enter Tryz.func126, Tryz.ntmps126
 go_wp2_with fail
 (with_reducible refine (qda _ _ _ ha (by omega)).mono ?_); rintro e w1 ⟨v1, l1, rfl, hb1, hn1, hl1'⟩
 go_wp2_with fail
 (with_reducible refine (qda _ _ _ (hb.below hb1) (by omega)).mono ?_); rintro e w2 ⟨v2, l2, rfl, hb2, hn2, hl2'⟩
 have hn1 := hn1.below hb2
 have hb12 := hb1.trans (hb2.mono hb1.size)
 rw [← HBE.out] at hl2'
 have hc := cmp_any _ _ _ _ _ hn1 hn2 (by rw [hl1']; omega) (by rw [hl2', hwb]; simp)
 rw [hl1', hl2', qaz, qaz] at hc
 rw [hwb] at hl2'
 obtain ⟨r, hr⟩ : ∃ r, r = cmpN (val a) B := ⟨_, rfl⟩
 rw [← hr] at hc hcn
 subst hl2'
 obtain ⟨bo, cb, rfl, hcb, hcb2, _⟩ := hn2.shape
 have HC := qHd hc; have H1 := qHd hl1'; have HN1 := qHd hn1; have HN2 := qHd hn2; have HB12 := qHd hb12
 clear hc hl1' hn1 hn2 hb1 hb2 ha hb hr hwb hge hb12
 simp only [List.length_singleton] at *
 go_wp2_with fail
 (with_reducible refine HC.out.mono ?_); rintro e w3 ⟨rfl, hb3⟩
 have hn2 := HN2.out.below hb3
 obtain ⟨bb, ob, rfl, _, hcell⟩ := hn2.at (Nat.succ_pos _)
 have hc0 : w3.cell? ⟨bb, ob, none⟩ = some (.int .u32 (B : Nat)) := hcell 0 (Nat.succ_pos _)
 have hsm := small_any _ _ B _ (HN1.out.below hb3) (by rw [H1.out]; omega) (by omega) hs
 rw [H1.out, qaz] at hsm
 have HSM := qHd hsm
 clear hcell hn2 hsm
 go_wp2_with fail
 (with_reducible refine HSM.out.mono ?_); rintro e w4 ⟨v4, rfl, hb4, hn4⟩
 have hrl : val a % B < B := Nat.mod_lt _ (by omega)
 obtain ⟨r, hr⟩ : ∃ r, r = val a % B := ⟨_, rfl⟩
 have HR := qHd hr
 rw [← hr] at hrl ⊢
 have hof := of_any (r : Int) w4 (by omega) (by omega)
 rw [Int.toNat_natCast] at hof
 have HOF := qHd hof; have HN4 := qHd hn4
 clear hof hn4 hr
 go_wp2_with fail
 (with_reducible refine HOF.out.mono ?_); rintro e w5 ⟨v5, l5, rfl, hb5, hn5, hl5⟩
 go_wp2_with fail
 go_ret3
 have h3 := HB12.out.trans (hb3.mono HB12.out.size)
 have h4 := h3.trans (hb4.mono h3.size)
 have h5 := h4.trans (hb5.mono h4.size)
 exact ⟨_, _, rfl, h5, HN4.out.below hb5, by rw [← HR.out, ← hl5]; exact hn5⟩
theorem div_long (va vb : Value) (a b : List Nat) (w : World) (ha : Num w va a) (hb : Num w vb b) (hla : a.length ≤ 800000) (hlb : b.length ≤ 800000) (hge : val b ≤ val a) (hbig : 4294967296 ≤ val b) :
  Calls Tryz.prog 126 #[va, vb] w (RetDiv w (val a / val b) (val a % val b) (errV 0)) := by
 rw [qbi]
 have hl1 := qbp ha.lt
 have hl2 := qbp hb.lt
 have hcn := cmpN_nlt hge
 have hab := qbk hge
 have hnb2 := wd_two hbig
 obtain ⟨_, hx0, hbl⟩ := wd_top (show val b ≠ 0 by omega)
 have hAl := qem (qeh (val a))
 rw [qaz] at hAl
 obtain ⟨A, hA⟩ : ∃ A, A = val a := ⟨_, rfl⟩
 obtain ⟨Bv, hBv⟩ : ∃ Bv, Bv = val b := ⟨_, rfl⟩
 obtain ⟨la, hla1⟩ : ∃ la, la = wd A := ⟨_, rfl⟩
 obtain ⟨lb, hlb1⟩ : ∃ lb, lb = wd Bv := ⟨_, rfl⟩
 rw [← hA, ← hla1] at hl1 hAl
 rw [← hBv, ← hlb1] at hl2
 rw [← hA, ← hBv, ← hla1, ← hlb1] at hab
 rw [← hBv, ← hlb1] at hnb2 hx0 hbl
 rw [← hA, ← hBv] at hge hcn ⊢
 rw [← hBv] at hbig
 obtain ⟨na, hna⟩ : ∃ na, na = la.length := ⟨_, rfl⟩
 obtain ⟨nb, hnb⟩ : ∃ nb, nb = lb.length := ⟨_, rfl⟩
 rw [← hna] at hl1 hab hAl
 rw [← hnb] at hl2 hab hnb2 hx0 hbl
 have hub : U32 lb := by rw [hlb1]; exact qeh _
 have hxl := hub (nb - 1)
 obtain ⟨x, hx⟩ : ∃ x, x = gd lb (nb - 1) := ⟨_, rfl⟩
 rw [← hx] at hx0 hbl hxl
 obtain ⟨s, hs⟩ : ∃ s, s = 32 - blen x := ⟨_, rfl⟩
 obtain ⟨hVB, hVlo, hs32⟩ := norm_top (show Bv ≠ 0 by omega) hbl hx0 hxl (by omega) hs
 have hlz : ∀ wx : World, Calls Tryz.prog 153 #[.int .u32 x] wx (RetS wx (.int .i64 (s : Nat))) := fun wx => by
  have h := Tryz.bits_LeadingZeros32 x wx (by omega) (by omega)
  rw [Int.toNat_natCast, bitLen_eq x hxl] at h
  have h32 : blen x ≤ 32 := blen_le hxl
  rw [show (32 - (blen x : Int)) = (s : Int) by omega] at h
  exact h.mono fun _ _ ⟨h1, h2⟩ => ⟨h1, h2.symm⟩
 have HA := qHd hA; have HBV := qHd hBv; have HLA := qHd hla1; have HLB := qHd hlb1; have HNA := qHd hna; have HNB := qHd hnb; have HX := qHd hx; have HLZ := qHd hlz
 have HVB := qHd hVB; have HVLO := qHd hVlo; have HAL := qHd hAl
 clear hA hBv hla1 hlb1 hna hnb hx hs hlz hVB hVlo hub hbl hx0 hAl
 go_enter Tryz.func126, Tryz.ntmps126
 go_wp2_with fail
 (with_reducible refine (qda _ _ _ ha (by omega)).mono ?_); rintro e w1 ⟨v1, l1, rfl, hb1, hn1, hl1'⟩
 go_wp2_with fail
 (with_reducible refine (qda _ _ _ (hb.below hb1) (by omega)).mono ?_); rintro e w2 ⟨v2, l2, rfl, hb2, hn2, hl2'⟩
 have hn1 := hn1.below hb2
 have hb12 := hb1.trans (hb2.mono hb1.size)
 rw [← HA.out, ← HLA.out] at hl1'
 rw [← HBV.out, ← HLB.out] at hl2'
 rw [hl1'] at hn1
 rw [hl2'] at hn2
 clear hl1' hl2'
 have hc := cmp_any _ _ _ _ _ hn1 hn2 (by rw [← HNA.out]; omega) (by rw [← HNB.out]; omega)
 rw [HLA.out, HLB.out, qaz, qaz] at hc
 obtain ⟨r, hr⟩ : ∃ r, r = cmpN A Bv := ⟨_, rfl⟩
 rw [← hr] at hc hcn
 obtain ⟨ao, ca, rfl, hca, hca2, _⟩ := hn1.shape
 obtain ⟨bo, cb, rfl, hcb, hcb2, _⟩ := hn2.shape
 rw [← HNA.out] at hn1 hca ⊢
 rw [← HNB.out] at hn2 hcb ⊢
 rw [← HNA.out, ← HNB.out] at hc
 have HC := qHd hc; have HN1 := qHd hn1; have HN2 := qHd hn2
 clear hc hn1 hn2 hb1 hb2 ha hb hr
 go_wp2_with fail
 (with_reducible refine HC.out.mono ?_); rintro e w3 ⟨rfl, hb3⟩
 have hb13 := hb12.trans (hb3.mono hb12.size)
 have hn2' := HN2.out.below hb3
 obtain ⟨bb, ob, rfl, _, hcell⟩ := hn2'.at (by omega)
 have hc0 := hcell (nb - 1) (by omega)
 rw [← HX.out] at hc0
 have hv := left_any _ lb s w3 hn2' (by rw [← HNB.out]; omega) hs32
 have HVC := qHd hv; have HN1 := qHd (HN1.out.below hb3)
 clear hcell hn2' hv hb3 hb12
 go_wp2_with fail
 (with_reducible refine (HLZ.out _).mono ?_); rintro e w' ⟨rfl, rfl⟩
 go_wp2_with fail
 (with_reducible refine HVC.out.mono ?_); rintro e w4 ⟨vv, lv0, rfl, hb4, hO4, hlen4, hval4⟩
 rw [← HNB.out] at hlen4
 rw [HLB.out, qaz] at hval4
 obtain ⟨gv, cv, rfl, hgv⟩ := hO4.head (by rw [hlen4]; omega)
 rw [hlen4] at hO4 ⊢
 have hgv4 := hO4.block
 obtain ⟨hcv1, hcv2⟩ := hO4.num.cap
 have hu := left_any _ la s w4 (HN1.out.below hb4) (by rw [← HNA.out]; omega) hs32
 have hszb : w.heap.size ≤ w3.heap.size := hb13.size
 have hb14 := hb13.trans (hb4.mono hb13.size)
 have HU := qHd hu; have HO4 := qHd hO4; have HL4 := qHd hlen4; have HV4 := qHd hval4
 clear hu hO4 hlen4 hval4 hb4 hb13
 go_wp2_with fail
 (with_reducible refine HU.out.mono ?_); rintro e w5 ⟨vu, lu0, rfl, hb5, hO5, hlen5, hval5⟩
 rw [← HNA.out] at hlen5
 rw [HLA.out, qaz] at hval5
 obtain ⟨gu, cu, rfl, hgu⟩ := hO5.head (by rw [hlen5]; omega)
 rw [hlen5] at hO5 ⊢
 have hgu5 := hO5.block
 obtain ⟨hcu1, hcu2⟩ := hO5.num.cap
 have hb15 := hb14.trans (hb5.mono hb14.size)
 have hNV := (hO4n HO4.out nb (by rw [HL4.out]; omega)).below hb5
 obtain ⟨lv, hlv⟩ : ∃ lv, lv = lv0.take nb := ⟨_, rfl⟩
 rw [← hlv] at hNV
 have hlvl : lv.length = nb := by rw [hlv, List.length_take, HL4.out]; omega
 have hvv : val lv = Bv * 2 ^ s := by rw [hlv, take_all HO4.out.lt (by rw [HV4.out]; exact HVB.out), HV4.out]
 have hO4' := HO4.out.below hb5
 have hcv1' := hO4'.cell HL4.out (nb - 1) (by omega)
 have hcv2' := hO4'.cell HL4.out (nb - 2) (by omega)
 have hg1 : gd lv0 (nb - 1) = gd lv (nb - 1) := by rw [hlv, gd_take, if_pos (by omega)]
 have hg2 : gd lv0 (nb - 2) = gd lv (nb - 2) := by rw [hlv, gd_take, if_pos (by omega)]
 rw [hg1] at hcv1'
 rw [hg2] at hcv2'
 have hVlo : 2147483648 * 4294967296 ^ (nb - 1) ≤ val lv := by rw [hvv]; exact HVLO.out
 have hd2 := div_two hNV.lt hlvl hnb2 hVlo
 have htl := hNV.lt (nb - 1)
 have hnl := hNV.lt (nb - 2)
 obtain ⟨top, htop⟩ : ∃ top, top = gd lv (nb - 1) := ⟨_, rfl⟩
 obtain ⟨next, hnext⟩ : ∃ next, next = gd lv (nb - 2) := ⟨_, rfl⟩
 rw [← htop] at hcv1' htl hd2
 rw [← hnext] at hcv2' hnl hd2
 have ht31 := hd2.1
 have hfr := first_round (k := na + 1 - nb) hO5.lt HAL.out hval5 hs32 (by omega) (by omega) hVlo
 obtain ⟨mq, hnq⟩ : ∃ mq, mq = na + 1 - nb := ⟨_, rfl⟩
 rw [← hnq] at hfr
 have hnqb : mq ≤ 70368744177664 := by omega
 have hmq : mq + nb = na + 1 := by omega
 have hguv : gv ≠ gu := by omega
 have hguw : w.heap.size ≤ gu := by have := hb14.size; omega
 have HO5 := qHd (hO5.base hb14.size); have HL5 := qHd hlen5; have HV5 := qHd hval5; have HNV := qHd hNV; have HLVL := qHd hlvl; have HVV := qHd hvv; have HTOP := qHd htop; have HNEXT := qHd hnext; have HFR := qHd hfr; have HNQ := qHd hnq; have HNE := qHd hguv; have HVLO := qHd hVlo
 have hni : (na : Int) + 1 - (nb : Int) = (mq : Int) := by omega
 have HNI := qHd hni; have HMQ := qHd hmq
 have HB15 := qHd hb15
 clear hO5 hlen5 hval5 hNV hlvl hvv htop hnext hfr hguv hVlo hlv hO4' hg1 hg2 hd2 hb5 hb14 hb15 hni hnq hmq
 go_wp2_with fail
 go_quiet (fail)
 have hq1 : (w5.drewN nq).heap.size = w5.heap.size := rfl
 have HNV := qHd (HNV.out.below (qbg (Below.refl _ _) nq))
 have HO5 := qHd (HO5.out.below (qbg (Below.refl _ _) nq))
 have hb16 := qbg HB15.out nq
 obtain ⟨w6, hw6⟩ : ∃ w6, w6 = w5.drewN nq := ⟨_, rfl⟩
 rw [← hw6] at HNV HO5 hb16 hq1 ⊢
 have HB16 := qHd hb16
 have hgu6 : gu < w6.heap.size := by rw [hq1]; exact hgu5.2
 have hmqi : mq + nb ≤ na + 1 ∧ na + 1 ≤ mq + nb := by have := HMQ.out; omega
 clear hw6 hq1 hb16 hcv1' hcv2'
 go_wp2_with (at_make; refine qdz Tryz.wordsTy rfl _ _ rfl _ _ _ _ mq rfl rfl ?c1 ?c2 hnqb ?_)
 case c1 => exact HNI.out
 case c2 => exact HNI.out
 intro w7 hO7 hB7 hsz7
 have hszw6 := HB16.out.size
 have hO7 := hO7.base hszw6
 have HB17 := qHd (HB16.out.trans (hB7.mono hszw6))
 obtain ⟨gq, hgq⟩ : ∃ gq, gq = w6.heap.size := ⟨_, rfl⟩
 rw [← hgq] at hO7 hsz7 hgu6 hszw6 ⊢
 have hqu : gq ≠ gu := by omega
 have hqv : gv ≠ gq := by omega
 have HQU := qHd hqu; have HQV := qHd hqv
 have HNV := qHd (HNV.out.below hB7)
 have HO5 := qHd (HO5.out.below hB7)
 have hval0 : val lu0 + val lv * val (List.replicate mq 0) = A * 2 ^ s := by rw [val_zeros, Nat.mul_zero, Nat.add_zero]; exact HV5.out
 have HVAL0 := qHd hval0; have HO7 := qHd hO7; have HGQ := qHd hgq
 clear hqu hqv hval0 hO7 hB7 hgq
 go_wp2_with fail
 rw [HNI.out]
 go_loopw [14] (fun jv wr => ∃ (k : Nat) (lu lq : List Nat), k ≤ mq ∧ jv = .int .i64 ((k : Int) - 1) ∧ qdu 156 wr w.heap.size (.slice (some ⟨gu, 0, none⟩) (na + 1) cu) lu ∧ Hid (lu.length = na + 1) ∧
   qdu 156 wr w.heap.size (.slice (some ⟨gq, 0, none⟩) mq mq) lq ∧ Hid (lq.length = mq) ∧ Hid (Num wr (.slice (some ⟨gv, 0, none⟩) nb cv) lv) ∧ Below w.heap.size w wr ∧
   Hid (val lu + val lv * val lq = A * 2 ^ s) ∧ Hid (∀ i, i < k → gd lq i = 0) ∧ Hid (val (lu.drop k) < val lv)) (fun jv _ => (intOf jv + 1).toNat)
 case atStart => exact ⟨mq, lu0, List.replicate mq 0, Nat.le_refl _, rfl, HO5.out, HL5, HO7.out, qHd (by simp), HNV, HB17.out, HVAL0, qHd (fun i _ => by rw [gd_replicate]; split <;> rfl), HFR⟩
 case round =>
  obtain ⟨k, lu, lq, hk, rfl, hOu, hlu, hOq, hlq, hNv, hBr, hinv, hzq, hdr⟩ := hrel
  obtain ⟨wo, rfl⟩ : ∃ wo : World, wo = wr := ⟨_, rfl⟩
  by_cases hk0 : k = 0
  ·subst hk0
   have hi0 := hinv.out
   have hd0 := hdr.out
   rw [List.drop_zero] at hd0
   rw [HVV.out] at hi0 hd0
   obtain ⟨e1, e2⟩ := div_scaled (Nat.two_pow_pos s) hi0 hd0
   have htr := qda _ _ _ hOq.num (by rw [hlq.out]; omega)
   rw [e1] at htr
   have HTR := qHd htr; have E2 := qHd e2; have HOU := qHd hOu
   clear htr e1 e2 hi0 hd0 hOq hOu
   have hlu' := hlu.out
   have hlq' : lq.length ≤ 800001 := by rw [hlq.out]; omega
   go_wp2_with fail
   (with_reducible refine HTR.out.mono ?_); rintro e wa ⟨va1, la1, rfl, hba, hna1, hla1⟩
   have hrt := right_any _ lu s wa (HOU.out.num.below hba) (by rw [hlu.out]; omega) hs32
   rw [hlu.out] at hrt
   have HRT := qHd hrt; have HLA1 := qHd hla1; have HNA1 := qHd hna1
   clear hrt hla1 hna1
   go_wp2_with fail
   (with_reducible refine HRT.out.mono ?_); rintro e wb ⟨vb1, lb1, rfl, hbb, hob, hlb1, hvb1⟩
   have htr := qda _ _ _ hob.num (by rw [hlb1]; omega)
   rw [hvb1, E2.out] at htr
   have HTR := qHd htr
   clear htr hlb1 hvb1
   go_wp2_with fail
   (with_reducible refine HTR.out.mono ?_); rintro e wc ⟨vc1, lc1, rfl, hbc, hnc, hlc⟩
   go_wp2_with fail
   go_ret3
   have h1 := hBr.trans (hba.mono hBr.size)
   have h2 := h1.trans (hbb.mono h1.size)
   have h3 := h2.trans (hbc.mono h2.size)
   exact ⟨_, _, rfl, h3, by rw [← HLA1.out]; exact (HNA1.out.below hbb).below hbc, by rw [← hlc]; exact hnc⟩
  ·obtain ⟨j, rfl⟩ : ∃ j, k = j + 1 := ⟨k - 1, by omega⟩
   have hj1 : ((j + 1 : Nat) : Int) - 1 = (j : Int) := by omega
   rw [hj1]
   clear hj1
   have hvB : val lv < 4294967296 ^ nb := by rw [HVV.out]; exact HVB.out
   have hv0 : 0 < val lv := Nat.lt_of_lt_of_le (Nat.mul_pos (by decide) (Nat.pow_pos (by decide))) HVLO.out
   obtain ⟨k1, k2, k3⟩ := round_head (j := j) hOu.lt hvB hdr.out
   obtain ⟨t1, t2, t3⟩ := div_round (j := j) hOu.lt HNV.out.lt HLVL.out hnb2 HVLO.out k2
   have hc1 := hOu.cell hlu.out (j + nb) (by omega)
   have hc2 := hOu.cell hlu.out (j + nb - 1) (by omega)
   have hc3 := hOu.cell hlu.out (j + nb - 2) (by omega)
   have hu1l := hOu.lt (j + nb)
   have hu0l := hOu.lt (j + nb - 1)
   have hu2l := hOu.lt (j + nb - 2)
   obtain ⟨u1, hu1⟩ : ∃ u1, u1 = gd lu (j + nb) := ⟨_, rfl⟩
   obtain ⟨u0, hu0⟩ : ∃ u0, u0 = gd lu (j + nb - 1) := ⟨_, rfl⟩
   obtain ⟨u2, hu2⟩ : ∃ u2, u2 = gd lu (j + nb - 2) := ⟨_, rfl⟩
   rw [← hu1] at hc1 hu1l t1 t2 t3
   rw [← hu0] at hc2 hu0l t2 t3
   rw [← hu2] at hc3 hu2l t2 t3
   rw [← HTOP.out] at t1 t2 t3
   rw [← HNEXT.out] at t2 t3
   have hor := or_words' u0 u1 hu0l hu1l
   have hhb : u1 * 4294967296 + u0 ≤ top * 4294967296 + 4294967295 := by omega
   have hgl := guess_le (u0 := u0) ht31 t1 hu0l
   have hf1 := fit_first (top := top) (next := next) (head := u1 * 4294967296 + u0) (low := u2) (by omega) hu2l
   obtain ⟨hd, hhd⟩ : ∃ hd, hd = u1 * 4294967296 + u0 := ⟨_, rfl⟩
   rw [← hhd] at hor hhb hgl hf1 t2 t3
   have hhd64 : hd < 18446744073709551616 := by omega
   obtain ⟨g0, hg0⟩ : ∃ g0, g0 = hd / top := ⟨_, rfl⟩
   obtain ⟨r0, hr0⟩ : ∃ r0, r0 = hd % top := ⟨_, rfl⟩
   have hg0i : (hd : Int) / (top : Int) = (g0 : Int) := by rw [hg0]; simp
   have hr0i : (hd : Int) % (top : Int) = (r0 : Int) := by rw [hr0]; simp
   have hr0l : r0 < top := by rw [hr0]; exact Nat.mod_lt _ (by omega)
   have hsum : g0 * top + r0 = hd := by rw [hg0, hr0, Nat.mul_comm]; exact Nat.div_add_mod hd top
   rw [← hg0] at hgl hf1
   have HK1 := qHd k1; have HK2 := qHd k2; have HK3 := qHd k3; have HT2 := qHd t2; have HT3 := qHd t3; have HF1 := qHd hf1; have HSUM := qHd hsum; have HOU := qHd hOu; have HOQ := qHd hOq; have HHB := qHd hhb
   have HvB := qHd hvB; have Hv0 := qHd hv0; have HBO := qHd hBr; have HHD := qHd hhd
   have HG0I := qHd hg0i; have HR0I := qHd hr0i
   clear k1 k2 k3 t1 t2 t3 hf1 hsum hOu hOq hhb hvB hv0 hu1 hu0 hu2 hhd hg0 hr0 hBr hg0i hr0i
   go_wp2_with fail
   obtain ⟨F, hF⟩ : ∃ F, F = fit (hd * 4294967296 + u2) (top * 4294967296 + next) := ⟨_, rfl⟩
   rw [← hF] at HF1 HT2 HT3
   have hFB : F < 4294967296 := by rw [hF]; exact Nat.lt_of_le_of_lt (Nat.min_le_left _ _) (by decide)
   have HF := qHd hF
   clear hF
   go_quiet (fail)
   go_wp2_with fail
   have hby := qbg (Below.refl wo.heap.size wo) nq
   obtain ⟨wy, hwy⟩ : ∃ wy, wy = wo.drewN nq := ⟨_, rfl⟩
   rw [← hwy] at hby ⊢
   have HBY := qHd hby
   clear hwy hby
   have hg0i := HG0I.out
   go_quiet (fail)
   clear hg0i
   have hbz := qbg HBY.out nq
   obtain ⟨wz, hwz⟩ : ∃ wz, wz = wy.drewN nq := ⟨_, rfl⟩
   rw [← hwz] at hbz ⊢
   have HOZ := qHd (HOU.out.below hbz)
   have HQZ := qHd (HOQ.out.below hbz)
   have HNZ := qHd (hNv.out.below hbz)
   have HBZ := qHd (HBO.out.trans (hbz.mono HBO.out.size))
   have hc3' : wz.cell? ⟨gu, j + nb - 2, none⟩ = some (.int .u32 (u2 : Nat)) := by rw [hbz.cell (p := ⟨gu, j + nb - 2, none⟩) HOU.out.block.2]; exact hc3
   clear hwz hbz hc1 hc2 hc3
   go_wp2_with fail
   go_loop [16, 17] (fun gx rx => ∃ g r : Nat, gx = .int .u64 g ∧ rx = .int .u64 r ∧ r < 4294967296 ∧ g ≤ 4294967297 ∧ Hid (g * top + r = hd) ∧ Hid (F ≤ g)) (fun gx _ => (intOf gx).toNat)
   case atStart => exact ⟨g0, r0, rfl, by rw [HR0I.out], by omega, hgl, HSUM, HF1⟩
   case round =>
    obtain ⟨g, r1, rfl, rfl, hrl, hgl1, hgs, hgF⟩ := hrel
    have hct := hgF.out
    have htest := fit_test (next := next) (low := u2) (show 0 < top by omega) hgs.out
    rw [← HF.out] at htest
    by_cases hFg : F < g
    ·have hg1 : 1 ≤ g := by omega
     have hgd := guess_down hgs.out (by omega)
     obtain ⟨gf, hgf⟩ : ∃ gf, gf = g - 1 := ⟨_, rfl⟩
     obtain ⟨rf, hrf⟩ : ∃ rf, rf = r1 + top := ⟨_, rfl⟩
     rw [← hgf, ← hrf] at hgd
     have hgfi : (g : Int) - 1 = (gf : Int) := by omega
     have hrfi : (r1 : Int) + (top : Int) = (rf : Int) := by omega
     have hrf64 : rf < 8589934592 := by omega
     have hFg' : F ≤ gf := by omega
     have hgf2 : gf ≤ 4294967297 := by omega
     have hgm : gf < g := by omega
     have hgrest : 4294967296 ≤ rf → gf = F := by
      intro hrr
      have hgfB : gf < 4294967296 := by
       rcases Nat.lt_or_ge gf 4294967296 with h | h
       ·exact h
       ·exfalso
        have : 4294967296 * top ≤ gf * top := Nat.mul_le_mul_right _ h
        have := HHB.out
        omega
      have := fit_rest (low := u2) (show 0 < top by omega) hgd hnl hgfB hrr
      rw [← HF.out] at this
      omega
     have hor2 := or_words' u2 r1 hu2l hrl
     have hRl : r1 * 4294967296 + u2 < 18446744073709551616 := by omega
     obtain ⟨R, hR⟩ : ∃ R, R = r1 * 4294967296 + u2 := ⟨_, rfl⟩
     rw [← hR] at hor2 htest hRl
     have HGREST := qHd hgrest; have HGD := qHd hgd
     have htest := htest.2 hFg
     obtain ⟨p, hp⟩ : ∃ p, p = g * next := ⟨_, rfl⟩
     have hpi : (g : Int) * (next : Int) = (p : Int) := by rw [hp]; rfl
     have hpl : g < 4294967296 → p < 18446744073709551616 := fun h => by have := word_mul h hnl; rw [hp]; omega
     rw [← hp] at htest
     clear hgrest hgd hgf hrf hR hp hct
     by_cases hrr : 4294967296 ≤ rf
     ·have hgF := qHd (HGREST.out hrr)
      have hrri : decide ((4294967296 : Int) ≤ (rf : Int)) = true := by simp; omega
      have HTEST := qHd htest; clear htest
      by_cases hgB : 4294967296 ≤ g
      ·clear hpl
       have hgBi : decide ((4294967296 : Int) ≤ (g : Int)) = true := by simp; omega
       have HGF := hgF
       go_wp2_with fail
       clear hgfi hrfi hor2 hpi hg1 hrr hgB hrri hgBi
       rw [show j + nb + 1 - j = nb + 1 from by omega]
       have hgB' : gf < 4294967296 := by rw [HGF.out]; exact hFB
       have hT : gf * val lv < 4294967296 ^ (nb + 1) := by
        rw [Nat.pow_succ, Nat.mul_comm _ 4294967296]
        exact Nat.mul_lt_mul_of_lt_of_le hgB' (Nat.le_of_lt HvB.out) (Nat.lt_of_lt_of_le Hv0.out (Nat.le_of_lt HvB.out))
       have HT2' := HT2.out
       have HT3' := HT3.out
       rw [← HGF.out] at HT2' HT3'
       have HT2 := qHd HT2'; have HT3 := qHd HT3'
       clear HT2' HT3'
       (with_reducible refine (take_any gu j (nb + 1) (cu - j) (na + 1) cu gv nb cv gf w.heap.size lu lv wz HOZ.out hlu.out (by omega) (by omega) (by omega) (by omega) HNZ.out HNE.out hgB' (by rw [HLVL.out]; exact Nat.le_succ nb) hT).mono ?_)
       rintro e wt ⟨lt, rb, rfl, hrb, hOt, hlt, hgt, hst, hwt⟩
       have hQt := HQZ.out.keptBy hgt HQU.out
       have hBt := HBZ.out.grown hgt HBZ.out.size (fun k hk => by cases hk; exact hguw)
       have hNt := HNZ.out.keptBy hgt HNE.out
       have hwl := winv_lt hOt.lt j (nb + 1)
       clear hT
       by_cases hr1 : rb = 1
       ·subst hr1
        rw [Nat.mul_one] at hwt
        have hg1 : 1 ≤ gf := by
         rcases Nat.eq_zero_or_pos gf with h0 | h0
         ·exfalso
          rw [h0, Nat.zero_mul, Nat.add_zero] at hwt
          omega
         ·exact h0
        have hgv := give_any gu j (nb + 1) (cu - j) (na + 1) cu gv nb cv w.heap.size lt lv wt hOt hlt (by omega) (by omega) (by omega) (by omega) hNt HNE.out (by rw [HLVL.out]; exact Nat.le_succ nb)
        obtain ⟨gm, hgm⟩ : ∃ gm, gm = gf - 1 := ⟨_, rfl⟩
        have hgmi : (gf : Int) - 1 = (gm : Int) := by omega
        have hQB := qHd (show gm < 4294967296 by omega)
        have hgmb : gm < 4294967296 := by omega
        have HGV := qHd hgv; have HWT := qHd hwt; have HWL := qHd hwl; have HST := qHd hst; have HQT := qHd hQt; have HBT := qHd hBt; have HNT := qHd hNt; have HGM := qHd hgm
        clear hgv hwt hwl hst hQt hBt hNt hOt hlt hgt hgm
        go_wp2_with fail
        rw [show j + nb + 1 - j = nb + 1 from by omega]
        (with_reducible refine HGV.out.mono ?_); rintro e wg ⟨lg, rg, rfl, hOg, hlg, hgg, hsg, hwg⟩
        obtain ⟨e1, e2, _⟩ := round_over Hv0.out (Nat.lt_trans HvB.out (Nat.pow_lt_pow_right (by decide) (Nat.lt_succ_self nb))) HT3.out HWT.out HWL.out hwg (winv_lt hOg.lt j (nb + 1))
        have hsame : ∀ i, i < j ∨ j + (nb + 1) ≤ i → gd lg i = gd lu i := fun i hi => (hsg i hi).trans (HST.out i hi)
        rw [← HGM.out] at e1
        have HQX := qHd (HQT.out.keptBy hgg HQU.out)
        have HBX := qHd (HBT.out.grown hgg HBT.out.size (fun k hk => by cases hk; exact hguw))
        have HNX := qHd (HNT.out.keptBy hgg HNE.out)
        have HOX := qHd hOg; have HLX := qHd hlg; have HWX := qHd e2; have HQD := qHd e1; have HSX := qHd hsame
        clear e1 e2 hsame hOg hlg hgg hsg hwg
        have hOqx := HQX.out.cell hlq.out j (by omega)
        have hfqx := HQX.out.frozen hlq.out j
        have hqmod : (gm : Int) % 4294967296 = (gm : Int) := by omega
        have hgrq := HQX.out.grown hlq.out j gm
        have HGRQ := qHd hgrq
        clear hgrq
        go_wp2_with fail
        go_roundw
        case rel =>
         have h1 := HQX.out.stored hlq.out j gm hQB.out
         obtain ⟨e1, e2, e3⟩ := round_inv (lq := lq) (qd := gm) rfl HWX.out HQD.out HK3.out HSX.out (by rw [hlq.out]; omega) (hzq.out j (by omega)) hinv.out
         refine ⟨j, lg, lq.set j gm, by omega, rfl, HOX.out.keptBy HGRQ.out HQU.out.symm, HLX, h1, qHd (by rw [List.length_set]; exact hlq.out), qHd (HNX.out.keptBy HGRQ.out HQV.out), HBX.out.setCell hszw6 _, qHd e1, qHd ?_, qHd ?_⟩
         ·intro i hi
          rw [gd_set, if_neg (by omega)]; exact hzq.out i (by omega)
         ·rw [e3]; exact Nat.mod_lt _ Hv0.out
        case measure => simp [intOf]
       ·obtain rfl : rb = 0 := by omega
        rw [Nat.mul_zero, Nat.add_zero] at hwt
        obtain ⟨e1, e2⟩ := round_right Hv0.out HT2.out hwt
        have hQB := qHd hgB'
        have HQX := qHd hQt; have HBX := qHd hBt; have HNX := qHd hNt; have HOX := qHd hOt; have HLX := qHd hlt; have HWX := qHd e2; have HQD := qHd e1; have HSX := qHd hst
        clear e1 e2 hQt hBt hNt hOt hlt hst hwt hwl hgt hr1
        have hOqx := HQX.out.cell hlq.out j (by omega)
        have hfqx := HQX.out.frozen hlq.out j
        have hqmod : (gf : Int) % 4294967296 = (gf : Int) := by omega
        have hgrq := HQX.out.grown hlq.out j gf
        have HGRQ := qHd hgrq
        clear hgrq
        go_wp2_with fail
        go_roundw
        case rel =>
         have h1 := HQX.out.stored hlq.out j gf hQB.out
         obtain ⟨e1, e2, e3⟩ := round_inv (lq := lq) (qd := gf) rfl HWX.out HQD.out HK3.out HSX.out (by rw [hlq.out]; omega) (hzq.out j (by omega)) hinv.out
         refine ⟨j, lt, lq.set j gf, by omega, rfl, HOX.out.keptBy HGRQ.out HQU.out.symm, HLX, h1, qHd (by rw [List.length_set]; exact hlq.out), qHd (HNX.out.keptBy HGRQ.out HQV.out), HBX.out.setCell hszw6 _, qHd e1, qHd ?_, qHd ?_⟩
         ·intro i hi
          rw [gd_set, if_neg (by omega)]; exact hzq.out i (by omega)
         ·rw [e3]; exact Nat.mod_lt _ Hv0.out
        case measure => simp [intOf]
      ·have hpl := hpl (by omega)
       have hpR : R < p := by have := HTEST.out; omega
       have hgBi : decide ((4294967296 : Int) ≤ (g : Int)) = false := by simp; omega
       have hpRi : decide (R < p) = true := by simp; omega
       have HGF := hgF
       go_wp2_with fail
       clear hgfi hrfi hor2 hpi hg1 hrr hgB hrri hgBi hpR hpRi hpl
       rw [show j + nb + 1 - j = nb + 1 from by omega]
       have hgB' : gf < 4294967296 := by rw [HGF.out]; exact hFB
       have hT : gf * val lv < 4294967296 ^ (nb + 1) := by
        rw [Nat.pow_succ, Nat.mul_comm _ 4294967296]
        exact Nat.mul_lt_mul_of_lt_of_le hgB' (Nat.le_of_lt HvB.out) (Nat.lt_of_lt_of_le Hv0.out (Nat.le_of_lt HvB.out))
       have HT2' := HT2.out
       have HT3' := HT3.out
       rw [← HGF.out] at HT2' HT3'
       have HT2 := qHd HT2'; have HT3 := qHd HT3'
       clear HT2' HT3'
       (with_reducible refine (take_any gu j (nb + 1) (cu - j) (na + 1) cu gv nb cv gf w.heap.size lu lv wz HOZ.out hlu.out (by omega) (by omega) (by omega) (by omega) HNZ.out HNE.out hgB' (by rw [HLVL.out]; exact Nat.le_succ nb) hT).mono ?_)
       rintro e wt ⟨lt, rb, rfl, hrb, hOt, hlt, hgt, hst, hwt⟩
       have hQt := HQZ.out.keptBy hgt HQU.out
       have hBt := HBZ.out.grown hgt HBZ.out.size (fun k hk => by cases hk; exact hguw)
       have hNt := HNZ.out.keptBy hgt HNE.out
       have hwl := winv_lt hOt.lt j (nb + 1)
       clear hT
       by_cases hr1 : rb = 1
       ·subst hr1
        rw [Nat.mul_one] at hwt
        have hg1 : 1 ≤ gf := by
         rcases Nat.eq_zero_or_pos gf with h0 | h0
         ·exfalso
          rw [h0, Nat.zero_mul, Nat.add_zero] at hwt
          omega
         ·exact h0
        have hgv := give_any gu j (nb + 1) (cu - j) (na + 1) cu gv nb cv w.heap.size lt lv wt hOt hlt (by omega) (by omega) (by omega) (by omega) hNt HNE.out (by rw [HLVL.out]; exact Nat.le_succ nb)
        obtain ⟨gm, hgm⟩ : ∃ gm, gm = gf - 1 := ⟨_, rfl⟩
        have hgmi : (gf : Int) - 1 = (gm : Int) := by omega
        have hQB := qHd (show gm < 4294967296 by omega)
        have hgmb : gm < 4294967296 := by omega
        have HGV := qHd hgv; have HWT := qHd hwt; have HWL := qHd hwl; have HST := qHd hst; have HQT := qHd hQt; have HBT := qHd hBt; have HNT := qHd hNt; have HGM := qHd hgm
        clear hgv hwt hwl hst hQt hBt hNt hOt hlt hgt hgm
        go_wp2_with fail
        rw [show j + nb + 1 - j = nb + 1 from by omega]
        (with_reducible refine HGV.out.mono ?_); rintro e wg ⟨lg, rg, rfl, hOg, hlg, hgg, hsg, hwg⟩
        obtain ⟨e1, e2, _⟩ := round_over Hv0.out (Nat.lt_trans HvB.out (Nat.pow_lt_pow_right (by decide) (Nat.lt_succ_self nb))) HT3.out HWT.out HWL.out hwg (winv_lt hOg.lt j (nb + 1))
        have hsame : ∀ i, i < j ∨ j + (nb + 1) ≤ i → gd lg i = gd lu i := fun i hi => (hsg i hi).trans (HST.out i hi)
        rw [← HGM.out] at e1
        have HQX := qHd (HQT.out.keptBy hgg HQU.out)
        have HBX := qHd (HBT.out.grown hgg HBT.out.size (fun k hk => by cases hk; exact hguw))
        have HNX := qHd (HNT.out.keptBy hgg HNE.out)
        have HOX := qHd hOg; have HLX := qHd hlg; have HWX := qHd e2; have HQD := qHd e1; have HSX := qHd hsame
        clear e1 e2 hsame hOg hlg hgg hsg hwg
        have hOqx := HQX.out.cell hlq.out j (by omega)
        have hfqx := HQX.out.frozen hlq.out j
        have hqmod : (gm : Int) % 4294967296 = (gm : Int) := by omega
        have hgrq := HQX.out.grown hlq.out j gm
        have HGRQ := qHd hgrq
        clear hgrq
        go_wp2_with fail
        go_roundw
        case rel =>
         have h1 := HQX.out.stored hlq.out j gm hQB.out
         obtain ⟨e1, e2, e3⟩ := round_inv (lq := lq) (qd := gm) rfl HWX.out HQD.out HK3.out HSX.out (by rw [hlq.out]; omega) (hzq.out j (by omega)) hinv.out
         refine ⟨j, lg, lq.set j gm, by omega, rfl, HOX.out.keptBy HGRQ.out HQU.out.symm, HLX, h1, qHd (by rw [List.length_set]; exact hlq.out), qHd (HNX.out.keptBy HGRQ.out HQV.out), HBX.out.setCell hszw6 _, qHd e1, qHd ?_, qHd ?_⟩
         ·intro i hi
          rw [gd_set, if_neg (by omega)]; exact hzq.out i (by omega)
         ·rw [e3]; exact Nat.mod_lt _ Hv0.out
        case measure => simp [intOf]
       ·obtain rfl : rb = 0 := by omega
        rw [Nat.mul_zero, Nat.add_zero] at hwt
        obtain ⟨e1, e2⟩ := round_right Hv0.out HT2.out hwt
        have hQB := qHd hgB'
        have HQX := qHd hQt; have HBX := qHd hBt; have HNX := qHd hNt; have HOX := qHd hOt; have HLX := qHd hlt; have HWX := qHd e2; have HQD := qHd e1; have HSX := qHd hst
        clear e1 e2 hQt hBt hNt hOt hlt hst hwt hwl hgt hr1
        have hOqx := HQX.out.cell hlq.out j (by omega)
        have hfqx := HQX.out.frozen hlq.out j
        have hqmod : (gf : Int) % 4294967296 = (gf : Int) := by omega
        have hgrq := HQX.out.grown hlq.out j gf
        have HGRQ := qHd hgrq
        clear hgrq
        go_wp2_with fail
        go_roundw
        case rel =>
         have h1 := HQX.out.stored hlq.out j gf hQB.out
         obtain ⟨e1, e2, e3⟩ := round_inv (lq := lq) (qd := gf) rfl HWX.out HQD.out HK3.out HSX.out (by rw [hlq.out]; omega) (hzq.out j (by omega)) hinv.out
         refine ⟨j, lt, lq.set j gf, by omega, rfl, HOX.out.keptBy HGRQ.out HQU.out.symm, HLX, h1, qHd (by rw [List.length_set]; exact hlq.out), qHd (HNX.out.keptBy HGRQ.out HQV.out), HBX.out.setCell hszw6 _, qHd e1, qHd ?_, qHd ?_⟩
         ·intro i hi
          rw [gd_set, if_neg (by omega)]; exact hzq.out i (by omega)
         ·rw [e3]; exact Nat.mod_lt _ Hv0.out
        case measure => simp [intOf]
     ·have hrri : decide ((4294967296 : Int) ≤ (rf : Int)) = false := by simp; omega
      have HTEST := qHd htest; clear htest
      by_cases hgB : 4294967296 ≤ g
      ·clear hpl
       have hgBi : decide ((4294967296 : Int) ≤ (g : Int)) = true := by simp; omega
       go_wp2_with fail
       go_round
       case rel => exact ⟨gf, rf, rfl, rfl, by omega, hgf2, HGD, qHd hFg'⟩
       case measure => simp [intOf]; omega
      ·have hpl := hpl (by omega)
       have hpR : R < p := by have := HTEST.out; omega
       have hgBi : decide ((4294967296 : Int) ≤ (g : Int)) = false := by simp; omega
       have hpRi : decide (R < p) = true := by simp; omega
       go_wp2_with fail
       go_round
       case rel => exact ⟨gf, rf, rfl, rfl, by omega, hgf2, HGD, qHd hFg'⟩
       case measure => simp [intOf]; omega
    ·have hgFe : g = F := by omega
     have HGF := qHd hgFe
     have hneg : ¬(4294967296 ≤ g ∨ r1 * 4294967296 + u2 < g * next) := fun h => hFg (htest.1 h)
     have hgB : g < 4294967296 := by omega
     have hor2 := or_words' u2 r1 hu2l hrl
     have hRl : r1 * 4294967296 + u2 < 18446744073709551616 := by omega
     have hpl := word_mul hgB hnl
     have hnR : ¬ r1 * 4294967296 + u2 < g * next := fun h => hneg (.inr h)
     obtain ⟨R, hR⟩ : ∃ R, R = r1 * 4294967296 + u2 := ⟨_, rfl⟩
     obtain ⟨p, hp⟩ : ∃ p, p = g * next := ⟨_, rfl⟩
     rw [← hR] at hor2 hRl hnR
     rw [← hp] at hpl hnR
     have hpi : (g : Int) * (next : Int) = (p : Int) := by rw [hp]; rfl
     have hgBi : decide ((4294967296 : Int) ≤ (g : Int)) = false := by simp; omega
     have hpRi : decide (R < p) = false := by simp; omega
     obtain ⟨gf, hgf⟩ : ∃ gf, gf = g := ⟨_, rfl⟩
     subst hgf
     clear htest hneg hR hp hgFe hct hgl1 hFg
     go_wp2_with fail
     clear hor2 hpi hgBi hpRi hnR hpl hRl
     rw [show j + nb + 1 - j = nb + 1 from by omega]
     have hgB' : gf < 4294967296 := by rw [HGF.out]; exact hFB
     have hT : gf * val lv < 4294967296 ^ (nb + 1) := by
      rw [Nat.pow_succ, Nat.mul_comm _ 4294967296]
      exact Nat.mul_lt_mul_of_lt_of_le hgB' (Nat.le_of_lt HvB.out) (Nat.lt_of_lt_of_le Hv0.out (Nat.le_of_lt HvB.out))
     have HT2' := HT2.out
     have HT3' := HT3.out
     rw [← HGF.out] at HT2' HT3'
     have HT2 := qHd HT2'; have HT3 := qHd HT3'
     clear HT2' HT3'
     (with_reducible refine (take_any gu j (nb + 1) (cu - j) (na + 1) cu gv nb cv gf w.heap.size lu lv wz HOZ.out hlu.out (by omega) (by omega) (by omega) (by omega) HNZ.out HNE.out hgB' (by rw [HLVL.out]; exact Nat.le_succ nb) hT).mono ?_)
     rintro e wt ⟨lt, rb, rfl, hrb, hOt, hlt, hgt, hst, hwt⟩
     have hQt := HQZ.out.keptBy hgt HQU.out
     have hBt := HBZ.out.grown hgt HBZ.out.size (fun k hk => by cases hk; exact hguw)
     have hNt := HNZ.out.keptBy hgt HNE.out
     have hwl := winv_lt hOt.lt j (nb + 1)
     clear hT
     by_cases hr1 : rb = 1
     ·subst hr1
      rw [Nat.mul_one] at hwt
      have hg1 : 1 ≤ gf := by
       rcases Nat.eq_zero_or_pos gf with h0 | h0
       ·exfalso
        rw [h0, Nat.zero_mul, Nat.add_zero] at hwt
        omega
       ·exact h0
      have hgv := give_any gu j (nb + 1) (cu - j) (na + 1) cu gv nb cv w.heap.size lt lv wt hOt hlt (by omega) (by omega) (by omega) (by omega) hNt HNE.out (by rw [HLVL.out]; exact Nat.le_succ nb)
      obtain ⟨gm, hgm⟩ : ∃ gm, gm = gf - 1 := ⟨_, rfl⟩
      have hgmi : (gf : Int) - 1 = (gm : Int) := by omega
      have hQB := qHd (show gm < 4294967296 by omega)
      have hgmb : gm < 4294967296 := by omega
      have HGV := qHd hgv; have HWT := qHd hwt; have HWL := qHd hwl; have HST := qHd hst; have HQT := qHd hQt; have HBT := qHd hBt; have HNT := qHd hNt; have HGM := qHd hgm
      clear hgv hwt hwl hst hQt hBt hNt hOt hlt hgt hgm
      go_wp2_with fail
      rw [show j + nb + 1 - j = nb + 1 from by omega]
      (with_reducible refine HGV.out.mono ?_); rintro e wg ⟨lg, rg, rfl, hOg, hlg, hgg, hsg, hwg⟩
      obtain ⟨e1, e2, _⟩ := round_over Hv0.out (Nat.lt_trans HvB.out (Nat.pow_lt_pow_right (by decide) (Nat.lt_succ_self nb))) HT3.out HWT.out HWL.out hwg (winv_lt hOg.lt j (nb + 1))
      have hsame : ∀ i, i < j ∨ j + (nb + 1) ≤ i → gd lg i = gd lu i := fun i hi => (hsg i hi).trans (HST.out i hi)
      rw [← HGM.out] at e1
      have HQX := qHd (HQT.out.keptBy hgg HQU.out)
      have HBX := qHd (HBT.out.grown hgg HBT.out.size (fun k hk => by cases hk; exact hguw))
      have HNX := qHd (HNT.out.keptBy hgg HNE.out)
      have HOX := qHd hOg; have HLX := qHd hlg; have HWX := qHd e2; have HQD := qHd e1; have HSX := qHd hsame
      clear e1 e2 hsame hOg hlg hgg hsg hwg
      have hOqx := HQX.out.cell hlq.out j (by omega)
      have hfqx := HQX.out.frozen hlq.out j
      have hqmod : (gm : Int) % 4294967296 = (gm : Int) := by omega
      have hgrq := HQX.out.grown hlq.out j gm
      have HGRQ := qHd hgrq
      clear hgrq
      go_wp2_with fail
      go_roundw
      case rel =>
       have h1 := HQX.out.stored hlq.out j gm hQB.out
       obtain ⟨e1, e2, e3⟩ := round_inv (lq := lq) (qd := gm) rfl HWX.out HQD.out HK3.out HSX.out (by rw [hlq.out]; omega) (hzq.out j (by omega)) hinv.out
       refine ⟨j, lg, lq.set j gm, by omega, rfl, HOX.out.keptBy HGRQ.out HQU.out.symm, HLX, h1, qHd (by rw [List.length_set]; exact hlq.out), qHd (HNX.out.keptBy HGRQ.out HQV.out), HBX.out.setCell hszw6 _, qHd e1, qHd ?_, qHd ?_⟩
       ·intro i hi
        rw [gd_set, if_neg (by omega)]; exact hzq.out i (by omega)
       ·rw [e3]; exact Nat.mod_lt _ Hv0.out
      case measure => simp [intOf]
     ·obtain rfl : rb = 0 := by omega
      rw [Nat.mul_zero, Nat.add_zero] at hwt
      obtain ⟨e1, e2⟩ := round_right Hv0.out HT2.out hwt
      have hQB := qHd hgB'
      have HQX := qHd hQt; have HBX := qHd hBt; have HNX := qHd hNt; have HOX := qHd hOt; have HLX := qHd hlt; have HWX := qHd e2; have HQD := qHd e1; have HSX := qHd hst
      clear e1 e2 hQt hBt hNt hOt hlt hst hwt hwl hgt hr1
      have hOqx := HQX.out.cell hlq.out j (by omega)
      have hfqx := HQX.out.frozen hlq.out j
      have hqmod : (gf : Int) % 4294967296 = (gf : Int) := by omega
      have hgrq := HQX.out.grown hlq.out j gf
      have HGRQ := qHd hgrq
      clear hgrq
      go_wp2_with fail
      go_roundw
      case rel =>
       have h1 := HQX.out.stored hlq.out j gf hQB.out
       obtain ⟨e1, e2, e3⟩ := round_inv (lq := lq) (qd := gf) rfl HWX.out HQD.out HK3.out HSX.out (by rw [hlq.out]; omega) (hzq.out j (by omega)) hinv.out
       refine ⟨j, lt, lq.set j gf, by omega, rfl, HOX.out.keptBy HGRQ.out HQU.out.symm, HLX, h1, qHd (by rw [List.length_set]; exact hlq.out), qHd (HNX.out.keptBy HGRQ.out HQV.out), HBX.out.setCell hszw6 _, qHd e1, qHd ?_, qHd ?_⟩
       ·intro i hi
        rw [gd_set, if_neg (by omega)]; exact hzq.out i (by omega)
       ·rw [e3]; exact Nat.mod_lt _ Hv0.out
      case measure => simp [intOf]
theorem div_any (va vb : Value) (a b : List Nat) (w : World) (ha : Num w va a) (hb : Num w vb b) (hla : a.length ≤ 800000) (hlb : b.length ≤ 800000) (h0 : val b ≠ 0) :
  Calls Tryz.prog 126 #[va, vb] w (RetDiv w (val a / val b) (val a % val b) (errV 0)) := by
 by_cases h1 : val a < val b
 ·exact div_less va vb a b w ha hb hla hlb h1
 ·by_cases h2 : val b < 4294967296
  ·exact div_small va vb a b w ha hb hla hlb (by omega) h0 h2
  ·exact div_long va vb a b w ha hb hla hlb (by omega) (by omega)

theorem Num.unique {w : World} {v : Value} {l m : List Nat} (h : Num w v l) (k : Num w v m) : l = m := by
 obtain ⟨ao, c, e, h1, h2, h3, h4, h5⟩ := h
 subst e
 obtain ⟨ao', c', e', k1, k2, k3, k4, k5⟩ := k
 simp only [Value.slice.injEq] at e'
 obtain ⟨rfl, hl, rfl⟩ := e'
 apply gd_ext hl
 intro j hj
 cases hao : ao with
 | none => have := h3 hao; omega
 | some a =>
  obtain ⟨b, off, s⟩ := a
  obtain ⟨_, c1⟩ := h4 b off s hao
  obtain ⟨_, c2⟩ := k4 b off s hao
  have e1 := c1 j hj
  have e2 := c2 j (by omega)
  rw [e1] at e2
  simp only [Option.some.injEq, Value.int.injEq, true_and] at e2
  omega
open Classical in
/-- what a slice value is worth in a world -/
noncomputable def numOf (w : World) (v : Value) : Nat := if h : ∃ l, Num w v l then val h.choose else 0
theorem numOf_eq {w : World} {v : Value} {l : List Nat} (h : Num w v l) : numOf w v = val l := by
 have hx : ∃ l, Num w v l := ⟨l, h⟩
 unfold numOf
 rw [dif_pos hx, hx.choose_spec.unique h]

theorem gcd_any (va vb : Value) (a b : List Nat) (w : World) (ha : Num w va a) (hb : Num w vb b) (hla : a.length ≤ 800000) (hlb : b.length ≤ 800000) :
  Calls Tryz.prog 125 #[va, vb] w (RetNum w fun r => r = wd (Nat.gcd (val a) (val b))) := by
 have hl1 := qbp ha.lt
 have hl2 := qbp hb.lt
 obtain ⟨G, hG⟩ : ∃ G, G = Nat.gcd (val a) (val b) := ⟨_, rfl⟩
 rw [← hG]
 have HG := qHd hG; clear hG
 go_enter Tryz.func125, Tryz.ntmps125
 go_wp2_with fail
 (with_reducible refine (qda _ _ _ ha (by omega)).mono ?_); rintro e w1 ⟨v1, l1, rfl, hb1, hn1, hl1'⟩
 go_wp2_with fail
 (with_reducible refine (qda _ _ _ (hb.below hb1) (by omega)).mono ?_); rintro e w2 ⟨v2, l2, rfl, hb2, hn2, hl2'⟩
 have hn1 := hn1.below hb2
 have hb12 := hb1.trans (hb2.mono hb1.size)
 rw [hl1'] at hn1
 rw [hl2'] at hn2
 obtain ⟨x0, hx0⟩ : ∃ x0, x0 = val a := ⟨_, rfl⟩
 obtain ⟨y0, hy0⟩ : ∃ y0, y0 = val b := ⟨_, rfl⟩
 rw [← hx0] at hn1 hl1
 rw [← hy0] at hn2 hl2
 have hg0 : Nat.gcd x0 y0 = G := by rw [HG.out, hx0, hy0]
 have HG0 := qHd hg0; have HN1 := qHd hn1; have HN2 := qHd hn2
 clear hg0 hx0 hy0 hn1 hn2 hl1' hl2' hb1 hb2 ha hb
 go_wp2_with fail
 go_loopw [0, 1] (fun xv yv wr => ∃ x y : Nat, Num wr xv (wd x) ∧ Num wr yv (wd y) ∧ Below w.heap.size w wr ∧ Hid (Nat.gcd x y = G) ∧ (wd x).length ≤ 800000 ∧ (wd y).length ≤ 800000) (fun _ yv wr => numOf wr yv)
 case atStart => exact ⟨x0, y0, HN1.out, HN2.out, hb12, HG0, by omega, by omega⟩
 case round =>
  obtain ⟨x, y, hnx, hny, hBr, hgr, hlx, hly⟩ := hrel
  by_cases hy0 : y = 0
  ·subst hy0
   rw [qca] at hny hly
   obtain ⟨yo, cy, rfl, hcy, hcy2, _⟩ := hny.shape
   have hgx : x = G := by rw [← hgr.out, Nat.gcd_zero_right]
   have HGX := qHd hgx; have HNX := qHd hnx
   clear hny hgx hnx
   go_wp2_with fail
   go_ret
   exact ⟨_, _, rfl, hBr, HNX.out, by rw [HGX.out]⟩
  ·have hd := div_any _ _ _ _ _ hnx hny hlx hly (by rw [qaz]; exact hy0)
   rw [qaz, qaz, qbi] at hd
   have hpos := wd_length_pos hy0
   have hm0 := numOf_eq hny
   rw [qaz] at hm0
   obtain ⟨yo, cy, rfl, hcy, hcy2, _⟩ := hny.shape
   have hlm : (wd (x % y)).length ≤ (wd y).length := qbk (Nat.le_of_lt (Nat.mod_lt _ (by omega)))
   have hml : x % y < y := Nat.mod_lt _ (by omega)
   have hgm : Nat.gcd y (x % y) = G := by rw [← hgr.out, Nat.gcd_comm x y, Nat.gcd_rec y x, Nat.gcd_comm]
   have HD := qHd hd; have HNY := qHd hny; have HM0 := qHd hm0; have HLM := qHd hlm; have HML := qHd hml; have HGM := qHd hgm
   clear hd hny hm0 hlm hml hgm hnx
   go_wp2_with fail
   (with_reducible refine HD.out.mono ?_); rintro e w3 ⟨v1, v2, rfl, hb3, hq, hr⟩
   have HR := qHd hr
   clear hq hr
   go_wp2_with fail
   go_roundw
   case rel => exact ⟨y, x % y, HNY.out.below hb3, HR.out, hBr.trans (hb3.mono hBr.size), HGM, hly, Nat.le_trans HLM.out hly⟩
   case measure =>
    have e1 := numOf_eq HR.out
    rw [qaz] at e1
    show numOf _ _ < numOf _ _
    rw [HM0.out]
    exact Nat.lt_of_le_of_lt (Nat.le_of_eq e1) HML.out
def freshW (n : Nat) : Array Value := madeCells #[.int .u32 0] n
theorem run_makeW (wx : World) (n : Nat) (hn : n ≤ 70368744177664) :
  (Instr.makeSlice 52 (.int .i64 (n : Int)) (.int .i64 (n : Int))).run Tryz.prog wx = .ok (.slice (some ⟨wx.heap.size, 0, none⟩) n n) (wx.alloc (.cells (freshW n) 156)) := by
 obtain ⟨i0, hi, hz0, hz1, hz2⟩ := Tryz.wordsTy.info
 have h := run_make (P := Tryz.prog) wx 52 156 i0 (.int .u32 0) Tryz.wordsTy.under hi hz0 .i64 .i64 (n : Int) (n : Int) (by omega) (Int.le_refl _) (by rw [hz2]; omega) (by omega)
 rw [h, Int.toNat_natCast, hz1, Nat.mul_one]; rfl
theorem own_made (w : World) (B n : Nat) (hB : B ≤ w.heap.size) (hn : n ≤ 70368744177664) :
  qdu 156 (w.alloc (.cells (freshW n) 156)) B (.slice (some ⟨w.heap.size, 0, none⟩) n n) (List.replicate n 0) := by
 have e : (freshW n).toList = List.replicate n (.int .u32 0) := by unfold freshW; rw [toList_madeCells_one]
 have hs : (freshW n).size = n := by rw [← Array.length_toList, e, List.length_replicate]
 refine ⟨⟨by simp, .inr ⟨w.heap.size, n, _, ?_, hB, heap_alloc_new w _, ?_, ?_, ?_, ?_⟩⟩, U32.replicate n (by decide)⟩
 ·rw [List.length_replicate]
 ·rw [List.length_replicate]; exact Nat.le_refl _
 ·unfold maxLen; omega
 ·rw [Nat.mul_one]; exact hs
 ·rw [e, List.map_replicate, List.length_replicate, Nat.mul_one, List.take_of_length_le (by simp)]; rfl

section
variable {P : Program} {w : World} {ops : Array Oper} {o : Oper} {a : Act} {K : Act → World → Prop} {Q : Exit → Act → World → Prop} {E : Prop} {t e : TypeId}
theorem step_appendN2 (T : qee P t e (.int .u32 0) 1 4)
  (hg : o.guard = none) (s x : Operand) (hop : o.op = Op.call { callee := Callee.builtin Builtin.append, args := #[s, x], argTypes := #[t, t] })
  (B : Nat) (v xv : Value) (l m : List Nat) (hs : a.eval s = v) (hx : a.eval x = xv) (hown : qdu e w B v l) (hm : Num w xv m)
  (hlen : l.length + m.length ≤ 17592186044416) (hB : B ≤ w.heap.size)
  (hK : ∀ v' w', qdu e w' B v' (l ++ m) → (∀ w0, Below B w0 w → Below B w0 w') → w.heap.size ≤ w'.heap.size → w.grownBy w' v.ownBlock → K (a.put o.dst v') w') :
  if Region.wanted o (yielded ops a.tmps) = true then Oper.wp P o a w K Q else E := by
 have hw : Region.wanted o (yielded ops a.tmps) = true := by simp [Region.wanted, hg]
 rw [if_pos hw]
 have key : ∃ v' w', (Builtin.append_ #[t, t] o.type #[v, xv]).run P w = .ok v' w' ∧ qdu e w' B v' (l ++ m) ∧ w.grownBy w' v.ownBlock := run_appendN T o.type B v xv l m hown hm hlen hB
 obtain ⟨v', w', hrun, r1, r2⟩ := key
 unfold Oper.wp
 simp [execOp, hop, resolve, invoke, builtin, hs, hx, hrun, Result.andThen]
 refine hK v' w' r1 (fun w0 h0 => h0.grown r2 hB ?_) r2.size r2
 intro k hk
 exact (hown.1.lt k hk).1
end
theorem Tryz.sizeBuilder : (Tryz.prog.info? 129).map (·.size) = some 2 := by kernel_rfl
theorem Tryz.liesBuilder : liesAt Tryz.prog Tryz.prog.depth 129 (2 / Tryz.prog.cellsOf 129) 0 129 1 = true := by kernel_rfl
theorem Tryz.infoByte : (Tryz.prog.info? 5).map (fun i => (i.zero, i.size, i.bytes)) = some (some (.int .u8 0), 1, 1) := by kernel_rfl

theorem copyCheck_used (b : Nat) (w : World) (h0 : w.cell? ⟨b, 0, none⟩ = some (.pointer (some ⟨b, 0, none⟩))) :
  Calls Tryz.prog 142 #[.pointer (some ⟨b, 0, none⟩)] w fun e w' => e = .returned (.tuple #[]) ∧ w' = w := by
 obtain ⟨j, hj, _⟩ := Option.map_eq_some_iff.1 Tryz.sizeBuilder
 go_enter Tryz.func142, Tryz.ntmps142
 go_wp2
 rw [Lib.run_neq_ptr_same w _ Tryz.underlying126 hj]
 go_wp2
 go_end0
 exact ⟨rfl, rfl⟩

theorem copyCheck_fresh (b : Nat) (w : World) (h0 : w.cell? ⟨b, 0, none⟩ = some (.pointer none)) (hsh : w.shape? b = some (129, 2)) (hfz : w.frozen? ⟨b, 0, none⟩ = false) :
  Calls Tryz.prog 142 #[.pointer (some ⟨b, 0, none⟩)] w fun e w' => e = .returned (.tuple #[]) ∧ w' = w.setCell ⟨b, 0, none⟩ (.pointer (some ⟨b, 0, none⟩)) := by
 obtain ⟨j, hj, hjs⟩ := Option.map_eq_some_iff.1 Tryz.sizeBuilder
 go_enter Tryz.func142, Tryz.ntmps142
 go_wp2
 rw [Lib.run_to_unsafe w ⟨b, 0, none⟩ Tryz.underlying126 Tryz.underlying206 hj (by rw [hjs]; decide) hsh (Nat.zero_lt_succ 1)]
 simp only [Result.andThen]
 rw [Oper.upon_value]
 go_wp2
 rw [run_callFunc_extern Tryz.func163 (by kernel_rfl) (by kernel_rfl) (by kernel_rfl) (e := Extern.AbiNoEscape.same) (by kernel_rfl)]
 rw [Lib.run_noEscape]
 simp only [Result.andThen]
 rw [Oper.upon_value]
 go_wp2
 rw [Lib.run_from_unsafe w ⟨b, 0, none⟩ Tryz.underlying206 Tryz.underlying126 hj hsh Tryz.liesBuilder]
 simp only [Result.andThen]
 rw [Oper.upon_value]
 go_wp2
 go_end0
 exact ⟨rfl, rfl⟩

theorem copyCheck_any (B b : Nat) (bs : List Value) (w : World) (h : Lib.IsBuilder 129 5 B b bs w) :
  Calls Tryz.prog 142 #[.pointer (some ⟨b, 0, none⟩)] w fun e w' => e = .returned (.tuple #[]) ∧ (Lib.BuilderAt 129 5 B b (.pointer (some ⟨b, 0, none⟩)) bs w' ∧ Below B w w') := by
 rcases h with h | h
 ·refine (copyCheck_fresh b w h.cell0 h.shape h.frozen0).mono ?_
  rintro e w' ⟨rfl, rfl⟩
  exact ⟨rfl, h.used _, (Below.refl B w).setCell (p := ⟨b, 0, none⟩) h.1 _⟩
 ·refine (copyCheck_used b w h.cell0).mono ?_
  rintro e w' ⟨rfl, rfl⟩
  exact ⟨rfl, h, Below.refl B _⟩

theorem writeString_any (B b : Nat) (bs : List Value) (s : ByteArray) (w : World) (h : Lib.IsBuilder 129 5 B b bs w) (hlen : bs.length + s.size ≤ 140737488355328) (hBw : B ≤ w.heap.size) :
  Calls Tryz.prog 109 #[.pointer (some ⟨b, 0, none⟩), .string s] w fun e w' => e = .returned (.tuple #[.int .i64 s.size, .nilIface]) ∧ (Lib.BuilderAt 129 5 B b (.pointer (some ⟨b, 0, none⟩)) (bs ++ Lib.strCells s) w' ∧ Below B w w') := by
 obtain ⟨i0, hi, hz0, hz1, hz2⟩ := info_parts Tryz.infoByte
 go_enter Tryz.func109, Tryz.ntmps109
 go_wp2_with fail
 (with_reducible refine (copyCheck_any B b bs _ h).mono ?_)
 rintro e w1 ⟨rfl, h1, hb1⟩
 obtain ⟨hB, v, hbk, hown, hne⟩ := h1
 have c0 : w1.cell? ⟨b, 0, none⟩ = some (.pointer (some ⟨b, 0, none⟩)) := by rw [Lib.cell_of_heap hbk]; rfl
 have c1 : w1.cell? ⟨b, 1, none⟩ = some v := by rw [Lib.cell_of_heap hbk]; rfl
 go_wp2_with (at_builtin; refine Lib.wpList_append_own_string _ rfl _ _ 127 9 rfl B 5 i0 Tryz.underlying127 Tryz.underlying9 hi hz0 hz1 hz2 _ _ _ rfl hown s rfl ?c3 ?c4 ?c5 ?_)
 case c3 => unfold maxLen; omega
 case c4 => omega
 case c5 => have := hb1.size; omega
 intro v' w2 hown' hgrow _
 have hlt : b < w1.heap.size := by
  rcases Nat.lt_or_ge b w1.heap.size with h' | h'
  ·exact h'
  ·simp [Array.getElem?_eq_none h'] at hbk
 have hb2 : w2.heap[b]? = some (.cells #[.pointer (some ⟨b, 0, none⟩), v] 129 (0, 0)) := by
  rw [hgrow.block b hlt (fun e => hne e.symm)]
  exact hbk
 have d0 : w2.cell? ⟨b, 0, none⟩ = some (.pointer (some ⟨b, 0, none⟩)) := by rw [Lib.cell_of_heap hb2]; rfl
 have d1 : w2.cell? ⟨b, 1, none⟩ = some v := by rw [Lib.cell_of_heap hb2]; rfl
 have f1 : w2.frozen? ⟨b, 1, none⟩ = false := Lib.frozen_of_heap hb2 1
 obtain ⟨ao, n', cap, rfl⟩ : ∃ ao n' cap, v' = .slice ao n' cap := by
  rcases hown'.2 with ⟨hv, _⟩ | ⟨g, cap, cur, hv, _⟩
  ·exact ⟨_, _, _, hv⟩
  ·exact ⟨_, _, _, hv⟩
 go_wp2
 go_ret2
 refine ⟨rfl, ?_, ?_⟩
 ·exact Lib.BuilderAt.put (T := 129) (e := 5) hB hb2 (bs' := bs ++ Lib.strCells s) (by simpa [Lib.strCells_length] using hown') (by decide)
 ·exact (hb1.grown hgrow (by have := hb1.size; omega) (fun k hk => (hown.lt k hk).1)).setCell (p := ⟨b, 1, none⟩) hB _

def digB (n : Nat) : UInt8 := UInt8.ofNat (48 + n % 10)
theorem digB_toNat (n : Nat) : (digB n).toNat = 48 + n % 10 := by
 unfold digB
 rw [UInt8.toNat_ofNat_of_lt' (by show 48 + n % 10 < 256; omega)]
def padD : Nat → Nat → List UInt8
 | 0, _ => []
 | k + 1, n => digB n :: padD k (n / 10)
def nineB (n : Nat) : ByteArray := ⟨((padD 9 n).reverse).toArray⟩

theorem nine_any (n : Nat) (w : World) (hn : n < 4294967296) :
  Calls Tryz.prog 114 #[.int .u32 n] w (qea w (.string (nineB n))) := by
 have e : ∀ m : Nat, ((digB m).toNat : Int) = 48 + (m : Int) % 10 := fun m => by rw [digB_toNat]; omega
 have hl : (padD 9 n).reverse = [digB (n / 10 / 10 / 10 / 10 / 10 / 10 / 10 / 10), digB (n / 10 / 10 / 10 / 10 / 10 / 10 / 10), digB (n / 10 / 10 / 10 / 10 / 10 / 10), digB (n / 10 / 10 / 10 / 10 / 10), digB (n / 10 / 10 / 10 / 10), digB (n / 10 / 10 / 10), digB (n / 10 / 10), digB (n / 10), digB n] := rfl
 have hcv : ∀ T : TypeId, (convert 127 9 (.slice (some ⟨w.heap.size, 0, none⟩) 9 9)).run Tryz.prog
   (w.alloc (.cells #[.int .u8 (48 + (n : Int) / 10 / 10 / 10 / 10 / 10 / 10 / 10 / 10 % 10), .int .u8 (48 + (n : Int) / 10 / 10 / 10 / 10 / 10 / 10 / 10 % 10), .int .u8 (48 + (n : Int) / 10 / 10 / 10 / 10 / 10 / 10 % 10), .int .u8 (48 + (n : Int) / 10 / 10 / 10 / 10 / 10 % 10), .int .u8 (48 + (n : Int) / 10 / 10 / 10 / 10 % 10), .int .u8 (48 + (n : Int) / 10 / 10 / 10 % 10), .int .u8 (48 + (n : Int) / 10 / 10 % 10), .int .u8 (48 + (n : Int) / 10 % 10), .int .u8 (48 + (n : Int) % 10)] T)) =
   .ok (.string (nineB n)) (w.alloc (.cells #[.int .u8 (48 + (n : Int) / 10 / 10 / 10 / 10 / 10 / 10 / 10 / 10 % 10), .int .u8 (48 + (n : Int) / 10 / 10 / 10 / 10 / 10 / 10 / 10 % 10), .int .u8 (48 + (n : Int) / 10 / 10 / 10 / 10 / 10 / 10 % 10), .int .u8 (48 + (n : Int) / 10 / 10 / 10 / 10 / 10 % 10), .int .u8 (48 + (n : Int) / 10 / 10 / 10 / 10 % 10), .int .u8 (48 + (n : Int) / 10 / 10 / 10 % 10), .int .u8 (48 + (n : Int) / 10 / 10 % 10), .int .u8 (48 + (n : Int) / 10 % 10), .int .u8 (48 + (n : Int) % 10)] T)) := by
  intro T
  have h := run_convert_bytes_back (P := Tryz.prog) (w.alloc (.cells #[.int .u8 (48 + (n : Int) / 10 / 10 / 10 / 10 / 10 / 10 / 10 / 10 % 10), .int .u8 (48 + (n : Int) / 10 / 10 / 10 / 10 / 10 / 10 / 10 % 10), .int .u8 (48 + (n : Int) / 10 / 10 / 10 / 10 / 10 / 10 % 10), .int .u8 (48 + (n : Int) / 10 / 10 / 10 / 10 / 10 % 10), .int .u8 (48 + (n : Int) / 10 / 10 / 10 / 10 % 10), .int .u8 (48 + (n : Int) / 10 / 10 / 10 % 10), .int .u8 (48 + (n : Int) / 10 / 10 % 10), .int .u8 (48 + (n : Int) / 10 % 10), .int .u8 (48 + (n : Int) % 10)] T))
   127 9 5 ⟨w.heap.size, 0, none⟩ 9 (padD 9 n).reverse Tryz.underlying127 Tryz.underlying5 Tryz.underlying9 ?_
  ·exact h
  ·intro j hj
   have hj9 : j < 9 := by rw [hl] at hj; exact hj
   have ea : (⟨w.heap.size, 0, none⟩ : Addr).add j = ⟨w.heap.size, 0 + j, none⟩ := by unfold Addr.add; split <;> simp_all
   rw [ea, Nat.zero_add, cell_of_row _ w.heap.size j _ T (0, 0) (heap_alloc_new w _)]
   simp only [hl]
   match j, hj9 with
   | 0, _ => simp [e]
   | 1, _ => simp [e]
   | 2, _ => simp [e]
   | 3, _ => simp [e]
   | 4, _ => simp [e]
   | 5, _ => simp [e]
   | 6, _ => simp [e]
   | 7, _ => simp [e]
   | 8, _ => simp [e]
 have HCV := qHd hcv
 clear hcv hl e
 go_enter Tryz.func114, Tryz.ntmps114
 go_wp2_with fail
 go_rounds 10
 rw [HCV.out]
 simp only [Result.andThen]
 rw [Oper.upon_value]
 go_wp2_with fail
 go_ret
 exact ⟨rfl, (Below.refl _ _).alloc (Nat.le_refl _) _⟩
def digD (n : Nat) : List UInt8 := if h : n = 0 then [] else digB n :: digD (n / 10)
termination_by n
decreasing_by exact Nat.div_lt_self (by omega) (by decide)
theorem digD_zero : digD 0 = [] := by unfold digD; simp
theorem digD_pos {n : Nat} (h : n ≠ 0) : digD n = digB n :: digD (n / 10) := by rw [digD]; rw [dif_neg h]
def decB (n : Nat) : ByteArray := if n = 0 then ⟨#[48]⟩ else ⟨((digD n).reverse).toArray⟩
theorem padD_zero (k : Nat) : padD k 0 = List.replicate k 48 := by
 induction k with
 | zero => rfl
 | succ k ih => simp only [padD, Nat.zero_div, ih]; rfl
theorem padD_eq (k n : Nat) (h : n < 10 ^ k) : ∃ z, padD k n = digD n ++ List.replicate z 48 := by
  induction k generalizing n with
  | zero => have : n = 0 := by simpa using h
            subst this; exact ⟨0, by rw [digD_zero]; rfl⟩
  | succ k ih =>
    by_cases h0 : n = 0
    · subst h0; exact ⟨k + 1, by rw [padD_zero, digD_zero]; rfl⟩
    · obtain ⟨z, hz⟩ := ih (n / 10) (by rw [Nat.pow_succ] at h; omega)
      exact ⟨z, by rw [digD_pos h0]; simp only [padD, hz]; rfl⟩
theorem digD_last (n : Nat) (h : n ≠ 0) : ∃ l x, digD n = l ++ [x] ∧ x ≠ 48 := by
 induction n using Nat.strongRecOn with
 | _ n ih =>
  by_cases h1 : n / 10 = 0
  ·refine ⟨[], digB n, by rw [digD_pos h, h1, digD_zero]; rfl, ?_⟩
   intro e
   have := digB_toNat n
   rw [e] at this
   have : (48 : UInt8).toNat = 48 := rfl
   omega
  ·obtain ⟨l, x, hl, hx⟩ := ih (n / 10) (Nat.div_lt_self (by omega) (by decide)) h1
   exact ⟨digB n :: l, x, by rw [digD_pos h, hl]; rfl, hx⟩
theorem trim_pad (k n : Nat) (h : n < 10 ^ k) (h0 : n ≠ 0) : Lib.trimLeftB (padD k n).reverse 48 = (digD n).reverse := by
 obtain ⟨z, hz⟩ := padD_eq k n h
 obtain ⟨l, x, hl, hx⟩ := digD_last n h0
 rw [hz, List.reverse_append, List.reverse_replicate]
 unfold Lib.trimLeftB
 rw [List.dropWhile_append]
 have e : (List.replicate z (48 : UInt8)).dropWhile (· == 48) = [] := by
  induction z with
  | zero => rfl
  | succ z ih => rw [List.replicate_succ]; simp
 rw [e]
 simp only [List.isEmpty_nil, if_true]
 rw [hl, List.reverse_append]
 simp [hx]
theorem trim_pad_zero (k : Nat) : Lib.trimLeftB (padD k 0).reverse 48 = [] := by
 rw [padD_zero, List.reverse_replicate]
 unfold Lib.trimLeftB
 induction k with
 | zero => rfl
 | succ k ih => rw [List.replicate_succ]; simp
theorem padD_add (a b n : Nat) : padD (a + b) n = padD a n ++ padD b (n / 10 ^ a) := by
 induction a generalizing n with
 | zero => simp [padD]
 | succ a ih =>
  rw [Nat.add_right_comm]
  simp only [padD, ih, List.cons_append]
  rw [Nat.pow_succ, Nat.mul_comm (10 ^ a), ← Nat.div_div_eq_div_mul]
theorem padD_length (k n : Nat) : (padD k n).length = k := by
 induction k generalizing n with
 | zero => rfl
 | succ k ih => simp [padD, ih]
theorem padD_mod (k n : Nat) : padD k (n % 10 ^ k) = padD k n := by
 induction k generalizing n with
 | zero => rfl
 | succ k ih =>
  simp only [padD]
  have e1 : digB (n % 10 ^ (k + 1)) = digB n := by
   unfold digB
   rw [Nat.pow_succ, Nat.mul_comm, Nat.mod_mul_right_mod]
  have e2 : n % 10 ^ (k + 1) / 10 = n / 10 % 10 ^ k := by
   rw [Nat.pow_succ, Nat.mul_comm, Nat.mod_mul_right_div_self]
  rw [e1, e2, ih]
def groupN (n i : Nat) : Nat := n / 10 ^ (9 * i) % 1000000000
def qfy (n k m : Nat) : List UInt8 := ((padD (9 * k) n).drop (9 * m)).reverse
theorem groupsB_top (n k : Nat) : qfy n k k = [] := by unfold qfy; rw [List.drop_of_length_le (by rw [padD_length]; exact Nat.le_refl _)]; rfl
theorem groupsB_step (n k m : Nat) (h : m < k) : qfy n k m = qfy n k (m + 1) ++ (padD 9 (groupN n m)).reverse := by
 unfold qfy groupN
 obtain ⟨d, rfl⟩ : ∃ d, k = m + 1 + d := ⟨k - (m + 1), by omega⟩
 have e1 : padD (9 * (m + 1 + d)) n = padD (9 * m) n ++ (padD 9 (n / 10 ^ (9 * m)) ++ padD (9 * d) (n / 10 ^ (9 * (m + 1)))) := by
  rw [show 9 * (m + 1 + d) = 9 * m + (9 + 9 * d) from by omega, padD_add, padD_add, Nat.div_div_eq_div_mul, ← Nat.pow_add, show 9 * m + 9 = 9 * (m + 1) from by omega]
 have e2 : padD (9 * (m + 1 + d)) n = (padD (9 * m) n ++ padD 9 (n / 10 ^ (9 * m))) ++ padD (9 * d) (n / 10 ^ (9 * (m + 1))) := by rw [e1, List.append_assoc]
 rw [show padD 9 (n / 10 ^ (9 * m) % 1000000000) = padD 9 (n / 10 ^ (9 * m)) from padD_mod 9 _]
 have d1 : (padD (9 * (m + 1 + d)) n).drop (9 * m) = padD 9 (n / 10 ^ (9 * m)) ++ padD (9 * d) (n / 10 ^ (9 * (m + 1))) := by
  rw [e1]; exact List.drop_left' (padD_length _ _)
 have d2 : (padD (9 * (m + 1 + d)) n).drop (9 * (m + 1)) = padD (9 * d) (n / 10 ^ (9 * (m + 1))) := by
  rw [e2]; exact List.drop_left' (by rw [List.length_append, padD_length, padD_length]; omega)
 rw [d1, d2, List.reverse_append]
theorem groups_few {n k L : Nat} (h : n / 10 ^ (9 * k) ≠ 0) (hn : n < 2 ^ L) : k < L := by
 have h1 : 10 ^ (9 * k) ≤ n := by
  rcases Nat.lt_or_ge n (10 ^ (9 * k)) with h2 | h2
  ·exact absurd (Nat.div_eq_of_lt h2) h
  ·exact h2
 have h3 : 2 ^ k ≤ 10 ^ (9 * k) := Nat.le_trans (Nat.pow_le_pow_left (show 2 ≤ 10 by decide) k) (Nat.pow_le_pow_right (by decide) (by omega))
 rcases Nat.lt_or_ge k L with h4 | h4
 ·exact h4
 ·have : 2 ^ L ≤ 2 ^ k := Nat.pow_le_pow_right (by decide) h4
  omega
theorem group_rest (n k : Nat) : n / 10 ^ (9 * k) / 1000000000 = n / 10 ^ (9 * (k + 1)) := by
 rw [Nat.div_div_eq_div_mul, show (1000000000 : Nat) = 10 ^ 9 from rfl, ← Nat.pow_add]; congr 2

def OwnSt (w : World) (B : Nat) (v : Value) (xs : List ByteArray) : Prop := w.ownsRow B 9 1 v xs.length (xs.map Value.string)
theorem OwnSt.nil (w : World) (B : Nat) : OwnSt w B (.slice none 0 0) [] := World.ownsRow_nil _ _ _ _
theorem OwnSt.below {w w' : World} {B : Nat} {v : Value} {xs : List ByteArray} (h : OwnSt w B v xs) (hb : Below w.heap.size w w') : OwnSt w' B v xs := by
 refine World.ownsRow.kept h (row := none) ⟨hb.os, hb.tape, hb.output, hb.size, fun k hk _ => hb.block k hk⟩ ?_
 cases hv : v.ownBlock <;> simp
theorem Tryz.textsTy : qee Tryz.prog 167 9 (.string ⟨#[]⟩) 1 16 := .mk' Tryz.underlying167 (by kernel_rfl)
section
variable {w : World} {ops : Array Oper} {rest : List Oper} {o : Oper} {a : Act} {Q : Exit → Act → World → Prop}
theorem wpList_appendSt (hg : o.guard = none) (s x : Operand) (hop : o.op = Op.call { callee := Callee.builtin Builtin.append, args := #[s, x], argTypes := #[167, 167] })
  (B : Nat) (v : Value) (xs : List ByteArray) (tx : ByteArray) (hs : a.eval s = v) (hx : a.eval x = .slice (some ⟨w.heap.size, 0, none⟩) 1 1)
  (hown : OwnSt w B v xs) (hlen : xs.length ≤ 1099511627776) (hB : B ≤ w.heap.size)
  (hK : ∀ v' w', OwnSt w' B v' (xs ++ [tx]) → (∀ w0, Below B w0 w → Below B w0 w') → w.heap.size ≤ w'.heap.size → w.grownBy w' v.ownBlock →
   wpList Tryz.prog ops Q rest (a.put o.dst v') w') :
  wpList Tryz.prog ops Q (o :: rest) a (w.alloc (.cells #[.string tx] 9)) := by
 obtain ⟨i0, hi, hz0, hz1, hz2⟩ := Tryz.textsTy.info
 refine wpList_append_own _ hg s x 167 hop B 9 i0 _ 1 16 Tryz.textsTy.under hi hz0 hz1 hz2 rfl (by decide) v xs.length (xs.map Value.string) hs (World.ownsRow.alloc hown _) ⟨w.heap.size, 0, none⟩ 1 1 [.string tx] hx rfl ?_ ?_ (by unfold maxLen; omega) (by omega) (by simp; omega) ?_
 ·intro j u hu
  have hj : j < 1 := (List.getElem?_eq_some_iff.1 hu).1
  obtain rfl : j = 0 := by omega
  rw [show (⟨w.heap.size, 0, none⟩ : Addr).add 0 = ⟨w.heap.size, 0, none⟩ from rfl, cell_of_row (w.alloc (.cells #[.string tx] 9)) w.heap.size 0 #[.string tx] 9 (0, 0) (heap_alloc_new w _)]
  rw [← hu]; rfl
 ·intro u hu
  simp only [List.mem_cons, List.not_mem_nil, or_false] at hu
  subst hu; rfl
 ·intro v' w' h1 h2 _
  refine hK v' w' ?_ (fun w0 h0 => ?_) ?_ (grown_trans (World.grownBy_alloc w _ _) h2)
  ·unfold OwnSt; rw [List.map_append, List.length_append]; exact h1
  ·have hb : Below B w0 (w.alloc (.cells #[.string tx] 9)) := h0.alloc hB _
   refine hb.grown h2 (by simp; omega) ?_
   intro k hk
   exact (World.ownsRow.lt hown k hk).1
  ·have := h2.size; simp at this; omega
end
theorem OwnSt.read {w : World} {B : Nat} {v : Value} {xs : List ByteArray} (h : OwnSt w B v xs) (hn : 0 < xs.length) :
  ∃ g c, v = .slice (some ⟨g, 0, none⟩) xs.length c ∧ g < w.heap.size ∧ xs.length ≤ c ∧ c ≤ 9223372036854775807 ∧ ∀ j (hj : j < xs.length), w.cell? ⟨g, j, none⟩ = some (.string xs[j]) := by
 have hlt := World.ownsRow.lt h
 rcases h.2 with ⟨rfl, h0⟩ | ⟨g, cap, cur, rfl, hb, hh, hcap, hm, hs, ht⟩
 ·omega
 ·refine ⟨g, cap, rfl, (hlt g rfl).2, hcap, by unfold maxLen at hm; omega, ?_⟩
  intro j hj
  have := World.ownsRow.cells h (g := g) rfl j (.string xs[j]) (by simp [hj])
  have e2 : (⟨g, 0, none⟩ : Addr).add j = ⟨g, 0 + j, none⟩ := by unfold Addr.add; split <;> simp_all
  rw [e2, Nat.zero_add] at this; exact this

theorem OwnSt.shape {w : World} {B : Nat} {v : Value} {xs : List ByteArray} (h : OwnSt w B v xs) :
  ∃ go c, v = .slice go xs.length c ∧ xs.length ≤ c ∧ c ≤ 9223372036854775807 ∧ ∀ j (hj : j < xs.length), ∃ g, go = some ⟨g, 0, none⟩ ∧ g < w.heap.size ∧ w.cell? ⟨g, j, none⟩ = some (.string xs[j]) := by
 by_cases h0 : 0 < xs.length
 ·obtain ⟨g, c, rfl, h1, h2, h3, h4⟩ := h.read h0
  exact ⟨_, c, rfl, h2, h3, fun j hj => ⟨g, rfl, h1, h4 j hj⟩⟩
 ·rcases h.2 with ⟨rfl, h1⟩ | ⟨g, cap, cur, rfl, hb, hh, hcap, hm, hs, ht⟩
  ·exact ⟨none, 0, by rw [h1], by omega, by omega, fun j hj => by omega⟩
  ·exact ⟨_, cap, rfl, hcap, by unfold maxLen at hm; omega, fun j hj => by omega⟩

theorem text_any (va : Value) (a : List Nat) (w : World) (ha : Num w va a) (hla : a.length ≤ 800000) :
  Calls Tryz.prog 74 #[va] w (qea w (.string (decB (val a)))) := by
 have hl1 := qbp ha.lt
 obtain ⟨N, hN⟩ : ∃ N, N = val a := ⟨_, rfl⟩
 rw [← hN] at hl1 ⊢
 have HN := qHd hN; have HUA := qHd ha.lt; clear hN
 go_enter Tryz.func74, Tryz.ntmps74
 go_wp2_with fail
 (with_reducible refine (qda _ _ _ ha (by omega)).mono ?_); rintro e w1 ⟨v1, l1, rfl, hb1, hn1, hl1'⟩
 rw [hl1', ← HN.out] at hn1
 have HN1 := qHd hn1
 clear hn1 hl1' ha
 go_wp2_with fail
 go_loopw [0, 3] (fun xv gv wr => ∃ (k : Nat), Num wr xv (wd (N / 10 ^ (9 * k))) ∧ OwnSt wr w.heap.size gv ((List.range k).map fun i => nineB (groupN N i)) ∧ Below w.heap.size w wr ∧ k ≤ 32 * a.length) (fun xv _ wr => numOf wr xv)
 case atStart => exact ⟨0, by simpa using HN1.out, OwnSt.nil _ _, hb1, Nat.zero_le _⟩
 case round =>
  obtain ⟨k, hnx, hgs, hBr, hkl⟩ := hrel
  by_cases hx0 : N / 10 ^ (9 * k) = 0
  ·obtain ⟨wo, rfl⟩ : ∃ wo : World, wo = wr := ⟨_, rfl⟩
   have hNk : N < 10 ^ (9 * k) := by
    rcases Nat.lt_or_ge N (10 ^ (9 * k)) with h | h
    ·exact h
    ·have := Nat.div_pos h (Nat.pow_pos (by decide)); omega
   rw [hx0, qca] at hnx
   obtain ⟨xo, cx, rfl, _, _, _⟩ := hnx.shape
   rw [List.length_nil]
   have HNK := qHd hNk
   have hlen : ((List.range k).map fun i => nineB (groupN N i)).length = k := by rw [List.length_map, List.length_range]
   have HGS := qHd hgs; have HLEN := qHd hlen
   have hbld := Lib.fresh_isBuilder 129 5 wo
   have HBL := qHd hbld
   obtain ⟨go, cg, rfl, hgc, hgc2, hgcell⟩ := HGS.out.shape
   rw [HLEN.out] at hgc ⊢
   have hgcell2 : ∀ j, j < k → ∃ g, go = some ⟨g, 0, none⟩ ∧ g < wo.heap.size ∧ wo.cell? ⟨g, j, none⟩ = some (.string (nineB (groupN N j))) := fun j hj => by
    obtain ⟨g, h1, h2, h3⟩ := hgcell j (by rw [HLEN.out]; exact hj)
    refine ⟨g, h1, h2, ?_⟩
    rw [h3]; simp
   have HGC := qHd hgcell2
   have hsz := hBr.size
   clear hnx hgs hNk hx0 hlen hbld hgcell hgcell2
   go_wp2_with fail
   go_loopw [7] (fun iv wx => ∃ m : Nat, m ≤ k ∧ iv = .int .i64 ((m : Int) - 1) ∧ Lib.IsBuilder 129 5 wo.heap.size wo.heap.size (Lib.byteCells (qfy N k m)) wx ∧ Below wo.heap.size wo wx) (fun iv _ => (intOf iv + 1).toNat)
   case atStart => exact ⟨k, Nat.le_refl _, rfl, by rw [groupsB_top]; exact HBL.out, (Below.refl _ _).alloc (Nat.le_refl _) _⟩
   case round =>
    obtain ⟨m, hm, rfl, hib, hbx⟩ := hrel
    have hszx := hbx.size
    by_cases hm0 : m = 0
    ·subst hm0
     have hst := Tryz.Builder_String_any wo.heap.size wo.heap.size (qfy N k 0) wr hib hszx
     have hg0 : qfy N k 0 = (padD (9 * k) N).reverse := by unfold qfy; rfl
     rw [hg0] at hst
     have HST := qHd hst
     clear hst hg0 hib
     by_cases hN0 : N = 0
     ·have htl := fun wx => Tryz.strings_TrimLeft_one ⟨(padD (9 * k) N).reverse.toArray⟩ 48 (by decide) wx
      have e0 : Lib.trimLeftB (padD (9 * k) N).reverse 48 = [] := by rw [hN0]; exact trim_pad_zero _
      simp only [e0] at htl
      have HTL := qHd htl
      have hd : decB N = ⟨#[48]⟩ := by unfold decB; rw [if_pos hN0]
      have HD := qHd hd
      clear htl e0 hd hN0
      go_wp2_with fail
      (with_reducible refine HST.out.mono ?_); rintro e w3 ⟨rfl, hb3⟩
      go_wp2_with fail
      (with_reducible refine (HTL.out _).mono ?_); rintro e w4 ⟨rfl, rfl⟩
      go_wp2_with fail
      go_ret
      exact ⟨by rw [HD.out]; rfl, hBr.trans ((hbx.trans hb3).mono hsz)⟩
     ·have htl := fun wx => Tryz.strings_TrimLeft_one ⟨(padD (9 * k) N).reverse.toArray⟩ 48 (by decide) wx
      have e0 : Lib.trimLeftB (padD (9 * k) N).reverse 48 = (digD N).reverse := trim_pad _ _ HNK.out hN0
      simp only [e0] at htl
      have HTL := qHd htl
      have hd : decB N = ⟨((digD N).reverse).toArray⟩ := by unfold decB; rw [if_neg hN0]
      have HD := qHd hd
      obtain ⟨l, x, hl, _⟩ := digD_last N hN0
      have hne : (digD N).reverse.isEmpty = false := by rw [hl]; simp
      clear htl e0 hd hN0 hl
      go_wp2_with fail
      (with_reducible refine HST.out.mono ?_); rintro e w3 ⟨rfl, hb3⟩
      go_wp2_with fail
      (with_reducible refine (HTL.out _).mono ?_); rintro e w4 ⟨rfl, rfl⟩
      go_wp2_with fail
      go_ret
      exact ⟨by rw [HD.out]; rfl, hBr.trans ((hbx.trans hb3).mono hsz)⟩
    ·obtain ⟨j, rfl⟩ : ∃ j, m = j + 1 := ⟨m - 1, by omega⟩
     have hj1 : ((j + 1 : Nat) : Int) - 1 = (j : Int) := by omega
     rw [hj1]
     clear hj1
     obtain ⟨g, rfl, hgl, hgcj⟩ := HGC.out j (by omega)
     have hcx : wr.cell? ⟨g, j, none⟩ = some (.string (nineB (groupN N j))) := by rw [hbx.cell (p := ⟨g, j, none⟩) hgl]; exact hgcj
     have hlen1 : (qfy N k (j + 1)).length = 9 * k - 9 * (j + 1) := by unfold qfy; rw [List.length_reverse, List.length_drop, padD_length]
     have hws := writeString_any wo.heap.size wo.heap.size _ (nineB (groupN N j)) wr hib (by rw [Lib.byteCells_length, hlen1]; have : (nineB (groupN N j)).size = 9 := rfl; omega) hszx
     have e1 : Lib.byteCells (qfy N k (j + 1)) ++ Lib.strCells (nineB (groupN N j)) = Lib.byteCells (qfy N k j) := by
      rw [groupsB_step N k j (by omega), Lib.byteCells_append]; rfl
     rw [e1] at hws
     have HWS := qHd hws
     clear hws e1 hlen1 hib hgcj
     go_wp2_with fail
     (with_reducible refine HWS.out.mono ?_); rintro e w3 ⟨rfl, hbl, hb3⟩
     have HBL3 : Hid (Lib.IsBuilder 129 5 wo.heap.size wo.heap.size (Lib.byteCells (qfy N k j)) w3) := qHd (.inr hbl)
     clear hbl
     go_wp2_with fail
     go_roundw
     case rel => exact ⟨j, by omega, rfl, HBL3.out, hbx.trans hb3⟩
     case measure => simp [intOf]
  ·have hsm := small_own _ _ 1000000000 wr hnx (Nat.le_trans (qbk (Nat.div_le_self _ _)) (by omega)) (by decide) (by decide)
   rw [qaz, group_rest, show ((1000000000 : Nat) : Int) = 1000000000 from rfl] at hsm
   have hpos := wd_length_pos hx0
   have hm0 := numOf_eq hnx
   rw [qaz] at hm0
   have hkl2 : k < 32 * a.length := groups_few hx0 (by rw [HN.out, ← pow32]; exact qem HUA.out)
   have hdec : N / 10 ^ (9 * (k + 1)) < N / 10 ^ (9 * k) := by rw [← group_rest]; exact Nat.div_lt_self (by omega) (by decide)
   obtain ⟨r, hr⟩ : ∃ r, r = N / 10 ^ (9 * k) % 1000000000 := ⟨_, rfl⟩
   have hrl : r < 1000000000 := by rw [hr]; exact Nat.mod_lt _ (by decide)
   rw [← hr] at hsm
   obtain ⟨xo, cx, rfl, _, _, _⟩ := hnx.shape
   have HSM := qHd hsm; have HM0 := qHd hm0; have HDEC := qHd hdec; have HR := qHd hr; have HGS := qHd hgs; have HGW := qHd hgs
   clear hsm hm0 hdec hr hnx hx0 hgs
   go_wp2_with fail
   (with_reducible refine HSM.out.mono ?_); rintro e w2 ⟨vq, rfl, hb2, hnq⟩
   have hB2 := hBr.trans (hb2.mono hBr.size)
   have HNQ := qHd hnq
   have hni := nine_any r w2 (by omega)
   have HNI := qHd hni; have HGS := qHd (HGS.out.below hb2)
   clear hnq hni hb2
   go_wp2_with fail
   (with_reducible refine HNI.out.mono ?_); rintro e w3 ⟨rfl, hb3⟩
   have hB3 := hB2.trans (hb3.mono hB2.size)
   have HGS := qHd (HGS.out.below hb3); have HNQ := qHd (HNQ.out.below hb3)
   have hsz3 := hB3.size
   clear hb3 hB2
   go_wp2_with (at_builtin; refine wpList_appendSt rfl (.tmp 19) (.tmp 22) rfl w.heap.size _ _ (nineB r) rfl rfl HGS.out ?c1 ?c2 ?_)
   case c1 => simp; omega
   case c2 => exact hsz3
   intro v' w4 h1 h2 h3 h5
   have h4 := h2 w hB3
   have hnq4 := (HNQ.out.keptFrom h5 (fun g hg => ((HGW.out).lt g hg).2)).num
   have HNQ4 := qHd hnq4
   have HH1 := qHd h1
   clear hnq4 h1 h2 h5
   go_wp2_with fail
   go_roundw
   case rel => exact ⟨k + 1, HNQ4.out, by rw [List.range_succ, List.map_append]; show OwnSt _ _ _ (_ ++ [nineB (groupN N k)]); unfold groupN; rw [← HR.out]; exact HH1.out, h4, hkl2⟩
   case measure =>
    have e1 := numOf_eq HNQ4.out
    rw [qaz] at e1
    show numOf _ _ < numOf _ _
    rw [HM0.out]
    exact Nat.lt_of_le_of_lt (Nat.le_of_eq e1) HDEC.out
end Go.Proofs.YthhgfhdmfhnklaaGreatDoor
namespace Go.Proofs.YthhgfhdmfhnklaaGreatDoor
open Go.RowKit
theorem top_bit (y : Nat) (h : y < 4294967296) : bits .and .u32 (y : Int) 2147483648 = (if y < 2147483648 then 0 else 2147483648 : Nat) := by
 rw [show (2147483648 : Int) = ((2147483648 : Nat) : Int) from rfl, (bits_nat .u32 32 (by decide) wraps_u32 y 2147483648 h (by decide)).1]
 congr 1
 rw [show (2147483648 : Nat) = 2 ^ 31 from rfl]
 apply Nat.eq_of_testBit_eq
 intro i
 rw [Nat.testBit_and, Nat.testBit_two_pow]
 by_cases h1 : y < 2 ^ 31
 ·rw [if_pos h1, Nat.zero_testBit]
  by_cases hi : 31 = i
  ·subst hi; rw [Nat.testBit_lt_two_pow h1]; rfl
  ·rw [decide_eq_false hi, Bool.and_false]
 ·rw [if_neg h1, Nat.testBit_two_pow]
  by_cases hi : 31 = i
  ·subst hi
   have e : y.testBit 31 = true := by
    rw [Nat.testBit_eq_decide_div_mod_eq]
    simp only [decide_eq_true_eq]
    omega
   rw [e]; rfl
  ·rw [decide_eq_false hi, Bool.and_false]
theorem shl32 (x s : Nat) (h : x * 2 ^ s < 4294967296) : IntKind.u32.wrap ((x : Int) * 2 ^ s) = ((x * 2 ^ s : Nat) : Int) := by
 have e : (x : Int) * 2 ^ s = ((x * 2 ^ s : Nat) : Int) := by simp
 rw [e]; exact wraps_u32 _ (by omega) (by omega)
theorem norm_len {Bv x s n : Nat} (hn : n = (wd Bv).length) (h0 : Bv ≠ 0) (hx : x = gd (wd Bv) (n - 1)) (h1 : x * 2 ^ s < 4294967296) (h2 : 2147483648 ≤ x * 2 ^ s) :
  Bv * 2 ^ s < 4294967296 ^ n ∧ 2147483648 * 4294967296 ^ (n - 1) ≤ Bv * 2 ^ s ∧ (wd (Bv * 2 ^ s)).length = n ∧ 0 < n := by
 have hpos : 0 < n := by rw [hn]; exact (wd_top h0).1
 have e := qbm (wd Bv) (n - 1)
 rw [show n - 1 + 1 = n from by omega, List.take_of_length_le (by omega), qaz, ← hx] at e
 have hlo := val_take_lt (qeh Bv) (n - 1)
 have hp : 4294967296 ^ n = 4294967296 ^ (n - 1) * 4294967296 := by rw [← Nat.pow_succ]; congr 1; omega
 have h3 : 2147483648 * 4294967296 ^ (n - 1) ≤ Bv * 2 ^ s := by
  rw [e, Nat.add_mul, Nat.mul_assoc, Nat.mul_comm 2147483648]
  exact Nat.le_trans (Nat.mul_le_mul_left _ h2) (Nat.le_add_left _ _)
 have h4 : Bv * 2 ^ s < 4294967296 ^ n := by
  rw [e]
  have h5 : val ((wd Bv).take (n - 1)) + 4294967296 ^ (n - 1) * x < 4294967296 ^ (n - 1) * (x + 1) := by rw [Nat.mul_add]; omega
  have h6 := Nat.mul_lt_mul_of_pos_right h5 (Nat.two_pow_pos s)
  refine Nat.lt_of_lt_of_le h6 ?_
  rw [Nat.mul_assoc, hp]
  refine Nat.mul_le_mul_left _ ?_
  have h7 : 2 ^ s ∣ 4294967296 := by
   have hs : s ≤ 32 := by
    rcases Nat.lt_or_ge 32 s with g | g
    ·exfalso
     have h8 : 2 ^ 33 ≤ 2 ^ s := Nat.pow_le_pow_right (by decide) g
     have h9 : 0 < x := by
      rcases Nat.eq_zero_or_pos x with q | q
      ·rw [q] at h2; omega
      ·exact q
     have h10 := Nat.mul_le_mul h9 h8
     omega
    ·exact g
   exact ⟨2 ^ (32 - s), by rw [← Nat.pow_add, show s + (32 - s) = 32 from by omega]⟩
  obtain ⟨c, hc⟩ := h7
  rw [hc, Nat.mul_comm]
  refine Nat.mul_le_mul_left _ ?_
  rw [hc, Nat.mul_comm] at h1
  have := Nat.lt_of_mul_lt_mul_left h1
  omega
 refine ⟨h4, h3, ?_, hpos⟩
 apply Nat.le_antisymm (qcr h4)
 rcases Nat.lt_or_ge (wd (Bv * 2 ^ s)).length n with g | g
 ·exfalso
  have h5 := qem (qeh (Bv * 2 ^ s))
  rw [qaz] at h5
  have h6 : 4294967296 ^ (wd (Bv * 2 ^ s)).length ≤ 4294967296 ^ (n - 1) := Nat.pow_le_pow_right (by decide) (by omega)
  have h7 : 0 < 4294967296 ^ (n - 1) := Nat.pow_pos (by decide)
  omega
 ·exact g
theorem guess_ge {R V P H top : Nat} (hP : 0 < P) (hH : H = R / P) (ht : top = V / P) (h0 : 0 < top) (hlt : R < 4294967296 * V) : R / V ≤ min (H / top) 4294967295 := by
 have hV : 0 < V := by
  rcases Nat.eq_zero_or_pos V with h | h
  ·rw [h, Nat.zero_div] at ht; omega
  ·exact h
 obtain ⟨q, hq⟩ : ∃ q, q = R / V := ⟨_, rfl⟩
 have h1 : q * V ≤ R := by rw [hq]; exact Nat.div_mul_le_self _ _
 have h2 : q < 4294967296 := by rw [hq, Nat.div_lt_iff_lt_mul hV]; exact hlt
 rw [← hq]
 refine Nat.le_min.2 ⟨?_, by omega⟩
 rw [Nat.le_div_iff_mul_le h0, hH, Nat.le_div_iff_mul_le hP]
 refine Nat.le_trans ?_ h1
 rw [Nat.mul_assoc]
 refine Nat.mul_le_mul_left _ ?_
 rw [ht]; exact Nat.div_mul_le_self _ _
theorem rdiv_step {Y V Q r x R : Nat} (h : Y = Q * V + r) (hR : R = x + 4294967296 * r) : x + 4294967296 * Y = (R / V + 4294967296 * Q) * V + R % V := by
 have e := Nat.div_add_mod R V
 rw [h, Nat.add_mul, Nat.mul_add, Nat.mul_assoc 4294967296 Q V, Nat.mul_comm (R / V) V]
 omega
theorem head_two {R n : Nat} (h : R < 4294967296 ^ (n + 1)) (hn : 0 < n) : gd (wd R) n * 4294967296 + gd (wd R) (n - 1) = R / 4294967296 ^ (n - 1) := by
 have e1 := val_digit (qeh R) (n - 1)
 have e2 := val_digit (qeh R) n
 rw [qaz, show n - 1 + 1 = n from by omega] at e1
 rw [qaz] at e2
 have e3 : R / 4294967296 ^ (n + 1) = 0 := Nat.div_eq_of_lt h
 rw [e3] at e2
 omega
theorem top_one {V n : Nat} (h : V < 4294967296 ^ n) (hn : 0 < n) : gd (wd V) (n - 1) = V / 4294967296 ^ (n - 1) := by
 have e1 := val_digit (qeh V) (n - 1)
 rw [qaz, show n - 1 + 1 = n from by omega, Nat.div_eq_of_lt h] at e1
 omega
theorem first_rest {AS V n na : Nat} (hA : AS < 4294967296 ^ na) (hn : 0 < n) (hlo : 2147483648 * 4294967296 ^ (n - 1) ≤ V) : AS / 4294967296 ^ (na + 1 - n) < V := by
 refine Nat.lt_of_lt_of_le ?_ hlo
 rw [Nat.div_lt_iff_lt_mul (Nat.pow_pos (by decide)), Nat.mul_assoc, ← Nat.pow_add]
 refine Nat.lt_of_lt_of_le hA (Nat.le_trans (Nat.pow_le_pow_right (by decide) (show na ≤ n - 1 + (na + 1 - n) by omega)) ?_)
 exact Nat.le_mul_of_pos_left _ (by decide)
end Go.Proofs.YthhgfhdmfhnklaaGreatDoor
