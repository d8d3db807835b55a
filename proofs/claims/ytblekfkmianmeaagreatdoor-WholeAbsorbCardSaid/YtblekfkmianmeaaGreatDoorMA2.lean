/-
  What the law leans on, one text behind the other (the base).
  Conditions: each theorem's own.
-/
import Derived.Deep.RegionHeld3
import Derived.Deep.DeepCutAuto
import Derived.IntWalk
import Derived.LoopN
import Derived.Handy
import Derived.Lib.TrimByte
import Derived.Test.YtblekfkmianmeaaGreatDoorMA1
set_option maxRecDepth 100000
set_option maxHeartbeats 16000000
namespace Go.Proofs.YtblekfkmianmeaaGreatDoor
open Go.RowKit Go.ChangeShapes Go.WideShapes
theorem rup_any (va : Value) (a : List Nat) (n : Nat) (w : World) (ha : Num w va a) (hla : a.length ≤ 900000) (hn : n < 32) :
  Calls Tryz.prog 93 #[va, .int .i64 n] w (RetNum w fun r => r = wd (val a * 2 ^ n)) := by
 obtain ⟨ao, ca, rfl, hca, hca2, _⟩ := ha.shape
 have HA := qHd ha; clear ha
 go_enter Tryz.func93, Tryz.ntmps93
 go_wp2_with fail
 go_loopw [5, 6, 11] (fun ov cv iv wr => ∃ (i c : Nat) (l : List Nat), i ≤ a.length ∧ iv = .int .i64 i ∧ cv = .int .u64 c ∧ c < 2 ^ n ∧ qcg 49 wr w.heap.size ov l ∧ Hid (l.length = i) ∧ Below w.heap.size w wr ∧
   Hid (val l + 4294967296 ^ i * c = val (a.take i) * 2 ^ n)) (fun _ _ i _ => a.length - (intOf i).toNat)
 case atStart => exact ⟨0, 0, [], Nat.zero_le _, rfl, rfl, Nat.two_pow_pos n, qcg.nil _ _ _, qHd rfl, Below.refl _ _, qHd (by simp [val])⟩
 case round =>
  obtain ⟨i, c, l, hi, rfl, rfl, hc, hOr, hll, hBr, hinv⟩ := hrel
  have hszr := hBr.size
  by_cases hin : i < a.length
  ·have har := HA.out.below hBr
   obtain ⟨ba, oa, rfl, _, hca⟩ := har.at (by omega)
   have hx := hca i hin
   have hxl := HA.out.lt i
   obtain ⟨x, hxe⟩ : ∃ x, x = gd a i := ⟨_, rfl⟩
   rw [← hxe] at hx hxl
   obtain ⟨hw, _, _, _⟩ := shl_wrap x n hxl hn
   obtain ⟨hor, h1, h2⟩ := or_low64 x n c hxl hn hc
   obtain ⟨y, hy⟩ : ∃ y, y = x * 2 ^ n := ⟨_, rfl⟩
   rw [← hy] at hw hor h1 h2
   obtain ⟨s, hs⟩ : ∃ s, s = c + y := ⟨_, rfl⟩
   rw [← hs] at hor h1 h2
   have hsd : s / 4294967296 < 2 ^ n := by rw [Nat.div_lt_iff_lt_mul (by decide), Nat.mul_comm (2 ^ n)]; exact h1
   have hone := num_one wr 49 (s % 4294967296) (Nat.mod_lt _ (by decide))
   have HX := qHd hxe; have HO := qHd hOr; have HY := qHd hy; have HS := qHd hs; have HSD := qHd hsd; have HONE := qHd hone
   clear har hca hOr hxe hy hs h1 hsd hone
   go_wp2_with (at_builtin; refine qbu Tryz.wordsTy rfl (.tmp 21) (.tmp 24) rfl w.heap.size _ _ l [s % 4294967296] rfl rfl (HO.out.alloc _) HONE.out ?c1 ?c2 ?_)
   case c1 => rw [hll.out]; simp; omega
   case c2 => simp; omega
   intro v' w1 g1 g2 g3
   have g4 := g2 w (hBr.alloc hszr _)
   go_wp2_with fail
   go_roundw
   case rel =>
    refine ⟨i + 1, s / 4294967296, l ++ [s % 4294967296], by omega, by go_num, rfl, HSD.out, g1, qHd (by rw [List.length_append, hll.out]; rfl), g4, qHd ?_⟩
    rw [val_snoc, hll.out, Nat.pow_succ, qay, Nat.add_mul, ← hinv.out, ← HX.out, Nat.mul_assoc _ x, ← HY.out, Nat.mul_assoc _ 4294967296, Nat.add_assoc, ← Nat.mul_add, Nat.mod_add_div, HS.out, Nat.mul_add, Nat.add_assoc]
   case measure => simp [intOf]; omega
  ·obtain rfl : i = a.length := by omega
   have hp : 2 ^ n ≤ 2 ^ 31 := Nat.pow_le_pow_right (by decide) (by omega)
   have hcl : c < 4294967296 := by omega
   have hcm : c % 4294967296 = c := Nat.mod_eq_of_lt hcl
   have hci : (c : Int) % 4294967296 = (c : Int) := by omega
   have hone := num_one wr 49 c hcl
   have hv : val (l ++ [c]) = val a * 2 ^ n := by
    rw [val_snoc, hll.out, hinv.out, List.take_of_length_le (Nat.le_refl _)]
   have hl : (l ++ [c]).length = a.length + 1 := by rw [List.length_append, hll.out]; rfl
   have HO := qHd hOr; have HONE := qHd hone; have HV := qHd hv; have HL := qHd hl
   clear hp hcm hone hv hl hOr
   go_wp2_with (at_builtin; refine qbu Tryz.wordsTy rfl (.tmp 29) (.tmp 32) rfl w.heap.size _ _ l [c] rfl rfl (HO.out.alloc _) HONE.out ?d1 ?d2 ?_)
   case d1 => rw [hll.out]; simp; omega
   case d2 => simp; omega
   intro v' w1 g1 g2 g3
   have g4 := g2 w (hBr.alloc hszr _)
   have htr := rtrim_any _ _ _ g1.num (by rw [HL.out]; omega)
   rw [HV.out] at htr
   have HT := qHd htr; clear htr
   go_wp2_with fail
   (with_reducible refine HT.out.mono ?_); rintro e w' ⟨v'', l'', rfl, hB', hN', hl'⟩
   go_wp2_with fail
   go_ret
   exact ⟨_, _, rfl, g4.trans (hB'.mono g4.size), hN', hl'⟩

theorem rdown_any (va : Value) (a : List Nat) (n : Nat) (w : World) (ha : Num w va a) (hla : a.length ≤ 900000) (hn : n < 32) :
  Calls Tryz.prog 98 #[va, .int .i64 n] w (RetNum w fun r => r = wd (val a / 2 ^ n)) := by
 obtain ⟨ao, ca, rfl, hca, hca2, _⟩ := ha.shape
 have HA := qHd ha; clear ha
 go_enter Tryz.func98, Tryz.ntmps98
 go_wp2_with fail
 go_loopw [5, 9] (fun ov iv wr => ∃ (i : Nat) (l : List Nat), i ≤ a.length ∧ iv = .int .i64 i ∧ qcg 49 wr w.heap.size ov l ∧ Hid (l.length = i) ∧ Below w.heap.size w wr ∧
   Hid (∀ j, j < i → gd l j = val a / 2 ^ n / 4294967296 ^ j % 4294967296)) (fun _ i _ => a.length - (intOf i).toNat)
 case atStart => exact ⟨0, [], Nat.zero_le _, rfl, qcg.nil _ _ _, qHd rfl, Below.refl _ _, qHd (fun j hj => by omega)⟩
 case round =>
  obtain ⟨i, l, hi, rfl, hOr, hll, hBr, hinv⟩ := hrel
  have hszr := hBr.size
  by_cases hin : i < a.length
  ·have har := qHd (HA.out.below hBr)
   have hwa := qdb _ a i wr har.out (by omega) (by omega)
   have hwb := qdb _ a ((i : Int) + 1) wr har.out (by omega) (by omega)
   have hxl := HA.out.lt i
   have hyl := HA.out.lt (i + 1)
   have hd := word_down HA.out.lt i n hn
   obtain ⟨x, hx⟩ : ∃ x, x = gd a i := ⟨_, rfl⟩
   obtain ⟨y, hy⟩ : ∃ y, y = gd a (i + 1) := ⟨_, rfl⟩
   rw [Int.toNat_natCast, ← hx] at hwa
   rw [show ((i : Int) + 1).toNat = i + 1 from by omega, ← hy] at hwb
   rw [← hx] at hxl
   rw [← hy] at hyl
   rw [← hx, ← hy] at hd
   have hor := or_words x y hxl hyl
   have hzl : x + y * 4294967296 < 18446744073709551616 := by omega
   obtain ⟨z, hz⟩ : ∃ z, z = x + y * 4294967296 := ⟨_, rfl⟩
   rw [← hz] at hor hzl hd
   have hsh : (z : Int) / 2 ^ n % 4294967296 = ((z / 2 ^ n % 4294967296 : Nat) : Int) := by rw [Int.natCast_emod, Int.natCast_ediv]; simp
   obtain ⟨t, ht⟩ : ∃ t, t = z / 2 ^ n % 4294967296 := ⟨_, rfl⟩
   have htl : t < 4294967296 := by rw [ht]; exact Nat.mod_lt _ (by decide)
   rw [← ht] at hsh hd
   have hone := num_one wr 49 t htl
   have HWA := qHd hwa; have HWB := qHd hwb; have HO := qHd hOr; have HD := qHd hd; have HONE := qHd hone
   clear hwa hwb hx hy hz ht hd hOr hone
   go_wp2_with fail
   (with_reducible refine HWA.out.mono ?_); rintro e w' ⟨rfl, rfl⟩
   go_wp2_with fail
   (with_reducible refine HWB.out.mono ?_); rintro e w' ⟨rfl, rfl⟩
   go_wp2_with (at_builtin; refine qbu Tryz.wordsTy rfl (.tmp 12) (.tmp 25) rfl w.heap.size _ _ l [t] rfl rfl (HO.out.alloc _) HONE.out ?c1 ?c2 ?_)
   case c1 => rw [hll.out]; simp; omega
   case c2 => simp; omega
   intro v' w1 g1 g2 g3
   have g4 := g2 w (hBr.alloc hszr _)
   go_wp2_with fail
   go_roundw
   case rel =>
    refine ⟨i + 1, l ++ [t], by omega, by go_num, g1, qHd (by rw [List.length_append, hll.out]; rfl), g4, qHd fun j hj => ?_⟩
    rw [gd_append, hll.out]
    by_cases hji : j = i
    ·subst hji
     rw [if_neg (by omega), Nat.sub_self]; exact HD.out
    ·rw [if_pos (by omega)]; exact hinv.out j (by omega)
   case measure => simp [intOf]; omega
  ·obtain rfl : i = a.length := by omega
   have hl := hll.out
   have hv : val l = val a / 2 ^ n := by
    apply val_of_digits
    ·intro j hj; exact hinv.out j (by omega)
    ·rw [hl]; exact Nat.lt_of_le_of_lt (Nat.div_le_self _ _) (qct HA.out.lt)
   have htr := rtrim_any _ _ _ hOr.num (by rw [hl]; omega)
   rw [hv] at htr
   have HT := qHd htr; clear htr hv hl
   go_wp2_with fail
   (with_reducible refine HT.out.mono ?_); rintro e w' ⟨v'', l'', rfl, hB', hN', hl'⟩
   go_wp2_with fail
   go_ret
   exact ⟨_, _, rfl, hBr.trans (hB'.mono hBr.size), hN', hl'⟩
theorem grown_refl (w : World) (row : Option Nat) : w.grownBy w row := ⟨rfl, rfl, rfl, Nat.le_refl _, fun _ _ _ => rfl⟩
theorem grown_trans {a b c : World} {row : Option Nat} (h : a.grownBy b row) (k : b.grownBy c row) : a.grownBy c row :=
 ⟨k.os.trans h.os, k.tape.trans h.tape, k.output.trans h.output, Nat.le_trans h.size k.size, fun i hi hr => (k.block i (Nat.lt_of_lt_of_le hi h.size) hr).trans (h.block i hi hr)⟩
theorem grown_drewN {a b : World} {row : Option Nat} (h : a.grownBy b row) (n : Nat) : a.grownBy (b.drewN n) row := grown_trans h ⟨rfl, rfl, rfl, Nat.le_refl _, fun _ _ _ => rfl⟩
theorem qcg.grown {e : TypeId} {w : World} {B g n c : Nat} {l : List Nat} (h : qcg e w B (.slice (some ⟨g, 0, none⟩) n c) l) (hn : l.length = n) (k x : Nat) : w.grownBy (w.setCell ⟨g, k, none⟩ (.int .u32 x)) (some g) := by
 subst hn
 exact (h.1.stored k (.int .u32 x)).2
theorem qcg.keptBy {e : TypeId} {w w' : World} {B g h n c : Nat} {l : List Nat} (ho : qcg e w B (.slice (some ⟨h, 0, none⟩) n c) l) (hg : w.grownBy w' (some g)) (hne : h ≠ g) : qcg e w' B (.slice (some ⟨h, 0, none⟩) n c) l :=
 ⟨ho.1.kept hg (.inr (by simp [Value.ownBlock]; exact hne)), ho.2⟩
theorem qcg.keptFrom {e : TypeId} {w w' : World} {B : Nat} {row : Option Nat} {v : Value} {l : List Nat} (ho : qcg e w B v l) (hg : w.grownBy w' row) (hr : ∀ k, row = some k → k < B) : qcg e w' B v l := by
 refine ⟨ho.1.kept hg ?_, ho.2⟩
 cases hv : v.ownBlock with
 | none => exact .inl rfl
 | some k =>
  right
  intro he
  have h1 := (ho.1.lt k hv).1
  have h2 := hr k he.symm
  omega
theorem Num.keptBy {w w' : World} {g h o k c : Nat} {l : List Nat} (hn : Num w (.slice (some ⟨h, o, none⟩) k c) l) (hg : w.grownBy w' (some g)) (hne : h ≠ g) : Num w' (.slice (some ⟨h, o, none⟩) k c) l := by
 obtain ⟨ao', c', e, h1, h2, h3, h4, h5⟩ := hn
 refine ⟨ao', c', e, h1, h2, h3, ?_, h5⟩
 intro b off s hs
 cases e
 cases hs
 obtain ⟨k1, k2⟩ := h4 h o none rfl
 refine ⟨fun h0 => ⟨Nat.lt_of_lt_of_le (k1 h0).1 hg.size, rfl⟩, fun j hj => ?_⟩
 exact hg.cell (k2 j hj) (by simp; exact hne)

theorem Num.cap {w : World} {ao : Option Addr} {n c : Nat} {l : List Nat} (h : Num w (.slice ao n c) l) : n ≤ c ∧ c ≤ 9223372036854775807 := by
 obtain ⟨ao', c', e, h1, h2, h3, h4, h5⟩ := h
 cases e
 exact ⟨h1, h2⟩
theorem hO4n {e : TypeId} {w : World} {B g n c : Nat} {l : List Nat} (h : qcg e w B (.slice (some ⟨g, 0, none⟩) n c) l) (k : Nat) (hk : k ≤ l.length) : Num w (.slice (some ⟨g, 0, none⟩) k c) (l.take k) := h.num.take k hk
def RetTake (w : World) (g n cap B j m T : Nat) (l : List Nat) (e : Ending) (w' : World) : Prop :=
 ∃ l' r, e = .returned (.bool (decide (r = 1))) ∧ r ≤ 1 ∧ qcg 49 w' B (.slice (some ⟨g, 0, none⟩) n cap) l' ∧ l'.length = n ∧ w.grownBy w' (some g) ∧
  (∀ i, i < j ∨ j + m ≤ i → gd l' i = gd l i) ∧ winv l' j m + T = winv l j m + 4294967296 ^ m * r

theorem take_bounds {c p : Nat} (hc : c < 4294967296) (hp : p ≤ 18446744065119617025) : (c + p) / 4294967296 < 4294967296 ∧ (c + p) % 4294967296 < 4294967296 ∧ c + p < 18446744073709551616 := by omega

theorem take_any (g j m c n cap h k ck q B : Nat) (l b : List Nat) (w : World) (hO : qcg 49 w B (.slice (some ⟨g, 0, none⟩) n cap) l) (hl : l.length = n) (hjm : j + m ≤ n) (hn : n ≤ 900001) (hc : c ≤ 9223372036854775807) (hmc : m ≤ c)
  (hv : Num w (.slice (some ⟨h, 0, none⟩) k ck) b) (hne : h ≠ g) (hq : q < 4294967296) (hbm : b.length ≤ m) (hT : q * val b < 4294967296 ^ m) :
  Calls Tryz.prog 71 #[.slice (some ⟨g, j, none⟩) m c, .slice (some ⟨h, 0, none⟩) k ck, .int .u64 q] w (RetTake w g n cap B j m (q * val b) l) := by
 have HO := qHd hO; have HV := qHd hv; have HL := qHd hl; have HT := qHd hT; have HNE := qHd hne
 clear hO hv hl hT hne
 go_enter Tryz.func71, Tryz.ntmps71
 go_wp2_with fail
 go_loopw [7, 8, 13] (fun cv rv iv wr => ∃ (i c r : Nat) (l' : List Nat), i ≤ m ∧ iv = .int .i64 i ∧ cv = .int .u64 c ∧ rv = .int .u64 r ∧ c < 4294967296 ∧ r ≤ 1 ∧
   qcg 49 wr B (.slice (some ⟨g, 0, none⟩) n cap) l' ∧ Hid (l'.length = n) ∧ Hid (w.grownBy wr (some g)) ∧ Hid (∀ x, x < j ∨ j + i ≤ x → gd l' x = gd l x) ∧
   Hid (winv l' j i + q * val (b.take i) = winv l j i + 4294967296 ^ i * (r + c)) ∧ Hid (4294967296 ^ i * c ≤ q * val (b.take i))) (fun _ _ i _ => m - (intOf i).toNat)
 case atStart => exact ⟨0, 0, 0, l, Nat.zero_le _, rfl, rfl, rfl, by omega, by omega, HO.out, HL, qHd (grown_refl _ _), qHd (fun x _ => rfl), qHd (by simp [winv_zero, val]), qHd (by simp)⟩
 case round =>
  obtain ⟨i, c, r, l', hi, rfl, rfl, rfl, hcl, hrl, hOr, hll, hgr, hsame, hinv, hcar⟩ := hrel
  by_cases him : i < m
  ·have hvr := qHd (HV.out.keptBy hgr.out HNE.out)
   have hwv := word_any _ b i wr hvr.out (by omega) (by omega)
   have hyl := HV.out.lt i
   obtain ⟨y, hy⟩ : ∃ y, y = gd b i := ⟨_, rfl⟩
   rw [Int.toNat_natCast, ← hy] at hwv
   rw [← hy] at hyl
   have hji : j + i < n := by omega
   have hcell := hOr.cell hll.out (j + i) hji
   have hfr := hOr.frozen hll.out (j + i)
   have hxl := hOr.lt (j + i)
   have hxs := hsame.out (j + i) (.inr (Nat.le_refl _))
   obtain ⟨x, hx⟩ : ∃ x, x = gd l' (j + i) := ⟨_, rfl⟩
   rw [← hx] at hcell hxl hxs
   have hpl := word_mul hq hyl
   obtain ⟨p, hp⟩ : ∃ p, p = q * y := ⟨_, rfl⟩
   have hpi : (q : Int) * (y : Int) = (p : Int) := by rw [hp]; rfl
   rw [← hp] at hpl
   obtain ⟨s1, s2, s3⟩ := take_bounds hcl hpl
   obtain ⟨low, hlow⟩ : ∃ low, low = (c + p) % 4294967296 := ⟨_, rfl⟩
   obtain ⟨c', hc'⟩ : ∃ c', c' = (c + p) / 4294967296 := ⟨_, rfl⟩
   have hlowi : ((c : Int) + (p : Int)) % 4294967296 = (low : Int) := by rw [hlow]; rfl
   have hci : ((c : Int) + (p : Int)) / 4294967296 = (c' : Int) := by rw [hc']; rfl
   rw [← hlow] at s2
   rw [← hc'] at s1
   have hsw := subW_wrap hxl s2 hrl
   have hslt := subW_lt hxl s2 hrl
   obtain ⟨b1, b2⟩ := subW_borrow hxl s2 hrl
   obtain ⟨d, hd⟩ : ∃ d, d = subW x low r := ⟨_, rfl⟩
   rw [← hd] at hsw hslt b1 b2
   have HD := qHd hd
   have hst := take_step (q := q) (y := y) (x := x) (c' := c') (d := d % 4294967296) (r' := d / 9223372036854775808) hinv.out (by rw [← hp, ← hlow]; exact b2) (by rw [← hp]; exact hc')
   have hca := take_carry (q := q) (y := y) (c' := c') hcar.out (by rw [← hp]; exact hc')
   have hdm : d % 4294967296 < 4294967296 := Nat.mod_lt _ (by decide)
   have HWV := qHd hwv; have HOR := qHd hOr; have HY := qHd hy; have HXS := qHd hxs; have S1 := qHd s1; have B1 := qHd b1; have HST := qHd hst; have HCA := qHd hca; have HDM := qHd hdm
   have HLOWI := qHd hlowi; have HCI := qHd hci
   clear hwv hOr hy hxs hx hp hlow hc' b1 b2 hd hst hca hdm s1
   go_wp2_with fail
   (with_reducible refine HWV.out.mono ?_); rintro e w' ⟨rfl, rfl⟩
   go_wp2_with fail
   go_roundw
   case rel =>
    have h1 := HOR.out.stored hll.out (j + i) (d % 4294967296) HDM.out
    have h2 := HOR.out.grown hll.out (j + i) (d % 4294967296)
    refine ⟨i + 1, c', d / 9223372036854775808, l'.set (j + i) (d % 4294967296), by omega, by go_num, rfl, rfl, S1.out, B1.out, h1, qHd (by rw [List.length_set]; exact hll.out), qHd (grown_trans hgr.out h2), qHd ?_, qHd ?_, qHd ?_⟩
    ·intro z hz
     rw [gd_set, if_neg (by omega)]; exact hsame.out z (by omega)
    ·rw [winv_set _ _ _ _ (by rw [hll.out]; exact hji), winv_succ, ← HXS.out, qay, ← HY.out, Nat.mul_add q, Nat.mul_left_comm q, Nat.pow_succ]
     exact HST.out
    ·rw [qay, ← HY.out, Nat.mul_add q, Nat.mul_left_comm q, Nat.pow_succ]
     exact HCA.out
   case measure => simp [intOf]; omega
  ·obtain rfl : i = m := by omega
   have hb : b.take i = b := List.take_of_length_le hbm
   have hi1 := hinv.out
   have hi2 := hcar.out
   rw [hb] at hi1 hi2
   have hc0 := take_end hi2 HT.out
   subst hc0
   rw [Nat.add_zero] at hi1
   have HI := qHd hi1
   have hdec : ((r : Int) == 1) = decide (r = 1) := by rw [Bool.eq_iff_iff]; simp; omega
   have HDEC := qHd hdec
   clear hi1 hi2 hb hdec
   go_wp2_with fail
   go_ret
   exact ⟨l', r, ret_bool HDEC.out, hrl, hOr, hll.out, hgr.out, hsame.out, HI.out⟩

def RetGive (w : World) (g n cap B j m T : Nat) (l : List Nat) (e : Ending) (w' : World) : Prop :=
 ∃ l' r, e = .returned (.tuple #[]) ∧ qcg 49 w' B (.slice (some ⟨g, 0, none⟩) n cap) l' ∧ l'.length = n ∧ w.grownBy w' (some g) ∧
  (∀ i, i < j ∨ j + m ≤ i → gd l' i = gd l i) ∧ winv l' j m + 4294967296 ^ m * r = winv l j m + T

theorem give_any (g j m c n cap h k ck B : Nat) (l b : List Nat) (w : World) (hO : qcg 49 w B (.slice (some ⟨g, 0, none⟩) n cap) l) (hl : l.length = n) (hjm : j + m ≤ n) (hn : n ≤ 900001) (hc : c ≤ 9223372036854775807) (hmc : m ≤ c)
  (hv : Num w (.slice (some ⟨h, 0, none⟩) k ck) b) (hne : h ≠ g) (hbm : b.length ≤ m) :
  Calls Tryz.prog 72 #[.slice (some ⟨g, j, none⟩) m c, .slice (some ⟨h, 0, none⟩) k ck] w (RetGive w g n cap B j m (val b) l) := by
 have HO := qHd hO; have HV := qHd hv; have HL := qHd hl; have HNE := qHd hne
 clear hO hv hl hne
 go_enter Tryz.func72, Tryz.ntmps72
 go_wp2_with fail
 go_loopw [4, 8] (fun cv iv wr => ∃ (i c : Nat) (l' : List Nat), i ≤ m ∧ iv = .int .i64 i ∧ cv = .int .u64 c ∧ c ≤ 1 ∧
   qcg 49 wr B (.slice (some ⟨g, 0, none⟩) n cap) l' ∧ Hid (l'.length = n) ∧ Hid (w.grownBy wr (some g)) ∧ Hid (∀ x, x < j ∨ j + i ≤ x → gd l' x = gd l x) ∧
   Hid (winv l' j i + 4294967296 ^ i * c = winv l j i + val (b.take i))) (fun _ i _ => m - (intOf i).toNat)
 case atStart => exact ⟨0, 0, l, Nat.zero_le _, rfl, rfl, by omega, HO.out, HL, qHd (grown_refl _ _), qHd (fun x _ => rfl), qHd (by simp [winv_zero, val])⟩
 case round =>
  obtain ⟨i, c, l', hi, rfl, rfl, hcl, hOr, hll, hgr, hsame, hinv⟩ := hrel
  by_cases him : i < m
  ·have hvr := qHd (HV.out.keptBy hgr.out HNE.out)
   have hyl := HV.out.lt i
   obtain ⟨y, hy⟩ : ∃ y, y = gd b i := ⟨_, rfl⟩
   have hwv : ∀ nq, Calls Tryz.prog 48 #[.slice (some ⟨h, 0, none⟩) k ck, .int .i64 i] (wr.drewN nq) (RetS (wr.drewN nq) (.int .u64 (y : Nat))) := fun nq => by
    have hh := word_any _ b i (wr.drewN nq) (hvr.out.below (qap (Below.refl _ _) nq)) (by omega) (by omega)
    rw [Int.toNat_natCast, ← hy] at hh; exact hh
   rw [← hy] at hyl
   have hji : j + i < n := by omega
   have hcell := hOr.cell hll.out (j + i) hji
   have hfr := hOr.frozen hll.out (j + i)
   have hxl := hOr.lt (j + i)
   have hxs := hsame.out (j + i) (.inr (Nat.le_refl _))
   obtain ⟨x, hx⟩ : ∃ x, x = gd l' (j + i) := ⟨_, rfl⟩
   rw [← hx] at hcell hxl hxs
   obtain ⟨s1, s2⟩ := add_bounds hcl hxl hyl
   have hst := add_step (x := x) (y := y) hinv.out
   have HWV := qHd hwv; have HOR := qHd hOr; have HY := qHd hy; have HXS := qHd hxs; have S1 := qHd s1; have S2 := qHd s2; have HST := qHd hst
   clear hwv hOr hy hxs hx s1 s2 hst
   go_wp2_with fail
   go_quiet ((go_at_call 48; exact Calls.quiet_of_same (ret_quiet (HWV.out _))))
   go_wp2_with fail
   go_roundw
   case rel =>
    have hO' := HOR.out.below (qap (Below.refl _ _) nq)
    have h1 := hO'.stored hll.out (j + i) ((c + (x + y)) % 4294967296) S2.out
    have h2 := hO'.grown hll.out (j + i) ((c + (x + y)) % 4294967296)
    refine ⟨i + 1, (c + (x + y)) / 4294967296, l'.set (j + i) ((c + (x + y)) % 4294967296), by omega, by go_num, rfl, S1.out, h1, qHd (by rw [List.length_set]; exact hll.out), qHd (grown_trans (grown_drewN hgr.out nq) h2), qHd ?_, qHd ?_⟩
    ·intro z hz
     rw [gd_set, if_neg (by omega)]; exact hsame.out z (by omega)
    ·rw [winv_set _ _ _ _ (by rw [hll.out]; exact hji), winv_succ, ← HXS.out, qay, ← HY.out, Nat.pow_succ]
     exact HST.out
   case measure => simp [intOf]; omega
  ·obtain rfl : i = m := by omega
   have hb : b.take i = b := List.take_of_length_le hbm
   have hi1 := hinv.out
   rw [hb] at hi1
   have HI := qHd hi1
   clear hi1 hb
   go_wp2_with fail
   go_end0
   exact ⟨l', c, rfl, hOr, hll.out, hgr.out, hsame.out, HI.out⟩
def RetDiv (w : World) (q r : Nat) (er : Value) (e : Ending) (w' : World) : Prop := ∃ v1 v2, e = .returned (.tuple #[v1, v2, er]) ∧ Below w.heap.size w w' ∧ Num w' v1 (wd q) ∧ Num w' v2 (wd r)

theorem wd_length_pos {n : Nat} (h : n ≠ 0) : 0 < (wd n).length := by rw [wd_pos h]; simp

theorem div_zero (va vb : Value) (a b : List Nat) (w : World) (ha : Num w va a) (hb : Num w vb b) (hla : a.length ≤ 800000) (hlb : b.length ≤ 800000) (h0 : val b = 0) :
  Calls Tryz.prog 47 #[va, vb] w (RetDiv w 0 0 (errV 8)) := by
 rw [errV_pos (by decide)]
 go_enter Tryz.func47, Tryz.ntmps47
 go_wp2_with fail
 (with_reducible refine (qbs _ _ _ ha (by omega)).mono ?_); rintro e w1 ⟨v1, l1, rfl, hb1, hn1, hl1⟩
 go_wp2_with fail
 (with_reducible refine (qbs _ _ _ (hb.below hb1) (by omega)).mono ?_); rintro e w2 ⟨v2, l2, rfl, hb2, hn2, hl2⟩
 have hb12 := hb1.trans (hb2.mono hb1.size)
 rw [h0, qbl] at hl2
 subst hl2
 obtain ⟨bo, cb, rfl, hcb, hcb2, _⟩ := hn2.shape
 clear hn2 hb1 hb2 ha hb hl1 hn1 h0
 go_wp2_with fail
 go_ret3
 exact ⟨_, _, rfl, hb12, by rw [qbl]; exact Num.nil _, by rw [qbl]; exact Num.nil _⟩

theorem div_less (va vb : Value) (a b : List Nat) (w : World) (ha : Num w va a) (hb : Num w vb b) (hla : a.length ≤ 800000) (hlb : b.length ≤ 800000) (hlt : val a < val b) :
  Calls Tryz.prog 47 #[va, vb] w (RetDiv w (val a / val b) (val a % val b) (errV 0)) := by
 have hd1 : val a / val b = 0 := Nat.div_eq_of_lt hlt
 have hd2 : val a % val b = val a := Nat.mod_eq_of_lt hlt
 rw [hd1, hd2, qcm]
 clear hd1 hd2
 have hl1 := qbh ha.lt
 have hl2 := qbh hb.lt
 have hp2 := wd_length_pos (show val b ≠ 0 by omega)
 have hcn := cmpN_islt hlt
 have HLT := qHd hlt; clear hlt
 go_enter Tryz.func47, Tryz.ntmps47
 go_wp2_with fail
 (with_reducible refine (qbs _ _ _ ha (by omega)).mono ?_); rintro e w1 ⟨v1, l1, rfl, hb1, hn1, hl1'⟩
 go_wp2_with fail
 (with_reducible refine (qbs _ _ _ (hb.below hb1) (by omega)).mono ?_); rintro e w2 ⟨v2, l2, rfl, hb2, hn2, hl2'⟩
 have hn1 := hn1.below hb2
 have hb12 := hb1.trans (hb2.mono hb1.size)
 have hc := cmp_any _ _ _ _ _ hn1 hn2 (by rw [hl1']; omega) (by rw [hl2']; omega)
 rw [hl1', hl2', qao, qao] at hc
 rw [← hl2'] at hp2
 obtain ⟨r, hr⟩ : ∃ r, r = cmpN (val a) (val b) := ⟨_, rfl⟩
 rw [← hr] at hc hcn
 obtain ⟨bo, cb, rfl, hcb, hcb2, _⟩ := hn2.shape
 have HC := qHd hc; have H1 := qHd hl1'; have HN1 := qHd hn1
 clear hc hl1' hl2' hn1 hn2 hb1 hb2 ha hb hr
 go_wp2_with fail
 (with_reducible refine HC.out.mono ?_); rintro e w3 ⟨rfl, hb3⟩
 go_wp2_with fail
 go_ret3
 exact ⟨_, _, rfl, hb12.trans (hb3.mono hb12.size), by rw [qbl]; exact Num.nil _, by rw [← H1.out]; exact HN1.out.below hb3⟩

theorem div_small (va vb : Value) (a b : List Nat) (w : World) (ha : Num w va a) (hb : Num w vb b) (hla : a.length ≤ 800000) (hlb : b.length ≤ 800000) (hge : val b ≤ val a) (h0 : val b ≠ 0) (hs : val b < 4294967296) :
  Calls Tryz.prog 47 #[va, vb] w (RetDiv w (val a / val b) (val a % val b) (errV 0)) := by
 rw [qcm]
 have hl1 := qbh ha.lt
 have hcn := cmpN_nlt hge
 have hwb : wd (val b) = [val b] := by
  rw [wd_pos h0, Nat.mod_eq_of_lt hs, Nat.div_eq_of_lt hs, qbl]
 obtain ⟨B, hB⟩ : ∃ B, B = val b := ⟨_, rfl⟩
 have HBE := qHd hB
 rw [← hB] at hs h0 hwb hge hcn ⊢
 clear hB
 go_enter Tryz.func47, Tryz.ntmps47
 go_wp2_with fail
 (with_reducible refine (qbs _ _ _ ha (by omega)).mono ?_); rintro e w1 ⟨v1, l1, rfl, hb1, hn1, hl1'⟩
 go_wp2_with fail
 (with_reducible refine (qbs _ _ _ (hb.below hb1) (by omega)).mono ?_); rintro e w2 ⟨v2, l2, rfl, hb2, hn2, hl2'⟩
 have hn1 := hn1.below hb2
 have hb12 := hb1.trans (hb2.mono hb1.size)
 rw [← HBE.out] at hl2'
 have hc := cmp_any _ _ _ _ _ hn1 hn2 (by rw [hl1']; omega) (by rw [hl2', hwb]; simp)
 rw [hl1', hl2', qao, qao] at hc
 rw [hwb] at hl2'
 obtain ⟨r, hr⟩ : ∃ r, r = cmpN (val a) B := ⟨_, rfl⟩
 rw [← hr] at hc hcn
 subst hl2'
 obtain ⟨bo, cb, rfl, hcb, hcb2, _⟩ := hn2.shape
 have HC := qHd hc; have H1 := qHd hl1'; have HN1 := qHd hn1; have HN2 := qHd hn2; have HB12 := qHd hb12
 clear hc hl1' hn1 hn2 hb1 hb2 ha hb hr hwb hge hb12
 simp only [List.length_singleton] at *
 go_wp2_with fail
 (with_reducible refine HC.out.mono ?_); rintro e w3 ⟨rfl, hb3⟩
 have hn2 := HN2.out.below hb3
 obtain ⟨bb, ob, rfl, _, hcell⟩ := hn2.at (Nat.succ_pos _)
 have hc0 : w3.cell? ⟨bb, ob, none⟩ = some (.int .u32 (B : Nat)) := hcell 0 (Nat.succ_pos _)
 have hsm := small_any _ _ B _ (HN1.out.below hb3) (by rw [H1.out]; omega) (by omega) hs
 rw [H1.out, qao] at hsm
 have HSM := qHd hsm
 clear hcell hn2 hsm
 go_wp2_with fail
 (with_reducible refine HSM.out.mono ?_); rintro e w4 ⟨v4, rfl, hb4, hn4⟩
 have hrl : val a % B < B := Nat.mod_lt _ (by omega)
 obtain ⟨r, hr⟩ : ∃ r, r = val a % B := ⟨_, rfl⟩
 have HR := qHd hr
 rw [← hr] at hrl ⊢
 have hof := of_any (r : Int) w4 (by omega) (by omega)
 rw [Int.toNat_natCast] at hof
 have HOF := qHd hof; have HN4 := qHd hn4
 clear hof hn4 hr
 go_wp2_with fail
 (with_reducible refine HOF.out.mono ?_); rintro e w5 ⟨v5, l5, rfl, hb5, hn5, hl5⟩
 go_wp2_with fail
 go_ret3
 have h3 := HB12.out.trans (hb3.mono HB12.out.size)
 have h4 := h3.trans (hb4.mono h3.size)
 have h5 := h4.trans (hb5.mono h4.size)
 exact ⟨_, _, rfl, h5, HN4.out.below hb5, by rw [← HR.out, ← hl5]; exact hn5⟩
theorem div_long (va vb : Value) (a b : List Nat) (w : World) (ha : Num w va a) (hb : Num w vb b) (hla : a.length ≤ 800000) (hlb : b.length ≤ 800000) (hge : val b ≤ val a) (hbig : 4294967296 ≤ val b) :
  Calls Tryz.prog 47 #[va, vb] w (RetDiv w (val a / val b) (val a % val b) (errV 0)) := by
 rw [qcm]
 have hl1 := qbh ha.lt
 have hl2 := qbh hb.lt
 have hcn := cmpN_nlt hge
 have hab := qas hge
 have hnb2 := wd_two hbig
 obtain ⟨_, hx0, hbl⟩ := wd_top (show val b ≠ 0 by omega)
 have hAl := qct (qcp (val a))
 rw [qao] at hAl
 obtain ⟨A, hA⟩ : ∃ A, A = val a := ⟨_, rfl⟩
 obtain ⟨Bv, hBv⟩ : ∃ Bv, Bv = val b := ⟨_, rfl⟩
 obtain ⟨la, hla1⟩ : ∃ la, la = wd A := ⟨_, rfl⟩
 obtain ⟨lb, hlb1⟩ : ∃ lb, lb = wd Bv := ⟨_, rfl⟩
 rw [← hA, ← hla1] at hl1 hAl
 rw [← hBv, ← hlb1] at hl2
 rw [← hA, ← hBv, ← hla1, ← hlb1] at hab
 rw [← hBv, ← hlb1] at hnb2 hx0 hbl
 rw [← hA, ← hBv] at hge hcn ⊢
 rw [← hBv] at hbig
 obtain ⟨na, hna⟩ : ∃ na, na = la.length := ⟨_, rfl⟩
 obtain ⟨nb, hnb⟩ : ∃ nb, nb = lb.length := ⟨_, rfl⟩
 rw [← hna] at hl1 hab hAl
 rw [← hnb] at hl2 hab hnb2 hx0 hbl
 have hub : U32 lb := by rw [hlb1]; exact qcp _
 have hxl := hub (nb - 1)
 obtain ⟨x, hx⟩ : ∃ x, x = gd lb (nb - 1) := ⟨_, rfl⟩
 rw [← hx] at hx0 hbl hxl
 obtain ⟨s, hs⟩ : ∃ s, s = 32 - blen x := ⟨_, rfl⟩
 obtain ⟨hVB, hVlo, hs32⟩ := norm_top (show Bv ≠ 0 by omega) hbl hx0 hxl (by omega) hs
 have hlz : ∀ wx : World, Calls Tryz.prog 69 #[.int .u32 x] wx (RetS wx (.int .i64 (s : Nat))) := fun wx => by
  have h := Tryz.bits_LeadingZeros32 x wx (by omega) (by omega)
  rw [Int.toNat_natCast, bitLen_eq x hxl] at h
  have h32 : blen x ≤ 32 := blen_le hxl
  rw [show (32 - (blen x : Int)) = (s : Int) by omega] at h
  exact h.mono fun _ _ ⟨h1, h2⟩ => ⟨h1, h2.symm⟩
 have HA := qHd hA; have HBV := qHd hBv; have HLA := qHd hla1; have HLB := qHd hlb1; have HNA := qHd hna; have HNB := qHd hnb; have HX := qHd hx; have HLZ := qHd hlz
 have HVB := qHd hVB; have HVLO := qHd hVlo; have HAL := qHd hAl
 clear hA hBv hla1 hlb1 hna hnb hx hs hlz hVB hVlo hub hbl hx0 hAl
 go_enter Tryz.func47, Tryz.ntmps47
 go_wp2_with fail
 (with_reducible refine (qbs _ _ _ ha (by omega)).mono ?_); rintro e w1 ⟨v1, l1, rfl, hb1, hn1, hl1'⟩
 go_wp2_with fail
 (with_reducible refine (qbs _ _ _ (hb.below hb1) (by omega)).mono ?_); rintro e w2 ⟨v2, l2, rfl, hb2, hn2, hl2'⟩
 have hn1 := hn1.below hb2
 have hb12 := hb1.trans (hb2.mono hb1.size)
 rw [← HA.out, ← HLA.out] at hl1'
 rw [← HBV.out, ← HLB.out] at hl2'
 rw [hl1'] at hn1
 rw [hl2'] at hn2
 clear hl1' hl2'
 have hc := cmp_any _ _ _ _ _ hn1 hn2 (by rw [← HNA.out]; omega) (by rw [← HNB.out]; omega)
 rw [HLA.out, HLB.out, qao, qao] at hc
 obtain ⟨r, hr⟩ : ∃ r, r = cmpN A Bv := ⟨_, rfl⟩
 rw [← hr] at hc hcn
 obtain ⟨ao, ca, rfl, hca, hca2, _⟩ := hn1.shape
 obtain ⟨bo, cb, rfl, hcb, hcb2, _⟩ := hn2.shape
 rw [← HNA.out] at hn1 hca ⊢
 rw [← HNB.out] at hn2 hcb ⊢
 rw [← HNA.out, ← HNB.out] at hc
 have HC := qHd hc; have HN1 := qHd hn1; have HN2 := qHd hn2
 clear hc hn1 hn2 hb1 hb2 ha hb hr
 go_wp2_with fail
 (with_reducible refine HC.out.mono ?_); rintro e w3 ⟨rfl, hb3⟩
 have hb13 := hb12.trans (hb3.mono hb12.size)
 have hn2' := HN2.out.below hb3
 obtain ⟨bb, ob, rfl, _, hcell⟩ := hn2'.at (by omega)
 have hc0 := hcell (nb - 1) (by omega)
 rw [← HX.out] at hc0
 have hv := left_any _ lb s w3 hn2' (by rw [← HNB.out]; omega) hs32
 have HVC := qHd hv; have HN1 := qHd (HN1.out.below hb3)
 clear hcell hn2' hv hb3 hb12
 go_wp2_with fail
 (with_reducible refine (HLZ.out _).mono ?_); rintro e w' ⟨rfl, rfl⟩
 go_wp2_with fail
 (with_reducible refine HVC.out.mono ?_); rintro e w4 ⟨vv, lv0, rfl, hb4, hO4, hlen4, hval4⟩
 rw [← HNB.out] at hlen4
 rw [HLB.out, qao] at hval4
 obtain ⟨gv, cv, rfl, hgv⟩ := hO4.head (by rw [hlen4]; omega)
 rw [hlen4] at hO4 ⊢
 have hgv4 := hO4.block
 obtain ⟨hcv1, hcv2⟩ := hO4.num.cap
 have hu := left_any _ la s w4 (HN1.out.below hb4) (by rw [← HNA.out]; omega) hs32
 have hszb : w.heap.size ≤ w3.heap.size := hb13.size
 have hb14 := hb13.trans (hb4.mono hb13.size)
 have HU := qHd hu; have HO4 := qHd hO4; have HL4 := qHd hlen4; have HV4 := qHd hval4
 clear hu hO4 hlen4 hval4 hb4 hb13
 go_wp2_with fail
 (with_reducible refine HU.out.mono ?_); rintro e w5 ⟨vu, lu0, rfl, hb5, hO5, hlen5, hval5⟩
 rw [← HNA.out] at hlen5
 rw [HLA.out, qao] at hval5
 obtain ⟨gu, cu, rfl, hgu⟩ := hO5.head (by rw [hlen5]; omega)
 rw [hlen5] at hO5 ⊢
 have hgu5 := hO5.block
 obtain ⟨hcu1, hcu2⟩ := hO5.num.cap
 have hb15 := hb14.trans (hb5.mono hb14.size)
 have hNV := (hO4n HO4.out nb (by rw [HL4.out]; omega)).below hb5
 obtain ⟨lv, hlv⟩ : ∃ lv, lv = lv0.take nb := ⟨_, rfl⟩
 rw [← hlv] at hNV
 have hlvl : lv.length = nb := by rw [hlv, List.length_take, HL4.out]; omega
 have hvv : val lv = Bv * 2 ^ s := by rw [hlv, take_all HO4.out.lt (by rw [HV4.out]; exact HVB.out), HV4.out]
 have hO4' := HO4.out.below hb5
 have hcv1' := hO4'.cell HL4.out (nb - 1) (by omega)
 have hcv2' := hO4'.cell HL4.out (nb - 2) (by omega)
 have hg1 : gd lv0 (nb - 1) = gd lv (nb - 1) := by rw [hlv, gd_take, if_pos (by omega)]
 have hg2 : gd lv0 (nb - 2) = gd lv (nb - 2) := by rw [hlv, gd_take, if_pos (by omega)]
 rw [hg1] at hcv1'
 rw [hg2] at hcv2'
 have hVlo : 2147483648 * 4294967296 ^ (nb - 1) ≤ val lv := by rw [hvv]; exact HVLO.out
 have hd2 := div_two hNV.lt hlvl hnb2 hVlo
 have htl := hNV.lt (nb - 1)
 have hnl := hNV.lt (nb - 2)
 obtain ⟨top, htop⟩ : ∃ top, top = gd lv (nb - 1) := ⟨_, rfl⟩
 obtain ⟨next, hnext⟩ : ∃ next, next = gd lv (nb - 2) := ⟨_, rfl⟩
 rw [← htop] at hcv1' htl hd2
 rw [← hnext] at hcv2' hnl hd2
 have ht31 := hd2.1
 have hfr := first_round (k := na + 1 - nb) hO5.lt HAL.out hval5 hs32 (by omega) (by omega) hVlo
 obtain ⟨mq, hnq⟩ : ∃ mq, mq = na + 1 - nb := ⟨_, rfl⟩
 rw [← hnq] at hfr
 have hnqb : mq ≤ 70368744177664 := by omega
 have hmq : mq + nb = na + 1 := by omega
 have hguv : gv ≠ gu := by omega
 have hguw : w.heap.size ≤ gu := by have := hb14.size; omega
 have HO5 := qHd (hO5.base hb14.size); have HL5 := qHd hlen5; have HV5 := qHd hval5; have HNV := qHd hNV; have HLVL := qHd hlvl; have HVV := qHd hvv; have HTOP := qHd htop; have HNEXT := qHd hnext; have HFR := qHd hfr; have HNQ := qHd hnq; have HNE := qHd hguv; have HVLO := qHd hVlo
 have hni : (na : Int) + 1 - (nb : Int) = (mq : Int) := by omega
 have HNI := qHd hni; have HMQ := qHd hmq
 have HB15 := qHd hb15
 clear hO5 hlen5 hval5 hNV hlvl hvv htop hnext hfr hguv hVlo hlv hO4' hg1 hg2 hd2 hb5 hb14 hb15 hni hnq hmq
 go_wp2_with fail
 go_quiet (fail)
 have hq1 : (w5.drewN nq).heap.size = w5.heap.size := rfl
 have HNV := qHd (HNV.out.below (qap (Below.refl _ _) nq))
 have HO5 := qHd (HO5.out.below (qap (Below.refl _ _) nq))
 have hb16 := qap HB15.out nq
 obtain ⟨w6, hw6⟩ : ∃ w6, w6 = w5.drewN nq := ⟨_, rfl⟩
 rw [← hw6] at HNV HO5 hb16 hq1 ⊢
 have HB16 := qHd hb16
 have hgu6 : gu < w6.heap.size := by rw [hq1]; exact hgu5.2
 have hmqi : mq + nb ≤ na + 1 ∧ na + 1 ≤ mq + nb := by have := HMQ.out; omega
 clear hw6 hq1 hb16 hcv1' hcv2'
 go_wp2_with (at_make; refine qch Tryz.wordsTy rfl _ _ rfl _ _ _ _ mq rfl rfl ?c1 ?c2 hnqb ?_)
 case c1 => exact HNI.out
 case c2 => exact HNI.out
 intro w7 hO7 hB7 hsz7
 have hszw6 := HB16.out.size
 have hO7 := hO7.base hszw6
 have HB17 := qHd (HB16.out.trans (hB7.mono hszw6))
 obtain ⟨gq, hgq⟩ : ∃ gq, gq = w6.heap.size := ⟨_, rfl⟩
 rw [← hgq] at hO7 hsz7 hgu6 hszw6 ⊢
 have hqu : gq ≠ gu := by omega
 have hqv : gv ≠ gq := by omega
 have HQU := qHd hqu; have HQV := qHd hqv
 have HNV := qHd (HNV.out.below hB7)
 have HO5 := qHd (HO5.out.below hB7)
 have hval0 : val lu0 + val lv * val (List.replicate mq 0) = A * 2 ^ s := by rw [val_zeros, Nat.mul_zero, Nat.add_zero]; exact HV5.out
 have HVAL0 := qHd hval0; have HO7 := qHd hO7; have HGQ := qHd hgq
 clear hqu hqv hval0 hO7 hB7 hgq
 go_wp2_with fail
 rw [HNI.out]
 go_loopw [14] (fun jv wr => ∃ (k : Nat) (lu lq : List Nat), k ≤ mq ∧ jv = .int .i64 ((k : Int) - 1) ∧ qcg 49 wr w.heap.size (.slice (some ⟨gu, 0, none⟩) (na + 1) cu) lu ∧ Hid (lu.length = na + 1) ∧
   qcg 49 wr w.heap.size (.slice (some ⟨gq, 0, none⟩) mq mq) lq ∧ Hid (lq.length = mq) ∧ Hid (Num wr (.slice (some ⟨gv, 0, none⟩) nb cv) lv) ∧ Below w.heap.size w wr ∧
   Hid (val lu + val lv * val lq = A * 2 ^ s) ∧ Hid (∀ i, i < k → gd lq i = 0) ∧ Hid (val (lu.drop k) < val lv)) (fun jv _ => (intOf jv + 1).toNat)
 case atStart => exact ⟨mq, lu0, List.replicate mq 0, Nat.le_refl _, rfl, HO5.out, HL5, HO7.out, qHd (by simp), HNV, HB17.out, HVAL0, qHd (fun i _ => by rw [gd_replicate]; split <;> rfl), HFR⟩
 case round =>
  obtain ⟨k, lu, lq, hk, rfl, hOu, hlu, hOq, hlq, hNv, hBr, hinv, hzq, hdr⟩ := hrel
  obtain ⟨wo, rfl⟩ : ∃ wo : World, wo = wr := ⟨_, rfl⟩
  by_cases hk0 : k = 0
  ·subst hk0
   have hi0 := hinv.out
   have hd0 := hdr.out
   rw [List.drop_zero] at hd0
   rw [HVV.out] at hi0 hd0
   obtain ⟨e1, e2⟩ := div_scaled (Nat.two_pow_pos s) hi0 hd0
   have htr := qbs _ _ _ hOq.num (by rw [hlq.out]; omega)
   rw [e1] at htr
   have HTR := qHd htr; have E2 := qHd e2; have HOU := qHd hOu
   clear htr e1 e2 hi0 hd0 hOq hOu
   have hlu' := hlu.out
   have hlq' : lq.length ≤ 800001 := by rw [hlq.out]; omega
   go_wp2_with fail
   (with_reducible refine HTR.out.mono ?_); rintro e wa ⟨va1, la1, rfl, hba, hna1, hla1⟩
   have hrt := right_any _ lu s wa (HOU.out.num.below hba) (by rw [hlu.out]; omega) hs32
   rw [hlu.out] at hrt
   have HRT := qHd hrt; have HLA1 := qHd hla1; have HNA1 := qHd hna1
   clear hrt hla1 hna1
   go_wp2_with fail
   (with_reducible refine HRT.out.mono ?_); rintro e wb ⟨vb1, lb1, rfl, hbb, hob, hlb1, hvb1⟩
   have htr := qbs _ _ _ hob.num (by rw [hlb1]; omega)
   rw [hvb1, E2.out] at htr
   have HTR := qHd htr
   clear htr hlb1 hvb1
   go_wp2_with fail
   (with_reducible refine HTR.out.mono ?_); rintro e wc ⟨vc1, lc1, rfl, hbc, hnc, hlc⟩
   go_wp2_with fail
   go_ret3
   have h1 := hBr.trans (hba.mono hBr.size)
   have h2 := h1.trans (hbb.mono h1.size)
   have h3 := h2.trans (hbc.mono h2.size)
   exact ⟨_, _, rfl, h3, by rw [← HLA1.out]; exact (HNA1.out.below hbb).below hbc, by rw [← hlc]; exact hnc⟩
  ·obtain ⟨j, rfl⟩ : ∃ j, k = j + 1 := ⟨k - 1, by omega⟩
   have hj1 : ((j + 1 : Nat) : Int) - 1 = (j : Int) := by omega
   rw [hj1]
   clear hj1
   have hvB : val lv < 4294967296 ^ nb := by rw [HVV.out]; exact HVB.out
   have hv0 : 0 < val lv := Nat.lt_of_lt_of_le (Nat.mul_pos (by decide) (Nat.pow_pos (by decide))) HVLO.out
   obtain ⟨k1, k2, k3⟩ := round_head (j := j) hOu.lt hvB hdr.out
   obtain ⟨t1, t2, t3⟩ := div_round (j := j) hOu.lt HNV.out.lt HLVL.out hnb2 HVLO.out k2
   have hc1 := hOu.cell hlu.out (j + nb) (by omega)
   have hc2 := hOu.cell hlu.out (j + nb - 1) (by omega)
   have hc3 := hOu.cell hlu.out (j + nb - 2) (by omega)
   have hu1l := hOu.lt (j + nb)
   have hu0l := hOu.lt (j + nb - 1)
   have hu2l := hOu.lt (j + nb - 2)
   obtain ⟨u1, hu1⟩ : ∃ u1, u1 = gd lu (j + nb) := ⟨_, rfl⟩
   obtain ⟨u0, hu0⟩ : ∃ u0, u0 = gd lu (j + nb - 1) := ⟨_, rfl⟩
   obtain ⟨u2, hu2⟩ : ∃ u2, u2 = gd lu (j + nb - 2) := ⟨_, rfl⟩
   rw [← hu1] at hc1 hu1l t1 t2 t3
   rw [← hu0] at hc2 hu0l t2 t3
   rw [← hu2] at hc3 hu2l t2 t3
   rw [← HTOP.out] at t1 t2 t3
   rw [← HNEXT.out] at t2 t3
   have hor := or_words' u0 u1 hu0l hu1l
   have hhb : u1 * 4294967296 + u0 ≤ top * 4294967296 + 4294967295 := by omega
   have hgl := guess_le (u0 := u0) ht31 t1 hu0l
   have hf1 := fit_first (top := top) (next := next) (head := u1 * 4294967296 + u0) (low := u2) (by omega) hu2l
   obtain ⟨hd, hhd⟩ : ∃ hd, hd = u1 * 4294967296 + u0 := ⟨_, rfl⟩
   rw [← hhd] at hor hhb hgl hf1 t2 t3
   have hhd64 : hd < 18446744073709551616 := by omega
   obtain ⟨g0, hg0⟩ : ∃ g0, g0 = hd / top := ⟨_, rfl⟩
   obtain ⟨r0, hr0⟩ : ∃ r0, r0 = hd % top := ⟨_, rfl⟩
   have hg0i : (hd : Int) / (top : Int) = (g0 : Int) := by rw [hg0]; simp
   have hr0i : (hd : Int) % (top : Int) = (r0 : Int) := by rw [hr0]; simp
   have hr0l : r0 < top := by rw [hr0]; exact Nat.mod_lt _ (by omega)
   have hsum : g0 * top + r0 = hd := by rw [hg0, hr0, Nat.mul_comm]; exact Nat.div_add_mod hd top
   rw [← hg0] at hgl hf1
   have HK1 := qHd k1; have HK2 := qHd k2; have HK3 := qHd k3; have HT2 := qHd t2; have HT3 := qHd t3; have HF1 := qHd hf1; have HSUM := qHd hsum; have HOU := qHd hOu; have HOQ := qHd hOq; have HHB := qHd hhb
   have HvB := qHd hvB; have Hv0 := qHd hv0; have HBO := qHd hBr; have HHD := qHd hhd
   have HG0I := qHd hg0i; have HR0I := qHd hr0i
   clear k1 k2 k3 t1 t2 t3 hf1 hsum hOu hOq hhb hvB hv0 hu1 hu0 hu2 hhd hg0 hr0 hBr hg0i hr0i
   go_wp2_with fail
   obtain ⟨F, hF⟩ : ∃ F, F = fit (hd * 4294967296 + u2) (top * 4294967296 + next) := ⟨_, rfl⟩
   rw [← hF] at HF1 HT2 HT3
   have hFB : F < 4294967296 := by rw [hF]; exact Nat.lt_of_le_of_lt (Nat.min_le_left _ _) (by decide)
   have HF := qHd hF
   clear hF
   go_quiet (fail)
   go_wp2_with fail
   have hby := qap (Below.refl wo.heap.size wo) nq
   obtain ⟨wy, hwy⟩ : ∃ wy, wy = wo.drewN nq := ⟨_, rfl⟩
   rw [← hwy] at hby ⊢
   have HBY := qHd hby
   clear hwy hby
   have hg0i := HG0I.out
   go_quiet (fail)
   clear hg0i
   have hbz := qap HBY.out nq
   obtain ⟨wz, hwz⟩ : ∃ wz, wz = wy.drewN nq := ⟨_, rfl⟩
   rw [← hwz] at hbz ⊢
   have HOZ := qHd (HOU.out.below hbz)
   have HQZ := qHd (HOQ.out.below hbz)
   have HNZ := qHd (hNv.out.below hbz)
   have HBZ := qHd (HBO.out.trans (hbz.mono HBO.out.size))
   have hc3' : wz.cell? ⟨gu, j + nb - 2, none⟩ = some (.int .u32 (u2 : Nat)) := by rw [hbz.cell (p := ⟨gu, j + nb - 2, none⟩) HOU.out.block.2]; exact hc3
   clear hwz hbz hc1 hc2 hc3
   go_wp2_with fail
   go_loop [16, 17] (fun gx rx => ∃ g r : Nat, gx = .int .u64 g ∧ rx = .int .u64 r ∧ r < 4294967296 ∧ g ≤ 4294967297 ∧ Hid (g * top + r = hd) ∧ Hid (F ≤ g)) (fun gx _ => (intOf gx).toNat)
   case atStart => exact ⟨g0, r0, rfl, by rw [HR0I.out], by omega, hgl, HSUM, HF1⟩
   case round =>
    obtain ⟨g, r1, rfl, rfl, hrl, hgl1, hgs, hgF⟩ := hrel
    have hct := hgF.out
    have htest := fit_test (next := next) (low := u2) (show 0 < top by omega) hgs.out
    rw [← HF.out] at htest
    by_cases hFg : F < g
    ·have hg1 : 1 ≤ g := by omega
     have hgd := guess_down hgs.out (by omega)
     obtain ⟨gf, hgf⟩ : ∃ gf, gf = g - 1 := ⟨_, rfl⟩
     obtain ⟨rf, hrf⟩ : ∃ rf, rf = r1 + top := ⟨_, rfl⟩
     rw [← hgf, ← hrf] at hgd
     have hgfi : (g : Int) - 1 = (gf : Int) := by omega
     have hrfi : (r1 : Int) + (top : Int) = (rf : Int) := by omega
     have hrf64 : rf < 8589934592 := by omega
     have hFg' : F ≤ gf := by omega
     have hgf2 : gf ≤ 4294967297 := by omega
     have hgm : gf < g := by omega
     have hgrest : 4294967296 ≤ rf → gf = F := by
      intro hrr
      have hgfB : gf < 4294967296 := by
       rcases Nat.lt_or_ge gf 4294967296 with h | h
       ·exact h
       ·exfalso
        have : 4294967296 * top ≤ gf * top := Nat.mul_le_mul_right _ h
        have := HHB.out
        omega
      have := fit_rest (low := u2) (show 0 < top by omega) hgd hnl hgfB hrr
      rw [← HF.out] at this
      omega
     have hor2 := or_words' u2 r1 hu2l hrl
     have hRl : r1 * 4294967296 + u2 < 18446744073709551616 := by omega
     obtain ⟨R, hR⟩ : ∃ R, R = r1 * 4294967296 + u2 := ⟨_, rfl⟩
     rw [← hR] at hor2 htest hRl
     have HGREST := qHd hgrest; have HGD := qHd hgd
     have htest := htest.2 hFg
     obtain ⟨p, hp⟩ : ∃ p, p = g * next := ⟨_, rfl⟩
     have hpi : (g : Int) * (next : Int) = (p : Int) := by rw [hp]; rfl
     have hpl : g < 4294967296 → p < 18446744073709551616 := fun h => by have := word_mul h hnl; rw [hp]; omega
     rw [← hp] at htest
     clear hgrest hgd hgf hrf hR hp hct
     by_cases hrr : 4294967296 ≤ rf
     ·have hgF := qHd (HGREST.out hrr)
      have hrri : decide ((4294967296 : Int) ≤ (rf : Int)) = true := by simp; omega
      have HTEST := qHd htest; clear htest
      by_cases hgB : 4294967296 ≤ g
      ·clear hpl
       have hgBi : decide ((4294967296 : Int) ≤ (g : Int)) = true := by simp; omega
       have HGF := hgF
       go_wp2_with fail
       clear hgfi hrfi hor2 hpi hg1 hrr hgB hrri hgBi
       rw [show j + nb + 1 - j = nb + 1 from by omega]
       have hgB' : gf < 4294967296 := by rw [HGF.out]; exact hFB
       have hT : gf * val lv < 4294967296 ^ (nb + 1) := by
        rw [Nat.pow_succ, Nat.mul_comm _ 4294967296]
        exact Nat.mul_lt_mul_of_lt_of_le hgB' (Nat.le_of_lt HvB.out) (Nat.lt_of_lt_of_le Hv0.out (Nat.le_of_lt HvB.out))
       have HT2' := HT2.out
       have HT3' := HT3.out
       rw [← HGF.out] at HT2' HT3'
       have HT2 := qHd HT2'; have HT3 := qHd HT3'
       clear HT2' HT3'
       (with_reducible refine (take_any gu j (nb + 1) (cu - j) (na + 1) cu gv nb cv gf w.heap.size lu lv wz HOZ.out hlu.out (by omega) (by omega) (by omega) (by omega) HNZ.out HNE.out hgB' (by rw [HLVL.out]; exact Nat.le_succ nb) hT).mono ?_)
       rintro e wt ⟨lt, rb, rfl, hrb, hOt, hlt, hgt, hst, hwt⟩
       have hQt := HQZ.out.keptBy hgt HQU.out
       have hBt := HBZ.out.grown hgt HBZ.out.size (fun k hk => by cases hk; exact hguw)
       have hNt := HNZ.out.keptBy hgt HNE.out
       have hwl := winv_lt hOt.lt j (nb + 1)
       clear hT
       by_cases hr1 : rb = 1
       ·subst hr1
        rw [Nat.mul_one] at hwt
        have hg1 : 1 ≤ gf := by
         rcases Nat.eq_zero_or_pos gf with h0 | h0
         ·exfalso
          rw [h0, Nat.zero_mul, Nat.add_zero] at hwt
          omega
         ·exact h0
        have hgv := give_any gu j (nb + 1) (cu - j) (na + 1) cu gv nb cv w.heap.size lt lv wt hOt hlt (by omega) (by omega) (by omega) (by omega) hNt HNE.out (by rw [HLVL.out]; exact Nat.le_succ nb)
        obtain ⟨gm, hgm⟩ : ∃ gm, gm = gf - 1 := ⟨_, rfl⟩
        have hgmi : (gf : Int) - 1 = (gm : Int) := by omega
        have hQB := qHd (show gm < 4294967296 by omega)
        have hgmb : gm < 4294967296 := by omega
        have HGV := qHd hgv; have HWT := qHd hwt; have HWL := qHd hwl; have HST := qHd hst; have HQT := qHd hQt; have HBT := qHd hBt; have HNT := qHd hNt; have HGM := qHd hgm
        clear hgv hwt hwl hst hQt hBt hNt hOt hlt hgt hgm
        go_wp2_with fail
        rw [show j + nb + 1 - j = nb + 1 from by omega]
        (with_reducible refine HGV.out.mono ?_); rintro e wg ⟨lg, rg, rfl, hOg, hlg, hgg, hsg, hwg⟩
        obtain ⟨e1, e2, _⟩ := round_over Hv0.out (Nat.lt_trans HvB.out (Nat.pow_lt_pow_right (by decide) (Nat.lt_succ_self nb))) HT3.out HWT.out HWL.out hwg (winv_lt hOg.lt j (nb + 1))
        have hsame : ∀ i, i < j ∨ j + (nb + 1) ≤ i → gd lg i = gd lu i := fun i hi => (hsg i hi).trans (HST.out i hi)
        rw [← HGM.out] at e1
        have HQX := qHd (HQT.out.keptBy hgg HQU.out)
        have HBX := qHd (HBT.out.grown hgg HBT.out.size (fun k hk => by cases hk; exact hguw))
        have HNX := qHd (HNT.out.keptBy hgg HNE.out)
        have HOX := qHd hOg; have HLX := qHd hlg; have HWX := qHd e2; have HQD := qHd e1; have HSX := qHd hsame
        clear e1 e2 hsame hOg hlg hgg hsg hwg
        have hOqx := HQX.out.cell hlq.out j (by omega)
        have hfqx := HQX.out.frozen hlq.out j
        have hqmod : (gm : Int) % 4294967296 = (gm : Int) := by omega
        have hgrq := HQX.out.grown hlq.out j gm
        have HGRQ := qHd hgrq
        clear hgrq
        go_wp2_with fail
        go_roundw
        case rel =>
         have h1 := HQX.out.stored hlq.out j gm hQB.out
         obtain ⟨e1, e2, e3⟩ := round_inv (lq := lq) (qd := gm) rfl HWX.out HQD.out HK3.out HSX.out (by rw [hlq.out]; omega) (hzq.out j (by omega)) hinv.out
         refine ⟨j, lg, lq.set j gm, by omega, rfl, HOX.out.keptBy HGRQ.out HQU.out.symm, HLX, h1, qHd (by rw [List.length_set]; exact hlq.out), qHd (HNX.out.keptBy HGRQ.out HQV.out), HBX.out.setCell hszw6 _, qHd e1, qHd ?_, qHd ?_⟩
         ·intro i hi
          rw [gd_set, if_neg (by omega)]; exact hzq.out i (by omega)
         ·rw [e3]; exact Nat.mod_lt _ Hv0.out
        case measure => simp [intOf]
       ·obtain rfl : rb = 0 := by omega
        rw [Nat.mul_zero, Nat.add_zero] at hwt
        obtain ⟨e1, e2⟩ := round_right Hv0.out HT2.out hwt
        have hQB := qHd hgB'
        have HQX := qHd hQt; have HBX := qHd hBt; have HNX := qHd hNt; have HOX := qHd hOt; have HLX := qHd hlt; have HWX := qHd e2; have HQD := qHd e1; have HSX := qHd hst
        clear e1 e2 hQt hBt hNt hOt hlt hst hwt hwl hgt hr1
        have hOqx := HQX.out.cell hlq.out j (by omega)
        have hfqx := HQX.out.frozen hlq.out j
        have hqmod : (gf : Int) % 4294967296 = (gf : Int) := by omega
        have hgrq := HQX.out.grown hlq.out j gf
        have HGRQ := qHd hgrq
        clear hgrq
        go_wp2_with fail
        go_roundw
        case rel =>
         have h1 := HQX.out.stored hlq.out j gf hQB.out
         obtain ⟨e1, e2, e3⟩ := round_inv (lq := lq) (qd := gf) rfl HWX.out HQD.out HK3.out HSX.out (by rw [hlq.out]; omega) (hzq.out j (by omega)) hinv.out
         refine ⟨j, lt, lq.set j gf, by omega, rfl, HOX.out.keptBy HGRQ.out HQU.out.symm, HLX, h1, qHd (by rw [List.length_set]; exact hlq.out), qHd (HNX.out.keptBy HGRQ.out HQV.out), HBX.out.setCell hszw6 _, qHd e1, qHd ?_, qHd ?_⟩
         ·intro i hi
          rw [gd_set, if_neg (by omega)]; exact hzq.out i (by omega)
         ·rw [e3]; exact Nat.mod_lt _ Hv0.out
        case measure => simp [intOf]
      ·have hpl := hpl (by omega)
       have hpR : R < p := by have := HTEST.out; omega
       have hgBi : decide ((4294967296 : Int) ≤ (g : Int)) = false := by simp; omega
       have hpRi : decide (R < p) = true := by simp; omega
       have HGF := hgF
       go_wp2_with fail
       clear hgfi hrfi hor2 hpi hg1 hrr hgB hrri hgBi hpR hpRi hpl
       rw [show j + nb + 1 - j = nb + 1 from by omega]
       have hgB' : gf < 4294967296 := by rw [HGF.out]; exact hFB
       have hT : gf * val lv < 4294967296 ^ (nb + 1) := by
        rw [Nat.pow_succ, Nat.mul_comm _ 4294967296]
        exact Nat.mul_lt_mul_of_lt_of_le hgB' (Nat.le_of_lt HvB.out) (Nat.lt_of_lt_of_le Hv0.out (Nat.le_of_lt HvB.out))
       have HT2' := HT2.out
       have HT3' := HT3.out
       rw [← HGF.out] at HT2' HT3'
       have HT2 := qHd HT2'; have HT3 := qHd HT3'
       clear HT2' HT3'
       (with_reducible refine (take_any gu j (nb + 1) (cu - j) (na + 1) cu gv nb cv gf w.heap.size lu lv wz HOZ.out hlu.out (by omega) (by omega) (by omega) (by omega) HNZ.out HNE.out hgB' (by rw [HLVL.out]; exact Nat.le_succ nb) hT).mono ?_)
       rintro e wt ⟨lt, rb, rfl, hrb, hOt, hlt, hgt, hst, hwt⟩
       have hQt := HQZ.out.keptBy hgt HQU.out
       have hBt := HBZ.out.grown hgt HBZ.out.size (fun k hk => by cases hk; exact hguw)
       have hNt := HNZ.out.keptBy hgt HNE.out
       have hwl := winv_lt hOt.lt j (nb + 1)
       clear hT
       by_cases hr1 : rb = 1
       ·subst hr1
        rw [Nat.mul_one] at hwt
        have hg1 : 1 ≤ gf := by
         rcases Nat.eq_zero_or_pos gf with h0 | h0
         ·exfalso
          rw [h0, Nat.zero_mul, Nat.add_zero] at hwt
          omega
         ·exact h0
        have hgv := give_any gu j (nb + 1) (cu - j) (na + 1) cu gv nb cv w.heap.size lt lv wt hOt hlt (by omega) (by omega) (by omega) (by omega) hNt HNE.out (by rw [HLVL.out]; exact Nat.le_succ nb)
        obtain ⟨gm, hgm⟩ : ∃ gm, gm = gf - 1 := ⟨_, rfl⟩
        have hgmi : (gf : Int) - 1 = (gm : Int) := by omega
        have hQB := qHd (show gm < 4294967296 by omega)
        have hgmb : gm < 4294967296 := by omega
        have HGV := qHd hgv; have HWT := qHd hwt; have HWL := qHd hwl; have HST := qHd hst; have HQT := qHd hQt; have HBT := qHd hBt; have HNT := qHd hNt; have HGM := qHd hgm
        clear hgv hwt hwl hst hQt hBt hNt hOt hlt hgt hgm
        go_wp2_with fail
        rw [show j + nb + 1 - j = nb + 1 from by omega]
        (with_reducible refine HGV.out.mono ?_); rintro e wg ⟨lg, rg, rfl, hOg, hlg, hgg, hsg, hwg⟩
        obtain ⟨e1, e2, _⟩ := round_over Hv0.out (Nat.lt_trans HvB.out (Nat.pow_lt_pow_right (by decide) (Nat.lt_succ_self nb))) HT3.out HWT.out HWL.out hwg (winv_lt hOg.lt j (nb + 1))
        have hsame : ∀ i, i < j ∨ j + (nb + 1) ≤ i → gd lg i = gd lu i := fun i hi => (hsg i hi).trans (HST.out i hi)
        rw [← HGM.out] at e1
        have HQX := qHd (HQT.out.keptBy hgg HQU.out)
        have HBX := qHd (HBT.out.grown hgg HBT.out.size (fun k hk => by cases hk; exact hguw))
        have HNX := qHd (HNT.out.keptBy hgg HNE.out)
        have HOX := qHd hOg; have HLX := qHd hlg; have HWX := qHd e2; have HQD := qHd e1; have HSX := qHd hsame
        clear e1 e2 hsame hOg hlg hgg hsg hwg
        have hOqx := HQX.out.cell hlq.out j (by omega)
        have hfqx := HQX.out.frozen hlq.out j
        have hqmod : (gm : Int) % 4294967296 = (gm : Int) := by omega
        have hgrq := HQX.out.grown hlq.out j gm
        have HGRQ := qHd hgrq
        clear hgrq
        go_wp2_with fail
        go_roundw
        case rel =>
         have h1 := HQX.out.stored hlq.out j gm hQB.out
         obtain ⟨e1, e2, e3⟩ := round_inv (lq := lq) (qd := gm) rfl HWX.out HQD.out HK3.out HSX.out (by rw [hlq.out]; omega) (hzq.out j (by omega)) hinv.out
         refine ⟨j, lg, lq.set j gm, by omega, rfl, HOX.out.keptBy HGRQ.out HQU.out.symm, HLX, h1, qHd (by rw [List.length_set]; exact hlq.out), qHd (HNX.out.keptBy HGRQ.out HQV.out), HBX.out.setCell hszw6 _, qHd e1, qHd ?_, qHd ?_⟩
         ·intro i hi
          rw [gd_set, if_neg (by omega)]; exact hzq.out i (by omega)
         ·rw [e3]; exact Nat.mod_lt _ Hv0.out
        case measure => simp [intOf]
       ·obtain rfl : rb = 0 := by omega
        rw [Nat.mul_zero, Nat.add_zero] at hwt
        obtain ⟨e1, e2⟩ := round_right Hv0.out HT2.out hwt
        have hQB := qHd hgB'
        have HQX := qHd hQt; have HBX := qHd hBt; have HNX := qHd hNt; have HOX := qHd hOt; have HLX := qHd hlt; have HWX := qHd e2; have HQD := qHd e1; have HSX := qHd hst
        clear e1 e2 hQt hBt hNt hOt hlt hst hwt hwl hgt hr1
        have hOqx := HQX.out.cell hlq.out j (by omega)
        have hfqx := HQX.out.frozen hlq.out j
        have hqmod : (gf : Int) % 4294967296 = (gf : Int) := by omega
        have hgrq := HQX.out.grown hlq.out j gf
        have HGRQ := qHd hgrq
        clear hgrq
        go_wp2_with fail
        go_roundw
        case rel =>
         have h1 := HQX.out.stored hlq.out j gf hQB.out
         obtain ⟨e1, e2, e3⟩ := round_inv (lq := lq) (qd := gf) rfl HWX.out HQD.out HK3.out HSX.out (by rw [hlq.out]; omega) (hzq.out j (by omega)) hinv.out
         refine ⟨j, lt, lq.set j gf, by omega, rfl, HOX.out.keptBy HGRQ.out HQU.out.symm, HLX, h1, qHd (by rw [List.length_set]; exact hlq.out), qHd (HNX.out.keptBy HGRQ.out HQV.out), HBX.out.setCell hszw6 _, qHd e1, qHd ?_, qHd ?_⟩
         ·intro i hi
          rw [gd_set, if_neg (by omega)]; exact hzq.out i (by omega)
         ·rw [e3]; exact Nat.mod_lt _ Hv0.out
        case measure => simp [intOf]
     ·have hrri : decide ((4294967296 : Int) ≤ (rf : Int)) = false := by simp; omega
      have HTEST := qHd htest; clear htest
      by_cases hgB : 4294967296 ≤ g
      ·clear hpl
       have hgBi : decide ((4294967296 : Int) ≤ (g : Int)) = true := by simp; omega
       go_wp2_with fail
       go_round
       case rel => exact ⟨gf, rf, rfl, rfl, by omega, hgf2, HGD, qHd hFg'⟩
       case measure => simp [intOf]; omega
      ·have hpl := hpl (by omega)
       have hpR : R < p := by have := HTEST.out; omega
       have hgBi : decide ((4294967296 : Int) ≤ (g : Int)) = false := by simp; omega
       have hpRi : decide (R < p) = true := by simp; omega
       go_wp2_with fail
       go_round
       case rel => exact ⟨gf, rf, rfl, rfl, by omega, hgf2, HGD, qHd hFg'⟩
       case measure => simp [intOf]; omega
    ·have hgFe : g = F := by omega
     have HGF := qHd hgFe
     have hneg : ¬(4294967296 ≤ g ∨ r1 * 4294967296 + u2 < g * next) := fun h => hFg (htest.1 h)
     have hgB : g < 4294967296 := by omega
     have hor2 := or_words' u2 r1 hu2l hrl
     have hRl : r1 * 4294967296 + u2 < 18446744073709551616 := by omega
     have hpl := word_mul hgB hnl
     have hnR : ¬ r1 * 4294967296 + u2 < g * next := fun h => hneg (.inr h)
     obtain ⟨R, hR⟩ : ∃ R, R = r1 * 4294967296 + u2 := ⟨_, rfl⟩
     obtain ⟨p, hp⟩ : ∃ p, p = g * next := ⟨_, rfl⟩
     rw [← hR] at hor2 hRl hnR
     rw [← hp] at hpl hnR
     have hpi : (g : Int) * (next : Int) = (p : Int) := by rw [hp]; rfl
     have hgBi : decide ((4294967296 : Int) ≤ (g : Int)) = false := by simp; omega
     have hpRi : decide (R < p) = false := by simp; omega
     obtain ⟨gf, hgf⟩ : ∃ gf, gf = g := ⟨_, rfl⟩
     subst hgf
     clear htest hneg hR hp hgFe hct hgl1 hFg
     go_wp2_with fail
     clear hor2 hpi hgBi hpRi hnR hpl hRl
     rw [show j + nb + 1 - j = nb + 1 from by omega]
     have hgB' : gf < 4294967296 := by rw [HGF.out]; exact hFB
     have hT : gf * val lv < 4294967296 ^ (nb + 1) := by
      rw [Nat.pow_succ, Nat.mul_comm _ 4294967296]
      exact Nat.mul_lt_mul_of_lt_of_le hgB' (Nat.le_of_lt HvB.out) (Nat.lt_of_lt_of_le Hv0.out (Nat.le_of_lt HvB.out))
     have HT2' := HT2.out
     have HT3' := HT3.out
     rw [← HGF.out] at HT2' HT3'
     have HT2 := qHd HT2'; have HT3 := qHd HT3'
     clear HT2' HT3'
     (with_reducible refine (take_any gu j (nb + 1) (cu - j) (na + 1) cu gv nb cv gf w.heap.size lu lv wz HOZ.out hlu.out (by omega) (by omega) (by omega) (by omega) HNZ.out HNE.out hgB' (by rw [HLVL.out]; exact Nat.le_succ nb) hT).mono ?_)
     rintro e wt ⟨lt, rb, rfl, hrb, hOt, hlt, hgt, hst, hwt⟩
     have hQt := HQZ.out.keptBy hgt HQU.out
     have hBt := HBZ.out.grown hgt HBZ.out.size (fun k hk => by cases hk; exact hguw)
     have hNt := HNZ.out.keptBy hgt HNE.out
     have hwl := winv_lt hOt.lt j (nb + 1)
     clear hT
     by_cases hr1 : rb = 1
     ·subst hr1
      rw [Nat.mul_one] at hwt
      have hg1 : 1 ≤ gf := by
       rcases Nat.eq_zero_or_pos gf with h0 | h0
       ·exfalso
        rw [h0, Nat.zero_mul, Nat.add_zero] at hwt
        omega
       ·exact h0
      have hgv := give_any gu j (nb + 1) (cu - j) (na + 1) cu gv nb cv w.heap.size lt lv wt hOt hlt (by omega) (by omega) (by omega) (by omega) hNt HNE.out (by rw [HLVL.out]; exact Nat.le_succ nb)
      obtain ⟨gm, hgm⟩ : ∃ gm, gm = gf - 1 := ⟨_, rfl⟩
      have hgmi : (gf : Int) - 1 = (gm : Int) := by omega
      have hQB := qHd (show gm < 4294967296 by omega)
      have hgmb : gm < 4294967296 := by omega
      have HGV := qHd hgv; have HWT := qHd hwt; have HWL := qHd hwl; have HST := qHd hst; have HQT := qHd hQt; have HBT := qHd hBt; have HNT := qHd hNt; have HGM := qHd hgm
      clear hgv hwt hwl hst hQt hBt hNt hOt hlt hgt hgm
      go_wp2_with fail
      rw [show j + nb + 1 - j = nb + 1 from by omega]
      (with_reducible refine HGV.out.mono ?_); rintro e wg ⟨lg, rg, rfl, hOg, hlg, hgg, hsg, hwg⟩
      obtain ⟨e1, e2, _⟩ := round_over Hv0.out (Nat.lt_trans HvB.out (Nat.pow_lt_pow_right (by decide) (Nat.lt_succ_self nb))) HT3.out HWT.out HWL.out hwg (winv_lt hOg.lt j (nb + 1))
      have hsame : ∀ i, i < j ∨ j + (nb + 1) ≤ i → gd lg i = gd lu i := fun i hi => (hsg i hi).trans (HST.out i hi)
      rw [← HGM.out] at e1
      have HQX := qHd (HQT.out.keptBy hgg HQU.out)
      have HBX := qHd (HBT.out.grown hgg HBT.out.size (fun k hk => by cases hk; exact hguw))
      have HNX := qHd (HNT.out.keptBy hgg HNE.out)
      have HOX := qHd hOg; have HLX := qHd hlg; have HWX := qHd e2; have HQD := qHd e1; have HSX := qHd hsame
      clear e1 e2 hsame hOg hlg hgg hsg hwg
      have hOqx := HQX.out.cell hlq.out j (by omega)
      have hfqx := HQX.out.frozen hlq.out j
      have hqmod : (gm : Int) % 4294967296 = (gm : Int) := by omega
      have hgrq := HQX.out.grown hlq.out j gm
      have HGRQ := qHd hgrq
      clear hgrq
      go_wp2_with fail
      go_roundw
      case rel =>
       have h1 := HQX.out.stored hlq.out j gm hQB.out
       obtain ⟨e1, e2, e3⟩ := round_inv (lq := lq) (qd := gm) rfl HWX.out HQD.out HK3.out HSX.out (by rw [hlq.out]; omega) (hzq.out j (by omega)) hinv.out
       refine ⟨j, lg, lq.set j gm, by omega, rfl, HOX.out.keptBy HGRQ.out HQU.out.symm, HLX, h1, qHd (by rw [List.length_set]; exact hlq.out), qHd (HNX.out.keptBy HGRQ.out HQV.out), HBX.out.setCell hszw6 _, qHd e1, qHd ?_, qHd ?_⟩
       ·intro i hi
        rw [gd_set, if_neg (by omega)]; exact hzq.out i (by omega)
       ·rw [e3]; exact Nat.mod_lt _ Hv0.out
      case measure => simp [intOf]
     ·obtain rfl : rb = 0 := by omega
      rw [Nat.mul_zero, Nat.add_zero] at hwt
      obtain ⟨e1, e2⟩ := round_right Hv0.out HT2.out hwt
      have hQB := qHd hgB'
      have HQX := qHd hQt; have HBX := qHd hBt; have HNX := qHd hNt; have HOX := qHd hOt; have HLX := qHd hlt; have HWX := qHd e2; have HQD := qHd e1; have HSX := qHd hst
      clear e1 e2 hQt hBt hNt hOt hlt hst hwt hwl hgt hr1
      have hOqx := HQX.out.cell hlq.out j (by omega)
      have hfqx := HQX.out.frozen hlq.out j
      have hqmod : (gf : Int) % 4294967296 = (gf : Int) := by omega
      have hgrq := HQX.out.grown hlq.out j gf
      have HGRQ := qHd hgrq
      clear hgrq
      go_wp2_with fail
      go_roundw
      case rel =>
       have h1 := HQX.out.stored hlq.out j gf hQB.out
       obtain ⟨e1, e2, e3⟩ := round_inv (lq := lq) (qd := gf) rfl HWX.out HQD.out HK3.out HSX.out (by rw [hlq.out]; omega) (hzq.out j (by omega)) hinv.out
       refine ⟨j, lt, lq.set j gf, by omega, rfl, HOX.out.keptBy HGRQ.out HQU.out.symm, HLX, h1, qHd (by rw [List.length_set]; exact hlq.out), qHd (HNX.out.keptBy HGRQ.out HQV.out), HBX.out.setCell hszw6 _, qHd e1, qHd ?_, qHd ?_⟩
       ·intro i hi
        rw [gd_set, if_neg (by omega)]; exact hzq.out i (by omega)
       ·rw [e3]; exact Nat.mod_lt _ Hv0.out
      case measure => simp [intOf]
theorem div_any (va vb : Value) (a b : List Nat) (w : World) (ha : Num w va a) (hb : Num w vb b) (hla : a.length ≤ 800000) (hlb : b.length ≤ 800000) (h0 : val b ≠ 0) :
  Calls Tryz.prog 47 #[va, vb] w (RetDiv w (val a / val b) (val a % val b) (errV 0)) := by
 by_cases h1 : val a < val b
 ·exact div_less va vb a b w ha hb hla hlb h1
 ·by_cases h2 : val b < 4294967296
  ·exact div_small va vb a b w ha hb hla hlb (by omega) h0 h2
  ·exact div_long va vb a b w ha hb hla hlb (by omega) (by omega)

theorem Num.unique {w : World} {v : Value} {l m : List Nat} (h : Num w v l) (k : Num w v m) : l = m := by
 obtain ⟨ao, c, e, h1, h2, h3, h4, h5⟩ := h
 subst e
 obtain ⟨ao', c', e', k1, k2, k3, k4, k5⟩ := k
 simp only [Value.slice.injEq] at e'
 obtain ⟨rfl, hl, rfl⟩ := e'
 apply gd_ext hl
 intro j hj
 cases hao : ao with
 | none => have := h3 hao; omega
 | some a =>
  obtain ⟨b, off, s⟩ := a
  obtain ⟨_, c1⟩ := h4 b off s hao
  obtain ⟨_, c2⟩ := k4 b off s hao
  have e1 := c1 j hj
  have e2 := c2 j (by omega)
  rw [e1] at e2
  simp only [Option.some.injEq, Value.int.injEq, true_and] at e2
  omega
open Classical in
/-- what a slice value is worth in a world -/
noncomputable def numOf (w : World) (v : Value) : Nat := if h : ∃ l, Num w v l then val h.choose else 0
theorem numOf_eq {w : World} {v : Value} {l : List Nat} (h : Num w v l) : numOf w v = val l := by
 have hx : ∃ l, Num w v l := ⟨l, h⟩
 unfold numOf
 rw [dif_pos hx, hx.choose_spec.unique h]

theorem gcd_any (va vb : Value) (a b : List Nat) (w : World) (ha : Num w va a) (hb : Num w vb b) (hla : a.length ≤ 800000) (hlb : b.length ≤ 800000) :
  Calls Tryz.prog 46 #[va, vb] w (RetNum w fun r => r = wd (Nat.gcd (val a) (val b))) := by
 have hl1 := qbh ha.lt
 have hl2 := qbh hb.lt
 obtain ⟨G, hG⟩ : ∃ G, G = Nat.gcd (val a) (val b) := ⟨_, rfl⟩
 rw [← hG]
 have HG := qHd hG; clear hG
 go_enter Tryz.func46, Tryz.ntmps46
 go_wp2_with fail
 (with_reducible refine (qbs _ _ _ ha (by omega)).mono ?_); rintro e w1 ⟨v1, l1, rfl, hb1, hn1, hl1'⟩
 go_wp2_with fail
 (with_reducible refine (qbs _ _ _ (hb.below hb1) (by omega)).mono ?_); rintro e w2 ⟨v2, l2, rfl, hb2, hn2, hl2'⟩
 have hn1 := hn1.below hb2
 have hb12 := hb1.trans (hb2.mono hb1.size)
 rw [hl1'] at hn1
 rw [hl2'] at hn2
 obtain ⟨x0, hx0⟩ : ∃ x0, x0 = val a := ⟨_, rfl⟩
 obtain ⟨y0, hy0⟩ : ∃ y0, y0 = val b := ⟨_, rfl⟩
 rw [← hx0] at hn1 hl1
 rw [← hy0] at hn2 hl2
 have hg0 : Nat.gcd x0 y0 = G := by rw [HG.out, hx0, hy0]
 have HG0 := qHd hg0; have HN1 := qHd hn1; have HN2 := qHd hn2
 clear hg0 hx0 hy0 hn1 hn2 hl1' hl2' hb1 hb2 ha hb
 go_wp2_with fail
 go_loopw [0, 1] (fun xv yv wr => ∃ x y : Nat, Num wr xv (wd x) ∧ Num wr yv (wd y) ∧ Below w.heap.size w wr ∧ Hid (Nat.gcd x y = G) ∧ (wd x).length ≤ 800000 ∧ (wd y).length ≤ 800000) (fun _ yv wr => numOf wr yv)
 case atStart => exact ⟨x0, y0, HN1.out, HN2.out, hb12, HG0, by omega, by omega⟩
 case round =>
  obtain ⟨x, y, hnx, hny, hBr, hgr, hlx, hly⟩ := hrel
  by_cases hy0 : y = 0
  ·subst hy0
   rw [qbl] at hny hly
   obtain ⟨yo, cy, rfl, hcy, hcy2, _⟩ := hny.shape
   have hgx : x = G := by rw [← hgr.out, Nat.gcd_zero_right]
   have HGX := qHd hgx; have HNX := qHd hnx
   clear hny hgx hnx
   go_wp2_with fail
   go_ret
   exact ⟨_, _, rfl, hBr, HNX.out, by rw [HGX.out]⟩
  ·have hd := div_any _ _ _ _ _ hnx hny hlx hly (by rw [qao]; exact hy0)
   rw [qao, qao, qcm] at hd
   have hpos := wd_length_pos hy0
   have hm0 := numOf_eq hny
   rw [qao] at hm0
   obtain ⟨yo, cy, rfl, hcy, hcy2, _⟩ := hny.shape
   have hlm : (wd (x % y)).length ≤ (wd y).length := qas (Nat.le_of_lt (Nat.mod_lt _ (by omega)))
   have hml : x % y < y := Nat.mod_lt _ (by omega)
   have hgm : Nat.gcd y (x % y) = G := by rw [← hgr.out, Nat.gcd_comm x y, Nat.gcd_rec y x, Nat.gcd_comm]
   have HD := qHd hd; have HNY := qHd hny; have HM0 := qHd hm0; have HLM := qHd hlm; have HML := qHd hml; have HGM := qHd hgm
   clear hd hny hm0 hlm hml hgm hnx
   go_wp2_with fail
   (with_reducible refine HD.out.mono ?_); rintro e w3 ⟨v1, v2, rfl, hb3, hq, hr⟩
   have HR := qHd hr
   clear hq hr
   go_wp2_with fail
   go_roundw
   case rel => exact ⟨y, x % y, HNY.out.below hb3, HR.out, hBr.trans (hb3.mono hBr.size), HGM, hly, Nat.le_trans HLM.out hly⟩
   case measure =>
    have e1 := numOf_eq HR.out
    rw [qao] at e1
    show numOf _ _ < numOf _ _
    rw [HM0.out]
    exact Nat.lt_of_le_of_lt (Nat.le_of_eq e1) HML.out
def freshW (n : Nat) : Array Value := madeCells #[.int .u32 0] n
theorem run_makeW (wx : World) (n : Nat) (hn : n ≤ 70368744177664) :
  (Instr.makeSlice 35 (.int .i64 (n : Int)) (.int .i64 (n : Int))).run Tryz.prog wx = .ok (.slice (some ⟨wx.heap.size, 0, none⟩) n n) (wx.alloc (.cells (freshW n) 49)) := by
 obtain ⟨i0, hi, hz0, hz1, hz2⟩ := Tryz.wordsTy.info
 have h := run_make (P := Tryz.prog) wx 35 49 i0 (.int .u32 0) Tryz.wordsTy.under hi hz0 .i64 .i64 (n : Int) (n : Int) (by omega) (Int.le_refl _) (by rw [hz2]; omega) (by omega)
 rw [h, Int.toNat_natCast, hz1, Nat.mul_one]; rfl
theorem own_made (w : World) (B n : Nat) (hB : B ≤ w.heap.size) (hn : n ≤ 70368744177664) :
  qcg 49 (w.alloc (.cells (freshW n) 49)) B (.slice (some ⟨w.heap.size, 0, none⟩) n n) (List.replicate n 0) := by
 have e : (freshW n).toList = List.replicate n (.int .u32 0) := by unfold freshW; rw [toList_madeCells_one]
 have hs : (freshW n).size = n := by rw [← Array.length_toList, e, List.length_replicate]
 refine ⟨⟨by simp, .inr ⟨w.heap.size, n, _, ?_, hB, heap_alloc_new w _, ?_, ?_, ?_, ?_⟩⟩, U32.replicate n (by decide)⟩
 ·rw [List.length_replicate]
 ·rw [List.length_replicate]; exact Nat.le_refl _
 ·unfold maxLen; omega
 ·rw [Nat.mul_one]; exact hs
 ·rw [e, List.map_replicate, List.length_replicate, Nat.mul_one, List.take_of_length_le (by simp)]; rfl

section
variable {P : Program} {w : World} {ops : Array Oper} {o : Oper} {a : Act} {K : Act → World → Prop} {Q : Exit → Act → World → Prop} {E : Prop} {t e : TypeId}
theorem step_appendN2 (T : qcl P t e (.int .u32 0) 1 4)
  (hg : o.guard = none) (s x : Operand) (hop : o.op = Op.call { callee := Callee.builtin Builtin.append, args := #[s, x], argTypes := #[t, t] })
  (B : Nat) (v xv : Value) (l m : List Nat) (hs : a.eval s = v) (hx : a.eval x = xv) (hown : qcg e w B v l) (hm : Num w xv m)
  (hlen : l.length + m.length ≤ 17592186044416) (hB : B ≤ w.heap.size)
  (hK : ∀ v' w', qcg e w' B v' (l ++ m) → (∀ w0, Below B w0 w → Below B w0 w') → w.heap.size ≤ w'.heap.size → w.grownBy w' v.ownBlock → K (a.put o.dst v') w') :
  if Region.wanted o (yielded ops a.tmps) = true then Oper.wp P o a w K Q else E := by
 have hw : Region.wanted o (yielded ops a.tmps) = true := by simp [Region.wanted, hg]
 rw [if_pos hw]
 have key : ∃ v' w', (Builtin.append_ #[t, t] o.type #[v, xv]).run P w = .ok v' w' ∧ qcg e w' B v' (l ++ m) ∧ w.grownBy w' v.ownBlock := run_appendN T o.type B v xv l m hown hm hlen hB
 obtain ⟨v', w', hrun, r1, r2⟩ := key
 unfold Oper.wp
 simp [execOp, hop, resolve, invoke, builtin, hs, hx, hrun, Result.andThen]
 refine hK v' w' r1 (fun w0 h0 => h0.grown r2 hB ?_) r2.size r2
 intro k hk
 exact (hown.1.lt k hk).1
end
theorem Tryz.sizeBuilder : (Tryz.prog.info? 108).map (·.size) = some 2 := by kernel_rfl
theorem Tryz.liesBuilder : liesAt Tryz.prog Tryz.prog.depth 108 (2 / Tryz.prog.cellsOf 108) 0 108 1 = true := by kernel_rfl
theorem Tryz.infoByte : (Tryz.prog.info? 5).map (fun i => (i.zero, i.size, i.bytes)) = some (some (.int .u8 0), 1, 1) := by kernel_rfl

theorem copyCheck_used (b : Nat) (w : World) (h0 : w.cell? ⟨b, 0, none⟩ = some (.pointer (some ⟨b, 0, none⟩))) :
  Calls Tryz.prog 81 #[.pointer (some ⟨b, 0, none⟩)] w fun e w' => e = .returned (.tuple #[]) ∧ w' = w := by
 obtain ⟨j, hj, _⟩ := Option.map_eq_some_iff.1 Tryz.sizeBuilder
 go_enter Tryz.func81, Tryz.ntmps81
 go_wp2
 rw [Lib.run_neq_ptr_same w _ Tryz.underlying105 hj]
 go_wp2
 go_end0
 exact ⟨rfl, rfl⟩

theorem copyCheck_fresh (b : Nat) (w : World) (h0 : w.cell? ⟨b, 0, none⟩ = some (.pointer none)) (hsh : w.shape? b = some (108, 2)) (hfz : w.frozen? ⟨b, 0, none⟩ = false) :
  Calls Tryz.prog 81 #[.pointer (some ⟨b, 0, none⟩)] w fun e w' => e = .returned (.tuple #[]) ∧ w' = w.setCell ⟨b, 0, none⟩ (.pointer (some ⟨b, 0, none⟩)) := by
 obtain ⟨j, hj, hjs⟩ := Option.map_eq_some_iff.1 Tryz.sizeBuilder
 go_enter Tryz.func81, Tryz.ntmps81
 go_wp2
 rw [Lib.run_to_unsafe w ⟨b, 0, none⟩ Tryz.underlying105 Tryz.underlying136 hj (by rw [hjs]; decide) hsh (Nat.zero_lt_succ 1)]
 simp only [Result.andThen]
 rw [Oper.upon_value]
 go_wp2
 rw [run_callFunc_extern Tryz.func89 (by kernel_rfl) (by kernel_rfl) (by kernel_rfl) (e := Extern.AbiNoEscape.same) (by kernel_rfl)]
 rw [Lib.run_noEscape]
 simp only [Result.andThen]
 rw [Oper.upon_value]
 go_wp2
 rw [Lib.run_from_unsafe w ⟨b, 0, none⟩ Tryz.underlying136 Tryz.underlying105 hj hsh Tryz.liesBuilder]
 simp only [Result.andThen]
 rw [Oper.upon_value]
 go_wp2
 go_end0
 exact ⟨rfl, rfl⟩

theorem copyCheck_any (B b : Nat) (bs : List Value) (w : World) (h : Lib.IsBuilder 108 5 B b bs w) :
  Calls Tryz.prog 81 #[.pointer (some ⟨b, 0, none⟩)] w fun e w' => e = .returned (.tuple #[]) ∧ (Lib.BuilderAt 108 5 B b (.pointer (some ⟨b, 0, none⟩)) bs w' ∧ Below B w w') := by
 rcases h with h | h
 ·refine (copyCheck_fresh b w h.cell0 h.shape h.frozen0).mono ?_
  rintro e w' ⟨rfl, rfl⟩
  exact ⟨rfl, h.used _, (Below.refl B w).setCell (p := ⟨b, 0, none⟩) h.1 _⟩
 ·refine (copyCheck_used b w h.cell0).mono ?_
  rintro e w' ⟨rfl, rfl⟩
  exact ⟨rfl, h, Below.refl B _⟩

theorem writeString_any (B b : Nat) (bs : List Value) (s : ByteArray) (w : World) (h : Lib.IsBuilder 108 5 B b bs w) (hlen : bs.length + s.size ≤ 140737488355328) (hBw : B ≤ w.heap.size) :
  Calls Tryz.prog 60 #[.pointer (some ⟨b, 0, none⟩), .string s] w fun e w' => e = .returned (.tuple #[.int .i64 s.size, .nilIface]) ∧ (Lib.BuilderAt 108 5 B b (.pointer (some ⟨b, 0, none⟩)) (bs ++ Lib.strCells s) w' ∧ Below B w w') := by
 obtain ⟨i0, hi, hz0, hz1, hz2⟩ := info_parts Tryz.infoByte
 go_enter Tryz.func60, Tryz.ntmps60
 go_wp2_with fail
 (with_reducible refine (copyCheck_any B b bs _ h).mono ?_)
 rintro e w1 ⟨rfl, h1, hb1⟩
 obtain ⟨hB, v, hbk, hown, hne⟩ := h1
 have c0 : w1.cell? ⟨b, 0, none⟩ = some (.pointer (some ⟨b, 0, none⟩)) := by rw [Lib.cell_of_heap hbk]; rfl
 have c1 : w1.cell? ⟨b, 1, none⟩ = some v := by rw [Lib.cell_of_heap hbk]; rfl
 go_wp2_with (at_builtin; refine Lib.wpList_append_own_string _ rfl _ _ 106 9 rfl B 5 i0 Tryz.underlying106 Tryz.underlying9 hi hz0 hz1 hz2 _ _ _ rfl hown s rfl ?c3 ?c4 ?c5 ?_)
 case c3 => unfold maxLen; omega
 case c4 => omega
 case c5 => have := hb1.size; omega
 intro v' w2 hown' hgrow _
 have hlt : b < w1.heap.size := by
  rcases Nat.lt_or_ge b w1.heap.size with h' | h'
  ·exact h'
  ·simp [Array.getElem?_eq_none h'] at hbk
 have hb2 : w2.heap[b]? = some (.cells #[.pointer (some ⟨b, 0, none⟩), v] 108 (0, 0)) := by
  rw [hgrow.block b hlt (fun e => hne e.symm)]
  exact hbk
 have d0 : w2.cell? ⟨b, 0, none⟩ = some (.pointer (some ⟨b, 0, none⟩)) := by rw [Lib.cell_of_heap hb2]; rfl
 have d1 : w2.cell? ⟨b, 1, none⟩ = some v := by rw [Lib.cell_of_heap hb2]; rfl
 have f1 : w2.frozen? ⟨b, 1, none⟩ = false := Lib.frozen_of_heap hb2 1
 obtain ⟨ao, n', cap, rfl⟩ : ∃ ao n' cap, v' = .slice ao n' cap := by
  rcases hown'.2 with ⟨hv, _⟩ | ⟨g, cap, cur, hv, _⟩
  ·exact ⟨_, _, _, hv⟩
  ·exact ⟨_, _, _, hv⟩
 go_wp2
 go_ret2
 refine ⟨rfl, ?_, ?_⟩
 ·exact Lib.BuilderAt.put (T := 108) (e := 5) hB hb2 (bs' := bs ++ Lib.strCells s) (by simpa [Lib.strCells_length] using hown') (by decide)
 ·exact (hb1.grown hgrow (by have := hb1.size; omega) (fun k hk => (hown.lt k hk).1)).setCell (p := ⟨b, 1, none⟩) hB _

def digB (n : Nat) : UInt8 := UInt8.ofNat (48 + n % 10)
theorem digB_toNat (n : Nat) : (digB n).toNat = 48 + n % 10 := by
 unfold digB
 rw [UInt8.toNat_ofNat_of_lt' (by show 48 + n % 10 < 256; omega)]
def padD : Nat → Nat → List UInt8
 | 0, _ => []
 | k + 1, n => digB n :: padD k (n / 10)
def nineB (n : Nat) : ByteArray := ⟨((padD 9 n).reverse).toArray⟩

theorem nine_any (n : Nat) (w : World) (hn : n < 4294967296) :
  Calls Tryz.prog 59 #[.int .u32 n] w (RetV w (.string (nineB n))) := by
 have e : ∀ m : Nat, ((digB m).toNat : Int) = 48 + (m : Int) % 10 := fun m => by rw [digB_toNat]; omega
 have hl : (padD 9 n).reverse = [digB (n / 10 / 10 / 10 / 10 / 10 / 10 / 10 / 10), digB (n / 10 / 10 / 10 / 10 / 10 / 10 / 10), digB (n / 10 / 10 / 10 / 10 / 10 / 10), digB (n / 10 / 10 / 10 / 10 / 10), digB (n / 10 / 10 / 10 / 10), digB (n / 10 / 10 / 10), digB (n / 10 / 10), digB (n / 10), digB n] := rfl
 have hcv : ∀ T : TypeId, (convert 106 9 (.slice (some ⟨w.heap.size, 0, none⟩) 9 9)).run Tryz.prog
   (w.alloc (.cells #[.int .u8 (48 + (n : Int) / 10 / 10 / 10 / 10 / 10 / 10 / 10 / 10 % 10), .int .u8 (48 + (n : Int) / 10 / 10 / 10 / 10 / 10 / 10 / 10 % 10), .int .u8 (48 + (n : Int) / 10 / 10 / 10 / 10 / 10 / 10 % 10), .int .u8 (48 + (n : Int) / 10 / 10 / 10 / 10 / 10 % 10), .int .u8 (48 + (n : Int) / 10 / 10 / 10 / 10 % 10), .int .u8 (48 + (n : Int) / 10 / 10 / 10 % 10), .int .u8 (48 + (n : Int) / 10 / 10 % 10), .int .u8 (48 + (n : Int) / 10 % 10), .int .u8 (48 + (n : Int) % 10)] T)) =
   .ok (.string (nineB n)) (w.alloc (.cells #[.int .u8 (48 + (n : Int) / 10 / 10 / 10 / 10 / 10 / 10 / 10 / 10 % 10), .int .u8 (48 + (n : Int) / 10 / 10 / 10 / 10 / 10 / 10 / 10 % 10), .int .u8 (48 + (n : Int) / 10 / 10 / 10 / 10 / 10 / 10 % 10), .int .u8 (48 + (n : Int) / 10 / 10 / 10 / 10 / 10 % 10), .int .u8 (48 + (n : Int) / 10 / 10 / 10 / 10 % 10), .int .u8 (48 + (n : Int) / 10 / 10 / 10 % 10), .int .u8 (48 + (n : Int) / 10 / 10 % 10), .int .u8 (48 + (n : Int) / 10 % 10), .int .u8 (48 + (n : Int) % 10)] T)) := by
  intro T
  have h := run_convert_bytes_back (P := Tryz.prog) (w.alloc (.cells #[.int .u8 (48 + (n : Int) / 10 / 10 / 10 / 10 / 10 / 10 / 10 / 10 % 10), .int .u8 (48 + (n : Int) / 10 / 10 / 10 / 10 / 10 / 10 / 10 % 10), .int .u8 (48 + (n : Int) / 10 / 10 / 10 / 10 / 10 / 10 % 10), .int .u8 (48 + (n : Int) / 10 / 10 / 10 / 10 / 10 % 10), .int .u8 (48 + (n : Int) / 10 / 10 / 10 / 10 % 10), .int .u8 (48 + (n : Int) / 10 / 10 / 10 % 10), .int .u8 (48 + (n : Int) / 10 / 10 % 10), .int .u8 (48 + (n : Int) / 10 % 10), .int .u8 (48 + (n : Int) % 10)] T))
   106 9 5 ⟨w.heap.size, 0, none⟩ 9 (padD 9 n).reverse Tryz.underlying106 Tryz.underlying5 Tryz.underlying9 ?_
  ·exact h
  ·intro j hj
   have hj9 : j < 9 := by rw [hl] at hj; exact hj
   have ea : (⟨w.heap.size, 0, none⟩ : Addr).add j = ⟨w.heap.size, 0 + j, none⟩ := by unfold Addr.add; split <;> simp_all
   rw [ea, Nat.zero_add, cell_of_row _ w.heap.size j _ T (0, 0) (heap_alloc_new w _)]
   simp only [hl]
   match j, hj9 with
   | 0, _ => simp [e]
   | 1, _ => simp [e]
   | 2, _ => simp [e]
   | 3, _ => simp [e]
   | 4, _ => simp [e]
   | 5, _ => simp [e]
   | 6, _ => simp [e]
   | 7, _ => simp [e]
   | 8, _ => simp [e]
 have HCV := qHd hcv
 clear hcv hl e
 go_enter Tryz.func59, Tryz.ntmps59
 go_wp2_with fail
 go_rounds 10
 rw [HCV.out]
 simp only [Result.andThen]
 rw [Oper.upon_value]
 go_wp2_with fail
 go_ret
 exact ⟨rfl, (Below.refl _ _).alloc (Nat.le_refl _) _⟩
def digD (n : Nat) : List UInt8 := if h : n = 0 then [] else digB n :: digD (n / 10)
termination_by n
decreasing_by exact Nat.div_lt_self (by omega) (by decide)
theorem digD_zero : digD 0 = [] := by unfold digD; simp
theorem digD_pos {n : Nat} (h : n ≠ 0) : digD n = digB n :: digD (n / 10) := by rw [digD]; rw [dif_neg h]
def decB (n : Nat) : ByteArray := if n = 0 then ⟨#[48]⟩ else ⟨((digD n).reverse).toArray⟩
theorem padD_zero (k : Nat) : padD k 0 = List.replicate k 48 := by
 induction k with
 | zero => rfl
 | succ k ih => simp only [padD, Nat.zero_div, ih]; rfl
theorem padD_eq (k n : Nat) (h : n < 10 ^ k) : ∃ z, padD k n = digD n ++ List.replicate z 48 := by
  induction k generalizing n with
  | zero => have : n = 0 := by simpa using h
            subst this; exact ⟨0, by rw [digD_zero]; rfl⟩
  | succ k ih =>
    by_cases h0 : n = 0
    · subst h0; exact ⟨k + 1, by rw [padD_zero, digD_zero]; rfl⟩
    · obtain ⟨z, hz⟩ := ih (n / 10) (by rw [Nat.pow_succ] at h; omega)
      exact ⟨z, by rw [digD_pos h0]; simp only [padD, hz]; rfl⟩
theorem digD_last (n : Nat) (h : n ≠ 0) : ∃ l x, digD n = l ++ [x] ∧ x ≠ 48 := by
 induction n using Nat.strongRecOn with
 | _ n ih =>
  by_cases h1 : n / 10 = 0
  ·refine ⟨[], digB n, by rw [digD_pos h, h1, digD_zero]; rfl, ?_⟩
   intro e
   have := digB_toNat n
   rw [e] at this
   have : (48 : UInt8).toNat = 48 := rfl
   omega
  ·obtain ⟨l, x, hl, hx⟩ := ih (n / 10) (Nat.div_lt_self (by omega) (by decide)) h1
   exact ⟨digB n :: l, x, by rw [digD_pos h, hl]; rfl, hx⟩
theorem trim_pad (k n : Nat) (h : n < 10 ^ k) (h0 : n ≠ 0) : Lib.trimLeftB (padD k n).reverse 48 = (digD n).reverse := by
 obtain ⟨z, hz⟩ := padD_eq k n h
 obtain ⟨l, x, hl, hx⟩ := digD_last n h0
 rw [hz, List.reverse_append, List.reverse_replicate]
 unfold Lib.trimLeftB
 rw [List.dropWhile_append]
 have e : (List.replicate z (48 : UInt8)).dropWhile (· == 48) = [] := by
  induction z with
  | zero => rfl
  | succ z ih => rw [List.replicate_succ]; simp
 rw [e]
 simp only [List.isEmpty_nil, if_true]
 rw [hl, List.reverse_append]
 simp [hx]
theorem trim_pad_zero (k : Nat) : Lib.trimLeftB (padD k 0).reverse 48 = [] := by
 rw [padD_zero, List.reverse_replicate]
 unfold Lib.trimLeftB
 induction k with
 | zero => rfl
 | succ k ih => rw [List.replicate_succ]; simp
theorem padD_add (a b n : Nat) : padD (a + b) n = padD a n ++ padD b (n / 10 ^ a) := by
 induction a generalizing n with
 | zero => simp [padD]
 | succ a ih =>
  rw [Nat.add_right_comm]
  simp only [padD, ih, List.cons_append]
  rw [Nat.pow_succ, Nat.mul_comm (10 ^ a), ← Nat.div_div_eq_div_mul]
theorem padD_length (k n : Nat) : (padD k n).length = k := by
 induction k generalizing n with
 | zero => rfl
 | succ k ih => simp [padD, ih]
theorem padD_mod (k n : Nat) : padD k (n % 10 ^ k) = padD k n := by
 induction k generalizing n with
 | zero => rfl
 | succ k ih =>
  simp only [padD]
  have e1 : digB (n % 10 ^ (k + 1)) = digB n := by
   unfold digB
   rw [Nat.pow_succ, Nat.mul_comm, Nat.mod_mul_right_mod]
  have e2 : n % 10 ^ (k + 1) / 10 = n / 10 % 10 ^ k := by
   rw [Nat.pow_succ, Nat.mul_comm, Nat.mod_mul_right_div_self]
  rw [e1, e2, ih]
def groupN (n i : Nat) : Nat := n / 10 ^ (9 * i) % 1000000000
def qdl (n k m : Nat) : List UInt8 := ((padD (9 * k) n).drop (9 * m)).reverse
theorem groupsB_top (n k : Nat) : qdl n k k = [] := by unfold qdl; rw [List.drop_of_length_le (by rw [padD_length]; exact Nat.le_refl _)]; rfl
theorem groupsB_step (n k m : Nat) (h : m < k) : qdl n k m = qdl n k (m + 1) ++ (padD 9 (groupN n m)).reverse := by
 unfold qdl groupN
 obtain ⟨d, rfl⟩ : ∃ d, k = m + 1 + d := ⟨k - (m + 1), by omega⟩
 have e1 : padD (9 * (m + 1 + d)) n = padD (9 * m) n ++ (padD 9 (n / 10 ^ (9 * m)) ++ padD (9 * d) (n / 10 ^ (9 * (m + 1)))) := by
  rw [show 9 * (m + 1 + d) = 9 * m + (9 + 9 * d) from by omega, padD_add, padD_add, Nat.div_div_eq_div_mul, ← Nat.pow_add, show 9 * m + 9 = 9 * (m + 1) from by omega]
 have e2 : padD (9 * (m + 1 + d)) n = (padD (9 * m) n ++ padD 9 (n / 10 ^ (9 * m))) ++ padD (9 * d) (n / 10 ^ (9 * (m + 1))) := by rw [e1, List.append_assoc]
 rw [show padD 9 (n / 10 ^ (9 * m) % 1000000000) = padD 9 (n / 10 ^ (9 * m)) from padD_mod 9 _]
 have d1 : (padD (9 * (m + 1 + d)) n).drop (9 * m) = padD 9 (n / 10 ^ (9 * m)) ++ padD (9 * d) (n / 10 ^ (9 * (m + 1))) := by
  rw [e1]; exact List.drop_left' (padD_length _ _)
 have d2 : (padD (9 * (m + 1 + d)) n).drop (9 * (m + 1)) = padD (9 * d) (n / 10 ^ (9 * (m + 1))) := by
  rw [e2]; exact List.drop_left' (by rw [List.length_append, padD_length, padD_length]; omega)
 rw [d1, d2, List.reverse_append]
theorem groups_few {n k L : Nat} (h : n / 10 ^ (9 * k) ≠ 0) (hn : n < 2 ^ L) : k < L := by
 have h1 : 10 ^ (9 * k) ≤ n := by
  rcases Nat.lt_or_ge n (10 ^ (9 * k)) with h2 | h2
  ·exact absurd (Nat.div_eq_of_lt h2) h
  ·exact h2
 have h3 : 2 ^ k ≤ 10 ^ (9 * k) := Nat.le_trans (Nat.pow_le_pow_left (show 2 ≤ 10 by decide) k) (Nat.pow_le_pow_right (by decide) (by omega))
 rcases Nat.lt_or_ge k L with h4 | h4
 ·exact h4
 ·have : 2 ^ L ≤ 2 ^ k := Nat.pow_le_pow_right (by decide) h4
  omega
theorem group_rest (n k : Nat) : n / 10 ^ (9 * k) / 1000000000 = n / 10 ^ (9 * (k + 1)) := by
 rw [Nat.div_div_eq_div_mul, show (1000000000 : Nat) = 10 ^ 9 from rfl, ← Nat.pow_add]; congr 2

def OwnSt (w : World) (B : Nat) (v : Value) (xs : List ByteArray) : Prop := w.ownsRow B 9 1 v xs.length (xs.map Value.string)
theorem OwnSt.nil (w : World) (B : Nat) : OwnSt w B (.slice none 0 0) [] := World.ownsRow_nil _ _ _ _
theorem OwnSt.below {w w' : World} {B : Nat} {v : Value} {xs : List ByteArray} (h : OwnSt w B v xs) (hb : Below w.heap.size w w') : OwnSt w' B v xs := by
 refine World.ownsRow.kept h (row := none) ⟨hb.os, hb.tape, hb.output, hb.size, fun k hk _ => hb.block k hk⟩ ?_
 cases hv : v.ownBlock <;> simp
theorem Tryz.textsTy : qcl Tryz.prog 101 9 (.string ⟨#[]⟩) 1 16 := .mk' Tryz.underlying101 (by kernel_rfl)
section
variable {w : World} {ops : Array Oper} {rest : List Oper} {o : Oper} {a : Act} {Q : Exit → Act → World → Prop}
theorem wpList_appendSt (hg : o.guard = none) (s x : Operand) (hop : o.op = Op.call { callee := Callee.builtin Builtin.append, args := #[s, x], argTypes := #[101, 101] })
  (B : Nat) (v : Value) (xs : List ByteArray) (tx : ByteArray) (hs : a.eval s = v) (hx : a.eval x = .slice (some ⟨w.heap.size, 0, none⟩) 1 1)
  (hown : OwnSt w B v xs) (hlen : xs.length ≤ 1099511627776) (hB : B ≤ w.heap.size)
  (hK : ∀ v' w', OwnSt w' B v' (xs ++ [tx]) → (∀ w0, Below B w0 w → Below B w0 w') → w.heap.size ≤ w'.heap.size → w.grownBy w' v.ownBlock →
   wpList Tryz.prog ops Q rest (a.put o.dst v') w') :
  wpList Tryz.prog ops Q (o :: rest) a (w.alloc (.cells #[.string tx] 9)) := by
 obtain ⟨i0, hi, hz0, hz1, hz2⟩ := Tryz.textsTy.info
 refine wpList_append_own _ hg s x 101 hop B 9 i0 _ 1 16 Tryz.textsTy.under hi hz0 hz1 hz2 rfl (by decide) v xs.length (xs.map Value.string) hs (World.ownsRow.alloc hown _) ⟨w.heap.size, 0, none⟩ 1 1 [.string tx] hx rfl ?_ ?_ (by unfold maxLen; omega) (by omega) (by simp; omega) ?_
 ·intro j u hu
  have hj : j < 1 := (List.getElem?_eq_some_iff.1 hu).1
  obtain rfl : j = 0 := by omega
  rw [show (⟨w.heap.size, 0, none⟩ : Addr).add 0 = ⟨w.heap.size, 0, none⟩ from rfl, cell_of_row (w.alloc (.cells #[.string tx] 9)) w.heap.size 0 #[.string tx] 9 (0, 0) (heap_alloc_new w _)]
  rw [← hu]; rfl
 ·intro u hu
  simp only [List.mem_cons, List.not_mem_nil, or_false] at hu
  subst hu; rfl
 ·intro v' w' h1 h2 _
  refine hK v' w' ?_ (fun w0 h0 => ?_) ?_ (grown_trans (World.grownBy_alloc w _ _) h2)
  ·unfold OwnSt; rw [List.map_append, List.length_append]; exact h1
  ·have hb : Below B w0 (w.alloc (.cells #[.string tx] 9)) := h0.alloc hB _
   refine hb.grown h2 (by simp; omega) ?_
   intro k hk
   exact (World.ownsRow.lt hown k hk).1
  ·have := h2.size; simp at this; omega
end
theorem OwnSt.read {w : World} {B : Nat} {v : Value} {xs : List ByteArray} (h : OwnSt w B v xs) (hn : 0 < xs.length) :
  ∃ g c, v = .slice (some ⟨g, 0, none⟩) xs.length c ∧ g < w.heap.size ∧ xs.length ≤ c ∧ c ≤ 9223372036854775807 ∧ ∀ j (hj : j < xs.length), w.cell? ⟨g, j, none⟩ = some (.string xs[j]) := by
 have hlt := World.ownsRow.lt h
 rcases h.2 with ⟨rfl, h0⟩ | ⟨g, cap, cur, rfl, hb, hh, hcap, hm, hs, ht⟩
 ·omega
 ·refine ⟨g, cap, rfl, (hlt g rfl).2, hcap, by unfold maxLen at hm; omega, ?_⟩
  intro j hj
  have := World.ownsRow.cells h (g := g) rfl j (.string xs[j]) (by simp [hj])
  have e2 : (⟨g, 0, none⟩ : Addr).add j = ⟨g, 0 + j, none⟩ := by unfold Addr.add; split <;> simp_all
  rw [e2, Nat.zero_add] at this; exact this

theorem OwnSt.shape {w : World} {B : Nat} {v : Value} {xs : List ByteArray} (h : OwnSt w B v xs) :
  ∃ go c, v = .slice go xs.length c ∧ xs.length ≤ c ∧ c ≤ 9223372036854775807 ∧ ∀ j (hj : j < xs.length), ∃ g, go = some ⟨g, 0, none⟩ ∧ g < w.heap.size ∧ w.cell? ⟨g, j, none⟩ = some (.string xs[j]) := by
 by_cases h0 : 0 < xs.length
 ·obtain ⟨g, c, rfl, h1, h2, h3, h4⟩ := h.read h0
  exact ⟨_, c, rfl, h2, h3, fun j hj => ⟨g, rfl, h1, h4 j hj⟩⟩
 ·rcases h.2 with ⟨rfl, h1⟩ | ⟨g, cap, cur, rfl, hb, hh, hcap, hm, hs, ht⟩
  ·exact ⟨none, 0, by rw [h1], by omega, by omega, fun j hj => by omega⟩
  ·exact ⟨_, cap, rfl, hcap, by unfold maxLen at hm; omega, fun j hj => by omega⟩

theorem text_any (va : Value) (a : List Nat) (w : World) (ha : Num w va a) (hla : a.length ≤ 800000) :
  Calls Tryz.prog 37 #[va] w (RetV w (.string (decB (val a)))) := by
 have hl1 := qbh ha.lt
 obtain ⟨N, hN⟩ : ∃ N, N = val a := ⟨_, rfl⟩
 rw [← hN] at hl1 ⊢
 have HN := qHd hN; have HUA := qHd ha.lt; clear hN
 go_enter Tryz.func37, Tryz.ntmps37
 go_wp2_with fail
 (with_reducible refine (qbs _ _ _ ha (by omega)).mono ?_); rintro e w1 ⟨v1, l1, rfl, hb1, hn1, hl1'⟩
 rw [hl1', ← HN.out] at hn1
 have HN1 := qHd hn1
 clear hn1 hl1' ha
 go_wp2_with fail
 go_loopw [0, 3] (fun xv gv wr => ∃ (k : Nat), Num wr xv (wd (N / 10 ^ (9 * k))) ∧ OwnSt wr w.heap.size gv ((List.range k).map fun i => nineB (groupN N i)) ∧ Below w.heap.size w wr ∧ k ≤ 32 * a.length) (fun xv _ wr => numOf wr xv)
 case atStart => exact ⟨0, by simpa using HN1.out, OwnSt.nil _ _, hb1, Nat.zero_le _⟩
 case round =>
  obtain ⟨k, hnx, hgs, hBr, hkl⟩ := hrel
  by_cases hx0 : N / 10 ^ (9 * k) = 0
  ·obtain ⟨wo, rfl⟩ : ∃ wo : World, wo = wr := ⟨_, rfl⟩
   have hNk : N < 10 ^ (9 * k) := by
    rcases Nat.lt_or_ge N (10 ^ (9 * k)) with h | h
    ·exact h
    ·have := Nat.div_pos h (Nat.pow_pos (by decide)); omega
   rw [hx0, qbl] at hnx
   obtain ⟨xo, cx, rfl, _, _, _⟩ := hnx.shape
   rw [List.length_nil]
   have HNK := qHd hNk
   have hlen : ((List.range k).map fun i => nineB (groupN N i)).length = k := by rw [List.length_map, List.length_range]
   have HGS := qHd hgs; have HLEN := qHd hlen
   have hbld := Lib.fresh_isBuilder 108 5 wo
   have HBL := qHd hbld
   obtain ⟨go, cg, rfl, hgc, hgc2, hgcell⟩ := HGS.out.shape
   rw [HLEN.out] at hgc ⊢
   have hgcell2 : ∀ j, j < k → ∃ g, go = some ⟨g, 0, none⟩ ∧ g < wo.heap.size ∧ wo.cell? ⟨g, j, none⟩ = some (.string (nineB (groupN N j))) := fun j hj => by
    obtain ⟨g, h1, h2, h3⟩ := hgcell j (by rw [HLEN.out]; exact hj)
    refine ⟨g, h1, h2, ?_⟩
    rw [h3]; simp
   have HGC := qHd hgcell2
   have hsz := hBr.size
   clear hnx hgs hNk hx0 hlen hbld hgcell hgcell2
   go_wp2_with fail
   go_loopw [7] (fun iv wx => ∃ m : Nat, m ≤ k ∧ iv = .int .i64 ((m : Int) - 1) ∧ Lib.IsBuilder 108 5 wo.heap.size wo.heap.size (Lib.byteCells (qdl N k m)) wx ∧ Below wo.heap.size wo wx) (fun iv _ => (intOf iv + 1).toNat)
   case atStart => exact ⟨k, Nat.le_refl _, rfl, by rw [groupsB_top]; exact HBL.out, (Below.refl _ _).alloc (Nat.le_refl _) _⟩
   case round =>
    obtain ⟨m, hm, rfl, hib, hbx⟩ := hrel
    have hszx := hbx.size
    by_cases hm0 : m = 0
    ·subst hm0
     have hst := Tryz.Builder_String_any wo.heap.size wo.heap.size (qdl N k 0) wr hib hszx
     have hg0 : qdl N k 0 = (padD (9 * k) N).reverse := by unfold qdl; rfl
     rw [hg0] at hst
     have HST := qHd hst
     clear hst hg0 hib
     by_cases hN0 : N = 0
     ·have htl := fun wx => Tryz.strings_TrimLeft_one ⟨(padD (9 * k) N).reverse.toArray⟩ 48 (by decide) wx
      have e0 : Lib.trimLeftB (padD (9 * k) N).reverse 48 = [] := by rw [hN0]; exact trim_pad_zero _
      simp only [e0] at htl
      have HTL := qHd htl
      have hd : decB N = ⟨#[48]⟩ := by unfold decB; rw [if_pos hN0]
      have HD := qHd hd
      clear htl e0 hd hN0
      go_wp2_with fail
      (with_reducible refine HST.out.mono ?_); rintro e w3 ⟨rfl, hb3⟩
      go_wp2_with fail
      (with_reducible refine (HTL.out _).mono ?_); rintro e w4 ⟨rfl, rfl⟩
      go_wp2_with fail
      go_ret
      exact ⟨by rw [HD.out]; rfl, hBr.trans ((hbx.trans hb3).mono hsz)⟩
     ·have htl := fun wx => Tryz.strings_TrimLeft_one ⟨(padD (9 * k) N).reverse.toArray⟩ 48 (by decide) wx
      have e0 : Lib.trimLeftB (padD (9 * k) N).reverse 48 = (digD N).reverse := trim_pad _ _ HNK.out hN0
      simp only [e0] at htl
      have HTL := qHd htl
      have hd : decB N = ⟨((digD N).reverse).toArray⟩ := by unfold decB; rw [if_neg hN0]
      have HD := qHd hd
      obtain ⟨l, x, hl, _⟩ := digD_last N hN0
      have hne : (digD N).reverse.isEmpty = false := by rw [hl]; simp
      clear htl e0 hd hN0 hl
      go_wp2_with fail
      (with_reducible refine HST.out.mono ?_); rintro e w3 ⟨rfl, hb3⟩
      go_wp2_with fail
      (with_reducible refine (HTL.out _).mono ?_); rintro e w4 ⟨rfl, rfl⟩
      go_wp2_with fail
      go_ret
      exact ⟨by rw [HD.out]; rfl, hBr.trans ((hbx.trans hb3).mono hsz)⟩
    ·obtain ⟨j, rfl⟩ : ∃ j, m = j + 1 := ⟨m - 1, by omega⟩
     have hj1 : ((j + 1 : Nat) : Int) - 1 = (j : Int) := by omega
     rw [hj1]
     clear hj1
     obtain ⟨g, rfl, hgl, hgcj⟩ := HGC.out j (by omega)
     have hcx : wr.cell? ⟨g, j, none⟩ = some (.string (nineB (groupN N j))) := by rw [hbx.cell (p := ⟨g, j, none⟩) hgl]; exact hgcj
     have hlen1 : (qdl N k (j + 1)).length = 9 * k - 9 * (j + 1) := by unfold qdl; rw [List.length_reverse, List.length_drop, padD_length]
     have hws := writeString_any wo.heap.size wo.heap.size _ (nineB (groupN N j)) wr hib (by rw [Lib.byteCells_length, hlen1]; have : (nineB (groupN N j)).size = 9 := rfl; omega) hszx
     have e1 : Lib.byteCells (qdl N k (j + 1)) ++ Lib.strCells (nineB (groupN N j)) = Lib.byteCells (qdl N k j) := by
      rw [groupsB_step N k j (by omega), Lib.byteCells_append]; rfl
     rw [e1] at hws
     have HWS := qHd hws
     clear hws e1 hlen1 hib hgcj
     go_wp2_with fail
     (with_reducible refine HWS.out.mono ?_); rintro e w3 ⟨rfl, hbl, hb3⟩
     have HBL3 : Hid (Lib.IsBuilder 108 5 wo.heap.size wo.heap.size (Lib.byteCells (qdl N k j)) w3) := qHd (.inr hbl)
     clear hbl
     go_wp2_with fail
     go_roundw
     case rel => exact ⟨j, by omega, rfl, HBL3.out, hbx.trans hb3⟩
     case measure => simp [intOf]
  ·have hsm := small_own _ _ 1000000000 wr hnx (Nat.le_trans (qas (Nat.div_le_self _ _)) (by omega)) (by decide) (by decide)
   rw [qao, group_rest, show ((1000000000 : Nat) : Int) = 1000000000 from rfl] at hsm
   have hpos := wd_length_pos hx0
   have hm0 := numOf_eq hnx
   rw [qao] at hm0
   have hkl2 : k < 32 * a.length := groups_few hx0 (by rw [HN.out, ← pow32]; exact qct HUA.out)
   have hdec : N / 10 ^ (9 * (k + 1)) < N / 10 ^ (9 * k) := by rw [← group_rest]; exact Nat.div_lt_self (by omega) (by decide)
   obtain ⟨r, hr⟩ : ∃ r, r = N / 10 ^ (9 * k) % 1000000000 := ⟨_, rfl⟩
   have hrl : r < 1000000000 := by rw [hr]; exact Nat.mod_lt _ (by decide)
   rw [← hr] at hsm
   obtain ⟨xo, cx, rfl, _, _, _⟩ := hnx.shape
   have HSM := qHd hsm; have HM0 := qHd hm0; have HDEC := qHd hdec; have HR := qHd hr; have HGS := qHd hgs; have HGW := qHd hgs
   clear hsm hm0 hdec hr hnx hx0 hgs
   go_wp2_with fail
   (with_reducible refine HSM.out.mono ?_); rintro e w2 ⟨vq, rfl, hb2, hnq⟩
   have hB2 := hBr.trans (hb2.mono hBr.size)
   have HNQ := qHd hnq
   have hni := nine_any r w2 (by omega)
   have HNI := qHd hni; have HGS := qHd (HGS.out.below hb2)
   clear hnq hni hb2
   go_wp2_with fail
   (with_reducible refine HNI.out.mono ?_); rintro e w3 ⟨rfl, hb3⟩
   have hB3 := hB2.trans (hb3.mono hB2.size)
   have HGS := qHd (HGS.out.below hb3); have HNQ := qHd (HNQ.out.below hb3)
   have hsz3 := hB3.size
   clear hb3 hB2
   go_wp2_with (at_builtin; refine wpList_appendSt rfl (.tmp 19) (.tmp 22) rfl w.heap.size _ _ (nineB r) rfl rfl HGS.out ?c1 ?c2 ?_)
   case c1 => simp; omega
   case c2 => exact hsz3
   intro v' w4 h1 h2 h3 h5
   have h4 := h2 w hB3
   have hnq4 := (HNQ.out.keptFrom h5 (fun g hg => ((HGW.out).lt g hg).2)).num
   have HNQ4 := qHd hnq4
   have HH1 := qHd h1
   clear hnq4 h1 h2 h5
   go_wp2_with fail
   go_roundw
   case rel => exact ⟨k + 1, HNQ4.out, by rw [List.range_succ, List.map_append]; show OwnSt _ _ _ (_ ++ [nineB (groupN N k)]); unfold groupN; rw [← HR.out]; exact HH1.out, h4, hkl2⟩
   case measure =>
    have e1 := numOf_eq HNQ4.out
    rw [qao] at e1
    show numOf _ _ < numOf _ _
    rw [HM0.out]
    exact Nat.lt_of_le_of_lt (Nat.le_of_eq e1) HDEC.out
end Go.Proofs.YtblekfkmianmeaaGreatDoor
namespace Go.Proofs.YtblekfkmianmeaaGreatDoor
open Go.RowKit
theorem top_bit (y : Nat) (h : y < 4294967296) : bits .and .u32 (y : Int) 2147483648 = (if y < 2147483648 then 0 else 2147483648 : Nat) := by
 rw [show (2147483648 : Int) = ((2147483648 : Nat) : Int) from rfl, (bits_nat .u32 32 (by decide) wraps_u32 y 2147483648 h (by decide)).1]
 congr 1
 rw [show (2147483648 : Nat) = 2 ^ 31 from rfl]
 apply Nat.eq_of_testBit_eq
 intro i
 rw [Nat.testBit_and, Nat.testBit_two_pow]
 by_cases h1 : y < 2 ^ 31
 ·rw [if_pos h1, Nat.zero_testBit]
  by_cases hi : 31 = i
  ·subst hi; rw [Nat.testBit_lt_two_pow h1]; rfl
  ·rw [decide_eq_false hi, Bool.and_false]
 ·rw [if_neg h1, Nat.testBit_two_pow]
  by_cases hi : 31 = i
  ·subst hi
   have e : y.testBit 31 = true := by
    rw [Nat.testBit_eq_decide_div_mod_eq]
    simp only [decide_eq_true_eq]
    omega
   rw [e]; rfl
  ·rw [decide_eq_false hi, Bool.and_false]
theorem shl32 (x s : Nat) (h : x * 2 ^ s < 4294967296) : IntKind.u32.wrap ((x : Int) * 2 ^ s) = ((x * 2 ^ s : Nat) : Int) := by
 have e : (x : Int) * 2 ^ s = ((x * 2 ^ s : Nat) : Int) := by simp
 rw [e]; exact wraps_u32 _ (by omega) (by omega)
theorem norm_len {Bv x s n : Nat} (hn : n = (wd Bv).length) (h0 : Bv ≠ 0) (hx : x = gd (wd Bv) (n - 1)) (h1 : x * 2 ^ s < 4294967296) (h2 : 2147483648 ≤ x * 2 ^ s) :
  Bv * 2 ^ s < 4294967296 ^ n ∧ 2147483648 * 4294967296 ^ (n - 1) ≤ Bv * 2 ^ s ∧ (wd (Bv * 2 ^ s)).length = n ∧ 0 < n := by
 have hpos : 0 < n := by rw [hn]; exact (wd_top h0).1
 have e := qay (wd Bv) (n - 1)
 rw [show n - 1 + 1 = n from by omega, List.take_of_length_le (by omega), qao, ← hx] at e
 have hlo := val_take_lt (qcp Bv) (n - 1)
 have hp : 4294967296 ^ n = 4294967296 ^ (n - 1) * 4294967296 := by rw [← Nat.pow_succ]; congr 1; omega
 have h3 : 2147483648 * 4294967296 ^ (n - 1) ≤ Bv * 2 ^ s := by
  rw [e, Nat.add_mul, Nat.mul_assoc, Nat.mul_comm 2147483648]
  exact Nat.le_trans (Nat.mul_le_mul_left _ h2) (Nat.le_add_left _ _)
 have h4 : Bv * 2 ^ s < 4294967296 ^ n := by
  rw [e]
  have h5 : val ((wd Bv).take (n - 1)) + 4294967296 ^ (n - 1) * x < 4294967296 ^ (n - 1) * (x + 1) := by rw [Nat.mul_add]; omega
  have h6 := Nat.mul_lt_mul_of_pos_right h5 (Nat.two_pow_pos s)
  refine Nat.lt_of_lt_of_le h6 ?_
  rw [Nat.mul_assoc, hp]
  refine Nat.mul_le_mul_left _ ?_
  have h7 : 2 ^ s ∣ 4294967296 := by
   have hs : s ≤ 32 := by
    rcases Nat.lt_or_ge 32 s with g | g
    ·exfalso
     have h8 : 2 ^ 33 ≤ 2 ^ s := Nat.pow_le_pow_right (by decide) g
     have h9 : 0 < x := by
      rcases Nat.eq_zero_or_pos x with q | q
      ·rw [q] at h2; omega
      ·exact q
     have h10 := Nat.mul_le_mul h9 h8
     omega
    ·exact g
   exact ⟨2 ^ (32 - s), by rw [← Nat.pow_add, show s + (32 - s) = 32 from by omega]⟩
  obtain ⟨c, hc⟩ := h7
  rw [hc, Nat.mul_comm]
  refine Nat.mul_le_mul_left _ ?_
  rw [hc, Nat.mul_comm] at h1
  have := Nat.lt_of_mul_lt_mul_left h1
  omega
 refine ⟨h4, h3, ?_, hpos⟩
 apply Nat.le_antisymm (qbr h4)
 rcases Nat.lt_or_ge (wd (Bv * 2 ^ s)).length n with g | g
 ·exfalso
  have h5 := qct (qcp (Bv * 2 ^ s))
  rw [qao] at h5
  have h6 : 4294967296 ^ (wd (Bv * 2 ^ s)).length ≤ 4294967296 ^ (n - 1) := Nat.pow_le_pow_right (by decide) (by omega)
  have h7 : 0 < 4294967296 ^ (n - 1) := Nat.pow_pos (by decide)
  omega
 ·exact g
theorem guess_ge {R V P H top : Nat} (hP : 0 < P) (hH : H = R / P) (ht : top = V / P) (h0 : 0 < top) (hlt : R < 4294967296 * V) : R / V ≤ min (H / top) 4294967295 := by
 have hV : 0 < V := by
  rcases Nat.eq_zero_or_pos V with h | h
  ·rw [h, Nat.zero_div] at ht; omega
  ·exact h
 obtain ⟨q, hq⟩ : ∃ q, q = R / V := ⟨_, rfl⟩
 have h1 : q * V ≤ R := by rw [hq]; exact Nat.div_mul_le_self _ _
 have h2 : q < 4294967296 := by rw [hq, Nat.div_lt_iff_lt_mul hV]; exact hlt
 rw [← hq]
 refine Nat.le_min.2 ⟨?_, by omega⟩
 rw [Nat.le_div_iff_mul_le h0, hH, Nat.le_div_iff_mul_le hP]
 refine Nat.le_trans ?_ h1
 rw [Nat.mul_assoc]
 refine Nat.mul_le_mul_left _ ?_
 rw [ht]; exact Nat.div_mul_le_self _ _
theorem rdiv_step {Y V Q r x R : Nat} (h : Y = Q * V + r) (hR : R = x + 4294967296 * r) : x + 4294967296 * Y = (R / V + 4294967296 * Q) * V + R % V := by
 have e := Nat.div_add_mod R V
 rw [h, Nat.add_mul, Nat.mul_add, Nat.mul_assoc 4294967296 Q V, Nat.mul_comm (R / V) V]
 omega
theorem head_two {R n : Nat} (h : R < 4294967296 ^ (n + 1)) (hn : 0 < n) : gd (wd R) n * 4294967296 + gd (wd R) (n - 1) = R / 4294967296 ^ (n - 1) := by
 have e1 := val_digit (qcp R) (n - 1)
 have e2 := val_digit (qcp R) n
 rw [qao, show n - 1 + 1 = n from by omega] at e1
 rw [qao] at e2
 have e3 : R / 4294967296 ^ (n + 1) = 0 := Nat.div_eq_of_lt h
 rw [e3] at e2
 omega
theorem top_one {V n : Nat} (h : V < 4294967296 ^ n) (hn : 0 < n) : gd (wd V) (n - 1) = V / 4294967296 ^ (n - 1) := by
 have e1 := val_digit (qcp V) (n - 1)
 rw [qao, show n - 1 + 1 = n from by omega, Nat.div_eq_of_lt h] at e1
 omega
theorem first_rest {AS V n na : Nat} (hA : AS < 4294967296 ^ na) (hn : 0 < n) (hlo : 2147483648 * 4294967296 ^ (n - 1) ≤ V) : AS / 4294967296 ^ (na + 1 - n) < V := by
 refine Nat.lt_of_lt_of_le ?_ hlo
 rw [Nat.div_lt_iff_lt_mul (Nat.pow_pos (by decide)), Nat.mul_assoc, ← Nat.pow_add]
 refine Nat.lt_of_lt_of_le hA (Nat.le_trans (Nat.pow_le_pow_right (by decide) (show na ≤ n - 1 + (na + 1 - n) by omega)) ?_)
 exact Nat.le_mul_of_pos_left _ (by decide)
end Go.Proofs.YtblekfkmianmeaaGreatDoor
namespace Go.Proofs.YtblekfkmianmeaaGreatDoor
open Go.RowKit Go.ChangeShapes Go.WideShapes
def cutS (ao : Option Addr) (k n c : Nat) : Value := .slice (if c = k then ao else ao.map (·.add k)) (n - k) (c - k)
theorem run_cutS (wx : World) (ao : Option Addr) (k n c : Nat) (hk : k ≤ n) :
  (Instr.slice 35 (.slice ao n c) (some (.int .i64 (k : Int))) none none).run Tryz.prog wx = .ok (cutS ao k n c) wx := by
 have h := run_slice_l (P := Tryz.prog) (w := wx) 35 ao n c (by kernel_rfl) .i64 (k : Int) (by omega) (by omega)
 have e : ∀ w : World, (Go.sizeOf (Tryz.prog.elem 35)).run Tryz.prog w = .ok 1 w := fun w => by kernel_rfl
 rw [h, e]
 simp only [Result.andThen, sliced, Int.toNat_natCast, Nat.mul_one]
 rfl
theorem Num.cut {w : World} {ao : Option Addr} {n c : Nat} {l : List Nat} (h : Num w (.slice ao n c) l) (k : Nat) (hk : k ≤ n) : Num w (cutS ao k n c) (l.drop k) := by
 obtain ⟨ao', c', e, h1, h2, h3, h4, h5⟩ := h
 cases e
 have hl : (l.drop k).length = l.length - k := by rw [List.length_drop]
 unfold cutS
 refine ⟨_, _, by rw [hl], by omega, by omega, ?_, ?_, h5.drop k⟩
 ·intro hn
  split at hn
  ·have := h3 hn; omega
  ·cases ao with
   | none => have := h3 rfl; omega
   | some x => simp at hn
 ·intro b off s hs
  split at hs
  ·rename_i hck
   refine ⟨fun h0 => ?_, fun j hj => ?_⟩
   ·rw [hl] at h0; omega
   ·rw [hl] at hj; omega
  ·cases ao with
   | none => simp at hs
   | some x =>
    obtain ⟨b', off', s'⟩ := x
    obtain ⟨k1, k2⟩ := h4 _ _ _ rfl
    by_cases hn0 : 0 < l.length
    ·obtain ⟨k3, rfl⟩ := k1 hn0
     have e2 : (⟨b', off', none⟩ : Addr).add k = ⟨b', off' + k, none⟩ := by unfold Addr.add; split <;> simp_all
     simp only [Option.map_some, e2, Option.some.injEq, Addr.mk.injEq] at hs
     obtain ⟨rfl, rfl, rfl⟩ := hs
     refine ⟨fun _ => ⟨k3, rfl⟩, fun j hj => ?_⟩
     rw [gd_drop, Nat.add_assoc]
     exact k2 (k + j) (by rw [hl] at hj; omega)
    ·exact ⟨fun h0 => by rw [hl] at h0; omega, fun j hj => by rw [hl] at hj; omega⟩

theorem rdiv_any (va vb : Value) (a b : List Nat) (w : World) (ha : Num w va a) (hb : Num w vb b) (hla : a.length ≤ 400000) (hlb : b.length ≤ 400000) (h0 : val b ≠ 0) :
  Calls Tryz.prog 87 #[va, vb] w (RetDiv w (val a / val b) (val a % val b) (.int .i64 0)) := by
 have hl2 := qbh hb.lt
 obtain ⟨hnpos, hx0, _⟩ := wd_top h0
 obtain ⟨A, hA⟩ : ∃ A, A = val a := ⟨_, rfl⟩
 obtain ⟨Bv, hBv⟩ : ∃ Bv, Bv = val b := ⟨_, rfl⟩
 rw [← hBv] at h0 hl2 hnpos hx0
 rw [← hA, ← hBv]
 obtain ⟨lb, hlb1⟩ : ∃ lb, lb = wd Bv := ⟨_, rfl⟩
 rw [← hlb1] at hl2 hnpos hx0
 obtain ⟨n, hn⟩ : ∃ n, n = lb.length := ⟨_, rfl⟩
 rw [← hn] at hl2 hnpos hx0
 have hub : U32 lb := by rw [hlb1]; exact qcp _
 have hxl := hub (n - 1)
 obtain ⟨x, hx⟩ : ∃ x, x = gd lb (n - 1) := ⟨_, rfl⟩
 rw [← hx] at hx0 hxl
 have hn0 : ((n : Int) == 0) = false := by simp; omega
 have HA := qHd hA; have HBV := qHd hBv; have HLB := qHd hlb1; have HN := qHd hn; have HX := qHd hx; have H0 := qHd h0; have HNA := qHd ha
 clear hA hBv hlb1 hn hx h0 hub ha
 obtain ⟨ao, ca, rfl, hca, hca2, _⟩ := HNA.out.shape
 go_enter Tryz.func87, Tryz.ntmps87
 go_wp2_with fail
 (with_reducible refine (rtrim_any _ _ _ hb (by omega)).mono ?_); rintro e w1 ⟨v1, l1, rfl, hb1, hn1, hl1'⟩
 rw [hl1', ← HBV.out, ← HLB.out] at hn1
 obtain ⟨bo, cb, rfl, hcb, hcb2, _⟩ := hn1.shape
 rw [← HN.out] at hn1 hcb ⊢
 obtain ⟨bb, ob, rfl, _, hcell⟩ := hn1.at hnpos
 have hcx := hcell (n - 1) (by omega)
 rw [← HX.out] at hcx
 have HN1 := qHd hn1; have HB1 := qHd hb1
 clear hn1 hl1' hcell hb hb1
 go_wp2_with fail
 go_loop [8] (fun sv => ∃ s : Nat, sv = .int .i64 s ∧ s ≤ 31 ∧ Hid (x * 2 ^ s < 4294967296)) (fun sv => 32 - (intOf sv).toNat)
 case atStart => exact ⟨0, rfl, by omega, qHd (by rw [Nat.pow_zero, Nat.mul_one]; exact hxl)⟩
 case round =>
  obtain ⟨s, rfl, hs31, hxs⟩ := hrel
  have hsw := shl32 x s hxs.out
  have htb := top_bit (x * 2 ^ s) hxs.out
  obtain ⟨y, hy⟩ : ∃ y, y = x * 2 ^ s := ⟨_, rfl⟩
  rw [← hy] at hsw htb
  have hyl : y < 4294967296 := by rw [hy]; exact hxs.out
  have HY := qHd hy; clear hy
  by_cases hyt : y < 2147483648
  ·rw [if_pos hyt] at htb
   have hs30 : s < 31 := by
    rcases Nat.lt_or_ge s 31 with h | h
    ·exact h
    ·exfalso
     have h1 : 2 ^ 31 ≤ 2 ^ s := Nat.pow_le_pow_right (by decide) h
     have h2 := Nat.mul_le_mul (show 1 ≤ x by omega) h1
     rw [← HY.out] at h2
     omega
   have hnx : x * 2 ^ (s + 1) < 4294967296 := by rw [Nat.pow_succ, ← Nat.mul_assoc, ← HY.out]; omega
   have HNX := qHd hnx; clear hnx
   go_wp2_with fail
   go_round
   case rel => exact ⟨s + 1, by go_num, by omega, HNX⟩
   case measure => simp [intOf]; omega
  ·rw [if_neg hyt] at htb
   obtain ⟨hVB, hVlo, hVlen, _⟩ := norm_len (Bv := Bv) (x := x) (s := s) (n := n) (by rw [HN.out, HLB.out]) H0.out (by rw [HX.out, HLB.out]) hxs.out (by rw [← HY.out]; omega)
   obtain ⟨V, hV⟩ : ∃ V, V = Bv * 2 ^ s := ⟨_, rfl⟩
   rw [← hV] at hVB hVlo hVlen
   have hup1 := rup_any _ a s w1 (HNA.out.below HB1.out) (by omega) (by omega)
   rw [← HA.out] at hup1
   have HUP1 := qHd hup1; have HV := qHd hV; have HVB := qHd hVB; have HVLO := qHd hVlo; have HVLEN := qHd hVlen
   clear hup1 hV hVB hVlo hVlen
   go_wp2_with fail
   (with_reducible refine HUP1.out.mono ?_); rintro e w2 ⟨v2, l2, rfl, hb2, hn2, hl2'⟩
   have hup2 := rup_any _ lb s w2 (HN1.out.below hb2) (by rw [← HN.out]; omega) (by omega)
   rw [HLB.out, qao, ← HV.out] at hup2
   have HUP2 := qHd hup2; have HB2 := qHd (HB1.out.trans (hb2.mono HB1.out.size)); have HN2 := qHd hn2; have HL2 := qHd hl2'
   clear hup2 hb2 hn2 hl2'
   go_wp2_with fail
   (with_reducible refine HUP2.out.mono ?_); rintro e w3 ⟨v3, l3, rfl, hb3, hn3, hl3⟩
   have HB3 := qHd (HB2.out.trans (hb3.mono HB2.out.size))
   rw [hl3] at hn3
   have hn2 := HN2.out.below hb3
   rw [HL2.out] at hn2
   have hAl := Nat.le_trans (qas (show A ≤ A * 2 ^ s from Nat.le_mul_of_pos_right _ (Nat.two_pow_pos s))) (Nat.le_refl _)
   obtain ⟨AS, hAS⟩ : ∃ AS, AS = A * 2 ^ s := ⟨_, rfl⟩
   rw [← hAS] at hn2
   have hASl : (wd AS).length ≤ a.length + 1 := by
    have h1 := qbk A (2 ^ s)
    have h2 : (wd (2 ^ s)).length ≤ 1 := qbr (by rw [Nat.pow_one]; exact Nat.lt_of_le_of_lt (Nat.pow_le_pow_right (by decide) hs31) (by decide))
    have h3 : (wd A).length ≤ a.length := by rw [HA.out]; exact qbh HNA.out.lt
    rw [hAS]; omega
   have hASv := qct (qcp AS)
   rw [qao] at hASv
   obtain ⟨ao2, ca2, rfl, hca2a, hca2b, _⟩ := hn2.shape
   obtain ⟨bo3, cb3, rfl, hcb3a, hcb3b, _⟩ := hn3.shape
   rw [HVLEN.out] at hn3 hcb3a ⊢
   obtain ⟨na, hna⟩ : ∃ na, na = (wd AS).length := ⟨_, rfl⟩
   rw [← hna] at hn2 hca2a hASl hASv ⊢
   obtain ⟨k0, hk0⟩ : ∃ k0, k0 = na + 1 - n := ⟨_, rfl⟩
   have hk0n : k0 ≤ na := by omega
   obtain ⟨d, hd⟩ : ∃ d : Int, d = (na : Int) - (n : Int) := ⟨_, rfl⟩
   obtain ⟨d1, hd1⟩ : ∃ d1 : Int, d1 = d + 1 := ⟨_, rfl⟩
   have e1 : IntKind.i64.wrap ((na : Int) - (n : Int)) = d := by rw [IntWalk.i64_in _ (by omega)]; omega
   have e2 : IntKind.i64.wrap (d + 1) = d1 := by rw [IntWalk.i64_in _ (by omega)]; omega
   have e3 : max (0 : Int) d1 = (k0 : Int) := by omega
   have hdk : d = (k0 : Int) - 1 ∨ (k0 = 0 ∧ d < 0) := by omega
   have hdb : -1000000 ≤ d ∧ d ≤ 1000000 := by omega
   have HN2 := qHd hn2; have HN3 := qHd hn3; have HN2W := qHd hn2; have HN3W := qHd hn3; have HAS := qHd hAS; have HASV := qHd hASv; have HNAE := qHd hna; have HK0 := qHd hk0; have HDK := qHd hdk; have HDB := qHd hdb
   have E1 := qHd e1; have E2 := qHd e2; have E3 := qHd e3; have HD := qHd hd
   have hmk := fun wx : World => run_makeW wx na (by omega)
   have hcut := fun wx : World => run_cutS wx ao2 k0 na ca2 hk0n
   have HMK := qHd hmk; have HCUT := qHd hcut
   clear hn2 hn3 hAS hASv hna hk0 hd hd1 e1 e2 e3 hdk hdb hmk hcut hb3 hl3 hAl htb hsw
   go_upto_region 9 with fail
   go_cut [9, 10] (fun v9 v10 wx => ∃ gq l10, v9 = .slice (some ⟨gq, 0, none⟩) na na ∧ w3.heap.size ≤ gq ∧ qcg 49 wx w3.heap.size v9 (List.replicate na 0) ∧ Num wx v10 l10 ∧ Below w3.heap.size w3 wx ∧ Hid (l10 = (wd AS).drop k0))
   case first =>
    have e1 := E1.out; have e2 := E2.out; have e3 := E3.out; have hmk := HMK.out; have hcut := HCUT.out
    have bb : ∀ o1 o2 : Obj, Below w3.heap.size w3 ((w3.alloc o1).alloc o2).drew := fun o1 o2 => (((Below.refl _ _).alloc (Nat.le_refl _) o1).alloc (by simp) o2).drew
    have P1 : Hid (Below w3.heap.size w3 ((w3.alloc (.cells (freshW na) 49)).alloc (.cells #[] 49)).drew) := qHd (bb _ _)
    have P2 : Hid (Below w3.heap.size w3 ((w3.alloc (.cells #[] 49)).alloc (.cells (freshW na) 49)).drew) := qHd (bb _ _)
    have P3 : Hid (Below w3.heap.size w3 (w3.alloc (.cells #[] 49)).drew) := qHd ((Below.refl _ _).alloc (Nat.le_refl _) _).drew
    have L1 : Hid (qcg 49 ((w3.alloc (.cells (freshW na) 49)).alloc (.cells #[] 49)).drew w3.heap.size (.slice (some ⟨w3.heap.size + 1, 0, none⟩) 0 0) []) := qHd (by
     have h := own_lit (w3.alloc (.cells (freshW na) 49)) 49 w3.heap.size #[] [] 0 (by simp) U32.nil rfl (by simp) rfl
     rw [show (w3.alloc (.cells (freshW na) 49)).heap.size = w3.heap.size + 1 from by simp] at h
     exact h.drew)
    have L2 : Hid (qcg 49 ((w3.alloc (.cells #[] 49)).alloc (.cells (freshW na) 49)).drew w3.heap.size (.slice (some ⟨w3.heap.size, 0, none⟩) 0 0) []) := qHd ((own_lit w3 49 w3.heap.size #[] [] 0 (Nat.le_refl _) U32.nil rfl (by simp) rfl).alloc _).drew
    have L3 : Hid (qcg 49 (w3.alloc (.cells #[] 49)).drew w3.heap.size (.slice (some ⟨w3.heap.size, 0, none⟩) 0 0) []) := qHd (own_lit w3 49 w3.heap.size #[] [] 0 (Nat.le_refl _) U32.nil rfl (by simp) rfl).drew
    have M1 : Hid (qcg 49 ((w3.alloc (.cells (freshW na) 49)).alloc (.cells #[] 49)).drew w3.heap.size (.slice (some ⟨w3.heap.size, 0, none⟩) na na) (List.replicate na 0)) := qHd (((own_made w3 w3.heap.size na (Nat.le_refl _) (by omega)).alloc _).drew)
    have M2 : Hid (qcg 49 ((w3.alloc (.cells #[] 49)).alloc (.cells (freshW na) 49)).drew w3.heap.size (.slice (some ⟨w3.heap.size + 1, 0, none⟩) na na) (List.replicate na 0)) := qHd (by
     have h := own_made (w3.alloc (.cells #[] 49)) w3.heap.size na (by simp) (by omega)
     rw [show (w3.alloc (.cells #[] 49)).heap.size = w3.heap.size + 1 from by simp] at h
     exact h.drew)
    have NN : Hid (∀ wx, Below w3.heap.size w3 wx → Num wx (cutS ao2 k0 na ca2) ((wd AS).drop k0)) := qHd fun wx hx => (HN2.out.cut k0 hk0n).below hx
    clear bb
    have HLEN : Hid (([] : List Nat).length + ((wd AS).drop k0).length ≤ 17592186044416) := qHd (by rw [List.length_drop, ← HNAE.out]; simp; omega)
    go_region_held3 (fun _ => True) (trivial) (first
    | (refine step_appendN2 Tryz.wordsTy (by rfl) (.tmp 40) (.tmp 48) rfl w3.heap.size (.slice (some ⟨w3.heap.size + 1, 0, none⟩) 0 0) (cutS ao2 k0 na ca2) [] ((wd AS).drop k0) rfl rfl L1.out (NN.out _ P1.out) HLEN.out P1.out.size ?_; intro v' w4 h1 h2 h3 h4; have hm := M1.out.keptBy (g := w3.heap.size + 1) h4 (Nat.ne_of_lt (Nat.lt_succ_self _)); have hbx := h2 _ P1.out; clear h2 h4)
    | (refine step_appendN2 Tryz.wordsTy (by rfl) (.tmp 40) (.tmp 48) rfl w3.heap.size (.slice (some ⟨w3.heap.size, 0, none⟩) 0 0) (cutS ao2 k0 na ca2) [] ((wd AS).drop k0) rfl rfl L2.out (NN.out _ P2.out) HLEN.out P2.out.size ?_; intro v' w4 h1 h2 h3 h4; have hm := M2.out.keptBy (g := w3.heap.size) h4 (Nat.succ_ne_self _); have hbx := h2 _ P2.out; clear h2 h4)
    | (refine step_appendN2 Tryz.wordsTy (by rfl) (.tmp 40) (.tmp 48) rfl w3.heap.size (.slice (some ⟨w3.heap.size, 0, none⟩) 0 0) (cutS ao2 k0 na ca2) [] ((wd AS).drop k0) rfl rfl L3.out (NN.out _ P3.out) HLEN.out P3.out.size ?_; intro v' w4 h1 h2 h3 h4; have hbx := h2 _ P3.out; clear h2 h4))
    all_goals
     go_wp2_with fail
     go_meet
     first
     | exact ⟨_, _, rfl, Nat.le_refl _, hm, h1.num, hbx, qHd (List.nil_append _)⟩
     | exact ⟨_, _, rfl, Nat.le_succ _, hm, h1.num, hbx, qHd (List.nil_append _)⟩
     | exact ⟨_, _, rfl, hbx.size, own_made _ _ _ hbx.size (by omega), (h1.alloc _).num, hbx.alloc hbx.size _, qHd (List.nil_append _)⟩
   case rest =>
    obtain ⟨gq, l10, rfl, hgq, hO0, hn10, hb4, hl10⟩ := hcut
    have hgqb := hO0.block
    rw [hl10.out] at hn10
    have hfr := first_rest (V := V) HASV.out hnpos HVLO.out
    rw [← HK0.out] at hfr
    have HFR := qHd hfr
    have HN10 := qHd hn10; have HO0 := qHd hO0
    have HB34 := qHd hb4; have HB4 := qHd (HB3.out.trans (hb4.mono HB3.out.size))
    have hdb := HDB.out
    have hv0 : val ((wd AS).drop k0) = AS / 4294967296 ^ k0 := by rw [val_drop (qcp AS), qao]
    have HV0 := qHd hv0
    have hwin : w.heap.size ≤ gq := by have := HB3.out.size; omega
    clear hn10 hO0 hl10 hfr hv0 hb4
    have e1 := E1.out
    go_wp2_with fail
    clear e1
    go_loopw [10, 11] (fun rv iv wr => ∃ (k : Nat) (iz : Int) (lr lq : List Nat), k ≤ k0 ∧ iv = .int .i64 iz ∧ (iz = (k : Int) - 1 ∨ (k = 0 ∧ iz < 0)) ∧ -1000000 ≤ iz ∧ iz ≤ 1000000 ∧ Num wr rv lr ∧ lr.length ≤ 800001 ∧
     qcg 49 wr w.heap.size (.slice (some ⟨gq, 0, none⟩) na na) lq ∧ Hid (lq.length = na) ∧ Below w.heap.size w wr ∧ Hid (AS / 4294967296 ^ k = val (lq.drop k) * V + val lr) ∧ Hid (val lr < V) ∧
     Below w3.heap.size w3 wr ∧ gq < wr.heap.size) (fun _ iv _ => (intOf iv + 1).toNat)
    case atStart => exact ⟨k0, d, _, _, Nat.le_refl _, rfl, HDK.out, hdb.1, hdb.2, HN10.out, by rw [List.length_drop, ← HNAE.out]; omega, HO0.out.base HB3.out.size, qHd (by simp), HB4.out, qHd (by rw [HV0.out, List.drop_replicate, val_zeros, Nat.zero_mul, Nat.zero_add]), qHd (by rw [HV0.out]; exact HFR.out), HB34.out, hgqb.2⟩
    case round =>
     obtain ⟨k, iz, lr, lq, hk, rfl, hiz, hz1, hz2, hnr, hlr, hOq, hlq, hBr, hinv, hrV, hb3r, hgqr⟩ := hrel
     have hn2r := qHd (HN2W.out.below hb3r)
     have hn3r := qHd (HN3W.out.below hb3r)
     obtain ⟨wo, rfl⟩ : ∃ wo : World, wo = wr := ⟨_, rfl⟩
     by_cases hk0' : k = 0
     ·subst hk0'
      have hneg : decide ((0 : Int) ≤ iz) = false := by simp; omega
      have hi0 := hinv.out
      rw [Nat.pow_zero, Nat.div_one, List.drop_zero, HAS.out, HV.out] at hi0
      have hr0 := hrV.out
      rw [HV.out] at hr0
      obtain ⟨g1, g2⟩ := div_scaled (Nat.two_pow_pos s) (show val lr + Bv * 2 ^ s * val lq = A * 2 ^ s by rw [hi0, Nat.mul_comm (val lq)]; omega) hr0
      have htr := rtrim_any _ _ _ hOq.num (by rw [hlq.out]; omega)
      rw [g1] at htr
      have HTR := qHd htr; have G2 := qHd g2; have HNR := qHd hnr
      clear htr g1 g2 hi0 hr0 hnr hOq hiz
      go_wp2_with fail
      (with_reducible refine HTR.out.mono ?_); rintro e w5 ⟨v5, l5, rfl, hb5, hn5, hl5⟩
      have hrd := rdown_any _ lr s w5 (HNR.out.below hb5) (by omega) (by omega)
      rw [G2.out] at hrd
      have HRD := qHd hrd; have HN5 := qHd hn5; have HL5 := qHd hl5
      clear hrd hn5 hl5
      go_wp2_with fail
      (with_reducible refine HRD.out.mono ?_); rintro e w6 ⟨v6, l6, rfl, hb6, hn6, hl6⟩
      go_wp2_with fail
      go_ret3
      have h1 := hBr.trans (hb5.mono hBr.size)
      exact ⟨_, _, rfl, h1.trans (hb6.mono h1.size), by rw [← HL5.out]; exact HN5.out.below hb6, by rw [← hl6]; exact hn6⟩
     ·obtain ⟨j, rfl⟩ : ∃ j, k = j + 1 := ⟨k - 1, by omega⟩
      obtain rfl : iz = (j : Int) := by omega
      have hjna : j < na := by omega
      obtain ⟨b2, o2, rfl, _, hcell2⟩ := hn2r.out.at (by omega)
      have hxj := hcell2 j hjna
      have hxl := (qcp AS) j
      have hdig := val_digit (qcp AS) j
      rw [qao] at hdig
      obtain ⟨xj, hxje⟩ : ∃ xj, xj = gd (wd AS) j := ⟨_, rfl⟩
      rw [← hxje] at hxj hxl hdig
      have hlit := own_lit wo 49 wo.heap.size #[.int .u32 (xj : Nat)] [xj] 1 (Nat.le_refl _) (U32.cons hxl U32.nil) rfl (by simp) rfl
      have HLIT := qHd hlit; have HNR := qHd hnr; have HDIG := qHd hdig; have HOQ := qHd hOq
      clear hcell2 hxje hdig hlit hnr hOq
      go_wp2_with (at_builtin; refine qbu Tryz.wordsTy rfl (.tmp 62) (.tmp 63) rfl wo.heap.size _ _ [xj] lr rfl rfl HLIT.out (HNR.out.below ((Below.refl _ _).alloc (Nat.le_refl _) _)) ?c1 ?c2 ?_)
      case c1 => simp; omega
      case c2 => simp
      intro v5 w5 h1 h2 h3
      have hb5 := h2 wo ((Below.refl _ _).alloc (Nat.le_refl _) _)
      have hval5 : val (xj :: lr) = xj + 4294967296 * val lr := rfl
      have htr := rtrim_any _ _ _ h1.num (by simp; omega)
      rw [hval5] at htr
      obtain ⟨R, hR⟩ : ∃ R, R = xj + 4294967296 * val lr := ⟨_, rfl⟩
      rw [← hR] at htr
      have hRV : R < 4294967296 * V := by rw [hR]; have := hrV.out; omega
      have hstep := rdiv_step hinv.out hR
      rw [← HDIG.out] at hstep
      have hRn : R < 4294967296 ^ (n + 1) := by
       rw [Nat.pow_succ, Nat.mul_comm]
       exact Nat.lt_of_lt_of_le hRV (Nat.mul_le_mul_left _ (Nat.le_of_lt HVB.out))
      have hRl : (wd R).length ≤ n + 1 := qbr hRn
      have htwo := head_two hRn hnpos
      have htop := top_one HVB.out hnpos
      have HTR := qHd htr; have HRV := qHd hRV; have HSTEP := qHd hstep
      have HOQ := qHd (HOQ.out.below hb5); have HN2R := qHd (hn2r.out.below hb5); have HN3R := qHd (hn3r.out.below hb5); have HBR := qHd (hBr.trans (hb5.mono hBr.size)); have HB3R := qHd (hb3r.trans (hb5.mono hb3r.size))
      have hgq5 : gq < w5.heap.size := Nat.lt_of_lt_of_le hgqr hb5.size
      clear htr hRV hstep hval5 hR h1 h2 h3 hb5 hRn
      go_wp2_with fail
      (with_reducible refine HTR.out.mono ?_); rintro e w6 ⟨v6, l6, rfl, hb6, hn6, hl6⟩
      rw [hl6] at hn6
      have HOQ := qHd (HOQ.out.below hb6); have HN2R := qHd (HN2R.out.below hb6); have HN3R := qHd (HN3R.out.below hb6); have HBR := qHd (HBR.out.trans (hb6.mono HBR.out.size)); have HB3R := qHd (HB3R.out.trans (hb6.mono HB3R.out.size))
      have hgq6 : gq < w6.heap.size := Nat.lt_of_lt_of_le hgq5 hb6.size
      have hw1 := qdb _ _ (n : Int) w6 hn6 (by omega) (by omega)
      have hw2 := qdb _ _ ((n : Int) - 1) w6 hn6 (by omega) (by omega)
      have hw3 := qdb _ _ ((n : Int) - 1) w6 HN3R.out (by omega) (by omega)
      rw [Int.toNat_natCast] at hw1
      rw [show ((n : Int) - 1).toNat = n - 1 by omega] at hw2 hw3
      have hp1l := (qcp R) n
      have hp0l := (qcp R) (n - 1)
      have htl := (qcp V) (n - 1)
      obtain ⟨p1, hp1⟩ : ∃ p1, p1 = gd (wd R) n := ⟨_, rfl⟩
      obtain ⟨p0, hp0⟩ : ∃ p0, p0 = gd (wd R) (n - 1) := ⟨_, rfl⟩
      obtain ⟨top, htopE⟩ : ∃ top, top = gd (wd V) (n - 1) := ⟨_, rfl⟩
      rw [← hp1] at hw1 hp1l htwo
      rw [← hp0] at hw2 hp0l htwo
      rw [← htopE] at hw3 htl htop
      have hor := or_words' p0 p1 hp0l hp1l
      obtain ⟨H, hH⟩ : ∃ H, H = p1 * 4294967296 + p0 := ⟨_, rfl⟩
      have hHl : H < 18446744073709551616 := by omega
      rw [← hH] at hor htwo
      have ht31 : 2147483648 ≤ top := by
       rw [htop, Nat.le_div_iff_mul_le (Nat.pow_pos (by decide))]; exact HVLO.out
      have hgg := guess_ge (P := 4294967296 ^ (n - 1)) (Nat.pow_pos (by decide)) htwo htop (by omega) HRV.out
      obtain ⟨G0, hG0⟩ : ∃ G0, G0 = H / top := ⟨_, rfl⟩
      have hG0i : (H : Int) / (top : Int) = (G0 : Int) := by rw [hG0]; simp
      have hG0l : G0 < 18446744073709551616 := by rw [hG0]; exact Nat.lt_of_le_of_lt (Nat.div_le_self _ _) hHl
      rw [← hG0] at hgg
      obtain ⟨gs, hgs⟩ : ∃ gs, gs = min G0 4294967295 := ⟨_, rfl⟩
      have hmin : min (G0 : Int) 4294967295 = (gs : Int) := by omega
      have hgsl : gs < 4294967296 := by omega
      rw [← hgs] at hgg
      have hgmod : (gs : Int) % 4294967296 = (gs : Int) := by omega
      have HW1 := qHd hw1; have HW2 := qHd hw2; have HW3 := qHd hw3; have HGG := qHd hgg; have HN6 := qHd hn6; have HG0I := qHd hG0i; have HMIN := qHd hmin
      clear hw1 hw2 hw3 hp1 hp0 htopE hH hG0 hgs hgg hn6 htwo htop hl6 hb6 hG0i hmin
      go_wp2_with fail
      (with_reducible refine HW1.out.mono ?_); rintro e wx ⟨rfl, rfl⟩
      go_wp2_with fail
      (with_reducible refine HW2.out.mono ?_); rintro e wx ⟨rfl, rfl⟩
      have hG0i := HG0I.out; have hmin := HMIN.out
      go_wp2_with fail
      (with_reducible refine HW3.out.mono ?_); rintro e wx ⟨rfl, rfl⟩
      have hone := num_one w6 49 gs hgsl
      have hal := (Below.refl w6.heap.size w6).alloc (Nat.le_refl _) (.cells #[.int .u32 (gs : Nat)] 49)
      have hmu := rmul_any _ _ _ _ _ (HN3R.out.below hal) hone (by rw [HVLEN.out]; omega) (by simp)
      rw [qao, show val [gs] = gs from rfl] at hmu
      have HMU := qHd hmu
      clear hone hmu
      go_wp2_with fail
      (with_reducible refine HMU.out.mono ?_); rintro e w7 ⟨v7, l7, rfl, hb7, hn7, hl7⟩
      clear hG0i hmin
      rw [hl7] at hn7
      have hb67 := hal.trans (hb7.mono (by simp))
      have HOQ := qHd (HOQ.out.below hb67); have HN2R := qHd (HN2R.out.below hb67); have HN3R := qHd (HN3R.out.below hb67); have HN6 := qHd (HN6.out.below hb67); have HBR := qHd (HBR.out.trans (hb67.mono HBR.out.size)); have HB3R := qHd (HB3R.out.trans (hb67.mono HB3R.out.size))
      have hgq7 : gq < w7.heap.size := Nat.lt_of_lt_of_le hgq6 hb67.size
      have HN7 := qHd hn7
      have hV0 : 0 < V := Nat.lt_of_lt_of_le (Nat.mul_pos (by decide) (Nat.pow_pos (by decide))) HVLO.out
      have hVl : (wd V).length = n := HVLEN.out
      have HVL := qHd hVl
      clear hn7 hl7 hb7 hal hVl
      go_wp2_with fail
      go_loopw [12, 13] (fun gv pv wr => ∃ g : Nat, gv = .int .u64 g ∧ g < 4294967296 ∧ Hid (R / V ≤ g) ∧ Num wr pv (wd (V * g)) ∧ Below w7.heap.size w7 wr) (fun gv _ _ => (intOf gv).toNat)
      case atStart => exact ⟨gs, rfl, hgsl, HGG, HN7.out, Below.refl _ _⟩
      case round =>
       obtain ⟨g, rfl, hgl, hgR, hnp, hb8⟩ := hrel
       obtain ⟨w8, rfl⟩ : ∃ w8 : World, w8 = wr := ⟨_, rfl⟩
       have hpl : (wd (V * g)).length ≤ n + 1 := by
        have h1 := qbk V g
        have h2 : (wd g).length ≤ 1 := qbr (by rw [Nat.pow_one]; exact hgl)
        rw [HVL.out] at h1; omega
       have hcm := rcmp_any _ _ _ _ _ hnp (HN6.out.below hb8) (by omega) (by omega)
       rw [qao, qao] at hcm
       by_cases hgt : R < V * g
       ·have hg1 : 1 ≤ g := by
         rcases Nat.eq_zero_or_pos g with h | h
         ·rw [h, Nat.mul_zero] at hgt; omega
         ·exact h
        rw [cmpN_gt hgt] at hcm
        have hsu := rsub_ge _ _ _ _ _ hnp (HN3R.out.below hb8) (by omega) (by rw [HVL.out]; omega) (by rw [qao, qao]; exact Nat.le_mul_of_pos_right _ hg1)
        rw [qao, qao] at hsu
        obtain ⟨gm, hgm⟩ : ∃ gm, gm = g - 1 := ⟨_, rfl⟩
        have hgmi : (g : Int) - 1 = (gm : Int) := by omega
        have hpe : V * g - V = V * gm := by rw [hgm, Nat.mul_sub, Nat.mul_one]
        rw [hpe] at hsu
        have hgR2 : R / V ≤ gm := by
         have h1 : R / V < g := by rw [Nat.div_lt_iff_lt_mul hV0, Nat.mul_comm]; exact hgt
         omega
        have hgmg : gm < g := by omega
        have HCM := qHd hcm; have HSU := qHd hsu; have HGR2 := qHd hgR2
        clear hcm hsu hgm hpe hgR2 hgt hnp
        go_wp2_with fail
        (with_reducible refine HCM.out.mono ?_); rintro e wx ⟨rfl, rfl⟩
        go_wp2_with fail
        (with_reducible refine HSU.out.mono ?_); rintro e w9 ⟨v9, rfl, hb9, hn9⟩
        have HN9 := qHd hn9
        clear hn9
        go_wp2_with fail
        go_roundw
        case rel => exact ⟨gm, rfl, by omega, HGR2, HN9.out, hb8.trans (hb9.mono hb8.size)⟩
        case measure => simp [intOf]; omega
       ·have hge : g = R / V := by
         have h1 : g ≤ R / V := by rw [Nat.le_div_iff_mul_le hV0, Nat.mul_comm]; omega
         have := hgR.out; omega
        have hcz : decide ((0 : Int) < cmpN (V * g) R) = false := by
         unfold cmpN
         by_cases h1 : V * g < R
         ·rw [if_pos h1]; rfl
         ·rw [if_neg h1, if_neg hgt]; rfl
        obtain ⟨cz, hcze⟩ : ∃ cz, cz = cmpN (V * g) R := ⟨_, rfl⟩
        rw [← hcze] at hcm hcz
        have hsu := rsub_own _ _ _ _ _ (HN6.out.below hb8) hnp (by omega) (by omega) (by rw [qao, qao]; omega)
        rw [qao, qao] at hsu
        have hrem : R - V * g = R % V := by
         have := Nat.div_add_mod R V
         rw [← hge] at this; omega
        rw [hrem] at hsu
        have hO8 := HOQ.out.below hb8
        have HO8 := qHd hO8
        have HB8 := qHd (HBR.out.trans (hb8.mono HBR.out.size)); have HB38 := qHd (HB3R.out.trans (hb8.mono HB3R.out.size))
        have HCM := qHd hcm; have HSU := qHd hsu; have HGE := qHd hge
        have hgq8 : gq < w8.heap.size := Nat.lt_of_lt_of_le hgq7 hb8.size
        have hgmod2 : (g : Int) % 4294967296 = (g : Int) := by omega
        clear hcm hsu hge hrem hgt hnp hO8 hcze
        go_wp2_with fail
        (with_reducible refine HCM.out.mono ?_); rintro e wx ⟨rfl, rfl⟩
        go_wp2_with fail
        (with_reducible refine HSU.out.mono ?_); rintro e w9 ⟨v9, rfl, hb9, ho9⟩
        have hO9 := HO8.out.below hb9
        have hcq := hO9.cell hlq.out j hjna
        have hfq := hO9.frozen hlq.out j
        have hgrw := hO9.grown hlq.out j g
        have HO9 := qHd hO9; have HR9 := qHd ho9; have HGRW := qHd hgrw
        have HB9 := qHd (HB8.out.trans (hb9.mono HB8.out.size)); have HB39 := qHd (HB38.out.trans (hb9.mono HB38.out.size))
        have hsz9 := hb9.size
        clear hO9 ho9 hgrw hb9
        have hrl : R % V < V := Nat.mod_lt _ hV0
        have hrlen : (wd (R % V)).length ≤ 800001 := Nat.le_trans (qas (Nat.le_of_lt hrl)) (by rw [HVL.out]; omega)
        have HRL := qHd hrl; have HRLEN := qHd hrlen
        clear hrl hrlen
        go_wp2_with fail
        go_roundw
        case rel =>
         refine ⟨j, (j : Int) - 1, _, lq.set j g, by omega, rfl, .inl rfl, by omega, by omega, (HR9.out.keptFrom HGRW.out (fun k hk => by cases hk; exact hgq8)).num, HRLEN.out, HO9.out.stored hlq.out j g hgl, qHd (by rw [List.length_set]; exact hlq.out), HB9.out.setCell hwin _, qHd ?_, qHd ?_, HB39.out.setCell hgq _, Nat.lt_of_lt_of_le hgq8 (Nat.le_trans hsz9 HGRW.out.size)⟩
         ·rw [val_drop_set _ _ _ (by rw [hlq.out]; exact hjna), qao, HGE.out]; exact HSTEP.out
         ·rw [qao]; exact HRL.out
        case measure => simp [intOf]
theorem pow_ten (k : Nat) : 4294967296 ^ k ≤ 10 ^ (10 * k) := by
 rw [Nat.pow_mul]; exact Nat.pow_le_pow_left (by decide) k
theorem digD_len {n k : Nat} (h : n < 10 ^ k) : (digD n).length ≤ k := by
  induction k generalizing n with
  | zero => have : n = 0 := by simpa using h
            subst this; rw [digD_zero]; simp
  | succ k ih =>
    by_cases h0 : n = 0
    · subst h0; rw [digD_zero]; simp
    · have := ih (n := n / 10) (by rw [Nat.pow_succ] at h; omega)
      rw [digD_pos h0, List.length_cons]; omega
theorem rgcd_any (va vb : Value) (a b : List Nat) (w : World) (ha : Num w va a) (hb : Num w vb b) (hla : a.length ≤ 400000) (hlb : b.length ≤ 400000) :
  Calls Tryz.prog 64 #[va, vb] w (RetNum w fun r => r = wd (Nat.gcd (val a) (val b))) := by
 have hl1 := qbh ha.lt
 have hl2 := qbh hb.lt
 obtain ⟨G, hG⟩ : ∃ G, G = Nat.gcd (val a) (val b) := ⟨_, rfl⟩
 rw [← hG]
 have HG := qHd hG; clear hG
 go_enter Tryz.func64, Tryz.ntmps64
 go_wp2_with fail
 (with_reducible refine (rtrim_any _ _ _ ha (by omega)).mono ?_); rintro e w1 ⟨v1, l1, rfl, hb1, hn1, hl1'⟩
 go_wp2_with fail
 (with_reducible refine (rtrim_any _ _ _ (hb.below hb1) (by omega)).mono ?_); rintro e w2 ⟨v2, l2, rfl, hb2, hn2, hl2'⟩
 have hn1 := hn1.below hb2
 have hb12 := hb1.trans (hb2.mono hb1.size)
 rw [hl1'] at hn1
 rw [hl2'] at hn2
 obtain ⟨x0, hx0⟩ : ∃ x0, x0 = val a := ⟨_, rfl⟩
 obtain ⟨y0, hy0⟩ : ∃ y0, y0 = val b := ⟨_, rfl⟩
 rw [← hx0] at hn1 hl1
 rw [← hy0] at hn2 hl2
 have hg0 : Nat.gcd x0 y0 = G := by rw [HG.out, hx0, hy0]
 have HG0 := qHd hg0; have HN1 := qHd hn1; have HN2 := qHd hn2
 clear hg0 hx0 hy0 hn1 hn2 hl1' hl2' hb1 hb2 ha hb
 go_wp2_with fail
 go_loopw [0, 1] (fun xv yv wr => ∃ x y : Nat, Num wr xv (wd x) ∧ Num wr yv (wd y) ∧ Below w.heap.size w wr ∧ Hid (Nat.gcd x y = G) ∧ (wd x).length ≤ 400000 ∧ (wd y).length ≤ 400000) (fun _ yv wr => numOf wr yv)
 case atStart => exact ⟨x0, y0, HN1.out, HN2.out, hb12, HG0, by omega, by omega⟩
 case round =>
  obtain ⟨x, y, hnx, hny, hBr, hgr, hlx, hly⟩ := hrel
  by_cases hy0 : y = 0
  ·subst hy0
   rw [qbl] at hny hly
   obtain ⟨yo, cy, rfl, hcy, hcy2, _⟩ := hny.shape
   have hgx : x = G := by rw [← hgr.out, Nat.gcd_zero_right]
   have HGX := qHd hgx; have HNX := qHd hnx
   clear hny hgx hnx
   go_wp2_with fail
   go_ret
   exact ⟨_, _, rfl, hBr, HNX.out, by rw [HGX.out]⟩
  ·have hd := rdiv_any _ _ _ _ _ hnx hny hlx hly (by rw [qao]; exact hy0)
   rw [qao, qao] at hd
   have hpos := wd_length_pos hy0
   have hm0 := numOf_eq hny
   rw [qao] at hm0
   obtain ⟨yo, cy, rfl, hcy, hcy2, _⟩ := hny.shape
   have hlm : (wd (x % y)).length ≤ (wd y).length := qas (Nat.le_of_lt (Nat.mod_lt _ (by omega)))
   have hml : x % y < y := Nat.mod_lt _ (by omega)
   have hgm : Nat.gcd y (x % y) = G := by rw [← hgr.out, Nat.gcd_comm x y, Nat.gcd_rec y x, Nat.gcd_comm]
   have HD := qHd hd; have HNY := qHd hny; have HM0 := qHd hm0; have HLM := qHd hlm; have HML := qHd hml; have HGM := qHd hgm
   clear hd hny hm0 hlm hml hgm hnx
   go_wp2_with fail
   (with_reducible refine HD.out.mono ?_); rintro e w3 ⟨v1, v2, rfl, hb3, hq, hr⟩
   have HR := qHd hr
   clear hq hr
   go_wp2_with fail
   go_roundw
   case rel => exact ⟨y, x % y, HNY.out.below hb3, HR.out, hBr.trans (hb3.mono hBr.size), HGM, hly, Nat.le_trans HLM.out hly⟩
   case measure =>
    have e1 := numOf_eq HR.out
    rw [qao] at e1
    show numOf _ _ < numOf _ _
    rw [HM0.out]
    exact Nat.lt_of_le_of_lt (Nat.le_of_eq e1) HML.out
theorem _root_.Go.RowKit.Below.step {w w1 w2 : World} (h : Below w.heap.size w w1) (h2 : Below w1.heap.size w1 w2) : Below w.heap.size w w2 := h.trans (h2.mono h.size)
def RatV (w : World) (v : Value) (s : Bool) (a b : List Nat) : Prop := ∃ va vb, v = .agg #[.bool s, va, vb] ∧ Num w va a ∧ Num w vb b
def IsR (w : World) (v : Value) (q : Rat) : Prop := RatV w v (ng q) (wd (nn q)) (wd (dn q))
def qcn (w : World) (v : Value) (q : Rat) : Prop := ∃ s a b, RatV w v s a b ∧ rq s a b = q ∧ a.length ≤ 100000 ∧ b.length ≤ 100000
theorem RatV.below {w w' : World} {v : Value} {s : Bool} {a b : List Nat} (h : RatV w v s a b) (hb : Below w.heap.size w w') : RatV w' v s a b := by
 obtain ⟨va, vb, rfl, h1, h2⟩ := h
 exact ⟨va, vb, rfl, h1.below hb, h2.below hb⟩
theorem IsR.below {w w' : World} {v : Value} {q : Rat} (h : IsR w v q) (hb : Below w.heap.size w w') : IsR w' v q := RatV.below h hb
theorem qcn.below {w w' : World} {v : Value} {q : Rat} (h : qcn w v q) (hb : Below w.heap.size w w') : qcn w' v q := by
 obtain ⟨s, a, b, h1, h2⟩ := h
 exact ⟨s, a, b, h1.below hb, h2⟩
theorem dn_len (q : Rat) : (wd (dn q)).length ≤ rl q := by
 unfold dn; split
 ·rw [qbl]; exact Nat.zero_le _
 ·exact rl_d q
theorem IsR.is {w : World} {v : Value} {q : Rat} (h : IsR w v q) (hl : rl q ≤ 100000) : qcn w v q :=
 ⟨_, _, _, h, (vld_self q).2, Nat.le_trans (rl_n q) hl, Nat.le_trans (dn_len q) hl⟩
theorem RatV.lt {w : World} {v : Value} {s : Bool} {a b : List Nat} (h : RatV w v s a b) : U32 a ∧ U32 b := by
 obtain ⟨va, vb, rfl, h1, h2⟩ := h
 exact ⟨h1.lt, h2.lt⟩
theorem qcn.rl {w : World} {v : Value} {q : Rat} (h : qcn w v q) : rl q ≤ 100000 := by
 obtain ⟨s, a, b, h, rfl, h1, h2⟩ := h
 obtain ⟨u1, u2⟩ := h.lt
 exact rl_rq u1 u2 h1 h2 (by decide)
theorem isR_zero (w : World) : IsR w (.agg #[.bool false, .slice none 0 0, .slice none 0 0]) 0 := by
 unfold IsR
 rw [ng_zero, nn_zero, dn_zero, qbl]
 exact ⟨_, _, rfl, Num.nil w, Num.nil w⟩
def RetN (w : World) (n : Nat) (e : Ending) (w' : World) : Prop := ∃ v, e = .returned v ∧ Below w.heap.size w w' ∧ Num w' v (wd n)
theorem RetNum.n {w : World} {n : Nat} {e : Ending} {w' : World} (h : RetNum w (fun r => r = wd n) e w') : RetN w n e w' := by
 obtain ⟨v, l, he, hb, hn, rfl⟩ := h
 exact ⟨v, he, hb, hn⟩
def RetR (w : World) (q : Rat) (e : Ending) (w' : World) : Prop := ∃ v, e = .returned v ∧ Below w.heap.size w w' ∧ IsR w' v q
def RetRE (w : World) (q : Rat) (er : Value) (e : Ending) (w' : World) : Prop := ∃ v, e = .returned (.tuple #[v, er]) ∧ Below w.heap.size w w' ∧ IsR w' v q
theorem box_kept {w w1 : World} {cs : Array Value} {T : TypeId} (hb : Below (w.alloc (.cells cs T)).heap.size (w.alloc (.cells cs T)) w1) (j : Nat) :
  w1.cell? ⟨w.heap.size, j, none⟩ = cs[j]? := by
 rw [hb.cell (p := ⟨w.heap.size, j, none⟩) (by simp), cell_of_row _ _ _ _ _ _ (heap_alloc_new _ _)]

theorem one_any (w : World) : Calls Tryz.prog 29 #[] w (RetN w 1) := by
 go_enter Tryz.func29, Tryz.ntmps29
 go_wp2_with fail
 go_ret
 refine ⟨_, rfl, (Below.refl _ _).alloc (Nat.le_refl _) _, ?_⟩
 rw [wd_one (by decide) (by decide)]
 exact num_one w 49 1 (by decide)
theorem plain_any (va : Value) (a : List Nat) (w : World) (ha : Num w va a) :
  Calls Tryz.prog 67 #[va] w (RetS w (.bool (decide (a ≠ [] ∧ Clean a)))) := by
 obtain ⟨ao, ca, rfl, hca, hca2, _⟩ := ha.shape
 by_cases h0 : a.length = 0
 ·obtain rfl := List.eq_nil_of_length_eq_zero h0
  clear ha
  go_enter Tryz.func67, Tryz.ntmps67
  go_wp2_with fail
  go_ret
  exact ⟨rfl, rfl⟩
 ·obtain ⟨b, off, rfl, _, hcell⟩ := ha.at (by omega)
  obtain ⟨m, hm⟩ : ∃ m, m = a.length := ⟨_, rfl⟩
  rw [← hm] at h0 hca hcell ⊢
  have hx := hcell (m - 1) (by omega)
  obtain ⟨x, hxe⟩ : ∃ x, x = gd a (m - 1) := ⟨_, rfl⟩
  rw [← hxe] at hx
  have hcl : (decide (a ≠ [] ∧ Clean a)) = decide (x ≠ 0) := by
   rw [decide_eq_decide, hxe, hm]
   unfold Clean
   have hne : a ≠ [] := fun e => by rw [e] at hm; simp at hm; omega
   constructor
   ·rintro ⟨h, h | h⟩
    ·exact absurd h hne
    ·exact h
   ·intro h; exact ⟨hne, .inr h⟩
  rw [hcl]
  have hm0 : decide ((0 : Int) < (m : Int)) = true := decide_eq_true (by omega)
  have hxl : x < 4294967296 := by rw [hxe]; exact ha.lt _
  by_cases hx0 : x = 0
  ·subst hx0
   clear hcell hxe hm ha hcl
   go_enter Tryz.func67, Tryz.ntmps67
   go_wp2_with fail
   go_ret
   exact ⟨rfl, rfl⟩
  ·have hne : (bne (x : Int) 0) = true := by simp; omega
   have hd : decide (x ≠ 0) = true := decide_eq_true hx0
   rw [hd]
   clear hcell hxe hm ha hcl hd
   go_enter Tryz.func67, Tryz.ntmps67
   go_wp2_with fail
   go_ret
   exact ⟨rfl, rfl⟩

theorem vld_parts {s : Bool} {a b : List Nat} (h : ¬ (a = [] ∧ b = [])) : Vld s a b ↔ (a ≠ [] ∧ Clean a) ∧ (b ≠ [] ∧ Clean b) ∧ Nat.gcd (val a) (val b) = 1 := by
 unfold Vld
 constructor
 ·rintro (⟨h1, h2, _⟩ | ⟨h1, h2, h3, h4, h5⟩)
  ·exact absurd ⟨h1, h2⟩ h
  ·exact ⟨⟨h1, h3⟩, ⟨h2, h4⟩, h5⟩
 ·rintro ⟨⟨h1, h3⟩, ⟨h2, h4⟩, h5⟩
  exact .inr ⟨h1, h2, h3, h4, h5⟩
theorem valid_any (v : Value) (s : Bool) (a b : List Nat) (w : World) (h : RatV w v s a b) (hla : a.length ≤ 400000) (hlb : b.length ≤ 400000) :
  Calls Tryz.prog 43 #[v] w (RetV w (.bool (decide (Vld s a b)))) := by
 obtain ⟨va, vb, rfl, ha, hb⟩ := h
 obtain ⟨ao, ca, rfl, hca, hca2, _⟩ := ha.shape
 obtain ⟨bo, cb, rfl, hcb, hcb2, _⟩ := hb.shape
 by_cases h0 : a = [] ∧ b = []
 ·obtain ⟨rfl, rfl⟩ := h0
  have e : decide (Vld s [] []) = !s := by cases s <;> rfl
  rw [e]
  clear ha hb e
  go_enter Tryz.func43, Tryz.ntmps43
  go_wp2_with fail
  go_ret
  exact ⟨rfl, (Below.refl _ _).alloc (Nat.le_refl _) _⟩
 ·have e := vld_parts (s := s) h0
  have hd : decide (Vld s a b) = decide ((a ≠ [] ∧ Clean a) ∧ (b ≠ [] ∧ Clean b) ∧ Nat.gcd (val a) (val b) = 1) := decide_eq_decide.2 e
  rw [hd]
  have hab : ((a.length : Int) == 0) = false ∨ ((a.length : Int) == 0) = true ∧ ((b.length : Int) == 0) = false := by
   by_cases h1 : a.length = 0
   ·right
    refine ⟨by rw [h1]; rfl, ?_⟩
    rw [beq_eq_false_iff_ne]
    intro h2
    exact h0 ⟨List.eq_nil_of_length_eq_zero h1, List.eq_nil_of_length_eq_zero (by omega)⟩
   ·left; rw [beq_eq_false_iff_ne]; omega
  have hbx : Below w.heap.size w (w.alloc (.cells #[.bool s, .slice ao a.length ca, .slice bo b.length cb] 37)) := (Below.refl _ _).alloc (Nat.le_refl _) _
  have hp1 := plain_any _ a _ (ha.below hbx)
  have hp2 := plain_any _ b _ (hb.below hbx)
  have HBX := qHd hbx; have HA := qHd (ha.below hbx); have HB := qHd (hb.below hbx)
  clear e hd h0 ha hb hbx
  by_cases c1 : a ≠ [] ∧ Clean a
  ·by_cases c2 : b ≠ [] ∧ Clean b
   ·have hg := gcd_any _ _ _ _ _ HA.out HB.out (by omega) (by omega)
    have hgl : (wd (Nat.gcd (val a) (val b))).length ≤ 400000 := by
     have h1 := qbh HA.out.lt
     have h2 : val a ≠ 0 := val_ne HA.out.lt c1.2 c1.1
     have h3 := qas (Nat.le_of_dvd (Nat.pos_of_ne_zero h2) (Nat.gcd_dvd_left (val a) (val b)))
     omega
    obtain ⟨g, hge⟩ : ∃ g, g = Nat.gcd (val a) (val b) := ⟨_, rfl⟩
    rw [← hge] at hg hgl
    have hres : decide ((a ≠ [] ∧ Clean a) ∧ (b ≠ [] ∧ Clean b) ∧ Nat.gcd (val a) (val b) = 1) = decide (g = 1) := by
     rw [decide_eq_decide, hge]; exact ⟨fun h => h.2.2, fun h => ⟨c1, c2, h⟩⟩
    rw [hres]
    rw [decide_eq_true c1] at hp1
    rw [decide_eq_true c2] at hp2
    have HP1 := qHd hp1; have HP2 := qHd hp2; have HG := qHd hg
    clear hp1 hp2 hg hge hres c1 c2
    rcases hab with hab | ⟨hab, hab2⟩
    ·go_enter Tryz.func43, Tryz.ntmps43
     go_wp2_with fail
     (with_reducible refine HP1.out.mono ?_); rintro e wx ⟨rfl, rfl⟩
     go_wp2_with fail
     (with_reducible refine HP2.out.mono ?_); rintro e wx ⟨rfl, rfl⟩
     go_wp2_with fail
     (with_reducible refine HG.out.mono ?_); rintro e w1 ⟨v1, l1, rfl, hb1, hn1, rfl⟩
     have HN1 := qHd hn1; have HB1 := qHd (HBX.out.step hb1); clear hn1 hb1
     go_wp2_with fail
     (with_reducible refine (one_any _).mono ?_); rintro e w2 ⟨v2, rfl, hb2, hn2⟩
     have hcm := cmp_any _ _ _ _ w2 (HN1.out.below hb2) hn2 (by omega) (by rw [wd_one (by decide) (by decide)]; simp)
     rw [qao, qao] at hcm
     have HCM := qHd hcm; have HB2 := qHd (HB1.out.step hb2); clear hcm hn2 hb2
     by_cases hg1 : g = 1
     ·have hc0 : cmpN g 1 = 0 := cmpN_eq hg1
      rw [hc0] at HCM
      have hd : decide (g = 1) = true := decide_eq_true hg1
      rw [hd]
      have HG1 := qHd hg1
      clear hc0 hg1 hd
      go_wp2_with fail
      (with_reducible refine HCM.out.mono ?_); rintro e w3 ⟨rfl, hb3⟩
      go_wp2_with fail
      go_ret
      exact ⟨by first | rfl | (simp; done) | (simp; exact HG1.out), HB2.out.step hb3⟩
     ·have hd : decide (g = 1) = false := decide_eq_false hg1
      rw [hd]
      obtain ⟨c, hc⟩ : ∃ c, c = cmpN g 1 := ⟨_, rfl⟩
      rw [← hc] at HCM
      have hc0 : (c == 0) = false := by
       rw [beq_eq_false_iff_ne, hc]; unfold cmpN; split
       ·decide
       ·split
        ·decide
        ·omega
      have HG1 := qHd hg1
      clear hc hg1 hd
      go_wp2_with fail
      (with_reducible refine HCM.out.mono ?_); rintro e w3 ⟨rfl, hb3⟩
      go_wp2_with fail
      go_ret
      exact ⟨by first | rfl | (simp; done) | (simp; exact HG1.out), HB2.out.step hb3⟩
    ·go_enter Tryz.func43, Tryz.ntmps43
     go_wp2_with fail
     (with_reducible refine HP1.out.mono ?_); rintro e wx ⟨rfl, rfl⟩
     go_wp2_with fail
     (with_reducible refine HP2.out.mono ?_); rintro e wx ⟨rfl, rfl⟩
     go_wp2_with fail
     (with_reducible refine HG.out.mono ?_); rintro e w1 ⟨v1, l1, rfl, hb1, hn1, rfl⟩
     have HN1 := qHd hn1; have HB1 := qHd (HBX.out.step hb1); clear hn1 hb1
     go_wp2_with fail
     (with_reducible refine (one_any _).mono ?_); rintro e w2 ⟨v2, rfl, hb2, hn2⟩
     have hcm := cmp_any _ _ _ _ w2 (HN1.out.below hb2) hn2 (by omega) (by rw [wd_one (by decide) (by decide)]; simp)
     rw [qao, qao] at hcm
     have HCM := qHd hcm; have HB2 := qHd (HB1.out.step hb2); clear hcm hn2 hb2
     by_cases hg1 : g = 1
     ·have hc0 : cmpN g 1 = 0 := cmpN_eq hg1
      rw [hc0] at HCM
      have hd : decide (g = 1) = true := decide_eq_true hg1
      rw [hd]
      have HG1 := qHd hg1
      clear hc0 hg1 hd
      go_wp2_with fail
      (with_reducible refine HCM.out.mono ?_); rintro e w3 ⟨rfl, hb3⟩
      go_wp2_with fail
      go_ret
      exact ⟨by first | rfl | (simp; done) | (simp; exact HG1.out), HB2.out.step hb3⟩
     ·have hd : decide (g = 1) = false := decide_eq_false hg1
      rw [hd]
      obtain ⟨c, hc⟩ : ∃ c, c = cmpN g 1 := ⟨_, rfl⟩
      rw [← hc] at HCM
      have hc0 : (c == 0) = false := by
       rw [beq_eq_false_iff_ne, hc]; unfold cmpN; split
       ·decide
       ·split
        ·decide
        ·omega
      have HG1 := qHd hg1
      clear hc hg1 hd
      go_wp2_with fail
      (with_reducible refine HCM.out.mono ?_); rintro e w3 ⟨rfl, hb3⟩
      go_wp2_with fail
      go_ret
      exact ⟨by first | rfl | (simp; done) | (simp; exact HG1.out), HB2.out.step hb3⟩
   ·have hres : decide ((a ≠ [] ∧ Clean a) ∧ (b ≠ [] ∧ Clean b) ∧ Nat.gcd (val a) (val b) = 1) = false := decide_eq_false fun h => c2 h.2.1
    rw [hres]
    rw [decide_eq_true c1] at hp1
    rw [decide_eq_false c2] at hp2
    have HP1 := qHd hp1; have HP2 := qHd hp2
    clear hp1 hp2 hres
    rcases hab with hab | ⟨hab, hab2⟩
    ·go_enter Tryz.func43, Tryz.ntmps43
     go_wp2_with fail
     (with_reducible refine HP1.out.mono ?_); rintro e wx ⟨rfl, rfl⟩
     go_wp2_with fail
     (with_reducible refine HP2.out.mono ?_); rintro e wx ⟨rfl, rfl⟩
     go_wp2_with fail
     go_ret
     exact ⟨rfl, HBX.out⟩
    ·go_enter Tryz.func43, Tryz.ntmps43
     go_wp2_with fail
     (with_reducible refine HP1.out.mono ?_); rintro e wx ⟨rfl, rfl⟩
     go_wp2_with fail
     (with_reducible refine HP2.out.mono ?_); rintro e wx ⟨rfl, rfl⟩
     go_wp2_with fail
     go_ret
     exact ⟨rfl, HBX.out⟩
  ·have hres : decide ((a ≠ [] ∧ Clean a) ∧ (b ≠ [] ∧ Clean b) ∧ Nat.gcd (val a) (val b) = 1) = false := decide_eq_false fun h => c1 h.1
   rw [hres]
   rw [decide_eq_false c1] at hp1
   have HP1 := qHd hp1; have HP2 := qHd hp2
   clear hp1 hp2 hres
   rcases hab with hab | ⟨hab, hab2⟩
   ·go_enter Tryz.func43, Tryz.ntmps43
    go_wp2_with fail
    (with_reducible refine HP1.out.mono ?_); rintro e wx ⟨rfl, rfl⟩
    go_wp2_with fail
    go_ret
    exact ⟨rfl, HBX.out⟩
   ·go_enter Tryz.func43, Tryz.ntmps43
    go_wp2_with fail
    (with_reducible refine HP1.out.mono ?_); rintro e wx ⟨rfl, rfl⟩
    go_wp2_with fail
    go_ret
    exact ⟨rfl, HBX.out⟩
def RetParts (w : World) (q : Rat) (e : Ending) (w' : World) : Prop := ∃ vn vd, e = .returned (.tuple #[.bool (ng q), vn, vd]) ∧ Below w.heap.size w w' ∧ Num w' vn (wd (nn q)) ∧ Num w' vd (wd q.den)

theorem qbq (v : Value) (q : Rat) (w : World) (h : qcn w v q) :
  Calls Tryz.prog 22 #[v] w (RetParts w q) := by
 obtain ⟨s, a, b, hv, rfl, hla, hlb⟩ := h
 obtain ⟨va, vb, rfl, ha, hb⟩ := hv
 obtain ⟨ao, ca, rfl, hca, hca2, _⟩ := ha.shape
 obtain ⟨bo, cb, rfl, hcb, hcb2, _⟩ := hb.shape
 have hbx : Below w.heap.size w (w.alloc (.cells #[.bool s, .slice ao a.length ca, .slice bo b.length cb] 37)) := (Below.refl _ _).alloc (Nat.le_refl _) _
 have hvl := valid_any _ s a b _ (⟨_, _, rfl, ha.below hbx, hb.below hbx⟩ : RatV (w.alloc (.cells #[.bool s, .slice ao a.length ca, .slice bo b.length cb] 37)) _ s a b) (by omega) (by omega)
 by_cases h0 : rq s a b = 0
 ·rw [h0]
  have hbad : decide (Vld s a b) = false ∨ decide (Vld s a b) = true ∧ a.length = 0 := by
   by_cases hv : Vld s a b
   ·right
    obtain ⟨_, e, _⟩ := qde ha.lt hb.lt hv
    rw [h0, nn_zero, qbl] at e
    exact ⟨decide_eq_true hv, by rw [e]; rfl⟩
   ·left; exact decide_eq_false hv
  have HBX := qHd hbx; clear hbx h0
  rcases hbad with hd | ⟨hd, hl⟩
  ·rw [hd] at hvl
   have HV := qHd hvl; clear hvl hd ha hb
   go_enter Tryz.func22, Tryz.ntmps22
   go_wp2_with fail
   (with_reducible refine HV.out.mono ?_); rintro e w1 ⟨rfl, hb1⟩
   go_wp2_with fail
   (with_reducible refine (one_any _).mono ?_); rintro e w2 ⟨v2, rfl, hb2, hn2⟩
   go_wp2_with fail
   go_ret3
   exact ⟨_, _, rfl, (HBX.out.step hb1).step hb2, by rw [nn_zero, qbl]; exact Num.nil _, hn2⟩
  ·rw [hd] at hvl
   have c1 := fun w1 (h : Below _ _ w1) => box_kept (w := w) (cs := #[.bool s, .slice ao a.length ca, .slice bo b.length cb]) (T := 37) (w1 := w1) h 1
   have C1 := qHd c1
   have HV := qHd hvl; have HL := qHd hl; clear hvl hd c1 ha hb hl
   go_enter Tryz.func22, Tryz.ntmps22
   go_wp2_with fail
   (with_reducible refine HV.out.mono ?_); rintro e w1 ⟨rfl, hb1⟩
   have c1 : w1.cell? ⟨w.heap.size, 1, none⟩ = some (.slice ao a.length ca) := C1.out w1 hb1
   rw [HL.out] at c1
   go_wp2_with fail
   (with_reducible refine (one_any _).mono ?_); rintro e w2 ⟨v2, rfl, hb2, hn2⟩
   go_wp2_with fail
   go_ret3
   exact ⟨_, _, rfl, (HBX.out.step hb1).step hb2, by rw [nn_zero, qbl]; exact Num.nil _, hn2⟩
 ·have hv : Vld s a b := Decidable.byContradiction fun h => h0 (rq_invalid h)
  obtain ⟨e1, e2, e3⟩ := qde ha.lt hb.lt hv
  rw [dn_pos h0] at e3
  have hl : ((a.length : Int) == 0) = false := by
   rw [beq_eq_false_iff_ne]
   intro h
   have : a = [] := List.eq_nil_of_length_eq_zero (by omega)
   rw [e2] at this
   exact wd_ne (fun e => h0 (qcx.1 e)) this
  rw [decide_eq_true hv] at hvl
  have HE := qHd (And.intro e1 (And.intro e2 e3)); have HBX := qHd hbx; have HA := qHd (ha.below hbx); have HB := qHd (hb.below hbx); have HV := qHd hvl
  have bk := fun w1 (h : Below _ _ w1) j => box_kept (w := w) (cs := #[.bool s, .slice ao a.length ca, .slice bo b.length cb]) (T := 37) (w1 := w1) h j
  have BK := qHd bk
  clear e1 e2 e3 hbx ha hb hv hvl bk h0
  go_enter Tryz.func22, Tryz.ntmps22
  go_wp2_with fail
  (with_reducible refine HV.out.mono ?_); rintro e w1 ⟨rfl, hb1⟩
  have c0 : w1.cell? ⟨w.heap.size, 0, none⟩ = some (.bool s) := BK.out w1 hb1 0
  have c1 : w1.cell? ⟨w.heap.size, 1, none⟩ = some (.slice ao a.length ca) := BK.out w1 hb1 1
  have c2 : w1.cell? ⟨w.heap.size, 2, none⟩ = some (.slice bo b.length cb) := BK.out w1 hb1 2
  go_wp2_with fail
  go_quiet (fail)
  go_wp2_with fail
  go_ret3
  obtain ⟨e1, e2, e3⟩ := HE.out
  refine ⟨.slice ao a.length ca, .slice bo b.length cb, by rw [← e1]; rfl, qap (HBX.out.step hb1) _, ?_, ?_⟩
  ·rw [← e2]; exact (HA.out.below hb1).below (qap (Below.refl _ _) _)
  ·rw [← e3]; exact (HB.out.below hb1).below (qap (Below.refl _ _) _)

theorem frozen_kept {w w1 : World} {cs : Array Value} {T : TypeId} (hb : Below (w.alloc (.cells cs T)).heap.size (w.alloc (.cells cs T)) w1) (j : Nat) :
  w1.frozen? ⟨w.heap.size, j, none⟩ = false := by
 have h : w1.heap[w.heap.size]? = some (.cells cs T) := by
  rw [hb.block _ (by simp)]; exact heap_alloc_new w _
 simp [World.frozen?, h]

theorem heap_kept {w w1 : World} {o : Obj} (hb : Below (w.alloc o).heap.size (w.alloc o) w1) : w1.heap[w.heap.size]? = some o := by
 rw [hb.block _ (by simp)]; exact heap_alloc_new w _
def put3 (w : World) (g : Nat) (x y z : Value) : World := ((w.setCell ⟨g, 0, none⟩ x).setCell ⟨g, 1, none⟩ y).setCell ⟨g, 2, none⟩ z
theorem qce {w : World} {g : Nat} {a b c x y z : Value} {T : TypeId} (h : w.heap[g]? = some (.cells #[a, b, c] T)) : (put3 w g x y z).heap[g]? = some (.cells #[x, y, z] T) := by
 unfold put3 World.setCell
 simp [Array.getElem?_modify, h]
theorem qbx {w0 w : World} {B g : Nat} (h : Below B w0 w) (hg : B ≤ g) (x y z : Value) : Below B w0 (put3 w g x y z) :=
 ((h.setCell hg x).setCell hg y).setCell hg z
theorem put3_num {w : World} {g : Nat} {v : Value} {l : List Nat} {x y z : Value} {a b c : Value} {T : TypeId} (hn : Num w v l) (h : w.heap[g]? = some (.cells #[a, b, c] T)) (ha : ∀ n : Int, a ≠ .int .u32 n) (hb : ∀ n : Int, b ≠ .int .u32 n) (hc : ∀ n : Int, c ≠ .int .u32 n) : Num (put3 w g x y z) v l := by
 obtain ⟨ao, k, rfl, h1, h2, h3, h4, h5⟩ := hn
 refine ⟨ao, k, rfl, h1, h2, h3, ?_, h5⟩
 intro b' off s hs
 obtain ⟨k1, k2⟩ := h4 b' off s hs
 have hsz : (put3 w g x y z).heap.size = w.heap.size := by simp [put3, World.setCell]
 refine ⟨fun h0 => by rw [hsz]; exact k1 h0, fun j hj => ?_⟩
 by_cases he : b' = g
 ·subst he
  have := k2 j hj
  rw [cell_of_row w b' (off + j) _ _ _ h] at this
  have hsz3 : off + j < 3 := by
   have := (Array.getElem?_eq_some_iff.1 this).1; simpa using this
  have e : off + j = 0 ∨ off + j = 1 ∨ off + j = 2 := by omega
  rcases e with e | e | e <;> rw [e] at this <;> simp at this
  ·exact absurd this (ha _)
  ·exact absurd this (hb _)
  ·exact absurd this (hc _)
 ·rw [← k2 j hj]
  unfold World.cell?
  have e : (put3 w g x y z).heap[b']? = w.heap[b']? := by
   unfold put3
   rw [Below.heap_setCell _ _ _ _ he, Below.heap_setCell _ _ _ _ he, Below.heap_setCell _ _ _ _ he]
  simp only [e]
theorem rat_info : (Tryz.prog.info? 37).map (·.size) = some 3 := by kernel_rfl
theorem ret_rat {fn : Func} {R : Ending → World → Prop} {a : Act} {w : World} {p : Tmp} (h : fn.results = #[.cell p 37]) (g : Nat) (x y z : Value)
  (hp : a.tmps.getD p undef = .pointer (some ⟨g, 0, none⟩)) (hg : w.heap[g]? = some (.cells #[x, y, z] 37)) (hd : a.defers = []) (hR : R (.returned (.agg #[x, y, z])) w) : bodyPost Tryz.prog fn R .ret a w :=
 bodyPost_ret (results_cell_row h a.tmps w g 37 _ _ _ hp hg Tryz.underlying37 rfl rat_info) hd hR
theorem ret_rat2 {fn : Func} {R : Ending → World → Prop} {a : Act} {w : World} {p u : Tmp} (h : fn.results = #[.cell p 37, .tmp u]) (g : Nat) (x y z : Value)
  (hp : a.tmps.getD p undef = .pointer (some ⟨g, 0, none⟩)) (hg : w.heap[g]? = some (.cells #[x, y, z] 37)) (hd : a.defers = []) (hR : R (.returned (.tuple #[.agg #[x, y, z], a.tmps.getD u undef])) w) : bodyPost Tryz.prog fn R .ret a w := by
 refine bodyPost_ret (v := .tuple #[.agg #[x, y, z], a.tmps.getD u undef]) ?_ hd hR
 rw [results_cell_tmp h, hp]
 simp only [asAddr, Sem.run_pure, Result.andThen, run_loadVar_row w g 37 37 _ _ _ hg Tryz.underlying37 rfl rat_info]

theorem form_any (s : Bool) (vn vd : Value) (a b : List Nat) (w : World) (ha : Num w vn a) (hb : Num w vd b) (hla : a.length ≤ 400000) (hlb : b.length ≤ 400000) (hd : val b ≠ 0) :
  Calls Tryz.prog 24 #[.bool s, vn, vd] w (RetR w (qm s (val a) (val b))) := by
 have hbx : Below w.heap.size w (w.alloc (.cells #[.bool false, .slice none 0 0, .slice none 0 0] 37)) := (Below.refl _ _).alloc (Nat.le_refl _) _
 have hbits := bits_any vn a _ (ha.below hbx) (by omega)
 have HBX := qHd hbx
 by_cases h0 : val a = 0
 ·rw [h0, blen_zero] at hbits
  rw [h0, qm_zero]
  have HB := qHd hbits; clear hbits h0 ha hb hbx
  go_enter Tryz.func24, Tryz.ntmps24
  go_wp2_with fail
  (with_reducible refine HB.out.mono ?_); rintro e w1 ⟨rfl, rfl⟩
  go_wp2_with fail
  refine ret_rat rfl w.heap.size _ _ _ rfl (heap_alloc_new w _) rfl ?_
  exact ⟨_, rfl, HBX.out, isR_zero _⟩
 ·have hz : ((blen (val a) : Int) == 0) = false := by
   rw [beq_eq_false_iff_ne]; have := blen_pos.2 h0; omega
  have hgd := gcd_any vn vd a b _ (ha.below hbx) (hb.below hbx) (by omega) (by omega)
  obtain ⟨bl, hbl⟩ : ∃ bl, bl = blen (val a) := ⟨_, rfl⟩
  rw [← hbl] at hbits hz
  have hl1 := qbh ha.lt
  have hl2 := qbh hb.lt
  have hgl : (wd (Nat.gcd (val a) (val b))).length ≤ 400000 := by
   have h3 := qas (Nat.le_of_dvd (Nat.pos_of_ne_zero h0) (Nat.gcd_dvd_left (val a) (val b)))
   omega
  have hg0 : Nat.gcd (val a) (val b) ≠ 0 := fun h => h0 (Nat.eq_zero_of_gcd_eq_zero_left h)
  have hR : ng (qm s (val a) (val b)) = s ∧ nn (qm s (val a) (val b)) = val a / Nat.gcd (val a) (val b) ∧ dn (qm s (val a) (val b)) = val b / Nat.gcd (val a) (val b) :=
   ⟨ng_qm hd h0, nn_qm hd, dn_qm hd h0⟩
  obtain ⟨q, hq⟩ : ∃ q, q = qm s (val a) (val b) := ⟨_, rfl⟩
  rw [← hq] at hR ⊢
  obtain ⟨g, hg⟩ : ∃ g, g = Nat.gcd (val a) (val b) := ⟨_, rfl⟩
  rw [← hg] at hgd hgl hg0 hR
  have HR := qHd hR; have HBI := qHd hbits; have HGD := qHd hgd; have HA := qHd (ha.below hbx); have HB := qHd (hb.below hbx); have HG0 := qHd hg0
  clear hR hbits hgd ha hb hg0 hg hq hbl hbx h0
  go_enter Tryz.func24, Tryz.ntmps24
  go_wp2_with fail
  (with_reducible refine HBI.out.mono ?_); rintro e w1 ⟨rfl, rfl⟩
  go_wp2_with fail
  (with_reducible refine HGD.out.mono ?_); rintro e w1 ⟨v1, l1, rfl, hb1, hn1, rfl⟩
  have hd1 := div_any vn v1 a _ w1 (HA.out.below hb1) hn1 (by omega) (by omega) (by rw [qao]; exact HG0.out)
  rw [qao, qcm] at hd1
  have HD1 := qHd hd1; have HB1 := qHd hb1; have HN1 := qHd hn1
  clear hd1 hn1
  go_wp2_with fail
  (with_reducible refine HD1.out.mono ?_); rintro e w2 ⟨v2, u2, rfl, hb2, hn2, _⟩
  have hd2 := div_any vd v1 b _ w2 ((HB.out.below hb1).below hb2) (HN1.out.below hb2) (by omega) (by omega) (by rw [qao]; exact HG0.out)
  rw [qao, qcm] at hd2
  have HD2 := qHd hd2; have HB2 := qHd (HB1.out.step hb2); have HN2 := qHd hn2
  clear hd2 hn2 hb1
  go_wp2_with fail
  (with_reducible refine HD2.out.mono ?_); rintro e w3 ⟨v3, u3, rfl, hb3, hn3, _⟩
  have HB3 := qHd (HB2.out.step hb3); have HN2 := qHd (HN2.out.below hb3); have HN3 := qHd hn3
  clear hn3 hb2
  obtain ⟨o2, k2, rfl, _, _, _⟩ := HN2.out.shape
  obtain ⟨o3, k3, rfl, _, _, _⟩ := HN3.out.shape
  have f0 := frozen_kept HB3.out 0
  have f1 := frozen_kept HB3.out 1
  have f2 := frozen_kept HB3.out 2
  have c0 : w3.cell? ⟨w.heap.size, 0, none⟩ = some (.bool false) := box_kept HB3.out 0
  have c1 : w3.cell? ⟨w.heap.size, 1, none⟩ = some (.slice none 0 0) := box_kept HB3.out 1
  have c2 : w3.cell? ⟨w.heap.size, 2, none⟩ = some (.slice none 0 0) := box_kept HB3.out 2
  have hh := heap_kept HB3.out
  have HH := qHd hh; clear hh
  go_wp2_with fail
  refine ret_rat rfl w.heap.size _ _ _ rfl (qce HH.out) rfl ?_
  refine ⟨_, rfl, qbx (HBX.out.trans (HB3.out.mono (by simp))) (Nat.le_refl _) _ _ _, ?_⟩
  obtain ⟨e1, e2, e3⟩ := HR.out
  unfold IsR
  rw [e1, e2, e3]
  exact ⟨_, _, rfl, put3_num HN2.out HH.out (fun _ h => by cases h) (fun _ h => by cases h) (fun _ h => by cases h), put3_num HN3.out HH.out (fun _ h => by cases h) (fun _ h => by cases h) (fun _ h => by cases h)⟩
theorem blen_one_iff (g : Nat) : blen g = 1 ↔ g = 1 := by
 constructor
 ·intro h
  have h0 : g ≠ 0 := fun e => by rw [e, blen_zero] at h; cases h
  have h1 := lt_two_blen g
  rw [h] at h1
  have : (2 : Nat) ^ 1 = 2 := rfl
  omega
 ·intro h; subst h; decide
theorem vld_tops {s : Bool} {a b : List Nat} (ha : 0 < a.length) (hb : 0 < b.length) : Vld s a b ↔ gd a (a.length - 1) ≠ 0 ∧ gd b (b.length - 1) ≠ 0 ∧ Nat.gcd (val a) (val b) = 1 := by
 have na : a ≠ [] := fun e => by rw [e] at ha; simp at ha
 have nb : b ≠ [] := fun e => by rw [e] at hb; simp at hb
 rw [vld_parts (fun h => na h.1)]
 unfold Clean
 constructor
 ·rintro ⟨⟨_, h1⟩, ⟨_, h2⟩, h3⟩
  exact ⟨h1.resolve_left na, h2.resolve_left nb, h3⟩
 ·rintro ⟨h1, h2, h3⟩
  exact ⟨⟨na, .inr h1⟩, ⟨nb, .inr h2⟩, h3⟩
theorem vld_half {s : Bool} {a b : List Nat} (h : a = [] ∧ b ≠ [] ∨ a ≠ [] ∧ b = []) : ¬ Vld s a b := by
 rintro (⟨h1, h2, _⟩ | ⟨h1, h2, _⟩)
 ·rcases h with ⟨_, h⟩ | ⟨h, _⟩
  ·exact h h2
  ·exact h h1
 ·rcases h with ⟨h, _⟩ | ⟨_, h⟩
  ·exact h1 h
  ·exact h2 h

theorem rvalid_any (v : Value) (s : Bool) (a b : List Nat) (w : World) (h : RatV w v s a b) (hla : a.length ≤ 400000) (hlb : b.length ≤ 400000) :
  Calls Tryz.prog 38 #[v] w (RetV w (.bool (decide (Vld s a b)))) := by
 obtain ⟨va, vb, rfl, ha, hb⟩ := h
 obtain ⟨ao, ca, rfl, hca, hca2, _⟩ := ha.shape
 obtain ⟨bo, cb, rfl, hcb, hcb2, _⟩ := hb.shape
 have hbx : Below w.heap.size w (w.alloc (.cells #[.bool s, .slice ao a.length ca, .slice bo b.length cb] 37)) := (Below.refl _ _).alloc (Nat.le_refl _) _
 have HBX := qHd hbx
 by_cases h1 : a.length = 0
 ·obtain rfl := List.eq_nil_of_length_eq_zero h1
  by_cases h2 : b.length = 0
  ·obtain rfl := List.eq_nil_of_length_eq_zero h2
   have e : decide (Vld s [] []) = !s := by cases s <;> rfl
   rw [e]
   clear ha hb e hbx h1 h2
   go_enter Tryz.func38, Tryz.ntmps38
   go_wp2_with fail
   go_quiet (fail)
   go_wp2_with fail
   go_ret
   exact ⟨rfl, qap HBX.out _⟩
  ·have hd : decide (Vld s [] b) = false := decide_eq_false (vld_half (.inl ⟨rfl, fun e => h2 (by rw [e]; rfl)⟩))
   rw [hd]
   have f1 : ((b.length : Int) == 0) = false := by rw [beq_eq_false_iff_ne]; omega
   clear ha hb hbx h1 h2 hd
   go_enter Tryz.func38, Tryz.ntmps38
   go_wp2_with fail
   go_quiet (fail)
   go_wp2_with fail
   go_ret
   exact ⟨rfl, qap HBX.out _⟩
 ·have f0 : ((a.length : Int) == 0) = false := by rw [beq_eq_false_iff_ne]; omega
  by_cases h2 : b.length = 0
  ·obtain rfl := List.eq_nil_of_length_eq_zero h2
   have hd : decide (Vld s a []) = false := decide_eq_false (vld_half (.inr ⟨fun e => h1 (by rw [e]; rfl), rfl⟩))
   rw [hd]
   clear ha hb hbx h1 h2 hd
   go_enter Tryz.func38, Tryz.ntmps38
   go_wp2_with fail
   go_quiet (fail)
   go_wp2_with fail
   go_ret
   exact ⟨rfl, qap HBX.out _⟩
  ·have f1 : ((b.length : Int) == 0) = false := by rw [beq_eq_false_iff_ne]; omega
   have hd : decide (Vld s a b) = decide (gd a (a.length - 1) ≠ 0 ∧ gd b (b.length - 1) ≠ 0 ∧ Nat.gcd (val a) (val b) = 1) := decide_eq_decide.2 (vld_tops (by omega) (by omega))
   rw [hd]
   have HA := qHd (ha.below hbx); have HB := qHd (hb.below hbx)
   obtain ⟨ba, fa, rfl, _, hca'⟩ := ha.at (by omega)
   obtain ⟨bb, fb, rfl, _, hcb'⟩ := hb.at (by omega)
   have hxl := ha.lt (a.length - 1)
   have hyl := hb.lt (b.length - 1)
   have hxc : ∀ n, ((w.alloc (.cells #[.bool s, .slice (some ⟨ba, fa, none⟩) a.length ca, .slice (some ⟨bb, fb, none⟩) b.length cb] 37)).drewN n).cell? ⟨ba, fa + (a.length - 1), none⟩ = some (.int .u32 (gd a (a.length - 1) : Nat)) := fun n => by
    obtain ⟨b', o', e', _, h'⟩ := (((ha.below hbx).below (qap (Below.refl _ _) n))).at (by omega)
    cases e'
    exact h' _ (by omega)
   have hyc : ∀ n, ((w.alloc (.cells #[.bool s, .slice (some ⟨ba, fa, none⟩) a.length ca, .slice (some ⟨bb, fb, none⟩) b.length cb] 37)).drewN n).cell? ⟨bb, fb + (b.length - 1), none⟩ = some (.int .u32 (gd b (b.length - 1) : Nat)) := fun n => by
    obtain ⟨b', o', e', _, h'⟩ := (((hb.below hbx).below (qap (Below.refl _ _) n))).at (by omega)
    cases e'
    exact h' _ (by omega)
   obtain ⟨x, hx⟩ : ∃ x, x = gd a (a.length - 1) := ⟨_, rfl⟩
   obtain ⟨y, hy⟩ : ∃ y, y = gd b (b.length - 1) := ⟨_, rfl⟩
   rw [← hx] at hxc hxl
   rw [← hy] at hyc hyl
   rw [← hx, ← hy]
   have HXC := qHd hxc; have HYC := qHd hyc
   have hl1 := qbh HA.out.lt
   have hg0 : x ≠ 0 → val a ≠ 0 := fun h e => by
    have := clean_eq HA.out.lt (.inr (by rw [← hx]; exact h))
    rw [e, qbl] at this; rw [this] at h1; simp at h1
   have HG0 := qHd hg0
   clear ha hb hbx hd hx hy hca' hcb' hxc hyc hg0
   by_cases hx0 : x = 0
   ·subst hx0
    have hd : decide ((0 : Nat) ≠ 0 ∧ y ≠ 0 ∧ Nat.gcd (val a) (val b) = 1) = false := decide_eq_false fun h => h.1 rfl
    rw [hd]
    clear hd
    go_enter Tryz.func38, Tryz.ntmps38
    go_wp2_with fail
    go_quiet (fail)
    have hxc := HXC.out nq; have hyc := HYC.out nq
    go_wp2_with fail
    go_ret
    exact ⟨rfl, qap HBX.out _⟩
   ·have fx : (bne (x : Int) 0) = true := by rw [bne_iff_ne]; omega
    by_cases hy0 : y = 0
    ·subst hy0
     have hd : decide (x ≠ 0 ∧ (0 : Nat) ≠ 0 ∧ Nat.gcd (val a) (val b) = 1) = false := decide_eq_false fun h => h.2.1 rfl
     rw [hd]
     clear hd
     go_enter Tryz.func38, Tryz.ntmps38
     go_wp2_with fail
     go_quiet (fail)
     have hxc := HXC.out nq; have hyc := HYC.out nq
     go_wp2_with fail
     go_ret
     exact ⟨rfl, qap HBX.out _⟩
    ·have fy : (bne (y : Int) 0) = true := by rw [bne_iff_ne]; omega
     have hv0 := HG0.out hx0
     have hgl : (wd (Nat.gcd (val a) (val b))).length ≤ 400000 := by
      have h3 := qas (Nat.le_of_dvd (Nat.pos_of_ne_zero hv0) (Nat.gcd_dvd_left (val a) (val b)))
      omega
     have hd : decide (x ≠ 0 ∧ y ≠ 0 ∧ Nat.gcd (val a) (val b) = 1) = decide (blen (Nat.gcd (val a) (val b)) = 1) := by
      rw [decide_eq_decide, blen_one_iff]; exact ⟨fun h => h.2.2, fun h => ⟨hx0, hy0, h⟩⟩
     rw [hd]
     have hg := fun n => rgcd_any _ _ _ _ _ (HA.out.below (qap (Below.refl _ _) n)) (HB.out.below (qap (Below.refl _ _) n)) (by omega) (by omega)
     obtain ⟨g, hge⟩ : ∃ g, g = Nat.gcd (val a) (val b) := ⟨_, rfl⟩
     rw [← hge] at hg hgl ⊢
     have HG := qHd hg
     clear hd hge hg hv0 hx0 hy0
     go_enter Tryz.func38, Tryz.ntmps38
     go_wp2_with fail
     go_quiet (fail)
     have hxc := HXC.out nq; have hyc := HYC.out nq
     go_wp2_with fail
     (with_reducible refine (HG.out _).mono ?_); rintro e w1 ⟨v1, l1, rfl, hb1, hn1, rfl⟩
     have hbi := rbits_any _ _ w1 hn1 (by omega)
     rw [qao] at hbi
     obtain ⟨bl, hbl⟩ : ∃ bl, bl = blen g := ⟨_, rfl⟩
     rw [← hbl] at hbi
     have HBI := qHd hbi; have HB1 := qHd ((qap HBX.out nq).step hb1); have HBL := qHd hbl
     clear hbi hn1 hb1 hbl hxc hyc
     by_cases hb1 : bl = 1
     ·subst hb1
      go_wp2_with fail
      (with_reducible refine HBI.out.mono ?_); rintro e w2 ⟨rfl, rfl⟩
      go_wp2_with fail
      go_ret
      exact ⟨by rw [decide_eq_true HBL.out.symm]; rfl, HB1.out⟩
     ·have hbz : ((bl : Int) == 1) = false := by rw [beq_eq_false_iff_ne]; omega
      go_wp2_with fail
      (with_reducible refine HBI.out.mono ?_); rintro e w2 ⟨rfl, rfl⟩
      go_wp2_with fail
      go_ret
      exact ⟨by rw [decide_eq_false (fun e => hb1 (HBL.out.trans e))]; first | rfl | (simp; done) | (simp [hbz]; done), HB1.out⟩
theorem num_one1 (w : World) : Num (w.alloc (.cells #[.int .u32 1] 49)) (.slice (some ⟨w.heap.size, 0, none⟩) 1 1) (wd 1) := by
 rw [wd_one (by decide) (by decide)]; exact num_one w 49 1 (by decide)
theorem wd_one_len : (wd 1).length = 1 := by rw [wd_one (by decide) (by decide)]; rfl
def zc (d : Nat) : Nat := if d = 0 then 8 else 0
theorem qm_den0 (s : Bool) (n : Nat) : qm s n 0 = 0 := by unfold qm; rw [Rat.mkRat_zero]
theorem rparts_any (v : Value) (q : Rat) (w : World) (h : qcn w v q) :
  Calls Tryz.prog 65 #[v] w (RetParts w q) := by
 obtain ⟨s, a, b, hv, rfl, hla, hlb⟩ := h
 obtain ⟨va, vb, rfl, ha, hb⟩ := hv
 obtain ⟨ao, ca, rfl, hca, hca2, _⟩ := ha.shape
 obtain ⟨bo, cb, rfl, hcb, hcb2, _⟩ := hb.shape
 have hbx : Below w.heap.size w (w.alloc (.cells #[.bool s, .slice ao a.length ca, .slice bo b.length cb] 37)) := (Below.refl _ _).alloc (Nat.le_refl _) _
 have hvl := rvalid_any _ s a b _ (⟨_, _, rfl, ha.below hbx, hb.below hbx⟩ : RatV (w.alloc (.cells #[.bool s, .slice ao a.length ca, .slice bo b.length cb] 37)) _ s a b) (by omega) (by omega)
 by_cases h0 : rq s a b = 0
 ·rw [h0]
  have hbad : decide (Vld s a b) = false ∨ decide (Vld s a b) = true ∧ a.length = 0 := by
   by_cases hv : Vld s a b
   ·right
    obtain ⟨_, e, _⟩ := qde ha.lt hb.lt hv
    rw [h0, nn_zero, qbl] at e
    exact ⟨decide_eq_true hv, by rw [e]; rfl⟩
   ·left; exact decide_eq_false hv
  have HBX := qHd hbx; clear hbx h0
  rcases hbad with hd | ⟨hd, hl⟩
  ·rw [hd] at hvl
   have HV := qHd hvl; clear hvl hd ha hb
   go_enter Tryz.func65, Tryz.ntmps65
   go_wp2_with fail
   (with_reducible refine HV.out.mono ?_); rintro e w1 ⟨rfl, hb1⟩
   go_wp2_with fail
   go_ret3
   exact ⟨_, _, rfl, (HBX.out.step hb1).alloc (HBX.out.step hb1).size _, by rw [nn_zero, qbl]; exact Num.nil _, num_one1 _⟩
  ·rw [hd] at hvl
   have c1 := fun w1 (h : Below _ _ w1) => box_kept (w := w) (cs := #[.bool s, .slice ao a.length ca, .slice bo b.length cb]) (T := 37) (w1 := w1) h 1
   have C1 := qHd c1
   have HV := qHd hvl; have HL := qHd hl; clear hvl hd c1 ha hb hl
   go_enter Tryz.func65, Tryz.ntmps65
   go_wp2_with fail
   (with_reducible refine HV.out.mono ?_); rintro e w1 ⟨rfl, hb1⟩
   have c1 : w1.cell? ⟨w.heap.size, 1, none⟩ = some (.slice ao a.length ca) := C1.out w1 hb1
   rw [HL.out] at c1
   go_wp2_with fail
   go_ret3
   exact ⟨_, _, rfl, (HBX.out.step hb1).alloc (HBX.out.step hb1).size _, by rw [nn_zero, qbl]; exact Num.nil _, num_one1 _⟩
 ·have hv : Vld s a b := Decidable.byContradiction fun h => h0 (rq_invalid h)
  obtain ⟨e1, e2, e3⟩ := qde ha.lt hb.lt hv
  rw [dn_pos h0] at e3
  have hl : ((a.length : Int) == 0) = false := by
   rw [beq_eq_false_iff_ne]
   intro h
   have : a = [] := List.eq_nil_of_length_eq_zero (by omega)
   rw [e2] at this
   exact wd_ne (fun e => h0 (qcx.1 e)) this
  rw [decide_eq_true hv] at hvl
  have HE := qHd (And.intro e1 (And.intro e2 e3)); have HBX := qHd hbx; have HA := qHd (ha.below hbx); have HB := qHd (hb.below hbx); have HV := qHd hvl
  have bk := fun w1 (h : Below _ _ w1) j => box_kept (w := w) (cs := #[.bool s, .slice ao a.length ca, .slice bo b.length cb]) (T := 37) (w1 := w1) h j
  have BK := qHd bk
  clear e1 e2 e3 hbx ha hb hv hvl bk h0
  go_enter Tryz.func65, Tryz.ntmps65
  go_wp2_with fail
  (with_reducible refine HV.out.mono ?_); rintro e w1 ⟨rfl, hb1⟩
  have c0 : w1.cell? ⟨w.heap.size, 0, none⟩ = some (.bool s) := BK.out w1 hb1 0
  have c1 : w1.cell? ⟨w.heap.size, 1, none⟩ = some (.slice ao a.length ca) := BK.out w1 hb1 1
  have c2 : w1.cell? ⟨w.heap.size, 2, none⟩ = some (.slice bo b.length cb) := BK.out w1 hb1 2
  go_wp2_with fail
  go_quiet (fail)
  go_wp2_with fail
  go_ret3
  obtain ⟨e1, e2, e3⟩ := HE.out
  refine ⟨.slice ao a.length ca, .slice bo b.length cb, by rw [← e1]; rfl, qap (HBX.out.step hb1) _, ?_, ?_⟩
  ·rw [← e2]; exact (HA.out.below hb1).below (qap (Below.refl _ _) _)
  ·rw [← e3]; exact (HB.out.below hb1).below (qap (Below.refl _ _) _)
theorem rfrom_ok (s : Bool) (vn vd : Value) (a b : List Nat) (w : World) (ha : Num w vn a) (hb : Num w vd b) (hla : a.length ≤ 400000) (hlb : b.length ≤ 400000) (hd : val b ≠ 0) :
  Calls Tryz.prog 79 #[.bool s, vn, vd] w (RetRE w (qm s (val a) (val b)) (.int .i64 0)) := by
 have hbx : Below w.heap.size w (w.alloc (.cells #[.bool false, .slice none 0 0, .slice none 0 0] 37)) := (Below.refl _ _).alloc (Nat.le_refl _) _
 have hbits := rbits_any vn a _ (ha.below hbx) (by omega)
 have hbd := rbits_any vd b _ (hb.below hbx) (by omega)
 have hdz : ((blen (val b) : Int) == 0) = false := by
  rw [beq_eq_false_iff_ne]; have := blen_pos.2 hd; omega
 obtain ⟨bd, hbde⟩ : ∃ bd, bd = blen (val b) := ⟨_, rfl⟩
 rw [← hbde] at hbd hdz
 have HBD := qHd hbd
 clear hbde hbd
 have HBX := qHd hbx
 by_cases h0 : val a = 0
 ·rw [h0, blen_zero] at hbits
  rw [h0, qm_zero]
  have HB := qHd hbits; clear hbits h0 ha hb hbx
  go_enter Tryz.func79, Tryz.ntmps79
  go_wp2_with fail
  (with_reducible refine HBD.out.mono ?_); rintro e w1 ⟨rfl, rfl⟩
  go_wp2_with fail
  (with_reducible refine HB.out.mono ?_); rintro e w1 ⟨rfl, rfl⟩
  go_wp2_with fail
  refine ret_rat2 rfl w.heap.size _ _ _ rfl (heap_alloc_new w _) rfl ?_
  exact ⟨_, rfl, HBX.out, isR_zero _⟩
 ·have hz : ((blen (val a) : Int) == 0) = false := by
   rw [beq_eq_false_iff_ne]; have := blen_pos.2 h0; omega
  have hgd := rgcd_any vn vd a b _ (ha.below hbx) (hb.below hbx) (by omega) (by omega)
  obtain ⟨bl, hbl⟩ : ∃ bl, bl = blen (val a) := ⟨_, rfl⟩
  rw [← hbl] at hbits hz
  have hl1 := qbh ha.lt
  have hl2 := qbh hb.lt
  have hgl : (wd (Nat.gcd (val a) (val b))).length ≤ 400000 := by
   have h3 := qas (Nat.le_of_dvd (Nat.pos_of_ne_zero h0) (Nat.gcd_dvd_left (val a) (val b)))
   omega
  have hg0 : Nat.gcd (val a) (val b) ≠ 0 := fun h => h0 (Nat.eq_zero_of_gcd_eq_zero_left h)
  have hR : ng (qm s (val a) (val b)) = s ∧ nn (qm s (val a) (val b)) = val a / Nat.gcd (val a) (val b) ∧ dn (qm s (val a) (val b)) = val b / Nat.gcd (val a) (val b) :=
   ⟨ng_qm hd h0, nn_qm hd, dn_qm hd h0⟩
  obtain ⟨q, hq⟩ : ∃ q, q = qm s (val a) (val b) := ⟨_, rfl⟩
  rw [← hq] at hR ⊢
  obtain ⟨g, hg⟩ : ∃ g, g = Nat.gcd (val a) (val b) := ⟨_, rfl⟩
  rw [← hg] at hgd hgl hg0 hR
  have HR := qHd hR; have HBI := qHd hbits; have HGD := qHd hgd; have HA := qHd (ha.below hbx); have HB := qHd (hb.below hbx); have HG0 := qHd hg0
  clear hR hbits hgd ha hb hg0 hg hq hbl hbx h0
  go_enter Tryz.func79, Tryz.ntmps79
  go_wp2_with fail
  (with_reducible refine HBD.out.mono ?_); rintro e w1 ⟨rfl, rfl⟩
  go_wp2_with fail
  (with_reducible refine HBI.out.mono ?_); rintro e w1 ⟨rfl, rfl⟩
  go_wp2_with fail
  (with_reducible refine HGD.out.mono ?_); rintro e w1 ⟨v1, l1, rfl, hb1, hn1, rfl⟩
  have hd1 := rdiv_any vn v1 a _ w1 (HA.out.below hb1) hn1 (by omega) (by omega) (by rw [qao]; exact HG0.out)
  rw [qao] at hd1
  have HD1 := qHd hd1; have HB1 := qHd hb1; have HN1 := qHd hn1
  clear hd1 hn1
  go_wp2_with fail
  (with_reducible refine HD1.out.mono ?_); rintro e w2 ⟨v2, u2, rfl, hb2, hn2, _⟩
  have hd2 := rdiv_any vd v1 b _ w2 ((HB.out.below hb1).below hb2) (HN1.out.below hb2) (by omega) (by omega) (by rw [qao]; exact HG0.out)
  rw [qao] at hd2
  have HD2 := qHd hd2; have HB2 := qHd (HB1.out.step hb2); have HN2 := qHd hn2
  clear hd2 hn2 hb1
  go_wp2_with fail
  (with_reducible refine HD2.out.mono ?_); rintro e w3 ⟨v3, u3, rfl, hb3, hn3, _⟩
  have HB3 := qHd (HB2.out.step hb3); have HN2 := qHd (HN2.out.below hb3); have HN3 := qHd hn3
  clear hn3 hb2
  obtain ⟨o2, k2, rfl, _, _, _⟩ := HN2.out.shape
  obtain ⟨o3, k3, rfl, _, _, _⟩ := HN3.out.shape
  have f0 := frozen_kept HB3.out 0
  have f1 := frozen_kept HB3.out 1
  have f2 := frozen_kept HB3.out 2
  have c0 : w3.cell? ⟨w.heap.size, 0, none⟩ = some (.bool false) := box_kept HB3.out 0
  have c1 : w3.cell? ⟨w.heap.size, 1, none⟩ = some (.slice none 0 0) := box_kept HB3.out 1
  have c2 : w3.cell? ⟨w.heap.size, 2, none⟩ = some (.slice none 0 0) := box_kept HB3.out 2
  have hh := heap_kept HB3.out
  have HH := qHd hh; clear hh
  go_wp2_with fail
  refine ret_rat2 rfl w.heap.size _ _ _ rfl (qce HH.out) rfl ?_
  refine ⟨_, rfl, qbx (HBX.out.trans (HB3.out.mono (by simp))) (Nat.le_refl _) _ _ _, ?_⟩
  obtain ⟨e1, e2, e3⟩ := HR.out
  unfold IsR
  rw [e1, e2, e3]
  exact ⟨_, _, rfl, put3_num HN2.out HH.out (fun _ h => by cases h) (fun _ h => by cases h) (fun _ h => by cases h), put3_num HN3.out HH.out (fun _ h => by cases h) (fun _ h => by cases h) (fun _ h => by cases h)⟩
theorem rfrom_zero (s : Bool) (vn vd : Value) (b : List Nat) (w : World) (hb : Num w vd b) (hlb : b.length ≤ 400000) (hd : val b = 0) :
  Calls Tryz.prog 79 #[.bool s, vn, vd] w (RetRE w 0 (.int .i64 8)) := by
 have hbx : Below w.heap.size w (w.alloc (.cells #[.bool false, .slice none 0 0, .slice none 0 0] 37)) := (Below.refl _ _).alloc (Nat.le_refl _) _
 have hbd := rbits_any vd b _ (hb.below hbx) (by omega)
 rw [hd, blen_zero] at hbd
 have HB := qHd hbd; have HBX := qHd hbx; clear hbd hd hb hbx
 go_enter Tryz.func79, Tryz.ntmps79
 go_wp2_with fail
 (with_reducible refine HB.out.mono ?_); rintro e w1 ⟨rfl, rfl⟩
 go_wp2_with fail
 refine ret_rat2 rfl w.heap.size _ _ _ rfl (heap_alloc_new w _) rfl ?_
 exact ⟨_, rfl, HBX.out, isR_zero _⟩
theorem rfrom_any (s : Bool) (vn vd : Value) (a b : List Nat) (w : World) (ha : Num w vn a) (hb : Num w vd b) (hla : a.length ≤ 400000) (hlb : b.length ≤ 400000) :
  Calls Tryz.prog 79 #[.bool s, vn, vd] w (RetRE w (qm s (val a) (val b)) (.int .i64 (zc (val b) : Nat))) := by
 unfold zc
 by_cases hd : val b = 0
 ·rw [hd, if_pos rfl, qm_den0]; exact rfrom_zero s vn vd b w hb hlb hd
 ·rw [if_neg hd]; exact rfrom_ok s vn vd a b w ha hb hla hlb hd
theorem qab {w w1 : World} {g : Nat} {o : Obj} (h : w.heap[g]? = some o) (hb : Below w.heap.size w w1) : w1.heap[g]? = some o := by
 rw [hb.block _ (Array.getElem?_eq_some_iff.1 h).1]; exact h
theorem row3 {w : World} {g : Nat} {x y z : Value} {T : TypeId} (h : w.heap[g]? = some (.cells #[x, y, z] T)) :
  w.cell? ⟨g, 0, none⟩ = some x ∧ w.cell? ⟨g, 1, none⟩ = some y ∧ w.cell? ⟨g, 2, none⟩ = some z :=
 ⟨cell_of_row _ _ _ _ _ _ h, cell_of_row _ _ _ _ _ _ h, cell_of_row _ _ _ _ _ _ h⟩
theorem froz3 {w : World} {g : Nat} {x y z : Value} {T : TypeId} (h : w.heap[g]? = some (.cells #[x, y, z] T)) :
  w.frozen? ⟨g, 0, none⟩ = false ∧ w.frozen? ⟨g, 1, none⟩ = false ∧ w.frozen? ⟨g, 2, none⟩ = false := by
 refine ⟨?_, ?_, ?_⟩ <;> simp [World.frozen?, h]
theorem qcn.shape {w : World} {v : Value} {q : Rat} (h : qcn w v q) : ∃ s ao n c bo m d, v = .agg #[.bool s, .slice ao n c, .slice bo m d] := by
 obtain ⟨s, a, b, ⟨va, vb, rfl, h1, h2⟩, _⟩ := h
 obtain ⟨ao, c, rfl, _⟩ := h1.shape
 obtain ⟨bo, d, rfl, _⟩ := h2.shape
 exact ⟨s, ao, _, c, bo, _, d, rfl⟩
theorem IsR.shape {w : World} {v : Value} {q : Rat} (h : IsR w v q) : ∃ s ao n c bo m d, v = .agg #[.bool s, .slice ao n c, .slice bo m d] := by
 obtain ⟨va, vb, rfl, h1, h2⟩ := h
 obtain ⟨ao, c, rfl, _⟩ := h1.shape
 obtain ⟨bo, d, rfl, _⟩ := h2.shape
 exact ⟨_, ao, _, c, bo, _, d, rfl⟩
theorem ratV_put {w : World} {g : Nat} {v : Value} {s : Bool} {a b : List Nat} {x y z p q r : Value} {T : TypeId} (h : RatV w v s a b) (hg : w.heap[g]? = some (.cells #[p, q, r] T))
  (hp : ∀ n : Int, p ≠ .int .u32 n) (hq : ∀ n : Int, q ≠ .int .u32 n) (hr : ∀ n : Int, r ≠ .int .u32 n) : RatV (put3 w g x y z) v s a b := by
 obtain ⟨va, vb, rfl, h1, h2⟩ := h
 exact ⟨va, vb, rfl, put3_num h1 hg hp hq hr, put3_num h2 hg hp hq hr⟩
theorem isR_put {w : World} {g : Nat} {v : Value} {u : Rat} {x y z : Value} {s : Bool} {ao bo : Option Addr} {n c m d : Nat} {T : TypeId} (h : IsR w v u) (hg : w.heap[g]? = some (.cells #[.bool s, .slice ao n c, .slice bo m d] T)) : IsR (put3 w g x y z) v u :=
 ratV_put h hg (fun _ h => by cases h) (fun _ h => by cases h) (fun _ h => by cases h)
section
variable {u v : Value} {m n : Nat} {w : World}
theorem addN (h1 : Num w u (wd m)) (h2 : Num w v (wd n)) (l1 : (wd m).length ≤ 400000) (l2 : (wd n).length ≤ 400000) : Calls Tryz.prog 25 #[u, v] w (RetN w (m + n)) := by
 have h := add_any u v _ _ w h1 h2 (by omega) (by omega)
 rw [qao, qao] at h; exact h.mono fun _ _ => RetNum.n
theorem mulN (h1 : Num w u (wd m)) (h2 : Num w v (wd n)) (l1 : (wd m).length ≤ 400000) (l2 : (wd n).length ≤ 400000) : Calls Tryz.prog 23 #[u, v] w (RetN w (m * n)) := by
 have h := mul_any u v _ _ w h1 h2 (by omega) (by omega)
 rw [qao, qao] at h; exact h.mono fun _ _ => RetNum.n
theorem cmpN_ (h1 : Num w u (wd m)) (h2 : Num w v (wd n)) (l1 : (wd m).length ≤ 400000) (l2 : (wd n).length ≤ 400000) : Calls Tryz.prog 26 #[u, v] w (RetV w (.int .i64 (cmpN m n))) := by
 have h := cmp_any u v _ _ w h1 h2 (by omega) (by omega)
 rw [qao, qao] at h; exact h
theorem subN (h1 : Num w u (wd m)) (h2 : Num w v (wd n)) (l1 : (wd m).length ≤ 400000) (l2 : (wd n).length ≤ 400000) (hle : n ≤ m) : Calls Tryz.prog 27 #[u, v] w (RetNE w (m - n) .nilIface) := by
 have h := sub_ge u v _ _ w h1 h2 (by omega) (by omega) (by rw [qao, qao]; exact hle)
 rw [qao, qao, qcm] at h; exact h
theorem formN (s : Bool) (h1 : Num w u (wd m)) (h2 : Num w v (wd n)) (l1 : (wd m).length ≤ 400000) (l2 : (wd n).length ≤ 400000) (h0 : n ≠ 0) : Calls Tryz.prog 24 #[.bool s, u, v] w (RetR w (qm s m n)) := by
 have h := form_any s u v _ _ w h1 h2 l1 l2 (by rw [qao]; exact h0)
 rw [qao, qao] at h; exact h
end
end Go.Proofs.YtblekfkmianmeaaGreatDoor
