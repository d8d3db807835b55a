/-
  The reference's Add, natural.Sub and the reference's: what they hand back.
  Conditions: each theorem's own.
-/
import Derived.Test.YtdepoikifneggaaDoorNat3
namespace Go.Proofs.YtdepoikifneggaaDoor
open Go.RowKit Go.ChangeShapes Go.WideShapes

theorem cmpN_nlt {m n : Nat} (h : n ≤ m) : decide (cmpN m n < 0) = false := by
  unfold cmpN; rw [if_neg (by omega)]; split <;> rfl
theorem cmpN_islt {m n : Nat} (h : m < n) : decide (cmpN m n < 0) = true := by
  unfold cmpN; rw [if_pos h]; rfl
/-- an error by its number -/
def errV (c : Nat) : Value := if c = 0 then .nilIface else .iface 50 (.int .i64 c)
theorem errV_zero : errV 0 = .nilIface := rfl
theorem errV_pos {c : Nat} (h : c ≠ 0) : errV c = .iface 50 (.int .i64 c) := by simp [errV, h]
/-- hands back words and an error -/
def RetNE (w : World) (n : Nat) (er : Value) (e : Ending) (w' : World) : Prop := ∃ v, e = .returned (.tuple #[v, er]) ∧ Below w.heap.size w w' ∧ Num w' v (wd n)
/-- .. words of the call's own -/
def RetNEO (w : World) (n : Nat) (er : Value) (e : Ending) (w' : World) : Prop := ∃ v, e = .returned (.tuple #[v, er]) ∧ Below w.heap.size w w' ∧ OwnW 38 w' w.heap.size v (wd n)
/-- a slice literal of one word, as the walk lays it -/
theorem num_one (w : World) (e : TypeId) (x : Nat) (hx : x < 4294967296) : Num (w.alloc (.cells #[.int .u32 x] e)) (.slice (some ⟨w.heap.size, 0, none⟩) 1 1) [x] :=
  num_lit w e _ [x] 1 (U32.cons hx U32.nil) rfl (by simp) rfl

set_option maxRecDepth 100000 in
set_option maxHeartbeats 800000 in
theorem radd_any (va vb : Value) (a b : List Nat) (w : World) (ha : Num w va a) (hb : Num w vb b) (hla : a.length ≤ 900000) (hlb : b.length ≤ 900000) :
    Calls Tryd.prog 33 #[va, vb] w (RetNum w fun r => r = wd (val a + val b)) := by
  obtain ⟨ao, ca, rfl, hca, hca2, _⟩ := ha.shape
  obtain ⟨bo, cb, rfl, hcb, hcb2, _⟩ := hb.shape
  obtain ⟨n, hn⟩ : ∃ n, n = max a.length b.length + 1 := ⟨_, rfl⟩
  have hnb : n ≤ 900001 := by omega
  have hni : max (a.length : Int) (b.length : Int) + 1 = (n : Int) := by omega
  have HN := Lib.hid hn
  have HA := Lib.hid ha; have HB := Lib.hid hb
  clear hn ha hb
  go_enter Tryd.func33, Tryd.ntmps33
  go_wp2_with fail
  have HNI := Lib.hid hni; clear hni
  go_loopw [5, 6, 15] (fun v c i wr => ∃ (k cc : Nat) (l : List Nat), k ≤ n ∧ i = .int .i64 k ∧ c = .int .u64 cc ∧ cc ≤ 1 ∧ OwnW 38 wr w.heap.size v l ∧ Hid (l.length = k) ∧ Below w.heap.size w wr ∧
      Hid (val l + 4294967296 ^ k * cc = val (a.take k) + val (b.take k))) (fun _ _ i _ => n - (intOf i).toNat)
  case atStart => exact ⟨0, 0, [], Nat.zero_le _, rfl, rfl, by omega, OwnW.nil _ _ _, Lib.hid rfl, Below.refl _ _, Lib.hid (by simp [val])⟩
  case round =>
    obtain ⟨k, cc, l, hk, rfl, rfl, hcc, hOr, hll, hBr, hinv⟩ := hrel
    have hak := HA.out.lt k
    have hbk := HB.out.lt k
    have har := Lib.hid (HA.out.below hBr)
    have hbr := Lib.hid (HB.out.below hBr)
    by_cases hkn : k < n
    · obtain ⟨x, hx⟩ : ∃ x, x = gd a k := ⟨_, rfl⟩
      obtain ⟨y, hy⟩ : ∃ y, y = gd b k := ⟨_, rfl⟩
      have hwa := rword_any _ a k wr har.out (by omega) (by omega)
      have hwb := rword_any _ b k wr hbr.out (by omega) (by omega)
      rw [Int.toNat_natCast, ← hx] at hwa
      rw [Int.toNat_natCast, ← hy] at hwb
      rw [← hx] at hak
      rw [← hy] at hbk
      have HWA := Lib.hid hwa; have HWB := Lib.hid hwb; have HX := Lib.hid hx; have HY := Lib.hid hy; clear hwa hwb hx hy
      have HO := Lib.hid hOr
      obtain ⟨s1, s2⟩ := add_bounds hcc hak hbk
      have h1 := num_one wr 38 ((cc + (x + y)) % 4294967296) s2
      have S2 := Lib.hid s2; have S1 := Lib.hid s1
      have hszr := hBr.size
      have H1 := Lib.hid h1
      have e1 : cc + (x + y) = x + y + cc := by omega
      have E1 := Lib.hid e1
      clear hOr s1 s2 h1 e1
      rw [E1.out] at H1 S1 S2
      go_wp2_with (first | (go_at_call 57; (with_reducible refine HWA.out.mono ?_); rintro e w' ⟨rfl, rfl⟩) | (go_at_call 57; (with_reducible refine HWB.out.mono ?_); rintro e w' ⟨rfl, rfl⟩) |
        (at_builtin; refine wpList_appendN Tryd.wordsTy rfl (.tmp 27) (.tmp 30) rfl w.heap.size _ _ l [(x + y + cc) % 4294967296] rfl rfl (HO.out.alloc _) H1.out ?c1 ?c2 ?_))
      case c1 => rw [hll.out]; simp; omega
      case c2 => simp; omega
      intro v' w1 h1 h2 h3
      have h4 := h2 w (hBr.alloc hszr _)
      go_wp2_with fail
      go_roundw
      case rel =>
        exact ⟨k + 1, (x + y + cc) / 4294967296, l ++ [(x + y + cc) % 4294967296], by omega, by go_num, rfl, S1.out, h1, Lib.hid (by rw [List.length_append, hll.out]; rfl), h4,
          Lib.hid (by rw [val_snoc, hll.out, Nat.pow_succ, ← E1.out, add_step hinv.out, val_take_succ, val_take_succ, ← HX.out, ← HY.out])⟩
      case measure => simp [intOf]; omega
    · obtain rfl : k = n := by omega
      have hnum := hOr.num
      have hv : val l = val a + val b := by
        have := hinv.out
        rw [val_take_full a (by rw [HN.out]; omega), val_take_full b (by rw [HN.out]; omega)] at this
        exact add_end HA.out.lt HB.out.lt (by rw [HN.out]; omega) this
      have htr := rtrim_any _ _ _ hnum (by rw [hll.out]; omega)
      rw [hv] at htr
      have HT := Lib.hid htr; clear hnum hv htr
      have HL := hll.out
      go_wp2_with (go_at_call 55; (with_reducible refine HT.out.mono ?_); rintro e w' ⟨v', l', rfl, hB', hN', hl'⟩)
      go_ret
      exact ⟨_, _, rfl, hBr.trans (hB'.mono hBr.size), hN', hl'⟩

/-- a word less another one less a borrow, in 64 bits -/
def subW (x y r : Nat) : Nat := if y + r ≤ x then x - y - r else 18446744073709551616 + x - y - r
theorem subW_lt {x y r : Nat} (hx : x < 4294967296) (hy : y < 4294967296) (hr : r ≤ 1) : subW x y r < 18446744073709551616 := by unfold subW; split <;> omega
theorem subW_wrap {x y r : Nat} (hx : x < 4294967296) (hy : y < 4294967296) (hr : r ≤ 1) : IntKind.u64.wrap (IntKind.u64.wrap ((x : Int) - y) - r) = (subW x y r : Nat) := by
  have e : ∀ n : Int, IntKind.u64.wrap n = n % 18446744073709551616 := fun n => rfl
  rw [e, e]; unfold subW; split <;> omega
theorem subW_borrow {x y r : Nat} (hx : x < 4294967296) (hy : y < 4294967296) (hr : r ≤ 1) : subW x y r / 9223372036854775808 ≤ 1 ∧
    subW x y r % 4294967296 + y + r = x + 4294967296 * (subW x y r / 9223372036854775808) := by unfold subW; split <;> omega

set_option maxRecDepth 100000 in
set_option maxHeartbeats 800000 in
theorem sub_ge (va vb : Value) (a b : List Nat) (w : World) (ha : Num w va a) (hb : Num w vb b) (hla : a.length ≤ 900000) (hlb : b.length ≤ 900000) (hge : val b ≤ val a) :
    Calls Tryd.prog 30 #[va, vb] w (RetNE w (val a - val b) (errV 0)) := by
  have hcmp := cmp_any va vb a b w ha hb (by omega) (by omega)
  obtain ⟨cr, hcr⟩ : ∃ cr, cr = cmpN (val a) (val b) := ⟨_, rfl⟩
  have hcr0 : decide (cr < 0) = false := by rw [hcr]; exact cmpN_nlt hge
  rw [← hcr] at hcmp
  have HC := Lib.hid hcmp; clear hcmp hcr
  obtain ⟨ao, ca, rfl, hca, hca2, _⟩ := ha.shape
  obtain ⟨bo, cb, rfl, hcb, hcb2, _⟩ := hb.shape
  obtain ⟨n, hn⟩ : ∃ n, n = a.length := ⟨_, rfl⟩
  have hnb : n ≤ 900000 := by omega
  have hnb' : n ≤ 70368744177664 := by omega
  have HN := Lib.hid hn
  have HA := Lib.hid ha; have HB := Lib.hid hb
  clear hn ha hb
  rw [errV_zero]
  go_enter Tryd.func30, Tryd.ntmps30
  go_wp2_with fail
  (with_reducible refine HC.out.mono ?_); rintro e w0 ⟨rfl, hb0⟩
  go_wp2_with (at_make; refine wpList_makeN Tryd.wordsTy rfl _ _ rfl _ _ _ _ n rfl rfl ?c1 ?c2 hnb' ?_)
  case c1 => rw [HN.out]
  case c2 => rw [HN.out]
  intro w1 hO hB hsz
  have hB01 := hb0.trans (hB.mono hb0.size)
  have hOb := hO.base hb0.size
  clear hO hB
  go_wp2_with fail
  go_loopw [7, 9, 20] (fun c d i wr => ∃ (k cc : Nat) (l : List Nat), k ≤ n ∧ i = .int .i64 k ∧ c = .int .u64 cc ∧ cc ≤ 1 ∧ OwnW 38 wr w.heap.size (.slice (some ⟨w0.heap.size, 0, none⟩) n n) l ∧ Hid (l.length = n) ∧ Below w.heap.size w wr ∧
      Hid (val (l.take k) + val (b.take k) = val (a.take k) + 4294967296 ^ k * cc)) (fun _ _ i _ => n - (intOf i).toNat)
  case atStart => exact ⟨0, 0, _, Nat.zero_le _, rfl, rfl, by omega, hOb, Lib.hid (by simp), hB01, Lib.hid (by simp [val])⟩
  case round =>
    obtain ⟨k, cc, l, hk, rfl, rfl, hcc, hOr, hll, hBr, hinv⟩ := hrel
    have hak := HA.out.lt k
    have hbk := HB.out.lt k
    have har := Lib.hid (HA.out.below hBr)
    have hbr := Lib.hid (HB.out.below hBr)
    by_cases hkn : k < n
    · obtain ⟨x, hx⟩ : ∃ x, x = gd a k := ⟨_, rfl⟩
      obtain ⟨y, hy⟩ : ∃ y, y = gd b k := ⟨_, rfl⟩
      have hwa := word_any _ a k wr har.out (by omega) (by omega)
      have hwb := word_any _ b k wr hbr.out (by omega) (by omega)
      rw [Int.toNat_natCast, ← hx] at hwa
      rw [Int.toNat_natCast, ← hy] at hwb
      rw [← hx] at hak
      rw [← hy] at hbk
      have HWA := Lib.hid hwa; have HWB := Lib.hid hwb; have HX := Lib.hid hx; have HY := Lib.hid hy; clear hwa hwb hx hy
      have hcell := hOr.cell hll.out k hkn
      have hfr := hOr.frozen hll.out k
      have HO := Lib.hid hOr
      have hsw := subW_wrap hak hbk hcc
      have hslt := subW_lt hak hbk hcc
      have hsb := subW_borrow hak hbk hcc
      obtain ⟨d, hd⟩ : ∃ d, d = subW x y cc := ⟨_, rfl⟩
      rw [← hd] at hsw hslt hsb
      obtain ⟨s1, s2⟩ := hsb
      have S2 := Lib.hid s2; have S1 := Lib.hid s1
      have hdm : d % 4294967296 < 4294967296 := Nat.mod_lt _ (by decide)
      have HDM := Lib.hid hdm
      clear hOr s1 s2 hd hdm
      have hcell' := hcell
      go_wp2_with (first | (go_at_call 59; (with_reducible refine HWA.out.mono ?_); rintro e w' ⟨rfl, rfl⟩) | (go_at_call 59; (with_reducible refine HWB.out.mono ?_); rintro e w' ⟨rfl, rfl⟩))
      go_roundw
      case rel =>
        have hst := HO.out.stored hll.out k (d % 4294967296) HDM.out
        exact ⟨k + 1, d / 9223372036854775808, l.set k (d % 4294967296), by omega, by go_num, rfl, S1.out, hst, Lib.hid (by rw [List.length_set]; exact hll.out), hBr.setCell hb0.size _,
          Lib.hid (by rw [val_take_set _ _ _ (by rw [hll.out]; exact hkn), Nat.pow_succ, val_take_succ, val_take_succ, ← HX.out, ← HY.out]; exact sub_step hinv.out S2.out)⟩
      case measure => simp [intOf]; omega
    · obtain rfl : k = n := by omega
      have hnum := hOr.num
      have hv : val l = val a - val b := by
        have hi := hinv.out
        have hlt := val_lt (hOr.lt)
        have halt := val_lt HA.out.lt
        rw [hll.out] at hlt
        rw [← HN.out] at halt
        rw [val_take_full l (by rw [hll.out]; exact Nat.le_refl _), val_take_full a (by rw [HN.out]; omega), val_take HB.out.lt, Nat.mod_eq_of_lt (by omega)] at hi
        exact sub_end hlt hi hge hcc
      have htr := trim_any _ _ _ hnum (by rw [hll.out]; omega)
      rw [hv] at htr
      have HT := Lib.hid htr; clear hnum hv htr
      have HL := hll.out
      go_wp2_with (go_at_call 48; (with_reducible refine HT.out.mono ?_); rintro e w' ⟨v', l', rfl, hB', hN', hl'⟩)
      go_ret2
      exact ⟨_, rfl, hBr.trans (hB'.mono hBr.size), by rw [← hl']; exact hN'⟩
set_option maxRecDepth 100000 in
set_option maxHeartbeats 800000 in
theorem sub_lt (va vb : Value) (a b : List Nat) (w : World) (ha : Num w va a) (hb : Num w vb b) (hla : a.length ≤ 900000) (hlb : b.length ≤ 900000) (hlt : val a < val b) :
    Calls Tryd.prog 30 #[va, vb] w (RetNE w 0 (errV 3)) := by
  have hcmp := cmp_any va vb a b w ha hb (by omega) (by omega)
  obtain ⟨cr, hcr⟩ : ∃ cr, cr = cmpN (val a) (val b) := ⟨_, rfl⟩
  have hcr0 : decide (cr < 0) = true := by rw [hcr]; exact cmpN_islt hlt
  rw [← hcr] at hcmp
  have HC := Lib.hid hcmp; clear hcmp hcr
  clear ha hb hla hlb hlt
  rw [errV_pos (by decide)]
  go_enter Tryd.func30, Tryd.ntmps30
  go_wp2_with (go_at_call 26; (with_reducible refine HC.out.mono ?_); rintro e w0 ⟨rfl, hb0⟩)
  go_ret2
  exact ⟨_, rfl, hb0, by rw [wd_zero]; exact Num.nil _⟩

set_option maxRecDepth 100000 in
set_option maxHeartbeats 800000 in
theorem rsub_lt (va vb : Value) (a b : List Nat) (w : World) (ha : Num w va a) (hb : Num w vb b) (hla : a.length ≤ 900000) (hlb : b.length ≤ 900000) (hlt : val a < val b) :
    Calls Tryd.prog 31 #[va, vb] w (RetNE w 0 (.int .i64 3)) := by
  have hcmp := rcmp_any va vb a b w ha hb (by omega) (by omega)
  obtain ⟨cr, hcr⟩ : ∃ cr, cr = cmpN (val a) (val b) := ⟨_, rfl⟩
  have hcr0 : decide (cr < 0) = true := by rw [hcr]; exact cmpN_islt hlt
  rw [← hcr] at hcmp
  have HC := Lib.hid hcmp; clear hcmp hcr
  clear ha hb hla hlb hlt
  go_enter Tryd.func31, Tryd.ntmps31
  go_wp2_with (go_at_call 27; (with_reducible refine HC.out.mono ?_); rintro e w0 ⟨rfl, rfl⟩)
  go_ret2
  exact ⟨_, rfl, Below.refl _ _, by rw [wd_zero]; exact Num.nil _⟩

set_option maxRecDepth 100000 in
set_option maxHeartbeats 800000 in
theorem rsub_own (va vb : Value) (a b : List Nat) (w : World) (ha : Num w va a) (hb : Num w vb b) (hla : a.length ≤ 900000) (hlb : b.length ≤ 900000) (hge : val b ≤ val a) :
    Calls Tryd.prog 31 #[va, vb] w (RetNEO w (val a - val b) (.int .i64 0)) := by
  have hcmp := rcmp_any va vb a b w ha hb (by omega) (by omega)
  obtain ⟨cr, hcr⟩ : ∃ cr, cr = cmpN (val a) (val b) := ⟨_, rfl⟩
  have hcr0 : decide (cr < 0) = false := by rw [hcr]; exact cmpN_nlt hge
  rw [← hcr] at hcmp
  have HC := Lib.hid hcmp; clear hcmp hcr
  obtain ⟨ao, ca, rfl, hca, hca2, _⟩ := ha.shape
  obtain ⟨bo, cb, rfl, hcb, hcb2, _⟩ := hb.shape
  obtain ⟨n, hn⟩ : ∃ n, n = a.length := ⟨_, rfl⟩
  have hni : (a.length : Int) = (n : Int) := by omega
  have HNI := Lib.hid hni; clear hni
  have hnb : n ≤ 900000 := by omega
  have hnb' : n ≤ 70368744177664 := by omega
  have HN := Lib.hid hn
  have HA := Lib.hid ha; have HB := Lib.hid hb
  clear hn ha hb
  go_enter Tryd.func31, Tryd.ntmps31
  go_wp2_with (go_at_call 27; (with_reducible refine HC.out.mono ?_); rintro e w0 ⟨rfl, rfl⟩)
  go_loopw [6, 7, 9, 16] (fun v c d i wr => ∃ (k cc : Nat) (l : List Nat), k ≤ n ∧ i = .int .i64 k ∧ c = .int .u64 cc ∧ cc ≤ 1 ∧ OwnW 38 wr w.heap.size v l ∧ Hid (l.length = k) ∧ Below w.heap.size w wr ∧
      Hid (val l + val (b.take k) = val (a.take k) + 4294967296 ^ k * cc)) (fun _ _ _ i _ => n - (intOf i).toNat)
  case atStart => exact ⟨0, 0, [], Nat.zero_le _, rfl, rfl, by omega, OwnW.nil _ _ _, Lib.hid rfl, Below.refl _ _, Lib.hid (by simp [val])⟩
  case round =>
    obtain ⟨k, cc, l, hk, rfl, rfl, hcc, hOr, hll, hBr, hinv⟩ := hrel
    have hak := HA.out.lt k
    have hbk := HB.out.lt k
    have har := Lib.hid (HA.out.below hBr)
    have hbr := Lib.hid (HB.out.below hBr)
    by_cases hkn : k < n
    · have hkl : k < a.length := by rw [← HN.out]; exact hkn
      obtain ⟨x, hx⟩ : ∃ x, x = gd a k := ⟨_, rfl⟩
      obtain ⟨y, hy⟩ : ∃ y, y = gd b k := ⟨_, rfl⟩
      have hwa := rword_any _ a k wr har.out (by omega) (by omega)
      have hwb := rword_any _ b k wr hbr.out (by omega) (by omega)
      rw [Int.toNat_natCast, ← hx] at hwa
      rw [Int.toNat_natCast, ← hy] at hwb
      rw [← hx] at hak
      rw [← hy] at hbk
      have HWA := Lib.hid hwa; have HWB := Lib.hid hwb; have HX := Lib.hid hx; have HY := Lib.hid hy; clear hwa hwb hx hy
      have hszr := hBr.size
      have HO := Lib.hid hOr
      have hsw := subW_wrap hak hbk hcc
      have hslt := subW_lt hak hbk hcc
      have hsb := subW_borrow hak hbk hcc
      obtain ⟨d, hd⟩ : ∃ d, d = subW x y cc := ⟨_, rfl⟩
      rw [← hd] at hsw hslt hsb
      obtain ⟨s1, s2⟩ := hsb
      have S2 := Lib.hid s2; have S1 := Lib.hid s1
      have hdm : d % 4294967296 < 4294967296 := Nat.mod_lt _ (by decide)
      have HDM := Lib.hid hdm
      have h1 := num_one wr 38 (d % 4294967296) hdm
      have H1 := Lib.hid h1
      clear hOr s1 s2 hd hdm h1
      go_wp2_with (first | (go_at_call 57; (with_reducible refine HWA.out.mono ?_); rintro e w' ⟨rfl, rfl⟩) | (go_at_call 57; (with_reducible refine HWB.out.mono ?_); rintro e w' ⟨rfl, rfl⟩) |
        (at_builtin; refine wpList_appendN Tryd.wordsTy rfl (.tmp 28) (.tmp 31) rfl w.heap.size _ _ l [d % 4294967296] rfl rfl (HO.out.alloc _) H1.out ?c1 ?c2 ?_))
      case c1 => rw [hll.out]; simp; omega
      case c2 => simp; omega
      intro v' w1 h1 h2 h3
      have h4 := h2 w (hBr.alloc hszr _)
      go_wp2_with fail
      go_roundw
      case rel =>
        exact ⟨k + 1, d / 9223372036854775808, l ++ [d % 4294967296], by omega, by go_num, rfl, S1.out, h1, Lib.hid (by rw [List.length_append, hll.out]; rfl), h4,
          Lib.hid (by rw [val_snoc, hll.out, Nat.pow_succ, val_take_succ, val_take_succ, ← HX.out, ← HY.out]; exact sub_step hinv.out S2.out)⟩
      case measure => simp [intOf]; omega
    · have hkl : ¬ k < a.length := by rw [← HN.out]; exact hkn
      obtain rfl : k = n := by omega
      have hnum := hOr.num
      have hv : val l = val a - val b := by
        have hi := hinv.out
        have hlt := val_lt (hOr.lt)
        have halt := val_lt HA.out.lt
        rw [hll.out] at hlt
        rw [← HN.out] at halt
        rw [val_take_full a (by rw [HN.out]; omega), val_take HB.out.lt, Nat.mod_eq_of_lt (by omega)] at hi
        exact sub_end hlt hi hge hcc
      have htr := rtrim_own _ _ _ hnum (by rw [hll.out]; omega)
      rw [hv] at htr
      have HT := Lib.hid htr; clear hnum hv htr
      have HL := hll.out
      go_wp2_with (go_at_call 55; (with_reducible refine HT.out.mono ?_); rintro e w' ⟨v', l', rfl, hB', hN', hl'⟩)
      go_ret2
      exact ⟨_, rfl, hBr.trans (hB'.mono hBr.size), by rw [← hl']; exact hN'.base hBr.size⟩
theorem rsub_ge (va vb : Value) (a b : List Nat) (w : World) (ha : Num w va a) (hb : Num w vb b) (hla : a.length ≤ 900000) (hlb : b.length ≤ 900000) (hge : val b ≤ val a) :
    Calls Tryd.prog 31 #[va, vb] w (RetNE w (val a - val b) (.int .i64 0)) := by
  refine (rsub_own va vb a b w ha hb hla hlb hge).mono ?_
  rintro e w' ⟨v, he, hbb, ho⟩
  exact ⟨v, he, hbb, ho.num⟩
end Go.Proofs.YtdepoikifneggaaDoor
