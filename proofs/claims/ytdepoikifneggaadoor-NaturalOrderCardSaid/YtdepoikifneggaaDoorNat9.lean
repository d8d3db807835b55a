/-
  natural.take, natural.give: what they do to a window of words.
  Conditions: each theorem's own.
-/
import Derived.Test.YtdepoikifneggaaDoorNat8
import Derived.Test.YtdepoikifneggaaDoorNatMath7
namespace Go.Proofs.YtdepoikifneggaaDoor
open Go.RowKit Go.ChangeShapes Go.WideShapes

theorem grown_refl (w : World) (row : Option Nat) : w.grownBy w row := ⟨rfl, rfl, rfl, Nat.le_refl _, fun _ _ _ => rfl⟩
theorem grown_trans {a b c : World} {row : Option Nat} (h : a.grownBy b row) (k : b.grownBy c row) : a.grownBy c row :=
  ⟨k.os.trans h.os, k.tape.trans h.tape, k.output.trans h.output, Nat.le_trans h.size k.size, fun i hi hr => (k.block i (Nat.lt_of_lt_of_le hi h.size) hr).trans (h.block i hi hr)⟩
theorem grown_below {a b : World} {row : Option Nat} (h : Below a.heap.size a b) : a.grownBy b row := ⟨h.os, h.tape, h.output, h.size, fun k hk _ => h.block k hk⟩
theorem grown_drewN {a b : World} {row : Option Nat} (h : a.grownBy b row) (n : Nat) : a.grownBy (b.drewN n) row := grown_trans h ⟨rfl, rfl, rfl, Nat.le_refl _, fun _ _ _ => rfl⟩
theorem OwnW.grown {e : TypeId} {w : World} {B g n c : Nat} {l : List Nat} (h : OwnW e w B (.slice (some ⟨g, 0, none⟩) n c) l) (hn : l.length = n) (k x : Nat) : w.grownBy (w.setCell ⟨g, k, none⟩ (.int .u32 x)) (some g) := by
  subst hn
  exact (h.1.stored k (.int .u32 x)).2
theorem OwnW.keptBy {e : TypeId} {w w' : World} {B g h n c : Nat} {l : List Nat} (ho : OwnW e w B (.slice (some ⟨h, 0, none⟩) n c) l) (hg : w.grownBy w' (some g)) (hne : h ≠ g) : OwnW e w' B (.slice (some ⟨h, 0, none⟩) n c) l :=
  ⟨ho.1.kept hg (.inr (by simp [Value.ownBlock]; exact hne)), ho.2⟩
theorem OwnW.keptFrom {e : TypeId} {w w' : World} {B : Nat} {row : Option Nat} {v : Value} {l : List Nat} (ho : OwnW e w B v l) (hg : w.grownBy w' row) (hr : ∀ k, row = some k → k < B) : OwnW e w' B v l := by
  refine ⟨ho.1.kept hg ?_, ho.2⟩
  cases hv : v.ownBlock with
  | none => exact .inl rfl
  | some k =>
    right
    intro he
    have h1 := (ho.1.lt k hv).1
    have h2 := hr k he.symm
    omega
theorem Num.keptBy {w w' : World} {g h o k c : Nat} {l : List Nat} (hn : Num w (.slice (some ⟨h, o, none⟩) k c) l) (hg : w.grownBy w' (some g)) (hne : h ≠ g) : Num w' (.slice (some ⟨h, o, none⟩) k c) l := by
  obtain ⟨ao', c', e, h1, h2, h3, h4, h5⟩ := hn
  refine ⟨ao', c', e, h1, h2, h3, ?_, h5⟩
  intro b off s hs
  cases e
  cases hs
  obtain ⟨k1, k2⟩ := h4 h o none rfl
  refine ⟨fun h0 => ⟨Nat.lt_of_lt_of_le (k1 h0).1 hg.size, rfl⟩, fun j hj => ?_⟩
  exact hg.cell (k2 j hj) (by simp; exact hne)

theorem Num.cap {w : World} {ao : Option Addr} {n c : Nat} {l : List Nat} (h : Num w (.slice ao n c) l) : n ≤ c ∧ c ≤ 9223372036854775807 := by
  obtain ⟨ao', c', e, h1, h2, h3, h4, h5⟩ := h
  cases e
  exact ⟨h1, h2⟩
theorem hO4n {e : TypeId} {w : World} {B g n c : Nat} {l : List Nat} (h : OwnW e w B (.slice (some ⟨g, 0, none⟩) n c) l) (k : Nat) (hk : k ≤ l.length) : Num w (.slice (some ⟨g, 0, none⟩) k c) (l.take k) := h.num.take k hk
/-- what take leaves: the window less the multiple, with a borrow -/
def RetTake (w : World) (g n cap B j m T : Nat) (l : List Nat) (e : Ending) (w' : World) : Prop :=
  ∃ l' r, e = .returned (.bool (decide (r = 1))) ∧ r ≤ 1 ∧ OwnW 38 w' B (.slice (some ⟨g, 0, none⟩) n cap) l' ∧ l'.length = n ∧ w.grownBy w' (some g) ∧
    (∀ i, i < j ∨ j + m ≤ i → gd l' i = gd l i) ∧ winv l' j m + T = winv l j m + 4294967296 ^ m * r

theorem take_bounds {c p : Nat} (hc : c < 4294967296) (hp : p ≤ 18446744065119617025) : (c + p) / 4294967296 < 4294967296 ∧ (c + p) % 4294967296 < 4294967296 ∧ c + p < 18446744073709551616 := by omega

set_option maxRecDepth 100000 in
set_option maxHeartbeats 1600000 in
theorem take_any (g j m c n cap h k ck q B : Nat) (l b : List Nat) (w : World) (hO : OwnW 38 w B (.slice (some ⟨g, 0, none⟩) n cap) l) (hl : l.length = n) (hjm : j + m ≤ n) (hn : n ≤ 900001) (hc : c ≤ 9223372036854775807) (hmc : m ≤ c)
    (hv : Num w (.slice (some ⟨h, 0, none⟩) k ck) b) (hne : h ≠ g) (hq : q < 4294967296) (hbm : b.length ≤ m) (hT : q * val b < 4294967296 ^ m) :
    Calls Tryd.prog 52 #[.slice (some ⟨g, j, none⟩) m c, .slice (some ⟨h, 0, none⟩) k ck, .int .u64 q] w (RetTake w g n cap B j m (q * val b) l) := by
  have HO := Lib.hid hO; have HV := Lib.hid hv; have HL := Lib.hid hl; have HT := Lib.hid hT; have HNE := Lib.hid hne
  clear hO hv hl hT hne
  go_enter Tryd.func52, Tryd.ntmps52
  go_wp2_with fail
  go_loopw [7, 8, 13] (fun cv rv iv wr => ∃ (i c r : Nat) (l' : List Nat), i ≤ m ∧ iv = .int .i64 i ∧ cv = .int .u64 c ∧ rv = .int .u64 r ∧ c < 4294967296 ∧ r ≤ 1 ∧
      OwnW 38 wr B (.slice (some ⟨g, 0, none⟩) n cap) l' ∧ Hid (l'.length = n) ∧ Hid (w.grownBy wr (some g)) ∧ Hid (∀ x, x < j ∨ j + i ≤ x → gd l' x = gd l x) ∧
      Hid (winv l' j i + q * val (b.take i) = winv l j i + 4294967296 ^ i * (r + c)) ∧ Hid (4294967296 ^ i * c ≤ q * val (b.take i))) (fun _ _ i _ => m - (intOf i).toNat)
  case atStart => exact ⟨0, 0, 0, l, Nat.zero_le _, rfl, rfl, rfl, by omega, by omega, HO.out, HL, Lib.hid (grown_refl _ _), Lib.hid (fun x _ => rfl), Lib.hid (by simp [winv_zero, val]), Lib.hid (by simp)⟩
  case round =>
    obtain ⟨i, c, r, l', hi, rfl, rfl, rfl, hcl, hrl, hOr, hll, hgr, hsame, hinv, hcar⟩ := hrel
    by_cases him : i < m
    · have hvr := Lib.hid (HV.out.keptBy hgr.out HNE.out)
      have hwv := word_any _ b i wr hvr.out (by omega) (by omega)
      have hyl := HV.out.lt i
      obtain ⟨y, hy⟩ : ∃ y, y = gd b i := ⟨_, rfl⟩
      rw [Int.toNat_natCast, ← hy] at hwv
      rw [← hy] at hyl
      have hji : j + i < n := by omega
      have hcell := hOr.cell hll.out (j + i) hji
      have hfr := hOr.frozen hll.out (j + i)
      have hxl := hOr.lt (j + i)
      have hxs := hsame.out (j + i) (.inr (Nat.le_refl _))
      obtain ⟨x, hx⟩ : ∃ x, x = gd l' (j + i) := ⟨_, rfl⟩
      rw [← hx] at hcell hxl hxs
      have hpl := word_mul hq hyl
      obtain ⟨p, hp⟩ : ∃ p, p = q * y := ⟨_, rfl⟩
      have hpi : (q : Int) * (y : Int) = (p : Int) := by rw [hp]; rfl
      rw [← hp] at hpl
      obtain ⟨s1, s2, s3⟩ := take_bounds hcl hpl
      obtain ⟨low, hlow⟩ : ∃ low, low = (c + p) % 4294967296 := ⟨_, rfl⟩
      obtain ⟨c', hc'⟩ : ∃ c', c' = (c + p) / 4294967296 := ⟨_, rfl⟩
      have hlowi : ((c : Int) + (p : Int)) % 4294967296 = (low : Int) := by rw [hlow]; rfl
      have hci : ((c : Int) + (p : Int)) / 4294967296 = (c' : Int) := by rw [hc']; rfl
      rw [← hlow] at s2
      rw [← hc'] at s1
      have hsw := subW_wrap hxl s2 hrl
      have hslt := subW_lt hxl s2 hrl
      obtain ⟨b1, b2⟩ := subW_borrow hxl s2 hrl
      obtain ⟨d, hd⟩ : ∃ d, d = subW x low r := ⟨_, rfl⟩
      rw [← hd] at hsw hslt b1 b2
      have HD := Lib.hid hd
      have hst := take_step (q := q) (y := y) (x := x) (c' := c') (d := d % 4294967296) (r' := d / 9223372036854775808) hinv.out (by rw [← hp, ← hlow]; exact b2) (by rw [← hp]; exact hc')
      have hca := take_carry (q := q) (y := y) (c' := c') hcar.out (by rw [← hp]; exact hc')
      have hdm : d % 4294967296 < 4294967296 := Nat.mod_lt _ (by decide)
      have HWV := Lib.hid hwv; have HOR := Lib.hid hOr; have HY := Lib.hid hy; have HXS := Lib.hid hxs; have S1 := Lib.hid s1; have B1 := Lib.hid b1; have HST := Lib.hid hst; have HCA := Lib.hid hca; have HDM := Lib.hid hdm
      have HLOWI := Lib.hid hlowi; have HCI := Lib.hid hci
      clear hwv hOr hy hxs hx hp hlow hc' b1 b2 hd hst hca hdm s1
      go_wp2_with fail
      (with_reducible refine HWV.out.mono ?_); rintro e w' ⟨rfl, rfl⟩
      go_wp2_with fail
      go_roundw
      case rel =>
        have h1 := HOR.out.stored hll.out (j + i) (d % 4294967296) HDM.out
        have h2 := HOR.out.grown hll.out (j + i) (d % 4294967296)
        refine ⟨i + 1, c', d / 9223372036854775808, l'.set (j + i) (d % 4294967296), by omega, by go_num, rfl, rfl, S1.out, B1.out, h1, Lib.hid (by rw [List.length_set]; exact hll.out), Lib.hid (grown_trans hgr.out h2), Lib.hid ?_, Lib.hid ?_, Lib.hid ?_⟩
        · intro z hz
          rw [gd_set, if_neg (by omega)]; exact hsame.out z (by omega)
        · rw [winv_set _ _ _ _ (by rw [hll.out]; exact hji), winv_succ, ← HXS.out, val_take_succ, ← HY.out, Nat.mul_add q, Nat.mul_left_comm q, Nat.pow_succ]
          exact HST.out
        · rw [val_take_succ, ← HY.out, Nat.mul_add q, Nat.mul_left_comm q, Nat.pow_succ]
          exact HCA.out
      case measure => simp [intOf]; omega
    · obtain rfl : i = m := by omega
      have hb : b.take i = b := List.take_of_length_le hbm
      have hi1 := hinv.out
      have hi2 := hcar.out
      rw [hb] at hi1 hi2
      have hc0 := take_end hi2 HT.out
      subst hc0
      rw [Nat.add_zero] at hi1
      have HI := Lib.hid hi1
      have hdec : ((r : Int) == 1) = decide (r = 1) := by rw [Bool.eq_iff_iff]; simp; omega
      have HDEC := Lib.hid hdec
      clear hi1 hi2 hb hdec
      go_wp2_with fail
      go_ret
      exact ⟨l', r, ret_bool HDEC.out, hrl, hOr, hll.out, hgr.out, hsame.out, HI.out⟩

/-- what give leaves: the window with the number added, with a carry lost -/
def RetGive (w : World) (g n cap B j m T : Nat) (l : List Nat) (e : Ending) (w' : World) : Prop :=
  ∃ l' r, e = .returned (.tuple #[]) ∧ OwnW 38 w' B (.slice (some ⟨g, 0, none⟩) n cap) l' ∧ l'.length = n ∧ w.grownBy w' (some g) ∧
    (∀ i, i < j ∨ j + m ≤ i → gd l' i = gd l i) ∧ winv l' j m + 4294967296 ^ m * r = winv l j m + T

set_option maxRecDepth 100000 in
set_option maxHeartbeats 1600000 in
theorem give_any (g j m c n cap h k ck B : Nat) (l b : List Nat) (w : World) (hO : OwnW 38 w B (.slice (some ⟨g, 0, none⟩) n cap) l) (hl : l.length = n) (hjm : j + m ≤ n) (hn : n ≤ 900001) (hc : c ≤ 9223372036854775807) (hmc : m ≤ c)
    (hv : Num w (.slice (some ⟨h, 0, none⟩) k ck) b) (hne : h ≠ g) (hbm : b.length ≤ m) :
    Calls Tryd.prog 53 #[.slice (some ⟨g, j, none⟩) m c, .slice (some ⟨h, 0, none⟩) k ck] w (RetGive w g n cap B j m (val b) l) := by
  have HO := Lib.hid hO; have HV := Lib.hid hv; have HL := Lib.hid hl; have HNE := Lib.hid hne
  clear hO hv hl hne
  go_enter Tryd.func53, Tryd.ntmps53
  go_wp2_with fail
  go_loopw [4, 8] (fun cv iv wr => ∃ (i c : Nat) (l' : List Nat), i ≤ m ∧ iv = .int .i64 i ∧ cv = .int .u64 c ∧ c ≤ 1 ∧
      OwnW 38 wr B (.slice (some ⟨g, 0, none⟩) n cap) l' ∧ Hid (l'.length = n) ∧ Hid (w.grownBy wr (some g)) ∧ Hid (∀ x, x < j ∨ j + i ≤ x → gd l' x = gd l x) ∧
      Hid (winv l' j i + 4294967296 ^ i * c = winv l j i + val (b.take i))) (fun _ i _ => m - (intOf i).toNat)
  case atStart => exact ⟨0, 0, l, Nat.zero_le _, rfl, rfl, by omega, HO.out, HL, Lib.hid (grown_refl _ _), Lib.hid (fun x _ => rfl), Lib.hid (by simp [winv_zero, val])⟩
  case round =>
    obtain ⟨i, c, l', hi, rfl, rfl, hcl, hOr, hll, hgr, hsame, hinv⟩ := hrel
    by_cases him : i < m
    · have hvr := Lib.hid (HV.out.keptBy hgr.out HNE.out)
      have hyl := HV.out.lt i
      obtain ⟨y, hy⟩ : ∃ y, y = gd b i := ⟨_, rfl⟩
      have hwv : ∀ nq, Calls Tryd.prog 59 #[.slice (some ⟨h, 0, none⟩) k ck, .int .i64 i] (wr.drewN nq) (RetS (wr.drewN nq) (.int .u64 (y : Nat))) := fun nq => by
        have hh := word_any _ b i (wr.drewN nq) (hvr.out.below (below_drewN (Below.refl _ _) nq)) (by omega) (by omega)
        rw [Int.toNat_natCast, ← hy] at hh; exact hh
      rw [← hy] at hyl
      have hji : j + i < n := by omega
      have hcell := hOr.cell hll.out (j + i) hji
      have hfr := hOr.frozen hll.out (j + i)
      have hxl := hOr.lt (j + i)
      have hxs := hsame.out (j + i) (.inr (Nat.le_refl _))
      obtain ⟨x, hx⟩ : ∃ x, x = gd l' (j + i) := ⟨_, rfl⟩
      rw [← hx] at hcell hxl hxs
      obtain ⟨s1, s2⟩ := add_bounds hcl hxl hyl
      have hst := add_step (x := x) (y := y) hinv.out
      have HWV := Lib.hid hwv; have HOR := Lib.hid hOr; have HY := Lib.hid hy; have HXS := Lib.hid hxs; have S1 := Lib.hid s1; have S2 := Lib.hid s2; have HST := Lib.hid hst
      clear hwv hOr hy hxs hx s1 s2 hst
      go_wp2_with fail
      go_quiet ((go_at_call 59; exact Calls.quiet_of_same (ret_quiet (HWV.out _))))
      go_wp2_with fail
      go_roundw
      case rel =>
        have hO' := HOR.out.below (below_drewN (Below.refl _ _) nq)
        have h1 := hO'.stored hll.out (j + i) ((c + (x + y)) % 4294967296) S2.out
        have h2 := hO'.grown hll.out (j + i) ((c + (x + y)) % 4294967296)
        refine ⟨i + 1, (c + (x + y)) / 4294967296, l'.set (j + i) ((c + (x + y)) % 4294967296), by omega, by go_num, rfl, S1.out, h1, Lib.hid (by rw [List.length_set]; exact hll.out), Lib.hid (grown_trans (grown_drewN hgr.out nq) h2), Lib.hid ?_, Lib.hid ?_⟩
        · intro z hz
          rw [gd_set, if_neg (by omega)]; exact hsame.out z (by omega)
        · rw [winv_set _ _ _ _ (by rw [hll.out]; exact hji), winv_succ, ← HXS.out, val_take_succ, ← HY.out, Nat.pow_succ]
          exact HST.out
      case measure => simp [intOf]; omega
    · obtain rfl : i = m := by omega
      have hb : b.take i = b := List.take_of_length_le hbm
      have hi1 := hinv.out
      rw [hb] at hi1
      have HI := Lib.hid hi1
      clear hi1 hb
      go_wp2_with fail
      go_end0
      exact ⟨l', c, rfl, hOr, hll.out, hgr.out, hsame.out, HI.out⟩
end Go.Proofs.YtdepoikifneggaaDoor
