/-
  The reference's Gcd: what it hands back.
  Conditions: each theorem's own.
-/
import Derived.Test.YtdepoikifneggaaDoorNat14
namespace Go.Proofs.YtdepoikifneggaaDoor
open Go.RowKit Go.ChangeShapes Go.WideShapes

set_option maxRecDepth 100000 in
set_option maxHeartbeats 1600000 in
theorem rgcd_any (va vb : Value) (a b : List Nat) (w : World) (ha : Num w va a) (hb : Num w vb b) (hla : a.length ≤ 400000) (hlb : b.length ≤ 400000) :
    Calls Tryd.prog 21 #[va, vb] w (RetNum w fun r => r = wd (Nat.gcd (val a) (val b))) := by
  have hl1 := wd_length_le ha.lt
  have hl2 := wd_length_le hb.lt
  obtain ⟨G, hG⟩ : ∃ G, G = Nat.gcd (val a) (val b) := ⟨_, rfl⟩
  rw [← hG]
  have HG := Lib.hid hG; clear hG
  go_enter Tryd.func21, Tryd.ntmps21
  go_wp2_with fail
  (with_reducible refine (rtrim_any _ _ _ ha (by omega)).mono ?_); rintro e w1 ⟨v1, l1, rfl, hb1, hn1, hl1'⟩
  go_wp2_with fail
  (with_reducible refine (rtrim_any _ _ _ (hb.below hb1) (by omega)).mono ?_); rintro e w2 ⟨v2, l2, rfl, hb2, hn2, hl2'⟩
  have hn1 := hn1.below hb2
  have hb12 := hb1.trans (hb2.mono hb1.size)
  rw [hl1'] at hn1
  rw [hl2'] at hn2
  obtain ⟨x0, hx0⟩ : ∃ x0, x0 = val a := ⟨_, rfl⟩
  obtain ⟨y0, hy0⟩ : ∃ y0, y0 = val b := ⟨_, rfl⟩
  rw [← hx0] at hn1 hl1
  rw [← hy0] at hn2 hl2
  have hg0 : Nat.gcd x0 y0 = G := by rw [HG.out, hx0, hy0]
  have HG0 := Lib.hid hg0; have HN1 := Lib.hid hn1; have HN2 := Lib.hid hn2
  clear hg0 hx0 hy0 hn1 hn2 hl1' hl2' hb1 hb2 ha hb
  go_wp2_with fail
  go_loopw [0, 1] (fun xv yv wr => ∃ x y : Nat, Num wr xv (wd x) ∧ Num wr yv (wd y) ∧ Below w.heap.size w wr ∧ Hid (Nat.gcd x y = G) ∧ (wd x).length ≤ 400000 ∧ (wd y).length ≤ 400000) (fun _ yv wr => numOf wr yv)
  case atStart => exact ⟨x0, y0, HN1.out, HN2.out, hb12, HG0, by omega, by omega⟩
  case round =>
    obtain ⟨x, y, hnx, hny, hBr, hgr, hlx, hly⟩ := hrel
    by_cases hy0 : y = 0
    · subst hy0
      rw [wd_zero] at hny hly
      obtain ⟨yo, cy, rfl, hcy, hcy2, _⟩ := hny.shape
      have hgx : x = G := by rw [← hgr.out, Nat.gcd_zero_right]
      have HGX := Lib.hid hgx; have HNX := Lib.hid hnx
      clear hny hgx hnx
      go_wp2_with fail
      go_ret
      exact ⟨_, _, rfl, hBr, HNX.out, by rw [HGX.out]⟩
    · have hd := rdiv_any _ _ _ _ _ hnx hny hlx hly (by rw [val_wd]; exact hy0)
      rw [val_wd, val_wd] at hd
      have hpos := wd_length_pos hy0
      have hm0 := numOf_eq hny
      rw [val_wd] at hm0
      obtain ⟨yo, cy, rfl, hcy, hcy2, _⟩ := hny.shape
      have hlm : (wd (x % y)).length ≤ (wd y).length := wd_length_mono (Nat.le_of_lt (Nat.mod_lt _ (by omega)))
      have hml : x % y < y := Nat.mod_lt _ (by omega)
      have hgm : Nat.gcd y (x % y) = G := by rw [← hgr.out, Nat.gcd_comm x y, Nat.gcd_rec y x, Nat.gcd_comm]
      have HD := Lib.hid hd; have HNY := Lib.hid hny; have HM0 := Lib.hid hm0; have HLM := Lib.hid hlm; have HML := Lib.hid hml; have HGM := Lib.hid hgm
      clear hd hny hm0 hlm hml hgm hnx
      go_wp2_with fail
      (with_reducible refine HD.out.mono ?_); rintro e w3 ⟨v1, v2, rfl, hb3, hq, hr⟩
      have HR := Lib.hid hr
      clear hq hr
      go_wp2_with fail
      go_roundw
      case rel => exact ⟨y, x % y, HNY.out.below hb3, HR.out, hBr.trans (hb3.mono hBr.size), HGM, hly, Nat.le_trans HLM.out hly⟩
      case measure =>
        have e1 := numOf_eq HR.out
        rw [val_wd] at e1
        show numOf _ _ < numOf _ _
        rw [HM0.out]
        exact Nat.lt_of_le_of_lt (Nat.le_of_eq e1) HML.out
end Go.Proofs.YtdepoikifneggaaDoor
