/-
  natural.Div: what it hands back.
  Conditions: each theorem's own.
-/
import Derived.Test.YtdepoikifneggaaDoorNat9
import Derived.Test.YtdepoikifneggaaDoorNatMath8
namespace Go.Proofs.YtdepoikifneggaaDoor
open Go.RowKit Go.ChangeShapes Go.WideShapes

/-- hands back quotient, remainder and an error -/
def RetDiv (w : World) (q r : Nat) (er : Value) (e : Ending) (w' : World) : Prop := ∃ v1 v2, e = .returned (.tuple #[v1, v2, er]) ∧ Below w.heap.size w w' ∧ Num w' v1 (wd q) ∧ Num w' v2 (wd r)

theorem wd_length_pos {n : Nat} (h : n ≠ 0) : 0 < (wd n).length := by rw [wd_pos h]; simp

set_option maxRecDepth 100000 in
set_option maxHeartbeats 800000 in
theorem div_zero (va vb : Value) (a b : List Nat) (w : World) (ha : Num w va a) (hb : Num w vb b) (hla : a.length ≤ 800000) (hlb : b.length ≤ 800000) (h0 : val b = 0) :
    Calls Tryd.prog 16 #[va, vb] w (RetDiv w 0 0 (errV 8)) := by
  rw [errV_pos (by decide)]
  go_enter Tryd.func16, Tryd.ntmps16
  go_wp2_with fail
  (with_reducible refine (trim_any _ _ _ ha (by omega)).mono ?_); rintro e w1 ⟨v1, l1, rfl, hb1, hn1, hl1⟩
  go_wp2_with fail
  (with_reducible refine (trim_any _ _ _ (hb.below hb1) (by omega)).mono ?_); rintro e w2 ⟨v2, l2, rfl, hb2, hn2, hl2⟩
  have hb12 := hb1.trans (hb2.mono hb1.size)
  rw [h0, wd_zero] at hl2
  subst hl2
  obtain ⟨bo, cb, rfl, hcb, hcb2, _⟩ := hn2.shape
  clear hn2 hb1 hb2 ha hb hl1 hn1 h0
  go_wp2_with fail
  go_ret3
  exact ⟨_, _, rfl, hb12, by rw [wd_zero]; exact Num.nil _, by rw [wd_zero]; exact Num.nil _⟩

set_option maxRecDepth 100000 in
set_option maxHeartbeats 800000 in
theorem div_less (va vb : Value) (a b : List Nat) (w : World) (ha : Num w va a) (hb : Num w vb b) (hla : a.length ≤ 800000) (hlb : b.length ≤ 800000) (hlt : val a < val b) :
    Calls Tryd.prog 16 #[va, vb] w (RetDiv w (val a / val b) (val a % val b) (errV 0)) := by
  have hd1 : val a / val b = 0 := Nat.div_eq_of_lt hlt
  have hd2 : val a % val b = val a := Nat.mod_eq_of_lt hlt
  rw [hd1, hd2, errV_zero]
  clear hd1 hd2
  have hl1 := wd_length_le ha.lt
  have hl2 := wd_length_le hb.lt
  have hp2 := wd_length_pos (show val b ≠ 0 by omega)
  have hcn := cmpN_islt hlt
  have HLT := Lib.hid hlt; clear hlt
  go_enter Tryd.func16, Tryd.ntmps16
  go_wp2_with fail
  (with_reducible refine (trim_any _ _ _ ha (by omega)).mono ?_); rintro e w1 ⟨v1, l1, rfl, hb1, hn1, hl1'⟩
  go_wp2_with fail
  (with_reducible refine (trim_any _ _ _ (hb.below hb1) (by omega)).mono ?_); rintro e w2 ⟨v2, l2, rfl, hb2, hn2, hl2'⟩
  have hn1 := hn1.below hb2
  have hb12 := hb1.trans (hb2.mono hb1.size)
  have hc := cmp_any _ _ _ _ _ hn1 hn2 (by rw [hl1']; omega) (by rw [hl2']; omega)
  rw [hl1', hl2', val_wd, val_wd] at hc
  rw [← hl2'] at hp2
  obtain ⟨r, hr⟩ : ∃ r, r = cmpN (val a) (val b) := ⟨_, rfl⟩
  rw [← hr] at hc hcn
  obtain ⟨bo, cb, rfl, hcb, hcb2, _⟩ := hn2.shape
  have HC := Lib.hid hc; have H1 := Lib.hid hl1'; have HN1 := Lib.hid hn1
  clear hc hl1' hl2' hn1 hn2 hb1 hb2 ha hb hr
  go_wp2_with fail
  (with_reducible refine HC.out.mono ?_); rintro e w3 ⟨rfl, hb3⟩
  go_wp2_with fail
  go_ret3
  exact ⟨_, _, rfl, hb12.trans (hb3.mono hb12.size), by rw [wd_zero]; exact Num.nil _, by rw [← H1.out]; exact HN1.out.below hb3⟩

set_option maxRecDepth 100000 in
set_option maxHeartbeats 800000 in
theorem div_small (va vb : Value) (a b : List Nat) (w : World) (ha : Num w va a) (hb : Num w vb b) (hla : a.length ≤ 800000) (hlb : b.length ≤ 800000) (hge : val b ≤ val a) (h0 : val b ≠ 0) (hs : val b < 4294967296) :
    Calls Tryd.prog 16 #[va, vb] w (RetDiv w (val a / val b) (val a % val b) (errV 0)) := by
  rw [errV_zero]
  have hl1 := wd_length_le ha.lt
  have hcn := cmpN_nlt hge
  have hwb : wd (val b) = [val b] := by
    rw [wd_pos h0, Nat.mod_eq_of_lt hs, Nat.div_eq_of_lt hs, wd_zero]
  obtain ⟨B, hB⟩ : ∃ B, B = val b := ⟨_, rfl⟩
  have HBE := Lib.hid hB
  rw [← hB] at hs h0 hwb hge hcn ⊢
  clear hB
  go_enter Tryd.func16, Tryd.ntmps16
  go_wp2_with fail
  (with_reducible refine (trim_any _ _ _ ha (by omega)).mono ?_); rintro e w1 ⟨v1, l1, rfl, hb1, hn1, hl1'⟩
  go_wp2_with fail
  (with_reducible refine (trim_any _ _ _ (hb.below hb1) (by omega)).mono ?_); rintro e w2 ⟨v2, l2, rfl, hb2, hn2, hl2'⟩
  have hn1 := hn1.below hb2
  have hb12 := hb1.trans (hb2.mono hb1.size)
  rw [← HBE.out] at hl2'
  have hc := cmp_any _ _ _ _ _ hn1 hn2 (by rw [hl1']; omega) (by rw [hl2', hwb]; simp)
  rw [hl1', hl2', val_wd, val_wd] at hc
  rw [hwb] at hl2'
  obtain ⟨r, hr⟩ : ∃ r, r = cmpN (val a) B := ⟨_, rfl⟩
  rw [← hr] at hc hcn
  subst hl2'
  obtain ⟨bo, cb, rfl, hcb, hcb2, _⟩ := hn2.shape
  have HC := Lib.hid hc; have H1 := Lib.hid hl1'; have HN1 := Lib.hid hn1; have HN2 := Lib.hid hn2; have HB12 := Lib.hid hb12
  clear hc hl1' hn1 hn2 hb1 hb2 ha hb hr hwb hge hb12
  simp only [List.length_singleton] at *
  go_wp2_with fail
  (with_reducible refine HC.out.mono ?_); rintro e w3 ⟨rfl, hb3⟩
  have hn2 := HN2.out.below hb3
  obtain ⟨bb, ob, rfl, _, hcell⟩ := hn2.at (Nat.succ_pos _)
  have hc0 : w3.cell? ⟨bb, ob, none⟩ = some (.int .u32 (B : Nat)) := hcell 0 (Nat.succ_pos _)
  have hsm := small_any _ _ B _ (HN1.out.below hb3) (by rw [H1.out]; omega) (by omega) hs
  rw [H1.out, val_wd] at hsm
  have HSM := Lib.hid hsm
  clear hcell hn2 hsm
  go_wp2_with fail
  (with_reducible refine HSM.out.mono ?_); rintro e w4 ⟨v4, rfl, hb4, hn4⟩
  have hrl : val a % B < B := Nat.mod_lt _ (by omega)
  obtain ⟨r, hr⟩ : ∃ r, r = val a % B := ⟨_, rfl⟩
  have HR := Lib.hid hr
  rw [← hr] at hrl ⊢
  have hof := of_any (r : Int) w4 (by omega) (by omega)
  rw [Int.toNat_natCast] at hof
  have HOF := Lib.hid hof; have HN4 := Lib.hid hn4
  clear hof hn4 hr
  go_wp2_with fail
  (with_reducible refine HOF.out.mono ?_); rintro e w5 ⟨v5, l5, rfl, hb5, hn5, hl5⟩
  go_wp2_with fail
  go_ret3
  have h3 := HB12.out.trans (hb3.mono HB12.out.size)
  have h4 := h3.trans (hb4.mono h3.size)
  have h5 := h4.trans (hb5.mono h4.size)
  exact ⟨_, _, rfl, h5, HN4.out.below hb5, by rw [← HR.out, ← hl5]; exact hn5⟩
end Go.Proofs.YtdepoikifneggaaDoor
