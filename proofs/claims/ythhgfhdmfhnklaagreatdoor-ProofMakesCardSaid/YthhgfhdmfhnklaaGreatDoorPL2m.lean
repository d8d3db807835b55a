/-
 The walk of the law ProofMakes.
 Conditions: each theorem's own.
-/
import Derived.Test.YthhgfhdmfhnklaaGreatDoorMVa1
namespace Go.Proofs.YthhgfhdmfhnklaaGreatDoor
open Go.RowKit Go.ChangeShapes Go.WideShapes

theorem grown_cErr {f : Fm} (h : qcc f = 0) (h8 : f.vars ≤ 8) (d : Nat) : cErr f (grT f d 0 0) = 0 := by
 have h1 := grN_cap h h8 d
 have := grT_err h d 0 0 0 0 (fun i => by simp) (by omega)
 rw [Nat.zero_add] at this
 rw [cErr_t h, this]
theorem grown_ver {f : Fm} (h : qcc f = 0) (h8 : f.vars ≤ 8) (d : Nat) : verV f (grT f d 0 0) = (true, -1, 0) := by
 unfold verV
 rw [if_pos (grown_cErr h h8 d), (qez _ _).2 (grT_hold d 0 0)]; rfl
theorem mErr_parts {f : Fm} {m : Int} (h : mErr f m = 0) : qcc f = 0 ∧ 0 ≤ m ∧ m ≤ 24 := by
 unfold mErr at h
 split at h
 ·rename_i k; exact absurd h k
 rename_i k
 split at h
 ·cases h
 exact ⟨by omega, by omega, by omega⟩
theorem mErr_lt (f : Fm) (m : Int) : mErr f m < 1000 := by
 unfold mErr
 split
 ·have := fmErr_lt f; omega
 ·split <;> decide
set_option maxRecDepth 100000 in
set_option maxHeartbeats 8000000 in
theorem proofmakes_any (vf : Value) (f : Fm) (m : Int) (w : World) (hf : FmV w vf f) (hm : I64 m) :
  Calls Tryz.prog 4 #[vf, .int .i64 m] w (qea w (.bool true)) := by
 obtain ⟨nv, rfl, hn, hv, htp⟩ := hf
 obtain ⟨ao, c, rfl, hc, hc2, _⟩ := hn.shape
 have HF := qHd (show FmV w _ f from ⟨_, rfl, hn, hv, htp⟩)
 obtain ⟨W, hW, hbW, g1, hG1, hg1⟩ := qBx5 w (.cells #[.int .i64 f.vars, .slice ao f.nodes.length c, .int .i64 f.top] 24)
 have HBW := qHd hbW; have G1 := qHd hg1
 obtain ⟨x0, x1, x2⟩ := qay hg1
 rw [hW, hG1] at x0 x1 x2
 clear hbW hg1 hn hv htp
 have HK := qHd (light_any _ (.agg #[.int .i64 0, .slice none 0 0, .int .i64 0]) f (.mk 0 [] 0) W (HF.out.below HBW.out) (trV_zero W))
 obtain ⟨lb, hlb⟩ : ∃ lb, qfn f (.mk 0 [] 0) = lb := ⟨_, rfl⟩
 rw [hlb] at HK
 have HM := qHd hm
 go_enter Tryz.func4, Tryz.ntmps4
 go_wp2_with (with_reducible refine qad ?_)
 rw [← hW, ← hG1]; clear hW hG1 x0 x1 x2
 refine qap.mk ?_
 (with_reducible refine HK.out.mono ?_); rintro e w1 ⟨rfl, hb1⟩
 have HB := qHd (HBW.out.trans (hb1.mono HBW.out.size))
 have X1 := qHd (qaa G1.out hb1)
 clear hb1 HK HBW G1
 cases lb
 ·clear hlb
  go_wp2_with (with_reducible refine qad ?_)
  refine qap.mk ?_
  (with_reducible refine (qcx w1).mono ?_); rintro e w2 ⟨rfl, hb2⟩
  have HB2 := qHd (HB.out.trans (hb2.mono HB.out.size))
  clear hb2
  go_wp2_with fail
  go_ret
  exact ⟨rfl, HB2.out⟩
 have H8 := qHd (fun h => (lightB_vars hlb h).1)
 clear hlb
 go_wp2_with (with_reducible refine qad ?_)
 refine qap.mk ?_
 (with_reducible refine (qcx w1).mono ?_); rintro e w2 ⟨rfl, hb2⟩
 have HF := qHd (HF.out.below HB.out)
 have HB := qHd (HB.out.trans (hb2.mono HB.out.size))
 have HF := qHd (HF.out.below hb2)
 have X1 := qHd (qaa X1.out hb2)
 clear hb2
 obtain ⟨ec, hec⟩ : ∃ ec, mErr f m = ec := ⟨_, rfl⟩
 obtain ⟨tm, htm⟩ : ∃ tm, mTr f m = tm := ⟨_, rfl⟩
 have hlt : ec < 1000 := hec ▸ mErr_lt f m
 have HEC := qHd hec; have HTM := qHd htm
 clear hec htm
 have HK := qHd (make_f _ f m w2 HF.out HM.out H8.out)
 rw [HEC.out, HTM.out] at HK
 obtain ⟨l0_0, l0_1, l0_2⟩ := qay X1.out
 try rw [hw2] at l0_0
 try rw [hB2] at l0_0
 try rw [hw2] at l0_1
 try rw [hB2] at l0_1
 try rw [hw2] at l0_2
 try rw [hB2] at l0_2
 go_wp2_with (with_reducible refine qad ?_)
 clear l0_0 l0_1 l0_2
 refine qap.mk ?_
 (with_reducible refine HK.out.mono ?_); rintro e w3 ⟨v3, rfl, hb3, ht3⟩
 have HB := qHd (HB.out.trans (hb3.mono HB.out.size))
 have HF := qHd (HF.out.below hb3)
 have X1 := qHd (qaa X1.out hb3)
 obtain ⟨tv3, tr3, ta3, tn3, tc3, rfl⟩ := ht3.shape
 have HT3 := qHd ht3
 clear hb3 ht3 HK
 obtain ⟨w4, hw4, hb4, b4, hB4, hx4⟩ := qBx5 w3 (.cells #[.int .i64 tv3, .slice ta3 tn3 tc3, .int .i64 tr3] 27)
 have HB := qHd (HB.out.trans (hb4.mono HB.out.size))
 have HF := qHd (HF.out.below hb4)
 have HT3 := qHd (HT3.out.below hb4)
 have X1 := qHd (qaa X1.out hb4)
 have X3 := qHd hx4
 clear hb4 hx4
 have HK := qHd (rmake_f _ f m w4 HF.out HM.out H8.out)
 rw [HEC.out, HTM.out] at HK
 obtain ⟨l0_0, l0_1, l0_2⟩ := qay X1.out
 try rw [hw4] at l0_0
 try rw [hB4] at l0_0
 try rw [hw4] at l0_1
 try rw [hB4] at l0_1
 try rw [hw4] at l0_2
 try rw [hB4] at l0_2
 obtain ⟨l1_0, l1_1, l1_2⟩ := qay X3.out
 try rw [hw4] at l1_0
 try rw [hB4] at l1_0
 try rw [hw4] at l1_1
 try rw [hB4] at l1_1
 try rw [hw4] at l1_2
 try rw [hB4] at l1_2
 go_wp2_with (with_reducible refine qad ?_)
 rw [← hw4, ← hB4]
 clear hw4 hB4
 clear l0_0 l0_1 l0_2 l1_0 l1_1 l1_2
 refine qap.mk ?_
 (with_reducible refine HK.out.mono ?_); rintro e w5 ⟨v5, rfl, hb5, ht5⟩
 have HB := qHd (HB.out.trans (hb5.mono HB.out.size))
 have HF := qHd (HF.out.below hb5)
 have HT3 := qHd (HT3.out.below hb5)
 have X1 := qHd (qaa X1.out hb5)
 have X3 := qHd (qaa X3.out hb5)
 obtain ⟨tv5, tr5, ta5, tn5, tc5, rfl⟩ := ht5.shape
 have HT5 := qHd ht5
 clear hb5 ht5 HK
 obtain ⟨w6, hw6, hb6, b6, hB6, hx6⟩ := qBx5 w5 (.cells #[.int .i64 tv5, .slice ta5 tn5 tc5, .int .i64 tr5] 27)
 have HB := qHd (HB.out.trans (hb6.mono HB.out.size))
 have HF := qHd (HF.out.below hb6)
 have HT3 := qHd (HT3.out.below hb6)
 have HT5 := qHd (HT5.out.below hb6)
 have X1 := qHd (qaa X1.out hb6)
 have X3 := qHd (qaa X3.out hb6)
 have X5 := qHd hx6
 clear hb6 hx6
 have HK := qHd (num_any ec w6 hlt)
 obtain ⟨l0_0, l0_1, l0_2⟩ := qay X1.out
 try rw [hw6] at l0_0
 try rw [hB6] at l0_0
 try rw [hw6] at l0_1
 try rw [hB6] at l0_1
 try rw [hw6] at l0_2
 try rw [hB6] at l0_2
 go_wp2_with (with_reducible refine qad ?_)
 rw [← hw6, ← hB6]
 clear hw6 hB6 l0_0 l0_1 l0_2
 refine qap.mk ?_
 (with_reducible refine HK.out.mono ?_); rintro e w7 ⟨rfl, rfl⟩
 have HK := qHd (rsame_any tm _ _ w6 HT3.out HT5.out)
 obtain ⟨l0, l1, l2⟩ := qay X3.out
 obtain ⟨k0, k1, k2⟩ := qay X5.out
 go_wp2_with (with_reducible refine qad ?_)
 clear l0 l1 l2 k0 k1 k2
 refine qap.mk ?_
 (with_reducible refine HK.out.mono ?_); rintro e w8 ⟨rfl, hb8⟩
 have HB := qHd (HB.out.trans (hb8.mono HB.out.size))
 have HF := qHd (HF.out.below hb8)
 have HT3 := qHd (HT3.out.below hb8)
 have X1 := qHd (qaa X1.out hb8)
 have X3 := qHd (qaa X3.out hb8)
 clear hb8 HK HT5 X5
 by_cases h0 : ec = 0
 ·subst h0
  obtain ⟨hfe, hm0, hm24⟩ := mErr_parts HEC.out
  obtain ⟨d, rfl⟩ : ∃ d : Nat, m = d := ⟨m.toNat, by omega⟩
  have h8 := H8.out hfe
  obtain rfl : grT f d 0 0 = tm := by rw [← HTM.out, (mk_ok hfe (d : Int) d rfl (by omega)).2]
  obtain ⟨p0, p1, _, _⟩ := qbe hfe
  have HFE := qHd hfe; have HP := qHd (And.intro p0 p1)
  have HV := qHd (grown_ver hfe h8 d); have HC := qHd (grown_cErr hfe h8 d)
  have HCL := qHd (fun (hd : f.vars ≤ (d : Int)) => grT_closed hfe d 0 0 (Nat.le_trans (opens_le 0 0 _) (by omega)))
  have HK := qHd (pverify_any _ _ f _ w8 HF.out HT3.out)
  rw [HV.out] at HK
  simp only at HK
  clear hfe h8 p0 p1 HTM HEC
  rw [qbi]
  obtain ⟨l0, l1, l2⟩ := qay X1.out
  obtain ⟨k0, k1, k2⟩ := qay X3.out
  go_wp2_with (with_reducible refine qad ?_)
  clear l0 l1 l2 k0 k1 k2
  refine qap.mk ?_
  (with_reducible refine HK.out.mono ?_); rintro e w9 ⟨rfl, hb9⟩
  rw [qbi]
  have HB := qHd (HB.out.trans (hb9.mono HB.out.size))
  have HF := qHd (HF.out.below hb9)
  have HT3 := qHd (HT3.out.below hb9)
  have X1 := qHd (qaa X1.out hb9)
  have X3 := qHd (qaa X3.out hb9)
  clear hb9 HK
  have HK := qHd (sLeaves_any _ _ f.vars w9 HT3.out HP.out 0 (by rw [← cErr_t HFE.out]; exact HC.out))
  obtain ⟨l0, l1, l2⟩ := qay X1.out
  obtain ⟨k0, k1, k2⟩ := qay X3.out
  go_wp2_with (with_reducible refine qad ?_)
  clear l0 l1 l2 k0 k1 k2
  refine qap.mk ?_
  (with_reducible refine HK.out.mono ?_); rintro e w10 ⟨v', rfl, hb10, hl⟩
  rw [qbi]
  have HL := qHd (hl (by first | rfl | trivial))
  have HLN := qHd (cert_len HC.out)
  have HB := qHd (HB.out.trans (hb10.mono HB.out.size))
  have X1 := qHd (qaa X1.out hb10)
  clear hb10 HK hl
  obtain ⟨al, cl, rfl, hcl, hcl2, _⟩ := HL.out.shape
  obtain ⟨ls, hls⟩ : ∃ ls, qah (grT f d 0 0) 0 0 = ls := ⟨_, rfl⟩
  rw [hls] at HL HLN HCL hcl ⊢
  have hlen := HLN.out
  clear hls
  go_wp2_with (with_reducible first | refine qai ?_ | refine qag ?_)
  refine qap.mk ?_
  go_loopw [75] (fun i' wx => ∃ q : Nat, q ≤ ls.length ∧ i' = .int .i64 q ∧ Hid (Below w10.heap.size w10 wx)) (fun i' _ => ls.length - (intOf i').toNat)
  case atStart => exact ⟨0, Nat.zero_le _, rfl, qHd (Below.refl _ _)⟩
  case round =>
   obtain ⟨q, hq, rfl, BX⟩ := hrel
   obtain ⟨wo, rfl⟩ : ∃ wo : World, wo = wr := ⟨_, rfl⟩
   have HBo := qHd (HB.out.trans (BX.out.mono HB.out.size))
   by_cases hlt : q < ls.length
   ·obtain ⟨x, hx⟩ : ∃ x, ls[q]? = some x := ⟨ls[q], List.getElem?_eq_getElem hlt⟩
    obtain ⟨bl, ol, rfl, hbl, hjk, hat⟩ := (HL.out.below BX.out).at (by omega); clear hjk
    obtain ⟨c0, c1, c2⟩ := hat q x hx
    have hmem := List.mem_of_getElem? hx
    have HNO := qHd (fun hd => HCL.out hd x hmem)
    obtain ⟨xy, xn, xr⟩ := x
    simp only at c0 c1 c2 HNO
    clear hat hx hmem
    obtain ⟨w4, hw4⟩ : ∃ w4, w4 = wo.alloc (.cells #[.int .i64 (xy : Nat), .int .i64 (xn : Nat), .int .i64 xr] 48) := ⟨_, rfl⟩
    have hb4 : Below wo.heap.size wo w4 := by rw [hw4]; exact qBA _ _
    have BX4 := qHd (BX.out.trans (hb4.mono BX.out.size))
    obtain ⟨l0, l1, l2⟩ := qay (qaa X1.out BX4.out)
    rw [hw4] at l0 l1 l2
    clear hb4
    have hltz : (q : Int) < (ls.length : Int) := by omega
    by_cases hd : f.vars ≤ (d : Int)
    ·have hno := HNO.out hd
     have hno' : (xr == 2) = false := by rw [beq_eq_false_iff_ne]; exact hno
     go_wp2_with fail
     rw [← hw4]
     go_roundw
     case rel => exact ⟨q + 1, by omega, by go_num, BX4⟩
     case measure => simp [intOf]; omega
    ·go_wp2_with fail
     rw [← hw4]
     go_roundw
     case rel => exact ⟨q + 1, by omega, by go_num, BX4⟩
     case measure => simp [intOf]; omega
   ·have hq' : q = ls.length := by omega
    subst hq'
    go_wp2_with fail
    go_ret
    exact ⟨rfl, HBo.out⟩
 ·have h0z : ¬ ((ec : Nat) : Int) = 0 := by omega
  go_wp2_with fail
  go_ret
  exact ⟨rfl, HB.out⟩
end Go.Proofs.YthhgfhdmfhnklaaGreatDoor
