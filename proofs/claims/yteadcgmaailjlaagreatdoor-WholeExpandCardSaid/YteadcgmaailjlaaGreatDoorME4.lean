/-
  What the law leans on, one text behind the other (the base).
  Conditions: each theorem's own.
-/
import Derived.Test.YteadcgmaailjlaaGreatDoorME3
set_option maxRecDepth 100000
set_option maxHeartbeats 16000000
namespace Go.Proofs.YteadcgmaailjlaaGreatDoor
open Go.RowKit Go.ChangeShapes Go.WideShapes
theorem topS_top0 (f : Fm) (s : Nat) : topS f s = top0 (valsE f.vars.toNat s (qdy f.vars.toNat s)) f := rfl
theorem two_state {V s : Nat} (hs : s < 2 ^ V) : Two (valsE V s (qdy V s)) := fun j => by
 rw [valsE_gd]
 split
 ·rename_i h
  rw [ev3_state hs h]; split <;> omega
 ·omega
theorem FEq.topS {f g : Fm} (h : FEq f g) {s : Nat} (hs : s < 2 ^ f.vars.toNat) : Go.Proofs.YteadcgmaailjlaaGreatDoor.topS g s = Go.Proofs.YteadcgmaailjlaaGreatDoor.topS f s := by
 rw [topS_top0, topS_top0, h.vars]
 exact h.v _ (qdu _ _ _) (two_state hs)
theorem ttcheck_any (vf : Value) (f : Fm) (w : World) (hf : FmV w vf f) (h0 : qcr f = 0) (h12 : f.vars ≤ 12) : Calls Tryz.prog 59 #[vf] w (qcc w .nilIface) := by
 obtain ⟨V, hvV, hV, hn128, hno, htop⟩ := qdp h0
 obtain ⟨nv, rfl, hn, hv, ht⟩ := hf
 obtain ⟨ao, c, rfl, hc, hc2, _⟩ := hn.shape
 have hF := (show FmV w _ f from ⟨_, rfl, hn, hv, ht⟩)
 obtain ⟨vz, ns, top⟩ := f
 simp only at hvV hn128 hno htop hn ht hv hc hF h0 ⊢
 subst hvV
 have HF := qHd hF; have E0 := qHd h0; have HN := qHd hn; have HNO := qHd hno; have HT := qHd htop; have HT64 := qHd ht
 clear hF h0 hn hno htop ht hv
 obtain ⟨W, hwB⟩ : ∃ z0, z0 = w.alloc (.cells #[.int .i64 V, .slice ao ns.length c, .int .i64 top] 24) := ⟨_, rfl⟩
 have hbB : Below w.heap.size w W := by rw [hwB]; exact qBA _ _
 obtain ⟨g1, hgB⟩ : ∃ g, g = w.heap.size := ⟨_, rfl⟩
 have hxB : W.heap[g1]? = some (.cells #[.int .i64 V, .slice ao ns.length c, .int .i64 top] 24) := by rw [hwB, hgB]; exact heap_alloc_new _ _
 have hsB : W.heap.size = w.heap.size + 1 := by rw [hwB]; simp
 have HBW := qHd hbB; have G1 := qHd hxB
 obtain ⟨x0, x1, x2⟩ := qaq hxB
 rw [hwB, hgB] at x0 x1 x2
 clear hbB hxB hsB
 have HK := qHd (qdh _ ⟨(V : Nat), ns, top⟩ W (HF.out.below HBW.out))
 rw [E0.out, qce] at HK
 have h12 : (V : Int) ≤ 12 := h12
 go_enter Tryz.func59, Tryz.ntmps59
 go_wp2_with (with_reducible refine qac ?_)
 rw [← hwB, ← hgB]
 clear hwB hgB x0 x1 x2
 refine qad.mk ?_
 (with_reducible refine HK.out.mono ?_); rintro e w1 ⟨rfl, hb1⟩
 have HB1 := qHd (HBW.out.trans (hb1.mono HBW.out.size))
 obtain ⟨x0, x1, x2⟩ := qaq (qaa G1.out hb1)
 have hvz : ¬ (12 : Int) < (V : Int) := by omega
 clear hb1
 go_wp2_with fail
 go_ret
 exact ⟨rfl, HB1.out⟩
def TabV (w : World) (B N : Nat) (f : Fm) (v : Value) : Prop := ∃ (g : Nat) (l : List Bool), v = .slice (some ⟨g, 0, none⟩) N N ∧ qbx w B 4 1 (.slice (some ⟨g, 0, none⟩) N N) N (bl1 l) ∧ l.length = N ∧ ∀ s, s < N → bd l s = topS f s
def RetTb (w : World) (f : Fm) (e : Ending) (w' : World) : Prop :=
 ∃ v : Value, e = .returned (.tuple #[v, .nilIface]) ∧ Below w.heap.size w w' ∧ TabV w' w.heap.size (2 ^ f.vars.toNat) f v
theorem TabV.below {w w' : World} {B N : Nat} {f : Fm} {v : Value} (h : TabV w B N f v) (hb : Below w.heap.size w w') : TabV w' B N f v := by
 obtain ⟨g, l, h1, h2, h3, h4⟩ := h
 exact ⟨g, l, h1, h2.below hb, h3, h4⟩
theorem table_any (vf : Value) (f : Fm) (w : World) (hf : FmV w vf f) (h0 : qcr f = 0) (h12 : f.vars ≤ 12) : Calls Tryz.prog 33 #[vf] w (RetTb w f) := by
 obtain ⟨V, hvV, hV, hn128, hno, htop⟩ := qdp h0
 obtain ⟨nv, rfl, hn, hv, ht⟩ := hf
 obtain ⟨ao, c, rfl, hc, hc2, _⟩ := hn.shape
 have hF := (show FmV w _ f from ⟨_, rfl, hn, hv, ht⟩)
 obtain ⟨vz, ns, top⟩ := f
 simp only at hvV hn128 hno htop hn ht hv hc hF h0 ⊢
 subst hvV
 have HF := qHd hF; have E0 := qHd h0; have HN := qHd hn; have HNO := qHd hno; have HT := qHd htop; have HT64 := qHd ht
 clear hF h0 hn hno htop ht hv
 obtain ⟨W, hwB⟩ : ∃ z0, z0 = w.alloc (.cells #[.int .i64 V, .slice ao ns.length c, .int .i64 top] 24) := ⟨_, rfl⟩
 have hbB : Below w.heap.size w W := by rw [hwB]; exact qBA _ _
 obtain ⟨g1, hgB⟩ : ∃ g, g = w.heap.size := ⟨_, rfl⟩
 have hxB : W.heap[g1]? = some (.cells #[.int .i64 V, .slice ao ns.length c, .int .i64 top] 24) := by rw [hwB, hgB]; exact heap_alloc_new _ _
 have hsB : W.heap.size = w.heap.size + 1 := by rw [hwB]; simp
 have HBW := qHd hbB; have G1 := qHd hxB
 obtain ⟨x0, x1, x2⟩ := qaq hxB
 rw [hwB, hgB] at x0 x1 x2
 clear hbB hxB hsB
 have h12 : (V : Int) ≤ 12 := h12
 have hV12 : V ≤ 12 := by omega
 have HK := qHd (ttcheck_any _ ⟨(V : Nat), ns, top⟩ W (HF.out.below HBW.out) E0.out h12)
 obtain ⟨N, hN⟩ : ∃ n, n = 2 ^ V := ⟨_, rfl⟩
 have hN4 : N ≤ 4096 := by rw [hN]; exact Nat.pow_le_pow_right (by decide) hV12
 have DP : IntKind.wrap .i64 (2 ^ V) = (N : Int) := by rw [shl_one (by omega), hN]
 have HN := qHd hN; clear hN
 go_enter Tryz.func33, Tryz.ntmps33
 go_wp2_with (with_reducible refine qac ?_)
 rw [← hwB, ← hgB]
 clear hwB hgB x0 x1 x2
 refine qad.mk ?_
 (with_reducible refine HK.out.mono ?_); rintro e w1 ⟨rfl, hb1⟩
 have HB1 := qHd (HBW.out.trans (hb1.mono HBW.out.size)); have G11 := qHd (qaa G1.out hb1)
 obtain ⟨x0, x1, x2⟩ := qaq G11.out
 clear hb1 HK
 go_wp2_with (with_reducible refine wpList_pauseM ?_)
 clear x0 x1 x2
 refine wpList_makeNM w1.heap.size Tryz.boolTyK rfl N N rfl rfl (by omega) (by omega) (by omega) (by omega) (by decide) (Nat.le_refl _) ?_
 intro w3 ho3 hgr3
 obtain ⟨gi, hgi⟩ : ∃ g, g = w1.heap.size := ⟨_, rfl⟩
 rw [← hgi] at ho3 ⊢
 have b3 : Below w1.heap.size w1 w3 := (Below.refl _ _).grown hgr3 (Nat.le_refl _) (fun k hk => by cases hk)
 have HO := own_full ho3 (noU_repB _ _)
 rw [bl1_rep] at HO
 have OB := qHd (show qbx w3 gi 4 1 (.slice (some ⟨gi, 0, none⟩) N N) N (bl1 (List.replicate N false)) from hgi ▸ HO)
 have HB3 := qHd b3
 have GI := qHd (show gi = w1.heap.size from hgi)
 clear ho3 hgr3 HO b3 hgi
 go_wp2_with (with_reducible first | refine qah ?_ | refine qae ?_)
 refine qad.mk ?_
 go_loopw [20] (fun i' wx => ∃ (q : Nat) (l : List Bool), q ≤ N ∧ i' = .int .i64 q ∧ Hid (Below w1.heap.size w1 wx) ∧ Hid (qbx wx gi 4 1 (.slice (some ⟨gi, 0, none⟩) N N) N (bl1 l)) ∧ Hid (l.length = N ∧ ∀ s, s < q → bd l s = topS ⟨(V : Nat), ns, top⟩ s)) (fun i' _ => N - (intOf i').toNat)
 case atStart => exact ⟨0, _, Nat.zero_le _, rfl, HB3, OB, qHd ⟨List.length_replicate .., fun s h => absurd h (Nat.not_lt_zero _)⟩⟩
 case round =>
  obtain ⟨q, l, hq, rfl, HBX, OX, LX⟩ := hrel
  obtain ⟨wi, rfl⟩ : ∃ wi : World, wi = wr := ⟨_, rfl⟩
  by_cases hlt : q < N
  ·have hltz : (q : Int) < (N : Int) := by omega
   have G1X := qHd (qaa G11.out HBX.out); have HB1X := qHd (HB1.out.trans (HBX.out.mono HB1.out.size))
   obtain ⟨x0, x1, x2⟩ := qaq G1X.out
   have HK := qHd (fvalue_any _ ⟨(V : Nat), ns, top⟩ q wi (HF.out.below HB1X.out) E0.out (show q < 2 ^ (V : Int).toNat by rw [Int.toNat_natCast, ← HN.out]; exact hlt))
   go_wp2_with (with_reducible refine qac ?_)
   clear x0 x1 x2
   refine qad.mk ?_
   (with_reducible refine HK.out.mono ?_); rintro e w5 ⟨rfl, hb5⟩
   obtain ⟨bt, hbt⟩ : ∃ b, b = topS ⟨(V : Nat), ns, top⟩ q := ⟨_, rfl⟩
   rw [← hbt]
   have HBT := qHd hbt
   have O5 := qHd (OX.out.below hb5); have HB5 := qHd (qcg HBX.out (Nat.le_refl _) hb5)
   clear hbt hb5 HK
   obtain ⟨cs, hcs, hcz⟩ := qdv O5.out
   go_wp2_with (with_reducible refine qbr ?_)
   refine wpList_stB gi q hcs rfl rfl (by omega) (by kernel_rfl) ?_
   intro w9 hp9
   have O9 := qHd (ownb_put O5.out LX.out.1 hlt hp9)
   have HB9 := qHd (qdl hp9 HB5.out (by rw [GI.out]; exact Nat.le_refl _))
   have L9 := qHd (show (l.set q bt).length = N ∧ ∀ s, s < q + 1 → bd (l.set q bt) s = topS ⟨(V : Nat), ns, top⟩ s from ⟨by rw [List.length_set]; exact LX.out.1, fun s hs => by
    rw [bd_set (by rw [LX.out.1]; exact hlt)]
    by_cases e : s = q
    ·rw [if_pos e, HBT.out, e]
    ·rw [if_neg e]; exact LX.out.2 s (by omega)⟩)
   clear hp9 hcs hcz
   go_wp2_with fail
   go_roundw
   case rel => exact ⟨q + 1, l.set q bt, by omega, by go_num, HB9, O9, L9⟩
   case measure => simp [intOf]; omega
  ·have hq' : q = N := by omega
   subst hq'
   go_wp2_with fail
   go_ret2
   refine ⟨_, rfl, HB1.out.trans (HBX.out.mono HB1.out.size), ?_⟩
   show TabV wi w.heap.size (2 ^ (V : Int).toNat) _ _
   rw [Int.toNat_natCast, ← HN.out]
   exact ⟨gi, l, rfl, OX.out.base (by rw [GI.out]; exact HB1.out.size), LX.out.1, LX.out.2⟩
theorem equal_any (vf vg : Value) (f g : Fm) (w : World) (hf : FmV w vf f) (hg : FmV w vg g) (h0 : qcr f = 0) (h12 : f.vars ≤ 12) (hE : FEq f g) : Calls Tryz.prog 13 #[vf, vg] w (qcc w (.tuple #[.bool true, .int .i64 (-1), .nilIface])) := by
 obtain ⟨V, hvV, hV, hn128, hno, htop⟩ := qdp h0
 obtain ⟨nv, rfl, hn, hv, ht⟩ := hf
 obtain ⟨ao, c, rfl, hc, hc2, _⟩ := hn.shape
 have hF := (show FmV w _ f from ⟨_, rfl, hn, hv, ht⟩)
 obtain ⟨vz, ns, top⟩ := f
 simp only at hvV hn128 hno htop hn ht hv hc hF h0 ⊢
 subst hvV
 have HF := qHd hF; have E0 := qHd h0; have HN := qHd hn; have HNO := qHd hno; have HT := qHd htop; have HT64 := qHd ht
 clear hF h0 hn hno htop ht hv
 obtain ⟨nv2, rfl, hn2, hv2, ht2⟩ := hg
 obtain ⟨ao2, c2, rfl, hc2', hc22, _⟩ := hn2.shape
 have hG := (show FmV w _ g from ⟨_, rfl, hn2, hv2, ht2⟩)
 obtain ⟨vz2, ms, top2⟩ := g
 have hve : vz2 = (V : Nat) := hE.vars
 subst hve
 have HG := qHd hG; have E02 := qHd hE.ok; have HE := qHd hE
 simp only at hc2'
 clear hG hn2 hv2 ht2 hE
 have h12 : (V : Int) ≤ 12 := h12
 obtain ⟨N, hN⟩ : ∃ n, n = 2 ^ (V : Int).toNat := ⟨_, rfl⟩
 have hN4 : N ≤ 4096 := by rw [hN, Int.toNat_natCast]; exact Nat.pow_le_pow_right (by decide) (show V ≤ 12 by omega)
 have HN := qHd hN; clear hN
 obtain ⟨wa, hwa⟩ : ∃ z0, z0 = w.alloc (.cells #[.int .i64 V, .slice ao ns.length c, .int .i64 top] 24) := ⟨_, rfl⟩
 have hba : Below w.heap.size w wa := by rw [hwa]; exact qBA _ _
 obtain ⟨g1, hga⟩ : ∃ g, g = w.heap.size := ⟨_, rfl⟩
 have hxa : wa.heap[g1]? = some (.cells #[.int .i64 V, .slice ao ns.length c, .int .i64 top] 24) := by rw [hwa, hga]; exact heap_alloc_new _ _
 have hsa : wa.heap.size = w.heap.size + 1 := by rw [hwa]; simp
 obtain ⟨W, hwb⟩ : ∃ z0, z0 = wa.alloc (.cells #[.int .i64 V, .slice ao2 ms.length c2, .int .i64 top2] 24) := ⟨_, rfl⟩
 have hbb : Below wa.heap.size wa W := by rw [hwb]; exact qBA _ _
 obtain ⟨g2, hgb⟩ : ∃ g, g = wa.heap.size := ⟨_, rfl⟩
 have hxb : W.heap[g2]? = some (.cells #[.int .i64 V, .slice ao2 ms.length c2, .int .i64 top2] 24) := by rw [hwb, hgb]; exact heap_alloc_new _ _
 have hsb : W.heap.size = wa.heap.size + 1 := by rw [hwb]; simp
 have HBW := qHd (hba.trans (hbb.mono hba.size)); have G1 := qHd (qaa hxa hbb); have G2 := qHd hxb
 have HEG := qHd (show g2 = g1 + 1 by omega)
 obtain ⟨x0, x1, x2⟩ := qaq G1.out
 rw [hwb, hwa, hga] at x0 x1 x2
 clear hba hbb hxa hxb hsa hsb
 have HK := qHd (qdh _ ⟨(V : Nat), ns, top⟩ W (HF.out.below HBW.out))
 rw [E0.out, qce] at HK
 go_enter Tryz.func13, Tryz.ntmps13
 go_wp2_with (with_reducible refine qac ?_)
 rw [← hwa, ← hwb, ← hga, ← HEG.out]
 clear hwa hga hwb hgb x0 x1 x2
 refine qad.mk ?_
 (with_reducible refine HK.out.mono ?_); rintro e w1 ⟨rfl, hb1⟩
 have HB1 := qHd (HBW.out.trans (hb1.mono HBW.out.size)); have G11 := qHd (qaa G1.out hb1); have G21 := qHd (qaa G2.out hb1)
 clear hb1 HK
 have HK := qHd (qdh _ ⟨(V : Nat), ms, top2⟩ w1 (HG.out.below HB1.out))
 rw [E02.out, qce] at HK
 obtain ⟨y0, y1, y2⟩ := qaq G21.out
 go_wp2_with (with_reducible refine qac ?_)
 clear y0 y1 y2
 refine qad.mk ?_
 (with_reducible refine HK.out.mono ?_); rintro e w2 ⟨rfl, hb2⟩
 have HB2 := qHd (HB1.out.trans (hb2.mono HB1.out.size)); have G12 := qHd (qaa G11.out hb2); have G22 := qHd (qaa G21.out hb2)
 clear hb2 HK
 have HK := qHd (table_any _ ⟨(V : Nat), ns, top⟩ w2 (HF.out.below HB2.out) E0.out h12)
 obtain ⟨x0, x1, x2⟩ := qaq G12.out
 obtain ⟨y0, y1, y2⟩ := qaq G22.out
 go_wp2_with (with_reducible refine qac ?_)
 clear x0 x1 x2 y0 y1 y2
 refine qad.mk ?_
 (with_reducible refine HK.out.mono ?_); rintro e w3 ⟨va, rfl, hb3, hta⟩
 have HB3 := qHd (HB2.out.trans (hb3.mono HB2.out.size)); have G23 := qHd (qaa G22.out hb3); have TA := qHd hta
 clear hb3 hta HK
 have HK := qHd (table_any _ ⟨(V : Nat), ms, top2⟩ w3 (HG.out.below HB3.out) E02.out h12)
 obtain ⟨y0, y1, y2⟩ := qaq G23.out
 go_wp2_with (with_reducible refine qac ?_)
 clear y0 y1 y2
 refine qad.mk ?_
 (with_reducible refine HK.out.mono ?_); rintro e w4 ⟨vb, rfl, hb4, htb⟩
 have HB4 := qHd (HB3.out.trans (hb4.mono HB3.out.size)); have TA4 := qHd (TA.out.below hb4); have TB := qHd htb
 clear hb4 htb HK TA
 have hTA := TA4.out; have hTB := TB.out
 simp only at hTA hTB
 rw [← HN.out] at hTA hTB
 obtain ⟨ga, la, rfl, oa, lla, hla⟩ := hTA
 obtain ⟨gb, lb, rfl, ob, llb, hlb⟩ := hTB
 have OA := qHd oa; have OB := qHd ob; have HLA := qHd (And.intro lla hla); have HLB := qHd (And.intro llb hlb)
 clear oa ob lla hla llb hlb TA4 TB
 go_wp2_with (with_reducible first | refine qah ?_ | refine qae ?_)
 refine qad.mk ?_
 go_loopw [47] (fun i' wx => ∃ (q : Nat), q ≤ N ∧ i' = .int .i64 q ∧ Hid (Below w4.heap.size w4 wx)) (fun i' _ => N - (intOf i').toNat)
 case atStart => exact ⟨0, Nat.zero_le _, rfl, qHd (Below.refl _ _)⟩
 case round =>
  obtain ⟨q, hq, rfl, HBX⟩ := hrel
  obtain ⟨wi, rfl⟩ : ∃ wi : World, wi = wr := ⟨_, rfl⟩
  by_cases hlt : q < N
  ·have hltz : (q : Int) < (N : Int) := by omega
   obtain ⟨bt, hbt⟩ : ∃ b, b = topS ⟨(V : Nat), ns, top⟩ q := ⟨_, rfl⟩
   have ca := ownb_cell (OA.out.below HBX.out) HLA.out.1 hlt
   have cb := ownb_cell (OB.out.below HBX.out) HLB.out.1 hlt
   rw [HLA.out.2 q hlt, ← hbt] at ca
   rw [HLB.out.2 q hlt, HE.out.topS (by rw [← HN.out]; exact hlt), ← hbt] at cb
   clear hbt
   go_wp2_with (with_reducible refine qax ?_)
   refine qad.mk ?_
   go_quiet (fail)
   go_wp2_with fail
   go_roundw
   case rel => exact ⟨q + 1, by omega, by go_num, qHd (qcp HBX.out _)⟩
   case measure => simp [intOf]; omega
  ·have hq' : q = N := by omega
   subst hq'
   go_wp2_with fail
   go_ret3
   exact ⟨rfl, HB4.out.trans (HBX.out.mono HB4.out.size)⟩
def RetX (w : World) (B : Nat) (X : List Nat) (gb : Nat) (v : Value) (V : Nat) (out : List Nd) (m : Nat) (f : List Nat → Bool) (e : Ending) (w' : World) : Prop :=
 ∃ (v' : Value) (out' : List Nd) (y z : Int), e = .returned (.tuple #[.int .i64 y, .int .i64 z]) ∧ Chg w w' [gb] v v' ∧ Bd w' B X gb v' V out' 0 ∧ out'.length ≤ out.length + 2 + 6 * m ∧ Grw V out out' y f ∧ Grw V out out' z (fun e0 => !f e0)
theorem arg_i64 {V n : Nat} {a : Int} (h : Arg V n a) (hV : V ≤ 24) (hn : n ≤ 200000) : I64 a := by
 obtain ⟨h1, h2⟩ := h
 exact ⟨by omega, by omega⟩
theorem getD_some {l : List Int} {j : Nat} {x : Int} (hj : j < l.length) (hx : x = l.getD j 0) : l[j]? = some x := by
 rw [hx, List.getD_eq_getElem?_getD, List.getElem?_eq_getElem hj]; rfl
theorem bxor_any (B gb V : Nat) (X : List Nat) (v a p n : Value) (out nodes : List Nd) (P Q : List Int) (a0 : Int) (rest : List Int) (w wL : World) (hM : Bd w B X gb v V out 0) (hV : V ≤ 24) (hol : out.length ≤ 10000) (hrl : rest.length ≤ 16) (_ : nodes.length ≤ 128)
  (ha : qbi wL a (a0 :: rest)) (hLB : wL.heap.size ≤ B) (hbL : Below wL.heap.size wL w) (hp : qbi w p P) (hn : qbi w n Q) (sp : ∀ g, p.ownBlock = some g → g ∈ X ∧ g ≠ gb) (sn : ∀ g, n.ownBlock = some g → g ∈ X ∧ g ≠ gb)
  (hPs : Psh V nodes out P Q) (hag : ∀ y ∈ a0 :: rest, Arg V nodes.length y) :
  Calls Tryz.prog 29 #[.pointer (some ⟨gb, 0, none⟩), a, p, n] w (RetX w B X gb v V out rest.length (fun e0 => xorL (tA (qaj e0 nodes)) (tA (qaj e0 nodes) a0) rest)) := by
 obtain ⟨ao, c, rfl, hc, hc2, _⟩ := ha.shape
 obtain ⟨ba, offa, rfl, hba, u1, hata⟩ := ha.at (by simp)
 clear u1 hba
 obtain ⟨po, pc, rfl, hpc, hpc2, _⟩ := hp.shape
 obtain ⟨qo, qc, rfl, hqc, hqc2, _⟩ := hn.shape
 have lp := hPs.lp; have lq := hPs.ln
 obtain ⟨NP, hNP⟩ : ∃ m, m = P.length := ⟨_, rfl⟩
 have hNQ : Q.length = NP := by omega
 rw [← hNP] at hp sp hpc ⊢
 rw [hNQ] at hn sn hqc ⊢
 have HMS := qHd hM; have HAI := qHd ha; have HAT := qHd hata; have LB := qHd hLB; have HBA := qHd hbL; have PS := qHd hPs; have AG := qHd hag
 have LPQ := qHd (show P.length = NP ∧ Q.length = NP ∧ NP = V + nodes.length from ⟨hNP.symm, hNQ, by omega⟩)
 have hNP0 : 0 < NP := by
  have h0 := hag a0 (List.mem_cons_self ..)
  have h1 := h0.1; have h2 := h0.2
  omega
 obtain ⟨bp, offp, rfl, _, _, _⟩ := hp.at hNP0
 obtain ⟨bn, offn, rfl, _, _, _⟩ := hn.at hNP0
 have HP := qHd hp; have HQ := qHd hn; have SP := qHd sp; have SQ := qHd sn
 have OL := qHd hol
 obtain ⟨rl, hrl2⟩ : ∃ m, m = rest.length := ⟨_, rfl⟩
 rw [List.length_cons, ← hrl2] at hc ⊢
 rw [← hrl2] at hrl
 have RL := qHd hrl2
 clear hM ha hata hLB hbL hp hn sp sn hPs hag lp lq hNP hNQ hrl2 hNP0
 have hA0 := AG.out a0 (List.mem_cons_self ..)
 obtain ⟨A, hA⟩ : ∃ A : Nat, a0 = A := ⟨a0.toNat, by have := hA0.1; omega⟩
 have hAN : A < NP := by have := hA0.2; have := LPQ.out; omega
 have EA := qHd hA
 have O0 := PS.out.one hA0
 rw [hA, Int.toNat_natCast] at O0
 obtain ⟨pv, hpv⟩ : ∃ z, z = P.getD A 0 := ⟨_, rfl⟩
 obtain ⟨nv, hnv⟩ : ∃ z, z = Q.getD A 0 := ⟨_, rfl⟩
 rw [← hpv, ← hnv] at O0
 have EP := qHd (getD_some (by rw [LPQ.out.1]; exact hAN) hpv); have EQ := qHd (getD_some (by rw [LPQ.out.2.1]; exact hAN) hnv)
 have OO := qHd O0
 have ca := qap (HAT.out 0 a0 rfl) HBA.out
 rw [Nat.add_zero, hA] at ca
 have hANz : (A : Int) < (NP : Int) := by omega
 clear hA hA0 O0 hpv hnv
 have ZZ := qHd (show 0 ≤ 0 from Nat.le_refl _)
 go_enter Tryz.func29, Tryz.ntmps29
 obtain ⟨b2, f2, e2, u1, u2, hat⟩ := HP.out.at (by omega)
 clear u1 u2
 cases e2
 have cp := hat A pv EP.out
 clear hat
 obtain ⟨z1, hwq1⟩ : ∃ z0, z0 = w.alloc (.cells #[.int .i64 pv] 3) := ⟨_, rfl⟩
 have hbq1 : Below w.heap.size w z1 := by rw [hwq1]; exact qBA _ _
 obtain ⟨g1, hgq1⟩ : ∃ g, g = w.heap.size := ⟨_, rfl⟩
 have hxq1 : z1.heap[g1]? = some (.cells #[.int .i64 pv] 3) := by rw [hwq1, hgq1]; exact heap_alloc_new _ _
 have hsq1 : z1.heap.size = w.heap.size + 1 := by rw [hwq1]; simp
 have HI1 := qHd (qby (l := [pv]) hxq1 rfl (by simp) (i64_one (arg_i64 OO.out.1 hV (by omega))))
 have MA1 := qHd (HMS.out.below hbq1); have AP1 := qHd (HMS.out.apart (a := .slice (some ⟨g1, 0, none⟩) 1 1) (l := [pv]) (s := w.heap.size) (Nat.le_refl _) (fun g e => by simp only [Value.ownBlock, Option.some.injEq] at e; omega))
 have BZ1 := qHd hbq1
 clear hbq1 hxq1 hsq1
 have HK := qHd (qbd B gb V X v (.slice (some ⟨g1, 0, none⟩) 1 1) out 0 3 0 [pv] z1 MA1.out HI1.out AP1.out ⟨by decide, by decide⟩ ⟨by decide, by decide⟩ hV (by have := OL.out; have := ZZ.out; omega))
 go_wp2_with (with_reducible refine qac ?_)
 rw [← hwq1, ← hgq1]
 clear hwq1 hgq1 ca cp
 refine qad.mk ?_
 (with_reducible refine HK.out.mono ?_); rintro e w1 ⟨v1, rfl, hC, hM2⟩
 obtain ⟨r1, hr1⟩ : ∃ z : Int, z = ((V + out.length : Nat) : Int) := ⟨_, rfl⟩
 obtain ⟨o1, ho1⟩ : ∃ o, o = out ++ [(⟨3, 0, [pv]⟩ : Nd)] := ⟨_, rfl⟩
 rw [← hr1]
 rw [← ho1] at hM2
 have M1 := qHd hM2; have C1 := qHd ((Chg.of_below (Y := [gb]) (v := v) BZ1.out).trans hC)
 have E1 := qHd (And.intro hr1 ho1)
 have LN1 := qHd (show o1.length = out.length + 1 by rw [ho1, List.length_append]; rfl)
 clear hr1 ho1 hC hM2 HK MA1 AP1 HI1 BZ1
 have HP := qHd (HMS.out.keepI C1.out SP.out HP.out); have HQ := qHd (HMS.out.keepI C1.out SQ.out HQ.out); have HBA := qHd (HMS.out.lowS C1.out LB.out HBA.out)
 have ca := qap (HAT.out 0 a0 rfl) HBA.out
 rw [Nat.add_zero, EA.out] at ca
 obtain ⟨b2, f2, e2, u1, u2, hat⟩ := HQ.out.at (by omega)
 clear u1 u2
 cases e2
 have cp := hat A nv EQ.out
 clear hat
 obtain ⟨z2, hwq2⟩ : ∃ z0, z0 = w1.alloc (.cells #[.int .i64 nv] 3) := ⟨_, rfl⟩
 have hbq2 : Below w1.heap.size w1 z2 := by rw [hwq2]; exact qBA _ _
 obtain ⟨g2, hgq2⟩ : ∃ g, g = w1.heap.size := ⟨_, rfl⟩
 have hxq2 : z2.heap[g2]? = some (.cells #[.int .i64 nv] 3) := by rw [hwq2, hgq2]; exact heap_alloc_new _ _
 have hsq2 : z2.heap.size = w1.heap.size + 1 := by rw [hwq2]; simp
 have HI2 := qHd (qby (l := [nv]) hxq2 rfl (by simp) (i64_one (arg_i64 OO.out.2.1 hV (by omega))))
 have MA2 := qHd (M1.out.below hbq2); have AP2 := qHd (M1.out.apart (a := .slice (some ⟨g2, 0, none⟩) 1 1) (l := [nv]) (s := w1.heap.size) (Nat.le_refl _) (fun g e => by simp only [Value.ownBlock, Option.some.injEq] at e; omega))
 have BZ2 := qHd hbq2
 clear hbq2 hxq2 hsq2
 have HK := qHd (qbd B gb V X v1 (.slice (some ⟨g2, 0, none⟩) 1 1) o1 0 3 0 [nv] z2 MA2.out HI2.out AP2.out ⟨by decide, by decide⟩ ⟨by decide, by decide⟩ hV (by have := OL.out; have := LN1.out; omega))
 go_wp2_with (with_reducible refine qac ?_)
 rw [← hwq2, ← hgq2]
 clear hwq2 hgq2 ca cp
 refine qad.mk ?_
 (with_reducible refine HK.out.mono ?_); rintro e w2 ⟨v2, rfl, hC, hM2⟩
 obtain ⟨r2, hr2⟩ : ∃ z : Int, z = ((V + o1.length : Nat) : Int) := ⟨_, rfl⟩
 obtain ⟨o2, ho2⟩ : ∃ o, o = o1 ++ [(⟨3, 0, [nv]⟩ : Nd)] := ⟨_, rfl⟩
 rw [← hr2]
 rw [← ho2] at hM2
 have M2 := qHd hM2; have C2 := qHd ((Chg.of_below (Y := [gb]) (v := v1) BZ2.out).trans hC)
 have E2 := qHd (And.intro hr2 ho2)
 have LN2 := qHd (show o2.length = o1.length + 1 by rw [ho2, List.length_append]; rfl)
 clear hr2 ho2 hC hM2 HK MA2 AP2 HI2 BZ2
 have HP := qHd (M1.out.keepI C2.out SP.out HP.out); have HQ := qHd (M1.out.keepI C2.out SQ.out HQ.out); have HBA := qHd (M1.out.lowS C2.out LB.out HBA.out)
 have G1 := or_one (f := fun e0 => tA (qaj e0 nodes) a0) PS.out.ok OO.out.1 (fun e0 he ht => by have := (OO.out.2.2 e0 he ht).1; rw [EA.out]; exact this)
 rw [← E1.out.1, ← E1.out.2] at G1
 have G2 := or_one (f := fun e0 => !tA (qaj e0 nodes) a0) G1.ok (OO.out.2.1.up G1.le) (fun e0 he ht => by rw [G1.old OO.out.2.1 he]; have := (OO.out.2.2 e0 he ht).2; rw [EA.out]; exact this)
 rw [← E2.out.1, ← E2.out.2] at G2
 have GY := qHd (show Grw V out o2 r1 (fun e0 => xorL (tA (qaj e0 nodes)) (tA (qaj e0 nodes) a0) (rest.take 0)) from ⟨(G1.trans G2).ext, G2.ok, G1.arg.up G2.le, fun e0 he ht => by rw [G2.old G1.arg he, List.take_zero]; exact G1.v e0 he ht⟩)
 have GZ := qHd (show Grw V out o2 r2 (fun e0 => !xorL (tA (qaj e0 nodes)) (tA (qaj e0 nodes) a0) (rest.take 0)) from (G1.trans G2).congr (fun e0 _ _ => by rw [List.take_zero]; rfl))
 have CS := qHd (C1.out.trans C2.out)
 clear G1 G2
 go_wp2_with (with_reducible refine qdk ?_)
 refine wpList_sl 1 Tryz.int_un Tryz.int_sz rfl rfl (by omega) ?_
 intro off2 hoff
 have HOFF := qHd (show 0 < rl → off2 = offa + 1 from fun h => hoff (by omega) hc); clear hoff
 rw [show rl + 1 - 1 = rl by omega]
 go_wp2_with (with_reducible first | refine qah ?_ | refine qae ?_)
 refine qad.mk ?_
 go_loopw [36, 8, 9] (fun i' yv zv wx => ∃ (q : Nat) (v' : Value) (oo : List Nd) (y z : Int), q ≤ rl ∧ i' = .int .i64 q ∧ yv = .int .i64 y ∧ zv = .int .i64 z ∧ Hid (Chg w wx [gb] v v') ∧ Hid (Bd wx B X gb v' V oo 0) ∧ Hid (qbi wx (.slice (some ⟨bp, offp, none⟩) NP pc) P) ∧ Hid (qbi wx (.slice (some ⟨bn, offn, none⟩) NP qc) Q) ∧ Hid (Below wL.heap.size wL wx) ∧ Hid (oo.length ≤ out.length + 2 + 6 * q) ∧ Hid (Grw V out oo y (fun e0 => xorL (tA (qaj e0 nodes)) (tA (qaj e0 nodes) a0) (rest.take q))) ∧ Hid (Grw V out oo z (fun e0 => !xorL (tA (qaj e0 nodes)) (tA (qaj e0 nodes) a0) (rest.take q)))) (fun i' _ _ _ => rl - (intOf i').toNat)
 case atStart => exact ⟨0, _, o2, r1, r2, Nat.zero_le _, rfl, rfl, rfl, CS, M2, HP, HQ, HBA, qHd (by rw [LN2.out, LN1.out]; omega), GY, GZ⟩
 case round =>
  clear HP HQ HBA CS M2 GY GZ EP EQ OO EA
  obtain ⟨q, v3, o3, y, z, hq, rfl, rfl, rfl, C3, M3, HP, HQ, HBA, LN3, GY, GZ⟩ := hrel
  obtain ⟨wi, rfl⟩ : ∃ wi : World, wi = wr := ⟨_, rfl⟩
  by_cases hlt : q < rl
  ·obtain ⟨x, hx⟩ : ∃ x, rest[q]? = some x := ⟨rest[q]'(by rw [← RL.out]; exact hlt), List.getElem?_eq_getElem (by rw [← RL.out]; exact hlt)⟩
   have hxa := AG.out x (List.mem_cons_of_mem _ (List.mem_of_getElem? hx))
   obtain ⟨A, hA⟩ : ∃ A : Nat, x = A := ⟨x.toNat, by have := hxa.1; omega⟩
   have hAN : A < NP := by have := hxa.2; have := LPQ.out; omega
   have ca := qap (HAT.out (q + 1) x (by simpa using hx)) HBA.out
   rw [show offa + (q + 1) = off2 + q by have := HOFF.out (by omega); omega, hA] at ca
   have HX := qHd hx; have EA := qHd hA
   have PS3 := qHd (PS.out.grw GY.out)
   have O0 := PS3.out.one hxa
   rw [hA, Int.toNat_natCast] at O0
   obtain ⟨pv, hpv⟩ : ∃ z, z = P.getD A 0 := ⟨_, rfl⟩
   obtain ⟨nv, hnv⟩ : ∃ z, z = Q.getD A 0 := ⟨_, rfl⟩
   rw [← hpv, ← hnv] at O0
   have EP := qHd (getD_some (by rw [LPQ.out.1]; exact hAN) hpv); have EQ := qHd (getD_some (by rw [LPQ.out.2.1]; exact hAN) hnv)
   have OO := qHd O0
   have hANz : (A : Int) < (NP : Int) := by omega
   have hltz : (q : Int) < (rl : Int) := by omega
   have hY64 := qHd (arg_i64 GY.out.arg hV (by have := LN3.out; have := OL.out; omega)); have hZ64 := qHd (arg_i64 GZ.out.arg hV (by have := LN3.out; have := OL.out; omega)); have hP64 := qHd (arg_i64 OO.out.1 hV (by have := LN3.out; have := OL.out; omega)); have hN64 := qHd (arg_i64 OO.out.2.1 hV (by have := LN3.out; have := OL.out; omega))
   clear hA hxa O0 hpv hnv hx
   obtain ⟨b2, f2, e2, u1, u2, hat⟩ := HQ.out.at (by omega)
   clear u1 u2
   cases e2
   have cp := hat A nv EQ.out
   clear hat
   obtain ⟨z4, hwq4⟩ : ∃ z0, z0 = wi.alloc (.cells #[.int .i64 y, .int .i64 nv] 3) := ⟨_, rfl⟩
   have hbq4 : Below wi.heap.size wi z4 := by rw [hwq4]; exact qBA _ _
   obtain ⟨g4, hgq4⟩ : ∃ g, g = wi.heap.size := ⟨_, rfl⟩
   have hxq4 : z4.heap[g4]? = some (.cells #[.int .i64 y, .int .i64 nv] 3) := by rw [hwq4, hgq4]; exact heap_alloc_new _ _
   have hsq4 : z4.heap.size = wi.heap.size + 1 := by rw [hwq4]; simp
   have HI4 := qHd (qby (l := [y, nv]) hxq4 rfl (by simp) (qdd hY64.out hN64.out))
   have MA4 := qHd (M3.out.below hbq4); have AP4 := qHd (M3.out.apart (a := .slice (some ⟨g4, 0, none⟩) 2 2) (l := [y, nv]) (s := wi.heap.size) (Nat.le_refl _) (fun g e => by simp only [Value.ownBlock, Option.some.injEq] at e; omega))
   have BZ4 := qHd hbq4
   clear hbq4 hxq4 hsq4
   have HK := qHd (qbd B gb V X v3 (.slice (some ⟨g4, 0, none⟩) 2 2) o3 0 2 0 [y, nv] z4 MA4.out HI4.out AP4.out ⟨by decide, by decide⟩ ⟨by decide, by decide⟩ hV (by have := OL.out; have := LN3.out; omega))
   go_wp2_with (with_reducible refine qac ?_)
   rw [← hwq4, ← hgq4]
   clear hwq4 hgq4 ca cp
   refine qad.mk ?_
   (with_reducible refine HK.out.mono ?_); rintro e w4 ⟨v4, rfl, hC, hM2⟩
   obtain ⟨r4, hr4⟩ : ∃ z : Int, z = ((V + o3.length : Nat) : Int) := ⟨_, rfl⟩
   obtain ⟨o4, ho4⟩ : ∃ o, o = o3 ++ [(⟨2, 0, [y, nv]⟩ : Nd)] := ⟨_, rfl⟩
   rw [← hr4]
   rw [← ho4] at hM2
   have M4 := qHd hM2; have C4 := qHd ((Chg.of_below (Y := [gb]) (v := v3) BZ4.out).trans hC)
   have E4 := qHd (And.intro hr4 ho4)
   have LN4 := qHd (show o4.length = o3.length + 1 by rw [ho4, List.length_append]; rfl)
   clear hr4 ho4 hC hM2 HK MA4 AP4 HI4 BZ4
   have HP := qHd (M3.out.keepI C4.out SP.out HP.out); have HQ := qHd (M3.out.keepI C4.out SQ.out HQ.out); have HBA := qHd (M3.out.lowS C4.out LB.out HBA.out)
   have LL4 := qHd (show o4.length ≤ out.length + 2 + 6 * q + 1 by have := LN4.out; have := LN3.out; omega)
   obtain ⟨b2, f2, e2, u1, u2, hat⟩ := HP.out.at (by omega)
   clear u1 u2
   cases e2
   have cp := hat A pv EP.out
   clear hat
   obtain ⟨z5, hwq5⟩ : ∃ z0, z0 = w4.alloc (.cells #[.int .i64 z, .int .i64 pv] 3) := ⟨_, rfl⟩
   have hbq5 : Below w4.heap.size w4 z5 := by rw [hwq5]; exact qBA _ _
   obtain ⟨g5, hgq5⟩ : ∃ g, g = w4.heap.size := ⟨_, rfl⟩
   have hxq5 : z5.heap[g5]? = some (.cells #[.int .i64 z, .int .i64 pv] 3) := by rw [hwq5, hgq5]; exact heap_alloc_new _ _
   have hsq5 : z5.heap.size = w4.heap.size + 1 := by rw [hwq5]; simp
   have HI5 := qHd (qby (l := [z, pv]) hxq5 rfl (by simp) (qdd hZ64.out hP64.out))
   have MA5 := qHd (M4.out.below hbq5); have AP5 := qHd (M4.out.apart (a := .slice (some ⟨g5, 0, none⟩) 2 2) (l := [z, pv]) (s := w4.heap.size) (Nat.le_refl _) (fun g e => by simp only [Value.ownBlock, Option.some.injEq] at e; omega))
   have BZ5 := qHd hbq5
   clear hbq5 hxq5 hsq5
   have HK := qHd (qbd B gb V X v4 (.slice (some ⟨g5, 0, none⟩) 2 2) o4 0 2 0 [z, pv] z5 MA5.out HI5.out AP5.out ⟨by decide, by decide⟩ ⟨by decide, by decide⟩ hV (by have := OL.out; have := LL4.out; omega))
   go_wp2_with (with_reducible refine qac ?_)
   rw [← hwq5, ← hgq5]
   clear hwq5 hgq5 cp
   refine qad.mk ?_
   (with_reducible refine HK.out.mono ?_); rintro e w5 ⟨v5, rfl, hC, hM2⟩
   obtain ⟨r5, hr5⟩ : ∃ z : Int, z = ((V + o4.length : Nat) : Int) := ⟨_, rfl⟩
   obtain ⟨o5, ho5⟩ : ∃ o, o = o4 ++ [(⟨2, 0, [z, pv]⟩ : Nd)] := ⟨_, rfl⟩
   rw [← hr5]
   rw [← ho5] at hM2
   have M5 := qHd hM2; have C5 := qHd ((Chg.of_below (Y := [gb]) (v := v4) BZ5.out).trans hC)
   have E5 := qHd (And.intro hr5 ho5)
   have LN5 := qHd (show o5.length = o4.length + 1 by rw [ho5, List.length_append]; rfl)
   clear hr5 ho5 hC hM2 HK MA5 AP5 HI5 BZ5
   have HP := qHd (M4.out.keepI C5.out SP.out HP.out); have HQ := qHd (M4.out.keepI C5.out SQ.out HQ.out); have HBA := qHd (M4.out.lowS C5.out LB.out HBA.out)
   have LL5 := qHd (show o5.length ≤ out.length + 2 + 6 * q + 2 by have := LN5.out; have := LL4.out; omega)
   have R4 := qHd (show I64 r4 by rw [E4.out.1]; exact qch (by have := LN3.out; have := OL.out; omega)); have R5 := qHd (show I64 r5 by rw [E5.out.1]; exact qch (by have := LL4.out; have := OL.out; omega))
   obtain ⟨z6, hwq6⟩ : ∃ z0, z0 = w5.alloc (.cells #[.int .i64 r4, .int .i64 r5] 3) := ⟨_, rfl⟩
   have hbq6 : Below w5.heap.size w5 z6 := by rw [hwq6]; exact qBA _ _
   obtain ⟨g6, hgq6⟩ : ∃ g, g = w5.heap.size := ⟨_, rfl⟩
   have hxq6 : z6.heap[g6]? = some (.cells #[.int .i64 r4, .int .i64 r5] 3) := by rw [hwq6, hgq6]; exact heap_alloc_new _ _
   have hsq6 : z6.heap.size = w5.heap.size + 1 := by rw [hwq6]; simp
   have HI6 := qHd (qby (l := [r4, r5]) hxq6 rfl (by simp) (qdd R4.out R5.out))
   have MA6 := qHd (M5.out.below hbq6); have AP6 := qHd (M5.out.apart (a := .slice (some ⟨g6, 0, none⟩) 2 2) (l := [r4, r5]) (s := w5.heap.size) (Nat.le_refl _) (fun g e => by simp only [Value.ownBlock, Option.some.injEq] at e; omega))
   have BZ6 := qHd hbq6
   clear hbq6 hxq6 hsq6
   have HK := qHd (qbd B gb V X v5 (.slice (some ⟨g6, 0, none⟩) 2 2) o5 0 3 0 [r4, r5] z6 MA6.out HI6.out AP6.out ⟨by decide, by decide⟩ ⟨by decide, by decide⟩ hV (by have := OL.out; have := LL5.out; omega))
   go_wp2_with (with_reducible refine qac ?_)
   rw [← hwq6, ← hgq6]
   clear hwq6 hgq6
   refine qad.mk ?_
   (with_reducible refine HK.out.mono ?_); rintro e w6 ⟨v6, rfl, hC, hM2⟩
   obtain ⟨r6, hr6⟩ : ∃ z : Int, z = ((V + o5.length : Nat) : Int) := ⟨_, rfl⟩
   obtain ⟨o6, ho6⟩ : ∃ o, o = o5 ++ [(⟨3, 0, [r4, r5]⟩ : Nd)] := ⟨_, rfl⟩
   rw [← hr6]
   rw [← ho6] at hM2
   have M6 := qHd hM2; have C6 := qHd ((Chg.of_below (Y := [gb]) (v := v5) BZ6.out).trans hC)
   have E6 := qHd (And.intro hr6 ho6)
   have LN6 := qHd (show o6.length = o5.length + 1 by rw [ho6, List.length_append]; rfl)
   clear hr6 ho6 hC hM2 HK MA6 AP6 HI6 BZ6
   have HP := qHd (M5.out.keepI C6.out SP.out HP.out); have HQ := qHd (M5.out.keepI C6.out SQ.out HQ.out); have HBA := qHd (M5.out.lowS C6.out LB.out HBA.out)
   have LL6 := qHd (show o6.length ≤ out.length + 2 + 6 * q + 3 by have := LN6.out; have := LL5.out; omega)
   obtain ⟨b2, f2, e2, u1, u2, hat⟩ := HP.out.at (by omega)
   clear u1 u2
   cases e2
   have cp := hat A pv EP.out
   clear hat
   obtain ⟨z7, hwq7⟩ : ∃ z0, z0 = w6.alloc (.cells #[.int .i64 y, .int .i64 pv] 3) := ⟨_, rfl⟩
   have hbq7 : Below w6.heap.size w6 z7 := by rw [hwq7]; exact qBA _ _
   obtain ⟨g7, hgq7⟩ : ∃ g, g = w6.heap.size := ⟨_, rfl⟩
   have hxq7 : z7.heap[g7]? = some (.cells #[.int .i64 y, .int .i64 pv] 3) := by rw [hwq7, hgq7]; exact heap_alloc_new _ _
   have hsq7 : z7.heap.size = w6.heap.size + 1 := by rw [hwq7]; simp
   have HI7 := qHd (qby (l := [y, pv]) hxq7 rfl (by simp) (qdd hY64.out hP64.out))
   have MA7 := qHd (M6.out.below hbq7); have AP7 := qHd (M6.out.apart (a := .slice (some ⟨g7, 0, none⟩) 2 2) (l := [y, pv]) (s := w6.heap.size) (Nat.le_refl _) (fun g e => by simp only [Value.ownBlock, Option.some.injEq] at e; omega))
   have BZ7 := qHd hbq7
   clear hbq7 hxq7 hsq7
   have HK := qHd (qbd B gb V X v6 (.slice (some ⟨g7, 0, none⟩) 2 2) o6 0 2 0 [y, pv] z7 MA7.out HI7.out AP7.out ⟨by decide, by decide⟩ ⟨by decide, by decide⟩ hV (by have := OL.out; have := LL6.out; omega))
   go_wp2_with (with_reducible refine qac ?_)
   rw [← hwq7, ← hgq7]
   clear hwq7 hgq7 cp
   refine qad.mk ?_
   (with_reducible refine HK.out.mono ?_); rintro e w7 ⟨v7, rfl, hC, hM2⟩
   obtain ⟨r7, hr7⟩ : ∃ z : Int, z = ((V + o6.length : Nat) : Int) := ⟨_, rfl⟩
   obtain ⟨o7, ho7⟩ : ∃ o, o = o6 ++ [(⟨2, 0, [y, pv]⟩ : Nd)] := ⟨_, rfl⟩
   rw [← hr7]
   rw [← ho7] at hM2
   have M7 := qHd hM2; have C7 := qHd ((Chg.of_below (Y := [gb]) (v := v6) BZ7.out).trans hC)
   have E7 := qHd (And.intro hr7 ho7)
   have LN7 := qHd (show o7.length = o6.length + 1 by rw [ho7, List.length_append]; rfl)
   clear hr7 ho7 hC hM2 HK MA7 AP7 HI7 BZ7
   have HP := qHd (M6.out.keepI C7.out SP.out HP.out); have HQ := qHd (M6.out.keepI C7.out SQ.out HQ.out); have HBA := qHd (M6.out.lowS C7.out LB.out HBA.out)
   have LL7 := qHd (show o7.length ≤ out.length + 2 + 6 * q + 4 by have := LN7.out; have := LL6.out; omega)
   obtain ⟨b2, f2, e2, u1, u2, hat⟩ := HQ.out.at (by omega)
   clear u1 u2
   cases e2
   have cp := hat A nv EQ.out
   clear hat
   obtain ⟨z8, hwq8⟩ : ∃ z0, z0 = w7.alloc (.cells #[.int .i64 z, .int .i64 nv] 3) := ⟨_, rfl⟩
   have hbq8 : Below w7.heap.size w7 z8 := by rw [hwq8]; exact qBA _ _
   obtain ⟨g8, hgq8⟩ : ∃ g, g = w7.heap.size := ⟨_, rfl⟩
   have hxq8 : z8.heap[g8]? = some (.cells #[.int .i64 z, .int .i64 nv] 3) := by rw [hwq8, hgq8]; exact heap_alloc_new _ _
   have hsq8 : z8.heap.size = w7.heap.size + 1 := by rw [hwq8]; simp
   have HI8 := qHd (qby (l := [z, nv]) hxq8 rfl (by simp) (qdd hZ64.out hN64.out))
   have MA8 := qHd (M7.out.below hbq8); have AP8 := qHd (M7.out.apart (a := .slice (some ⟨g8, 0, none⟩) 2 2) (l := [z, nv]) (s := w7.heap.size) (Nat.le_refl _) (fun g e => by simp only [Value.ownBlock, Option.some.injEq] at e; omega))
   have BZ8 := qHd hbq8
   clear hbq8 hxq8 hsq8
   have HK := qHd (qbd B gb V X v7 (.slice (some ⟨g8, 0, none⟩) 2 2) o7 0 2 0 [z, nv] z8 MA8.out HI8.out AP8.out ⟨by decide, by decide⟩ ⟨by decide, by decide⟩ hV (by have := OL.out; have := LL7.out; omega))
   go_wp2_with (with_reducible refine qac ?_)
   rw [← hwq8, ← hgq8]
   clear hwq8 hgq8 cp
   refine qad.mk ?_
   (with_reducible refine HK.out.mono ?_); rintro e w8 ⟨v8, rfl, hC, hM2⟩
   obtain ⟨r8, hr8⟩ : ∃ z : Int, z = ((V + o7.length : Nat) : Int) := ⟨_, rfl⟩
   obtain ⟨o8, ho8⟩ : ∃ o, o = o7 ++ [(⟨2, 0, [z, nv]⟩ : Nd)] := ⟨_, rfl⟩
   rw [← hr8]
   rw [← ho8] at hM2
   have M8 := qHd hM2; have C8 := qHd ((Chg.of_below (Y := [gb]) (v := v7) BZ8.out).trans hC)
   have E8 := qHd (And.intro hr8 ho8)
   have LN8 := qHd (show o8.length = o7.length + 1 by rw [ho8, List.length_append]; rfl)
   clear hr8 ho8 hC hM2 HK MA8 AP8 HI8 BZ8
   have HP := qHd (M7.out.keepI C8.out SP.out HP.out); have HQ := qHd (M7.out.keepI C8.out SQ.out HQ.out); have HBA := qHd (M7.out.lowS C8.out LB.out HBA.out)
   have LL8 := qHd (show o8.length ≤ out.length + 2 + 6 * q + 5 by have := LN8.out; have := LL7.out; omega)
   have R7 := qHd (show I64 r7 by rw [E7.out.1]; exact qch (by have := LL6.out; have := OL.out; omega)); have R8 := qHd (show I64 r8 by rw [E8.out.1]; exact qch (by have := LL7.out; have := OL.out; omega))
   obtain ⟨z9, hwq9⟩ : ∃ z0, z0 = w8.alloc (.cells #[.int .i64 r7, .int .i64 r8] 3) := ⟨_, rfl⟩
   have hbq9 : Below w8.heap.size w8 z9 := by rw [hwq9]; exact qBA _ _
   obtain ⟨g9, hgq9⟩ : ∃ g, g = w8.heap.size := ⟨_, rfl⟩
   have hxq9 : z9.heap[g9]? = some (.cells #[.int .i64 r7, .int .i64 r8] 3) := by rw [hwq9, hgq9]; exact heap_alloc_new _ _
   have hsq9 : z9.heap.size = w8.heap.size + 1 := by rw [hwq9]; simp
   have HI9 := qHd (qby (l := [r7, r8]) hxq9 rfl (by simp) (qdd R7.out R8.out))
   have MA9 := qHd (M8.out.below hbq9); have AP9 := qHd (M8.out.apart (a := .slice (some ⟨g9, 0, none⟩) 2 2) (l := [r7, r8]) (s := w8.heap.size) (Nat.le_refl _) (fun g e => by simp only [Value.ownBlock, Option.some.injEq] at e; omega))
   have BZ9 := qHd hbq9
   clear hbq9 hxq9 hsq9
   have HK := qHd (qbd B gb V X v8 (.slice (some ⟨g9, 0, none⟩) 2 2) o8 0 3 0 [r7, r8] z9 MA9.out HI9.out AP9.out ⟨by decide, by decide⟩ ⟨by decide, by decide⟩ hV (by have := OL.out; have := LL8.out; omega))
   go_wp2_with (with_reducible refine qac ?_)
   rw [← hwq9, ← hgq9]
   clear hwq9 hgq9
   refine qad.mk ?_
   (with_reducible refine HK.out.mono ?_); rintro e w9 ⟨v9, rfl, hC, hM2⟩
   obtain ⟨r9, hr9⟩ : ∃ z : Int, z = ((V + o8.length : Nat) : Int) := ⟨_, rfl⟩
   obtain ⟨o9, ho9⟩ : ∃ o, o = o8 ++ [(⟨3, 0, [r7, r8]⟩ : Nd)] := ⟨_, rfl⟩
   rw [← hr9]
   rw [← ho9] at hM2
   have M9 := qHd hM2; have C9 := qHd ((Chg.of_below (Y := [gb]) (v := v8) BZ9.out).trans hC)
   have E9 := qHd (And.intro hr9 ho9)
   have LN9 := qHd (show o9.length = o8.length + 1 by rw [ho9, List.length_append]; rfl)
   clear hr9 ho9 hC hM2 HK MA9 AP9 HI9 BZ9
   have HP := qHd (M8.out.keepI C9.out SP.out HP.out); have HQ := qHd (M8.out.keepI C9.out SQ.out HQ.out); have HBA := qHd (M8.out.lowS C9.out LB.out HBA.out)
   have LL9 := qHd (show o9.length ≤ out.length + 2 + 6 * (q + 1) by have := LN9.out; have := LL8.out; omega)
   have C9' := qHd ((((((C3.out.trans C4.out).trans C5.out).trans C6.out).trans C7.out).trans C8.out).trans C9.out)
   have XP := qHd (show Grw V out o9 r6 (fun e0 => xorL (tA (qaj e0 nodes)) (tA (qaj e0 nodes) a0) (rest.take (q + 1))) ∧ Grw V out o9 r9 (fun e0 => !xorL (tA (qaj e0 nodes)) (tA (qaj e0 nodes) a0) (rest.take (q + 1))) by
    have hx := xor_pair (V := V) (out := o3) (out1 := o4) (out2 := o5) (out3 := o6) (out4 := o7) (out5 := o8) (out6 := o9) (f := fun e0 => xorL (tA (qaj e0 nodes)) (tA (qaj e0 nodes) a0) (rest.take q)) (g := fun e0 => tA (qaj e0 nodes) x) GY.out.ok GY.out.arg GZ.out.arg OO.out.1 OO.out.2.1 GY.out.v GZ.out.v
     (fun e0 he ht => by rw [EA.out]; exact (OO.out.2.2 e0 he ht).1) (fun e0 he ht => by rw [EA.out]; exact (OO.out.2.2 e0 he ht).2) E4.out.2 E5.out.2 (by rw [← E4.out.1, ← E5.out.1]; exact E6.out.2) E7.out.2 E8.out.2 (by rw [← E7.out.1, ← E8.out.1]; exact E9.out.2)
    rw [← E6.out.1, ← E9.out.1] at hx
    obtain ⟨q1, q2⟩ := hx
    refine ⟨(GY.out.trans q1).congr (fun e0 _ _ => ?_), (GY.out.trans q2).congr (fun e0 _ _ => ?_)⟩
    ·rw [qbs HX.out, xorL_snoc]
    ·rw [qbs HX.out, xorL_snoc])
   clear C4 C5 C6 C7 C8 C9 E4 E5 E6 E7 E8 E9 M4 M5 M6 M7 M8
   go_wp2_with fail
   go_roundw
   case rel => exact ⟨q + 1, v9, o9, r6, r9, by omega, by go_num, rfl, rfl, C9', M9, HP, HQ, HBA, LL9, qHd XP.out.1, qHd XP.out.2⟩
   case measure => simp [intOf] <;> omega
  ·have hq' : q = rl := by omega
   subst hq'
   go_wp2_with fail
   go_ret2
   have hy := GY.out; have hz := GZ.out
   rw [RL.out, List.take_length] at hy hz
   exact ⟨v3, o3, y, z, rfl, C3.out, M3.out, LN3.out, hy, hz⟩
section
variable {P : Program} {w : World} {ops : Array Oper} {rest : List Oper} {a : Act} {Q : Exit → Act → World → Prop}
theorem wpList_pauseLd (ty : TypeId) {d : Option Tmp} {tt : TypeId} {x : Operand} {pos : String} {af : Array Edge}
  (h : qad (wpList P ops Q (⟨d, .load ty x, tt, pos, af, none⟩ :: rest) a w)) : wpList P ops Q (⟨d, .load ty x, tt, pos, af, none⟩ :: rest) a w := h
end
theorem push_any (vf : Value) (f : Fm) (w : World) (hf : FmV w vf f) (h0 : qcr f = 0) (h16 : f.nodes.length ≤ 32) : Calls Tryz.prog 9 #[vf] w (RetMp w f (fun _ => True)) := by
  obtain ⟨V, hvV, hV, hn128, hno, htop⟩ := qdp h0
  obtain ⟨nv, rfl, hn, hv, ht⟩ := hf
  obtain ⟨ao, c, rfl, hc, hc2, _⟩ := hn.shape
  have hF := (show FmV w _ f from ⟨_, rfl, hn, hv, ht⟩)
  obtain ⟨vz, ns, top⟩ := f
  simp only at hvV hn128 hno htop hn ht hv hc hF h0 ⊢
  subst hvV
  have HF := qHd hF; have E0 := qHd h0; have HN := qHd hn; have HNO := qHd hno; have HT := qHd htop; have HT64 := qHd ht
  clear hF h0 hn hno htop ht hv
  obtain ⟨wa, hwa⟩ : ∃ x, x = w.alloc (.cells #[.int .i64 V, .slice ao ns.length c, .int .i64 top] 24) := ⟨_, rfl⟩
  obtain ⟨W, hW⟩ : ∃ x, x = wa.alloc (.cells #[.int .i64 0, .slice none 0 0, .int .i64 0] 24) := ⟨_, rfl⟩
  have ba : Below w.heap.size w wa := by rw [hwa]; exact qBA _ _
  have bW : Below wa.heap.size wa W := by rw [hW]; exact qBA _ _
  have sa : wa.heap.size = w.heap.size + 1 := by rw [hwa]; exact Array.size_push (xs := w.heap) _
  have sW : W.heap.size = w.heap.size + 1 + 1 := by rw [← sa, hW]; exact Array.size_push (xs := wa.heap) _
  have hg1 : W.heap[w.heap.size]? = some (.cells #[.int .i64 V, .slice ao ns.length c, .int .i64 top] 24) := qaa (by rw [hwa]; exact heap_alloc_new w _) bW
  have hg2 : W.heap[w.heap.size + 1]? = some (.cells #[.int .i64 0, .slice none 0 0, .int .i64 0] 24) := by rw [← sa, hW]; exact heap_alloc_new wa _
  have HBW := qHd (ba.trans (bW.mono ba.size))
  obtain ⟨g1, hG1⟩ : ∃ g, g = w.heap.size := ⟨_, rfl⟩
  obtain ⟨g2, hG2⟩ : ∃ g, g = w.heap.size + 1 := ⟨_, rfl⟩
  rw [← hG1] at hg1; rw [← hG2] at hg2
  have l1 : w.heap.size ≤ g1 := by omega
  have l2 : w.heap.size ≤ g2 := by omega
  have G1 := qHd hg1; have G2 := qHd hg2
  have L12 := qHd (show g1 < W.heap.size ∧ g2 < W.heap.size from ⟨by omega, by omega⟩)
  obtain ⟨x0, x1, x2⟩ := qaq hg1
  rw [hW, hwa, hG1] at x0 x1 x2
  clear ba bW sa sW hg1 hg2
  have HK := qHd (qdh _ ⟨(V : Nat), ns, top⟩ W (HF.out.below HBW.out))
  rw [E0.out, qce] at HK
  go_enter Tryz.func9, Tryz.ntmps9
  go_wp2_with (with_reducible refine qac ?_)
  rw [← hwa, ← hW, ← hG2, ← hG1]
  clear hwa hW hG2 hG1 x0 x1 x2
  refine qad.mk ?_
  (with_reducible refine HK.out.mono ?_); rintro e w1 ⟨rfl, hb1⟩
  have HB1 := qHd (HBW.out.trans (hb1.mono HBW.out.size)); have G1 := qHd (qaa G1.out hb1); have G2 := qHd (qaa G2.out hb1)
  have L12 := qHd (show g1 < w1.heap.size ∧ g2 < w1.heap.size from ⟨Nat.lt_of_lt_of_le L12.out.1 hb1.size, Nat.lt_of_lt_of_le L12.out.2 hb1.size⟩)
  clear hb1 HK HBW
  obtain ⟨w2, hw2⟩ : ∃ z0, z0 = w1.alloc (.cells #[.int .i64 V, .slice none 0 0, .int .i64 0] 65) := ⟨_, rfl⟩
  have hb2 : Below w1.heap.size w1 w2 := by rw [hw2]; exact qBA _ _
  obtain ⟨gb, hg2⟩ : ∃ g, g = w1.heap.size := ⟨_, rfl⟩
  have hx2 : w2.heap[gb]? = some (.cells #[.int .i64 V, .slice none 0 0, .int .i64 0] 65) := by rw [hw2, hg2]; exact heap_alloc_new _ _
  have hs2 : w2.heap.size = w1.heap.size + 1 := by rw [hw2]; simp
  have h16 : ns.length ≤ 32 := h16
  obtain ⟨B0, hB0⟩ : ∃ b, b = w1.heap.size := ⟨_, rfl⟩
  have HB2 := qHd (show Below B0 w1 w2 by rw [hB0]; exact hb2)
  have HS1 := qHd (show w.heap.size ≤ B0 ∧ B0 ≤ w1.heap.size ∧ B0 = w1.heap.size from ⟨by rw [hB0]; exact HB1.out.size, by omega, hB0⟩)
  have GBL := qHd (show ∀ g, w2.heap.size ≤ g → B0 ≤ g from fun g h => by omega)
  have GNE := qHd (show ∀ g, w2.heap.size ≤ g → gb ≠ g from fun g h => by omega)
  have L12 := qHd (show g1 < B0 ∧ g2 < B0 by rw [hB0]; exact L12.out)
  have M2 := qHd (show Bd w2 B0 [gb] gb (.slice none 0 0) V [] 0 from ⟨hx2, NdL.nil _ _ _, by simp, by omega, fun g hg => by rw [List.mem_singleton] at hg; subst hg; exact qao hx2⟩)
  obtain ⟨x0, x1, x2⟩ := qaq (qaa G1.out hb2)
  rw [hw2] at x0 x1 x2
  obtain ⟨z0, z1, z2⟩ := qaq G1.out
  clear hb2 hx2 hs2
  go_wp2_with (with_reducible first | refine qah ?_ | refine qae ?_)
  rw [← hw2, ← hg2]
  clear hw2 hg2 x0 x1 x2 z0 z1 z2 hB0
  refine qad.mk ?_
  go_loopw [27, 6] (fun i' tv wx => ∃ q : Nat, q ≤ V ∧ i' = .int .i64 q ∧ Hid (Below B0 w1 wx) ∧ Hid (Bd wx B0 (tv.ownBlock.toList ++ [gb]) gb (.slice none 0 0) V [] 0) ∧ Hid (qbx wx w2.heap.size 3 1 tv q (qbm (rangeI q))) ∧ Hid (w2.heap.size ≤ wx.heap.size)) (fun i' _ _ => V - (intOf i').toNat)
  case atStart => exact ⟨0, Nat.zero_le _, rfl, HB2, M2, qHd (qbx.nil _ _ _ _), qHd (Nat.le_refl _)⟩
  case round =>
    obtain ⟨q, hq, rfl, HBX, MX, OX, SX⟩ := hrel
    obtain ⟨wi, rfl⟩ : ∃ wi : World, wi = wr := ⟨_, rfl⟩
    obtain ⟨aop, cp, rfl, hcp, hcp2, _⟩ := qaz OX.out.1
    by_cases hlt : q < V
    · have hltz : (q : Int) < (V : Int) := by omega
      obtain ⟨wqP, hwaP⟩ : ∃ z0, z0 = wi.alloc (.cells #[.int .i64 ((q : Nat) : Int)] 3) := ⟨_, rfl⟩
      have hbaP : Below wi.heap.size wi wqP := by rw [hwaP]; exact qBA _ _
      obtain ⟨gaP, hgaP⟩ : ∃ g, g = wi.heap.size := ⟨_, rfl⟩
      have hxaP : wqP.heap[gaP]? = some (.cells #[.int .i64 ((q : Nat) : Int)] 3) := by rw [hwaP, hgaP]; exact heap_alloc_new _ _
      have hsaP : wqP.heap.size = wi.heap.size + 1 := by rw [hwaP]; simp
      have OQ := qHd (OX.out.below hbaP); have GQ := qHd hxaP; have MQ := qHd (MX.out.below hbaP); have HBQ := qHd (qcg HBX.out HS1.out.2.1 hbaP)
      have hszq : w2.heap.size ≤ wqP.heap.size := Nat.le_trans SX.out hbaP.size
      clear hbaP hxaP hsaP
      go_wp2_with (with_reducible refine qam ?_)
      rw [← hwaP, ← hgaP]
      clear hwaP hgaP
      refine qar (w2.heap.size) Tryz.intTyK rfl (qal [0]) (by decide) (Value.slice aop q cp) (q) _ [.int .i64 ((q : Nat) : Int)] gaP 3 rfl rfl OQ.out GQ.out rfl rfl (qal [((q : Nat) : Int)]) (qal _) (by omega) (by decide) hszq ?_
      intro vP w6 hoP hgP hfrP
      have EQ : Exc wqP w6 (Value.slice aop q cp).ownBlock.toList := Exc.of_grown hgP (fun g hg => by rw [hg]; simp)
      have OP := qHd (show qbx w6 (w2.heap.size) 3 1 vP (q + 1) (qbm (rangeI q ++ [((q : Nat) : Int)])) by rw [qbf]; exact hoP)
      have OBQ := fun g (hg : (Value.slice aop q cp).ownBlock = some g) => World.ownsRow.lt OQ.out.1 g hg
      have MP := qHd (MQ.out.step (Y := vP.ownBlock.toList ++ [gb]) EQ (fun g hg => .inl (List.mem_append.2 (.inl hg))) (fun hg => GNE.out gb (OBQ gb (by simpa using hg)).1 rfl) (fun g hg => by
        rcases List.mem_append.1 hg with qq | qq
        · have q' : vP.ownBlock = some g := by simpa using qq
          rcases Nat.lt_or_ge g wqP.heap.size with r | r
          · by_cases e : (Value.slice aop q cp).ownBlock = some g
            · exact .inl (List.mem_append.2 (.inl (by rw [e]; simp)))
            · exact absurd q' (hfrP g r e)
          · exact .inr ⟨r, (World.ownsRow.lt OP.out.1 g q').2⟩
        · exact .inl (List.mem_append.2 (.inr qq))) (by simp))
      have SZP := qHd (Nat.le_trans hszq EQ.size)
      have HBP := qHd (EQ.low HBQ.out (Nat.le_trans HS1.out.2.1 HBQ.out.size) (fun g hg => GBL.out g (OBQ g (by simpa using hg)).1))
      have FRP := qHd (fun g (h1 : g < wqP.heap.size) (h2 : (Value.slice aop q cp).ownBlock ≠ some g) => hfrP g h1 h2)
      clear hoP hgP hfrP EQ OBQ hszq
      go_wp2_with fail
      go_roundw
      case rel => exact ⟨q + 1, by omega, by go_num, HBP, MP, qHd (by rw [rangeI_succ]; exact OP.out), SZP⟩
      case measure => simp [intOf] <;> omega
    · have hq' : V = q := by omega
      subst hq'
      have HBq := HBX; have MP0 := MX; have OP0 := OX; have SX0 := SX
      obtain ⟨x0, x1, x2⟩ := qaq (qbo HBX.out G1.out L12.out.1)
      go_wp2_with (with_reducible first | refine qah ?_ | refine qae ?_)
      clear x0 x1 x2 hlt
      refine qad.mk ?_
      clear M2 HB2
      go_loopw [37, 7] (fun i' nvv wx => ∃ (q : Nat) (v1 : Value) (out : List Nd) (N : List Int), q ≤ V ∧ i' = .int .i64 q ∧ Hid (Below B0 w1 wx) ∧ Hid (Bd wx B0 ((Value.slice aop V cp).ownBlock.toList ++ (nvv.ownBlock.toList ++ [gb])) gb v1 V out 0) ∧ Hid (qbx wx w2.heap.size 3 1 (Value.slice aop V cp) V (qbm (rangeI V))) ∧ Hid (qbx wx w2.heap.size 3 1 nvv q (qbm N)) ∧ Hid (w2.heap.size ≤ wx.heap.size) ∧ Hid (out.length ≤ q) ∧ Hid (∀ g, nvv.ownBlock = some g → (Value.slice aop V cp).ownBlock ≠ some g) ∧ Hid (Ngs V q out N)) (fun i' _ _ => V - (intOf i').toNat)
      case atStart => exact ⟨0, _, [], [], Nat.zero_le _, rfl, HBq, MP0, OP0, qHd (qbx.nil _ _ _ _), SX0, qHd (Nat.le_refl _), qHd (fun g e => by cases e), qHd (Ngs.start V)⟩
      case round =>
        clear HBX MX OX SX HBq MP0 OP0 SX0
        obtain ⟨q, v1, out, N, hq, rfl, HBX, MX, OPX, ONX, SX, LX, DS, NG⟩ := hrel
        obtain ⟨wi, rfl⟩ : ∃ wi : World, wi = wr := ⟨_, rfl⟩
        obtain ⟨aon, cn, rfl, hcn, hcn2, _⟩ := qaz ONX.out.1
        by_cases hlt : q < V
        · have hltz : (q : Int) < (V : Int) := by omega
          have OBP := qHd (fun g (hg : (Value.slice aop V cp).ownBlock = some g) => World.ownsRow.lt OPX.out.1 g hg); have OBN := qHd (fun g (hg : (Value.slice aon q cn).ownBlock = some g) => World.ownsRow.lt ONX.out.1 g hg)
          obtain ⟨z5, hw5⟩ : ∃ z0, z0 = wi.alloc (.cells #[.int .i64 ((q : Nat) : Int)] 3) := ⟨_, rfl⟩
          have hb5 : Below wi.heap.size wi z5 := by rw [hw5]; exact qBA _ _
          obtain ⟨g5, hg5⟩ : ∃ g, g = wi.heap.size := ⟨_, rfl⟩
          have hx5 : z5.heap[g5]? = some (.cells #[.int .i64 ((q : Nat) : Int)] 3) := by rw [hw5, hg5]; exact heap_alloc_new _ _
          have hs5 : z5.heap.size = wi.heap.size + 1 := by rw [hw5]; simp
          have ML5 := qHd (MX.out.below hb5); have AP5 := qHd (MX.out.apart (a := .slice (some ⟨g5, 0, none⟩) 1 1) (l := [((q : Nat) : Int)]) (s := wi.heap.size) (Nat.le_refl _) (fun g e => by simp only [Value.ownBlock, Option.some.injEq] at e; omega))
          have HI5 := qHd (qby (l := [((q : Nat) : Int)]) hx5 rfl (by simp) (i64_one (qch (by omega)))); have BZ5 := qHd hb5
          clear hb5 hx5 hs5
          have HK := qHd (qbd B0 gb V _ v1 (.slice (some ⟨g5, 0, none⟩) 1 1) out 0 1 0 [((q : Nat) : Int)] z5 ML5.out HI5.out AP5.out ⟨by decide, by decide⟩ ⟨by decide, by decide⟩ hV (by have := LX.out; omega))
          go_wp2_with (with_reducible refine qac ?_)
          rw [← hw5, ← hg5]
          clear hw5 hg5
          refine qad.mk ?_
          (with_reducible refine HK.out.mono ?_); rintro e w6 ⟨v6, rfl, hC, hM2⟩
          obtain ⟨r6, hr6⟩ : ∃ z : Int, z = ((V + out.length : Nat) : Int) := ⟨_, rfl⟩
          rw [← hr6]
          have CC := qHd ((Chg.of_below (Y := [gb]) (v := v1) BZ5.out).trans hC); have M6 := qHd hM2; have E6 := qHd hr6
          have OP6 := qHd (MX.out.keepO CC.out (fun g e => ⟨by simp [e], fun h => GNE.out g (OBP.out g e).1 h.symm⟩) OPX.out); have ON6 := qHd (MX.out.keepO CC.out (fun g e => ⟨by simp [e], fun h => GNE.out g (OBN.out g e).1 h.symm⟩) ONX.out)
          have HB6 := qHd (MX.out.low CC.out HBX.out); have SX6 := qHd (Nat.le_trans SX.out CC.out.exc.size)
          have N6 := qHd (show Ngs V (q + 1) (out ++ [⟨1, 0, [((q : Nat) : Int)]⟩]) (N ++ [r6]) by rw [hr6]; exact NG.out.next hlt)
          have MN := qHd (M6.out.sub (Y := (Value.slice aon q cn).ownBlock.toList ++ ((Value.slice aop V cp).ownBlock.toList ++ [gb])) (by simp) (fun g hg => by
            simp only [List.mem_append] at hg ⊢
            rcases hg with h | h | h
            · exact .inr (.inl h)
            · exact .inl h
            · exact .inr (.inr h)))
          clear hr6 hC hM2 HK
          obtain ⟨wqN, hwaN⟩ : ∃ z0, z0 = w6.alloc (.cells #[.int .i64 r6] 3) := ⟨_, rfl⟩
          have hbaN : Below w6.heap.size w6 wqN := by rw [hwaN]; exact qBA _ _
          obtain ⟨gaN, hgaN⟩ : ∃ g, g = w6.heap.size := ⟨_, rfl⟩
          have hxaN : wqN.heap[gaN]? = some (.cells #[.int .i64 r6] 3) := by rw [hwaN, hgaN]; exact heap_alloc_new _ _
          have hsaN : wqN.heap.size = w6.heap.size + 1 := by rw [hwaN]; simp
          have OQ := qHd (ON6.out.below hbaN); have GQ := qHd hxaN; have MQ := qHd (MN.out.below hbaN); have HBQ := qHd (qcg HB6.out HS1.out.2.1 hbaN)
          have OP6q := qHd (OP6.out.below hbaN)
          have hszq : w2.heap.size ≤ wqN.heap.size := Nat.le_trans SX6.out hbaN.size
          clear hbaN hxaN hsaN
          go_wp2_with (with_reducible refine qam ?_)
          rw [← hwaN, ← hgaN]
          clear hwaN hgaN
          refine qar (w2.heap.size) Tryz.intTyK rfl (qal [0]) (by decide) (Value.slice aon q cn) (q) _ [.int .i64 r6] gaN 3 rfl rfl OQ.out GQ.out rfl rfl (qal [r6]) (qal _) (by omega) (by decide) hszq ?_
          intro vN w9 hoN hgN hfrN
          have EQ : Exc wqN w9 (Value.slice aon q cn).ownBlock.toList := Exc.of_grown hgN (fun g hg => by rw [hg]; simp)
          have ON := qHd (show qbx w9 (w2.heap.size) 3 1 vN (q + 1) (qbm (N ++ [r6])) by rw [qbf]; exact hoN)
          have OP6 := qHd (EQ.own OP6q.out (fun g e qq => DS.out g (by simpa using qq) e))
          have OBQ := fun g (hg : (Value.slice aon q cn).ownBlock = some g) => World.ownsRow.lt OQ.out.1 g hg
          have MN := qHd (MQ.out.step (Y := vN.ownBlock.toList ++ ((Value.slice aop V cp).ownBlock.toList ++ [gb])) EQ (fun g hg => .inl (List.mem_append.2 (.inl hg))) (fun hg => GNE.out gb (OBQ gb (by simpa using hg)).1 rfl) (fun g hg => by
            rcases List.mem_append.1 hg with qq | qq
            · have q' : vN.ownBlock = some g := by simpa using qq
              rcases Nat.lt_or_ge g wqN.heap.size with r | r
              · by_cases e : (Value.slice aon q cn).ownBlock = some g
                · exact .inl (List.mem_append.2 (.inl (by rw [e]; simp)))
                · exact absurd q' (hfrN g r e)
              · exact .inr ⟨r, (World.ownsRow.lt ON.out.1 g q').2⟩
            · exact .inl (List.mem_append.2 (.inr qq))) (by simp))
          have SZN := qHd (Nat.le_trans hszq EQ.size)
          have HBN := qHd (EQ.low HBQ.out (Nat.le_trans HS1.out.2.1 HBQ.out.size) (fun g hg => GBL.out g (OBQ g (by simpa using hg)).1))
          have FRN := qHd (fun g (h1 : g < wqN.heap.size) (h2 : (Value.slice aon q cn).ownBlock ≠ some g) => hfrN g h1 h2)
          clear hoN hgN hfrN EQ OBQ hszq
          have DSN := qHd (show ∀ g, vN.ownBlock = some g → (Value.slice aop V cp).ownBlock ≠ some g from fun g e qq => FRN.out g (World.ownsRow.lt OP6q.out.1 g qq).2 (fun h => DS.out g h qq) e)
          have MM := qHd (MN.out.sub (Y := (Value.slice aop V cp).ownBlock.toList ++ (vN.ownBlock.toList ++ [gb])) (by simp) (fun g hg => by
            simp only [List.mem_append] at hg ⊢
            rcases hg with h | h | h
            · exact .inr (.inl h)
            · exact .inl h
            · exact .inr (.inr h)))
          go_wp2_with fail
          go_roundw
          case rel => exact ⟨q + 1, v6, out ++ [⟨1, 0, [((q : Nat) : Int)]⟩], N ++ [r6], by omega, by go_num, HBN, MM, OP6, ON, SZN, qHd (by have := LX.out; rw [List.length_append]; simp <;> omega), DSN, N6⟩
          case measure => simp [intOf] <;> omega
        · have hq' : V = q := by omega
          subst hq'
          have PH0 := qHd NG.out.psh
          obtain ⟨x0, x1, x2⟩ := qaq (qbo HBX.out G1.out L12.out.1)
          go_wp2_with (with_reducible first | refine qah ?_ | refine qae ?_)
          clear x0 x1 x2 hlt
          refine qad.mk ?_
          go_loopw [51, 6, 7] (fun i' pvv nvv wx => ∃ (j : Nat) (v1 : Value) (out : List Nd) (P N : List Int), j ≤ ns.length ∧ i' = .int .i64 j ∧ Hid (Below B0 w1 wx) ∧ Hid (Bd wx B0 (pvv.ownBlock.toList ++ (nvv.ownBlock.toList ++ [gb])) gb v1 V out 0) ∧ Hid (qbx wx w2.heap.size 3 1 pvv (V + j) (qbm P)) ∧ Hid (qbx wx w2.heap.size 3 1 nvv (V + j) (qbm N)) ∧ Hid (w2.heap.size ≤ wx.heap.size) ∧ Hid (P.length = V + j ∧ N.length = V + j ∧ out.length ≤ V + 100 * j) ∧ Hid (∀ g, nvv.ownBlock = some g → pvv.ownBlock ≠ some g) ∧ Hid (Psh V (ns.take j) out P N)) (fun i' _ _ _ => ns.length - (intOf i').toNat)
          case atStart => exact ⟨0, v1, out, _, N, Nat.zero_le _, rfl, HBX, MX, OPX, ONX, SX, qHd ⟨qdg V, NG.out.ln, by have := LX.out; omega⟩, DS, PH0⟩
          case round =>
            clear HBX MX OPX ONX SX LX DS NG PH0
            obtain ⟨j, v1, out, P, N, hj, rfl, HBX, MX, OPX, ONX, SX, LL, DS, PH⟩ := hrel
            obtain ⟨wo, rfl⟩ : ∃ wo : World, wo = wr := ⟨_, rfl⟩
            obtain ⟨aop, cp, rfl, hcp, hcp2, _⟩ := qaz OPX.out.1
            obtain ⟨aon, cn, rfl, hcn, hcn2, _⟩ := qaz ONX.out.1
            by_cases hlt : j < ns.length
            · obtain ⟨x, hx⟩ : ∃ x, ns[j]? = some x := ⟨ns[j], List.getElem?_eq_getElem hlt⟩
              have HBO := qHd (HB1.out.trans (HBX.out.mono HS1.out.1))
              obtain ⟨b, off, rfl, hb, u1, hat⟩ := HN.out.at (by omega)
              clear u1 hb
              obtain ⟨c0, c1, ⟨av, c2, hI⟩, hk, hK⟩ := hat j x hx
              clear hat
              have c0 := qap c0 HBO.out; have c1 := qap c1 HBO.out; have c2 := qap c2 HBO.out
              have HXJ := qHd hx; have HE := qHd (ndErr_nat HNO.out hx)
              clear hx
              have ha16 := (args_16 HE.out).1
              obtain ⟨ao', c', rfl, hc', hc2', _⟩ := hI.shape
              obtain ⟨k, K, args⟩ := x
              have HIL := qHd hI; have HKK := qHd (And.intro hk hK); clear hI hk hK
              simp only at c0 c1 c2 HIL HKK ha16 hc'
              have hpar := (qav HE.out).1
              have hKo := (qav HE.out).2.2.2
              have hAG := qHd (qav HE.out).2.2.1
              simp only at hpar hKo hAG
              have HLJ := qHd (show (ns.take j).length = j by rw [List.length_take]; omega)
              obtain ⟨na, hna⟩ : ∃ n, n = args.length := ⟨_, rfl⟩
              rw [← hna] at c2 HIL hc' ha16
              have HNA := qHd hna; clear hna
              have hltz : (j : Int) < (ns.length : Int) := by omega
              obtain ⟨W3, hw3⟩ : ∃ z0, z0 = wo.alloc (.cells #[.int .i64 k, .int .i64 K, .slice ao' na c'] 56) := ⟨_, rfl⟩
              have hb3 : Below wo.heap.size wo W3 := by rw [hw3]; exact qBA _ _
              obtain ⟨gn, hg3⟩ : ∃ g, g = wo.heap.size := ⟨_, rfl⟩
              have hx3 : W3.heap[gn]? = some (.cells #[.int .i64 k, .int .i64 K, .slice ao' na c'] 56) := by rw [hw3, hg3]; exact heap_alloc_new _ _
              have hs3 : W3.heap.size = wo.heap.size + 1 := by rw [hw3]; simp
              have G8 := qHd hx3; have OP3 := qHd (OPX.out.below hb3); have ON3 := qHd (ONX.out.below hb3); have HB3 := qHd (qcg HBX.out HS1.out.2.1 hb3); have SX3 := qHd (Nat.le_trans SX.out hb3.size); have HBW3 := qHd (qcg HBO.out (Nat.le_refl _) hb3)
              have NG := qHd (show gn ≠ gb from fun e => by have := MX.out.all gb (by simp); omega)
              have OBP := qHd (fun g (hg : (Value.slice aop (V + j) cp).ownBlock = some g) => World.ownsRow.lt OPX.out.1 g hg); have OBN := qHd (fun g (hg : (Value.slice aon (V + j) cn).ownBlock = some g) => World.ownsRow.lt ONX.out.1 g hg)
              have M3 := qHd (MX.out.new (Y := gn :: ((Value.slice aop (V + j) cp).ownBlock.toList ++ ((Value.slice aon (V + j) cn).ownBlock.toList ++ [gb]))) hb3 (fun g hg => by
                rcases List.mem_cons.1 hg with e | e
                · subst e; exact .inr ⟨by omega, by omega⟩
                · exact .inl e) (by simp))
              have IPN := qHd (show (∀ y ∈ P, I64 y) ∧ (∀ y ∈ N, I64 y) from ⟨ints_arg hV (by have := LL.out.2.2; omega) (fun i hi => PH.out.ap i hi), ints_arg hV (by have := LL.out.2.2; omega) (fun i hi => PH.out.an i hi)⟩)
              have IP3 := qHd (show qbi W3 (Value.slice aop (V + j) cp) P from qbl (l := P) (by rw [LL.out.1]; exact OP3.out.1) IPN.out.1); have IN3 := qHd (show qbi W3 (Value.slice aon (V + j) cn) N from qbl (l := N) (by rw [LL.out.2.1]; exact ON3.out.1) IPN.out.2)
              have LX := qHd (show out.length ≤ out.length + 0 from Nat.le_refl _)
              clear hb3 hx3 hs3
              go_wp2_with (with_reducible refine wpList_pauseLd 3 ?_)
              rw [← hw3, ← hg3]
              clear hw3 hg3 c0 c1 c2
              refine qad.mk ?_
              obtain ⟨x0, x1, x2⟩ := qaq G8.out
              have hkk : k = 0 ∨ k = 1 ∨ k = 2 ∨ k = 3 ∨ k = 4 ∨ k = 5 := by omega
              rcases hkk with rfl | rfl | rfl | rfl | rfl | rfl
              · skip
                have hK01 : K = 0 ∨ K = 1 := by simpa [kOK] using hKo
                have hl0 : args = [] := by have := (qav HE.out).2.1; simpa [qbq] using this
                have HK := qHd (qbd B0 gb V (gn :: ((Value.slice aop (V + j) cp).ownBlock.toList ++ ((Value.slice aon (V + j) cn).ownBlock.toList ++ [gb]))) v1 (.slice none 0 0) out 0 0 K ([]) W3 M3.out (qbi.nil0 _) (⟨fun h => absurd h (by simp), fun h => absurd h (by simp)⟩) ⟨by decide, by decide⟩ HKK.out.2 hV (by have := LL.out.2.2; have := LX.out; omega))
                go_wp2_with (with_reducible refine qac ?_)
                
                clear x0 x1 x2
                refine qad.mk ?_
                (with_reducible refine HK.out.mono ?_); rintro e w5 ⟨v5, rfl, hC, hM2⟩
                obtain ⟨r5, hr5⟩ : ∃ z : Int, z = ((V + out.length : Nat) : Int) := ⟨_, rfl⟩
                obtain ⟨o5, ho5⟩ : ∃ o, o = out ++ [(⟨0, K, []⟩ : Nd)] := ⟨_, rfl⟩
                rw [← hr5]
                rw [← ho5] at hM2
                have M5 := qHd hM2; have CB5 := qHd hC
                have E5 := qHd (And.intro hr5 ho5)
                have LX := qHd (show o5.length ≤ out.length + 1 by have := LX.out; rw [ho5, List.length_append]; simp <;> omega)
                clear hr5 ho5 hC hM2 HK
                obtain ⟨x0, x1, x2⟩ := qaq (M3.out.keep CB5.out (by simp) NG.out G8.out)
                have HK := qHd (qbd B0 gb V (gn :: ((Value.slice aop (V + j) cp).ownBlock.toList ++ ((Value.slice aon (V + j) cn).ownBlock.toList ++ [gb]))) v5 (.slice none 0 0) o5 0 0 (1 - K) ([]) w5 M5.out (qbi.nil0 _) (⟨fun h => absurd h (by simp), fun h => absurd h (by simp)⟩) ⟨by decide, by decide⟩ ⟨by omega, by omega⟩ hV (by have := LL.out.2.2; have := LX.out; omega))
                go_wp2_with (with_reducible refine qac ?_)
                
                clear x0 x1 x2
                refine qad.mk ?_
                (with_reducible refine HK.out.mono ?_); rintro e w6 ⟨v6, rfl, hC, hM2⟩
                obtain ⟨r6, hr6⟩ : ∃ z : Int, z = ((V + o5.length : Nat) : Int) := ⟨_, rfl⟩
                obtain ⟨o6, ho6⟩ : ∃ o, o = o5 ++ [(⟨0, (1 - K), []⟩ : Nd)] := ⟨_, rfl⟩
                rw [← hr6]
                rw [← ho6] at hM2
                have M6 := qHd hM2; have CB6 := qHd hC
                have E6 := qHd (And.intro hr6 ho6)
                have LX := qHd (show o6.length ≤ out.length + 2 by have := LX.out; rw [ho6, List.length_append]; simp <;> omega)
                clear hr6 ho6 hC hM2 HK
                have CC := qHd (CB5.out.trans CB6.out)
                have G1P := qHd (show Grw V out o5 r5 (fun e0 => nv (qaj e0 (ns.take j)) ⟨0, K, args⟩) from by have h := PH.out.yes (x := ⟨0, K, args⟩) (by rw [HLJ.out]; exact HE.out); simp only [hl0, List.map_nil] at h ⊢; rw [← E5.out.1, ← E5.out.2] at h; exact h)
                have OPZ := qHd (M3.out.keepO CC.out (fun g e => ⟨by simp [e], fun h => GNE.out g (OBP.out g e).1 h.symm⟩) OP3.out); have ONZ := qHd (M3.out.keepO CC.out (fun g e => ⟨by simp [e], fun h => GNE.out g (OBN.out g e).1 h.symm⟩) ON3.out)
                have IPZ := qHd (show qbi w6 (Value.slice aop (V + j) cp) P from qbl (l := P) (by rw [LL.out.1]; exact OPZ.out.1) IPN.out.1); have INZ := qHd (show qbi w6 (Value.slice aon (V + j) cn) N from qbl (l := N) (by rw [LL.out.2.1]; exact ONZ.out.1) IPN.out.2)
                have HLZ := qHd (M3.out.lowS CC.out HS1.out.1 HBW3.out)
                have HBZ := qHd (M3.out.low CC.out HB3.out); have SXZ := qHd (Nat.le_trans SX3.out (CC.out).exc.size)
                have MZ := qHd (M6.out.sub (Y := ((Value.slice aop (V + j) cp).ownBlock.toList ++ ((Value.slice aon (V + j) cn).ownBlock.toList ++ [gb]))) (by simp) (fun g hg => List.mem_cons_of_mem _ hg))
                have G2P := qHd (show Grw V o5 o6 r6 (fun e0 => !nv (qaj e0 (ns.take j)) ⟨0, K, args⟩) from by have h := (PH.out.grw G1P.out).no (x := ⟨0, K, args⟩) (by rw [HLJ.out]; exact HE.out) (by simp); simp only [hl0, List.map_nil] at h ⊢; rw [E6.out.1, E6.out.2]; exact h)
                have PN := qHd (PH.out.next (x := ⟨0, K, args⟩) (qbp HNO.out j) (by rw [HLJ.out]; exact HE.out) (G1P.out) G2P.out)
                clear IPZ INZ HLZ
                obtain ⟨wqP, hwaP⟩ : ∃ z0, z0 = w6.alloc (.cells #[.int .i64 r5] 3) := ⟨_, rfl⟩
                have hbaP : Below w6.heap.size w6 wqP := by rw [hwaP]; exact qBA _ _
                obtain ⟨gaP, hgaP⟩ : ∃ g, g = w6.heap.size := ⟨_, rfl⟩
                have hxaP : wqP.heap[gaP]? = some (.cells #[.int .i64 r5] 3) := by rw [hwaP, hgaP]; exact heap_alloc_new _ _
                have hsaP : wqP.heap.size = w6.heap.size + 1 := by rw [hwaP]; simp
                have OQ := qHd (OPZ.out.below hbaP); have GQ := qHd hxaP; have MQ := qHd (MZ.out.below hbaP); have HBQ := qHd (qcg HBZ.out HS1.out.2.1 hbaP)
                have ONZq := qHd (ONZ.out.below hbaP)
                have hszq : w2.heap.size ≤ wqP.heap.size := Nat.le_trans SXZ.out hbaP.size
                clear hbaP hxaP hsaP
                go_wp2_with (with_reducible refine qam ?_)
                rw [← hwaP, ← hgaP]
                clear hwaP hgaP
                refine qar (w2.heap.size) Tryz.intTyK rfl (qal [0]) (by decide) (Value.slice aop (V + j) cp) (V + j) _ [.int .i64 r5] gaP 3 rfl rfl OQ.out GQ.out rfl rfl (qal [r5]) (qal _) (by omega) (by decide) hszq ?_
                intro vP wp hoP hgP hfrP
                have EQ : Exc wqP wp (Value.slice aop (V + j) cp).ownBlock.toList := Exc.of_grown hgP (fun g hg => by rw [hg]; simp)
                have OP := qHd (show qbx wp (w2.heap.size) 3 1 vP (V + j + 1) (qbm (P ++ [r5])) by rw [qbf]; exact hoP)
                have ONZ := qHd (EQ.own ONZq.out (fun g e q => DS.out g e (by simpa using q)))
                have OBQ := fun g (hg : (Value.slice aop (V + j) cp).ownBlock = some g) => World.ownsRow.lt OQ.out.1 g hg
                have MP := qHd (MQ.out.step (Y := vP.ownBlock.toList ++ ((Value.slice aon (V + j) cn).ownBlock.toList ++ [gb])) EQ (fun g hg => .inl (List.mem_append.2 (.inl hg))) (fun hg => GNE.out gb (OBQ gb (by simpa using hg)).1 rfl) (fun g hg => by
                  rcases List.mem_append.1 hg with qq | qq
                  · have q' : vP.ownBlock = some g := by simpa using qq
                    rcases Nat.lt_or_ge g wqP.heap.size with r | r
                    · by_cases e : (Value.slice aop (V + j) cp).ownBlock = some g
                      · exact .inl (List.mem_append.2 (.inl (by rw [e]; simp)))
                      · exact absurd q' (hfrP g r e)
                    · exact .inr ⟨r, (World.ownsRow.lt OP.out.1 g q').2⟩
                  · exact .inl (List.mem_append.2 (.inr qq))) (by simp))
                have SZP := qHd (Nat.le_trans hszq EQ.size)
                have HBP := qHd (EQ.low HBQ.out (Nat.le_trans HS1.out.2.1 HBQ.out.size) (fun g hg => GBL.out g (OBQ g (by simpa using hg)).1))
                have FRP := qHd (fun g (h1 : g < wqP.heap.size) (h2 : (Value.slice aop (V + j) cp).ownBlock ≠ some g) => hfrP g h1 h2)
                clear hoP hgP hfrP EQ OBQ hszq
                have DSP := qHd (show ∀ g, (Value.slice aon (V + j) cn).ownBlock = some g → vP.ownBlock ≠ some g from fun g e => FRP.out g (World.ownsRow.lt ONZq.out.1 g e).2 (DS.out g e))
                obtain ⟨aop2, cp2, evP, _, _, _⟩ := qaz OP.out.1
                have MN := qHd (MP.out.sub (Y := (Value.slice aon (V + j) cn).ownBlock.toList ++ (vP.ownBlock.toList ++ [gb])) (by simp) (fun g hg => by
                  simp only [List.mem_append] at hg ⊢
                  rcases hg with h | h | h
                  · exact .inr (.inl h)
                  · exact .inl h
                  · exact .inr (.inr h)))
                obtain ⟨wqN, hwaN⟩ : ∃ z0, z0 = wp.alloc (.cells #[.int .i64 r6] 3) := ⟨_, rfl⟩
                have hbaN : Below wp.heap.size wp wqN := by rw [hwaN]; exact qBA _ _
                obtain ⟨gaN, hgaN⟩ : ∃ g, g = wp.heap.size := ⟨_, rfl⟩
                have hxaN : wqN.heap[gaN]? = some (.cells #[.int .i64 r6] 3) := by rw [hwaN, hgaN]; exact heap_alloc_new _ _
                have hsaN : wqN.heap.size = wp.heap.size + 1 := by rw [hwaN]; simp
                have OQ := qHd (ONZ.out.below hbaN); have GQ := qHd hxaN; have MQ := qHd (MN.out.below hbaN); have HBQ := qHd (qcg HBP.out HS1.out.2.1 hbaN)
                have OPq := qHd (OP.out.below hbaN)
                have hszq : w2.heap.size ≤ wqN.heap.size := Nat.le_trans SZP.out hbaN.size
                clear hbaN hxaN hsaN
                go_wp2_with (with_reducible refine qam ?_)
                rw [← hwaN, ← hgaN]
                clear hwaN hgaN
                refine qar (w2.heap.size) Tryz.intTyK rfl (qal [0]) (by decide) (Value.slice aon (V + j) cn) (V + j) _ [.int .i64 r6] gaN 3 rfl rfl OQ.out GQ.out rfl rfl (qal [r6]) (qal _) (by omega) (by decide) hszq ?_
                intro vN w9 hoN hgN hfrN
                have EQ : Exc wqN w9 (Value.slice aon (V + j) cn).ownBlock.toList := Exc.of_grown hgN (fun g hg => by rw [hg]; simp)
                have ON := qHd (show qbx w9 (w2.heap.size) 3 1 vN (V + j + 1) (qbm (N ++ [r6])) by rw [qbf]; exact hoN)
                have OP := qHd (EQ.own OPq.out (fun g e q => DSP.out g (by simpa using q) e))
                have OBQ := fun g (hg : (Value.slice aon (V + j) cn).ownBlock = some g) => World.ownsRow.lt OQ.out.1 g hg
                have MN := qHd (MQ.out.step (Y := vN.ownBlock.toList ++ (vP.ownBlock.toList ++ [gb])) EQ (fun g hg => .inl (List.mem_append.2 (.inl hg))) (fun hg => GNE.out gb (OBQ gb (by simpa using hg)).1 rfl) (fun g hg => by
                  rcases List.mem_append.1 hg with qq | qq
                  · have q' : vN.ownBlock = some g := by simpa using qq
                    rcases Nat.lt_or_ge g wqN.heap.size with r | r
                    · by_cases e : (Value.slice aon (V + j) cn).ownBlock = some g
                      · exact .inl (List.mem_append.2 (.inl (by rw [e]; simp)))
                      · exact absurd q' (hfrN g r e)
                    · exact .inr ⟨r, (World.ownsRow.lt ON.out.1 g q').2⟩
                  · exact .inl (List.mem_append.2 (.inr qq))) (by simp))
                have SZN := qHd (Nat.le_trans hszq EQ.size)
                have HBN := qHd (EQ.low HBQ.out (Nat.le_trans HS1.out.2.1 HBQ.out.size) (fun g hg => GBL.out g (OBQ g (by simpa using hg)).1))
                have FRN := qHd (fun g (h1 : g < wqN.heap.size) (h2 : (Value.slice aon (V + j) cn).ownBlock ≠ some g) => hfrN g h1 h2)
                clear hoN hgN hfrN EQ OBQ hszq
                have DSN := qHd (show ∀ g, vN.ownBlock = some g → vP.ownBlock ≠ some g from fun g e q => FRN.out g (World.ownsRow.lt OPq.out.1 g q).2 (fun h => DSP.out g h q) e)
                have MM := qHd (MN.out.sub (Y := vP.ownBlock.toList ++ (vN.ownBlock.toList ++ [gb])) (by simp) (fun g hg => by
                  simp only [List.mem_append] at hg ⊢
                  rcases hg with h | h | h
                  · exact .inr (.inl h)
                  · exact .inl h
                  · exact .inr (.inr h)))
                have PH9 := qHd (show Psh V (ns.take (j + 1)) o6 (P ++ [r5]) (N ++ [r6]) by rw [qbs HXJ.out]; exact PN.out)
                subst evP
                go_wp2_with fail
                go_roundw
                case rel => exact ⟨j + 1, v6, o6, P ++ [r5], N ++ [r6], by omega, by go_num, HBN, MM, OP, ON, SZN, qHd ⟨by rw [List.length_append, LL.out.1]; rfl, by rw [List.length_append, LL.out.2.1]; rfl, by have := LX.out; have := LL.out.2.2; omega⟩, DSN, PH9⟩
                case measure => simp [intOf] <;> omega
              · skip
                have hl1 : ∃ a, args = [a] := by
                  have h := (qav HE.out).2.1
                  have : args.length = 1 := by simpa [qbq] using h
                  exact List.length_eq_one_iff.1 this
                obtain ⟨a0, ha0⟩ := hl1
                have h0 := hAG.out a0 (by rw [ha0]; simp)
                obtain ⟨A, hA⟩ : ∃ A : Nat, a0 = A := ⟨a0.toNat, by have := h0.1; omega⟩
                have hAN : A < V + j := by have := h0.2; omega
                have hANz : (A : Int) < (V : Int) + (j : Int) := by omega
                have hna1 : na = 1 := by rw [HNA.out, ha0]; rfl
                have hnaz : (0 : Int) < (na : Int) := by omega
                have O0 := PH.out.one (a := a0) (by rw [HLJ.out]; exact h0)
                rw [hA, Int.toNat_natCast] at O0
                obtain ⟨pv, hpv⟩ : ∃ z, z = P.getD A 0 := ⟨_, rfl⟩
                obtain ⟨nv_, hnv⟩ : ∃ z, z = N.getD A 0 := ⟨_, rfl⟩
                have EP := qHd (getD_some (by rw [LL.out.1]; exact hAN) hpv); have EQ := qHd (getD_some (by rw [LL.out.2.1]; exact hAN) hnv)
                rw [← hpv, ← hnv] at O0
                have OO := qHd O0; have EA := qHd hA; have EL := qHd ha0; have NA1 := qHd hna1
                obtain ⟨ba, offa, e2, u1, u2, hata⟩ := HIL.out.at (by omega)
                have HAT := qHd hata
                subst e2
                clear hpv hnv O0 hA ha0 h0 u1 u2 hata hna1
                have ca := qap (HAT.out 0 a0 (by rw [EL.out]; rfl)) HBW3.out
                rw [Nat.add_zero, EA.out] at ca
                obtain ⟨bq, fq, e2, u1, u2, hat⟩ := IN3.out.at (by omega)
                clear u1 u2
                have e3 := qHd (show (Value.slice aon (V + j) cn) = .slice (some ⟨bq, fq, none⟩) (V + j) cn from by rw [e2])
                have cq := hat A _ EQ.out
                clear hat e2
                rw [e3.out]
                obtain ⟨z5, hw5⟩ : ∃ z0, z0 = W3.alloc (.cells #[.int .i64 nv_] 3) := ⟨_, rfl⟩
                have hb5 : Below W3.heap.size W3 z5 := by rw [hw5]; exact qBA _ _
                obtain ⟨g5, hg5⟩ : ∃ g, g = W3.heap.size := ⟨_, rfl⟩
                have hx5 : z5.heap[g5]? = some (.cells #[.int .i64 nv_] 3) := by rw [hw5, hg5]; exact heap_alloc_new _ _
                have hs5 : z5.heap.size = W3.heap.size + 1 := by rw [hw5]; simp
                have ML5 := qHd (M3.out.below hb5); have AP5 := qHd (M3.out.apart (a := .slice (some ⟨g5, 0, none⟩) 1 1) (l := [nv_]) (s := W3.heap.size) (Nat.le_refl _) (fun g e => by simp only [Value.ownBlock, Option.some.injEq] at e; omega))
                have HI5 := qHd (qby (l := [nv_]) hx5 rfl (by simp) (i64_one (arg_i64 OO.out.2.1 hV (by have := LL.out.2.2; omega)))); have BZ5 := qHd hb5
                clear hb5 hx5 hs5
                have HK := qHd (qbd B0 gb V (gn :: ((Value.slice aop (V + j) cp).ownBlock.toList ++ ((Value.slice aon (V + j) cn).ownBlock.toList ++ [gb]))) v1 (.slice (some ⟨g5, 0, none⟩) 1 1) out 0 3 0 ([nv_]) z5 ML5.out HI5.out (AP5.out) ⟨by decide, by decide⟩ ⟨by decide, by decide⟩ hV (by have := LL.out.2.2; have := LX.out; omega))
                go_wp2_with (with_reducible refine qac ?_)
                rw [← hw5, ← hg5]
                clear hw5 hg5 x0 x1 x2 ca cq
                refine qad.mk ?_
                (with_reducible refine HK.out.mono ?_); rintro e w6 ⟨v6, rfl, hC, hM2⟩
                obtain ⟨r6, hr6⟩ : ∃ z : Int, z = ((V + out.length : Nat) : Int) := ⟨_, rfl⟩
                obtain ⟨o6, ho6⟩ : ∃ o, o = out ++ [(⟨3, 0, [nv_]⟩ : Nd)] := ⟨_, rfl⟩
                rw [← hr6]
                rw [← ho6] at hM2
                have M6 := qHd hM2; have CB6 := qHd hC
                have E6 := qHd (And.intro hr6 ho6)
                have LX := qHd (show o6.length ≤ out.length + 1 by have := LX.out; rw [ho6, List.length_append]; simp <;> omega)
                clear hr6 ho6 hC hM2 HK
                have CC6 := qHd ((Chg.of_below (Y := [gb]) (v := v1) BZ5.out).trans CB6.out)
                obtain ⟨x0, x1, x2⟩ := qaq (M3.out.keep CC6.out (by simp) NG.out G8.out)
                rw [← e3.out]
                clear e3
                have OP6 := qHd (M3.out.keepO CC6.out (fun g e => ⟨by simp [e], fun h => GNE.out g (OBP.out g e).1 h.symm⟩) OP3.out); have ON6 := qHd (M3.out.keepO CC6.out (fun g e => ⟨by simp [e], fun h => GNE.out g (OBN.out g e).1 h.symm⟩) ON3.out)
                have IP6 := qHd (show qbi w6 (Value.slice aop (V + j) cp) P from qbl (l := P) (by rw [LL.out.1]; exact OP6.out.1) IPN.out.1); have IN6 := qHd (show qbi w6 (Value.slice aon (V + j) cn) N from qbl (l := N) (by rw [LL.out.2.1]; exact ON6.out.1) IPN.out.2)
                have HL6 := qHd (M3.out.lowS CC6.out HS1.out.1 HBW3.out)
                have ca := qap (HAT.out 0 a0 (by rw [EL.out]; rfl)) HL6.out
                rw [Nat.add_zero, EA.out] at ca
                obtain ⟨bq, fq, e2, u1, u2, hat⟩ := IP6.out.at (by omega)
                clear u1 u2
                have e3 := qHd (show (Value.slice aop (V + j) cp) = .slice (some ⟨bq, fq, none⟩) (V + j) cp from by rw [e2])
                have cq := hat A _ EP.out
                clear hat e2
                rw [e3.out]
                obtain ⟨z7, hw7⟩ : ∃ z0, z0 = w6.alloc (.cells #[.int .i64 pv] 3) := ⟨_, rfl⟩
                have hb7 : Below w6.heap.size w6 z7 := by rw [hw7]; exact qBA _ _
                obtain ⟨g7, hg7⟩ : ∃ g, g = w6.heap.size := ⟨_, rfl⟩
                have hx7 : z7.heap[g7]? = some (.cells #[.int .i64 pv] 3) := by rw [hw7, hg7]; exact heap_alloc_new _ _
                have hs7 : z7.heap.size = w6.heap.size + 1 := by rw [hw7]; simp
                have ML7 := qHd (M6.out.below hb7); have AP7 := qHd (M6.out.apart (a := .slice (some ⟨g7, 0, none⟩) 1 1) (l := [pv]) (s := w6.heap.size) (Nat.le_refl _) (fun g e => by simp only [Value.ownBlock, Option.some.injEq] at e; omega))
                have HI7 := qHd (qby (l := [pv]) hx7 rfl (by simp) (i64_one (arg_i64 OO.out.1 hV (by have := LL.out.2.2; omega)))); have BZ7 := qHd hb7
                clear hb7 hx7 hs7
                have HK := qHd (qbd B0 gb V (gn :: ((Value.slice aop (V + j) cp).ownBlock.toList ++ ((Value.slice aon (V + j) cn).ownBlock.toList ++ [gb]))) v6 (.slice (some ⟨g7, 0, none⟩) 1 1) o6 0 3 0 ([pv]) z7 ML7.out HI7.out (AP7.out) ⟨by decide, by decide⟩ ⟨by decide, by decide⟩ hV (by have := LL.out.2.2; have := LX.out; omega))
                go_wp2_with (with_reducible refine qac ?_)
                rw [← hw7, ← hg7]
                clear hw7 hg7 x0 x1 x2 ca cq
                refine qad.mk ?_
                (with_reducible refine HK.out.mono ?_); rintro e w8 ⟨v8, rfl, hC, hM2⟩
                obtain ⟨r8, hr8⟩ : ∃ z : Int, z = ((V + o6.length : Nat) : Int) := ⟨_, rfl⟩
                obtain ⟨o8, ho8⟩ : ∃ o, o = o6 ++ [(⟨3, 0, [pv]⟩ : Nd)] := ⟨_, rfl⟩
                rw [← hr8]
                rw [← ho8] at hM2
                have M8 := qHd hM2; have CB8 := qHd hC
                have E8 := qHd (And.intro hr8 ho8)
                have LX := qHd (show o8.length ≤ out.length + 2 by have := LX.out; rw [ho8, List.length_append]; simp <;> omega)
                clear hr8 ho8 hC hM2 HK
                rw [← e3.out]
                clear e3
                have CC := qHd (CC6.out.trans ((Chg.of_below (Y := [gb]) (v := v6) BZ7.out).trans CB8.out))
                have NV := qHd (fun (e0 : List Nat) => show nv (qaj e0 (ns.take j)) ⟨1, K, args⟩ = !tA (qaj e0 (ns.take j)) (A : Nat) from by
                  show nT ⟨1, K, args⟩ (qcb (qaj e0 (ns.take j)) args 1) = _
                  rw [EL.out, nT_not rfl, EA.out])
                have G1P := qHd (show Grw V out o6 r6 (fun e0 => nv (qaj e0 (ns.take j)) ⟨1, K, args⟩) from by
                  rw [E6.out.1, E6.out.2]
                  exact or_one PH.out.ok OO.out.2.1 (fun e0 he ht => by rw [(OO.out.2.2 e0 he ht).2, NV.out]))
                have OPZ := qHd (M3.out.keepO CC.out (fun g e => ⟨by simp [e], fun h => GNE.out g (OBP.out g e).1 h.symm⟩) OP3.out); have ONZ := qHd (M3.out.keepO CC.out (fun g e => ⟨by simp [e], fun h => GNE.out g (OBN.out g e).1 h.symm⟩) ON3.out)
                have IPZ := qHd (show qbi w8 (Value.slice aop (V + j) cp) P from qbl (l := P) (by rw [LL.out.1]; exact OPZ.out.1) IPN.out.1); have INZ := qHd (show qbi w8 (Value.slice aon (V + j) cn) N from qbl (l := N) (by rw [LL.out.2.1]; exact ONZ.out.1) IPN.out.2)
                have HLZ := qHd (M3.out.lowS CC.out HS1.out.1 HBW3.out)
                have HBZ := qHd (M3.out.low CC.out HB3.out); have SXZ := qHd (Nat.le_trans SX3.out (CC.out).exc.size)
                have MZ := qHd (M8.out.sub (Y := ((Value.slice aop (V + j) cp).ownBlock.toList ++ ((Value.slice aon (V + j) cn).ownBlock.toList ++ [gb]))) (by simp) (fun g hg => List.mem_cons_of_mem _ hg))
                have G2P := qHd (show Grw V o6 o8 r8 (fun e0 => !nv (qaj e0 (ns.take j)) ⟨1, K, args⟩) from by rw [E8.out.1, E8.out.2]; exact or_one G1P.out.ok (OO.out.1.up G1P.out.le) (fun e0 he ht => by rw [G1P.out.old OO.out.1 he, (OO.out.2.2 e0 he ht).1, NV.out, Bool.not_not]))
                have PN := qHd (PH.out.next (x := ⟨1, K, args⟩) (qbp HNO.out j) (by rw [HLJ.out]; exact HE.out) (G1P.out) G2P.out)
                clear IPZ INZ HLZ
                obtain ⟨wqP, hwaP⟩ : ∃ z0, z0 = w8.alloc (.cells #[.int .i64 r6] 3) := ⟨_, rfl⟩
                have hbaP : Below w8.heap.size w8 wqP := by rw [hwaP]; exact qBA _ _
                obtain ⟨gaP, hgaP⟩ : ∃ g, g = w8.heap.size := ⟨_, rfl⟩
                have hxaP : wqP.heap[gaP]? = some (.cells #[.int .i64 r6] 3) := by rw [hwaP, hgaP]; exact heap_alloc_new _ _
                have hsaP : wqP.heap.size = w8.heap.size + 1 := by rw [hwaP]; simp
                have OQ := qHd (OPZ.out.below hbaP); have GQ := qHd hxaP; have MQ := qHd (MZ.out.below hbaP); have HBQ := qHd (qcg HBZ.out HS1.out.2.1 hbaP)
                have ONZq := qHd (ONZ.out.below hbaP)
                have hszq : w2.heap.size ≤ wqP.heap.size := Nat.le_trans SXZ.out hbaP.size
                clear hbaP hxaP hsaP
                go_wp2_with (with_reducible refine qam ?_)
                rw [← hwaP, ← hgaP]
                clear hwaP hgaP
                refine qar (w2.heap.size) Tryz.intTyK rfl (qal [0]) (by decide) (Value.slice aop (V + j) cp) (V + j) _ [.int .i64 r6] gaP 3 rfl rfl OQ.out GQ.out rfl rfl (qal [r6]) (qal _) (by omega) (by decide) hszq ?_
                intro vP wp hoP hgP hfrP
                have EQ : Exc wqP wp (Value.slice aop (V + j) cp).ownBlock.toList := Exc.of_grown hgP (fun g hg => by rw [hg]; simp)
                have OP := qHd (show qbx wp (w2.heap.size) 3 1 vP (V + j + 1) (qbm (P ++ [r6])) by rw [qbf]; exact hoP)
                have ONZ := qHd (EQ.own ONZq.out (fun g e q => DS.out g e (by simpa using q)))
                have OBQ := fun g (hg : (Value.slice aop (V + j) cp).ownBlock = some g) => World.ownsRow.lt OQ.out.1 g hg
                have MP := qHd (MQ.out.step (Y := vP.ownBlock.toList ++ ((Value.slice aon (V + j) cn).ownBlock.toList ++ [gb])) EQ (fun g hg => .inl (List.mem_append.2 (.inl hg))) (fun hg => GNE.out gb (OBQ gb (by simpa using hg)).1 rfl) (fun g hg => by
                  rcases List.mem_append.1 hg with qq | qq
                  · have q' : vP.ownBlock = some g := by simpa using qq
                    rcases Nat.lt_or_ge g wqP.heap.size with r | r
                    · by_cases e : (Value.slice aop (V + j) cp).ownBlock = some g
                      · exact .inl (List.mem_append.2 (.inl (by rw [e]; simp)))
                      · exact absurd q' (hfrP g r e)
                    · exact .inr ⟨r, (World.ownsRow.lt OP.out.1 g q').2⟩
                  · exact .inl (List.mem_append.2 (.inr qq))) (by simp))
                have SZP := qHd (Nat.le_trans hszq EQ.size)
                have HBP := qHd (EQ.low HBQ.out (Nat.le_trans HS1.out.2.1 HBQ.out.size) (fun g hg => GBL.out g (OBQ g (by simpa using hg)).1))
                have FRP := qHd (fun g (h1 : g < wqP.heap.size) (h2 : (Value.slice aop (V + j) cp).ownBlock ≠ some g) => hfrP g h1 h2)
                clear hoP hgP hfrP EQ OBQ hszq
                have DSP := qHd (show ∀ g, (Value.slice aon (V + j) cn).ownBlock = some g → vP.ownBlock ≠ some g from fun g e => FRP.out g (World.ownsRow.lt ONZq.out.1 g e).2 (DS.out g e))
                obtain ⟨aop2, cp2, evP, _, _, _⟩ := qaz OP.out.1
                have MN := qHd (MP.out.sub (Y := (Value.slice aon (V + j) cn).ownBlock.toList ++ (vP.ownBlock.toList ++ [gb])) (by simp) (fun g hg => by
                  simp only [List.mem_append] at hg ⊢
                  rcases hg with h | h | h
                  · exact .inr (.inl h)
                  · exact .inl h
                  · exact .inr (.inr h)))
                obtain ⟨wqN, hwaN⟩ : ∃ z0, z0 = wp.alloc (.cells #[.int .i64 r8] 3) := ⟨_, rfl⟩
                have hbaN : Below wp.heap.size wp wqN := by rw [hwaN]; exact qBA _ _
                obtain ⟨gaN, hgaN⟩ : ∃ g, g = wp.heap.size := ⟨_, rfl⟩
                have hxaN : wqN.heap[gaN]? = some (.cells #[.int .i64 r8] 3) := by rw [hwaN, hgaN]; exact heap_alloc_new _ _
                have hsaN : wqN.heap.size = wp.heap.size + 1 := by rw [hwaN]; simp
                have OQ := qHd (ONZ.out.below hbaN); have GQ := qHd hxaN; have MQ := qHd (MN.out.below hbaN); have HBQ := qHd (qcg HBP.out HS1.out.2.1 hbaN)
                have OPq := qHd (OP.out.below hbaN)
                have hszq : w2.heap.size ≤ wqN.heap.size := Nat.le_trans SZP.out hbaN.size
                clear hbaN hxaN hsaN
                go_wp2_with (with_reducible refine qam ?_)
                rw [← hwaN, ← hgaN]
                clear hwaN hgaN
                refine qar (w2.heap.size) Tryz.intTyK rfl (qal [0]) (by decide) (Value.slice aon (V + j) cn) (V + j) _ [.int .i64 r8] gaN 3 rfl rfl OQ.out GQ.out rfl rfl (qal [r8]) (qal _) (by omega) (by decide) hszq ?_
                intro vN w9 hoN hgN hfrN
                have EQ : Exc wqN w9 (Value.slice aon (V + j) cn).ownBlock.toList := Exc.of_grown hgN (fun g hg => by rw [hg]; simp)
                have ON := qHd (show qbx w9 (w2.heap.size) 3 1 vN (V + j + 1) (qbm (N ++ [r8])) by rw [qbf]; exact hoN)
                have OP := qHd (EQ.own OPq.out (fun g e q => DSP.out g (by simpa using q) e))
                have OBQ := fun g (hg : (Value.slice aon (V + j) cn).ownBlock = some g) => World.ownsRow.lt OQ.out.1 g hg
                have MN := qHd (MQ.out.step (Y := vN.ownBlock.toList ++ (vP.ownBlock.toList ++ [gb])) EQ (fun g hg => .inl (List.mem_append.2 (.inl hg))) (fun hg => GNE.out gb (OBQ gb (by simpa using hg)).1 rfl) (fun g hg => by
                  rcases List.mem_append.1 hg with qq | qq
                  · have q' : vN.ownBlock = some g := by simpa using qq
                    rcases Nat.lt_or_ge g wqN.heap.size with r | r
                    · by_cases e : (Value.slice aon (V + j) cn).ownBlock = some g
                      · exact .inl (List.mem_append.2 (.inl (by rw [e]; simp)))
                      · exact absurd q' (hfrN g r e)
                    · exact .inr ⟨r, (World.ownsRow.lt ON.out.1 g q').2⟩
                  · exact .inl (List.mem_append.2 (.inr qq))) (by simp))
                have SZN := qHd (Nat.le_trans hszq EQ.size)
                have HBN := qHd (EQ.low HBQ.out (Nat.le_trans HS1.out.2.1 HBQ.out.size) (fun g hg => GBL.out g (OBQ g (by simpa using hg)).1))
                have FRN := qHd (fun g (h1 : g < wqN.heap.size) (h2 : (Value.slice aon (V + j) cn).ownBlock ≠ some g) => hfrN g h1 h2)
                clear hoN hgN hfrN EQ OBQ hszq
                have DSN := qHd (show ∀ g, vN.ownBlock = some g → vP.ownBlock ≠ some g from fun g e q => FRN.out g (World.ownsRow.lt OPq.out.1 g q).2 (fun h => DSP.out g h q) e)
                have MM := qHd (MN.out.sub (Y := vP.ownBlock.toList ++ (vN.ownBlock.toList ++ [gb])) (by simp) (fun g hg => by
                  simp only [List.mem_append] at hg ⊢
                  rcases hg with h | h | h
                  · exact .inr (.inl h)
                  · exact .inl h
                  · exact .inr (.inr h)))
                have PH9 := qHd (show Psh V (ns.take (j + 1)) o8 (P ++ [r6]) (N ++ [r8]) by rw [qbs HXJ.out]; exact PN.out)
                subst evP
                go_wp2_with fail
                go_roundw
                case rel => exact ⟨j + 1, v8, o8, P ++ [r6], N ++ [r8], by omega, by go_num, HBN, MM, OP, ON, SZN, qHd ⟨by rw [List.length_append, LL.out.1]; rfl, by rw [List.length_append, LL.out.2.1]; rfl, by have := LX.out; have := LL.out.2.2; omega⟩, DSN, PH9⟩
                case measure => simp [intOf] <;> omega
              · skip
                have HK := qHd (nmap_any (.slice ao' na c') (Value.slice aop (V + j) cp) args P W3 (HIL.out.mono HBW3.out (Nat.le_refl _)) IP3.out (fun y hy => by
                  obtain ⟨q1, q2⟩ := hAG.out y hy
                  rw [LL.out.1]; exact ⟨q1, by omega⟩) (by rw [← HNA.out]; omega) (by rw [LL.out.1]; omega))
                go_wp2_with (with_reducible refine qac ?_)
                clear x0 x1 x2
                refine qad.mk ?_
                (with_reducible refine HK.out.mono ?_); rintro e w5 ⟨va5, rfl, hb4, hi4, hf4⟩
                obtain ⟨aa5, ca5, rfl, hca, hca2, _⟩ := hi4.shape
                have HI5 := qHd hi4; have HF5 := qHd hf4; have AP5 := qHd (M3.out.apart (l := args.map (iA (fun i => P.getD i 0))) (Nat.le_refl _) hf4)
                have ML5 := qHd (M3.out.below hb4); have BZ5 := qHd hb4
                rw [List.length_map, ← HNA.out] at HI5 AP5 ⊢
                clear hb4 hi4 hf4 HK hca hca2
                obtain ⟨x0, x1, x2⟩ := qaq (qaa G8.out BZ5.out)
                have HK := qHd (qbd B0 gb V (gn :: ((Value.slice aop (V + j) cp).ownBlock.toList ++ ((Value.slice aon (V + j) cn).ownBlock.toList ++ [gb]))) v1 (.slice aa5 na ca5) out 0 2 0 ((args.map (iA (fun i => P.getD i 0)))) w5 ML5.out HI5.out (⟨AP5.out.1, fun h => AP5.out.2 (by rw [List.length_map, ← HNA.out] at h; exact h)⟩) ⟨by decide, by decide⟩ ⟨by decide, by decide⟩ hV (by have := LL.out.2.2; have := LX.out; omega))
                go_wp2_with (with_reducible refine qac ?_)
                
                clear x0 x1 x2
                refine qad.mk ?_
                (with_reducible refine HK.out.mono ?_); rintro e w6 ⟨v6, rfl, hC, hM2⟩
                obtain ⟨r6, hr6⟩ : ∃ z : Int, z = ((V + out.length : Nat) : Int) := ⟨_, rfl⟩
                obtain ⟨o6, ho6⟩ : ∃ o, o = out ++ [(⟨2, 0, (args.map (iA (fun i => P.getD i 0)))⟩ : Nd)] := ⟨_, rfl⟩
                rw [← hr6]
                rw [← ho6] at hM2
                have M6 := qHd hM2; have CB6 := qHd hC
                have E6 := qHd (And.intro hr6 ho6)
                have LX := qHd (show o6.length ≤ out.length + 1 by have := LX.out; rw [ho6, List.length_append]; simp <;> omega)
                clear hr6 ho6 hC hM2 HK
                have CC6 := qHd ((Chg.of_below (Y := [gb]) (v := v1) BZ5.out).trans CB6.out)
                obtain ⟨x0, x1, x2⟩ := qaq (M3.out.keep CC6.out (by simp) NG.out G8.out)
                have OP6 := qHd (M3.out.keepO CC6.out (fun g e => ⟨by simp [e], fun h => GNE.out g (OBP.out g e).1 h.symm⟩) OP3.out); have ON6 := qHd (M3.out.keepO CC6.out (fun g e => ⟨by simp [e], fun h => GNE.out g (OBN.out g e).1 h.symm⟩) ON3.out)
                have IP6 := qHd (show qbi w6 (Value.slice aop (V + j) cp) P from qbl (l := P) (by rw [LL.out.1]; exact OP6.out.1) IPN.out.1); have IN6 := qHd (show qbi w6 (Value.slice aon (V + j) cn) N from qbl (l := N) (by rw [LL.out.2.1]; exact ON6.out.1) IPN.out.2)
                have HL6 := qHd (M3.out.lowS CC6.out HS1.out.1 HBW3.out)
                have HK := qHd (nmap_any (.slice ao' na c') (Value.slice aon (V + j) cn) args N w6 (HIL.out.mono HL6.out (Nat.le_refl _)) IN6.out (fun y hy => by
                  obtain ⟨q1, q2⟩ := hAG.out y hy
                  rw [LL.out.2.1]; exact ⟨q1, by omega⟩) (by rw [← HNA.out]; omega) (by rw [LL.out.2.1]; omega))
                go_wp2_with (with_reducible refine qac ?_)
                clear x0 x1 x2
                refine qad.mk ?_
                (with_reducible refine HK.out.mono ?_); rintro e w7 ⟨va7, rfl, hb4, hi4, hf4⟩
                obtain ⟨aa7, ca7, rfl, hca, hca2, _⟩ := hi4.shape
                have HI7 := qHd hi4; have HF7 := qHd hf4; have AP7 := qHd (M6.out.apart (l := args.map (iA (fun i => N.getD i 0))) (Nat.le_refl _) hf4)
                have ML7 := qHd (M6.out.below hb4); have BZ7 := qHd hb4
                rw [List.length_map, ← HNA.out] at HI7 AP7 ⊢
                clear hb4 hi4 hf4 HK hca hca2
                have HK := qHd (qbd B0 gb V (gn :: ((Value.slice aop (V + j) cp).ownBlock.toList ++ ((Value.slice aon (V + j) cn).ownBlock.toList ++ [gb]))) v6 (.slice aa7 na ca7) o6 0 3 0 ((args.map (iA (fun i => N.getD i 0)))) w7 ML7.out HI7.out (⟨AP7.out.1, fun h => AP7.out.2 (by rw [List.length_map, ← HNA.out] at h; exact h)⟩) ⟨by decide, by decide⟩ ⟨by decide, by decide⟩ hV (by have := LL.out.2.2; have := LX.out; omega))
                go_wp2_with (with_reducible refine qac ?_)
                
                
                refine qad.mk ?_
                (with_reducible refine HK.out.mono ?_); rintro e w8 ⟨v8, rfl, hC, hM2⟩
                obtain ⟨r8, hr8⟩ : ∃ z : Int, z = ((V + o6.length : Nat) : Int) := ⟨_, rfl⟩
                obtain ⟨o8, ho8⟩ : ∃ o, o = o6 ++ [(⟨3, 0, (args.map (iA (fun i => N.getD i 0)))⟩ : Nd)] := ⟨_, rfl⟩
                rw [← hr8]
                rw [← ho8] at hM2
                have M8 := qHd hM2; have CB8 := qHd hC
                have E8 := qHd (And.intro hr8 ho8)
                have LX := qHd (show o8.length ≤ out.length + 2 by have := LX.out; rw [ho8, List.length_append]; simp <;> omega)
                clear hr8 ho8 hC hM2 HK
                have CC := qHd (CC6.out.trans ((Chg.of_below (Y := [gb]) (v := v6) BZ7.out).trans CB8.out))
                have hK0 : K = 0 := by simpa [kOK] using hKo
                have G1P := qHd (show Grw V out o6 r6 (fun e0 => nv (qaj e0 (ns.take j)) ⟨2, K, args⟩) from by
                  have h := PH.out.yes (x := ⟨2, K, args⟩) (by rw [HLJ.out]; exact HE.out)
                  simp only [hK0] at h ⊢
                  rw [E6.out.1, E6.out.2]; exact h)
                have OPZ := qHd (M3.out.keepO CC.out (fun g e => ⟨by simp [e], fun h => GNE.out g (OBP.out g e).1 h.symm⟩) OP3.out); have ONZ := qHd (M3.out.keepO CC.out (fun g e => ⟨by simp [e], fun h => GNE.out g (OBN.out g e).1 h.symm⟩) ON3.out)
                have IPZ := qHd (show qbi w8 (Value.slice aop (V + j) cp) P from qbl (l := P) (by rw [LL.out.1]; exact OPZ.out.1) IPN.out.1); have INZ := qHd (show qbi w8 (Value.slice aon (V + j) cn) N from qbl (l := N) (by rw [LL.out.2.1]; exact ONZ.out.1) IPN.out.2)
                have HLZ := qHd (M3.out.lowS CC.out HS1.out.1 HBW3.out)
                have HBZ := qHd (M3.out.low CC.out HB3.out); have SXZ := qHd (Nat.le_trans SX3.out (CC.out).exc.size)
                have MZ := qHd (M8.out.sub (Y := ((Value.slice aop (V + j) cp).ownBlock.toList ++ ((Value.slice aon (V + j) cn).ownBlock.toList ++ [gb]))) (by simp) (fun g hg => List.mem_cons_of_mem _ hg))
                have G2P := qHd (show Grw V o6 o8 r8 (fun e0 => !nv (qaj e0 (ns.take j)) ⟨2, K, args⟩) from by have h := (PH.out.grw G1P.out).no (x := ⟨2, K, args⟩) (by rw [HLJ.out]; exact HE.out) (by simp); rw [E8.out.1, E8.out.2]; exact h)
                have PN := qHd (PH.out.next (x := ⟨2, K, args⟩) (qbp HNO.out j) (by rw [HLJ.out]; exact HE.out) (G1P.out) G2P.out)
                clear IPZ INZ HLZ
                obtain ⟨wqP, hwaP⟩ : ∃ z0, z0 = w8.alloc (.cells #[.int .i64 r6] 3) := ⟨_, rfl⟩
                have hbaP : Below w8.heap.size w8 wqP := by rw [hwaP]; exact qBA _ _
                obtain ⟨gaP, hgaP⟩ : ∃ g, g = w8.heap.size := ⟨_, rfl⟩
                have hxaP : wqP.heap[gaP]? = some (.cells #[.int .i64 r6] 3) := by rw [hwaP, hgaP]; exact heap_alloc_new _ _
                have hsaP : wqP.heap.size = w8.heap.size + 1 := by rw [hwaP]; simp
                have OQ := qHd (OPZ.out.below hbaP); have GQ := qHd hxaP; have MQ := qHd (MZ.out.below hbaP); have HBQ := qHd (qcg HBZ.out HS1.out.2.1 hbaP)
                have ONZq := qHd (ONZ.out.below hbaP)
                have hszq : w2.heap.size ≤ wqP.heap.size := Nat.le_trans SXZ.out hbaP.size
                clear hbaP hxaP hsaP
                go_wp2_with (with_reducible refine qam ?_)
                rw [← hwaP, ← hgaP]
                clear hwaP hgaP
                refine qar (w2.heap.size) Tryz.intTyK rfl (qal [0]) (by decide) (Value.slice aop (V + j) cp) (V + j) _ [.int .i64 r6] gaP 3 rfl rfl OQ.out GQ.out rfl rfl (qal [r6]) (qal _) (by omega) (by decide) hszq ?_
                intro vP wp hoP hgP hfrP
                have EQ : Exc wqP wp (Value.slice aop (V + j) cp).ownBlock.toList := Exc.of_grown hgP (fun g hg => by rw [hg]; simp)
                have OP := qHd (show qbx wp (w2.heap.size) 3 1 vP (V + j + 1) (qbm (P ++ [r6])) by rw [qbf]; exact hoP)
                have ONZ := qHd (EQ.own ONZq.out (fun g e q => DS.out g e (by simpa using q)))
                have OBQ := fun g (hg : (Value.slice aop (V + j) cp).ownBlock = some g) => World.ownsRow.lt OQ.out.1 g hg
                have MP := qHd (MQ.out.step (Y := vP.ownBlock.toList ++ ((Value.slice aon (V + j) cn).ownBlock.toList ++ [gb])) EQ (fun g hg => .inl (List.mem_append.2 (.inl hg))) (fun hg => GNE.out gb (OBQ gb (by simpa using hg)).1 rfl) (fun g hg => by
                  rcases List.mem_append.1 hg with qq | qq
                  · have q' : vP.ownBlock = some g := by simpa using qq
                    rcases Nat.lt_or_ge g wqP.heap.size with r | r
                    · by_cases e : (Value.slice aop (V + j) cp).ownBlock = some g
                      · exact .inl (List.mem_append.2 (.inl (by rw [e]; simp)))
                      · exact absurd q' (hfrP g r e)
                    · exact .inr ⟨r, (World.ownsRow.lt OP.out.1 g q').2⟩
                  · exact .inl (List.mem_append.2 (.inr qq))) (by simp))
                have SZP := qHd (Nat.le_trans hszq EQ.size)
                have HBP := qHd (EQ.low HBQ.out (Nat.le_trans HS1.out.2.1 HBQ.out.size) (fun g hg => GBL.out g (OBQ g (by simpa using hg)).1))
                have FRP := qHd (fun g (h1 : g < wqP.heap.size) (h2 : (Value.slice aop (V + j) cp).ownBlock ≠ some g) => hfrP g h1 h2)
                clear hoP hgP hfrP EQ OBQ hszq
                have DSP := qHd (show ∀ g, (Value.slice aon (V + j) cn).ownBlock = some g → vP.ownBlock ≠ some g from fun g e => FRP.out g (World.ownsRow.lt ONZq.out.1 g e).2 (DS.out g e))
                obtain ⟨aop2, cp2, evP, _, _, _⟩ := qaz OP.out.1
                have MN := qHd (MP.out.sub (Y := (Value.slice aon (V + j) cn).ownBlock.toList ++ (vP.ownBlock.toList ++ [gb])) (by simp) (fun g hg => by
                  simp only [List.mem_append] at hg ⊢
                  rcases hg with h | h | h
                  · exact .inr (.inl h)
                  · exact .inl h
                  · exact .inr (.inr h)))
                obtain ⟨wqN, hwaN⟩ : ∃ z0, z0 = wp.alloc (.cells #[.int .i64 r8] 3) := ⟨_, rfl⟩
                have hbaN : Below wp.heap.size wp wqN := by rw [hwaN]; exact qBA _ _
                obtain ⟨gaN, hgaN⟩ : ∃ g, g = wp.heap.size := ⟨_, rfl⟩
                have hxaN : wqN.heap[gaN]? = some (.cells #[.int .i64 r8] 3) := by rw [hwaN, hgaN]; exact heap_alloc_new _ _
                have hsaN : wqN.heap.size = wp.heap.size + 1 := by rw [hwaN]; simp
                have OQ := qHd (ONZ.out.below hbaN); have GQ := qHd hxaN; have MQ := qHd (MN.out.below hbaN); have HBQ := qHd (qcg HBP.out HS1.out.2.1 hbaN)
                have OPq := qHd (OP.out.below hbaN)
                have hszq : w2.heap.size ≤ wqN.heap.size := Nat.le_trans SZP.out hbaN.size
                clear hbaN hxaN hsaN
                go_wp2_with (with_reducible refine qam ?_)
                rw [← hwaN, ← hgaN]
                clear hwaN hgaN
                refine qar (w2.heap.size) Tryz.intTyK rfl (qal [0]) (by decide) (Value.slice aon (V + j) cn) (V + j) _ [.int .i64 r8] gaN 3 rfl rfl OQ.out GQ.out rfl rfl (qal [r8]) (qal _) (by omega) (by decide) hszq ?_
                intro vN w9 hoN hgN hfrN
                have EQ : Exc wqN w9 (Value.slice aon (V + j) cn).ownBlock.toList := Exc.of_grown hgN (fun g hg => by rw [hg]; simp)
                have ON := qHd (show qbx w9 (w2.heap.size) 3 1 vN (V + j + 1) (qbm (N ++ [r8])) by rw [qbf]; exact hoN)
                have OP := qHd (EQ.own OPq.out (fun g e q => DSP.out g (by simpa using q) e))
                have OBQ := fun g (hg : (Value.slice aon (V + j) cn).ownBlock = some g) => World.ownsRow.lt OQ.out.1 g hg
                have MN := qHd (MQ.out.step (Y := vN.ownBlock.toList ++ (vP.ownBlock.toList ++ [gb])) EQ (fun g hg => .inl (List.mem_append.2 (.inl hg))) (fun hg => GNE.out gb (OBQ gb (by simpa using hg)).1 rfl) (fun g hg => by
                  rcases List.mem_append.1 hg with qq | qq
                  · have q' : vN.ownBlock = some g := by simpa using qq
                    rcases Nat.lt_or_ge g wqN.heap.size with r | r
                    · by_cases e : (Value.slice aon (V + j) cn).ownBlock = some g
                      · exact .inl (List.mem_append.2 (.inl (by rw [e]; simp)))
                      · exact absurd q' (hfrN g r e)
                    · exact .inr ⟨r, (World.ownsRow.lt ON.out.1 g q').2⟩
                  · exact .inl (List.mem_append.2 (.inr qq))) (by simp))
                have SZN := qHd (Nat.le_trans hszq EQ.size)
                have HBN := qHd (EQ.low HBQ.out (Nat.le_trans HS1.out.2.1 HBQ.out.size) (fun g hg => GBL.out g (OBQ g (by simpa using hg)).1))
                have FRN := qHd (fun g (h1 : g < wqN.heap.size) (h2 : (Value.slice aon (V + j) cn).ownBlock ≠ some g) => hfrN g h1 h2)
                clear hoN hgN hfrN EQ OBQ hszq
                have DSN := qHd (show ∀ g, vN.ownBlock = some g → vP.ownBlock ≠ some g from fun g e q => FRN.out g (World.ownsRow.lt OPq.out.1 g q).2 (fun h => DSP.out g h q) e)
                have MM := qHd (MN.out.sub (Y := vP.ownBlock.toList ++ (vN.ownBlock.toList ++ [gb])) (by simp) (fun g hg => by
                  simp only [List.mem_append] at hg ⊢
                  rcases hg with h | h | h
                  · exact .inr (.inl h)
                  · exact .inl h
                  · exact .inr (.inr h)))
                have PH9 := qHd (show Psh V (ns.take (j + 1)) o8 (P ++ [r6]) (N ++ [r8]) by rw [qbs HXJ.out]; exact PN.out)
                subst evP
                go_wp2_with fail
                go_roundw
                case rel => exact ⟨j + 1, v8, o8, P ++ [r6], N ++ [r8], by omega, by go_num, HBN, MM, OP, ON, SZN, qHd ⟨by rw [List.length_append, LL.out.1]; rfl, by rw [List.length_append, LL.out.2.1]; rfl, by have := LX.out; have := LL.out.2.2; omega⟩, DSN, PH9⟩
                case measure => simp [intOf] <;> omega
              · skip
                have HK := qHd (nmap_any (.slice ao' na c') (Value.slice aop (V + j) cp) args P W3 (HIL.out.mono HBW3.out (Nat.le_refl _)) IP3.out (fun y hy => by
                  obtain ⟨q1, q2⟩ := hAG.out y hy
                  rw [LL.out.1]; exact ⟨q1, by omega⟩) (by rw [← HNA.out]; omega) (by rw [LL.out.1]; omega))
                go_wp2_with (with_reducible refine qac ?_)
                clear x0 x1 x2
                refine qad.mk ?_
                (with_reducible refine HK.out.mono ?_); rintro e w5 ⟨va5, rfl, hb4, hi4, hf4⟩
                obtain ⟨aa5, ca5, rfl, hca, hca2, _⟩ := hi4.shape
                have HI5 := qHd hi4; have HF5 := qHd hf4; have AP5 := qHd (M3.out.apart (l := args.map (iA (fun i => P.getD i 0))) (Nat.le_refl _) hf4)
                have ML5 := qHd (M3.out.below hb4); have BZ5 := qHd hb4
                rw [List.length_map, ← HNA.out] at HI5 AP5 ⊢
                clear hb4 hi4 hf4 HK hca hca2
                obtain ⟨x0, x1, x2⟩ := qaq (qaa G8.out BZ5.out)
                have HK := qHd (qbd B0 gb V (gn :: ((Value.slice aop (V + j) cp).ownBlock.toList ++ ((Value.slice aon (V + j) cn).ownBlock.toList ++ [gb]))) v1 (.slice aa5 na ca5) out 0 3 0 ((args.map (iA (fun i => P.getD i 0)))) w5 ML5.out HI5.out (⟨AP5.out.1, fun h => AP5.out.2 (by rw [List.length_map, ← HNA.out] at h; exact h)⟩) ⟨by decide, by decide⟩ ⟨by decide, by decide⟩ hV (by have := LL.out.2.2; have := LX.out; omega))
                go_wp2_with (with_reducible refine qac ?_)
                
                clear x0 x1 x2
                refine qad.mk ?_
                (with_reducible refine HK.out.mono ?_); rintro e w6 ⟨v6, rfl, hC, hM2⟩
                obtain ⟨r6, hr6⟩ : ∃ z : Int, z = ((V + out.length : Nat) : Int) := ⟨_, rfl⟩
                obtain ⟨o6, ho6⟩ : ∃ o, o = out ++ [(⟨3, 0, (args.map (iA (fun i => P.getD i 0)))⟩ : Nd)] := ⟨_, rfl⟩
                rw [← hr6]
                rw [← ho6] at hM2
                have M6 := qHd hM2; have CB6 := qHd hC
                have E6 := qHd (And.intro hr6 ho6)
                have LX := qHd (show o6.length ≤ out.length + 1 by have := LX.out; rw [ho6, List.length_append]; simp <;> omega)
                clear hr6 ho6 hC hM2 HK
                have CC6 := qHd ((Chg.of_below (Y := [gb]) (v := v1) BZ5.out).trans CB6.out)
                obtain ⟨x0, x1, x2⟩ := qaq (M3.out.keep CC6.out (by simp) NG.out G8.out)
                have OP6 := qHd (M3.out.keepO CC6.out (fun g e => ⟨by simp [e], fun h => GNE.out g (OBP.out g e).1 h.symm⟩) OP3.out); have ON6 := qHd (M3.out.keepO CC6.out (fun g e => ⟨by simp [e], fun h => GNE.out g (OBN.out g e).1 h.symm⟩) ON3.out)
                have IP6 := qHd (show qbi w6 (Value.slice aop (V + j) cp) P from qbl (l := P) (by rw [LL.out.1]; exact OP6.out.1) IPN.out.1); have IN6 := qHd (show qbi w6 (Value.slice aon (V + j) cn) N from qbl (l := N) (by rw [LL.out.2.1]; exact ON6.out.1) IPN.out.2)
                have HL6 := qHd (M3.out.lowS CC6.out HS1.out.1 HBW3.out)
                have HK := qHd (nmap_any (.slice ao' na c') (Value.slice aon (V + j) cn) args N w6 (HIL.out.mono HL6.out (Nat.le_refl _)) IN6.out (fun y hy => by
                  obtain ⟨q1, q2⟩ := hAG.out y hy
                  rw [LL.out.2.1]; exact ⟨q1, by omega⟩) (by rw [← HNA.out]; omega) (by rw [LL.out.2.1]; omega))
                go_wp2_with (with_reducible refine qac ?_)
                clear x0 x1 x2
                refine qad.mk ?_
                (with_reducible refine HK.out.mono ?_); rintro e w7 ⟨va7, rfl, hb4, hi4, hf4⟩
                obtain ⟨aa7, ca7, rfl, hca, hca2, _⟩ := hi4.shape
                have HI7 := qHd hi4; have HF7 := qHd hf4; have AP7 := qHd (M6.out.apart (l := args.map (iA (fun i => N.getD i 0))) (Nat.le_refl _) hf4)
                have ML7 := qHd (M6.out.below hb4); have BZ7 := qHd hb4
                rw [List.length_map, ← HNA.out] at HI7 AP7 ⊢
                clear hb4 hi4 hf4 HK hca hca2
                have HK := qHd (qbd B0 gb V (gn :: ((Value.slice aop (V + j) cp).ownBlock.toList ++ ((Value.slice aon (V + j) cn).ownBlock.toList ++ [gb]))) v6 (.slice aa7 na ca7) o6 0 2 0 ((args.map (iA (fun i => N.getD i 0)))) w7 ML7.out HI7.out (⟨AP7.out.1, fun h => AP7.out.2 (by rw [List.length_map, ← HNA.out] at h; exact h)⟩) ⟨by decide, by decide⟩ ⟨by decide, by decide⟩ hV (by have := LL.out.2.2; have := LX.out; omega))
                go_wp2_with (with_reducible refine qac ?_)
                
                
                refine qad.mk ?_
                (with_reducible refine HK.out.mono ?_); rintro e w8 ⟨v8, rfl, hC, hM2⟩
                obtain ⟨r8, hr8⟩ : ∃ z : Int, z = ((V + o6.length : Nat) : Int) := ⟨_, rfl⟩
                obtain ⟨o8, ho8⟩ : ∃ o, o = o6 ++ [(⟨2, 0, (args.map (iA (fun i => N.getD i 0)))⟩ : Nd)] := ⟨_, rfl⟩
                rw [← hr8]
                rw [← ho8] at hM2
                have M8 := qHd hM2; have CB8 := qHd hC
                have E8 := qHd (And.intro hr8 ho8)
                have LX := qHd (show o8.length ≤ out.length + 2 by have := LX.out; rw [ho8, List.length_append]; simp <;> omega)
                clear hr8 ho8 hC hM2 HK
                have CC := qHd (CC6.out.trans ((Chg.of_below (Y := [gb]) (v := v6) BZ7.out).trans CB8.out))
                have hK0 : K = 0 := by simpa [kOK] using hKo
                have G1P := qHd (show Grw V out o6 r6 (fun e0 => nv (qaj e0 (ns.take j)) ⟨3, K, args⟩) from by
                  have h := PH.out.yes (x := ⟨3, K, args⟩) (by rw [HLJ.out]; exact HE.out)
                  simp only [hK0] at h ⊢
                  rw [E6.out.1, E6.out.2]; exact h)
                have OPZ := qHd (M3.out.keepO CC.out (fun g e => ⟨by simp [e], fun h => GNE.out g (OBP.out g e).1 h.symm⟩) OP3.out); have ONZ := qHd (M3.out.keepO CC.out (fun g e => ⟨by simp [e], fun h => GNE.out g (OBN.out g e).1 h.symm⟩) ON3.out)
                have IPZ := qHd (show qbi w8 (Value.slice aop (V + j) cp) P from qbl (l := P) (by rw [LL.out.1]; exact OPZ.out.1) IPN.out.1); have INZ := qHd (show qbi w8 (Value.slice aon (V + j) cn) N from qbl (l := N) (by rw [LL.out.2.1]; exact ONZ.out.1) IPN.out.2)
                have HLZ := qHd (M3.out.lowS CC.out HS1.out.1 HBW3.out)
                have HBZ := qHd (M3.out.low CC.out HB3.out); have SXZ := qHd (Nat.le_trans SX3.out (CC.out).exc.size)
                have MZ := qHd (M8.out.sub (Y := ((Value.slice aop (V + j) cp).ownBlock.toList ++ ((Value.slice aon (V + j) cn).ownBlock.toList ++ [gb]))) (by simp) (fun g hg => List.mem_cons_of_mem _ hg))
                have G2P := qHd (show Grw V o6 o8 r8 (fun e0 => !nv (qaj e0 (ns.take j)) ⟨3, K, args⟩) from by have h := (PH.out.grw G1P.out).no (x := ⟨3, K, args⟩) (by rw [HLJ.out]; exact HE.out) (by simp); rw [E8.out.1, E8.out.2]; exact h)
                have PN := qHd (PH.out.next (x := ⟨3, K, args⟩) (qbp HNO.out j) (by rw [HLJ.out]; exact HE.out) (G1P.out) G2P.out)
                clear IPZ INZ HLZ
                obtain ⟨wqP, hwaP⟩ : ∃ z0, z0 = w8.alloc (.cells #[.int .i64 r6] 3) := ⟨_, rfl⟩
                have hbaP : Below w8.heap.size w8 wqP := by rw [hwaP]; exact qBA _ _
                obtain ⟨gaP, hgaP⟩ : ∃ g, g = w8.heap.size := ⟨_, rfl⟩
                have hxaP : wqP.heap[gaP]? = some (.cells #[.int .i64 r6] 3) := by rw [hwaP, hgaP]; exact heap_alloc_new _ _
                have hsaP : wqP.heap.size = w8.heap.size + 1 := by rw [hwaP]; simp
                have OQ := qHd (OPZ.out.below hbaP); have GQ := qHd hxaP; have MQ := qHd (MZ.out.below hbaP); have HBQ := qHd (qcg HBZ.out HS1.out.2.1 hbaP)
                have ONZq := qHd (ONZ.out.below hbaP)
                have hszq : w2.heap.size ≤ wqP.heap.size := Nat.le_trans SXZ.out hbaP.size
                clear hbaP hxaP hsaP
                go_wp2_with (with_reducible refine qam ?_)
                rw [← hwaP, ← hgaP]
                clear hwaP hgaP
                refine qar (w2.heap.size) Tryz.intTyK rfl (qal [0]) (by decide) (Value.slice aop (V + j) cp) (V + j) _ [.int .i64 r6] gaP 3 rfl rfl OQ.out GQ.out rfl rfl (qal [r6]) (qal _) (by omega) (by decide) hszq ?_
                intro vP wp hoP hgP hfrP
                have EQ : Exc wqP wp (Value.slice aop (V + j) cp).ownBlock.toList := Exc.of_grown hgP (fun g hg => by rw [hg]; simp)
                have OP := qHd (show qbx wp (w2.heap.size) 3 1 vP (V + j + 1) (qbm (P ++ [r6])) by rw [qbf]; exact hoP)
                have ONZ := qHd (EQ.own ONZq.out (fun g e q => DS.out g e (by simpa using q)))
                have OBQ := fun g (hg : (Value.slice aop (V + j) cp).ownBlock = some g) => World.ownsRow.lt OQ.out.1 g hg
                have MP := qHd (MQ.out.step (Y := vP.ownBlock.toList ++ ((Value.slice aon (V + j) cn).ownBlock.toList ++ [gb])) EQ (fun g hg => .inl (List.mem_append.2 (.inl hg))) (fun hg => GNE.out gb (OBQ gb (by simpa using hg)).1 rfl) (fun g hg => by
                  rcases List.mem_append.1 hg with qq | qq
                  · have q' : vP.ownBlock = some g := by simpa using qq
                    rcases Nat.lt_or_ge g wqP.heap.size with r | r
                    · by_cases e : (Value.slice aop (V + j) cp).ownBlock = some g
                      · exact .inl (List.mem_append.2 (.inl (by rw [e]; simp)))
                      · exact absurd q' (hfrP g r e)
                    · exact .inr ⟨r, (World.ownsRow.lt OP.out.1 g q').2⟩
                  · exact .inl (List.mem_append.2 (.inr qq))) (by simp))
                have SZP := qHd (Nat.le_trans hszq EQ.size)
                have HBP := qHd (EQ.low HBQ.out (Nat.le_trans HS1.out.2.1 HBQ.out.size) (fun g hg => GBL.out g (OBQ g (by simpa using hg)).1))
                have FRP := qHd (fun g (h1 : g < wqP.heap.size) (h2 : (Value.slice aop (V + j) cp).ownBlock ≠ some g) => hfrP g h1 h2)
                clear hoP hgP hfrP EQ OBQ hszq
                have DSP := qHd (show ∀ g, (Value.slice aon (V + j) cn).ownBlock = some g → vP.ownBlock ≠ some g from fun g e => FRP.out g (World.ownsRow.lt ONZq.out.1 g e).2 (DS.out g e))
                obtain ⟨aop2, cp2, evP, _, _, _⟩ := qaz OP.out.1
                have MN := qHd (MP.out.sub (Y := (Value.slice aon (V + j) cn).ownBlock.toList ++ (vP.ownBlock.toList ++ [gb])) (by simp) (fun g hg => by
                  simp only [List.mem_append] at hg ⊢
                  rcases hg with h | h | h
                  · exact .inr (.inl h)
                  · exact .inl h
                  · exact .inr (.inr h)))
                obtain ⟨wqN, hwaN⟩ : ∃ z0, z0 = wp.alloc (.cells #[.int .i64 r8] 3) := ⟨_, rfl⟩
                have hbaN : Below wp.heap.size wp wqN := by rw [hwaN]; exact qBA _ _
                obtain ⟨gaN, hgaN⟩ : ∃ g, g = wp.heap.size := ⟨_, rfl⟩
                have hxaN : wqN.heap[gaN]? = some (.cells #[.int .i64 r8] 3) := by rw [hwaN, hgaN]; exact heap_alloc_new _ _
                have hsaN : wqN.heap.size = wp.heap.size + 1 := by rw [hwaN]; simp
                have OQ := qHd (ONZ.out.below hbaN); have GQ := qHd hxaN; have MQ := qHd (MN.out.below hbaN); have HBQ := qHd (qcg HBP.out HS1.out.2.1 hbaN)
                have OPq := qHd (OP.out.below hbaN)
                have hszq : w2.heap.size ≤ wqN.heap.size := Nat.le_trans SZP.out hbaN.size
                clear hbaN hxaN hsaN
                go_wp2_with (with_reducible refine qam ?_)
                rw [← hwaN, ← hgaN]
                clear hwaN hgaN
                refine qar (w2.heap.size) Tryz.intTyK rfl (qal [0]) (by decide) (Value.slice aon (V + j) cn) (V + j) _ [.int .i64 r8] gaN 3 rfl rfl OQ.out GQ.out rfl rfl (qal [r8]) (qal _) (by omega) (by decide) hszq ?_
                intro vN w9 hoN hgN hfrN
                have EQ : Exc wqN w9 (Value.slice aon (V + j) cn).ownBlock.toList := Exc.of_grown hgN (fun g hg => by rw [hg]; simp)
                have ON := qHd (show qbx w9 (w2.heap.size) 3 1 vN (V + j + 1) (qbm (N ++ [r8])) by rw [qbf]; exact hoN)
                have OP := qHd (EQ.own OPq.out (fun g e q => DSP.out g (by simpa using q) e))
                have OBQ := fun g (hg : (Value.slice aon (V + j) cn).ownBlock = some g) => World.ownsRow.lt OQ.out.1 g hg
                have MN := qHd (MQ.out.step (Y := vN.ownBlock.toList ++ (vP.ownBlock.toList ++ [gb])) EQ (fun g hg => .inl (List.mem_append.2 (.inl hg))) (fun hg => GNE.out gb (OBQ gb (by simpa using hg)).1 rfl) (fun g hg => by
                  rcases List.mem_append.1 hg with qq | qq
                  · have q' : vN.ownBlock = some g := by simpa using qq
                    rcases Nat.lt_or_ge g wqN.heap.size with r | r
                    · by_cases e : (Value.slice aon (V + j) cn).ownBlock = some g
                      · exact .inl (List.mem_append.2 (.inl (by rw [e]; simp)))
                      · exact absurd q' (hfrN g r e)
                    · exact .inr ⟨r, (World.ownsRow.lt ON.out.1 g q').2⟩
                  · exact .inl (List.mem_append.2 (.inr qq))) (by simp))
                have SZN := qHd (Nat.le_trans hszq EQ.size)
                have HBN := qHd (EQ.low HBQ.out (Nat.le_trans HS1.out.2.1 HBQ.out.size) (fun g hg => GBL.out g (OBQ g (by simpa using hg)).1))
                have FRN := qHd (fun g (h1 : g < wqN.heap.size) (h2 : (Value.slice aon (V + j) cn).ownBlock ≠ some g) => hfrN g h1 h2)
                clear hoN hgN hfrN EQ OBQ hszq
                have DSN := qHd (show ∀ g, vN.ownBlock = some g → vP.ownBlock ≠ some g from fun g e q => FRN.out g (World.ownsRow.lt OPq.out.1 g q).2 (fun h => DSP.out g h q) e)
                have MM := qHd (MN.out.sub (Y := vP.ownBlock.toList ++ (vN.ownBlock.toList ++ [gb])) (by simp) (fun g hg => by
                  simp only [List.mem_append] at hg ⊢
                  rcases hg with h | h | h
                  · exact .inr (.inl h)
                  · exact .inl h
                  · exact .inr (.inr h)))
                have PH9 := qHd (show Psh V (ns.take (j + 1)) o8 (P ++ [r6]) (N ++ [r8]) by rw [qbs HXJ.out]; exact PN.out)
                subst evP
                go_wp2_with fail
                go_roundw
                case rel => exact ⟨j + 1, v8, o8, P ++ [r6], N ++ [r8], by omega, by go_num, HBN, MM, OP, ON, SZN, qHd ⟨by rw [List.length_append, LL.out.1]; rfl, by rw [List.length_append, LL.out.2.1]; rfl, by have := LX.out; have := LL.out.2.2; omega⟩, DSN, PH9⟩
                case measure => simp [intOf] <;> omega
              · skip
                have hK4 : 1 ≤ K ∧ K ≤ (na : Nat) := by rw [HNA.out]; simpa [kOK] using hKo
                have DK1 := qHd (show IntKind.wrap .i64 ((na : Int) - K) = (na : Int) - K from qda (by omega)); have DK2 := qHd (show IntKind.wrap .i64 ((na : Int) - K + 1) = (na : Int) - K + 1 from qda (by omega))
                go_wp2_with (with_reducible refine qax ?_)
                clear x0 x1 x2
                refine qad.mk ?_
                refine qay (A := ?aaV1) (w := W3) 7 [] (by kernel_rfl) (Fl [KEq (.pointer (some ⟨gb, 0, none⟩)), KEq (.pointer (some ⟨gn, 1, none⟩)), KEq (.int .i64 K), KEq (.pointer (some ⟨gn, 2, none⟩)), KEq (.slice ao' na c'), KEq (Value.slice aop (V + j) cp), KCl W3.heap.size (args.map (iA (fun i => P.getD i 0)))]) (fun i => false) (by kernel_rfl) ?hqV1 (qdx (qai (kEq _) (qai (kEq _) (qai (kEq _) (qai (kEq _) (qai (kEq _) (qai (kEq _) (qai (kCl _ _) qdw)))))))) ?haV1 ?stV1 ?tlV1
                case hqV1 =>
                  intro c a d v w h
                  first | (simp only [Exit.then] at h ⊢; exact h) | (simp only [Exit.inBlock, Exit.then] at h ⊢; exact h) | exact h
                case haV1 =>
                  intro vals
                  simp only [qat, qcf, if_true, Act.put, List.setIfInBounds_toArray, List.set_cons_zero, List.set_cons_succ, List.getElem?_toArray, List.getElem?_cons_zero, List.getElem?_cons_succ, Option.bind_some]
                  exact rfl
                case stV1 =>
                  simp only [List.take_succ_cons, List.take_zero]
                  refine qab rfl rfl ?_ (qab rfl rfl ?_ (qab rfl rfl ?_ (qab rfl rfl ?_ (qab rfl rfl ?_ (qab rfl rfl ?_ (qab rfl rfl ?_ (qbb)))))))
                  · intro vals w1 hb hd
                    refine qSv (.pointer (some ⟨gb, 0, none⟩)) (by go_simp) (qLk rfl rfl)
                  · intro vals w1 hb hd
                    refine qSv (.pointer (some ⟨gn, 1, none⟩)) (by go_simp) (qLk rfl rfl)
                  · intro vals w1 hb hd
                    obtain ⟨e0, e1, e2⟩ := qaq (qaa G8.out hb)
                    rw [show vals 1 = .pointer (some ⟨gn, 1, none⟩) from hd 1 (by kernel_rfl)]
                    refine qSv (.int .i64 K) (by go_simp) (qLk rfl rfl)
                  · intro vals w1 hb hd
                    refine qSv (.pointer (some ⟨gn, 2, none⟩)) (by go_simp) (qLk rfl rfl)
                  · intro vals w1 hb hd
                    obtain ⟨e0, e1, e2⟩ := qaq (qaa G8.out hb)
                    rw [show vals 3 = .pointer (some ⟨gn, 2, none⟩) from hd 3 (by kernel_rfl)]
                    refine qSv (.slice ao' na c') (by go_simp) (qLk rfl rfl)
                  · intro vals w1 hb hd
                    refine qSv (Value.slice aop (V + j) cp) (by go_simp) (qLk rfl rfl)
                  · intro vals w1 hb hd
                    have d4 : KEq (.slice ao' na c') (vals 4) w1 := hd 4 (by kernel_rfl)
                    have d5 : KEq (Value.slice aop (V + j) cp) (vals 5) w1 := hd 5 (by kernel_rfl)
                    have HS := qHd (nmap_any (.slice ao' na c') (Value.slice aop (V + j) cp) args P w1 (HIL.out.mono (qcg HBW3.out (Nat.le_refl _) hb) (Nat.le_refl _)) (IP3.out.below hb) (fun y hy => by obtain ⟨q1, q2⟩ := hAG.out y hy; rw [LL.out.1]; exact ⟨q1, by omega⟩) (by rw [← HNA.out]; omega) (by rw [LL.out.1]; omega))
                    have z4 : vals 4 = _ := d4
                    rw [z4]; clear z4
                    have z5 : vals 5 = _ := d5
                    rw [z5]; clear z5
                    refine qbh (by go_simp; first | done | exact ⟨⟨rfl, rfl⟩, rfl⟩) ?_
                    (with_reducible refine HS.out.mono ?_); rintro e w2 ⟨va, rfl, hb2, hi2, hf2⟩
                    obtain ⟨aa, ca, ea, _⟩ := hi2.shape
                    rw [ea] at hi2 hf2 ⊢
                    exact ⟨_, rfl, qba hb2 ⟨_, _, _, rfl, hi2, fun g hg => Nat.le_trans hb.size (hf2 g hg)⟩ (fun h => by cases h)⟩
                case tlV1 =>
                  intro vals w5 hb5 hf5 hdis
                  simp only [List.drop_succ_cons, List.drop_zero]
                  have z0 : vals 0 = _ := hf5 0 (by decide); have z2 : vals 2 = _ := hf5 2 (by decide)
                  obtain ⟨oa, na2, ca5, ea, hi5, hf6⟩ : KCl W3.heap.size (args.map (iA (fun i => P.getD i 0))) (vals 6) w5 := hf5 6 (by decide)
                  rw [z0, z2, ea]
                  have ML5 := qHd (M3.out.below hb5); have BZ5 := qHd hb5; have HI5 := qHd hi5; have AP5 := qHd (M3.out.apart (l := args.map (iA (fun i => P.getD i 0))) (Nat.le_refl _) hf6)
                  clear z0 z2 ea hf5 hdis hb5 hi5 hf6
                  have HK := qHd (qbd B0 gb V (gn :: ((Value.slice aop (V + j) cp).ownBlock.toList ++ ((Value.slice aon (V + j) cn).ownBlock.toList ++ [gb]))) v1 (.slice oa na2 ca5) out 0 4 K ((args.map (iA (fun i => P.getD i 0)))) w5 ML5.out HI5.out (AP5.out) ⟨by decide, by decide⟩ HKK.out.2 hV (by have := LL.out.2.2; have := LX.out; omega))
                  go_wp2_with (with_reducible refine qac ?_)
                  
                  
                  refine qad.mk ?_
                  (with_reducible refine HK.out.mono ?_); rintro e w6 ⟨v6, rfl, hC, hM2⟩
                  obtain ⟨r6, hr6⟩ : ∃ z : Int, z = ((V + out.length : Nat) : Int) := ⟨_, rfl⟩
                  obtain ⟨o6, ho6⟩ : ∃ o, o = out ++ [(⟨4, K, (args.map (iA (fun i => P.getD i 0)))⟩ : Nd)] := ⟨_, rfl⟩
                  rw [← hr6]
                  rw [← ho6] at hM2
                  have M6 := qHd hM2; have CB6 := qHd hC
                  have E6 := qHd (And.intro hr6 ho6)
                  have LX := qHd (show o6.length ≤ out.length + 1 by have := LX.out; rw [ho6, List.length_append]; simp <;> omega)
                  clear hr6 ho6 hC hM2 HK
                  have CC6 := qHd ((Chg.of_below (Y := [gb]) (v := v1) BZ5.out).trans CB6.out)
                  have G86 := qHd (M3.out.keep CC6.out (by simp) NG.out G8.out)
                  have OP6 := qHd (M3.out.keepO CC6.out (fun g e => ⟨by simp [e], fun h => GNE.out g (OBP.out g e).1 h.symm⟩) OP3.out); have ON6 := qHd (M3.out.keepO CC6.out (fun g e => ⟨by simp [e], fun h => GNE.out g (OBN.out g e).1 h.symm⟩) ON3.out)
                  have IP6 := qHd (show qbi w6 (Value.slice aop (V + j) cp) P from qbl (l := P) (by rw [LL.out.1]; exact OP6.out.1) IPN.out.1); have IN6 := qHd (show qbi w6 (Value.slice aon (V + j) cn) N from qbl (l := N) (by rw [LL.out.2.1]; exact ON6.out.1) IPN.out.2)
                  have HL6 := qHd (M3.out.lowS CC6.out HS1.out.1 HBW3.out)
                  go_wp2_with (with_reducible refine qax ?_)
                  refine qad.mk ?_
                  refine qay (A := ?aaV2) (w := w6) 12 [] (by kernel_rfl) (Fl [KEq (.pointer (some ⟨gb, 0, none⟩)), KEq (.pointer (some ⟨gn, 2, none⟩)), KEq (.slice ao' na c'), KEq (.int .i64 (na : Nat)), KEq (.pointer (some ⟨gn, 1, none⟩)), KEq (.int .i64 K), KEq (.int .i64 ((na : Int) - K)), KEq (.int .i64 ((na : Int) - K + 1)), KEq (.pointer (some ⟨gn, 2, none⟩)), KEq (.slice ao' na c'), KEq (Value.slice aon (V + j) cn), KCl w6.heap.size (args.map (iA (fun i => N.getD i 0)))]) (fun i => false) (by kernel_rfl) ?hqV2 (qdx (qai (kEq _) (qai (kEq _) (qai (kEq _) (qai (kEq _) (qai (kEq _) (qai (kEq _) (qai (kEq _) (qai (kEq _) (qai (kEq _) (qai (kEq _) (qai (kEq _) (qai (kCl _ _) qdw))))))))))))) ?haV2 ?stV2 ?tlV2
                  case hqV2 =>
                    intro c a d v w h
                    first | (simp only [Exit.then] at h ⊢; exact h) | (simp only [Exit.inBlock, Exit.then] at h ⊢; exact h) | exact h
                  case haV2 =>
                    intro vals
                    simp only [qat, qcf, if_true, Act.put, List.setIfInBounds_toArray, List.set_cons_zero, List.set_cons_succ, List.getElem?_toArray, List.getElem?_cons_zero, List.getElem?_cons_succ, Option.bind_some]
                    exact rfl
                  case stV2 =>
                    simp only [List.take_succ_cons, List.take_zero]
                    refine qab rfl rfl ?_ (qab rfl rfl ?_ (qab rfl rfl ?_ (qab rfl rfl ?_ (qab rfl rfl ?_ (qab rfl rfl ?_ (qab rfl rfl ?_ (qab rfl rfl ?_ (qab rfl rfl ?_ (qab rfl rfl ?_ (qab rfl rfl ?_ (qab rfl rfl ?_ (qbb))))))))))))
                    · intro vals w1 hb hd
                      refine qSv (.pointer (some ⟨gb, 0, none⟩)) (by go_simp) (qLk rfl rfl)
                    · intro vals w1 hb hd
                      refine qSv (.pointer (some ⟨gn, 2, none⟩)) (by go_simp) (qLk rfl rfl)
                    · intro vals w1 hb hd
                      obtain ⟨e0, e1, e2⟩ := qaq (qaa G86.out hb)
                      rw [show vals 1 = .pointer (some ⟨gn, 2, none⟩) from hd 1 (by kernel_rfl)]
                      refine qSv (.slice ao' na c') (by go_simp) (qLk rfl rfl)
                    · intro vals w1 hb hd
                      rw [show vals 2 = .slice ao' na c' from hd 2 (by kernel_rfl)]
                      refine qSv (.int .i64 (na : Nat)) (by go_simp) (qLk rfl rfl)
                    · intro vals w1 hb hd
                      refine qSv (.pointer (some ⟨gn, 1, none⟩)) (by go_simp) (qLk rfl rfl)
                    · intro vals w1 hb hd
                      obtain ⟨e0, e1, e2⟩ := qaq (qaa G86.out hb)
                      rw [show vals 4 = .pointer (some ⟨gn, 1, none⟩) from hd 4 (by kernel_rfl)]
                      refine qSv (.int .i64 K) (by go_simp) (qLk rfl rfl)
                    · intro vals w1 hb hd
                      rw [show vals 3 = .int .i64 (na : Nat) from hd 3 (by kernel_rfl)]
                      rw [show vals 5 = .int .i64 K from hd 5 (by kernel_rfl)]
                      refine qSv (.int .i64 ((na : Int) - K)) (by go_simp; first | done | exact DK1.out) (qLk rfl rfl)
                    · intro vals w1 hb hd
                      rw [show vals 6 = .int .i64 ((na : Int) - K) from hd 6 (by kernel_rfl)]
                      refine qSv (.int .i64 ((na : Int) - K + 1)) (by go_simp; first | done | exact DK2.out) (qLk rfl rfl)
                    · intro vals w1 hb hd
                      refine qSv (.pointer (some ⟨gn, 2, none⟩)) (by go_simp) (qLk rfl rfl)
                    · intro vals w1 hb hd
                      obtain ⟨e0, e1, e2⟩ := qaq (qaa G86.out hb)
                      rw [show vals 8 = .pointer (some ⟨gn, 2, none⟩) from hd 8 (by kernel_rfl)]
                      refine qSv (.slice ao' na c') (by go_simp) (qLk rfl rfl)
                    · intro vals w1 hb hd
                      refine qSv (Value.slice aon (V + j) cn) (by go_simp) (qLk rfl rfl)
                    · intro vals w1 hb hd
                      have d9 : KEq (.slice ao' na c') (vals 9) w1 := hd 9 (by kernel_rfl)
                      have d10 : KEq (Value.slice aon (V + j) cn) (vals 10) w1 := hd 10 (by kernel_rfl)
                      have HS := qHd (nmap_any (.slice ao' na c') (Value.slice aon (V + j) cn) args N w1 (HIL.out.mono (qcg HL6.out (Nat.le_refl _) hb) (Nat.le_refl _)) (IN6.out.below hb) (fun y hy => by obtain ⟨q1, q2⟩ := hAG.out y hy; rw [LL.out.2.1]; exact ⟨q1, by omega⟩) (by rw [← HNA.out]; omega) (by rw [LL.out.2.1]; omega))
                      have z9 : vals 9 = _ := d9
                      rw [z9]; clear z9
                      have z10 : vals 10 = _ := d10
                      rw [z10]; clear z10
                      refine qbh (by go_simp; first | done | exact ⟨⟨rfl, rfl⟩, rfl⟩) ?_
                      (with_reducible refine HS.out.mono ?_); rintro e w2 ⟨va, rfl, hb2, hi2, hf2⟩
                      obtain ⟨aa, ca, ea, _⟩ := hi2.shape
                      rw [ea] at hi2 hf2 ⊢
                      exact ⟨_, rfl, qba hb2 ⟨_, _, _, rfl, hi2, fun g hg => Nat.le_trans hb.size (hf2 g hg)⟩ (fun h => by cases h)⟩
                  case tlV2 =>
                    intro vals2 w7 hb7 hf7 hdis2
                    simp only [List.drop_succ_cons, List.drop_zero]
                    have z0 : vals2 0 = _ := hf7 0 (by decide); have z7 : vals2 7 = _ := hf7 7 (by decide)
                    obtain ⟨ob, na3, cb7, ea, hi7, hf8⟩ : KCl w6.heap.size (args.map (iA (fun i => N.getD i 0))) (vals2 11) w7 := hf7 11 (by decide)
                    rw [z0, z7, ea]
                    have ML7 := qHd (M6.out.below hb7); have BZ7 := qHd hb7; have HI7 := qHd hi7; have AP7 := qHd (M6.out.apart (l := args.map (iA (fun i => N.getD i 0))) (Nat.le_refl _) hf8)
                    clear z0 z7 ea hf7 hdis2 hb7 hi7 hf8
                    have HK := qHd (qbd B0 gb V (gn :: ((Value.slice aop (V + j) cp).ownBlock.toList ++ ((Value.slice aon (V + j) cn).ownBlock.toList ++ [gb]))) v6 (.slice ob na3 cb7) o6 0 4 ((na : Int) - K + 1) ((args.map (iA (fun i => N.getD i 0)))) w7 ML7.out HI7.out (AP7.out) ⟨by decide, by decide⟩ ⟨by omega, by omega⟩ hV (by have := LL.out.2.2; have := LX.out; omega))
                    go_wp2_with (with_reducible refine qac ?_)
                    
                    
                    refine qad.mk ?_
                    (with_reducible refine HK.out.mono ?_); rintro e w8 ⟨v8, rfl, hC, hM2⟩
                    obtain ⟨r8, hr8⟩ : ∃ z : Int, z = ((V + o6.length : Nat) : Int) := ⟨_, rfl⟩
                    obtain ⟨o8, ho8⟩ : ∃ o, o = o6 ++ [(⟨4, ((na : Int) - K + 1), (args.map (iA (fun i => N.getD i 0)))⟩ : Nd)] := ⟨_, rfl⟩
                    rw [← hr8]
                    rw [← ho8] at hM2
                    have M8 := qHd hM2; have CB8 := qHd hC
                    have E8 := qHd (And.intro hr8 ho8)
                    have LX := qHd (show o8.length ≤ out.length + 2 by have := LX.out; rw [ho8, List.length_append]; simp <;> omega)
                    clear hr8 ho8 hC hM2 HK
                    have CC := qHd (CC6.out.trans ((Chg.of_below (Y := [gb]) (v := v6) BZ7.out).trans CB8.out))
                    have G1P := qHd (show Grw V out o6 r6 (fun e0 => nv (qaj e0 (ns.take j)) ⟨4, K, args⟩) from by
                      have h := PH.out.yes (x := ⟨4, K, args⟩) (by rw [HLJ.out]; exact HE.out)
                      rw [E6.out.1, E6.out.2]; exact h)
                    have OPZ := qHd (M3.out.keepO CC.out (fun g e => ⟨by simp [e], fun h => GNE.out g (OBP.out g e).1 h.symm⟩) OP3.out); have ONZ := qHd (M3.out.keepO CC.out (fun g e => ⟨by simp [e], fun h => GNE.out g (OBN.out g e).1 h.symm⟩) ON3.out)
                    have IPZ := qHd (show qbi w8 (Value.slice aop (V + j) cp) P from qbl (l := P) (by rw [LL.out.1]; exact OPZ.out.1) IPN.out.1); have INZ := qHd (show qbi w8 (Value.slice aon (V + j) cn) N from qbl (l := N) (by rw [LL.out.2.1]; exact ONZ.out.1) IPN.out.2)
                    have HLZ := qHd (M3.out.lowS CC.out HS1.out.1 HBW3.out)
                    have HBZ := qHd (M3.out.low CC.out HB3.out); have SXZ := qHd (Nat.le_trans SX3.out (CC.out).exc.size)
                    have MZ := qHd (M8.out.sub (Y := ((Value.slice aop (V + j) cp).ownBlock.toList ++ ((Value.slice aon (V + j) cn).ownBlock.toList ++ [gb]))) (by simp) (fun g hg => List.mem_cons_of_mem _ hg))
                    have G2P := qHd (show Grw V o6 o8 r8 (fun e0 => !nv (qaj e0 (ns.take j)) ⟨4, K, args⟩) from by have h := (PH.out.grw G1P.out).no (x := ⟨4, K, args⟩) (by rw [HLJ.out]; exact HE.out) (by simp); rw [E8.out.1, E8.out.2, HNA.out]; exact h)
                    have PN := qHd (PH.out.next (x := ⟨4, K, args⟩) (qbp HNO.out j) (by rw [HLJ.out]; exact HE.out) (G1P.out) G2P.out)
                    clear IPZ INZ HLZ
                    obtain ⟨wqP, hwaP⟩ : ∃ z0, z0 = w8.alloc (.cells #[.int .i64 r6] 3) := ⟨_, rfl⟩
                    have hbaP : Below w8.heap.size w8 wqP := by rw [hwaP]; exact qBA _ _
                    obtain ⟨gaP, hgaP⟩ : ∃ g, g = w8.heap.size := ⟨_, rfl⟩
                    have hxaP : wqP.heap[gaP]? = some (.cells #[.int .i64 r6] 3) := by rw [hwaP, hgaP]; exact heap_alloc_new _ _
                    have hsaP : wqP.heap.size = w8.heap.size + 1 := by rw [hwaP]; simp
                    have OQ := qHd (OPZ.out.below hbaP); have GQ := qHd hxaP; have MQ := qHd (MZ.out.below hbaP); have HBQ := qHd (qcg HBZ.out HS1.out.2.1 hbaP)
                    have ONZq := qHd (ONZ.out.below hbaP)
                    have hszq : w2.heap.size ≤ wqP.heap.size := Nat.le_trans SXZ.out hbaP.size
                    clear hbaP hxaP hsaP
                    go_wp2_with (with_reducible refine qam ?_)
                    rw [← hwaP, ← hgaP]
                    clear hwaP hgaP
                    refine qar (w2.heap.size) Tryz.intTyK rfl (qal [0]) (by decide) (Value.slice aop (V + j) cp) (V + j) _ [.int .i64 r6] gaP 3 rfl rfl OQ.out GQ.out rfl rfl (qal [r6]) (qal _) (by omega) (by decide) hszq ?_
                    intro vP wp hoP hgP hfrP
                    have EQ : Exc wqP wp (Value.slice aop (V + j) cp).ownBlock.toList := Exc.of_grown hgP (fun g hg => by rw [hg]; simp)
                    have OP := qHd (show qbx wp (w2.heap.size) 3 1 vP (V + j + 1) (qbm (P ++ [r6])) by rw [qbf]; exact hoP)
                    have ONZ := qHd (EQ.own ONZq.out (fun g e q => DS.out g e (by simpa using q)))
                    have OBQ := fun g (hg : (Value.slice aop (V + j) cp).ownBlock = some g) => World.ownsRow.lt OQ.out.1 g hg
                    have MP := qHd (MQ.out.step (Y := vP.ownBlock.toList ++ ((Value.slice aon (V + j) cn).ownBlock.toList ++ [gb])) EQ (fun g hg => .inl (List.mem_append.2 (.inl hg))) (fun hg => GNE.out gb (OBQ gb (by simpa using hg)).1 rfl) (fun g hg => by
                      rcases List.mem_append.1 hg with qq | qq
                      · have q' : vP.ownBlock = some g := by simpa using qq
                        rcases Nat.lt_or_ge g wqP.heap.size with r | r
                        · by_cases e : (Value.slice aop (V + j) cp).ownBlock = some g
                          · exact .inl (List.mem_append.2 (.inl (by rw [e]; simp)))
                          · exact absurd q' (hfrP g r e)
                        · exact .inr ⟨r, (World.ownsRow.lt OP.out.1 g q').2⟩
                      · exact .inl (List.mem_append.2 (.inr qq))) (by simp))
                    have SZP := qHd (Nat.le_trans hszq EQ.size)
                    have HBP := qHd (EQ.low HBQ.out (Nat.le_trans HS1.out.2.1 HBQ.out.size) (fun g hg => GBL.out g (OBQ g (by simpa using hg)).1))
                    have FRP := qHd (fun g (h1 : g < wqP.heap.size) (h2 : (Value.slice aop (V + j) cp).ownBlock ≠ some g) => hfrP g h1 h2)
                    clear hoP hgP hfrP EQ OBQ hszq
                    have DSP := qHd (show ∀ g, (Value.slice aon (V + j) cn).ownBlock = some g → vP.ownBlock ≠ some g from fun g e => FRP.out g (World.ownsRow.lt ONZq.out.1 g e).2 (DS.out g e))
                    obtain ⟨aop2, cp2, evP, _, _, _⟩ := qaz OP.out.1
                    have MN := qHd (MP.out.sub (Y := (Value.slice aon (V + j) cn).ownBlock.toList ++ (vP.ownBlock.toList ++ [gb])) (by simp) (fun g hg => by
                      simp only [List.mem_append] at hg ⊢
                      rcases hg with h | h | h
                      · exact .inr (.inl h)
                      · exact .inl h
                      · exact .inr (.inr h)))
                    obtain ⟨wqN, hwaN⟩ : ∃ z0, z0 = wp.alloc (.cells #[.int .i64 r8] 3) := ⟨_, rfl⟩
                    have hbaN : Below wp.heap.size wp wqN := by rw [hwaN]; exact qBA _ _
                    obtain ⟨gaN, hgaN⟩ : ∃ g, g = wp.heap.size := ⟨_, rfl⟩
                    have hxaN : wqN.heap[gaN]? = some (.cells #[.int .i64 r8] 3) := by rw [hwaN, hgaN]; exact heap_alloc_new _ _
                    have hsaN : wqN.heap.size = wp.heap.size + 1 := by rw [hwaN]; simp
                    have OQ := qHd (ONZ.out.below hbaN); have GQ := qHd hxaN; have MQ := qHd (MN.out.below hbaN); have HBQ := qHd (qcg HBP.out HS1.out.2.1 hbaN)
                    have OPq := qHd (OP.out.below hbaN)
                    have hszq : w2.heap.size ≤ wqN.heap.size := Nat.le_trans SZP.out hbaN.size
                    clear hbaN hxaN hsaN
                    go_wp2_with (with_reducible refine qam ?_)
                    rw [← hwaN, ← hgaN]
                    clear hwaN hgaN
                    refine qar (w2.heap.size) Tryz.intTyK rfl (qal [0]) (by decide) (Value.slice aon (V + j) cn) (V + j) _ [.int .i64 r8] gaN 3 rfl rfl OQ.out GQ.out rfl rfl (qal [r8]) (qal _) (by omega) (by decide) hszq ?_
                    intro vN w9 hoN hgN hfrN
                    have EQ : Exc wqN w9 (Value.slice aon (V + j) cn).ownBlock.toList := Exc.of_grown hgN (fun g hg => by rw [hg]; simp)
                    have ON := qHd (show qbx w9 (w2.heap.size) 3 1 vN (V + j + 1) (qbm (N ++ [r8])) by rw [qbf]; exact hoN)
                    have OP := qHd (EQ.own OPq.out (fun g e q => DSP.out g (by simpa using q) e))
                    have OBQ := fun g (hg : (Value.slice aon (V + j) cn).ownBlock = some g) => World.ownsRow.lt OQ.out.1 g hg
                    have MN := qHd (MQ.out.step (Y := vN.ownBlock.toList ++ (vP.ownBlock.toList ++ [gb])) EQ (fun g hg => .inl (List.mem_append.2 (.inl hg))) (fun hg => GNE.out gb (OBQ gb (by simpa using hg)).1 rfl) (fun g hg => by
                      rcases List.mem_append.1 hg with qq | qq
                      · have q' : vN.ownBlock = some g := by simpa using qq
                        rcases Nat.lt_or_ge g wqN.heap.size with r | r
                        · by_cases e : (Value.slice aon (V + j) cn).ownBlock = some g
                          · exact .inl (List.mem_append.2 (.inl (by rw [e]; simp)))
                          · exact absurd q' (hfrN g r e)
                        · exact .inr ⟨r, (World.ownsRow.lt ON.out.1 g q').2⟩
                      · exact .inl (List.mem_append.2 (.inr qq))) (by simp))
                    have SZN := qHd (Nat.le_trans hszq EQ.size)
                    have HBN := qHd (EQ.low HBQ.out (Nat.le_trans HS1.out.2.1 HBQ.out.size) (fun g hg => GBL.out g (OBQ g (by simpa using hg)).1))
                    have FRN := qHd (fun g (h1 : g < wqN.heap.size) (h2 : (Value.slice aon (V + j) cn).ownBlock ≠ some g) => hfrN g h1 h2)
                    clear hoN hgN hfrN EQ OBQ hszq
                    have DSN := qHd (show ∀ g, vN.ownBlock = some g → vP.ownBlock ≠ some g from fun g e q => FRN.out g (World.ownsRow.lt OPq.out.1 g q).2 (fun h => DSP.out g h q) e)
                    have MM := qHd (MN.out.sub (Y := vP.ownBlock.toList ++ (vN.ownBlock.toList ++ [gb])) (by simp) (fun g hg => by
                      simp only [List.mem_append] at hg ⊢
                      rcases hg with h | h | h
                      · exact .inr (.inl h)
                      · exact .inl h
                      · exact .inr (.inr h)))
                    have PH9 := qHd (show Psh V (ns.take (j + 1)) o8 (P ++ [r6]) (N ++ [r8]) by rw [qbs HXJ.out]; exact PN.out)
                    subst evP
                    go_wp2_with fail
                    go_roundw
                    case rel => exact ⟨j + 1, v8, o8, P ++ [r6], N ++ [r8], by omega, by go_num, HBN, MM, OP, ON, SZN, qHd ⟨by rw [List.length_append, LL.out.1]; rfl, by rw [List.length_append, LL.out.2.1]; rfl, by have := LX.out; have := LL.out.2.2; omega⟩, DSN, PH9⟩
                    case measure => simp [intOf] <;> omega
              · skip
                have hlx : ∃ a0 rest, args = a0 :: rest := by
                  have h := (args_16 HE.out).2 (by simp)
                  cases args with
                  | nil => simp at h
                  | cons a l => exact ⟨a, l, rfl⟩
                obtain ⟨a0, rest, hlx⟩ := hlx
                have HLX := qHd hlx
                have hrl : rest.length ≤ 15 := by have : args.length = rest.length + 1 := by rw [hlx]; rfl
                                                  have := HNA.out; omega
                have HK := qHd (bxor_any B0 gb V (gn :: ((Value.slice aop (V + j) cp).ownBlock.toList ++ ((Value.slice aon (V + j) cn).ownBlock.toList ++ [gb]))) v1 (.slice ao' na c') (Value.slice aop (V + j) cp) (Value.slice aon (V + j) cn) out (ns.take j) P N a0 rest W3 w M3.out hV (by have := LL.out.2.2; omega) (by omega) (by rw [List.length_take]; omega) (by rw [← HLX.out]; exact HIL.out) HS1.out.1 HBW3.out IP3.out IN3.out (fun g e => ⟨by simp [e], fun h => GNE.out g (OBP.out g e).1 h.symm⟩) (fun g e => ⟨by simp [e], fun h => GNE.out g (OBN.out g e).1 h.symm⟩) PH.out (fun y hy => by rw [HLJ.out]; exact hAG.out y (by rw [HLX.out]; exact hy)))
                clear hlx
                go_wp2_with (with_reducible refine qac ?_)
                clear x0 x1 x2
                refine qad.mk ?_
                (with_reducible refine HK.out.mono ?_); rintro e w8 ⟨v8, o8, r6, r8, rfl, hC, hM2, hln, hg1, hg2⟩
                have M8 := qHd hM2; have CC := qHd hC; have LX := qHd (show o8.length ≤ out.length + 100 by omega)
                have NV := qHd (fun (e0 : List Nat) => show nv (qaj e0 (ns.take j)) ⟨5, K, args⟩ = xorL (tA (qaj e0 (ns.take j))) (tA (qaj e0 (ns.take j)) a0) rest from by
                  show nT ⟨5, K, args⟩ (qcb (qaj e0 (ns.take j)) args 1) = _
                  rw [HLX.out, nT_xor rfl])
                have G1P := qHd (hg1.congr (g := fun e0 => nv (qaj e0 (ns.take j)) ⟨5, K, args⟩) (fun e0 _ _ => (NV.out e0).symm)); have G2P := qHd (hg2.congr (g := fun e0 => !nv (qaj e0 (ns.take j)) ⟨5, K, args⟩) (fun e0 _ _ => by rw [NV.out e0]))
                clear hC hM2 hln hg1 hg2 HK
                have OPZ := qHd (M3.out.keepO CC.out (fun g e => ⟨by simp [e], fun h => GNE.out g (OBP.out g e).1 h.symm⟩) OP3.out); have ONZ := qHd (M3.out.keepO CC.out (fun g e => ⟨by simp [e], fun h => GNE.out g (OBN.out g e).1 h.symm⟩) ON3.out)
                have IPZ := qHd (show qbi w8 (Value.slice aop (V + j) cp) P from qbl (l := P) (by rw [LL.out.1]; exact OPZ.out.1) IPN.out.1); have INZ := qHd (show qbi w8 (Value.slice aon (V + j) cn) N from qbl (l := N) (by rw [LL.out.2.1]; exact ONZ.out.1) IPN.out.2)
                have HLZ := qHd (M3.out.lowS CC.out HS1.out.1 HBW3.out)
                have HBZ := qHd (M3.out.low CC.out HB3.out); have SXZ := qHd (Nat.le_trans SX3.out (CC.out).exc.size)
                have MZ := qHd (M8.out.sub (Y := ((Value.slice aop (V + j) cp).ownBlock.toList ++ ((Value.slice aon (V + j) cn).ownBlock.toList ++ [gb]))) (by simp) (fun g hg => List.mem_cons_of_mem _ hg))
                have G2P := qHd (show Grw V o8 o8 r8 (fun e0 => !nv (qaj e0 (ns.take j)) ⟨5, K, args⟩) from ⟨⟨[], by simp⟩, G2P.out.ok, G2P.out.arg, G2P.out.v⟩)
                have PN := qHd (PH.out.next (x := ⟨5, K, args⟩) (qbp HNO.out j) (by rw [HLJ.out]; exact HE.out) (G1P.out) G2P.out)
                clear IPZ INZ HLZ
                obtain ⟨wqP, hwaP⟩ : ∃ z0, z0 = w8.alloc (.cells #[.int .i64 r6] 3) := ⟨_, rfl⟩
                have hbaP : Below w8.heap.size w8 wqP := by rw [hwaP]; exact qBA _ _
                obtain ⟨gaP, hgaP⟩ : ∃ g, g = w8.heap.size := ⟨_, rfl⟩
                have hxaP : wqP.heap[gaP]? = some (.cells #[.int .i64 r6] 3) := by rw [hwaP, hgaP]; exact heap_alloc_new _ _
                have hsaP : wqP.heap.size = w8.heap.size + 1 := by rw [hwaP]; simp
                have OQ := qHd (OPZ.out.below hbaP); have GQ := qHd hxaP; have MQ := qHd (MZ.out.below hbaP); have HBQ := qHd (qcg HBZ.out HS1.out.2.1 hbaP)
                have ONZq := qHd (ONZ.out.below hbaP)
                have hszq : w2.heap.size ≤ wqP.heap.size := Nat.le_trans SXZ.out hbaP.size
                clear hbaP hxaP hsaP
                go_wp2_with (with_reducible refine qam ?_)
                rw [← hwaP, ← hgaP]
                clear hwaP hgaP
                refine qar (w2.heap.size) Tryz.intTyK rfl (qal [0]) (by decide) (Value.slice aop (V + j) cp) (V + j) _ [.int .i64 r6] gaP 3 rfl rfl OQ.out GQ.out rfl rfl (qal [r6]) (qal _) (by omega) (by decide) hszq ?_
                intro vP wp hoP hgP hfrP
                have EQ : Exc wqP wp (Value.slice aop (V + j) cp).ownBlock.toList := Exc.of_grown hgP (fun g hg => by rw [hg]; simp)
                have OP := qHd (show qbx wp (w2.heap.size) 3 1 vP (V + j + 1) (qbm (P ++ [r6])) by rw [qbf]; exact hoP)
                have ONZ := qHd (EQ.own ONZq.out (fun g e q => DS.out g e (by simpa using q)))
                have OBQ := fun g (hg : (Value.slice aop (V + j) cp).ownBlock = some g) => World.ownsRow.lt OQ.out.1 g hg
                have MP := qHd (MQ.out.step (Y := vP.ownBlock.toList ++ ((Value.slice aon (V + j) cn).ownBlock.toList ++ [gb])) EQ (fun g hg => .inl (List.mem_append.2 (.inl hg))) (fun hg => GNE.out gb (OBQ gb (by simpa using hg)).1 rfl) (fun g hg => by
                  rcases List.mem_append.1 hg with qq | qq
                  · have q' : vP.ownBlock = some g := by simpa using qq
                    rcases Nat.lt_or_ge g wqP.heap.size with r | r
                    · by_cases e : (Value.slice aop (V + j) cp).ownBlock = some g
                      · exact .inl (List.mem_append.2 (.inl (by rw [e]; simp)))
                      · exact absurd q' (hfrP g r e)
                    · exact .inr ⟨r, (World.ownsRow.lt OP.out.1 g q').2⟩
                  · exact .inl (List.mem_append.2 (.inr qq))) (by simp))
                have SZP := qHd (Nat.le_trans hszq EQ.size)
                have HBP := qHd (EQ.low HBQ.out (Nat.le_trans HS1.out.2.1 HBQ.out.size) (fun g hg => GBL.out g (OBQ g (by simpa using hg)).1))
                have FRP := qHd (fun g (h1 : g < wqP.heap.size) (h2 : (Value.slice aop (V + j) cp).ownBlock ≠ some g) => hfrP g h1 h2)
                clear hoP hgP hfrP EQ OBQ hszq
                have DSP := qHd (show ∀ g, (Value.slice aon (V + j) cn).ownBlock = some g → vP.ownBlock ≠ some g from fun g e => FRP.out g (World.ownsRow.lt ONZq.out.1 g e).2 (DS.out g e))
                obtain ⟨aop2, cp2, evP, _, _, _⟩ := qaz OP.out.1
                have MN := qHd (MP.out.sub (Y := (Value.slice aon (V + j) cn).ownBlock.toList ++ (vP.ownBlock.toList ++ [gb])) (by simp) (fun g hg => by
                  simp only [List.mem_append] at hg ⊢
                  rcases hg with h | h | h
                  · exact .inr (.inl h)
                  · exact .inl h
                  · exact .inr (.inr h)))
                obtain ⟨wqN, hwaN⟩ : ∃ z0, z0 = wp.alloc (.cells #[.int .i64 r8] 3) := ⟨_, rfl⟩
                have hbaN : Below wp.heap.size wp wqN := by rw [hwaN]; exact qBA _ _
                obtain ⟨gaN, hgaN⟩ : ∃ g, g = wp.heap.size := ⟨_, rfl⟩
                have hxaN : wqN.heap[gaN]? = some (.cells #[.int .i64 r8] 3) := by rw [hwaN, hgaN]; exact heap_alloc_new _ _
                have hsaN : wqN.heap.size = wp.heap.size + 1 := by rw [hwaN]; simp
                have OQ := qHd (ONZ.out.below hbaN); have GQ := qHd hxaN; have MQ := qHd (MN.out.below hbaN); have HBQ := qHd (qcg HBP.out HS1.out.2.1 hbaN)
                have OPq := qHd (OP.out.below hbaN)
                have hszq : w2.heap.size ≤ wqN.heap.size := Nat.le_trans SZP.out hbaN.size
                clear hbaN hxaN hsaN
                go_wp2_with (with_reducible refine qam ?_)
                rw [← hwaN, ← hgaN]
                clear hwaN hgaN
                refine qar (w2.heap.size) Tryz.intTyK rfl (qal [0]) (by decide) (Value.slice aon (V + j) cn) (V + j) _ [.int .i64 r8] gaN 3 rfl rfl OQ.out GQ.out rfl rfl (qal [r8]) (qal _) (by omega) (by decide) hszq ?_
                intro vN w9 hoN hgN hfrN
                have EQ : Exc wqN w9 (Value.slice aon (V + j) cn).ownBlock.toList := Exc.of_grown hgN (fun g hg => by rw [hg]; simp)
                have ON := qHd (show qbx w9 (w2.heap.size) 3 1 vN (V + j + 1) (qbm (N ++ [r8])) by rw [qbf]; exact hoN)
                have OP := qHd (EQ.own OPq.out (fun g e q => DSP.out g (by simpa using q) e))
                have OBQ := fun g (hg : (Value.slice aon (V + j) cn).ownBlock = some g) => World.ownsRow.lt OQ.out.1 g hg
                have MN := qHd (MQ.out.step (Y := vN.ownBlock.toList ++ (vP.ownBlock.toList ++ [gb])) EQ (fun g hg => .inl (List.mem_append.2 (.inl hg))) (fun hg => GNE.out gb (OBQ gb (by simpa using hg)).1 rfl) (fun g hg => by
                  rcases List.mem_append.1 hg with qq | qq
                  · have q' : vN.ownBlock = some g := by simpa using qq
                    rcases Nat.lt_or_ge g wqN.heap.size with r | r
                    · by_cases e : (Value.slice aon (V + j) cn).ownBlock = some g
                      · exact .inl (List.mem_append.2 (.inl (by rw [e]; simp)))
                      · exact absurd q' (hfrN g r e)
                    · exact .inr ⟨r, (World.ownsRow.lt ON.out.1 g q').2⟩
                  · exact .inl (List.mem_append.2 (.inr qq))) (by simp))
                have SZN := qHd (Nat.le_trans hszq EQ.size)
                have HBN := qHd (EQ.low HBQ.out (Nat.le_trans HS1.out.2.1 HBQ.out.size) (fun g hg => GBL.out g (OBQ g (by simpa using hg)).1))
                have FRN := qHd (fun g (h1 : g < wqN.heap.size) (h2 : (Value.slice aon (V + j) cn).ownBlock ≠ some g) => hfrN g h1 h2)
                clear hoN hgN hfrN EQ OBQ hszq
                have DSN := qHd (show ∀ g, vN.ownBlock = some g → vP.ownBlock ≠ some g from fun g e q => FRN.out g (World.ownsRow.lt OPq.out.1 g q).2 (fun h => DSP.out g h q) e)
                have MM := qHd (MN.out.sub (Y := vP.ownBlock.toList ++ (vN.ownBlock.toList ++ [gb])) (by simp) (fun g hg => by
                  simp only [List.mem_append] at hg ⊢
                  rcases hg with h | h | h
                  · exact .inr (.inl h)
                  · exact .inl h
                  · exact .inr (.inr h)))
                have PH9 := qHd (show Psh V (ns.take (j + 1)) o8 (P ++ [r6]) (N ++ [r8]) by rw [qbs HXJ.out]; exact PN.out)
                subst evP
                go_wp2_with fail
                go_roundw
                case rel => exact ⟨j + 1, v8, o8, P ++ [r6], N ++ [r8], by omega, by go_num, HBN, MM, OP, ON, SZN, qHd ⟨by rw [List.length_append, LL.out.1]; rfl, by rw [List.length_append, LL.out.2.1]; rfl, by have := LX.out; have := LL.out.2.2; omega⟩, DSN, PH9⟩
                case measure => simp [intOf] <;> omega
            · have hj' : j = ns.length := by omega
              subst hj'
              obtain ⟨T, hTT⟩ : ∃ T : Nat, top = T := ⟨top.toNat, by have := HT.out.1; omega⟩
              subst hTT
              have hT : T < V + ns.length := by have := HT.out.2; omega
              have hTz : (T : Int) < (V : Int) + (ns.length : Int) := by omega
              obtain ⟨gt, rfl, _, _, u1, _, hcell⟩ := qbt OPX.out.1 rfl (by omega)
              clear u1
              obtain ⟨rr, hrr⟩ : ∃ z, z = P.getD T 0 := ⟨_, rfl⟩
              have cT := hcell T _ (ivals_at (x := rr) (getD_some (by rw [LL.out.1]; exact hT) hrr))
              clear hcell
              have DL := PH.out
              rw [List.take_length] at DL
              have hA := DL.one HT.out
              rw [Int.toNat_natCast, ← hrr] at hA
              have HA := qHd hA
              have HOK := qHd DL.ok
              clear hA hrr DL
              obtain ⟨x0, x1, x2⟩ := qaq (qbo HBX.out G1.out L12.out.1)
              have HK := qHd (trimmed_any B0 gb V _ v1 out rr wo MX.out hV (by have := LL.out.2.2; omega) HOK.out HA.out.1)
              go_wp2_with (with_reducible refine qac ?_)
              clear x0 x1 x2 cT
              refine qad.mk ?_
              (with_reducible refine HK.out.mono ?_); rintro e w8 ⟨vg, g, ec, rfl, hb8, hg8, hc8⟩
              have hs8 : B0 ≤ wo.heap.size := Nat.le_trans HS1.out.2.1 HBX.out.size
              have HB8 := qHd (HBX.out.trans (hb8.mono hs8)); have HC8 := qHd hc8
              have hg8 := hg8.base hs8
              obtain ⟨og, ng, cg, Xg, rfl, hn8, hv8, ht8⟩ := hg8
              have F8 := qHd (show FmL w8 B0 _ g from ⟨og, ng, cg, Xg, rfl, hn8, hv8, ht8⟩)
              have G28 := qHd (qbo HB8.out G2.out L12.out.2)
              clear hb8 hc8 hn8 hv8 ht8 HK hs8
              go_wp2_with (with_reducible refine qaf 24 ?_)
              refine qbj g2 0 [.int .i64 g.vars, .slice og ng cg, .int .i64 g.top] G28.out rfl rfl (Nat.le_of_ble_eq_true rfl) (by kernel_rfl) rfl ?_
              intro w9 hp9
              have G9 := qHd (show w9.heap[g2]? = some (.cells #[.int .i64 g.vars, .slice og ng cg, .int .i64 g.top] 24) by rw [hp9]; exact qco G28.out)
              have F9 := qHd ((F8.out.put hp9 L12.out.2).base HS1.out.1)
              have HB9 := qHd (qdl hp9 (HB1.out.trans (HB8.out.mono HS1.out.1)) l2)
              clear hp9
              go_wp2_with fail
              refine ret_fm rfl g2 #[.int .i64 g.vars, .slice og ng cg, .int .i64 g.top] rfl G9.out Tryz.underlying24 rfl (by kernel_rfl) rfl ?_
              refine ⟨_, g, ec, rfl, HB9.out, F9.out, ?_⟩
              rcases HC8.out with h4 | ⟨h0, h1, h2, h3⟩
              · exact .inl h4
              · refine .inr ⟨h0, ⟨h1, h2, fun e0 he ht => ?_⟩, trivial⟩
                rw [h3 e0 he ht]
                exact (HA.out.2.2 e0 he ht).1
end Go.Proofs.YteadcgmaailjlaaGreatDoor
