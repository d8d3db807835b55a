/-
  What the law leans on, one text behind the other (the rest).
  Conditions: each theorem's own.
-/
import Derived.Test.YthhgfhdmfhnklaaGreatDoorMVd1
set_option maxRecDepth 100000
set_option maxHeartbeats 16000000
namespace Go.Proofs.YthhgfhdmfhnklaaGreatDoor
open Go.RowKit Go.ChangeShapes Go.WideShapes
theorem Tryz.boolTy : qee Tryz.prog 157 4 (.bool false) 1 1 := .mk' Tryz.underlying157 (by kernel_rfl)
theorem qfj (w : World) (o : Obj) : w.heap.size ≤ (w.alloc o).heap.size := ((Below.refl w.heap.size w).alloc (Nat.le_refl _) o).size
def RetBools (w : World) (l : List Nat) (e : Ending) (w' : World) : Prop := ∃ v B, e = .returned v ∧ Below w.heap.size w w' ∧ w'.ownsRow B 4 1 v l.length (bvals l)
theorem fvalues_any (vf : Value) (f : Fm) (s : Nat) (w : World) (hf : FmV w vf f) (h0 : qcc f = 0) (hs : s < 2 ^ f.vars.toNat) (hs' : s < 16777216) :
  Calls Tryz.prog 103 #[vf, .int .i64 (s : Nat)] w (RetBools w (qdt f s (qdd f.vars.toNat s))) := by
 obtain ⟨p0, p1, p2, p3⟩ := qbe h0
 obtain ⟨nv, rfl, hn, hv, ht⟩ := hf
 obtain ⟨ao, c, rfl, hc, hc2, _⟩ := hn.shape
 obtain ⟨v, ns, top⟩ := f
 simp only at hv hc ht hn p0 p1 p2 p3 hs ⊢
 obtain ⟨V, rfl⟩ : ∃ V : Nat, v = V := ⟨v.toNat, by omega⟩
 rw [Int.toNat_natCast] at hs
 have HN := qHd hn; have HP := qHd p3; have HS := qHd hs
 have HVF := qHd (show qdt ⟨V, ns, top⟩ s (qdd (V : Int).toNat s) = qck (qcn V s (qdd V s)) ns from rfl)
 clear hn p3 h0 ht hv hs
 have p2' : (ns.length : Int) ≤ 128 := by omega
 obtain ⟨W, hW, hbW, g1, hG1, hg1⟩ := qBx5 w (.cells #[.int .i64 V, .slice ao ns.length c, .int .i64 top] 24)
 have HBW := qHd hbW; have G1 := qHd hg1
 obtain ⟨x0, x1, x2⟩ := qay hg1
 rw [hW, hG1] at x0 x1 x2
 clear hbW hg1
 go_enter Tryz.func103, Tryz.ntmps103
 go_wp2_with (with_reducible refine wpList_pauseM ?_)
 rw [← hW, ← hG1]
 clear hW hG1 x0 x1 x2
 refine wpList_makeNM W.heap.size Tryz.boolTy rfl V (V + ns.length) rfl rfl (by omega) (by omega) (by omega) (by omega) (by decide) (Nat.le_refl _) ?_
 intro w1 ho1 hgr1
 have hb1 : Below W.heap.size W w1 := (Below.refl _ _).grown hgr1 (Nat.le_refl _) (fun k hk => by cases hk)
 obtain ⟨g5, hG5⟩ : ∃ g, g = W.heap.size := ⟨_, rfl⟩
 rw [← hG5] at ho1 ⊢
 have l5 : W.heap.size ≤ g5 := by omega
 clear hgr1
 have HO1 := qHd (show w1.ownsRow W.heap.size 4 1 (.slice (some ⟨g5, 0, none⟩) V (V + ns.length)) V (bvals ((qcn V s (qdd V s)).take 0) ++ List.replicate (V - 0) (.bool false)) by rw [List.take_zero, Nat.sub_zero]; exact hG5 ▸ ho1)
 have HB1 := qHd hb1; clear hb1 ho1 hG5
 go_wp2_with (with_reducible first | refine qai ?_ | refine qag ?_)
 refine qap.mk ?_
 go_loopw [24] (fun i' wx => ∃ q : Nat, q ≤ V ∧ i' = .int .i64 q ∧ Hid (Below W.heap.size W wx) ∧ Hid (wx.ownsRow W.heap.size 4 1 (.slice (some ⟨g5, 0, none⟩) V (V + ns.length)) V (bvals ((qcn V s (qdd V s)).take q) ++ List.replicate (V - q) (.bool false)))) (fun i' _ => V - (intOf i').toNat)
 case atStart => exact ⟨0, Nat.zero_le _, rfl, HB1, HO1⟩
 case round =>
  obtain ⟨q, hq, rfl, HBX, O⟩ := hrel
  by_cases hlt : q < V
  ·have hltz : (q : Int) < (V : Int) := by omega
   obtain ⟨ys, y1, yt, hY⟩ := qgb (x := s) (i := q) (by omega)
   obtain ⟨q1, q2, q3, q4⟩ := hY
   go_wp2_with (with_reducible refine qaf ?_)
   refine wpList_stO q O.out hlt rfl rfl (by kernel_rfl) ?_
   intro w5 ho5 hg5
   have HB5 := qHd (own_low O.out hg5 HBX.out HBX.out.size)
   have HO5 := qHd (show w5.ownsRow W.heap.size 4 1 (.slice (some ⟨g5, 0, none⟩) V (V + ns.length)) V (bvals ((qcn V s (qdd V s)).take (q + 1)) ++ List.replicate (V - (q + 1)) (.bool false)) by
    rw [valsE_take V s _ q hlt, bvals_app]
    have e1 : bvals [ev3 s (qdd V s) q] = [Value.bool yt] := by rw [ev3_state HS.out hlt, q4]; cases yt <;> rfl
    rw [e1, ← set_next, show V - (q + 1) + 1 = V - q by omega]
    have e2 : (bvals ((qcn V s (qdd V s)).take q)).length = q := by rw [bvals_length, List.length_take, qbf]; omega
    rw [e2]; exact ho5)
   clear ho5 hg5 q1 q2 q3 q4
   go_wp2_with fail
   go_roundw
   case rel => exact ⟨q + 1, by omega, by go_num, HB5, HO5⟩
   case measure => simp [intOf]; omega
  ·have hq' : q = V := by omega
   subst hq'
   have O := O.out
   rw [List.take_of_length_le (by rw [qbf]; exact Nat.le_refl _), Nat.sub_self, List.replicate_zero, List.append_nil] at O
   have HO := qHd O; clear O
   obtain ⟨x0, x1, x2⟩ := qay (qaa G1.out HBX.out)
   go_wp2_with (with_reducible first | refine qai ?_ | refine qag ?_)
   clear x0 x1 x2
   refine qap.mk ?_
   go_loopw [39, 5] (fun i' vv wx => ∃ j : Nat, j ≤ ns.length ∧ i' = .int .i64 j ∧ Below W.heap.size W wx ∧ Hid (wx.ownsRow W.heap.size 4 1 vv (q + j) (bvals (qck (qcn q s (qdd q s)) (ns.take j))))) (fun i' _ _ => ns.length - (intOf i').toNat)
   case atStart => exact ⟨0, Nat.zero_le _, rfl, HBX.out, HO⟩
   case round =>
    obtain ⟨j, hj, rfl, hby, O⟩ := hrel
    obtain ⟨wo, rfl⟩ : ∃ wo : World, wo = wr := ⟨_, rfl⟩
    have hbw := HBW.out.trans (hby.mono HBW.out.size)
    by_cases hlt : j < ns.length
    ·obtain ⟨x, hx⟩ : ∃ x, ns[j]? = some x := ⟨ns[j], List.getElem?_eq_getElem hlt⟩
     obtain ⟨b, off, rfl, hb, _, hat⟩ := (HN.out.below hbw).at (by omega)
     obtain ⟨c0, c1, ⟨av, c2, hI⟩, hk, hK⟩ := hat j x hx
     clear hat
     have he := ndsErr_at ns 0 HP.out j x hx
     rw [Nat.zero_add] at he
     have hle := fun k => valsN_le (ns.take j) 0 (qcn q s (qdd q s)) (ndsOK_take ns 0 j HP.out) (fun k => by rw [qdl]; split <;> first | exact ev3_le _ _ _ | omega) k
     have hno := fun k => state_known HS.out HP.out k j
     have hlen : (qck (qcn q s (qdd q s)) (ns.take j)).length = q + j := by rw [qcs, qbf, List.length_take]; omega
     have hnext := valsN_take hx (qcn q s (qdd q s))
     obtain ⟨vs, hvs⟩ : ∃ vs, vs = qck (qcn q s (qdd q s)) (ns.take j) := ⟨_, rfl⟩
     rw [← hvs] at O hle hno hlen hnext
     have HNX := qHd hnext; have HLE := qHd hle; have HNO := qHd hno; have HLN := qHd hlen; clear hvs hnext hle hlen hno
     clear hx
     have ha16 := nd_16 he
     have HARG := qHd (ndErr_arg he)
     have HE := qHd he; clear he
     obtain ⟨kind, K, args⟩ := x
     simp only at c0 c1 c2 hI hk hK ha16 HARG
     obtain ⟨ao', c', rfl, hc', hc2', _⟩ := hI.shape
     have HI := qHd hI; clear hI
     have HK := qHd (And.intro hk hK); clear hk hK
     have hltz : (j : Int) < (ns.length : Int) := by omega
     obtain ⟨aov, cv, rfl, hcv, hcv2, _⟩ := qff O.out
     have HBY := qHd hby; clear hby hbw
     go_wp2_with (with_reducible first | refine qai ?_ | refine qag ?_)
     clear c0 c1 c2
     refine qap.mk ?_
     obtain ⟨W3, hW3, hb3, hg8⟩ := qBx3 wo (.cells #[.int .i64 kind, .int .i64 K, .slice ao' args.length c'] 82)
     rw [← hW3]; clear hW3
     obtain ⟨g8, hG8⟩ : ∃ g, g = wo.heap.size := ⟨_, rfl⟩
     rw [← hG8] at hg8 ⊢
     clear hG8
     have HBI := qHd hb3; have G8 := qHd hg8; clear hb3 hg8
     have HBZ := qHd (HBY.out.trans (HBI.out.mono HBY.out.size))
     go_loopw [46, 9] (fun i' v9 wx => ∃ k n1 : Nat, k ≤ args.length ∧ i' = .int .i64 k ∧ v9 = .int .i64 n1 ∧ n1 ≤ k ∧ wx = W3 ∧ Hid (n1 = cntV vs (args.take k) 1)) (fun i' _ _ => args.length - (intOf i').toNat)
     case atStart => exact ⟨0, 0, Nat.zero_le _, rfl, rfl, Nat.le_refl _, rfl, qHd rfl⟩
     case round =>
      obtain ⟨k, n1, hk, rfl, rfl, l1, rfl, CN⟩ := hrel
      obtain ⟨wi, rfl⟩ : ∃ wi : World, wi = wr := ⟨_, rfl⟩
      by_cases hlk : k < args.length
      ·obtain ⟨ba, offa, rfl, hba, _, hata⟩ := (HI.out.below HBI.out).at (by omega)
       obtain ⟨a, hqa⟩ : ∃ a, args[k]? = some a := ⟨args[k], List.getElem?_eq_getElem hlk⟩
       have ca := hata k a hqa
       clear hata
       have hla := HARG.out a (List.mem_of_getElem? hqa)
       obtain ⟨A, rfl⟩ : ∃ A : Nat, a = A := ⟨a.toNat, by omega⟩
       have hAl : A < q + j := by omega
       obtain ⟨gv, rfl, hgv1, hgv2, _, _, hcell⟩ := own_cells (qcg O.out HBI.out) rfl (by omega)
       have cA := hcell A _ (bvals_at (by rw [HLN.out]; exact hAl))
       clear hcell
       have hlk' : (k : Int) < (args.length : Int) := by omega
       have hA' : (A : Int) < (q : Int) + (j : Int) := by omega
       have S := cntV_snoc vs (args.take k) (A : Int) 1
       rw [← qen hqa, Int.toNat_natCast] at S
       obtain ⟨xb, hxb⟩ : ∃ xb, xb = decide (gd vs A = 1) := ⟨_, rfl⟩
       rw [← hxb] at cA
       have SS := qHd (show cntV vs (args.take (k + 1)) 1 = n1 + if xb = true then 1 else 0 by rw [S, ← CN.out, hxb]; simp)
       clear S hqa hxb
       cases xb
       ·go_wp2_with fail
        go_roundw
        case rel => exact ⟨k + 1, n1, by omega, by go_num, rfl, by omega, by first | rfl | trivial, qHd (by rw [SS.out]; rfl)⟩
        case measure => simp [intOf]; omega
       ·go_wp2_with fail
        go_roundw
        case rel => exact ⟨k + 1, n1 + 1, by omega, by go_num, by go_num, by omega, by first | rfl | trivial, qHd (by rw [SS.out]; rfl)⟩
        case measure => simp [intOf]; omega
      ·have hk' : k = args.length := by omega
       subst hk'
       have CN := qHd CN.out
       rw [List.take_length] at CN
       obtain ⟨x0, x1, x2⟩ := qay G8.out
       have h7 : ¬ (kind < 0 ∨ 5 < kind) := fun h => by have h0 := HE.out; unfold qdh at h0; rw [if_pos h] at h0; cases h0
       have hK0 := ndErr_K HE.out
       have hAR := ndErr_args HE.out
       have HKK := HK.out
       unfold I64 at HKK
       simp only at h7 hK0 hAR
       have h2z := cnt_no2 HNO.out args
       have h3s := cnt_three vs HLE.out args
       rw [h2z, ← CN.out] at h3s
       obtain ⟨n0, hn0⟩ : ∃ n0, n0 = cntV vs args 0 := ⟨_, rfl⟩
       rw [← hn0] at h3s
       obtain ⟨nx, hnx⟩ : ∃ nx, nx = ndVal ⟨kind, K, args⟩ n0 n1 0 := ⟨_, rfl⟩
       have HNX2 := qHd (show qck (qcn q s (qdd q s)) (ns.take (j + 1)) = vs ++ [nx] by rw [HNX.out, hnx, CN.out, hn0, h2z])
       have HX2 := qHd hnx
       clear hnx hn0 h2z CN
       obtain ⟨V, rfl⟩ : ∃ V, V = q := ⟨_, rfl⟩
       have hkk : kind = 0 ∨ kind = 1 ∨ kind = 2 ∨ kind = 3 ∨ kind = 4 ∨ kind = 5 := by omega
       rcases hkk with rfl | rfl | rfl | rfl | rfl | rfl
       ·skip
        have hKz := qHd (hK0 rfl); clear hK0 h7 hAR
        go_wp2_with (with_reducible refine qby ?_)
        refine qec W.heap.size Tryz.boolTy rfl (by decide) _ (V + j) _ [.bool _] wi.heap.size 4 rfl rfl (qcg O.out (HBI.out.trans ((Below.refl _ _).alloc (Nat.le_refl _) _ |>.mono HBI.out.size))) (heap_alloc_new _ _) rfl rfl (by omega) (by decide) (Nat.le_trans HBZ.out.size (qfj _ _)) ?_
        intro v' w5 ho5 hg5
        have hb7 := own_low (qcg O.out (HBI.out.trans ((Below.refl _ _).alloc (Nat.le_refl _) _ |>.mono HBI.out.size))) hg5 (HBZ.out.alloc HBZ.out.size _) (Nat.le_trans HBZ.out.size (qfj _ _))
        clear hg5
        have HO5 := qHd (show w5.ownsRow W.heap.size 4 1 v' (V + (j + 1)) (bvals (qck (qcn V s (qdd V s)) (ns.take (j + 1)))) by
         rw [HNX2.out, bvals_app]
         have e : ∀ b : Bool, b = decide (nx = 1) → [Value.bool b] = bvals [nx] := fun b h => by rw [h]; rfl
         rw [← e _ ?hv]
         ·exact ho5
         case hv =>
          rw [HX2.out]
          rcases hKz.out with rfl | rfl <;> rfl)
        have HB7 := qHd hb7; clear ho5 hb7
        go_wp2_with fail
        go_roundw
        case rel => exact ⟨j + 1, by omega, by go_num, HB7.out, HO5⟩
        case measure => simp [intOf]; omega
       ·skip
        have hl1 : args.length = 1 := by have := hAR; simp [qcz] at this; omega
        clear hK0 h7 hAR
        go_wp2_with (with_reducible refine qby ?_)
        refine qec W.heap.size Tryz.boolTy rfl (by decide) _ (V + j) _ [.bool _] wi.heap.size 4 rfl rfl (qcg O.out (HBI.out.trans ((Below.refl _ _).alloc (Nat.le_refl _) _ |>.mono HBI.out.size))) (heap_alloc_new _ _) rfl rfl (by omega) (by decide) (Nat.le_trans HBZ.out.size (qfj _ _)) ?_
        intro v' w5 ho5 hg5
        have hb7 := own_low (qcg O.out (HBI.out.trans ((Below.refl _ _).alloc (Nat.le_refl _) _ |>.mono HBI.out.size))) hg5 (HBZ.out.alloc HBZ.out.size _) (Nat.le_trans HBZ.out.size (qfj _ _))
        clear hg5
        have HO5 := qHd (show w5.ownsRow W.heap.size 4 1 v' (V + (j + 1)) (bvals (qck (qcn V s (qdd V s)) (ns.take (j + 1)))) by
         rw [HNX2.out, bvals_app]
         have e : ∀ b : Bool, b = decide (nx = 1) → [Value.bool b] = bvals [nx] := fun b h => by rw [h]; rfl
         rw [← e _ ?hv]
         ·exact ho5
         case hv =>
          rw [HX2.out]
          refine Eq.trans ?_ (lev_one _ _).symm
          first | rfl | (rw [Bool.eq_iff_iff]; simp; done) | (rw [Bool.eq_iff_iff]; simp; omega))
        have HB7 := qHd hb7; clear ho5 hb7
        go_wp2_with fail
        go_roundw
        case rel => exact ⟨j + 1, by omega, by go_num, HB7.out, HO5⟩
        case measure => simp [intOf]; omega
       ·skip
        clear hK0 h7 hAR
        go_wp2_with (with_reducible refine qby ?_)
        refine qec W.heap.size Tryz.boolTy rfl (by decide) _ (V + j) _ [.bool _] wi.heap.size 4 rfl rfl (qcg O.out (HBI.out.trans ((Below.refl _ _).alloc (Nat.le_refl _) _ |>.mono HBI.out.size))) (heap_alloc_new _ _) rfl rfl (by omega) (by decide) (Nat.le_trans HBZ.out.size (qfj _ _)) ?_
        intro v' w5 ho5 hg5
        have hb7 := own_low (qcg O.out (HBI.out.trans ((Below.refl _ _).alloc (Nat.le_refl _) _ |>.mono HBI.out.size))) hg5 (HBZ.out.alloc HBZ.out.size _) (Nat.le_trans HBZ.out.size (qfj _ _))
        clear hg5
        have HO5 := qHd (show w5.ownsRow W.heap.size 4 1 v' (V + (j + 1)) (bvals (qck (qcn V s (qdd V s)) (ns.take (j + 1)))) by
         rw [HNX2.out, bvals_app]
         have e : ∀ b : Bool, b = decide (nx = 1) → [Value.bool b] = bvals [nx] := fun b h => by rw [h]; rfl
         rw [← e _ ?hv]
         ·exact ho5
         case hv =>
          rw [HX2.out]
          refine Eq.trans ?_ (lev_one _ _).symm
          first | rfl | (rw [Bool.eq_iff_iff]; simp; done) | (rw [Bool.eq_iff_iff]; simp; omega))
        have HB7 := qHd hb7; clear ho5 hb7
        go_wp2_with fail
        go_roundw
        case rel => exact ⟨j + 1, by omega, by go_num, HB7.out, HO5⟩
        case measure => simp [intOf]; omega
       ·skip
        clear hK0 h7 hAR
        go_wp2_with (with_reducible refine qby ?_)
        refine qec W.heap.size Tryz.boolTy rfl (by decide) _ (V + j) _ [.bool _] wi.heap.size 4 rfl rfl (qcg O.out (HBI.out.trans ((Below.refl _ _).alloc (Nat.le_refl _) _ |>.mono HBI.out.size))) (heap_alloc_new _ _) rfl rfl (by omega) (by decide) (Nat.le_trans HBZ.out.size (qfj _ _)) ?_
        intro v' w5 ho5 hg5
        have hb7 := own_low (qcg O.out (HBI.out.trans ((Below.refl _ _).alloc (Nat.le_refl _) _ |>.mono HBI.out.size))) hg5 (HBZ.out.alloc HBZ.out.size _) (Nat.le_trans HBZ.out.size (qfj _ _))
        clear hg5
        have HO5 := qHd (show w5.ownsRow W.heap.size 4 1 v' (V + (j + 1)) (bvals (qck (qcn V s (qdd V s)) (ns.take (j + 1)))) by
         rw [HNX2.out, bvals_app]
         have e : ∀ b : Bool, b = decide (nx = 1) → [Value.bool b] = bvals [nx] := fun b h => by rw [h]; rfl
         rw [← e _ ?hv]
         ·exact ho5
         case hv =>
          rw [HX2.out]
          refine Eq.trans ?_ (lev_one _ _).symm
          first | rfl | (rw [Bool.eq_iff_iff]; simp; done) | (rw [Bool.eq_iff_iff]; simp; omega))
        have HB7 := qHd hb7; clear ho5 hb7
        go_wp2_with fail
        go_roundw
        case rel => exact ⟨j + 1, by omega, by go_num, HB7.out, HO5⟩
        case measure => simp [intOf]; omega
       ·skip
        clear hK0 h7 hAR
        go_wp2_with (with_reducible refine qby ?_)
        refine qec W.heap.size Tryz.boolTy rfl (by decide) _ (V + j) _ [.bool _] wi.heap.size 4 rfl rfl (qcg O.out (HBI.out.trans ((Below.refl _ _).alloc (Nat.le_refl _) _ |>.mono HBI.out.size))) (heap_alloc_new _ _) rfl rfl (by omega) (by decide) (Nat.le_trans HBZ.out.size (qfj _ _)) ?_
        intro v' w5 ho5 hg5
        have hb7 := own_low (qcg O.out (HBI.out.trans ((Below.refl _ _).alloc (Nat.le_refl _) _ |>.mono HBI.out.size))) hg5 (HBZ.out.alloc HBZ.out.size _) (Nat.le_trans HBZ.out.size (qfj _ _))
        clear hg5
        have HO5 := qHd (show w5.ownsRow W.heap.size 4 1 v' (V + (j + 1)) (bvals (qck (qcn V s (qdd V s)) (ns.take (j + 1)))) by
         rw [HNX2.out, bvals_app]
         have e : ∀ b : Bool, b = decide (nx = 1) → [Value.bool b] = bvals [nx] := fun b h => by rw [h]; rfl
         rw [← e _ ?hv]
         ·exact ho5
         case hv =>
          rw [HX2.out]
          refine Eq.trans ?_ (lev_one _ _).symm
          first | rfl | (rw [Bool.eq_iff_iff]; simp; done) | (rw [Bool.eq_iff_iff]; simp; omega))
        have HB7 := qHd hb7; clear ho5 hb7
        go_wp2_with fail
        go_roundw
        case rel => exact ⟨j + 1, by omega, by go_num, HB7.out, HO5⟩
        case measure => simp [intOf]; omega
       ·skip
        clear hK0 h7 hAR
        have m0 : decide ((((n1 : Nat) : Int).tmod 2) = 1) = decide (n1 % 2 = 1) := by rw [Int.tmod_eq_emod_of_nonneg (by omega), Bool.eq_iff_iff]; simp; omega
        go_wp2_with (with_reducible refine qby ?_)
        refine qec W.heap.size Tryz.boolTy rfl (by decide) _ (V + j) _ [.bool _] wi.heap.size 4 rfl rfl (qcg O.out (HBI.out.trans ((Below.refl _ _).alloc (Nat.le_refl _) _ |>.mono HBI.out.size))) (heap_alloc_new _ _) rfl rfl (by omega) (by decide) (Nat.le_trans HBZ.out.size (qfj _ _)) ?_
        intro v' w5 ho5 hg5
        have hb7 := own_low (qcg O.out (HBI.out.trans ((Below.refl _ _).alloc (Nat.le_refl _) _ |>.mono HBI.out.size))) hg5 (HBZ.out.alloc HBZ.out.size _) (Nat.le_trans HBZ.out.size (qfj _ _))
        clear hg5
        have HO5 := qHd (show w5.ownsRow W.heap.size 4 1 v' (V + (j + 1)) (bvals (qck (qcn V s (qdd V s)) (ns.take (j + 1)))) by
         rw [HNX2.out, bvals_app]
         have e : ∀ b : Bool, b = decide (nx = 1) → [Value.bool b] = bvals [nx] := fun b h => by rw [h]; rfl
         rw [← e _ ?hv]
         ·exact ho5
         case hv =>
          rw [HX2.out, ndVal_5 rfl]
          refine Eq.trans ?_ (lev_one _ _).symm
          first | (rw [m0]; simp; done) | (simp [m0]; done) | (rw [Bool.eq_iff_iff]; simp; omega))
        have HB7 := qHd hb7; clear ho5 hb7
        go_wp2_with fail
        go_roundw
        case rel => exact ⟨j + 1, by omega, by go_num, HB7.out, HO5⟩
        case measure => simp [intOf]; omega
    ·have hj' : j = ns.length := by omega
     subst hj'
     have O := O.out
     rw [List.take_length] at O
     have HO := qHd O; have HBE := qHd hbw; clear O hbw hby
     go_wp2_with fail
     go_ret
     exact ⟨_, W.heap.size, rfl, HBE.out, by rw [HVF.out, qcs, qbf]; exact HO.out⟩
theorem andNot_full {V s : Nat} (hV : V ≤ 24) (hs : s < 2 ^ V) : bits .andNot .i64 ((2 ^ V - 1 : Nat) : Int) (s : Int) = ((qdd V s : Nat) : Int) := by
 have h24 := pow_24 hV
 have h : (BitVec.ofInt 64 ((2 ^ V - 1 : Nat) : Int) &&& ~~~ BitVec.ofInt 64 (s : Int)).toNat = qdd V s := by
  rw [BitVec.toNat_and, qew (by omega), BitVec.toNat_not, qew (by omega)]
  apply Nat.eq_of_testBit_eq
  intro i
  rw [Nat.testBit_and, Nat.testBit_two_pow_sub_one, compS_bit hs, show 2 ^ 64 - 1 - s = 2 ^ 64 - (s + 1) by omega, Nat.testBit_two_pow_sub_succ (by omega)]
  by_cases hi : i < V
  ·have : i < 64 := by omega
   simp [hi, this]
  ·simp [hi]
 show IntKind.wrap .i64 ((BitVec.ofInt 64 ((2 ^ V - 1 : Nat) : Int) &&& ~~~ BitVec.ofInt 64 (s : Int)).toNat : Int) = _
 rw [h]
 exact wrap_small (by unfold qdd; omega)
theorem fcheck2_any (vf : Value) (f : Fm) (s : Nat) (w : World) (hf : FmV w vf f) (h0 : qcc f = 0) (hs : s < 2 ^ f.vars.toNat) :
  Calls Tryz.prog 102 #[vf, .int .i64 (s : Nat)] w (qea w .nilIface) := by
 obtain ⟨p0, p1, p2, p3⟩ := qbe h0
 have htop := fmErr_top h0
 obtain ⟨nv, rfl, hn, hv, ht⟩ := hf
 obtain ⟨ao, c, rfl, hc, hc2, _⟩ := hn.shape
 have hF := (show FmV w _ f from ⟨_, rfl, hn, hv, ht⟩)
 obtain ⟨v, ns, top⟩ := f
 simp only at hv hc ht hn p0 p1 p2 p3 htop hs ⊢
 obtain ⟨V, rfl⟩ : ∃ V : Nat, v = V := ⟨v.toNat, by omega⟩
 obtain ⟨T, rfl⟩ : ∃ T : Nat, top = T := ⟨top.toNat, by omega⟩
 rw [Int.toNat_natCast] at hs
 have HF := qHd hF; have E0 := qHd h0
 have hT : T < V + ns.length := by omega
 have hV24 : V ≤ 24 := by omega
 have hs24 : s < 16777216 := Nat.lt_of_lt_of_le hs (pow_24 hV24)
 obtain ⟨P2, hP2⟩ : ∃ P : Nat, P = 2 ^ V := ⟨_, rfl⟩
 have DP : IntKind.wrap .i64 (2 ^ V) = (P2 : Int) := by rw [shl_one (by omega), hP2]
 have HS := qHd hs
 rw [← hP2] at hs
 obtain ⟨W, hW, hbW, g1, hG1, hg1⟩ := qBx5 w (.cells #[.int .i64 V, .slice ao ns.length c, .int .i64 T] 24)
 have HBW := qHd hbW; have G1 := qHd hg1
 obtain ⟨x0, x1, x2⟩ := qay hg1
 rw [hW, hG1] at x0 x1 x2
 clear hbW hg1 hn hv ht hF h0 p3 htop hP2
 have HK := qHd (fcheck_any _ ⟨V, ns, T⟩ W (HF.out.below HBW.out))
 rw [E0.out, qbi] at HK
 go_enter Tryz.func102, Tryz.ntmps102
 go_wp2_with (with_reducible refine qad ?_)
 rw [← hW, ← hG1]; clear hW hG1 x0 x1 x2
 refine qap.mk ?_
 (with_reducible refine HK.out.mono ?_); rintro e w1 ⟨rfl, hb1⟩
 have HB1 := qHd (HBW.out.trans (hb1.mono HBW.out.size))
 obtain ⟨x0, x1, x2⟩ := qay (qaa G1.out hb1)
 clear hb1 HK
 have hsz : ¬ ((P2 : Nat) : Int) ≤ (s : Int) := by omega
 have hs0 : ¬ ((s : Nat) : Int) < 0 := by omega
 go_wp2_with fail
 go_ret
 exact ⟨rfl, HB1.out⟩
def KBl (l : List Nat) : Value → World → Prop := fun v w => ∃ B, w.ownsRow B 4 1 v l.length (bvals l)
theorem kBl (l : List Nat) : MonoF (KBl l) := fun _ _ _ ⟨B, h⟩ hb => ⟨B, qcg h hb⟩
theorem fvalue_any (vf : Value) (f : Fm) (s : Nat) (w : World) (hf : FmV w vf f) (h0 : qcc f = 0) (hs : s < 2 ^ f.vars.toNat) :
  Calls Tryz.prog 64 #[vf, .int .i64 (s : Nat)] w (qea w (.tuple #[.bool (topS f s), .nilIface])) := by
 obtain ⟨tp, htp⟩ : ∃ tp, topS f s = tp := ⟨_, rfl⟩
 rw [htp]
 obtain ⟨p0, p1, p2, p3⟩ := qbe h0
 have htop := fmErr_top h0
 obtain ⟨nv, rfl, hn, hv, ht⟩ := hf
 obtain ⟨ao, c, rfl, hc, hc2, _⟩ := hn.shape
 have hF := (show FmV w _ f from ⟨_, rfl, hn, hv, ht⟩)
 obtain ⟨v, ns, top⟩ := f
 simp only at hv hc ht hn p0 p1 p2 p3 htop hs ⊢
 obtain ⟨V, rfl⟩ : ∃ V : Nat, v = V := ⟨v.toNat, by omega⟩
 obtain ⟨T, rfl⟩ : ∃ T : Nat, top = T := ⟨top.toNat, by omega⟩
 rw [Int.toNat_natCast] at hs
 have HF := qHd hF; have E0 := qHd h0
 have hT : T < V + ns.length := by omega
 have hV24 : V ≤ 24 := by omega
 have hs24 : s < 16777216 := Nat.lt_of_lt_of_le hs (pow_24 hV24)
 obtain ⟨P2, hP2⟩ : ∃ P : Nat, P = 2 ^ V := ⟨_, rfl⟩
 have DP : IntKind.wrap .i64 (2 ^ V) = (P2 : Int) := by rw [shl_one (by omega), hP2]
 have HS := qHd hs
 rw [← hP2] at hs
 obtain ⟨W, hW, hbW, g1, hG1, hg1⟩ := qBx5 w (.cells #[.int .i64 V, .slice ao ns.length c, .int .i64 T] 24)
 have HBW := qHd hbW; have G1 := qHd hg1
 obtain ⟨x0, x1, x2⟩ := qay hg1
 rw [hW, hG1] at x0 x1 x2
 clear hbW hg1 hn hv ht hF h0 p3 htop hP2
 have HTP := qHd (show decide (gd (qdt ⟨V, ns, T⟩ s (qdd V s)) T = 1) = tp from htp)
 clear DP htp
 have HK := qHd (fcheck2_any _ ⟨V, ns, T⟩ s W (HF.out.below HBW.out) E0.out HS.out)
 go_enter Tryz.func64, Tryz.ntmps64
 go_wp2_with (with_reducible refine qad ?_)
 rw [← hW, ← hG1]; clear hW hG1 x0 x1 x2
 refine qap.mk ?_
 (with_reducible refine HK.out.mono ?_); rintro e w1 ⟨rfl, hb1⟩
 have HBW := qHd (HBW.out.trans (hb1.mono HBW.out.size))
 have G1 := qHd (qaa G1.out hb1)
 clear hb1 HK
 go_wp2_with (with_reducible first | refine qad ?_ | refine qai ?_ | refine qaj ?_ | refine qak ?_ | refine qag ?_)
 refine qap.mk ?_
 refine qao (A := ?aaFV) (w := w1) 7 [] (by kernel_rfl) (Fl [KEq (.agg #[.int .i64 V, .slice ao ns.length c, .int .i64 T]), KEq (.int .i64 (s : Nat)), KBl (qdt ⟨V, ns, T⟩ s (qdd V s)), KEq (.pointer (some ⟨g1, 2, none⟩)), KEq (.int .i64 (T : Nat)), KPt (.bool tp), KEq (.bool tp)]) (fun i => false) (by kernel_rfl) ?hqFV (qcw (qae (kEq _) (qae (kEq _) (qae (kBl _) (qae (kEq _) (qae (kEq _) (qae (kPt _) (qae (kEq _) qcv)))))))) ?haFV ?stFV ?tlFV
 case hqFV =>
  intro c a d v w h
  first | (simp only [Exit.then] at h ⊢; exact h) | (simp only [Exit.inBlock, Exit.then] at h ⊢; exact h) | exact h
 case haFV =>
  intro vals
  simp only [qba, qcd, if_true, Act.put, List.setIfInBounds_toArray, List.set_cons_zero, List.set_cons_succ, List.getElem?_toArray, List.getElem?_cons_zero, List.getElem?_cons_succ, Option.bind_some]
  exact rfl
 case stFV =>
  simp only [List.take_succ_cons, List.take_zero]
  refine qab rfl rfl ?_ (qab rfl rfl ?_ (qab rfl rfl ?_ (qab rfl rfl ?_ (qab rfl rfl ?_ (qab rfl rfl ?_ (qab rfl rfl ?_ (qav)))))))
  ·intro vals w1 hb hd
   obtain ⟨e0, e1, e2⟩ := qay (qaa G1.out hb)
   refine qSv (.agg #[.int .i64 V, .slice ao ns.length c, .int .i64 T]) (by go_simp) (qLk rfl rfl)
  ·intro vals w1 hb hd
   refine qSv (.int .i64 (s : Nat)) (by go_simp) (qLk rfl rfl)
  ·intro vals w1 hb hd
   have d0 : KEq (.agg #[.int .i64 V, .slice ao ns.length c, .int .i64 T]) (vals 0) w1 := hd 0 (by kernel_rfl)
   have d1 : KEq (.int .i64 (s : Nat)) (vals 1) w1 := hd 1 (by kernel_rfl)
   have HS2 := qHd (fvalues_any _ ⟨V, ns, T⟩ s w1 (HF.out.below (HBW.out.step hb)) E0.out HS.out hs24)
   rw [show vals 0 = _ from d0, show vals 1 = _ from d1]
   refine qat (by go_simp; first | done | exact ⟨⟨rfl, rfl⟩, rfl⟩) ?_
   (with_reducible refine HS2.out.mono ?_); rintro e w2 ⟨v, B, rfl, hb2, ho⟩
   exact ⟨_, rfl, qar hb2 ⟨B, ho⟩ (fun h => by cases h)⟩
  ·intro vals w1 hb hd
   refine qSv (.pointer (some ⟨g1, 2, none⟩)) (by go_simp) (qLk rfl rfl)
  ·intro vals w1 hb hd
   obtain ⟨e0, e1, e2⟩ := qay (qaa G1.out hb)
   rw [show vals 3 = .pointer (some ⟨g1, 2, none⟩) from hd 3 (by kernel_rfl)]
   refine qSv (.int .i64 (T : Nat)) (by go_simp) (qLk rfl rfl)
  ·intro vals w1 hb hd
   have d2 : KBl (qdt ⟨V, ns, T⟩ s (qdd V s)) (vals 2) w1 := hd 2 (by kernel_rfl)
   have d4 : KEq (.int .i64 (T : Nat)) (vals 4) w1 := hd 4 (by kernel_rfl)
   obtain ⟨B, ho⟩ := d2
   obtain ⟨ap, cp, ev, _, _, _⟩ := qff ho
   have ho2 : w1.ownsRow B _ 1 (vals 2) _ _ := ho
   rw [ev] at ho2 ⊢
   obtain ⟨gv, rfl, _, _, _, _, hcell⟩ := own_cells ho2 rfl (by rw [qdk]; simp only [Int.toNat_natCast]; omega)
   have cT := hcell T _ (bvals_at (by rw [qdk]; simp only [Int.toNat_natCast]; omega))
   rw [HTP.out] at cT
   rw [show vals 4 = _ from d4, qdk]
   simp only [Int.toNat_natCast]
   have hTz : (T : Int) < (V : Int) + (ns.length : Int) := by omega
   refine qaq (v := .pointer (some ⟨gv, T, none⟩)) (w' := w1) (by go_simp) (qar (Below.refl _ _) ⟨_, rfl, cT⟩ (fun h => by cases h))
  ·intro vals w1 hb hd
   have d5 : KPt (.bool tp) (vals 5) w1 := hd 5 (by kernel_rfl)
   obtain ⟨p, ev, hp⟩ := d5
   rw [ev]
   refine qSv (.bool tp) (by go_simp) (qLk rfl rfl)
 case tlFV =>
  intro vals w2 hb2 hf hdis
  simp only [List.drop_succ_cons, List.drop_zero]
  have z6 : vals 6 = _ := hf 6 (by decide)
  rw [z6]; clear z6 hf hdis
  have HB2 := qHd (HBW.out.trans (hb2.mono HBW.out.size))
  go_wp2_with fail
  go_ret2
  exact ⟨rfl, HB2.out⟩
theorem rl_sumS {g : Nat → Rat} {k : Nat} (hk : ∀ s, rl (g s) ≤ k) : ∀ n, rl (sumS g n) ≤ 1 + n * (k + 1)
 | 0 => by simp only [sumS]; rw [qeo]; omega
 | n + 1 => by
  simp only [sumS]
  have h1 := rl_sumS hk n
  have h2 := hk n
  have h3 := rl_add (sumS g n) (g n)
  have h4 : (n + 1) * (k + 1) = n * (k + 1) + (k + 1) := Nat.succ_mul _ _
  omega
def chG (f : Fm) (L : List Rv) (s : Nat) : Rat := if topS f s then wt (L.map Rv.q) s (qdd f.vars.toNat s) else 0
theorem qgd.rv {w : World} {v : Value} {f : Fm} {L : List Rv} (h : qgd f L) (hl : RvsV w v L) : ∀ r ∈ L, RvOK 3 r := fun r hr => ⟨h.pr r hr, (h.sm r hr).1, (h.sm r hr).2, (h.rl3 hl r hr).2.2⟩
theorem comp_and {V s : Nat} (hs : s < 2 ^ V) : s &&& qdd V s = 0 := by
 apply Nat.eq_of_testBit_eq
 intro i
 rw [Nat.testBit_and, compS_bit hs]
 cases s.testBit i <;> simp
theorem chance41_any (vf v : Value) (f : Fm) (L : List Rv) (w : World) (hf : FmV w vf f) (hl : RvsV w v L) (hv : qgd f L) :
    Calls Tryz.prog 30 #[vf, v] w (RetRE w (qek f (L.map Rv.q)) (.bool true)) := by
  have h0 := hv.fe
  obtain ⟨p0, p1, p2, p3⟩ := qbe h0
  have h8 := hv.v8
  have hps := hv.ps
  have RV := qHd (hv.rv hl)
  have hlen : L.length = f.vars.toNat := by have := hv.len; omega
  have CE := qHd (chance_eq (f := f) (ps := L.map Rv.q) hps.1)
  have CE := qHd (show qek f (L.map Rv.q) = sumS (chG f L) (2 ^ f.vars.toNat) from CE.out)
  have HRL := qHd (fun s => (show rl (chG f L s) ≤ 41 by
    unfold chG
    split
    · have := rl_wtL (k := 3) (L.map Rv.q) 0 s (qdd f.vars.toNat s) (fun p hp => by obtain ⟨r, hr, rfl⟩ := List.mem_map.1 hp; exact (RV.out r hr).lq)
      rw [List.length_map] at this
      show rl (wtL _ 0 _ _) ≤ 41
      have h3 : L.length * (3 + 2) ≤ 8 * 5 := Nat.mul_le_mul_right 5 (by omega)
      omega
    · rw [qeo]; decide))
  obtain ⟨nv, rfl, hn, hv1, ht⟩ := hf
  obtain ⟨ao, c, rfl, hc, hc2, _⟩ := hn.shape
  have HF := qHd (show FmV w _ f from ⟨_, rfl, hn, hv1, ht⟩)
  obtain ⟨al, cl, rfl, hcl, hcl2, _⟩ := hl.shape
  have HL := qHd hl; have E0 := qHd h0
  obtain ⟨V, hV⟩ : ∃ V : Nat, V = f.vars.toNat := ⟨_, rfl⟩
  have hVz : f.vars = (V : Int) := by omega
  have HV := qHd hV
  rw [← hV] at CE hlen
  have hV8 : V ≤ 8 := by omega
  have hL24 : L.length ≤ 24 := by omega
  obtain ⟨P2, hP2⟩ : ∃ P : Nat, P = 2 ^ V := ⟨_, rfl⟩
  have hP256 : P2 ≤ 256 := by rw [hP2]; have h := Nat.pow_le_pow_right (n := 2) (by decide) hV8; have e : 2 ^ 8 = 256 := by decide
                              omega
  have HP := qHd hP2
  have DP : IntKind.wrap .i64 (2 ^ V) = (P2 : Int) := by rw [shl_one (by omega), hP2]
  have HRS := qHd (fun n (hn : n ≤ P2) => (show rl (sumS (chG f L) n) ≤ 12000 by
    have h1 := rl_sumS HRL.out n
    have h2 : n * (41 + 1) ≤ 256 * 42 := Nat.mul_le_mul_right 42 (by omega)
    omega))
  have HLN := qHd hlen
  clear h0 hps hv hn hv1 ht hl p3 hV hP2 hlen p0 p1 h8
  rw [hVz] at HF ⊢
  obtain ⟨wa, hwa⟩ : ∃ x, x = w.alloc (.cells #[.int .i64 (V : Int), .slice ao f.nodes.length c, .int .i64 f.top] 24) := ⟨_, rfl⟩
  obtain ⟨wb, hwb⟩ : ∃ x, x = wa.alloc (.cells #[.bool false, .slice none 0 0, .slice none 0 0] 54) := ⟨_, rfl⟩
  obtain ⟨W, hW⟩ : ∃ x, x = wb.alloc (.cells #[.bool false, .slice none 0 0, .slice none 0 0] 54) := ⟨_, rfl⟩
  have ba : Below w.heap.size w wa := by rw [hwa]; exact qBA _ _
  have bb : Below wa.heap.size wa wb := by rw [hwb]; exact qBA _ _
  have bW : Below wb.heap.size wb W := by rw [hW]; exact qBA _ _
  have sa : wa.heap.size = w.heap.size + 1 := by rw [hwa]; exact Array.size_push (xs := w.heap) _
  have sb : wb.heap.size = w.heap.size + 1 + 1 := by rw [← sa, hwb]; exact Array.size_push (xs := wa.heap) _
  have hg2 : W.heap[w.heap.size]? = some (.cells #[.int .i64 (V : Int), .slice ao f.nodes.length c, .int .i64 f.top] 24) := qaa (qaa (by rw [hwa]; exact heap_alloc_new w _) bb) bW
  have hg4 : W.heap[w.heap.size + 1]? = some (.cells #[.bool false, .slice none 0 0, .slice none 0 0] 54) := qaa (by rw [← sa, hwb]; exact heap_alloc_new wa _) bW
  have hg6 : W.heap[w.heap.size + 1 + 1]? = some (.cells #[.bool false, .slice none 0 0, .slice none 0 0] 54) := by rw [← sb, hW]; exact heap_alloc_new wb _
  have HB := qHd (ba.trans ((bb.mono ba.size).trans (bW.mono (Nat.le_trans ba.size bb.size))))
  obtain ⟨g2, hG2⟩ : ∃ g, g = w.heap.size := ⟨_, rfl⟩
  obtain ⟨g4, hG4⟩ : ∃ g, g = w.heap.size + 1 := ⟨_, rfl⟩
  obtain ⟨g6, hG6⟩ : ∃ g, g = w.heap.size + 1 + 1 := ⟨_, rfl⟩
  rw [← hG2] at hg2; rw [← hG4] at hg4; rw [← hG6] at hg6
  have l4 : w.heap.size ≤ g4 := by omega
  have l6 : w.heap.size ≤ g6 := by omega
  have n26 : g2 ≠ g6 := by omega
  have n46 : g4 ≠ g6 := by omega
  have G2 := qHd hg2; have G4 := qHd hg4; have G6 := qHd hg6
  obtain ⟨x0, x1, x2⟩ := qay hg2
  rw [hW, hwb, hwa, hG2] at x0 x1 x2
  clear ba bb bW sa sb hg2 hg4 hg6
  go_enter Tryz.func30, Tryz.ntmps30
  go_wp2_with (with_reducible first | refine qai ?_ | refine qag ?_)
  rw [← hwa, ← hwb, ← hW, ← hG6, ← hG4, ← hG2]
  clear hwa hwb hW hG6 hG4 hG2 x0 x1 x2
  refine qap.mk ?_
  go_loopw [15] (fun i' wx => ∃ (q : Nat) (s0 : Bool) (a0 o0 : Option Addr) (n0 c0 m0 d0 : Nat), q ≤ P2 ∧ i' = .int .i64 q ∧ Hid (Below w.heap.size w wx) ∧ Hid (wx.heap[g2]? = some (.cells #[.int .i64 (V : Int), .slice ao f.nodes.length c, .int .i64 f.top] 24)) ∧ Hid (wx.heap[g4]? = some (.cells #[.bool false, .slice none 0 0, .slice none 0 0] 54)) ∧ Hid (wx.heap[g6]? = some (.cells #[.bool s0, .slice o0 n0 c0, .slice a0 m0 d0] 54)) ∧ Hid (IsR wx (.agg #[.bool s0, .slice o0 n0 c0, .slice a0 m0 d0]) (sumS (chG f L) q))) (fun i' _ => P2 - (intOf i').toNat)
  case atStart => exact ⟨0, false, none, none, 0, 0, 0, 0, Nat.zero_le _, rfl, HB, G2, G4, G6, qHd (qdg _)⟩
  case round =>
    obtain ⟨q, s0, a0, o0, n0, c0, m0, d0, hq, rfl, HB, G2, G4, G6, IA⟩ := hrel
    obtain ⟨wo, rfl⟩ : ∃ wo : World, wo = wr := ⟨_, rfl⟩
    obtain ⟨x0, x1, x2⟩ := qay G2.out
    by_cases hlt : q < P2
    · have hltz : (q : Int) < (P2 : Int) := by omega
      have hqV : q < 2 ^ V := by rw [← HP.out]; exact hlt
      obtain ⟨acc, hacc⟩ : ∃ acc, acc = sumS (chG f L) q := ⟨_, rfl⟩
      obtain ⟨tp, htp⟩ : ∃ tp, tp = topS f q := ⟨_, rfl⟩
      obtain ⟨wq, hwq⟩ : ∃ wq, wq = wt (L.map Rv.q) q (qdd V q) := ⟨_, rfl⟩
      have SS := qHd (show sumS (chG f L) (q + 1) = if tp then acc + wq else acc by
        show sumS (chG f L) q + chG f L q = _
        rw [← hacc, show chG f L q = if tp then wq else 0 by unfold chG; rw [← HV.out, ← htp, ← hwq]]
        cases tp
        · exact Rat.add_zero _
        · rfl)
      have HAC := qHd (show rl acc ≤ 12000 by rw [hacc]; exact HRS.out q hq)
      have HWQ := qHd (show rl wq ≤ 41 by
        have := rl_wtL (k := 3) (L.map Rv.q) 0 q (qdd V q) (fun p hp => by obtain ⟨r, hr, rfl⟩ := List.mem_map.1 hp; exact (RV.out r hr).lq)
        rw [List.length_map] at this
        rw [hwq]
        show rl (wtL _ 0 _ _) ≤ 41
        have h3 : L.length * (3 + 2) ≤ 8 * 5 := Nat.mul_le_mul_right 5 (by have := HLN.out; omega)
        omega)
      rw [← hacc] at IA
      obtain ⟨cn, hcn⟩ : ∃ cn, cn = qdd V q := ⟨_, rfl⟩
      have hcl2V : cn < 2 ^ V := by rw [hcn]; unfold qdd; omega
      have AN := andNot_full (V := V) (s := q) (by omega) hqV
      rw [← HP.out, ← hcn, show ((P2 - 1 : Nat) : Int) = (P2 : Int) - 1 by omega] at AN
      have AN' : bits .andNot .i64 ((P2 : Int) - 1) (q : Int) = (cn : Int) := AN
      have HQA := qHd (show q &&& cn = 0 by rw [hcn]; exact comp_and hqV)
      rw [← hcn] at hwq
      have HW0 := qHd hwq
      have HK := qHd (fvalue_any _ f q wo (HF.out.below HB.out) E0.out (by rw [← HV.out]; exact hqV))
      rw [← htp] at HK
      clear hacc htp hwq hcn AN
      go_wp2_with (with_reducible refine qad ?_)
      clear x0 x1 x2
      refine qap.mk ?_
      (with_reducible refine HK.out.mono ?_); rintro e w3 ⟨rfl, hb3⟩
      have HB := qHd (HB.out.trans (hb3.mono HB.out.size))
      have G2 := qHd (qaa G2.out hb3); have G4 := qHd (qaa G4.out hb3); have G6 := qHd (qaa G6.out hb3)
      have IA := qHd (IA.out.below hb3)
      clear hb3 HK
      obtain ⟨x0, x1, x2⟩ := qay G2.out
      have HK := qHd (weight_any _ L q cn 3 w3 (HL.out.below HB.out) RV.out hL24 (by rw [HLN.out]; exact hqV) (by rw [HLN.out]; exact hcl2V) HQA.out (by decide))
      rw [← HW0.out] at HK
      go_wp2_with (with_reducible refine qad ?_)
      clear x0 x1 x2 AN'
      refine qap.mk ?_
      (with_reducible refine HK.out.mono ?_); rintro e w4 ⟨v4, rfl, hb4, hn4⟩
      obtain ⟨sw, ow, nw, cw, aw, mw, dw, rfl⟩ := hn4.shape
      have HB := qHd (HB.out.trans (hb4.mono HB.out.size))
      have G2 := qHd (qaa G2.out hb4); have G4 := qHd (qaa G4.out hb4); have G6 := qHd (qaa G6.out hb4)
      have IA := qHd (IA.out.below hb4)
      obtain ⟨w5, hw5, hb5, g10, hG10, hx5⟩ := qBx5 w4 (.cells #[.bool sw, .slice ow nw cw, .slice aw mw dw] 54)
      have HB := qHd (HB.out.trans (hb5.mono HB.out.size))
      have G2 := qHd (qaa G2.out hb5); have G4 := qHd (qaa G4.out hb5); have G6 := qHd (qaa G6.out hb5); have G10 := qHd hx5
      have IA := qHd (IA.out.below hb5); have IW := qHd (hn4.below hb5)
      clear hb4 hn4 HK hb5 hx5
      cases tp
      · have SS := qHd (show sumS (chG f L) (q + 1) = acc from SS.out)
        go_wp2_with fail
        rw [← hw5]
        clear hw5 hG10
        go_roundw
        case rel => exact ⟨q + 1, s0, a0, o0, n0, c0, m0, d0, by omega, by go_num, HB, G2, G4, G6, qHd (by rw [SS.out]; exact IA.out)⟩
        case measure => simp [intOf]; omega
      · have SS := qHd (show sumS (chG f L) (q + 1) = acc + wq from SS.out)
        obtain ⟨t0, t1, t2⟩ := qay G6.out
        obtain ⟨u0, u1, u2⟩ := qay G10.out
        rw [hw5] at t0 t1 t2
        rw [hw5, hG10] at u0 u1 u2
        have HK := qHd (addq_any _ acc _ wq w5 (IA.out.is (by have := HAC.out; omega)) (IW.out.is (by have := HWQ.out; omega)))
        go_wp2_with (with_reducible refine qad ?_)
        rw [← hw5, ← hG10]
        clear t0 t1 t2 u0 u1 u2 hw5 hG10
        refine qap.mk ?_
        (with_reducible refine HK.out.mono ?_); rintro e w6 ⟨v6, rfl, hb6, hn6⟩
        have HB := qHd (HB.out.trans (hb6.mono HB.out.size))
        have G2 := qHd (qaa G2.out hb6); have G4 := qHd (qaa G4.out hb6); have G6 := qHd (qaa G6.out hb6)
        obtain ⟨sx, ox, nx, cx, ax, mx, dx, rfl⟩ := hn6.shape
        go_wp2_with (with_reducible refine qaf ?_)
        refine qan g6 0 [.bool sx, .slice ox nx cx, .slice ax mx dx] G6.out rfl rfl (Nat.le_of_ble_eq_true rfl) (by kernel_rfl) rfl ?_
        intro wz hpz
        have GZ := qHd (show wz.heap[g6]? = some (.cells #[.bool sx, .slice ox nx cx, .slice ax mx dx] 54) by rw [hpz]; exact qbd G6.out)
        have G2 := qHd (qbr hpz G2.out n26); have G4 := qHd (qbr hpz G4.out n46)
        have HBZ := qHd (qbl hpz HB.out l6)
        have IZ := qHd (qbq hpz hn6 G6.out noW3)
        clear hpz hb6 hn6 HK
        go_wp2_with fail
        go_roundw
        case rel => exact ⟨q + 1, sx, ax, ox, nx, cx, mx, dx, by omega, by go_num, HBZ, G2, G4, GZ, qHd (by rw [SS.out]; exact IZ.out)⟩
        case measure => simp [intOf]; omega
    · have hq' : q = P2 := by omega
      subst hq'
      obtain ⟨t0, t1, t2⟩ := qay G6.out
      go_wp2_with (with_reducible refine qaf ?_)
      clear x0 x1 x2 t0 t1 t2
      refine qan g4 0 [.bool s0, .slice o0 n0 c0, .slice a0 m0 d0] G4.out rfl rfl (Nat.le_of_ble_eq_true rfl) (by kernel_rfl) rfl ?_
      intro wz hpz
      have GZ := qHd (show wz.heap[g4]? = some (.cells #[.bool s0, .slice o0 n0 c0, .slice a0 m0 d0] 54) by rw [hpz]; exact qbd G4.out)
      have HBZ := qHd (qbl hpz HB.out l4)
      have IZ := qHd (qbq hpz IA.out G4.out noW3)
      clear hpz
      go_wp2_with (with_reducible first | refine qad ?_ | refine qai ?_ | refine qaj ?_ | refine qak ?_ | refine qag ?_)
      refine qcl rfl g4 #[.bool s0, .slice o0 n0 c0, .slice a0 m0 d0] rfl GZ.out Tryz.underlying54 rfl (by kernel_rfl) rfl ?_
      exact ⟨_, rfl, HBZ.out, by rw [CE.out, ← HP.out]; exact IZ.out⟩
end Go.Proofs.YthhgfhdmfhnklaaGreatDoor
namespace Go.Proofs.YthhgfhdmfhnklaaGreatDoor
theorem rl_around2 (p q : Rat) : rl (around2 p q).1 ≤ max (rl p) (rl q) ∧ rl (around2 p q).2 ≤ max (rl p) (rl q) := ⟨rl_mn _ _, rl_mx _ _⟩
end Go.Proofs.YthhgfhdmfhnklaaGreatDoor
namespace Go.Proofs.YthhgfhdmfhnklaaGreatDoor
open Go.RowKit Go.ChangeShapes Go.WideShapes
theorem svalid_1 (va : Value) (sa : Bool) (aa ba : List Nat) (ta : Bool) (ca da : List Nat) (w : World) (ha : SpV w va sa aa ba ta ca da) (la : aa.length ≤ 40000) (lb : ba.length ≤ 40000) (_lc : ca.length ≤ 40000) (_ld : da.length ≤ 40000) (hv : ¬ Vld sa aa ba) :
  Calls Tryz.prog 90 #[va] w (qea w (.bool (decide (Vld sa aa ba ∧ Vld ta ca da ∧ rq sa aa ba ≤ rq ta ca da)))) := by
 have HBW := qHd (Below.refl w.heap.size w)
 obtain ⟨qa, oa, na, ka, pa, ma, ra, qax, oax, nax, kax, pax, max, rax, rfl⟩ := ha.shape
 rw [show decide (Vld sa aa ba ∧ Vld ta ca da ∧ rq sa aa ba ≤ rq ta ca da) = false from decide_eq_false (fun k => hv k.1)]
 have HV1 := qHd (decide_eq_false hv); clear hv
 have Fa := qHd ha; clear ha
 have Fal := qHd (spV_ends Fa.out).1; have Fah := qHd (spV_ends Fa.out).2
 obtain ⟨w1, hw1⟩ : ∃ w1, w1 = w.alloc (.cells #[.bool qa, .slice oa na ka, .slice pa ma ra, .bool qax, .slice oax nax kax, .slice pax max rax] 56) := ⟨_, rfl⟩
 have hb1 : Below w.heap.size w w1 := by rw [hw1]; exact qBA _ _
 have hx1 := heap_alloc_new w (.cells #[.bool qa, .slice oa na ka, .slice pa ma ra, .bool qax, .slice oax nax kax, .slice pax max rax] 56)
 obtain ⟨g1, hg1⟩ : ∃ g, g = w.heap.size := ⟨_, rfl⟩
 rw [← hw1, ← hg1] at hx1
 have lw1 : w.heap.size ≤ g1 := by rw [hg1]; exact HBW.out.size
 have HW1 := qHd hw1; have HG1 := qHd hg1; clear hw1 hg1
 have HB1 := qHd (HBW.out.step hb1)
 have Fa := qHd (Fa.out.below hb1)
 have Fal := qHd (Fal.out.below hb1)
 have Fah := qHd (Fah.out.below hb1)
 have BX1 := qHd hx1; clear hb1 hx1
 go_enter Tryz.func90, Tryz.ntmps90
 obtain ⟨x1_0, x1_1, x1_2, x1_3, x1_4, x1_5⟩ := row6 BX1.out
 have hs := qfp _ sa aa ba w1 Fal.out (by omega) (by omega)
 rw [HV1.out] at hs
 have HS := qHd hs; clear hs
 try rw [HW1.out] at x1_0
 try rw [HG1.out] at x1_0
 try rw [HW1.out] at x1_1
 try rw [HG1.out] at x1_1
 try rw [HW1.out] at x1_2
 try rw [HG1.out] at x1_2
 try rw [HW1.out] at x1_3
 try rw [HG1.out] at x1_3
 try rw [HW1.out] at x1_4
 try rw [HG1.out] at x1_4
 try rw [HW1.out] at x1_5
 try rw [HG1.out] at x1_5
 go_wp2_with fail
 try rw [← HW1.out]
 try rw [← HG1.out]
 clear x1_0 x1_1 x1_2 x1_3 x1_4 x1_5
 (with_reducible refine HS.out.mono ?_); rintro e w2 ⟨rfl, hb2⟩
 clear HS
 have HB2 := qHd (HB1.out.step hb2)
 have Fa := qHd (Fa.out.below hb2)
 have Fal := qHd (Fal.out.below hb2)
 have Fah := qHd (Fah.out.below hb2)
 have BX1 := qHd (qaa BX1.out hb2)
 clear hb2
 go_wp2_with fail
 go_ret
 exact ⟨by first | rfl | (simp; done), HB2.out⟩
theorem svalid_2 (va : Value) (sa : Bool) (aa ba : List Nat) (ta : Bool) (ca da : List Nat) (w : World) (ha : SpV w va sa aa ba ta ca da) (la : aa.length ≤ 40000) (lb : ba.length ≤ 40000) (lc : ca.length ≤ 40000) (ld : da.length ≤ 40000) (hv : Vld sa aa ba) (hu : ¬ Vld ta ca da) :
  Calls Tryz.prog 90 #[va] w (qea w (.bool (decide (Vld sa aa ba ∧ Vld ta ca da ∧ rq sa aa ba ≤ rq ta ca da)))) := by
 have HBW := qHd (Below.refl w.heap.size w)
 obtain ⟨qa, oa, na, ka, pa, ma, ra, qax, oax, nax, kax, pax, max, rax, rfl⟩ := ha.shape
 rw [show decide (Vld sa aa ba ∧ Vld ta ca da ∧ rq sa aa ba ≤ rq ta ca da) = false from decide_eq_false (fun k => hu k.2.1)]
 have HV1 := qHd (decide_eq_true hv); have HV2 := qHd (decide_eq_false hu); clear hv hu
 have Fa := qHd ha; clear ha
 have Fal := qHd (spV_ends Fa.out).1; have Fah := qHd (spV_ends Fa.out).2
 obtain ⟨w1, hw1⟩ : ∃ w1, w1 = w.alloc (.cells #[.bool qa, .slice oa na ka, .slice pa ma ra, .bool qax, .slice oax nax kax, .slice pax max rax] 56) := ⟨_, rfl⟩
 have hb1 : Below w.heap.size w w1 := by rw [hw1]; exact qBA _ _
 have hx1 := heap_alloc_new w (.cells #[.bool qa, .slice oa na ka, .slice pa ma ra, .bool qax, .slice oax nax kax, .slice pax max rax] 56)
 obtain ⟨g1, hg1⟩ : ∃ g, g = w.heap.size := ⟨_, rfl⟩
 rw [← hw1, ← hg1] at hx1
 have lw1 : w.heap.size ≤ g1 := by rw [hg1]; exact HBW.out.size
 have HW1 := qHd hw1; have HG1 := qHd hg1; clear hw1 hg1
 have HB1 := qHd (HBW.out.step hb1)
 have Fa := qHd (Fa.out.below hb1)
 have Fal := qHd (Fal.out.below hb1)
 have Fah := qHd (Fah.out.below hb1)
 have BX1 := qHd hx1; clear hb1 hx1
 go_enter Tryz.func90, Tryz.ntmps90
 obtain ⟨x1_0, x1_1, x1_2, x1_3, x1_4, x1_5⟩ := row6 BX1.out
 have hs := qfp _ sa aa ba w1 Fal.out (by omega) (by omega)
 rw [HV1.out] at hs
 have HS := qHd hs; clear hs
 try rw [HW1.out] at x1_0
 try rw [HG1.out] at x1_0
 try rw [HW1.out] at x1_1
 try rw [HG1.out] at x1_1
 try rw [HW1.out] at x1_2
 try rw [HG1.out] at x1_2
 try rw [HW1.out] at x1_3
 try rw [HG1.out] at x1_3
 try rw [HW1.out] at x1_4
 try rw [HG1.out] at x1_4
 try rw [HW1.out] at x1_5
 try rw [HG1.out] at x1_5
 go_wp2_with fail
 try rw [← HW1.out]
 try rw [← HG1.out]
 clear x1_0 x1_1 x1_2 x1_3 x1_4 x1_5
 (with_reducible refine HS.out.mono ?_); rintro e w2 ⟨rfl, hb2⟩
 clear HS
 have HB2 := qHd (HB1.out.step hb2)
 have Fa := qHd (Fa.out.below hb2)
 have Fal := qHd (Fal.out.below hb2)
 have Fah := qHd (Fah.out.below hb2)
 have BX1 := qHd (qaa BX1.out hb2)
 clear hb2
 obtain ⟨x2_0, x2_1, x2_2, x2_3, x2_4, x2_5⟩ := row6 BX1.out
 have hs := qfp _ ta ca da w2 Fah.out (by omega) (by omega)
 rw [HV2.out] at hs
 have HS := qHd hs; clear hs
 go_wp2_with fail
 clear x2_0 x2_1 x2_2 x2_3 x2_4 x2_5
 (with_reducible refine HS.out.mono ?_); rintro e w3 ⟨rfl, hb3⟩
 clear HS
 have HB3 := qHd (HB2.out.step hb3)
 have Fa := qHd (Fa.out.below hb3)
 have Fal := qHd (Fal.out.below hb3)
 have Fah := qHd (Fah.out.below hb3)
 have BX1 := qHd (qaa BX1.out hb3)
 clear hb3
 go_wp2_with fail
 go_ret
 exact ⟨by first | rfl | (simp; done), HB3.out⟩
theorem svalid_3 (va : Value) (sa : Bool) (aa ba : List Nat) (ta : Bool) (ca da : List Nat) (w : World) (ha : SpV w va sa aa ba ta ca da) (la : aa.length ≤ 40000) (lb : ba.length ≤ 40000) (lc : ca.length ≤ 40000) (ld : da.length ≤ 40000) (hv : Vld sa aa ba) (hu : Vld ta ca da) :
  Calls Tryz.prog 90 #[va] w (qea w (.bool (decide (Vld sa aa ba ∧ Vld ta ca da ∧ rq sa aa ba ≤ rq ta ca da)))) := by
 have HBW := qHd (Below.refl w.heap.size w)
 obtain ⟨qa, oa, na, ka, pa, ma, ra, qax, oax, nax, kax, pax, max, rax, rfl⟩ := ha.shape
 rw [show decide (Vld sa aa ba ∧ Vld ta ca da ∧ rq sa aa ba ≤ rq ta ca da) = decide (cq (rq sa aa ba) (rq ta ca da) ≤ 0) from by rw [decide_eq_decide, cq_le]; exact ⟨fun k => k.2.2, fun k => ⟨hv, hu, k⟩⟩]
 obtain ⟨n, hn⟩ : ∃ n, n = cq (rq sa aa ba) (rq ta ca da) := ⟨_, rfl⟩
 rw [← hn]; have HN := qHd hn; clear hn
 have HV1 := qHd (decide_eq_true hv); have HV2 := qHd (decide_eq_true hu); clear hv hu
 have k1 : rl (rq sa aa ba) ≤ 40000 := rl_rq ha.lt.1.1 ha.lt.1.2 la lb (by decide); have k2 : rl (rq ta ca da) ≤ 40000 := rl_rq ha.lt.2.1 ha.lt.2.2 lc ld (by decide)
 have Fa := qHd ha; clear ha
 have Fal := qHd (spV_ends Fa.out).1; have Fah := qHd (spV_ends Fa.out).2
 obtain ⟨w1, hw1⟩ : ∃ w1, w1 = w.alloc (.cells #[.bool qa, .slice oa na ka, .slice pa ma ra, .bool qax, .slice oax nax kax, .slice pax max rax] 56) := ⟨_, rfl⟩
 have hb1 : Below w.heap.size w w1 := by rw [hw1]; exact qBA _ _
 have hx1 := heap_alloc_new w (.cells #[.bool qa, .slice oa na ka, .slice pa ma ra, .bool qax, .slice oax nax kax, .slice pax max rax] 56)
 obtain ⟨g1, hg1⟩ : ∃ g, g = w.heap.size := ⟨_, rfl⟩
 rw [← hw1, ← hg1] at hx1
 have lw1 : w.heap.size ≤ g1 := by rw [hg1]; exact HBW.out.size
 have HW1 := qHd hw1; have HG1 := qHd hg1; clear hw1 hg1
 have HB1 := qHd (HBW.out.step hb1)
 have Fa := qHd (Fa.out.below hb1)
 have Fal := qHd (Fal.out.below hb1)
 have Fah := qHd (Fah.out.below hb1)
 have BX1 := qHd hx1; clear hb1 hx1
 go_enter Tryz.func90, Tryz.ntmps90
 obtain ⟨x1_0, x1_1, x1_2, x1_3, x1_4, x1_5⟩ := row6 BX1.out
 have hs := qfp _ sa aa ba w1 Fal.out (by omega) (by omega)
 rw [HV1.out] at hs
 have HS := qHd hs; clear hs
 try rw [HW1.out] at x1_0
 try rw [HG1.out] at x1_0
 try rw [HW1.out] at x1_1
 try rw [HG1.out] at x1_1
 try rw [HW1.out] at x1_2
 try rw [HG1.out] at x1_2
 try rw [HW1.out] at x1_3
 try rw [HG1.out] at x1_3
 try rw [HW1.out] at x1_4
 try rw [HG1.out] at x1_4
 try rw [HW1.out] at x1_5
 try rw [HG1.out] at x1_5
 go_wp2_with fail
 try rw [← HW1.out]
 try rw [← HG1.out]
 clear x1_0 x1_1 x1_2 x1_3 x1_4 x1_5
 (with_reducible refine HS.out.mono ?_); rintro e w2 ⟨rfl, hb2⟩
 clear HS
 have HB2 := qHd (HB1.out.step hb2)
 have Fa := qHd (Fa.out.below hb2)
 have Fal := qHd (Fal.out.below hb2)
 have Fah := qHd (Fah.out.below hb2)
 have BX1 := qHd (qaa BX1.out hb2)
 clear hb2
 obtain ⟨x2_0, x2_1, x2_2, x2_3, x2_4, x2_5⟩ := row6 BX1.out
 have hs := qfp _ ta ca da w2 Fah.out (by omega) (by omega)
 rw [HV2.out] at hs
 have HS := qHd hs; clear hs
 go_wp2_with fail
 clear x2_0 x2_1 x2_2 x2_3 x2_4 x2_5
 (with_reducible refine HS.out.mono ?_); rintro e w3 ⟨rfl, hb3⟩
 clear HS
 have HB3 := qHd (HB2.out.step hb3)
 have Fa := qHd (Fa.out.below hb3)
 have Fal := qHd (Fal.out.below hb3)
 have Fah := qHd (Fah.out.below hb3)
 have BX1 := qHd (qaa BX1.out hb3)
 clear hb3
 obtain ⟨x3_0, x3_1, x3_2, x3_3, x3_4, x3_5⟩ := row6 BX1.out
 obtain ⟨x4_0, x4_1, x4_2, x4_3, x4_4, x4_5⟩ := row6 BX1.out
 have hs := qfi _ (rq sa aa ba) _ (rq ta ca da) w3 (Fal.out.is (by omega) (by omega)) (Fah.out.is (by omega) (by omega)) (by omega) (by omega)
 rw [← HN.out] at hs
 have HS := qHd hs; clear hs
 go_wp2_with fail
 clear x3_0 x3_1 x3_2 x3_3 x3_4 x3_5 x4_0 x4_1 x4_2 x4_3 x4_4 x4_5
 (with_reducible refine HS.out.mono ?_); rintro e w4 ⟨rfl, hb4⟩
 clear HS
 have HB4 := qHd (HB3.out.step hb4)
 have Fa := qHd (Fa.out.below hb4)
 have Fal := qHd (Fal.out.below hb4)
 have Fah := qHd (Fah.out.below hb4)
 have BX1 := qHd (qaa BX1.out hb4)
 clear hb4
 go_wp2_with fail
 go_ret
 exact ⟨by first | rfl | (simp; done), HB4.out⟩
theorem svalid_any (va : Value) (sa : Bool) (aa ba : List Nat) (ta : Bool) (ca da : List Nat) (w : World) (ha : SpV w va sa aa ba ta ca da) (la : aa.length ≤ 40000) (lb : ba.length ≤ 40000) (lc : ca.length ≤ 40000) (ld : da.length ≤ 40000) :
  Calls Tryz.prog 90 #[va] w (qea w (.bool (decide (Vld sa aa ba ∧ Vld ta ca da ∧ rq sa aa ba ≤ rq ta ca da)))) := by
 by_cases hv : Vld sa aa ba
 ·by_cases hu : Vld ta ca da
  ·exact svalid_3 va sa aa ba ta ca da w ha la lb lc ld hv hu
  ·exact svalid_2 va sa aa ba ta ca da w ha la lb lc ld hv hu
 ·exact svalid_1 va sa aa ba ta ca da w ha la lb lc ld hv
def amn (q : Nat → Rat) (s : Nat) : Nat → Rat
 | 0 => q 0
 | k + 1 => mn (amn q s k) (q (k + s))
def amx (q : Nat → Rat) (s : Nat) : Nat → Rat
 | 0 => q 0
 | k + 1 => mx (amx q s k) (q (k + s))
theorem rl_am {q : Nat → Rat} {s m b : Nat} (h0 : rl (q 0) ≤ b) (h : ∀ j, j < m → rl (q (j + s)) ≤ b) : ∀ k, k ≤ m → rl (amn q s k) ≤ b ∧ rl (amx q s k) ≤ b := by
 intro k
 induction k with
 | zero => intro _; exact ⟨h0, h0⟩
 | succ k ih =>
  intro hk
  obtain ⟨i1, i2⟩ := ih (by omega)
  have h1 := rl_mn (amn q s k) (q (k + s)); have h2 := rl_mx (amx q s k) (q (k + s)); have h3 := h k (by omega)
  simp only [amn, amx]; omega
theorem cells3 {w w' : World} {g a b c : Nat} {x y z : Value} (hb : Below w.heap.size w w') (hg : g < w.heap.size) (h : w.cell? ⟨g, a, none⟩ = some x ∧ w.cell? ⟨g, b, none⟩ = some y ∧ w.cell? ⟨g, c, none⟩ = some z) :
  w'.cell? ⟨g, a, none⟩ = some x ∧ w'.cell? ⟨g, b, none⟩ = some y ∧ w'.cell? ⟨g, c, none⟩ = some z :=
 ⟨(hb.cell (p := ⟨g, a, none⟩) hg).trans h.1, (hb.cell (p := ⟨g, b, none⟩) hg).trans h.2.1, (hb.cell (p := ⟨g, c, none⟩) hg).trans h.2.2⟩
def RatsAt (w : World) (g n b : Nat) (q : Nat → Rat) : Prop := ∀ j, j < n → ∃ s o k c a p d, (w.cell? ⟨g, j * 3, none⟩ = some (.bool s) ∧ w.cell? ⟨g, j * 3 + 1, none⟩ = some (.slice o k c) ∧ w.cell? ⟨g, j * 3 + 2, none⟩ = some (.slice a p d)) ∧ qbs w (.agg #[.bool s, .slice o k c, .slice a p d]) (q j) ∧ rl (q j) ≤ b
theorem listOf_any {g m : Nat} (q : Nat → Rat) (w : World) (hm : m ≤ 1000) (hm0 : 0 < m) (hg : g < w.heap.size) (hV : RatsAt w g (m + 1) 40000 q) :
  Calls Tryz.prog 91 #[.slice (some ⟨g, 0, none⟩) (m + 1) (m + 1)] w (RetSp w (amn q 1 m, amx q 1 m)) := by
 have HBW := qHd (Below.refl w.heap.size w)
 obtain ⟨t0, o0, n0, c0, a0, p0, d0, hC0, hF0, hL0⟩ := hV 0 (by omega)
 have hAm := rl_am (q := q) (s := 1) (m := m) (b := 40000) hL0 (fun j hj => by obtain ⟨_, _, _, _, _, _, _, _, _, h⟩ := hV (j + 1) (by omega); exact h)
 have HAM := qHd hAm; have HV := qHd hV; clear hAm hV
 have C0 := qHd (show w.cell? ⟨g, 0, none⟩ = _ ∧ w.cell? ⟨g, 1, none⟩ = _ ∧ w.cell? ⟨g, 2, none⟩ = _ from by simpa using hC0); clear hC0
 have F0 := qHd hF0; clear hF0
 have fm0 : (m = 0) = False := eq_false (by omega)
 have fl0 : decide ((0 : Int) < (((m + 1) : Nat) : Int)) = true := decide_eq_true (by omega)
 obtain ⟨w1, hw1⟩ : ∃ w1, w1 = w.alloc (.cells #[.bool false, .slice none 0 0, .slice none 0 0, .bool false, .slice none 0 0, .slice none 0 0] 56) := ⟨_, rfl⟩
 have hb1 : Below w.heap.size w w1 := by rw [hw1]; exact qBA _ _
 have hx1 := heap_alloc_new w (.cells #[.bool false, .slice none 0 0, .slice none 0 0, .bool false, .slice none 0 0, .slice none 0 0] 56)
 obtain ⟨g1, hg1⟩ : ∃ g, g = w.heap.size := ⟨_, rfl⟩
 rw [← hw1, ← hg1] at hx1
 have lw1 : w.heap.size ≤ g1 := by rw [hg1]; exact HBW.out.size
 have HW1 := qHd hw1; have HG1 := qHd hg1; clear hw1 hg1
 have HB1 := qHd (HBW.out.step hb1)
 have F0 := qHd (F0.out.below hb1)
 have BX1 := qHd hx1; clear hb1 hx1
 go_enter Tryz.func91, Tryz.ntmps91
 go_wp2_with (with_reducible first | refine qad ?_ | refine qai ?_ | refine qaj ?_ | refine qak ?_ | refine qag ?_)
 try rw [← HW1.out]
 try rw [← HG1.out]
 refine qap.mk ?_
 have k1 := rl_mn (q 0) (q 0)
 have k2 := rl_mx (q 0) (q 0)
 refine qao (A := ?aa3) (w := w1) 16 [] (by kernel_rfl) (Fl [KEq (.slice (some ⟨g, 0, none⟩) (m + 1) (m + 1)), KEq (.pointer (some ⟨g, 0, none⟩)), KEq (.agg #[.bool t0, .slice o0 n0 c0, .slice a0 p0 d0]), KEq (.slice (some ⟨g, 0, none⟩) (m + 1) (m + 1)), KEq (.pointer (some ⟨g, 0, none⟩)), KEq (.agg #[.bool t0, .slice o0 n0 c0, .slice a0 p0 d0]), KIs (mn (q 0) (q 0)), KEq (.slice (some ⟨g, 0, none⟩) (m + 1) (m + 1)), KEq (.pointer (some ⟨g, 0, none⟩)), KEq (.agg #[.bool t0, .slice o0 n0 c0, .slice a0 p0 d0]), KEq (.slice (some ⟨g, 0, none⟩) (m + 1) (m + 1)), KEq (.pointer (some ⟨g, 0, none⟩)), KEq (.agg #[.bool t0, .slice o0 n0 c0, .slice a0 p0 d0]), KIs (mx (q 0) (q 0)), KSp ((mn (q 0) (q 0), mx (q 0) (q 0))), KNew w1.heap.size #[.bool false, .slice none 0 0, .slice none 0 0, .bool false, .slice none 0 0, .slice none 0 0] 56]) (fun i => i == 15) (by kernel_rfl) ?hq3 (qcw (qae (kEq _) (qae (kEq _) (qae (kEq _) (qae (kEq _) (qae (kEq _) (qae (kEq _) (qae (kIs _) (qae (kEq _) (qae (kEq _) (qae (kEq _) (qae (kEq _) (qae (kEq _) (qae (kEq _) (qae (kIs _) (qae (kSp _) (qae (kNew _ _ _) qcv))))))))))))))))) ?ha3 ?st3 ?tl3
 case hq3 =>
  intro c a d v w h
  first | (simp only [Exit.then] at h ⊢; exact h) | (simp only [Exit.inBlock, Exit.then] at h ⊢; exact h) | exact h
 case ha3 =>
  intro vals
  simp only [qba, qcd, if_true, Act.put, List.setIfInBounds_toArray, List.set_cons_zero, List.set_cons_succ, List.getElem?_toArray, List.getElem?_cons_zero, List.getElem?_cons_succ, Option.bind_some]
  exact rfl
 case st3 =>
  simp only [List.take_succ_cons, List.take_zero]
  refine qab rfl rfl ?_ (qab rfl rfl ?_ (qab rfl rfl ?_ (qab rfl rfl ?_ (qab rfl rfl ?_ (qab rfl rfl ?_ (qab rfl rfl ?_ (qab rfl rfl ?_ (qab rfl rfl ?_ (qab rfl rfl ?_ (qab rfl rfl ?_ (qab rfl rfl ?_ (qab rfl rfl ?_ (qab rfl rfl ?_ (qab rfl rfl ?_ (qab rfl rfl ?_ (qav))))))))))))))))
  ·intro vals w1 hb hd
   refine qSv ((.slice (some ⟨g, 0, none⟩) (m + 1) (m + 1))) (by go_simp) (qLk rfl rfl)
  ·intro vals w1 hb hd
   rw [show vals 0 = .slice (some ⟨g, 0, none⟩) (m + 1) (m + 1) from hd 0 (by kernel_rfl)]
   refine qSv ((.pointer (some ⟨g, 0, none⟩))) (by go_simp) (qLk rfl rfl)
  ·intro vals w1 hb hd
   rw [show vals 1 = .pointer (some ⟨g, 0, none⟩) from hd 1 (by kernel_rfl)]
   obtain ⟨e0, e1, e2⟩ := cells3 (HB1.out.step hb) hg C0.out
   refine qSv (.agg #[.bool t0, .slice o0 n0 c0, .slice a0 p0 d0]) (by go_simp) (qLk rfl rfl)
  ·intro vals w1 hb hd
   refine qSv ((.slice (some ⟨g, 0, none⟩) (m + 1) (m + 1))) (by go_simp) (qLk rfl rfl)
  ·intro vals w1 hb hd
   rw [show vals 3 = .slice (some ⟨g, 0, none⟩) (m + 1) (m + 1) from hd 3 (by kernel_rfl)]
   refine qSv ((.pointer (some ⟨g, 0, none⟩))) (by go_simp) (qLk rfl rfl)
  ·intro vals w1 hb hd
   rw [show vals 4 = .pointer (some ⟨g, 0, none⟩) from hd 4 (by kernel_rfl)]
   obtain ⟨e0, e1, e2⟩ := cells3 (HB1.out.step hb) hg C0.out
   refine qSv (.agg #[.bool t0, .slice o0 n0 c0, .slice a0 p0 d0]) (by go_simp) (qLk rfl rfl)
  ·intro vals w1 hb hd
   have d2 : KEq (.agg #[.bool t0, .slice o0 n0 c0, .slice a0 p0 d0]) (vals 2) w1 := hd 2 (by kernel_rfl)
   have d5 : KEq (.agg #[.bool t0, .slice o0 n0 c0, .slice a0 p0 d0]) (vals 5) w1 := hd 5 (by kernel_rfl)
   have z2 : vals 2 = _ := d2
   have z5 : vals 5 = _ := d5
   have hs := minq_any _ (q 0) _ (q 0) w1 (F0.out.below hb) (F0.out.below hb) (by omega) (by omega)
   have HS := qHd hs; clear hs
   rw [z2]; clear z2
   rw [z5]; clear z5
   clear d2 d5 hd
   refine qat (by go_simp; first | done | exact ⟨⟨rfl, rfl⟩, rfl⟩) ?_
   (with_reducible refine HS.out.mono ?_); rintro e w2 ⟨v, rfl, hb2, hn⟩
   exact ⟨v, rfl, qar hb2 hn (fun h => by cases h)⟩
  ·intro vals w1 hb hd
   refine qSv ((.slice (some ⟨g, 0, none⟩) (m + 1) (m + 1))) (by go_simp) (qLk rfl rfl)
  ·intro vals w1 hb hd
   rw [show vals 7 = .slice (some ⟨g, 0, none⟩) (m + 1) (m + 1) from hd 7 (by kernel_rfl)]
   refine qSv ((.pointer (some ⟨g, 0, none⟩))) (by go_simp) (qLk rfl rfl)
  ·intro vals w1 hb hd
   rw [show vals 8 = .pointer (some ⟨g, 0, none⟩) from hd 8 (by kernel_rfl)]
   obtain ⟨e0, e1, e2⟩ := cells3 (HB1.out.step hb) hg C0.out
   refine qSv (.agg #[.bool t0, .slice o0 n0 c0, .slice a0 p0 d0]) (by go_simp) (qLk rfl rfl)
  ·intro vals w1 hb hd
   refine qSv ((.slice (some ⟨g, 0, none⟩) (m + 1) (m + 1))) (by go_simp) (qLk rfl rfl)
  ·intro vals w1 hb hd
   rw [show vals 10 = .slice (some ⟨g, 0, none⟩) (m + 1) (m + 1) from hd 10 (by kernel_rfl)]
   refine qSv ((.pointer (some ⟨g, 0, none⟩))) (by go_simp) (qLk rfl rfl)
  ·intro vals w1 hb hd
   rw [show vals 11 = .pointer (some ⟨g, 0, none⟩) from hd 11 (by kernel_rfl)]
   obtain ⟨e0, e1, e2⟩ := cells3 (HB1.out.step hb) hg C0.out
   refine qSv (.agg #[.bool t0, .slice o0 n0 c0, .slice a0 p0 d0]) (by go_simp) (qLk rfl rfl)
  ·intro vals w1 hb hd
   have d9 : KEq (.agg #[.bool t0, .slice o0 n0 c0, .slice a0 p0 d0]) (vals 9) w1 := hd 9 (by kernel_rfl)
   have d12 : KEq (.agg #[.bool t0, .slice o0 n0 c0, .slice a0 p0 d0]) (vals 12) w1 := hd 12 (by kernel_rfl)
   have z9 : vals 9 = _ := d9
   have z12 : vals 12 = _ := d12
   have hs := maxq_any _ (q 0) _ (q 0) w1 (F0.out.below hb) (F0.out.below hb) (by omega) (by omega)
   have HS := qHd hs; clear hs
   rw [z9]; clear z9
   rw [z12]; clear z12
   clear d9 d12 hd
   refine qat (by go_simp; first | done | exact ⟨⟨rfl, rfl⟩, rfl⟩) ?_
   (with_reducible refine HS.out.mono ?_); rintro e w2 ⟨v, rfl, hb2, hn⟩
   exact ⟨v, rfl, qar hb2 hn (fun h => by cases h)⟩
  ·intro vals w1 hb hd
   have d6 : KIs (mn (q 0) (q 0)) (vals 6) w1 := hd 6 (by kernel_rfl)
   have R6 : Hid (IsR w1 (vals 6) (mn (q 0) (q 0))) := qHd d6
   have d13 : KIs (mx (q 0) (q 0)) (vals 13) w1 := hd 13 (by kernel_rfl)
   have R13 : Hid (IsR w1 (vals 13) (mx (q 0) (q 0))) := qHd d13
   obtain ⟨sx, ox, nx, cx, ax, mx, ex, zx⟩ := R6.out.shape
   have qx := R6.out; rw [zx] at qx; rw [zx]
   obtain ⟨sy, oy, ny, cy, ay, my, ey, zy⟩ := R13.out.shape
   have qy := R13.out; rw [zy] at qy; rw [zy]
   refine qaq (v := .agg #[.bool sx, .slice ox nx cx, .slice ax mx ex, .bool sy, .slice oy ny cy, .slice ay my ey]) (w' := w1) (by go_simp) (qar (Below.refl _ _) (isSp_of qx qy) (fun h => by cases h))
  ·intro vals w1 hb hd
   refine qaq (v := .pointer (some ⟨w1.heap.size, 0, none⟩)) (w' := w1.alloc (.cells #[.bool false, .slice none 0 0, .slice none 0 0, .bool false, .slice none 0 0, .slice none 0 0] 56)) (by go_simp) (qar ((Below.refl _ _).alloc (Nat.le_refl _) _) ⟨_, hb.size, rfl, heap_alloc_new _ _⟩ (fun _ => ⟨rfl, by simp⟩))
 case tl3 =>
  intro vals w2 hb2 hf hdis
  simp only [List.drop_succ_cons, List.drop_zero]
  obtain ⟨u3_14, hu14⟩ : ∃ u, u = vals 14 := ⟨_, rfl⟩
  have hn3_14 : IsSp w2 (vals 14) ((mn (q 0) (q 0), mx (q 0) (q 0))) := hf 14 (by decide)
  rw [← hu14] at hn3_14 ⊢; clear hu14
  obtain ⟨g3_15, hg3_15, ev15, hz3_15⟩ : KNew w1.heap.size #[.bool false, .slice none 0 0, .slice none 0 0, .bool false, .slice none 0 0, .slice none 0 0] 56 (vals 15) w2 := hf 15 (by decide)
  have eq15 := ev15
  rw [ev15]; clear ev15
  have lw3_15 : w.heap.size ≤ g3_15 := Nat.le_trans HB1.out.size hg3_15
  have ltBX13_15 : g1 < g3_15 := Nat.lt_of_lt_of_le (qaw BX1.out) hg3_15
  clear hf hdis eq15
  have HB2 := qHd (HB1.out.step hb2)
  have F0 := qHd (F0.out.below hb2)
  have BX1 := qHd (qaa BX1.out hb2)
  clear hb2
  have BX3_15 := qHd hz3_15; clear hz3_15 hg3_15
  have N3_14 := qHd hn3_14; clear hn3_14
  obtain ⟨s4, o4, n4, c4, a4, m4, d4, s4x, o4x, n4x, c4x, a4x, m4x, d4x, rfl⟩ := N3_14.out.shape
  have N3_14l := qHd (show IsR _ _ (mn (q 0) (q 0)) from (qci N3_14.out).1); have N3_14h := qHd (show IsR _ _ (mx (q 0) (q 0)) from (qci N3_14.out).2)
  skip
  go_wp2_with (with_reducible refine qaf ?_)
  refine qan g3_15 0 [.bool s4, .slice o4 n4 c4, .slice a4 m4 d4, .bool s4x, .slice o4x n4x c4x, .slice a4x m4x d4x] BX3_15.out rfl rfl (Nat.le_of_ble_eq_true rfl) (by kernel_rfl) rfl ?_
  intro w3 hp3
  have F0 := qHd (putL_R hp3 F0.out BX3_15.out noW6)
  have N3_14 := qHd (putL_SI hp3 N3_14.out BX3_15.out noW6)
  have N3_14l := qHd (qbq hp3 N3_14l.out BX3_15.out noW6)
  have N3_14h := qHd (qbq hp3 N3_14h.out BX3_15.out noW6)
  have BX1 := qHd (qbr hp3 BX1.out (by omega))
  have nx3 : w3.heap[g3_15]? = some (.cells #[.bool s4, .slice o4 n4 c4, .slice a4 m4 d4, .bool s4x, .slice o4x n4x c4x, .slice a4x m4x d4x] 56) := by rw [hp3]; exact putL_6 BX3_15.out
  have BX3_15 := qHd nx3; clear nx3
  have HB3 := qHd (qbl hp3 HB2.out (by omega))
  clear hp3
  go_wp2_with (with_reducible first | refine qad ?_ | refine qai ?_ | refine qaj ?_ | refine qak ?_ | refine qag ?_)
  refine qap.mk ?_
  have hN := N3_14.out
  rw [mn_self, mx_self] at hN
  have HN := qHd hN; clear hN
  go_loopw [24] (fun kv wr => ∃ (k : Nat) (s1 : Bool) (o1 : Option Addr) (n1 c1 : Nat) (a1 : Option Addr) (p1 d1 : Nat) (s2 : Bool) (o2 : Option Addr) (n2 c2 : Nat) (a2 : Option Addr) (p2 d2 : Nat), k ≤ m ∧ kv = .int .i64 k ∧ Hid (wr.heap[g3_15]? = some (.cells #[.bool s1, .slice o1 n1 c1, .slice a1 p1 d1, .bool s2, .slice o2 n2 c2, .slice a2 p2 d2] 56)) ∧ IsSp wr (.agg #[.bool s1, .slice o1 n1 c1, .slice a1 p1 d1, .bool s2, .slice o2 n2 c2, .slice a2 p2 d2]) (amn q 1 k, amx q 1 k) ∧
    Hid (wr.heap[g1]? = some (.cells #[.bool false, .slice none 0 0, .slice none 0 0, .bool false, .slice none 0 0, .slice none 0 0] 56)) ∧ Below w.heap.size w wr) (fun kv _ => m - (intOf kv).toNat)
  case atStart => exact ⟨0, s4, o4, n4, c4, a4, m4, d4, s4x, o4x, n4x, c4x, a4x, m4x, d4x, Nat.zero_le _, rfl, BX3_15, HN.out, BX1, HB3.out⟩
  case round =>
   obtain ⟨k, s1, o1, n1, c1, a1, p1, d1, s2, o2, n2, c2, a2, p2, d2, hk, rfl, hxA, hIS, hxR, hBr⟩ := hrel
   have HBR := qHd hBr; have HIS := qHd hIS; clear hBr hIS
   have BXA := hxA; have BXR := hxR
   obtain ⟨hrn, hrx⟩ := HAM.out k hk
   have HISl := qHd (qci HIS.out).1; have HISh := qHd (qci HIS.out).2
   skip
   by_cases hkm : k < m
   ·skip
    obtain ⟨t9, u9, x9, y9, z9, r9, h9, hC1, hF1, hL1⟩ := HV.out (k + 1) (by omega)
    have CE := qHd (show w.cell? ⟨g, 3 + k * 3, none⟩ = _ ∧ w.cell? ⟨g, 3 + k * 3 + 1, none⟩ = _ ∧ w.cell? ⟨g, 3 + k * 3 + 2, none⟩ = _ from by rw [show 3 + k * 3 = (k + 1) * 3 by omega]; exact hC1); clear hC1
    have FE := qHd (hF1.below HBR.out); clear hF1
    have hf1 : decide ((k : Int) < (m : Int)) = true := decide_eq_true (by omega)
    obtain ⟨x5_0, x5_1, x5_2⟩ := cells3 HBR.out hg CE.out
    obtain ⟨w14, hw14⟩ : ∃ w14, w14 = wr.alloc (.cells #[.bool t9, .slice u9 x9 y9, .slice z9 r9 h9] 54) := ⟨_, rfl⟩
    have hb14 : Below wr.heap.size wr w14 := by rw [hw14]; exact qBA _ _
    have hx14 := heap_alloc_new wr (.cells #[.bool t9, .slice u9 x9 y9, .slice z9 r9 h9] 54)
    obtain ⟨g14, hg14⟩ : ∃ g, g = wr.heap.size := ⟨_, rfl⟩
    rw [← hw14, ← hg14] at hx14
    have lw14 : w.heap.size ≤ g14 := by rw [hg14]; exact HBR.out.size
    have ltBXR14 : g1 < g14 := by rw [hg14]; exact qaw BXR.out
    have ltBXA14 : g3_15 < g14 := by rw [hg14]; exact qaw BXA.out
    have HW14 := qHd hw14; have HG14 := qHd hg14; clear hw14 hg14
    have HB14 := qHd (HBR.out.step hb14)
    have HIS := qHd (HIS.out.below hb14)
    have HISl := qHd (HISl.out.below hb14)
    have HISh := qHd (HISh.out.below hb14)
    have FE := qHd (FE.out.below hb14)
    have BXR := qHd (qaa BXR.out hb14)
    have BXA := qHd (qaa BXA.out hb14)
    have BX14 := qHd hx14; clear hb14 hx14
    try rw [HG14.out] at x5_0
    try rw [HG14.out] at x5_1
    try rw [HG14.out] at x5_2
    go_wp2_with (with_reducible first | refine qad ?_ | refine qai ?_ | refine qaj ?_ | refine qak ?_ | refine qag ?_)
    try rw [← HW14.out]
    try rw [← HG14.out]
    clear x5_0 x5_1 x5_2
    refine qap.mk ?_
    have k6 := rl_mn (amn q 1 k) (q (k + 1))
    have k7 := rl_mx (amx q 1 k) (q (k + 1))
    refine qao (A := ?aa8) (w := w14) 9 [] (by kernel_rfl) (Fl [KEq (.pointer (some ⟨g3_15, 0, none⟩)), KEq (.agg #[.bool s1, .slice o1 n1 c1, .slice a1 p1 d1]), KEq (.agg #[.bool t9, .slice u9 x9 y9, .slice z9 r9 h9]), KIs (mn (amn q 1 k) (q (k + 1))), KEq (.pointer (some ⟨g3_15, 3, none⟩)), KEq (.agg #[.bool s2, .slice o2 n2 c2, .slice a2 p2 d2]), KEq (.agg #[.bool t9, .slice u9 x9 y9, .slice z9 r9 h9]), KIs (mx (amx q 1 k) (q (k + 1))), KEq (.pointer (some ⟨g3_15, 0, none⟩))]) (fun i => false) (by kernel_rfl) ?hq8 (qcw (qae (kEq _) (qae (kEq _) (qae (kEq _) (qae (kIs _) (qae (kEq _) (qae (kEq _) (qae (kEq _) (qae (kIs _) (qae (kEq _) qcv)))))))))) ?ha8 ?st8 ?tl8
    case hq8 =>
     intro c a d v w h
     first | (simp only [Exit.then] at h ⊢; exact h) | (simp only [Exit.inBlock, Exit.then] at h ⊢; exact h) | exact h
    case ha8 =>
     intro vals
     simp only [qba, qcd, if_true, Act.put, List.setIfInBounds_toArray, List.set_cons_zero, List.set_cons_succ, List.getElem?_toArray, List.getElem?_cons_zero, List.getElem?_cons_succ, Option.bind_some]
     exact rfl
    case st8 =>
     simp only [List.take_succ_cons, List.take_zero]
     refine qab rfl rfl ?_ (qab rfl rfl ?_ (qab rfl rfl ?_ (qab rfl rfl ?_ (qab rfl rfl ?_ (qab rfl rfl ?_ (qab rfl rfl ?_ (qab rfl rfl ?_ (qab rfl rfl ?_ (qav)))))))))
     ·intro vals w1 hb hd
      refine qSv ((.pointer (some ⟨g3_15, 0, none⟩))) (by go_simp) (qLk rfl rfl)
     ·intro vals w1 hb hd
      rw [show vals 0 = .pointer (some ⟨g3_15, 0, none⟩) from hd 0 (by kernel_rfl)]
      obtain ⟨e0, e1, e2, e3, e4, e5⟩ := row6 (qaa BXA.out hb)
      refine qSv (.agg #[.bool s1, .slice o1 n1 c1, .slice a1 p1 d1]) (by go_simp) (qLk rfl rfl)
     ·intro vals w1 hb hd
      obtain ⟨e0, e1, e2⟩ := qay (qaa BX14.out hb)
      refine qSv (.agg #[.bool t9, .slice u9 x9 y9, .slice z9 r9 h9]) (by go_simp) (qLk rfl rfl)
     ·intro vals w1 hb hd
      have d1 : KEq (.agg #[.bool s1, .slice o1 n1 c1, .slice a1 p1 d1]) (vals 1) w1 := hd 1 (by kernel_rfl)
      have d2 : KEq (.agg #[.bool t9, .slice u9 x9 y9, .slice z9 r9 h9]) (vals 2) w1 := hd 2 (by kernel_rfl)
      have z1 : vals 1 = _ := d1
      have z2 : vals 2 = _ := d2
      have hs := minq_any _ (amn q 1 k) _ (q (k + 1)) w1 ((HISl.out.below hb).is (by omega)) (FE.out.below hb) (by omega) (by omega)
      have HS := qHd hs; clear hs
      rw [z1]; clear z1
      rw [z2]; clear z2
      clear d1 d2 hd
      refine qat (by go_simp; first | done | exact ⟨⟨rfl, rfl⟩, rfl⟩) ?_
      (with_reducible refine HS.out.mono ?_); rintro e w2 ⟨v, rfl, hb2, hn⟩
      exact ⟨v, rfl, qar hb2 hn (fun h => by cases h)⟩
     ·intro vals w1 hb hd
      refine qSv ((.pointer (some ⟨g3_15, 3, none⟩))) (by go_simp) (qLk rfl rfl)
     ·intro vals w1 hb hd
      rw [show vals 4 = .pointer (some ⟨g3_15, 3, none⟩) from hd 4 (by kernel_rfl)]
      obtain ⟨e0, e1, e2, e3, e4, e5⟩ := row6 (qaa BXA.out hb)
      refine qSv (.agg #[.bool s2, .slice o2 n2 c2, .slice a2 p2 d2]) (by go_simp) (qLk rfl rfl)
     ·intro vals w1 hb hd
      obtain ⟨e0, e1, e2⟩ := qay (qaa BX14.out hb)
      refine qSv (.agg #[.bool t9, .slice u9 x9 y9, .slice z9 r9 h9]) (by go_simp) (qLk rfl rfl)
     ·intro vals w1 hb hd
      have d5 : KEq (.agg #[.bool s2, .slice o2 n2 c2, .slice a2 p2 d2]) (vals 5) w1 := hd 5 (by kernel_rfl)
      have d6 : KEq (.agg #[.bool t9, .slice u9 x9 y9, .slice z9 r9 h9]) (vals 6) w1 := hd 6 (by kernel_rfl)
      have z5 : vals 5 = _ := d5
      have z6 : vals 6 = _ := d6
      have hs := maxq_any _ (amx q 1 k) _ (q (k + 1)) w1 ((HISh.out.below hb).is (by omega)) (FE.out.below hb) (by omega) (by omega)
      have HS := qHd hs; clear hs
      rw [z5]; clear z5
      rw [z6]; clear z6
      clear d5 d6 hd
      refine qat (by go_simp; first | done | exact ⟨⟨rfl, rfl⟩, rfl⟩) ?_
      (with_reducible refine HS.out.mono ?_); rintro e w2 ⟨v, rfl, hb2, hn⟩
      exact ⟨v, rfl, qar hb2 hn (fun h => by cases h)⟩
     ·intro vals w1 hb hd
      refine qSv ((.pointer (some ⟨g3_15, 0, none⟩))) (by go_simp) (qLk rfl rfl)
    case tl8 =>
     intro vals w15 hb15 hf hdis
     simp only [List.drop_succ_cons, List.drop_zero]
     obtain ⟨u8_3, hu3⟩ : ∃ u, u = vals 3 := ⟨_, rfl⟩
     have hn8_3 : IsR w15 (vals 3) (mn (amn q 1 k) (q (k + 1))) := hf 3 (by decide)
     rw [← hu3] at hn8_3 ⊢; clear hu3
     obtain ⟨u8_7, hu7⟩ : ∃ u, u = vals 7 := ⟨_, rfl⟩
     have hn8_7 : IsR w15 (vals 7) (mx (amx q 1 k) (q (k + 1))) := hf 7 (by decide)
     rw [← hu7] at hn8_7 ⊢; clear hu7
     have z8 : vals 8 = _ := hf 8 (by decide)
     try rw [z8]
     clear z8
     clear hf hdis
     have HB15 := qHd (HB14.out.step hb15)
     have HIS := qHd (HIS.out.below hb15)
     have HISl := qHd (HISl.out.below hb15)
     have HISh := qHd (HISh.out.below hb15)
     have FE := qHd (FE.out.below hb15)
     have BXR := qHd (qaa BXR.out hb15)
     have BXA := qHd (qaa BXA.out hb15)
     have BX14 := qHd (qaa BX14.out hb15)
     clear hb15
     have N8_3 := qHd hn8_3; clear hn8_3
     obtain ⟨s9, o9, n9, c9, a9, m9, d9, rfl⟩ := N8_3.out.shape
     have N8_7 := qHd hn8_7; clear hn8_7
     obtain ⟨s10, o10, n10, c10, a10, m10, d10, rfl⟩ := N8_7.out.shape
     skip
     go_wp2_with (with_reducible refine qaf ?_)
     refine qan g3_15 0 [.bool s9, .slice o9 n9 c9, .slice a9 m9 d9] BXA.out rfl rfl (Nat.le_of_ble_eq_true rfl) (by kernel_rfl) rfl ?_
     intro w16 hp16
     have HIS := qHd (putL_SI hp16 HIS.out BXA.out noW6)
     have HISl := qHd (qbq hp16 HISl.out BXA.out noW6)
     have HISh := qHd (qbq hp16 HISh.out BXA.out noW6)
     have FE := qHd (putL_R hp16 FE.out BXA.out noW6)
     have N8_3 := qHd (qbq hp16 N8_3.out BXA.out noW6)
     have N8_7 := qHd (qbq hp16 N8_7.out BXA.out noW6)
     have BXR := qHd (qbr hp16 BXR.out (by omega))
     have BX14 := qHd (qbr hp16 BX14.out (by omega))
     have nx16 : w16.heap[g3_15]? = some (.cells #[.bool s9, .slice o9 n9 c9, .slice a9 m9 d9, .bool s2, .slice o2 n2 c2, .slice a2 p2 d2] 56) := by rw [hp16]; exact putL_0 BXA.out
     have BXA := qHd nx16; clear nx16
     have HB16 := qHd (qbl hp16 HB15.out (by omega))
     clear hp16
     go_wp2_with (with_reducible refine qaf ?_)
     refine qan g3_15 3 [.bool s10, .slice o10 n10 c10, .slice a10 m10 d10] BXA.out rfl rfl (Nat.le_of_ble_eq_true rfl) (by kernel_rfl) rfl ?_
     intro w17 hp17
     have HIS := qHd (putL_SI hp17 HIS.out BXA.out noW6)
     have HISl := qHd (qbq hp17 HISl.out BXA.out noW6)
     have HISh := qHd (qbq hp17 HISh.out BXA.out noW6)
     have FE := qHd (putL_R hp17 FE.out BXA.out noW6)
     have N8_3 := qHd (qbq hp17 N8_3.out BXA.out noW6)
     have N8_7 := qHd (qbq hp17 N8_7.out BXA.out noW6)
     have BXR := qHd (qbr hp17 BXR.out (by omega))
     have BX14 := qHd (qbr hp17 BX14.out (by omega))
     have nx17 : w17.heap[g3_15]? = some (.cells #[.bool s9, .slice o9 n9 c9, .slice a9 m9 d9, .bool s10, .slice o10 n10 c10, .slice a10 m10 d10] 56) := by rw [hp17]; exact putL_3 BXA.out
     have BXA := qHd nx17; clear nx17
     have HB17 := qHd (qbl hp17 HB16.out (by omega))
     clear hp17
     go_wp2_with (with_reducible first | refine qad ?_ | refine qai ?_ | refine qaj ?_ | refine qak ?_ | refine qag ?_)
     refine qap.mk ?_
     go_roundw
     case rel => exact ⟨k + 1, s9, o9, n9, c9, a9, m9, d9, s10, o10, n10, c10, a10, m10, d10, hkm, by go_num, BXA, isSp_of N8_3.out N8_7.out, BXR, HB17.out⟩
     case measure => simp [intOf]; omega
   ·skip
    obtain rfl : k = m := by omega
    have hf1 : decide ((k : Int) < (k : Int)) = false := decide_eq_false (by omega)
    obtain ⟨x55_0, x55_1, x55_2, x55_3, x55_4, x55_5⟩ := row6 BXA.out
    go_wp2_with (with_reducible refine qaf ?_)
    clear x55_0 x55_1 x55_2 x55_3 x55_4 x55_5
    refine qan g1 0 [.bool s1, .slice o1 n1 c1, .slice a1 p1 d1, .bool s2, .slice o2 n2 c2, .slice a2 p2 d2] BXR.out rfl rfl (Nat.le_of_ble_eq_true rfl) (by kernel_rfl) rfl ?_
    intro w64 hp64
    have HIS := qHd (putL_SI hp64 HIS.out BXR.out noW6)
    have HISl := qHd (qbq hp64 HISl.out BXR.out noW6)
    have HISh := qHd (qbq hp64 HISh.out BXR.out noW6)
    have BXA := qHd (qbr hp64 BXA.out (by omega))
    have nx64 : w64.heap[g1]? = some (.cells #[.bool s1, .slice o1 n1 c1, .slice a1 p1 d1, .bool s2, .slice o2 n2 c2, .slice a2 p2 d2] 56) := by rw [hp64]; exact putL_6 BXR.out
    have BXR := qHd nx64; clear nx64
    have HB64 := qHd (qbl hp64 HBR.out (by omega))
    clear hp64
    obtain ⟨x56_0, x56_1, x56_2, x56_3, x56_4, x56_5⟩ := row6 BXR.out
    go_wp2_with (with_reducible first | refine qad ?_ | refine qai ?_ | refine qaj ?_ | refine qak ?_ | refine qag ?_)
    clear x56_0 x56_1 x56_2 x56_3 x56_4 x56_5
    refine qap.mk ?_
    refine ret_span rfl g1 _ _ _ _ _ _ (by first | rfl | exact rfl) BXR.out rfl ?_
    exact ⟨_, rfl, HB64.out, HIS.out⟩
theorem of2 {g : Nat} {sg0 : Bool} {og0 ag0 : Option Addr} {ng0 cg0 mg0 dg0 : Nat} {qg0 : Rat} {sg1 : Bool} {og1 ag1 : Option Addr} {ng1 cg1 mg1 dg1 : Nat} {qg1 : Rat} (w : World) (hg : w.heap[g]? = some (.cells #[.bool sg0, .slice og0 ng0 cg0, .slice ag0 mg0 dg0, .bool sg1, .slice og1 ng1 cg1, .slice ag1 mg1 dg1] 54)) (hg0 : qbs w (.agg #[.bool sg0, .slice og0 ng0 cg0, .slice ag0 mg0 dg0]) qg0) (lg0 : rl qg0 ≤ 40000) (hg1 : qbs w (.agg #[.bool sg1, .slice og1 ng1 cg1, .slice ag1 mg1 dg1]) qg1) (lg1 : rl qg1 ≤ 40000) :
  Calls Tryz.prog 91 #[.slice (some ⟨g, 0, none⟩) 2 2] w (RetSp w (around2 qg0 qg1)) := by
 have hV : RatsAt w g 2 40000 (fun j => if j = 0 then qg0 else qg1) := by
  intro j hj
  rw [cell_of_row w g _ _ 54 (0, 0) hg, cell_of_row w g _ _ 54 (0, 0) hg, cell_of_row w g _ _ 54 (0, 0) hg]
  match j, hj with
  | 0, _ => exact ⟨_, _, _, _, _, _, _, ⟨rfl, rfl, rfl⟩, hg0, lg0⟩
  | 1, _ => exact ⟨_, _, _, _, _, _, _, ⟨rfl, rfl, rfl⟩, hg1, lg1⟩
 have h := listOf_any (fun j => if j = 0 then qg0 else qg1) w (m := 1) (by decide) (by decide) (Array.getElem?_eq_some_iff.1 hg).1 hV
 exact h
theorem norm_1 (va : Value) (sa : Bool) (aa ba : List Nat) (ta : Bool) (ca da : List Nat) (w : World) (ha : SpV w va sa aa ba ta ca da) (la : aa.length ≤ 40000) (lb : ba.length ≤ 40000) (lc : ca.length ≤ 40000) (ld : da.length ≤ 40000) (hv : ¬ (Vld sa aa ba ∧ Vld ta ca da ∧ rq sa aa ba ≤ rq ta ca da)) :
  Calls Tryz.prog 52 #[va] w (RetSp w (0, 0)) := by
 have HBW := qHd (Below.refl w.heap.size w)
 have kz0 : rl 0 ≤ 1 := by rw [qeo]; exact Nat.le_refl _
 obtain ⟨qa, oa, na, ka, pa, ma, ra, qax, oax, nax, kax, pax, max, rax, rfl⟩ := ha.shape
 have HV := qHd (decide_eq_false hv); clear hv
 have Fa := qHd ha; clear ha
 have Fal := qHd (spV_ends Fa.out).1; have Fah := qHd (spV_ends Fa.out).2
 obtain ⟨w1, hw1⟩ : ∃ w1, w1 = w.alloc (.cells #[.bool qa, .slice oa na ka, .slice pa ma ra, .bool qax, .slice oax nax kax, .slice pax max rax] 56) := ⟨_, rfl⟩
 have hb1 : Below w.heap.size w w1 := by rw [hw1]; exact qBA _ _
 have hx1 := heap_alloc_new w (.cells #[.bool qa, .slice oa na ka, .slice pa ma ra, .bool qax, .slice oax nax kax, .slice pax max rax] 56)
 obtain ⟨g1, hg1⟩ : ∃ g, g = w.heap.size := ⟨_, rfl⟩
 rw [← hw1, ← hg1] at hx1
 have lw1 : w.heap.size ≤ g1 := by rw [hg1]; exact HBW.out.size
 have HW1 := qHd hw1; have HG1 := qHd hg1; clear hw1 hg1
 have HB1 := qHd (HBW.out.step hb1)
 have Fa := qHd (Fa.out.below hb1)
 have Fal := qHd (Fal.out.below hb1)
 have Fah := qHd (Fah.out.below hb1)
 have BX1 := qHd hx1; clear hb1 hx1
 obtain ⟨w2, hw2⟩ : ∃ w2, w2 = w1.alloc (.cells #[.bool false, .slice none 0 0, .slice none 0 0, .bool false, .slice none 0 0, .slice none 0 0] 56) := ⟨_, rfl⟩
 have hb2 : Below w1.heap.size w1 w2 := by rw [hw2]; exact qBA _ _
 have hx2 := heap_alloc_new w1 (.cells #[.bool false, .slice none 0 0, .slice none 0 0, .bool false, .slice none 0 0, .slice none 0 0] 56)
 obtain ⟨g2, hg2⟩ : ∃ g, g = w1.heap.size := ⟨_, rfl⟩
 rw [← hw2, ← hg2] at hx2
 have lw2 : w.heap.size ≤ g2 := by rw [hg2]; exact HB1.out.size
 have ltBX12 : g1 < g2 := by rw [hg2]; exact qaw BX1.out
 have hs2 : g2 = w.heap.size + 1 := by rw [hg2, HW1.out]; simp
 have HS2 := qHd hs2; clear hs2
 have HW2 := qHd hw2; have HG2 := qHd hg2; clear hw2 hg2
 have HB2 := qHd (HB1.out.step hb2)
 have Fa := qHd (Fa.out.below hb2)
 have Fal := qHd (Fal.out.below hb2)
 have Fah := qHd (Fah.out.below hb2)
 have BX1 := qHd (qaa BX1.out hb2)
 have BX2 := qHd hx2; clear hb2 hx2
 go_enter Tryz.func52, Tryz.ntmps52
 obtain ⟨x1_0, x1_1, x1_2, x1_3, x1_4, x1_5⟩ := row6 BX1.out
 have hs := svalid_any _ sa aa ba ta ca da w2 Fa.out (by omega) (by omega) (by omega) (by omega)
 rw [HV.out] at hs
 have HS := qHd hs; clear hs
 try rw [HW2.out] at x1_0
 try rw [HG2.out] at x1_0
 try rw [HW1.out] at x1_0
 try rw [HG1.out] at x1_0
 try rw [HW2.out] at x1_1
 try rw [HG2.out] at x1_1
 try rw [HW1.out] at x1_1
 try rw [HG1.out] at x1_1
 try rw [HW2.out] at x1_2
 try rw [HG2.out] at x1_2
 try rw [HW1.out] at x1_2
 try rw [HG1.out] at x1_2
 try rw [HW2.out] at x1_3
 try rw [HG2.out] at x1_3
 try rw [HW1.out] at x1_3
 try rw [HG1.out] at x1_3
 try rw [HW2.out] at x1_4
 try rw [HG2.out] at x1_4
 try rw [HW1.out] at x1_4
 try rw [HG1.out] at x1_4
 try rw [HW2.out] at x1_5
 try rw [HG2.out] at x1_5
 try rw [HW1.out] at x1_5
 try rw [HG1.out] at x1_5
 go_wp2_with (with_reducible first | refine qad ?_ | refine qai ?_ | refine qaj ?_ | refine qak ?_ | refine qag ?_)
 try rw [← HW1.out]
 try rw [← HW2.out]
 try rw [← HS2.out]
 try rw [← HG1.out]
 try rw [← HG2.out]
 clear x1_0 x1_1 x1_2 x1_3 x1_4 x1_5
 refine qap.mk ?_
 (with_reducible refine HS.out.mono ?_); rintro e w3 ⟨rfl, hb3⟩
 clear HS
 have HB3 := qHd (HB2.out.step hb3)
 have Fa := qHd (Fa.out.below hb3)
 have Fal := qHd (Fal.out.below hb3)
 have Fah := qHd (Fah.out.below hb3)
 have BX1 := qHd (qaa BX1.out hb3)
 have BX2 := qHd (qaa BX2.out hb3)
 clear hb3
 go_wp2_with (with_reducible refine qaf ?_)
 refine qan g2 0 [.bool false, .slice none 0 0, .slice none 0 0, .bool false, .slice none 0 0, .slice none 0 0] BX2.out rfl rfl (Nat.le_of_ble_eq_true rfl) (by kernel_rfl) rfl ?_
 intro w4 hp4
 have Fa := qHd (putL_SV hp4 Fa.out BX2.out noW6)
 have Fal := qHd (putL_V hp4 Fal.out BX2.out noW6)
 have Fah := qHd (putL_V hp4 Fah.out BX2.out noW6)
 have BX1 := qHd (qbr hp4 BX1.out (by omega))
 have nx4 : w4.heap[g2]? = some (.cells #[.bool false, .slice none 0 0, .slice none 0 0, .bool false, .slice none 0 0, .slice none 0 0] 56) := by rw [hp4]; exact putL_6 BX2.out
 have BX2 := qHd nx4; clear nx4
 have HB4 := qHd (qbl hp4 HB3.out (by omega))
 clear hp4
 obtain ⟨x2_0, x2_1, x2_2, x2_3, x2_4, x2_5⟩ := row6 BX2.out
 go_wp2_with (with_reducible first | refine qad ?_ | refine qai ?_ | refine qaj ?_ | refine qak ?_ | refine qag ?_)
 clear x2_0 x2_1 x2_2 x2_3 x2_4 x2_5
 refine qap.mk ?_
 refine ret_span rfl g2 _ _ _ _ _ _ (by first | rfl | exact rfl) BX2.out rfl ?_
 exact ⟨_, rfl, HB4.out, (isSp_zero _)⟩
theorem norm_2 (va : Value) (sa : Bool) (aa ba : List Nat) (ta : Bool) (ca da : List Nat) (w : World) (ha : SpV w va sa aa ba ta ca da) (la : aa.length ≤ 40000) (lb : ba.length ≤ 40000) (lc : ca.length ≤ 40000) (ld : da.length ≤ 40000) (hv : Vld sa aa ba ∧ Vld ta ca da ∧ rq sa aa ba ≤ rq ta ca da) :
  Calls Tryz.prog 52 #[va] w (RetSp w (rq sa aa ba, rq ta ca da)) := by
 have HBW := qHd (Below.refl w.heap.size w)
 have kz0 : rl 0 ≤ 1 := by rw [qeo]; exact Nat.le_refl _
 obtain ⟨qa, oa, na, ka, pa, ma, ra, qax, oax, nax, kax, pax, max, rax, rfl⟩ := ha.shape
 have k1 : rl (rq sa aa ba) ≤ 40000 := rl_rq ha.lt.1.1 ha.lt.1.2 la lb (by decide); have k2 : rl (rq ta ca da) ≤ 40000 := rl_rq ha.lt.2.1 ha.lt.2.2 lc ld (by decide)
 have HV := qHd (decide_eq_true hv); have HV1 := qHd hv.1; have HV2 := qHd hv.2.1; have HV3 := qHd (around2_le hv.2.2); clear hv
 have Fa := qHd ha; clear ha
 have Fal := qHd (spV_ends Fa.out).1; have Fah := qHd (spV_ends Fa.out).2
 obtain ⟨w1, hw1⟩ : ∃ w1, w1 = w.alloc (.cells #[.bool qa, .slice oa na ka, .slice pa ma ra, .bool qax, .slice oax nax kax, .slice pax max rax] 56) := ⟨_, rfl⟩
 have hb1 : Below w.heap.size w w1 := by rw [hw1]; exact qBA _ _
 have hx1 := heap_alloc_new w (.cells #[.bool qa, .slice oa na ka, .slice pa ma ra, .bool qax, .slice oax nax kax, .slice pax max rax] 56)
 obtain ⟨g1, hg1⟩ : ∃ g, g = w.heap.size := ⟨_, rfl⟩
 rw [← hw1, ← hg1] at hx1
 have lw1 : w.heap.size ≤ g1 := by rw [hg1]; exact HBW.out.size
 have HW1 := qHd hw1; have HG1 := qHd hg1; clear hw1 hg1
 have HB1 := qHd (HBW.out.step hb1)
 have Fa := qHd (Fa.out.below hb1)
 have Fal := qHd (Fal.out.below hb1)
 have Fah := qHd (Fah.out.below hb1)
 have BX1 := qHd hx1; clear hb1 hx1
 obtain ⟨w2, hw2⟩ : ∃ w2, w2 = w1.alloc (.cells #[.bool false, .slice none 0 0, .slice none 0 0, .bool false, .slice none 0 0, .slice none 0 0] 56) := ⟨_, rfl⟩
 have hb2 : Below w1.heap.size w1 w2 := by rw [hw2]; exact qBA _ _
 have hx2 := heap_alloc_new w1 (.cells #[.bool false, .slice none 0 0, .slice none 0 0, .bool false, .slice none 0 0, .slice none 0 0] 56)
 obtain ⟨g2, hg2⟩ : ∃ g, g = w1.heap.size := ⟨_, rfl⟩
 rw [← hw2, ← hg2] at hx2
 have lw2 : w.heap.size ≤ g2 := by rw [hg2]; exact HB1.out.size
 have ltBX12 : g1 < g2 := by rw [hg2]; exact qaw BX1.out
 have hs2 : g2 = w.heap.size + 1 := by rw [hg2, HW1.out]; simp
 have HS2 := qHd hs2; clear hs2
 have HW2 := qHd hw2; have HG2 := qHd hg2; clear hw2 hg2
 have HB2 := qHd (HB1.out.step hb2)
 have Fa := qHd (Fa.out.below hb2)
 have Fal := qHd (Fal.out.below hb2)
 have Fah := qHd (Fah.out.below hb2)
 have BX1 := qHd (qaa BX1.out hb2)
 have BX2 := qHd hx2; clear hb2 hx2
 go_enter Tryz.func52, Tryz.ntmps52
 obtain ⟨x1_0, x1_1, x1_2, x1_3, x1_4, x1_5⟩ := row6 BX1.out
 have hs := svalid_any _ sa aa ba ta ca da w2 Fa.out (by omega) (by omega) (by omega) (by omega)
 rw [HV.out] at hs
 have HS := qHd hs; clear hs
 try rw [HW2.out] at x1_0
 try rw [HG2.out] at x1_0
 try rw [HW1.out] at x1_0
 try rw [HG1.out] at x1_0
 try rw [HW2.out] at x1_1
 try rw [HG2.out] at x1_1
 try rw [HW1.out] at x1_1
 try rw [HG1.out] at x1_1
 try rw [HW2.out] at x1_2
 try rw [HG2.out] at x1_2
 try rw [HW1.out] at x1_2
 try rw [HG1.out] at x1_2
 try rw [HW2.out] at x1_3
 try rw [HG2.out] at x1_3
 try rw [HW1.out] at x1_3
 try rw [HG1.out] at x1_3
 try rw [HW2.out] at x1_4
 try rw [HG2.out] at x1_4
 try rw [HW1.out] at x1_4
 try rw [HG1.out] at x1_4
 try rw [HW2.out] at x1_5
 try rw [HG2.out] at x1_5
 try rw [HW1.out] at x1_5
 try rw [HG1.out] at x1_5
 go_wp2_with (with_reducible first | refine qad ?_ | refine qai ?_ | refine qaj ?_ | refine qak ?_ | refine qag ?_)
 try rw [← HW1.out]
 try rw [← HW2.out]
 try rw [← HS2.out]
 try rw [← HG1.out]
 try rw [← HG2.out]
 clear x1_0 x1_1 x1_2 x1_3 x1_4 x1_5
 refine qap.mk ?_
 (with_reducible refine HS.out.mono ?_); rintro e w3 ⟨rfl, hb3⟩
 clear HS
 have HB3 := qHd (HB2.out.step hb3)
 have Fa := qHd (Fa.out.below hb3)
 have Fal := qHd (Fal.out.below hb3)
 have Fah := qHd (Fah.out.below hb3)
 have BX1 := qHd (qaa BX1.out hb3)
 have BX2 := qHd (qaa BX2.out hb3)
 clear hb3
 obtain ⟨x2_0, x2_1, x2_2, x2_3, x2_4, x2_5⟩ := row6 BX1.out
 obtain ⟨x3_0, x3_1, x3_2, x3_3, x3_4, x3_5⟩ := row6 BX1.out
 obtain ⟨w4, hw4⟩ : ∃ w4, w4 = w3.alloc (.cells #[.bool qa, .slice oa na ka, .slice pa ma ra, .bool qax, .slice oax nax kax, .slice pax max rax] 54) := ⟨_, rfl⟩
 have hb4 : Below w3.heap.size w3 w4 := by rw [hw4]; exact qBA _ _
 have hx4 := heap_alloc_new w3 (.cells #[.bool qa, .slice oa na ka, .slice pa ma ra, .bool qax, .slice oax nax kax, .slice pax max rax] 54)
 obtain ⟨g4, hg4⟩ : ∃ g, g = w3.heap.size := ⟨_, rfl⟩
 rw [← hw4, ← hg4] at hx4
 have lw4 : w.heap.size ≤ g4 := by rw [hg4]; exact HB3.out.size
 have ltBX14 : g1 < g4 := by rw [hg4]; exact qaw BX1.out
 have ltBX24 : g2 < g4 := by rw [hg4]; exact qaw BX2.out
 have HW4 := qHd hw4; have HG4 := qHd hg4; clear hw4 hg4
 have HB4 := qHd (HB3.out.step hb4)
 have Fa := qHd (Fa.out.below hb4)
 have Fal := qHd (Fal.out.below hb4)
 have Fah := qHd (Fah.out.below hb4)
 have BX1 := qHd (qaa BX1.out hb4)
 have BX2 := qHd (qaa BX2.out hb4)
 have BX4 := qHd hx4; clear hb4 hx4
 obtain ⟨k4, k5⟩ := rl_around2 (rq sa aa ba) (rq ta ca da)
 have hs := of2 w4 BX4.out (Fal.out.is (by omega) (by omega)) (by omega) (Fah.out.is (by omega) (by omega)) (by omega)
 have HS := qHd hs; clear hs
 try rw [HG4.out] at x2_0
 try rw [HG4.out] at x2_1
 try rw [HG4.out] at x2_2
 try rw [HG4.out] at x2_3
 try rw [HG4.out] at x2_4
 try rw [HG4.out] at x2_5
 try rw [HG4.out] at x3_0
 try rw [HG4.out] at x3_1
 try rw [HG4.out] at x3_2
 try rw [HG4.out] at x3_3
 try rw [HG4.out] at x3_4
 try rw [HG4.out] at x3_5
 go_wp2_with (with_reducible first | refine qad ?_ | refine qai ?_ | refine qaj ?_ | refine qak ?_ | refine qag ?_)
 try rw [← HW4.out]
 try rw [← HG4.out]
 clear x2_0 x2_1 x2_2 x2_3 x2_4 x2_5 x3_0 x3_1 x3_2 x3_3 x3_4 x3_5
 refine qap.mk ?_
 (with_reducible refine HS.out.mono ?_); rintro e w5 ⟨v5, rfl, hb5, hn5⟩
 clear HS
 have HB5 := qHd (HB4.out.step hb5)
 have Fa := qHd (Fa.out.below hb5)
 have Fal := qHd (Fal.out.below hb5)
 have Fah := qHd (Fah.out.below hb5)
 have BX1 := qHd (qaa BX1.out hb5)
 have BX2 := qHd (qaa BX2.out hb5)
 have BX4 := qHd (qaa BX4.out hb5)
 clear BX4
 rw [HV3.out] at hn5
 have N5 := qHd hn5; clear hn5
 obtain ⟨s6, o6, n6, c6, a6, m6, d6, s6x, o6x, n6x, c6x, a6x, m6x, d6x, rfl⟩ := N5.out.shape
 have N5l := qHd (show IsR _ _ (rq sa aa ba) from (qci N5.out).1); have N5h := qHd (show IsR _ _ (rq ta ca da) from (qci N5.out).2)
 clear hb5
 go_wp2_with (with_reducible refine qaf ?_)
 refine qan g2 0 [.bool s6, .slice o6 n6 c6, .slice a6 m6 d6, .bool s6x, .slice o6x n6x c6x, .slice a6x m6x d6x] BX2.out rfl rfl (Nat.le_of_ble_eq_true rfl) (by kernel_rfl) rfl ?_
 intro w6 hp6
 have Fa := qHd (putL_SV hp6 Fa.out BX2.out noW6)
 have Fal := qHd (putL_V hp6 Fal.out BX2.out noW6)
 have Fah := qHd (putL_V hp6 Fah.out BX2.out noW6)
 have N5 := qHd (putL_SI hp6 N5.out BX2.out noW6)
 have N5l := qHd (qbq hp6 N5l.out BX2.out noW6)
 have N5h := qHd (qbq hp6 N5h.out BX2.out noW6)
 have BX1 := qHd (qbr hp6 BX1.out (by omega))
 have nx6 : w6.heap[g2]? = some (.cells #[.bool s6, .slice o6 n6 c6, .slice a6 m6 d6, .bool s6x, .slice o6x n6x c6x, .slice a6x m6x d6x] 56) := by rw [hp6]; exact putL_6 BX2.out
 have BX2 := qHd nx6; clear nx6
 have HB6 := qHd (qbl hp6 HB5.out (by omega))
 clear hp6
 obtain ⟨x7_0, x7_1, x7_2, x7_3, x7_4, x7_5⟩ := row6 BX2.out
 go_wp2_with (with_reducible first | refine qad ?_ | refine qai ?_ | refine qaj ?_ | refine qak ?_ | refine qag ?_)
 clear x7_0 x7_1 x7_2 x7_3 x7_4 x7_5
 refine qap.mk ?_
 refine ret_span rfl g2 _ _ _ _ _ _ (by first | rfl | exact rfl) BX2.out rfl ?_
 exact ⟨_, rfl, HB6.out, N5.out⟩
theorem norm_any (va : Value) (a : Rat × Rat) (w : World) (ha : SpIs w va a) : Calls Tryz.prog 52 #[va] w (RetSp w a) := by
 obtain ⟨s, aa, ba, t, ca, da, h0, rfl, l1, l2, l3, l4⟩ := ha
 by_cases hv : Vld s aa ba ∧ Vld t ca da ∧ rq s aa ba ≤ rq t ca da
 ·have h := norm_2 va s aa ba t ca da w h0 l1 l2 l3 l4 hv
  unfold sq; rw [if_pos hv]; exact h
 ·unfold sq; rw [if_neg hv]; exact norm_1 va s aa ba t ca da w h0 l1 l2 l3 l4 hv
theorem contains_1 (va : Value) (a : Rat × Rat) (vx : Value) (x : Rat) (w : World) (ha : SpIs w va a) (hx : qbs w vx x) (la1 : rl a.1 ≤ 39000) (la2 : rl a.2 ≤ 39000) (lx : rl x ≤ 39000) (h : a.1 ≤ x) :
  Calls Tryz.prog 31 #[va, vx] w (qea w (.bool (decide (inS a x)))) := by
 have HBW := qHd (Below.refl w.heap.size w)
 have kz0 : rl 0 ≤ 1 := by rw [qeo]; exact Nat.le_refl _
 obtain ⟨qa, oa, na, ka, pa, ma, ra, qax, oax, nax, kax, pax, max, rax, rfl⟩ := ha.shape
 have hla := ha.rl; have hoa := ha.ok; obtain ⟨hlaa, hlab⟩ := hla
 have hoa := qHd hoa
 obtain ⟨sx, ox, nx, cx, ax, mx, dx, rfl⟩ := hx.shape
 have hlx := hx.rl
 obtain ⟨n1, hn1⟩ : ∃ n, n = cq ((a).1) (x) := ⟨_, rfl⟩
 obtain ⟨n2, hn2⟩ : ∃ n, n = cq (x) ((a).2) := ⟨_, rfl⟩
 have f1 : decide (n1 ≤ 0) = true := by rw [hn1]; exact decide_eq_true ((cq_le _ _).2 h)
 rw [show decide (inS a x) = decide (n2 ≤ 0) from by rw [decide_eq_decide, hn2, cq_le]; exact ⟨fun k => k.2, fun k => ⟨h, k⟩⟩]
 have HN1 := qHd hn1; have HN2 := qHd hn2; clear hn1 hn2 h
 have Fa := qHd ha; clear ha
 have Fx := qHd hx; clear hx
 obtain ⟨w1, hw1⟩ : ∃ w1, w1 = w.alloc (.cells #[.bool qa, .slice oa na ka, .slice pa ma ra, .bool qax, .slice oax nax kax, .slice pax max rax] 56) := ⟨_, rfl⟩
 have hb1 : Below w.heap.size w w1 := by rw [hw1]; exact qBA _ _
 have hx1 := heap_alloc_new w (.cells #[.bool qa, .slice oa na ka, .slice pa ma ra, .bool qax, .slice oax nax kax, .slice pax max rax] 56)
 obtain ⟨g1, hg1⟩ : ∃ g, g = w.heap.size := ⟨_, rfl⟩
 rw [← hw1, ← hg1] at hx1
 have lw1 : w.heap.size ≤ g1 := by rw [hg1]; exact HBW.out.size
 have HW1 := qHd hw1; have HG1 := qHd hg1; clear hw1 hg1
 have HB1 := qHd (HBW.out.step hb1)
 have Fa := qHd (Fa.out.below hb1)
 have Fx := qHd (Fx.out.below hb1)
 have BX1 := qHd hx1; clear hb1 hx1
 obtain ⟨w2, hw2⟩ : ∃ w2, w2 = w1.alloc (.cells #[.bool sx, .slice ox nx cx, .slice ax mx dx] 54) := ⟨_, rfl⟩
 have hb2 : Below w1.heap.size w1 w2 := by rw [hw2]; exact qBA _ _
 have hx2 := heap_alloc_new w1 (.cells #[.bool sx, .slice ox nx cx, .slice ax mx dx] 54)
 obtain ⟨g2, hg2⟩ : ∃ g, g = w1.heap.size := ⟨_, rfl⟩
 rw [← hw2, ← hg2] at hx2
 have lw2 : w.heap.size ≤ g2 := by rw [hg2]; exact HB1.out.size
 have ltBX12 : g1 < g2 := by rw [hg2]; exact qaw BX1.out
 have hs2 : g2 = w.heap.size + 1 := by rw [hg2, HW1.out]; simp
 have HS2 := qHd hs2; clear hs2
 have HW2 := qHd hw2; have HG2 := qHd hg2; clear hw2 hg2
 have HB2 := qHd (HB1.out.step hb2)
 have Fa := qHd (Fa.out.below hb2)
 have Fx := qHd (Fx.out.below hb2)
 have BX1 := qHd (qaa BX1.out hb2)
 have BX2 := qHd hx2; clear hb2 hx2
 go_enter Tryz.func31, Tryz.ntmps31
 obtain ⟨x1_0, x1_1, x1_2, x1_3, x1_4, x1_5⟩ := row6 BX1.out
 have hs := norm_any _ (a) w2 Fa.out
 have HS := qHd hs; clear hs
 try rw [HW2.out] at x1_0
 try rw [HG2.out] at x1_0
 try rw [HW1.out] at x1_0
 try rw [HG1.out] at x1_0
 try rw [HW2.out] at x1_1
 try rw [HG2.out] at x1_1
 try rw [HW1.out] at x1_1
 try rw [HG1.out] at x1_1
 try rw [HW2.out] at x1_2
 try rw [HG2.out] at x1_2
 try rw [HW1.out] at x1_2
 try rw [HG1.out] at x1_2
 try rw [HW2.out] at x1_3
 try rw [HG2.out] at x1_3
 try rw [HW1.out] at x1_3
 try rw [HG1.out] at x1_3
 try rw [HW2.out] at x1_4
 try rw [HG2.out] at x1_4
 try rw [HW1.out] at x1_4
 try rw [HG1.out] at x1_4
 try rw [HW2.out] at x1_5
 try rw [HG2.out] at x1_5
 try rw [HW1.out] at x1_5
 try rw [HG1.out] at x1_5
 go_wp2_with (with_reducible first | refine qad ?_ | refine qai ?_ | refine qaj ?_ | refine qak ?_ | refine qag ?_)
 try rw [← HW1.out]
 try rw [← HW2.out]
 try rw [← HS2.out]
 try rw [← HG1.out]
 try rw [← HG2.out]
 clear x1_0 x1_1 x1_2 x1_3 x1_4 x1_5
 refine qap.mk ?_
 (with_reducible refine HS.out.mono ?_); rintro e w3 ⟨v3, rfl, hb3, hn3⟩
 clear HS
 have HB3 := qHd (HB2.out.step hb3)
 have Fa := qHd (Fa.out.below hb3)
 have Fx := qHd (Fx.out.below hb3)
 have BX1 := qHd (qaa BX1.out hb3)
 have BX2 := qHd (qaa BX2.out hb3)
 have N3 := qHd hn3; clear hn3
 obtain ⟨s2, o2, n2, c2, a2, m2, d2, s2x, o2x, n2x, c2x, a2x, m2x, d2x, rfl⟩ := N3.out.shape
 have N3l := qHd (qci N3.out).1; have N3h := qHd (qci N3.out).2
 clear hb3
 go_wp2_with (with_reducible refine qaf ?_)
 refine qan g1 0 [.bool s2, .slice o2 n2 c2, .slice a2 m2 d2, .bool s2x, .slice o2x n2x c2x, .slice a2x m2x d2x] BX1.out rfl rfl (Nat.le_of_ble_eq_true rfl) (by kernel_rfl) rfl ?_
 intro w4 hp4
 have Fa := qHd (putL_SS hp4 Fa.out BX1.out noW6)
 have Fx := qHd (putL_R hp4 Fx.out BX1.out noW6)
 have N3 := qHd (putL_SI hp4 N3.out BX1.out noW6)
 have N3l := qHd (qbq hp4 N3l.out BX1.out noW6)
 have N3h := qHd (qbq hp4 N3h.out BX1.out noW6)
 have BX2 := qHd (qbr hp4 BX2.out (by omega))
 have nx4 : w4.heap[g1]? = some (.cells #[.bool s2, .slice o2 n2 c2, .slice a2 m2 d2, .bool s2x, .slice o2x n2x c2x, .slice a2x m2x d2x] 56) := by rw [hp4]; exact putL_6 BX1.out
 have BX1 := qHd nx4; clear nx4
 have HB4 := qHd (qbl hp4 HB3.out (by omega))
 clear hp4
 obtain ⟨x3_0, x3_1, x3_2, x3_3, x3_4, x3_5⟩ := row6 BX1.out
 obtain ⟨x4_0, x4_1, x4_2⟩ := qay BX2.out
 have hs := qfi _ ((a).1) _ (x) w4 (N3l.out.is (by omega)) Fx.out (by omega) (by omega)
 rw [← HN1.out] at hs
 have HS := qHd hs; clear hs
 go_wp2_with (with_reducible first | refine qad ?_ | refine qai ?_ | refine qaj ?_ | refine qak ?_ | refine qag ?_)
 clear x3_0 x3_1 x3_2 x3_3 x3_4 x3_5 x4_0 x4_1 x4_2
 refine qap.mk ?_
 (with_reducible refine HS.out.mono ?_); rintro e w5 ⟨rfl, hb5⟩
 clear HS
 have HB5 := qHd (HB4.out.step hb5)
 have Fa := qHd (Fa.out.below hb5)
 have Fx := qHd (Fx.out.below hb5)
 have N3 := qHd (N3.out.below hb5)
 have N3l := qHd (N3l.out.below hb5)
 have N3h := qHd (N3h.out.below hb5)
 have BX1 := qHd (qaa BX1.out hb5)
 have BX2 := qHd (qaa BX2.out hb5)
 clear hb5
 obtain ⟨x5_0, x5_1, x5_2⟩ := qay BX2.out
 obtain ⟨x6_0, x6_1, x6_2, x6_3, x6_4, x6_5⟩ := row6 BX1.out
 have hs := qfi _ (x) _ ((a).2) w5 Fx.out (N3h.out.is (by omega)) (by omega) (by omega)
 rw [← HN2.out] at hs
 have HS := qHd hs; clear hs
 go_wp2_with (with_reducible first | refine qad ?_ | refine qai ?_ | refine qaj ?_ | refine qak ?_ | refine qag ?_)
 clear x5_0 x5_1 x5_2 x6_0 x6_1 x6_2 x6_3 x6_4 x6_5
 refine qap.mk ?_
 (with_reducible refine HS.out.mono ?_); rintro e w6 ⟨rfl, hb6⟩
 clear HS
 have HB6 := qHd (HB5.out.step hb6)
 have Fa := qHd (Fa.out.below hb6)
 have Fx := qHd (Fx.out.below hb6)
 have N3 := qHd (N3.out.below hb6)
 have N3l := qHd (N3l.out.below hb6)
 have N3h := qHd (N3h.out.below hb6)
 have BX1 := qHd (qaa BX1.out hb6)
 have BX2 := qHd (qaa BX2.out hb6)
 clear hb6
 go_wp2_with (with_reducible first | refine qad ?_ | refine qai ?_ | refine qaj ?_ | refine qak ?_ | refine qag ?_)
 refine qap.mk ?_
 go_ret
 exact ⟨by first | rfl | (simp; done), HB6.out⟩
theorem contains_2 (va : Value) (a : Rat × Rat) (vx : Value) (x : Rat) (w : World) (ha : SpIs w va a) (hx : qbs w vx x) (la1 : rl a.1 ≤ 39000) (_la2 : rl a.2 ≤ 39000) (lx : rl x ≤ 39000) (h : ¬ a.1 ≤ x) :
  Calls Tryz.prog 31 #[va, vx] w (qea w (.bool (decide (inS a x)))) := by
 have HBW := qHd (Below.refl w.heap.size w)
 have kz0 : rl 0 ≤ 1 := by rw [qeo]; exact Nat.le_refl _
 obtain ⟨qa, oa, na, ka, pa, ma, ra, qax, oax, nax, kax, pax, max, rax, rfl⟩ := ha.shape
 have hla := ha.rl; have hoa := ha.ok; obtain ⟨hlaa, hlab⟩ := hla
 have hoa := qHd hoa
 obtain ⟨sx, ox, nx, cx, ax, mx, dx, rfl⟩ := hx.shape
 have hlx := hx.rl
 obtain ⟨n1, hn1⟩ : ∃ n, n = cq ((a).1) (x) := ⟨_, rfl⟩
 obtain ⟨n2, hn2⟩ : ∃ n, n = cq (x) ((a).2) := ⟨_, rfl⟩
 have f1 : decide (n1 ≤ 0) = false := by rw [hn1]; exact decide_eq_false (fun k => h ((cq_le _ _).1 k))
 rw [show decide (inS a x) = false from decide_eq_false (fun k => h k.1)]
 have HN1 := qHd hn1; have HN2 := qHd hn2; clear hn1 hn2 h
 have Fa := qHd ha; clear ha
 have Fx := qHd hx; clear hx
 obtain ⟨w1, hw1⟩ : ∃ w1, w1 = w.alloc (.cells #[.bool qa, .slice oa na ka, .slice pa ma ra, .bool qax, .slice oax nax kax, .slice pax max rax] 56) := ⟨_, rfl⟩
 have hb1 : Below w.heap.size w w1 := by rw [hw1]; exact qBA _ _
 have hx1 := heap_alloc_new w (.cells #[.bool qa, .slice oa na ka, .slice pa ma ra, .bool qax, .slice oax nax kax, .slice pax max rax] 56)
 obtain ⟨g1, hg1⟩ : ∃ g, g = w.heap.size := ⟨_, rfl⟩
 rw [← hw1, ← hg1] at hx1
 have lw1 : w.heap.size ≤ g1 := by rw [hg1]; exact HBW.out.size
 have HW1 := qHd hw1; have HG1 := qHd hg1; clear hw1 hg1
 have HB1 := qHd (HBW.out.step hb1)
 have Fa := qHd (Fa.out.below hb1)
 have Fx := qHd (Fx.out.below hb1)
 have BX1 := qHd hx1; clear hb1 hx1
 obtain ⟨w2, hw2⟩ : ∃ w2, w2 = w1.alloc (.cells #[.bool sx, .slice ox nx cx, .slice ax mx dx] 54) := ⟨_, rfl⟩
 have hb2 : Below w1.heap.size w1 w2 := by rw [hw2]; exact qBA _ _
 have hx2 := heap_alloc_new w1 (.cells #[.bool sx, .slice ox nx cx, .slice ax mx dx] 54)
 obtain ⟨g2, hg2⟩ : ∃ g, g = w1.heap.size := ⟨_, rfl⟩
 rw [← hw2, ← hg2] at hx2
 have lw2 : w.heap.size ≤ g2 := by rw [hg2]; exact HB1.out.size
 have ltBX12 : g1 < g2 := by rw [hg2]; exact qaw BX1.out
 have hs2 : g2 = w.heap.size + 1 := by rw [hg2, HW1.out]; simp
 have HS2 := qHd hs2; clear hs2
 have HW2 := qHd hw2; have HG2 := qHd hg2; clear hw2 hg2
 have HB2 := qHd (HB1.out.step hb2)
 have Fa := qHd (Fa.out.below hb2)
 have Fx := qHd (Fx.out.below hb2)
 have BX1 := qHd (qaa BX1.out hb2)
 have BX2 := qHd hx2; clear hb2 hx2
 go_enter Tryz.func31, Tryz.ntmps31
 obtain ⟨x1_0, x1_1, x1_2, x1_3, x1_4, x1_5⟩ := row6 BX1.out
 have hs := norm_any _ (a) w2 Fa.out
 have HS := qHd hs; clear hs
 try rw [HW2.out] at x1_0
 try rw [HG2.out] at x1_0
 try rw [HW1.out] at x1_0
 try rw [HG1.out] at x1_0
 try rw [HW2.out] at x1_1
 try rw [HG2.out] at x1_1
 try rw [HW1.out] at x1_1
 try rw [HG1.out] at x1_1
 try rw [HW2.out] at x1_2
 try rw [HG2.out] at x1_2
 try rw [HW1.out] at x1_2
 try rw [HG1.out] at x1_2
 try rw [HW2.out] at x1_3
 try rw [HG2.out] at x1_3
 try rw [HW1.out] at x1_3
 try rw [HG1.out] at x1_3
 try rw [HW2.out] at x1_4
 try rw [HG2.out] at x1_4
 try rw [HW1.out] at x1_4
 try rw [HG1.out] at x1_4
 try rw [HW2.out] at x1_5
 try rw [HG2.out] at x1_5
 try rw [HW1.out] at x1_5
 try rw [HG1.out] at x1_5
 go_wp2_with (with_reducible first | refine qad ?_ | refine qai ?_ | refine qaj ?_ | refine qak ?_ | refine qag ?_)
 try rw [← HW1.out]
 try rw [← HW2.out]
 try rw [← HS2.out]
 try rw [← HG1.out]
 try rw [← HG2.out]
 clear x1_0 x1_1 x1_2 x1_3 x1_4 x1_5
 refine qap.mk ?_
 (with_reducible refine HS.out.mono ?_); rintro e w3 ⟨v3, rfl, hb3, hn3⟩
 clear HS
 have HB3 := qHd (HB2.out.step hb3)
 have Fa := qHd (Fa.out.below hb3)
 have Fx := qHd (Fx.out.below hb3)
 have BX1 := qHd (qaa BX1.out hb3)
 have BX2 := qHd (qaa BX2.out hb3)
 have N3 := qHd hn3; clear hn3
 obtain ⟨s2, o2, n2, c2, a2, m2, d2, s2x, o2x, n2x, c2x, a2x, m2x, d2x, rfl⟩ := N3.out.shape
 have N3l := qHd (qci N3.out).1; have N3h := qHd (qci N3.out).2
 clear hb3
 go_wp2_with (with_reducible refine qaf ?_)
 refine qan g1 0 [.bool s2, .slice o2 n2 c2, .slice a2 m2 d2, .bool s2x, .slice o2x n2x c2x, .slice a2x m2x d2x] BX1.out rfl rfl (Nat.le_of_ble_eq_true rfl) (by kernel_rfl) rfl ?_
 intro w4 hp4
 have Fa := qHd (putL_SS hp4 Fa.out BX1.out noW6)
 have Fx := qHd (putL_R hp4 Fx.out BX1.out noW6)
 have N3 := qHd (putL_SI hp4 N3.out BX1.out noW6)
 have N3l := qHd (qbq hp4 N3l.out BX1.out noW6)
 have N3h := qHd (qbq hp4 N3h.out BX1.out noW6)
 have BX2 := qHd (qbr hp4 BX2.out (by omega))
 have nx4 : w4.heap[g1]? = some (.cells #[.bool s2, .slice o2 n2 c2, .slice a2 m2 d2, .bool s2x, .slice o2x n2x c2x, .slice a2x m2x d2x] 56) := by rw [hp4]; exact putL_6 BX1.out
 have BX1 := qHd nx4; clear nx4
 have HB4 := qHd (qbl hp4 HB3.out (by omega))
 clear hp4
 obtain ⟨x3_0, x3_1, x3_2, x3_3, x3_4, x3_5⟩ := row6 BX1.out
 obtain ⟨x4_0, x4_1, x4_2⟩ := qay BX2.out
 have hs := qfi _ ((a).1) _ (x) w4 (N3l.out.is (by omega)) Fx.out (by omega) (by omega)
 rw [← HN1.out] at hs
 have HS := qHd hs; clear hs
 go_wp2_with (with_reducible first | refine qad ?_ | refine qai ?_ | refine qaj ?_ | refine qak ?_ | refine qag ?_)
 clear x3_0 x3_1 x3_2 x3_3 x3_4 x3_5 x4_0 x4_1 x4_2
 refine qap.mk ?_
 (with_reducible refine HS.out.mono ?_); rintro e w5 ⟨rfl, hb5⟩
 clear HS
 have HB5 := qHd (HB4.out.step hb5)
 have Fa := qHd (Fa.out.below hb5)
 have Fx := qHd (Fx.out.below hb5)
 have N3 := qHd (N3.out.below hb5)
 have N3l := qHd (N3l.out.below hb5)
 have N3h := qHd (N3h.out.below hb5)
 have BX1 := qHd (qaa BX1.out hb5)
 have BX2 := qHd (qaa BX2.out hb5)
 clear hb5
 go_wp2_with (with_reducible first | refine qad ?_ | refine qai ?_ | refine qaj ?_ | refine qak ?_ | refine qag ?_)
 refine qap.mk ?_
 go_ret
 exact ⟨by first | rfl | (simp; done), HB5.out⟩
theorem contains_any (va : Value) (a : Rat × Rat) (vx : Value) (x : Rat) (w : World) (ha : SpIs w va a) (hx : qbs w vx x) (la1 : rl a.1 ≤ 39000) (la2 : rl a.2 ≤ 39000) (lx : rl x ≤ 39000) :
  Calls Tryz.prog 31 #[va, vx] w (qea w (.bool (decide (inS a x)))) := by
 by_cases h : a.1 ≤ x
 ·exact contains_1 va a vx x w ha hx la1 la2 lx h
 ·exact contains_2 va a vx x w ha hx la1 la2 lx h
theorem inside_1 (va : Value) (a : Rat × Rat) (vb : Value) (b : Rat × Rat) (w : World) (ha : SpIs w va a) (hb : SpIs w vb b) (la1 : rl a.1 ≤ 39000) (la2 : rl a.2 ≤ 39000) (lb1 : rl b.1 ≤ 39000) (lb2 : rl b.2 ≤ 39000) (h : inS b a.1) :
  Calls Tryz.prog 20 #[va, vb] w (qea w (.bool (decide (subS a b)))) := by
 have HBW := qHd (Below.refl w.heap.size w)
 have kz0 : rl 0 ≤ 1 := by rw [qeo]; exact Nat.le_refl _
 obtain ⟨qa, oa, na, ka, pa, ma, ra, qax, oax, nax, kax, pax, max, rax, rfl⟩ := ha.shape
 have hla := ha.rl; have hoa := ha.ok; obtain ⟨hlaa, hlab⟩ := hla
 have hoa := qHd hoa
 obtain ⟨qb, ob, nb, kb, pb, mb, rb, qbx, obx, nbx, kbx, pbx, mbx, rbx, rfl⟩ := hb.shape
 have hlb := hb.rl; have hob := hb.ok; obtain ⟨hlba, hlbb⟩ := hlb
 have hob := qHd hob
 rw [show decide (subS a b) = decide (inS (b) ((a).2)) from by rw [decide_eq_decide]; exact ⟨fun k => k.2, fun k => ⟨h, k⟩⟩]
 have HI := qHd (decide_eq_true h); clear h
 have Fa := qHd ha; clear ha
 have Fb := qHd hb; clear hb
 obtain ⟨w1, hw1⟩ : ∃ w1, w1 = w.alloc (.cells #[.bool qa, .slice oa na ka, .slice pa ma ra, .bool qax, .slice oax nax kax, .slice pax max rax] 56) := ⟨_, rfl⟩
 have hb1 : Below w.heap.size w w1 := by rw [hw1]; exact qBA _ _
 have hx1 := heap_alloc_new w (.cells #[.bool qa, .slice oa na ka, .slice pa ma ra, .bool qax, .slice oax nax kax, .slice pax max rax] 56)
 obtain ⟨g1, hg1⟩ : ∃ g, g = w.heap.size := ⟨_, rfl⟩
 rw [← hw1, ← hg1] at hx1
 have lw1 : w.heap.size ≤ g1 := by rw [hg1]; exact HBW.out.size
 have HW1 := qHd hw1; have HG1 := qHd hg1; clear hw1 hg1
 have HB1 := qHd (HBW.out.step hb1)
 have Fa := qHd (Fa.out.below hb1)
 have Fb := qHd (Fb.out.below hb1)
 have BX1 := qHd hx1; clear hb1 hx1
 obtain ⟨w2, hw2⟩ : ∃ w2, w2 = w1.alloc (.cells #[.bool qb, .slice ob nb kb, .slice pb mb rb, .bool qbx, .slice obx nbx kbx, .slice pbx mbx rbx] 56) := ⟨_, rfl⟩
 have hb2 : Below w1.heap.size w1 w2 := by rw [hw2]; exact qBA _ _
 have hx2 := heap_alloc_new w1 (.cells #[.bool qb, .slice ob nb kb, .slice pb mb rb, .bool qbx, .slice obx nbx kbx, .slice pbx mbx rbx] 56)
 obtain ⟨g2, hg2⟩ : ∃ g, g = w1.heap.size := ⟨_, rfl⟩
 rw [← hw2, ← hg2] at hx2
 have lw2 : w.heap.size ≤ g2 := by rw [hg2]; exact HB1.out.size
 have ltBX12 : g1 < g2 := by rw [hg2]; exact qaw BX1.out
 have hs2 : g2 = w.heap.size + 1 := by rw [hg2, HW1.out]; simp
 have HS2 := qHd hs2; clear hs2
 have HW2 := qHd hw2; have HG2 := qHd hg2; clear hw2 hg2
 have HB2 := qHd (HB1.out.step hb2)
 have Fa := qHd (Fa.out.below hb2)
 have Fb := qHd (Fb.out.below hb2)
 have BX1 := qHd (qaa BX1.out hb2)
 have BX2 := qHd hx2; clear hb2 hx2
 go_enter Tryz.func20, Tryz.ntmps20
 obtain ⟨x1_0, x1_1, x1_2, x1_3, x1_4, x1_5⟩ := row6 BX1.out
 have hs := norm_any _ (a) w2 Fa.out
 have HS := qHd hs; clear hs
 try rw [HW2.out] at x1_0
 try rw [HG2.out] at x1_0
 try rw [HW1.out] at x1_0
 try rw [HG1.out] at x1_0
 try rw [HW2.out] at x1_1
 try rw [HG2.out] at x1_1
 try rw [HW1.out] at x1_1
 try rw [HG1.out] at x1_1
 try rw [HW2.out] at x1_2
 try rw [HG2.out] at x1_2
 try rw [HW1.out] at x1_2
 try rw [HG1.out] at x1_2
 try rw [HW2.out] at x1_3
 try rw [HG2.out] at x1_3
 try rw [HW1.out] at x1_3
 try rw [HG1.out] at x1_3
 try rw [HW2.out] at x1_4
 try rw [HG2.out] at x1_4
 try rw [HW1.out] at x1_4
 try rw [HG1.out] at x1_4
 try rw [HW2.out] at x1_5
 try rw [HG2.out] at x1_5
 try rw [HW1.out] at x1_5
 try rw [HG1.out] at x1_5
 go_wp2_with (with_reducible first | refine qad ?_ | refine qai ?_ | refine qaj ?_ | refine qak ?_ | refine qag ?_)
 try rw [← HW1.out]
 try rw [← HW2.out]
 try rw [← HS2.out]
 try rw [← HG1.out]
 try rw [← HG2.out]
 clear x1_0 x1_1 x1_2 x1_3 x1_4 x1_5
 refine qap.mk ?_
 (with_reducible refine HS.out.mono ?_); rintro e w3 ⟨v3, rfl, hb3, hn3⟩
 clear HS
 have HB3 := qHd (HB2.out.step hb3)
 have Fa := qHd (Fa.out.below hb3)
 have Fb := qHd (Fb.out.below hb3)
 have BX1 := qHd (qaa BX1.out hb3)
 have BX2 := qHd (qaa BX2.out hb3)
 have N3 := qHd hn3; clear hn3
 obtain ⟨s2, o2, n2, c2, a2, m2, d2, s2x, o2x, n2x, c2x, a2x, m2x, d2x, rfl⟩ := N3.out.shape
 have N3l := qHd (qci N3.out).1; have N3h := qHd (qci N3.out).2
 clear hb3
 go_wp2_with (with_reducible refine qaf ?_)
 refine qan g1 0 [.bool s2, .slice o2 n2 c2, .slice a2 m2 d2, .bool s2x, .slice o2x n2x c2x, .slice a2x m2x d2x] BX1.out rfl rfl (Nat.le_of_ble_eq_true rfl) (by kernel_rfl) rfl ?_
 intro w4 hp4
 have Fa := qHd (putL_SS hp4 Fa.out BX1.out noW6)
 have Fb := qHd (putL_SS hp4 Fb.out BX1.out noW6)
 have N3 := qHd (putL_SI hp4 N3.out BX1.out noW6)
 have N3l := qHd (qbq hp4 N3l.out BX1.out noW6)
 have N3h := qHd (qbq hp4 N3h.out BX1.out noW6)
 have BX2 := qHd (qbr hp4 BX2.out (by omega))
 have nx4 : w4.heap[g1]? = some (.cells #[.bool s2, .slice o2 n2 c2, .slice a2 m2 d2, .bool s2x, .slice o2x n2x c2x, .slice a2x m2x d2x] 56) := by rw [hp4]; exact putL_6 BX1.out
 have BX1 := qHd nx4; clear nx4
 have HB4 := qHd (qbl hp4 HB3.out (by omega))
 clear hp4
 obtain ⟨x3_0, x3_1, x3_2, x3_3, x3_4, x3_5⟩ := row6 BX2.out
 obtain ⟨x4_0, x4_1, x4_2, x4_3, x4_4, x4_5⟩ := row6 BX1.out
 have hs := contains_any _ (b) _ ((a).1) w4 Fb.out (N3l.out.is (by omega)) (by omega) (by omega) (by omega)
 rw [HI.out] at hs
 have HS := qHd hs; clear hs
 go_wp2_with (with_reducible first | refine qad ?_ | refine qai ?_ | refine qaj ?_ | refine qak ?_ | refine qag ?_)
 clear x3_0 x3_1 x3_2 x3_3 x3_4 x3_5 x4_0 x4_1 x4_2 x4_3 x4_4 x4_5
 refine qap.mk ?_
 (with_reducible refine HS.out.mono ?_); rintro e w5 ⟨rfl, hb5⟩
 clear HS
 have HB5 := qHd (HB4.out.step hb5)
 have Fa := qHd (Fa.out.below hb5)
 have Fb := qHd (Fb.out.below hb5)
 have N3 := qHd (N3.out.below hb5)
 have N3l := qHd (N3l.out.below hb5)
 have N3h := qHd (N3h.out.below hb5)
 have BX1 := qHd (qaa BX1.out hb5)
 have BX2 := qHd (qaa BX2.out hb5)
 clear hb5
 obtain ⟨x5_0, x5_1, x5_2, x5_3, x5_4, x5_5⟩ := row6 BX2.out
 obtain ⟨x6_0, x6_1, x6_2, x6_3, x6_4, x6_5⟩ := row6 BX1.out
 have hs := contains_any _ (b) _ ((a).2) w5 Fb.out (N3h.out.is (by omega)) (by omega) (by omega) (by omega)
 have HS := qHd hs; clear hs
 go_wp2_with (with_reducible first | refine qad ?_ | refine qai ?_ | refine qaj ?_ | refine qak ?_ | refine qag ?_)
 clear x5_0 x5_1 x5_2 x5_3 x5_4 x5_5 x6_0 x6_1 x6_2 x6_3 x6_4 x6_5
 refine qap.mk ?_
 (with_reducible refine HS.out.mono ?_); rintro e w6 ⟨rfl, hb6⟩
 clear HS
 have HB6 := qHd (HB5.out.step hb6)
 have Fa := qHd (Fa.out.below hb6)
 have Fb := qHd (Fb.out.below hb6)
 have N3 := qHd (N3.out.below hb6)
 have N3l := qHd (N3l.out.below hb6)
 have N3h := qHd (N3h.out.below hb6)
 have BX1 := qHd (qaa BX1.out hb6)
 have BX2 := qHd (qaa BX2.out hb6)
 clear hb6
 go_wp2_with (with_reducible first | refine qad ?_ | refine qai ?_ | refine qaj ?_ | refine qak ?_ | refine qag ?_)
 refine qap.mk ?_
 go_ret
 exact ⟨by first | rfl | (simp; done), HB6.out⟩
theorem inside_2 (va : Value) (a : Rat × Rat) (vb : Value) (b : Rat × Rat) (w : World) (ha : SpIs w va a) (hb : SpIs w vb b) (la1 : rl a.1 ≤ 39000) (la2 : rl a.2 ≤ 39000) (lb1 : rl b.1 ≤ 39000) (lb2 : rl b.2 ≤ 39000) (h : ¬ inS b a.1) :
  Calls Tryz.prog 20 #[va, vb] w (qea w (.bool (decide (subS a b)))) := by
 have HBW := qHd (Below.refl w.heap.size w)
 have kz0 : rl 0 ≤ 1 := by rw [qeo]; exact Nat.le_refl _
 obtain ⟨qa, oa, na, ka, pa, ma, ra, qax, oax, nax, kax, pax, max, rax, rfl⟩ := ha.shape
 have hla := ha.rl; have hoa := ha.ok; obtain ⟨hlaa, hlab⟩ := hla
 have hoa := qHd hoa
 obtain ⟨qb, ob, nb, kb, pb, mb, rb, qbx, obx, nbx, kbx, pbx, mbx, rbx, rfl⟩ := hb.shape
 have hlb := hb.rl; have hob := hb.ok; obtain ⟨hlba, hlbb⟩ := hlb
 have hob := qHd hob
 rw [show decide (subS a b) = false from decide_eq_false (fun k => h k.1)]
 have HI := qHd (decide_eq_false h); clear h
 have Fa := qHd ha; clear ha
 have Fb := qHd hb; clear hb
 obtain ⟨w1, hw1⟩ : ∃ w1, w1 = w.alloc (.cells #[.bool qa, .slice oa na ka, .slice pa ma ra, .bool qax, .slice oax nax kax, .slice pax max rax] 56) := ⟨_, rfl⟩
 have hb1 : Below w.heap.size w w1 := by rw [hw1]; exact qBA _ _
 have hx1 := heap_alloc_new w (.cells #[.bool qa, .slice oa na ka, .slice pa ma ra, .bool qax, .slice oax nax kax, .slice pax max rax] 56)
 obtain ⟨g1, hg1⟩ : ∃ g, g = w.heap.size := ⟨_, rfl⟩
 rw [← hw1, ← hg1] at hx1
 have lw1 : w.heap.size ≤ g1 := by rw [hg1]; exact HBW.out.size
 have HW1 := qHd hw1; have HG1 := qHd hg1; clear hw1 hg1
 have HB1 := qHd (HBW.out.step hb1)
 have Fa := qHd (Fa.out.below hb1)
 have Fb := qHd (Fb.out.below hb1)
 have BX1 := qHd hx1; clear hb1 hx1
 obtain ⟨w2, hw2⟩ : ∃ w2, w2 = w1.alloc (.cells #[.bool qb, .slice ob nb kb, .slice pb mb rb, .bool qbx, .slice obx nbx kbx, .slice pbx mbx rbx] 56) := ⟨_, rfl⟩
 have hb2 : Below w1.heap.size w1 w2 := by rw [hw2]; exact qBA _ _
 have hx2 := heap_alloc_new w1 (.cells #[.bool qb, .slice ob nb kb, .slice pb mb rb, .bool qbx, .slice obx nbx kbx, .slice pbx mbx rbx] 56)
 obtain ⟨g2, hg2⟩ : ∃ g, g = w1.heap.size := ⟨_, rfl⟩
 rw [← hw2, ← hg2] at hx2
 have lw2 : w.heap.size ≤ g2 := by rw [hg2]; exact HB1.out.size
 have ltBX12 : g1 < g2 := by rw [hg2]; exact qaw BX1.out
 have hs2 : g2 = w.heap.size + 1 := by rw [hg2, HW1.out]; simp
 have HS2 := qHd hs2; clear hs2
 have HW2 := qHd hw2; have HG2 := qHd hg2; clear hw2 hg2
 have HB2 := qHd (HB1.out.step hb2)
 have Fa := qHd (Fa.out.below hb2)
 have Fb := qHd (Fb.out.below hb2)
 have BX1 := qHd (qaa BX1.out hb2)
 have BX2 := qHd hx2; clear hb2 hx2
 go_enter Tryz.func20, Tryz.ntmps20
 obtain ⟨x1_0, x1_1, x1_2, x1_3, x1_4, x1_5⟩ := row6 BX1.out
 have hs := norm_any _ (a) w2 Fa.out
 have HS := qHd hs; clear hs
 try rw [HW2.out] at x1_0
 try rw [HG2.out] at x1_0
 try rw [HW1.out] at x1_0
 try rw [HG1.out] at x1_0
 try rw [HW2.out] at x1_1
 try rw [HG2.out] at x1_1
 try rw [HW1.out] at x1_1
 try rw [HG1.out] at x1_1
 try rw [HW2.out] at x1_2
 try rw [HG2.out] at x1_2
 try rw [HW1.out] at x1_2
 try rw [HG1.out] at x1_2
 try rw [HW2.out] at x1_3
 try rw [HG2.out] at x1_3
 try rw [HW1.out] at x1_3
 try rw [HG1.out] at x1_3
 try rw [HW2.out] at x1_4
 try rw [HG2.out] at x1_4
 try rw [HW1.out] at x1_4
 try rw [HG1.out] at x1_4
 try rw [HW2.out] at x1_5
 try rw [HG2.out] at x1_5
 try rw [HW1.out] at x1_5
 try rw [HG1.out] at x1_5
 go_wp2_with (with_reducible first | refine qad ?_ | refine qai ?_ | refine qaj ?_ | refine qak ?_ | refine qag ?_)
 try rw [← HW1.out]
 try rw [← HW2.out]
 try rw [← HS2.out]
 try rw [← HG1.out]
 try rw [← HG2.out]
 clear x1_0 x1_1 x1_2 x1_3 x1_4 x1_5
 refine qap.mk ?_
 (with_reducible refine HS.out.mono ?_); rintro e w3 ⟨v3, rfl, hb3, hn3⟩
 clear HS
 have HB3 := qHd (HB2.out.step hb3)
 have Fa := qHd (Fa.out.below hb3)
 have Fb := qHd (Fb.out.below hb3)
 have BX1 := qHd (qaa BX1.out hb3)
 have BX2 := qHd (qaa BX2.out hb3)
 have N3 := qHd hn3; clear hn3
 obtain ⟨s2, o2, n2, c2, a2, m2, d2, s2x, o2x, n2x, c2x, a2x, m2x, d2x, rfl⟩ := N3.out.shape
 have N3l := qHd (qci N3.out).1; have N3h := qHd (qci N3.out).2
 clear hb3
 go_wp2_with (with_reducible refine qaf ?_)
 refine qan g1 0 [.bool s2, .slice o2 n2 c2, .slice a2 m2 d2, .bool s2x, .slice o2x n2x c2x, .slice a2x m2x d2x] BX1.out rfl rfl (Nat.le_of_ble_eq_true rfl) (by kernel_rfl) rfl ?_
 intro w4 hp4
 have Fa := qHd (putL_SS hp4 Fa.out BX1.out noW6)
 have Fb := qHd (putL_SS hp4 Fb.out BX1.out noW6)
 have N3 := qHd (putL_SI hp4 N3.out BX1.out noW6)
 have N3l := qHd (qbq hp4 N3l.out BX1.out noW6)
 have N3h := qHd (qbq hp4 N3h.out BX1.out noW6)
 have BX2 := qHd (qbr hp4 BX2.out (by omega))
 have nx4 : w4.heap[g1]? = some (.cells #[.bool s2, .slice o2 n2 c2, .slice a2 m2 d2, .bool s2x, .slice o2x n2x c2x, .slice a2x m2x d2x] 56) := by rw [hp4]; exact putL_6 BX1.out
 have BX1 := qHd nx4; clear nx4
 have HB4 := qHd (qbl hp4 HB3.out (by omega))
 clear hp4
 obtain ⟨x3_0, x3_1, x3_2, x3_3, x3_4, x3_5⟩ := row6 BX2.out
 obtain ⟨x4_0, x4_1, x4_2, x4_3, x4_4, x4_5⟩ := row6 BX1.out
 have hs := contains_any _ (b) _ ((a).1) w4 Fb.out (N3l.out.is (by omega)) (by omega) (by omega) (by omega)
 rw [HI.out] at hs
 have HS := qHd hs; clear hs
 go_wp2_with (with_reducible first | refine qad ?_ | refine qai ?_ | refine qaj ?_ | refine qak ?_ | refine qag ?_)
 clear x3_0 x3_1 x3_2 x3_3 x3_4 x3_5 x4_0 x4_1 x4_2 x4_3 x4_4 x4_5
 refine qap.mk ?_
 (with_reducible refine HS.out.mono ?_); rintro e w5 ⟨rfl, hb5⟩
 clear HS
 have HB5 := qHd (HB4.out.step hb5)
 have Fa := qHd (Fa.out.below hb5)
 have Fb := qHd (Fb.out.below hb5)
 have N3 := qHd (N3.out.below hb5)
 have N3l := qHd (N3l.out.below hb5)
 have N3h := qHd (N3h.out.below hb5)
 have BX1 := qHd (qaa BX1.out hb5)
 have BX2 := qHd (qaa BX2.out hb5)
 clear hb5
 go_wp2_with (with_reducible first | refine qad ?_ | refine qai ?_ | refine qaj ?_ | refine qak ?_ | refine qag ?_)
 refine qap.mk ?_
 go_ret
 exact ⟨by first | rfl | (simp; done), HB5.out⟩
theorem inside_any (va : Value) (a : Rat × Rat) (vb : Value) (b : Rat × Rat) (w : World) (ha : SpIs w va a) (hb : SpIs w vb b) (la1 : rl a.1 ≤ 39000) (la2 : rl a.2 ≤ 39000) (lb1 : rl b.1 ≤ 39000) (lb2 : rl b.2 ≤ 39000) :
  Calls Tryz.prog 20 #[va, vb] w (qea w (.bool (decide (subS a b)))) := by
 by_cases h : inS b a.1
 ·exact inside_1 va a vb b w ha hb la1 la2 lb1 lb2 h
 ·exact inside_2 va a vb b w ha hb la1 la2 lb1 lb2 h
end Go.Proofs.YthhgfhdmfhnklaaGreatDoor
namespace Go.Proofs.YthhgfhdmfhnklaaGreatDoor
open Go.RowKit Go.ChangeShapes Go.WideShapes Go.Joins Go.Deep
theorem open_rv {H : Type} {enc : TypeId × Value → H} {W : World} {cs : List Value} {x : DataW H × List MemPlace} {fuel : Nat}
  (h : DataW.trod enc Tryz.prog W 0 (fun _ => true) true fuel 54 cs = some x) : ∃ (r : Rv) (va vb : Value), cs = [.bool r.s, va, vb] ∧ Num W va r.a ∧ Num W vb r.b := by
 obtain ⟨y0, y1, y2, n, hx, hl, h0, h1, h2⟩ := trod_struct3 Tryz.underlying54 h
 have hl' : cs.length = 3 := hl.trans (by kernel_rfl)
 match cs, hl' with
 | [c0, c1, c2], _ =>
  have h0' : DataW.trod enc Tryz.prog W 0 (fun _ => true) true n 4 [c0] = some y0 := h0
  have h1' : DataW.trod enc Tryz.prog W 0 (fun _ => true) true n 52 [c1] = some y1 := h1
  have h2' : DataW.trod enc Tryz.prog W 0 (fun _ => true) true n 52 [c2] = some y2 := h2
  obtain ⟨b', k0, _⟩ := DataW.trod_bool Tryz.underlying4 h0'
  have e0 : c0 = .bool b' := by simpa using k0
  obtain ⟨a, ha⟩ := open_words_cell Tryz.underlying52 Tryz.underlying156 (by kernel_rfl) h1'
  obtain ⟨b, hb⟩ := open_words_cell Tryz.underlying52 Tryz.underlying156 (by kernel_rfl) h2'
  exact ⟨⟨b', a, b⟩, c1, c2, by rw [e0], ha, hb⟩
theorem open_rats {H : Type} {enc : TypeId × Value → H} {W : World} {v : Value} {d : DataW H} {p : List MemPlace} {base : Nat}
  (hv : Value.okWide Tryz.prog W .any base 50 v) (h : DataW.Trod enc Tryz.prog W 0 (fun _ => true) true 50 v d p) : ∃ L, RvsV W v L := by
 obtain ⟨a0, len0, cap0, rfl⟩ := okWide_slice Tryz.underlying50 hv
 obtain ⟨fuel, hf⟩ := h
 rcases open_slice Tryz.underlying50 hf with ⟨hcs, _⟩ | ⟨a, len, cap, m, n, D, Pl, hcs, _, hl, hm, hmm, _, hel⟩
 ·have hcs' : Value.slice a0 len0 cap0 = .slice none 0 0 := by simpa [Value.cells] using hcs
  rw [hcs']; exact ⟨[], none, 0, rfl, Nat.le_refl _, by omega, fun _ => rfl, fun b off s h => by cases h⟩
 ·have hcs' : Value.slice a0 len0 cap0 = .slice (some a) len cap := by simpa [Value.cells] using hcs
  rw [hcs']
  simp only [if_true] at hmm
  subst hmm
  have hc3 : Tryz.prog.cellsOf 54 = 3 := by kernel_rfl
  rw [hc3] at hel
  obtain ⟨F, hF⟩ := choose_lt (α := Rv) (n := len) (p := fun i r => ∃ va vb, W.cell? (a.add (i * 3)) = some (.bool r.s) ∧ W.cell? ((a.add (i * 3)).add 1) = some va ∧ W.cell? ((a.add (i * 3)).add 2) = some vb ∧ Num W va r.a ∧ Num W vb r.b) (fun i hi => by
   obtain ⟨cs', h1, h2⟩ := hel i (by omega)
   obtain ⟨r, va, vb, rfl, k1, k2⟩ := open_rv h2
   obtain ⟨_, _, hc⟩ := World.cells?_some h1
   refine ⟨r, va, vb, ?_, hc 1 (by omega), hc 2 (by omega), k1, k2⟩
   have := hc 0 (by omega)
   rw [show (a.add (i * 3)).add 0 = a.add (i * 3) from by simp [Addr.add]] at this
   exact this)
  refine ⟨(List.range len).map F, some a, m, by simp, by simp; omega, by unfold maxLen at hm; omega, by simp, ?_⟩
  intro b off s hs
  obtain rfl : a = ⟨b, off, s⟩ := Option.some.inj hs
  have h0 : 0 < len → b < W.heap.size ∧ s = none := fun h0 => by
   obtain ⟨va, vb, this, _⟩ := hF 0 h0
   rw [Nat.zero_mul] at this
   exact cell_none this rfl
  refine ⟨fun hh => h0 (by simpa using hh), fun j z hj => ?_⟩
  have hjl : j < len := by
   rcases Nat.lt_or_ge j len with q | q
   ·exact q
   ·rw [List.getElem?_eq_none (by simpa using q)] at hj; cases hj
  rw [List.getElem?_map, List.getElem?_range hjl] at hj
  have hz : F j = z := by simpa using hj
  subst hz
  obtain ⟨_, rfl⟩ := h0 (by omega)
  obtain ⟨va, vb, k1, k2, k3, k4, k5⟩ := hF j hjl
  rw [qgc] at k1 k2 k3
  rw [qgc] at k2 k3
  exact ⟨va, vb, k1, k2, k3, k4, k5⟩
end Go.Proofs.YthhgfhdmfhnklaaGreatDoor
namespace Go.Proofs.YthhgfhdmfhnklaaGreatDoor
open Go.RowKit Go.ChangeShapes Go.WideShapes
theorem size_n (vars : Int) : ∀ (N : Nat) (t : Tr), SizeOf.sizeOf t < N → ∀ (above : Nat) (x : Value) (w : World), qej vars t above → qei t ≤ 4096 → TrV w x t → Calls Tryz.prog 94 #[x] w (qea w (.tuple #[.int .i64 (qei t : Nat), .int .i64 (qdo t : Nat), .int .i64 (trDep t : Nat)])) := by
 intro N
 induction N with
 | zero => intro t h; omega
 | succ N ih =>
  intro t hN above x w hok hsz ht
  match t, hok, hN, hsz, ht with
  | .mk v [] r, _, _, _, ht =>
   obtain ⟨ao, c, rfl, hks, hc1, hc2, _, _⟩ := ht.open
   simp only [List.length_nil] at hks hc1 ⊢
   obtain ⟨W, hW⟩ : ∃ W, W = w.alloc (.cells #[.int .i64 v, .slice ao 0 c, .int .i64 r] 27) := ⟨_, rfl⟩
   have hbW : Below w.heap.size w W := by rw [hW]; exact qBA _ _
   obtain ⟨x0, x1, x2⟩ := qay (heap_alloc_new w (.cells #[.int .i64 v, .slice ao 0 c, .int .i64 r] 27))
   have HBW := qHd hbW
   clear hbW hks ht
   go_enter Tryz.func94, Tryz.ntmps94
   go_wp2_with fail
   rw [← hW]
   go_ret3
   exact ⟨by simp [qei, qdo, trDep], HBW.out⟩
  | .mk v [a, b] r, hok, hN, hsz, ht =>
   simp only [qej] at hok
   obtain ⟨q0, q1, q2, rfl, hoa, hob⟩ := hok
   obtain ⟨ao, c, rfl, hks, hc1, hc2, _, _⟩ := ht.open
   simp only [List.length_cons, List.length_nil] at hks hc1 ⊢
   obtain ⟨bk, ok, rfl, hbk, hjk, hat⟩ := hks.at (by decide); clear hjk hks ht
   obtain ⟨kva, kra, kaa, kna, kca, ca0, ca1, ca2, hTVa⟩ := (hat 0 a rfl).val
   obtain ⟨kvb, krb, kab, knb, kcb, cb0, cb1, cb2, hTVb⟩ := (hat 1 b rfl).val
   simp only [Nat.zero_mul, Nat.add_zero, Nat.one_mul] at ca0 ca1 ca2 cb0 cb1 cb2
   have HSA := qHd (show SizeOf.sizeOf a < N by have := qcj (v := v) (r := 0) (ks := [a, b]) (k := a) (by simp); omega)
   have HSB := qHd (show SizeOf.sizeOf b < N by have := qcj (v := v) (r := 0) (ks := [a, b]) (k := b) (by simp); omega)
   have KA := qHd (And.intro ca0 (And.intro ca1 ca2)); have KB := qHd (And.intro cb0 (And.intro cb1 cb2))
   have HTA := qHd hTVa; have HTB := qHd hTVb; have HOA := qHd hoa; have HOB := qHd hob; have HBK := qHd hbk
   have hsz' : 1 + qei a + qei b ≤ 4096 := by simpa [qei] using hsz
   have ta := (qdf a); have tb := (qdf b)
   obtain ⟨za, hza⟩ : ∃ z, z = qei a := ⟨_, rfl⟩
   obtain ⟨zb, hzb⟩ : ∃ z, z = qei b := ⟨_, rfl⟩
   obtain ⟨la, hla⟩ : ∃ z, z = qdo a := ⟨_, rfl⟩
   obtain ⟨lb, hlb⟩ : ∃ z, z = qdo b := ⟨_, rfl⟩
   obtain ⟨da, hda⟩ : ∃ z, z = trDep a := ⟨_, rfl⟩
   obtain ⟨db, hdb⟩ : ∃ z, z = trDep b := ⟨_, rfl⟩
   have HZA := qHd (show qei a ≤ 4096 by omega); have HZB := qHd (show qei b ≤ 4096 by omega)
   have R := qHd (show qei (.mk v [a, b] 0) = 1 + za + zb ∧ qdo (.mk v [a, b] 0) = la + lb ∧ trDep (.mk v [a, b] 0) = (if da < db then db else da) + 1 by rw [hza, hzb, hla, hlb, hda, hdb]; simp only [qei, qdo, trDep, true_and])
   have IHA := qHd (fun (w1 : World) (h : TrV w1 (.agg #[.int .i64 kva, .slice kaa kna kca, .int .i64 kra]) a) => ih a HSA.out _ _ w1 HOA.out HZA.out h)
   have IHB := qHd (fun (w1 : World) (h : TrV w1 (.agg #[.int .i64 kvb, .slice kab knb kcb, .int .i64 krb]) b) => ih b HSB.out _ _ w1 HOB.out HZB.out h)
   rw [← hza, ← hla, ← hda] at IHA
   rw [← hzb, ← hlb, ← hdb] at IHB
   rw [← hza, ← hzb] at hsz'
   rw [← hza, ← hla, ← hda] at ta
   rw [← hzb, ← hlb, ← hdb] at tb
   clear ca0 ca1 ca2 cb0 cb1 cb2 hat hTVa hTVb hoa hob q0 q1 q2 hza hzb hla hlb hda hdb hsz hN
   obtain ⟨W, hW, hbW, g1, hG1, hg1⟩ := qBx5 w (.cells #[.int .i64 v, .slice (some ⟨bk, ok, none⟩) 2 c, .int .i64 0] 27)
   have HB := qHd hbW; have G1 := qHd hg1
   obtain ⟨x0, x1, x2⟩ := qay hg1
   have k0 := (hbW.cell (p := ⟨bk, _, none⟩) hbk).trans KA.out.1
   have k1 := (hbW.cell (p := ⟨bk, _, none⟩) hbk).trans KA.out.2.1
   have k2 := (hbW.cell (p := ⟨bk, _, none⟩) hbk).trans KA.out.2.2
   rw [hW, hG1] at x0 x1 x2
   rw [hW] at k0 k1 k2
   have HK := qHd (IHA.out W (HTA.out.below hbW))
   clear hbW hg1
   go_enter Tryz.func94, Tryz.ntmps94
   go_wp2_with (with_reducible refine qad ?_)
   rw [← hW, ← hG1]
   clear hW hG1 x0 x1 x2 k0 k1 k2
   refine qap.mk ?_
   (with_reducible refine HK.out.mono ?_); rintro e w1 ⟨rfl, hb1⟩
   have HB := qHd (HB.out.trans (hb1.mono HB.out.size)); have G1 := qHd (qaa G1.out hb1)
   clear hb1 HK
   obtain ⟨x0, x1, x2⟩ := qay G1.out
   have k0 := (HB.out.cell (p := ⟨bk, _, none⟩) hbk).trans KB.out.1
   have k1 := (HB.out.cell (p := ⟨bk, _, none⟩) hbk).trans KB.out.2.1
   have k2 := (HB.out.cell (p := ⟨bk, _, none⟩) hbk).trans KB.out.2.2
   have HK := qHd (IHB.out w1 (HTB.out.below HB.out))
   go_wp2_with (with_reducible refine qad ?_)
   clear x0 x1 x2 k0 k1 k2
   refine qap.mk ?_
   (with_reducible refine HK.out.mono ?_); rintro e w2 ⟨rfl, hb2⟩
   have HB := qHd (HB.out.trans (hb2.mono HB.out.size))
   clear hb2 HK
   have hmx : max (da : Int) (db : Int) = (((if da < db then db else da) : Nat) : Int) := by split <;> omega
   obtain ⟨dm, hdm⟩ : ∃ d, d = (if da < db then db else da) := ⟨_, rfl⟩
   rw [← hdm] at hmx R
   have hdl : dm ≤ 4096 := by rw [hdm]; split <;> omega
   clear hdm
   go_wp2_with fail
   go_ret3
   refine ⟨?_, HB.out⟩
   rw [R.out.1, R.out.2.1, R.out.2.2]
   refine congrArg Ending.returned ?_
   simp
   omega
  | .mk v [a] r, hok, _, _, _ => simp only [qej] at hok
  | .mk v (_ :: _ :: _ :: _) r, hok, _, _, _ => simp only [qej] at hok
theorem trSwap_cnt (by_ : Tr) : ∀ (t : Tr) (k : Int), (qbo by_ t k).2 = qdo t
 | .mk v [] r, k => by simp only [qbo, qdo]; split <;> rfl
 | .mk v [a, b] r, k => by simp only [qbo, qdo]; rw [trSwap_cnt by_ a, trSwap_cnt by_ b]
 | .mk v [a] r, k => by simp only [qbo, qdo]; split <;> rfl
 | .mk v (_ :: _ :: _ :: _) r, k => by simp only [qbo, qdo]; split <;> rfl
theorem wrap_any {z : Int} (h : -9223372036854775808 ≤ z ∧ z < 9223372036854775808) : IntKind.wrap .i64 z = z := by
 unfold IntKind.wrap
 simp [IntKind.bits, IntKind.signed]
 omega
def swpV (vars : Int) (t : Tr) (k : Int) (by_ : Tr) : Tr × Nat :=
 if (qbh vars t 0 0).2 ≠ 0 then (.mk 0 [] 0, (qbh vars t 0 0).2)
 else if k < 0 ∨ (qdo t : Int) ≤ k then (.mk 0 [] 0, 10)
 else if (qbh vars (qbo by_ t k).1 0 0).2 ≠ 0 then (.mk 0 [] 0, (qbh vars (qbo by_ t k).1 0 0).2)
 else ((qbo by_ t k).1, 0)
theorem putL_66 {w : World} {g : Nat} {x0 x1 x2 x3 x4 x5 y0 y1 y2 y3 y4 y5 : Value} {T : TypeId} (h : w.heap[g]? = some (.cells #[x0, x1, x2, x3, x4, x5] T)) : (qel w g 0 [y0, y1, y2, y3, y4, y5]).heap[g]? = some (.cells #[y0, y1, y2, y3, y4, y5] T) := by
 simp [qel, World.setCell, Array.getElem?_modify, h]
def rfV (f : Fm) (t : Tr) (L : List Rv) : Tr × Nat :=
 if sErr f t L ≠ 0 then (.mk 0 [] 0, sErr f t L)
 else match qfe (L.map Rv.q) (qah t 0 0) 0 none with
  | none => (.mk 0 [] 0, 17)
  | some r => swpV f.vars t (r.1 : Nat) (grT f 1 ((qah t 0 0).getD r.1 ⟨0, 0, 0⟩).yes ((qah t 0 0).getD r.1 ⟨0, 0, 0⟩).no)
theorem rfV_bad {f : Fm} {t : Tr} {L : List Rv} {e : Nat} (h : sErr f t L = e) (h0 : e ≠ 0) : rfV f t L = (.mk 0 [] 0, e) := by
 unfold rfV; rw [if_pos (by rw [h]; exact h0), h]
theorem rfV_none {f : Fm} {t : Tr} {L : List Rv} (h : sErr f t L = 0) (h0 : qfe (L.map Rv.q) (qah t 0 0) 0 none = none) : rfV f t L = (.mk 0 [] 0, 17) := by
 unfold rfV; rw [if_neg (fun k => k h), h0]
theorem rfV_some {f : Fm} {t : Tr} {L : List Rv} {r : Nat × Rat} {x : Lf} (h : sErr f t L = 0) (h0 : qfe (L.map Rv.q) (qah t 0 0) 0 none = some r) (hx : (qah t 0 0)[r.1]? = some x) :
  rfV f t L = swpV f.vars t (r.1 : Nat) (grT f 1 x.yes x.no) := by
 unfold rfV; rw [if_neg (fun k => k h), h0]
 show swpV f.vars t (r.1 : Nat) (grT f 1 ((qah t 0 0).getD r.1 ⟨0, 0, 0⟩).yes ((qah t 0 0).getD r.1 ⟨0, 0, 0⟩).no) = _
 rw [List.getD_eq_getElem?_getD, hx]; rfl
theorem pickL_drop {ps : List Rat} {l : List Lf} {q : Nat} {x : Lf} {acc : Option (Nat × Rat)} (h : l[q]? = some x) : qfe ps (l.drop q) q acc = qfe ps (l.drop (q + 1)) (q + 1) (pickS ps x q acc) := by
 obtain ⟨h1, h2⟩ := List.getElem?_eq_some_iff.1 h
 rw [List.drop_eq_getElem_cons h1, h2]; rfl
def atI : Option (Nat × Rat) → Int
 | none => -1
 | some p => (p.1 : Nat)
def accOK (ps : List Rat) (l : List Lf) (acc : Option (Nat × Rat)) : Prop := ∀ p, acc = some p → ∃ x, l[p.1]? = some x ∧ p.2 = wt ps x.yes x.no
theorem accOK_none (ps : List Rat) (l : List Lf) : accOK ps l none := fun p h => by cases h
theorem accOK_at {ps : List Rat} {l : List Lf} {q : Nat} {x : Lf} (h : l[q]? = some x) : accOK ps l (some (q, wt ps x.yes x.no)) := fun p hp => by cases hp; exact ⟨x, h, rfl⟩
theorem pickS_no {ps : List Rat} {x : Lf} {i : Nat} {acc : Option (Nat × Rat)} (h : x.reason ≠ 2) : pickS ps x i acc = acc := by unfold pickS; rw [if_neg h]
theorem pickS_first {ps : List Rat} {x : Lf} {i : Nat} (h : x.reason = 2) : pickS ps x i none = some (i, wt ps x.yes x.no) := by unfold pickS; rw [if_pos h]
theorem pickS_more {ps : List Rat} {x : Lf} {i j : Nat} {m : Rat} (h : x.reason = 2) : pickS ps x i (some (j, m)) = if m < wt ps x.yes x.no then some (i, wt ps x.yes x.no) else some (j, m) := by unfold pickS; rw [if_pos h]
theorem rl_wt24 {L : List Rv} (h24 : L.length ≤ 24) (hl : ∀ z ∈ L, rl z.q ≤ 3) (y n : Nat) : rl (wt (L.map Rv.q) y n) ≤ 121 := by
 have h := rl_wtL (k := 3) (L.map Rv.q) 0 y n (fun p hp => by obtain ⟨z, hz, rfl⟩ := List.mem_map.1 hp; exact hl z hz)
 rw [List.length_map] at h
 show rl (wtL _ 0 _ _) ≤ 121
 have h3 : L.length * (3 + 2) ≤ 24 * 5 := Nat.mul_le_mul_right 5 h24
 omega
theorem grN1_le (f : Fm) (y n : Nat) : grN f 1 y n ≤ 3 := by simp only [grN]; split <;> omega
theorem Tryz.splitTy : qee Tryz.prog 25 27 (.agg #[.int .i64 0, .slice none 0 0, .int .i64 0]) 3 40 := .mk' Tryz.underlying25 (by kernel_rfl)
def KeepH (w w2 : World) : Prop := ∀ (k : Nat) (cs : Array Value), w.heap[k]? = some (.cells cs 27) → 6 ≤ cs.size → w2.heap[k]? = w.heap[k]?
theorem keepH_trans {a b c : World} (h : KeepH a b) (k : KeepH b c) : KeepH a c := fun i cs hi hs => by
 have := h i cs hi hs
 rw [← this]; exact k i cs (by rw [this]; exact hi) hs
theorem qcb {a b : World} (h : Below a.heap.size a b) : KeepH a b := fun i _ hi _ => h.block i (Array.getElem?_eq_some_iff.1 hi).1
theorem keepH_gb {a b : World} {g : Nat} {cs : Array Value} {T : TypeId} (h : a.grownBy b (some g)) (hg : a.heap[g]? = some (.cells cs T)) (hs : cs.size < 6) : KeepH a b := fun i cs' hi h6 => by
 refine h.block i (Array.getElem?_eq_some_iff.1 hi).1 (fun e => ?_)
 cases e
 rw [hg] at hi
 cases hi; omega
theorem qes {w w' : World} {p off : Nat} {l : List Value} {cs : Array Value} {T : TypeId} (hw : w' = qel w p off l) (hp : w.heap[p]? = some (.cells cs T)) (hs : cs.size < 6) : KeepH w w' := keepH_gb (qfz hw) hp hs
def TrH (w : World) (x : Value) (t : Tr) : Prop := ∀ w2, KeepH w w2 → TrV w2 x t
theorem TrH.keep {w w' : World} {x : Value} {t : Tr} (h : TrH w x t) (k : KeepH w w') : TrH w' x t := fun w2 h2 => h w2 (keepH_trans k h2)
theorem TrH.tr {w : World} {x : Value} {t : Tr} (h : TrH w x t) : TrV w x t := h w (fun _ _ _ _ => rfl)
theorem TrG.toH {w : World} {x : Value} {t : Tr} (h : TrG w x t) : TrH w x t := fun w2 k => h w2 (fun i cs hi hs => k i cs hi (by omega))
def KHt (t : Tr) : Value → World → Prop := fun v w => TrH w v t
theorem kHt (t : Tr) : MonoF (KHt t) := fun _ _ _ h hb => h.keep (qcb hb)
def KHl (t : Tr) (k : Nat) : Value → World → Prop := fun v w => ∃ a, v = .tuple #[a, .int .i64 (k : Nat)] ∧ TrH w a t
theorem kHl (t : Tr) (k : Nat) : MonoF (KHl t k) := fun _ _ _ ⟨a, ha, ht⟩ hb => ⟨a, ha, ht.keep (qcb hb)⟩
def RetHw (w : World) (t : Tr) (left : Nat) (e : Ending) (w' : World) : Prop := ∃ v, e = .returned (.tuple #[v, .int .i64 (left : Nat)]) ∧ TrH w' v t ∧ Below w.heap.size w w'
def lfC : Tr → List Value | .mk v _ r => [.int .i64 v, .slice none 0 0, .int .i64 r]
def lfCs (l : List Tr) : List Value := l.flatMap lfC
theorem lfC_len (t : Tr) : (lfC t).length = 3 := by cases t; rfl
theorem lfCs_app (a b : List Tr) : lfCs (a ++ b) = lfCs a ++ lfCs b := by simp [lfCs]
theorem lfCs_one (t : Tr) : lfCs [t] = lfC t := by simp [lfCs]
theorem lfCs_at : ∀ (ts : List Tr) (i k : Nat) (t : Tr), ts[i]? = some t → k < 3 → (lfCs ts)[i * 3 + k]? = (lfC t)[k]?
 | [], i, k, t, h, _ => by simp at h
 | x :: ts, i, k, t, h, hk => by
  rw [show lfCs (x :: ts) = lfC x ++ lfCs ts from rfl]
  cases i with
  | zero => simp at h; subst h; rw [List.getElem?_append_left (by rw [lfC_len]; omega)]; simp
  | succ i =>
   simp only [List.getElem?_cons_succ] at h
   rw [List.getElem?_append_right (by rw [lfC_len]; omega), lfC_len, show (i + 1) * 3 + k - 3 = i * 3 + k by omega]
   exact lfCs_at ts i k t h hk
def FlatT : Tr → Prop | .mk v ks r => ks.length ≠ 1 ∧ ks.length ≤ 1000 ∧ I64 v ∧ I64 r ∧ ∀ k ∈ ks, ∃ a b, k = .mk a [] b ∧ I64 a ∧ I64 b
theorem flat_grow (f : Fm) (h : qcc f = 0) (y n : Nat) : FlatT (grT f 1 y n) := by
 obtain ⟨p0, p1, _, p3⟩ := qbe h
 have lf : ∀ y n, qco f y n ≤ 2 := fun y n => fmVal_le p3 y n
 by_cases h2 : qco f y n = 2
 ·obtain ⟨h1, _⟩ := fmNext_ok h h2
  simp only [grT]
  rw [if_neg (fun k => k h2)]
  refine ⟨by simp, by simp, ⟨by omega, by omega⟩, ⟨by decide, by decide⟩, fun k hk => ?_⟩
  simp only [List.mem_cons, List.not_mem_nil, or_false] at hk
  rcases hk with rfl | rfl
  ·have := lf y (n ||| 1 <<< qcp f y n)
   exact ⟨0, _, rfl, ⟨by decide, by decide⟩, ⟨by omega, by omega⟩⟩
  ·have := lf (y ||| 1 <<< qcp f y n) n
   exact ⟨0, _, rfl, ⟨by decide, by decide⟩, ⟨by omega, by omega⟩⟩
 ·simp only [grT]
  rw [if_pos h2]
  have := lf y n
  exact ⟨by decide, by decide, ⟨by decide, by decide⟩, ⟨by omega, by omega⟩, fun k hk => by cases hk⟩
theorem own_flat {w w2 : World} {B : Nat} {x : Value} {v r : Int} {ks : List Tr} (h : w.ownsRow B 27 3 x ks.length (lfCs ks)) (hf : FlatT (.mk v ks r)) (hk : KeepH w w2) : TrV w2 (.agg #[.int .i64 v, x, .int .i64 r]) (.mk v ks r) := by
 obtain ⟨h1, h10, hv, hr, hl⟩ := hf
 refine ⟨x, rfl, ?_, hv, hr⟩
 obtain ⟨k1, k2⟩ := h
 rcases k2 with ⟨e1, e2⟩ | ⟨g, cap, cur, e1, e2, e3, e4, e5, e6, e7⟩
 ·obtain rfl : ks = [] := List.eq_nil_of_length_eq_zero e2
  rw [e1]; exact KidsV.nil w2
 ·by_cases h0 : ks.length = 0
  ·obtain rfl : ks = [] := List.eq_nil_of_length_eq_zero h0
   rw [e1]
   exact ⟨_, _, rfl, Nat.zero_le _, by unfold maxLen at e5; omega, (fun h => by cases h), fun b o s h => ⟨fun h => absurd h (Nat.lt_irrefl _), by simp only [qeb]⟩⟩
  ·have e8 : w2.heap[g]? = some (.cells cur 27 (0, 0)) := by rw [hk g cur e3 (by omega)]; exact e3
   refine own_kids (B := B) (xs := lfCs ks) ⟨k1, .inr ⟨g, cap, cur, e1, e2, e8, e4, e5, e6, e7⟩⟩ ?_
   intro j t hj
   obtain ⟨a, b, rfl, ha, hb⟩ := hl t (List.mem_of_getElem? hj)
   have q := fun k hk => lfCs_at ks j k _ hj hk
   have q0 := q 0 (by omega); have q1 := q 1 (by omega); have q2 := q 2 (by omega)
   simp only [Nat.add_zero] at q0
   exact ⟨_, _, _, q0, q1, q2, ⟨_, rfl, KidsV.nil w2, ha, hb⟩⟩
theorem wpList_stV {P : Program} {ops : Array Oper} {rest : List Oper} {a : Act} {w : World} {Q : Exit → Act → World → Prop} {ty tt : TypeId} {x y : Operand} {pos : String} {af : Array Edge}
  (g off : Nat) {ao : Option Addr} {n c : Nat} {cs : Array Value} {T : TypeId} (hg : w.heap[g]? = some (.cells cs T)) (hx : a.eval x = .pointer (some ⟨g, off, none⟩)) (hy : a.eval y = .slice ao n c)
  (hle : off < cs.size) (hi : (P.info? ty).map (·.size) = some 1) (hK : ∀ w', w' = qel w g off [.slice ao n c] → wpList P ops Q rest a w') :
  qap (wpList P ops Q (⟨none, .store ty x y, tt, pos, af, none⟩ :: rest) a w) := by
 refine wpList_plain rfl fun K hK' => ?_
 have hc : w.cell? ⟨g, off, none⟩ = some (cs[off]) := by rw [cell_of_row w g off cs T (0, 0) hg, Array.getElem?_eq_getElem hle]
 have hf := frozen_of_row w g off cs T hg
 obtain ⟨i0, hi0, hi1⟩ : ∃ i, P.info? ty = some i ∧ i.size = 1 := by
  cases h : P.info? ty with
  | none => rw [h] at hi; cases hi
  | some i => rw [h] at hi; exact ⟨i, rfl, by simpa using hi⟩
 have hs : (Go.sizeOf ty).run P w = .ok 1 w := by simp [Go.sizeOf, typeInfo, hi0, hi1]
 have hk := hK' _ _ (hK _ rfl)
 clear hK hK'
 unfold qel qel at hk
 unfold Oper.wp
 simp only [execOp, hx, hy]
 go_simp
 try simp only [hs, Result.andThen_ok, if_true, hc, hf]
 simpa [Oper.upon, Act.put] using hk
theorem ret_c1 {P : Program} {fn : Func} {R : Ending → World → Prop} {a : Act} {w : World} {p : Tmp} {ty : TypeId} {d : TypeDesc} (h : fn.results = #[.cell p ty]) (g : Nat) (cs : Array Value)
  (hp : a.tmps.getD p undef = .pointer (some ⟨g, 0, none⟩)) (hg : w.heap[g]? = some (.cells cs ty)) (hu : P.underlying ty = some d) (hd : (match d with | .struct _ | .array _ _ => true | _ => false) = true) (hi : (P.info? ty).map (·.size) = some cs.size)
  (hf : a.defers = []) (hR : R (.returned (.agg cs)) w) : bodyPost P fn R .ret a w := by
 exact bodyPost_ret (results_cell_row h a.tmps w g ty _ _ _ hp hg hu hd hi) hf hR
theorem copied_leaf (x : Value) (v r : Int) (w : World) (ht : TrV w x (.mk v [] r)) : Calls Tryz.prog 131 #[x] w (qea w (.agg #[.int .i64 v, .slice none 0 0, .int .i64 r])) := by
 obtain ⟨ao, c, rfl, hks, hc1, hc2, _, _⟩ := ht.open
 simp only [List.length_nil] at hks hc1 ⊢
 obtain ⟨wa, hwa⟩ : ∃ x, x = w.alloc (.cells #[.int .i64 v, .slice ao 0 c, .int .i64 r] 27) := ⟨_, rfl⟩
 obtain ⟨wb, hwb⟩ : ∃ x, x = wa.alloc (.cells #[.int .i64 0, .slice none 0 0, .int .i64 0] 27) := ⟨_, rfl⟩
 obtain ⟨W, hW⟩ : ∃ x, x = wb.alloc (.cells #[.int .i64 0, .slice none 0 0, .int .i64 0] 27) := ⟨_, rfl⟩
 have ba : Below w.heap.size w wa := by rw [hwa]; exact qBA _ _
 have bb : Below wa.heap.size wa wb := by rw [hwb]; exact qBA _ _
 have bW : Below wb.heap.size wb W := by rw [hW]; exact qBA _ _
 have sa : wa.heap.size = w.heap.size + 1 := by rw [hwa]; exact Array.size_push (xs := w.heap) _
 have sb : wb.heap.size = w.heap.size + 1 + 1 := by rw [← sa, hwb]; exact Array.size_push (xs := wa.heap) _
 have hg1 : W.heap[w.heap.size]? = some (.cells #[.int .i64 v, .slice ao 0 c, .int .i64 r] 27) := qaa (qaa (by rw [hwa]; exact heap_alloc_new w _) bb) bW
 have hg2 : W.heap[w.heap.size + 1]? = some (.cells #[.int .i64 0, .slice none 0 0, .int .i64 0] 27) := qaa (by rw [← sa, hwb]; exact heap_alloc_new wa _) bW
 have hg3 : W.heap[w.heap.size + 1 + 1]? = some (.cells #[.int .i64 0, .slice none 0 0, .int .i64 0] 27) := by rw [← sb, hW]; exact heap_alloc_new wb _
 have HB := qHd (ba.trans ((bb.mono ba.size).trans (bW.mono (Nat.le_trans ba.size bb.size))))
 obtain ⟨g1, hG1⟩ : ∃ g, g = w.heap.size := ⟨_, rfl⟩
 obtain ⟨g2, hG2⟩ : ∃ g, g = w.heap.size + 1 := ⟨_, rfl⟩
 obtain ⟨g3, hG3⟩ : ∃ g, g = w.heap.size + 1 + 1 := ⟨_, rfl⟩
 rw [← hG1] at hg1; rw [← hG2] at hg2; rw [← hG3] at hg3
 have l1 : w.heap.size ≤ g1 := by omega
 have l2 : w.heap.size ≤ g2 := by omega
 have l3 : w.heap.size ≤ g3 := by omega
 have n13 : g1 ≠ g3 := by omega
 have n23 : g2 ≠ g3 := by omega
 have l23 : g2 < g3 := by omega
 have ls3 : g3 + 1 ≤ W.heap.size := qaw hg3
 have G1 := qHd hg1; have G2 := qHd hg2; have G3 := qHd hg3
 obtain ⟨x0, x1, x2⟩ := qay hg1
 rw [hW, hwb, hwa, hG1] at x0 x1 x2
 clear ba bb bW sa sb hg1 hg2 hg3
 go_enter Tryz.func131, Tryz.ntmps131
 go_wp2_with (with_reducible refine qaf ?_)
 rw [← hwa, ← hwb, ← hW, ← hG3, ← hG2, ← hG1]
 clear hwa hwb hW hG3 hG2 hG1 x0 x1 x2
 refine qan g3 0 [.int .i64 v, .slice none 0 0, .int .i64 r] G3.out rfl rfl (Nat.le_of_ble_eq_true rfl) (by kernel_rfl) rfl ?_
 intro w3 hp3
 have G3 := qHd (show w3.heap[g3]? = some (.cells #[.int .i64 v, .slice none 0 0, .int .i64 r] 27) by rw [hp3]; exact qbd G3.out)
 have G1 := qHd (qbr hp3 G1.out n13); have G2 := qHd (qbr hp3 G2.out n23)
 have HB := qHd (qbl hp3 HB.out l3)
 clear hp3
 obtain ⟨x0, x1, x2⟩ := qay G1.out
 go_wp2_with fail
 clear x0 x1 x2
 go_loopw [14] (fun i' wx => i' = .int .i64 0 ∧ wx = w3) (fun i' _ => 0)
 case atStart => exact ⟨rfl, rfl⟩
 case round =>
  obtain ⟨rfl, rfl⟩ := hrel
  obtain ⟨x0, x1, x2⟩ := qay G3.out
  go_wp2_with (with_reducible refine qaf ?_)
  clear x0 x1 x2
  refine qan g2 0 [.int .i64 v, .slice none 0 0, .int .i64 r] G2.out rfl rfl (Nat.le_of_ble_eq_true rfl) (by kernel_rfl) rfl ?_
  intro wz hpz
  have GZ := qHd (show wz.heap[g2]? = some (.cells #[.int .i64 v, .slice none 0 0, .int .i64 r] 27) by rw [hpz]; exact qbd G2.out)
  have HBz := qHd (qbl hpz HB.out l2)
  clear hpz
  go_wp2_with (with_reducible first | refine qad ?_ | refine qai ?_ | refine qaj ?_ | refine qak ?_ | refine qag ?_)
  refine ret_c1 rfl g2 #[.int .i64 v, .slice none 0 0, .int .i64 r] rfl GZ.out Tryz.underlying27 rfl (by kernel_rfl) rfl ?_
  exact ⟨rfl, HBz.out⟩
theorem copied_any (x : Value) (t : Tr) (hft : FlatT t) (w : World) (ht : TrV w x t) : Calls Tryz.prog 131 #[x] w (fun e w' => ∃ v', e = .returned v' ∧ Below w.heap.size w w' ∧ TrH w' v' t) := by
 obtain ⟨v, ks, r⟩ := t
 have HFT := qHd hft
 obtain ⟨hn1, hn10, hiv, hir, hfl⟩ := hft
 obtain ⟨ao, c, rfl, hks, hc1, hc2, _, _⟩ := ht.open
 have HK0 := qHd hks; have HFL := qHd hfl
 clear ht hks hfl
 obtain ⟨wa, hwa⟩ : ∃ x, x = w.alloc (.cells #[.int .i64 v, .slice ao ks.length c, .int .i64 r] 27) := ⟨_, rfl⟩
 obtain ⟨wb, hwb⟩ : ∃ x, x = wa.alloc (.cells #[.int .i64 0, .slice none 0 0, .int .i64 0] 27) := ⟨_, rfl⟩
 obtain ⟨W, hW⟩ : ∃ x, x = wb.alloc (.cells #[.int .i64 0, .slice none 0 0, .int .i64 0] 27) := ⟨_, rfl⟩
 have ba : Below w.heap.size w wa := by rw [hwa]; exact qBA _ _
 have bb : Below wa.heap.size wa wb := by rw [hwb]; exact qBA _ _
 have bW : Below wb.heap.size wb W := by rw [hW]; exact qBA _ _
 have sa : wa.heap.size = w.heap.size + 1 := by rw [hwa]; exact Array.size_push (xs := w.heap) _
 have sb : wb.heap.size = w.heap.size + 1 + 1 := by rw [← sa, hwb]; exact Array.size_push (xs := wa.heap) _
 have hg1 : W.heap[w.heap.size]? = some (.cells #[.int .i64 v, .slice ao ks.length c, .int .i64 r] 27) := qaa (qaa (by rw [hwa]; exact heap_alloc_new w _) bb) bW
 have hg2 : W.heap[w.heap.size + 1]? = some (.cells #[.int .i64 0, .slice none 0 0, .int .i64 0] 27) := qaa (by rw [← sa, hwb]; exact heap_alloc_new wa _) bW
 have hg3 : W.heap[w.heap.size + 1 + 1]? = some (.cells #[.int .i64 0, .slice none 0 0, .int .i64 0] 27) := by rw [← sb, hW]; exact heap_alloc_new wb _
 have HB := qHd (ba.trans ((bb.mono ba.size).trans (bW.mono (Nat.le_trans ba.size bb.size))))
 obtain ⟨g1, hG1⟩ : ∃ g, g = w.heap.size := ⟨_, rfl⟩
 obtain ⟨g2, hG2⟩ : ∃ g, g = w.heap.size + 1 := ⟨_, rfl⟩
 obtain ⟨g3, hG3⟩ : ∃ g, g = w.heap.size + 1 + 1 := ⟨_, rfl⟩
 rw [← hG1] at hg1; rw [← hG2] at hg2; rw [← hG3] at hg3
 have l1 : w.heap.size ≤ g1 := by omega
 have l2 : w.heap.size ≤ g2 := by omega
 have l3 : w.heap.size ≤ g3 := by omega
 have n13 : g1 ≠ g3 := by omega
 have n23 : g2 ≠ g3 := by omega
 have l23 : g2 < g3 := by omega
 have ls3 : g3 + 1 ≤ W.heap.size := qaw hg3
 have G1 := qHd hg1; have G2 := qHd hg2; have G3 := qHd hg3
 obtain ⟨x0, x1, x2⟩ := qay hg1
 rw [hW, hwb, hwa, hG1] at x0 x1 x2
 clear ba bb bW sa sb hg1 hg2 hg3
 go_enter Tryz.func131, Tryz.ntmps131
 go_wp2_with (with_reducible refine qaf ?_)
 rw [← hwa, ← hwb, ← hW, ← hG3, ← hG2, ← hG1]
 clear hwa hwb hW hG3 hG2 hG1 x0 x1 x2
 refine qan g3 0 [.int .i64 v, .slice none 0 0, .int .i64 r] G3.out rfl rfl (Nat.le_of_ble_eq_true rfl) (by kernel_rfl) rfl ?_
 intro w3 hp3
 have G3 := qHd (show w3.heap[g3]? = some (.cells #[.int .i64 v, .slice none 0 0, .int .i64 r] 27) by rw [hp3]; exact qbd G3.out)
 have G1 := qHd (qbr hp3 G1.out n13); have G2 := qHd (qbr hp3 G2.out n23)
 have HB := qHd (qbl hp3 HB.out l3)
 have hs3 : W.heap.size = w3.heap.size := by rw [hp3]; exact (putL_size _ _ _ _).symm
 rw [hs3] at ls3
 clear hp3 hs3
 obtain ⟨x0, x1, x2⟩ := qay G1.out
 go_wp2_with fail
 clear x0 x1 x2
 go_loopw [14] (fun i' wx => ∃ (q : Nat) (vv : Value), q ≤ ks.length ∧ i' = .int .i64 q ∧ Hid (Below w.heap.size w wx) ∧ w3.heap.size ≤ wx.heap.size ∧ Hid (wx.heap[g2]? = some (.cells #[.int .i64 0, .slice none 0 0, .int .i64 0] 27)) ∧
  Hid (wx.heap[g3]? = some (.cells #[.int .i64 v, vv, .int .i64 r] 27)) ∧ Hid (wx.ownsRow (g3 + 1) 27 3 vv q (lfCs (ks.take q)))) (fun i' _ => ks.length - (intOf i').toNat)
 case atStart => exact ⟨0, .slice none 0 0, Nat.zero_le _, rfl, HB, Nat.le_refl _, G2, G3, qHd ⟨rfl, .inl ⟨rfl, rfl⟩⟩⟩
 case round =>
  obtain ⟨q, vv, hq, rfl, HB, hsz, G2, G3, O⟩ := hrel
  obtain ⟨wo, rfl⟩ : ∃ wo : World, wo = wr := ⟨_, rfl⟩
  obtain ⟨aov, cv, rfl, hcv, hcv2, _⟩ := qff O.out
  by_cases hlt : q < ks.length
  ·obtain ⟨k, hk⟩ : ∃ k, ks[q]? = some k := ⟨ks[q], List.getElem?_eq_getElem hlt⟩
   obtain ⟨kv0, kr0, rfl, hkv, hkr⟩ := HFL.out k (List.mem_of_getElem? hk)
   obtain ⟨bk, ok, rfl, hbk, hjk, hat⟩ := HK0.out.at (by omega); clear hjk
   obtain ⟨kv, kr, ka, kn, kc, c0, c1, c2, hTV⟩ := (hat q _ hk).val
   have hTV0 := hTV
   obtain ⟨ka', kc', ekk, _⟩ := hTV.open
   simp only [Value.agg.injEq, Array.mk.injEq, List.cons.injEq, and_true, Value.int.injEq, true_and, Value.slice.injEq, List.length_nil] at ekk
   obtain ⟨rfl, ⟨rfl, rfl, rfl⟩, rfl⟩ := ekk
   have k0 := (HB.out.cell (p := ⟨bk, _, none⟩) hbk).trans c0
   have k1 := (HB.out.cell (p := ⟨bk, _, none⟩) hbk).trans c1
   have k2 := (HB.out.cell (p := ⟨bk, _, none⟩) hbk).trans c2
   have KT := qHd hTV; have HKQ := qHd hk
   have hltz : (q : Int) < (ks.length : Int) := by omega
   obtain ⟨w4, hw4, hb4, g5, hG5, hg5⟩ := qBx5 wo (.cells #[.int .i64 0, .slice none 0 0, .int .i64 0] 27)
   clear hat c0 c1 c2 hTV hTV0 hk
   go_wp2_with (with_reducible refine qaf ?_)
   rw [← hw4, ← hG5]
   clear k0 k1 k2
   refine qan g5 0 [.int .i64 kv, .slice ka 0 kc, .int .i64 kr] hg5 rfl rfl (Nat.le_of_ble_eq_true rfl) (by kernel_rfl) rfl ?_
   intro w5 hp5
   have n25 : g2 ≠ g5 := by have := qaw G2.out; omega
   have n35 : g3 ≠ g5 := by have := qaw G3.out; omega
   have l5 : w.heap.size ≤ g5 := by have := HB.out.size; omega
   have G5 := qHd (show w5.heap[g5]? = some (.cells #[.int .i64 kv, .slice ka 0 kc, .int .i64 kr] 27) by rw [hp5]; exact qbd hg5)
   have G2 := qHd (qbr hp5 (qaa G2.out hb4) n25); have G3 := qHd (qbr hp5 (qaa G3.out hb4) n35)
   have HBZ := qHd (qbl hp5 (HB.out.trans (hb4.mono HB.out.size)) l5)
   have O5 := qHd (World.ownsRow.kept (qcg O.out hb4) (qfz hp5) (.inr (fun e => by have := (World.ownsRow.lt O.out g5 e).2; omega)))
   have hs5 : w3.heap.size ≤ w5.heap.size := by rw [hp5, putL_size]; exact Nat.le_trans hsz hb4.size
   clear hw4 hG5 hb4 hg5 hp5 O
   go_wp2_with (with_reducible first | refine qad ?_ | refine qai ?_ | refine qaj ?_ | refine qak ?_ | refine qag ?_)
   refine qap.mk ?_
   refine qao (A := ?aaCP) (w := w5) 5 [] (by kernel_rfl) (Fl [KEq (.pointer (some ⟨g3, 1, none⟩)), KEq (.slice aov q cv), KEq (.agg #[.int .i64 kv, .slice ka 0 kc, .int .i64 kr]), KEq (.agg #[.int .i64 kv, .slice none 0 0, .int .i64 kr]), KLst w5.heap.size 1 #[.int .i64 kv, .slice none 0 0, .int .i64 kr] 27]) (fun i => false) (by kernel_rfl) ?hqCP (qcw (qae (kEq _) (qae (kEq _) (qae (kEq _) (qae (kEq _) (qae (kLst _ _ _ _) qcv)))))) ?haCP ?stCP ?tlCP
   case hqCP =>
    intro c a d v w h
    first | (simp only [Exit.then] at h ⊢; exact h) | (simp only [Exit.inBlock, Exit.then] at h ⊢; exact h) | exact h
   case haCP =>
    intro vals
    simp only [qba, qcd, if_true, Act.put, List.setIfInBounds_toArray, List.set_cons_zero, List.set_cons_succ, List.getElem?_toArray, List.getElem?_cons_zero, List.getElem?_cons_succ, Option.bind_some]
    exact rfl
   case stCP =>
    simp only [List.take_succ_cons, List.take_zero]
    refine qab rfl rfl ?_ (qab rfl rfl ?_ (qab rfl rfl ?_ (qab rfl rfl ?_ (qab rfl rfl ?_ (qav)))))
    ·intro vals w1 hb hd
     refine qSv (.pointer (some ⟨g3, 1, none⟩)) (by go_simp) (qLk rfl rfl)
    ·intro vals w1 hb hd
     obtain ⟨e0, e1, e2⟩ := qay (qaa G3.out hb)
     rw [show vals 0 = .pointer (some ⟨g3, 1, none⟩) from hd 0 (by kernel_rfl)]
     refine qSv (.slice aov q cv) (by go_simp) (qLk rfl rfl)
    ·intro vals w1 hb hd
     obtain ⟨e0, e1, e2⟩ := qay (qaa G5.out hb)
     refine qSv (.agg #[.int .i64 kv, .slice ka 0 kc, .int .i64 kr]) (by go_simp) (qLk rfl rfl)
    ·intro vals w1 hb hd
     have d2 : KEq (.agg #[.int .i64 kv, .slice ka 0 kc, .int .i64 kr]) (vals 2) w1 := hd 2 (by kernel_rfl)
     have HS := qHd (copied_leaf _ kv kr w1 (KT.out.below (HBZ.out.trans (hb.mono HBZ.out.size))))
     have z2 : vals 2 = _ := d2
     rw [z2]; clear z2
     refine qat (by go_simp; first | done | exact ⟨⟨rfl, rfl⟩, rfl⟩) ?_
     (with_reducible refine HS.out.mono ?_); rintro e w2 ⟨rfl, hb2⟩
     exact ⟨_, rfl, qar hb2 rfl (fun h => by cases h)⟩
    ·intro vals w1 hb hd
     rw [show vals 3 = .agg #[.int .i64 kv, .slice none 0 0, .int .i64 kr] from hd 3 (by kernel_rfl)]
     refine qaq (v := .slice (some ⟨w1.heap.size, 0, none⟩) 1 1) (w' := w1.alloc (.cells #[.int .i64 kv, .slice none 0 0, .int .i64 kr] 27)) (by go_simp) (qar ((Below.refl _ _).alloc (Nat.le_refl _) _) ⟨_, hb.size, rfl, heap_alloc_new _ _⟩ (fun h => by cases h))
   case tlCP =>
    intro vals w6 hb6 hf6 hdis
    simp only [List.drop_succ_cons, List.drop_zero]
    have z1 : vals 1 = _ := hf6 1 (by decide)
    obtain ⟨g7, hg7, ev, hz7⟩ : KLst w5.heap.size 1 #[.int .i64 kv, .slice none 0 0, .int .i64 kr] 27 (vals 4) w6 := hf6 4 (by decide)
    rw [z1, ev]
    clear z1 ev hf6 hdis
    have O6 := qHd (qcg O5.out hb6)
    have HB6 := qHd (HBZ.out.trans (hb6.mono HBZ.out.size)); have G2 := qHd (qaa G2.out hb6); have G3 := qHd (qaa G3.out hb6)
    have hs6 := Nat.le_trans hs5 hb6.size
    go_wp2_with (with_reducible refine qby ?_)
    refine qec (g3 + 1) Tryz.splitTy rfl (by decide) _ q _ [.int .i64 kv, .slice none 0 0, .int .i64 kr] g7 27 rfl rfl O6.out hz7 rfl rfl (by omega) (by decide) (Nat.le_trans ls3 hs6) ?_
    intro v' w7 ho7 hgr7
    have O67 := own_base O6.out (show w.heap.size ≤ g3 + 1 by omega)
    have hb7 := own_low O67 hgr7 HB6.out HB6.out.size
    have n3 : Value.ownBlock (.slice aov q cv) ≠ some g3 := fun e => by have := (World.ownsRow.lt O6.out g3 e).1; omega
    have n2 : Value.ownBlock (.slice aov q cv) ≠ some g2 := fun e => by have := (World.ownsRow.lt O6.out g2 e).1; omega
    have G2 := qHd (gb_heap2 hgr7 G2.out n2); have G3 := qHd (gb_heap2 hgr7 G3.out n3)
    have hs7 := Nat.le_trans hs6 hgr7.size
    obtain ⟨ao7, c7, rfl, _, _, _⟩ := qff ho7
    have O7 := qHd ho7
    have HB7 := qHd hb7
    clear hgr7 hz7 ho7 O67 hb7 n3 n2 hb6
    go_wp2_with (with_reducible refine qaf ?_)
    refine wpList_stV g3 1 G3.out rfl rfl (by simp) (by kernel_rfl) ?_
    intro w8 hp8
    have n3 : Value.ownBlock (.slice ao7 (q + 1) c7) ≠ some g3 := fun e => by have := (World.ownsRow.lt O7.out g3 e).1; omega
    have G3 := qHd (show w8.heap[g3]? = some (.cells #[.int .i64 v, .slice ao7 (q + 1) c7, .int .i64 r] 27) by rw [hp8]; exact putL_31 G3.out)
    have G2 := qHd (qbr hp8 G2.out n23)
    have O8 := qHd (World.ownsRow.kept O7.out (qfz hp8) (.inr n3))
    have HB8 := qHd (qbl hp8 HB7.out l3)
    have hs8 : w3.heap.size ≤ w8.heap.size := by rw [hp8, putL_size]; exact hs7
    clear hp8 n3
    go_wp2_with fail
    go_roundw
    case rel => exact ⟨q + 1, _, by omega, by go_num, HB8, hs8, G2, G3, qHd (by rw [qen HKQ.out, lfCs_app, lfCs_one]; exact O8.out)⟩
    case measure => simp [intOf]; omega
  ·have hq' : q = ks.length := by omega
   subst hq'
   have OE := O.out
   rw [List.take_length] at OE
   have OE := qHd OE
   obtain ⟨x0, x1, x2⟩ := qay G3.out
   go_wp2_with (with_reducible refine qaf ?_)
   clear x0 x1 x2
   refine qan g2 0 [.int .i64 v, .slice aov ks.length cv, .int .i64 r] G2.out rfl rfl (Nat.le_of_ble_eq_true rfl) (by kernel_rfl) rfl ?_
   intro wz hpz
   have GZ := qHd (show wz.heap[g2]? = some (.cells #[.int .i64 v, .slice aov ks.length cv, .int .i64 r] 27) by rw [hpz]; exact qbd G2.out)
   have HBz := qHd (qbl hpz HB.out l2)
   have KZ := qHd (qes hpz G2.out (by simp))
   clear hpz
   go_wp2_with (with_reducible first | refine qad ?_ | refine qai ?_ | refine qaj ?_ | refine qak ?_ | refine qag ?_)
   refine ret_c1 rfl g2 #[.int .i64 v, .slice aov ks.length cv, .int .i64 r] rfl GZ.out Tryz.underlying27 rfl (by kernel_rfl) rfl ?_
   exact ⟨_, rfl, HBz.out, fun w2 h2 => own_flat OE.out HFT.out (keepH_trans KZ.out h2)⟩
end Go.Proofs.YthhgfhdmfhnklaaGreatDoor
