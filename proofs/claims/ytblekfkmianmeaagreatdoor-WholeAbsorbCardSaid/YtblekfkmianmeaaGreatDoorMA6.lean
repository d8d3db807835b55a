/-
  What the law leans on, one text behind the other (the base).
  Conditions: each theorem's own.
-/
import Derived.Maps.OwnSet
import Derived.Maps.OwnOps
import Derived.Test.YtblekfkmianmeaaGreatDoorMA5
set_option maxRecDepth 100000
set_option maxHeartbeats 16000000
namespace Go.Proofs.YtblekfkmianmeaaGreatDoor
open Go.RowKit Go.ChangeShapes Go.WideShapes
theorem addM_row (N : Nat → Nat → Rat) (p c : Nat) (r : Rat) (a b : Nat) : (if a = p then updR (N p) c (N p c + r) else N a) b = addM N p c r a b := by
 unfold addM updR
 by_cases e : a = p
 ·subst e
  rw [if_pos rfl]
  by_cases e2 : b = c
  ·subst e2; rw [if_pos rfl, if_pos ⟨rfl, rfl⟩]
  ·rw [if_neg e2, if_neg (fun h => e2 h.2)]
 ·rw [if_neg e, if_neg (fun h => e h.1)]
theorem ownI_cell {w : World} {B g n c : Nat} {l : List Nat} (h : qbm w B 3 1 (.slice (some ⟨g, 0, none⟩) n c) n (qco (qcs l))) (hl : l.length = n) {i : Nat} (hi : i < n) : w.cell? ⟨g, i, none⟩ = some (.int .i64 (gd l i : Nat)) := by
 obtain ⟨g', e, _, _, _, _, hc⟩ := qbi h.1 rfl (by omega)
 cases e
 exact hc i _ (ivals_at (nints_at (by omega)))
theorem ivals_set (l : List Nat) (j x : Nat) (hj : j < l.length) : spl (qco (qcs l)) j [.int .i64 (x : Nat)] = qco (qcs (l.set j x)) := by
 apply List.ext_getElem?
 intro i
 rw [spl_at (by simp [qco, qcs]; omega)]
 unfold qco qcs
 simp only [List.getElem?_map, List.getElem?_set, List.length_cons, List.length_nil]
 by_cases a : i < j
 ·rw [if_pos a, if_neg (by omega)]
 ·rw [if_neg a]
  by_cases e : i = j
  ·subst e; rw [if_pos (by omega), if_pos rfl, if_pos hj, Nat.sub_self]; rfl
  ·rw [if_neg (by omega), if_neg (fun q => e q.symm)]
theorem ownI_put {w w' : World} {B g n c j x : Nat} {l : List Nat} (h : qbm w B 3 1 (.slice (some ⟨g, 0, none⟩) n c) n (qco (qcs l))) (hl : l.length = n) (hj : j < n) (hw : w' = putL w g j [.int .i64 (x : Nat)]) :
  qbm w' B 3 1 (.slice (some ⟨g, 0, none⟩) n c) n (qco (qcs (l.set j x))) ∧ Stp w w' (some g) := by
 have := h.write hw (by simp; omega) noUi
 rwa [ivals_set l j x (by omega)] at this
theorem made1 {w w' : World} {n B : Nat} {z : Value} {e : TypeId} (hz : noU [z]) (h : w'.ownsRow B e 1 (.slice (some ⟨w.heap.size, 0, none⟩) n n) n (madeCells #[z] (n * 1)).toList) (hw : w' = w.alloc (.cells (madeCells #[z] (n * 1)) e)) : qbm w' B e 1 (.slice (some ⟨w.heap.size, 0, none⟩) n n) n (List.replicate n z) := by
 have e1 : (madeCells #[z] (n * 1)).toList = List.replicate n z := by rw [toList_madeCells_one, Nat.mul_one]
 rw [e1] at h
 refine ⟨h, fun g cur hg hc => ?_⟩
 simp only [Value.ownBlock, Option.some.injEq] at hg
 subst hg
 rw [hw, heap_alloc_new] at hc
 simp only [Option.some.injEq, Obj.cells.injEq] at hc
 rw [← hc.1, e1]
 intro u hu k
 rw [List.eq_of_mem_replicate hu]
 exact hz z (List.mem_singleton.2 rfl) k
structure Pl (l : List Bool) (i : Nat) (ss pp : List Nat) : Prop where
 le : ss.length ≤ i
 sts : ∀ j, j < ss.length → dnf l (gd ss j) = true ∧ gd ss j < i ∧ gd pp (gd ss j) = j
 pls : ∀ s, s < i → dnf l s = true → gd pp s < ss.length ∧ gd ss (gd pp s) = s
theorem Pl.skip {l : List Bool} {i : Nat} {ss pp : List Nat} (h : Pl l i ss pp) (hd : dnf l i = false) : Pl l (i + 1) ss pp :=
 ⟨Nat.le_succ_of_le h.le, fun j hj => ⟨(h.sts j hj).1, Nat.lt_succ_of_lt (h.sts j hj).2.1, (h.sts j hj).2.2⟩, fun s hs hl => by
  by_cases e : s = i
  ·rw [e, hd] at hl; cases hl
  ·exact h.pls s (by omega) hl⟩
theorem gd_snocA {l : List Nat} {x j : Nat} : gd (l ++ [x]) j = if j < l.length then gd l j else if j = l.length then x else 0 := by
 unfold gd
 rw [List.getD_eq_getElem?_getD, List.getD_eq_getElem?_getD]
 by_cases h : j < l.length
 ·rw [if_pos h, List.getElem?_append_left h]
 ·rw [if_neg h, List.getElem?_append_right (by omega)]
  by_cases e : j = l.length
  ·rw [if_pos e, e, Nat.sub_self]; rfl
  ·rw [if_neg e, List.getElem?_eq_none (by simp; omega)]; rfl
theorem Pl.next {l : List Bool} {i n : Nat} {ss pp : List Nat} (h : Pl l i ss pp) (hd : dnf l i = true) (hl : pp.length = n) (hi : i < n) : Pl l (i + 1) (ss ++ [i]) (pp.set i ss.length) := by
 have hp : ∀ s, gd (pp.set i ss.length) s = if s = i then ss.length else gd pp s := fun s => by
  rw [gd_set]
  by_cases e : s = i
  ·rw [if_pos ⟨e, by omega⟩, if_pos e]
  ·rw [if_neg (fun q => e q.1), if_neg e]
 have hle := h.le
 refine ⟨by rw [List.length_append, List.length_cons, List.length_nil]; omega, fun j hj => ?_, fun s hs hd2 => ?_⟩
 ·rw [List.length_append, List.length_cons, List.length_nil] at hj
  rw [gd_snocA]
  by_cases e : j < ss.length
  ·rw [if_pos e]
   obtain ⟨a, b, c⟩ := h.sts j e
   exact ⟨a, by omega, by rw [hp, if_neg (by omega)]; exact c⟩
  ·rw [if_neg e, if_pos (by omega)]
   exact ⟨hd, by omega, by rw [hp, if_pos rfl]; omega⟩
 ·rw [List.length_append, List.length_cons, List.length_nil, hp]
  by_cases e : s = i
  ·rw [if_pos e]
   exact ⟨by omega, by rw [gd_snocA, if_neg (by omega), if_pos rfl, e]⟩
  ·rw [if_neg e]
   obtain ⟨a, b⟩ := h.pls s (by omega) hd2
   exact ⟨by omega, by rw [gd_snocA, if_pos a]; exact b⟩
theorem Pl.places {l : List Bool} {n : Nat} {ss pp : List Nat} (h : Pl l n ss pp) (hl : l.length = n) : Places (dnf l) (gd pp) (gd ss) ss.length :=
 ⟨fun i hi => ⟨(h.sts i hi).1, (h.sts i hi).2.2⟩, fun s hs => h.pls s (Nat.lt_of_not_le fun h2 => by
  have : dnf l s = false := by unfold dnf; rw [List.getD_eq_getElem?_getD, List.getElem?_eq_none (by omega)]; rfl
  rw [this] at hs; cases hs) hs⟩
def RetSys (w : World) (n : Nat) (ms : List Mv) (l : List Bool) (e : Ending) (w' : World) : Prop :=
 ∃ sv ga V ss pp, e = .returned (.tuple #[sv, .slice (some ⟨ga, 0, none⟩) ss.length ss.length]) ∧ Below w.heap.size w w' ∧ ss.length ≤ n ∧ qbm w' w.heap.size 3 1 sv ss.length (qco (qcs ss)) ∧
  Mat w' w.heap.size (.slice (some ⟨ga, 0, none⟩) ss.length ss.length) ss.length V (fun _ => ss.length) (sysM (dnf l) (gd pp) ms (fun _ _ => 0)) ∧ Places (dnf l) (gd pp) (gd ss) ss.length ∧ ∀ j, j < ss.length → gd ss j < n
theorem system_any (vc vl : Value) (n s0 : Nat) (ms : List Mv) (dn l : List Bool) (w : World) (hc : ChI w vc n s0 ms dn) (hg : GCh n s0 ms dn) (hv : BlsV w vl l) (hll : l.length = n) :
  Calls Tryz.prog 41 #[vc, vl, .bool false] w (RetSys w n ms l) := by
 obtain ⟨mo, mc, bo, bc, rfl, hM, hB, hmc, hbc⟩ := hc
 have HG := qHd hg
 have hn10 := hg.n10
 have hn0 := hg.n0
 have hl60 := hg.sm.len
 have HDL := qHd hg.dl
 clear hg
 clear hB
 obtain ⟨lo, lc, rfl, hlc, hlc2, _⟩ := hv.shape
 obtain ⟨W, hW⟩ : ∃ z0, z0 = w.alloc (.cells #[.int .i64 n, .int .i64 s0, .slice mo ms.length mc, .slice bo dn.length bc] 25) := ⟨_, rfl⟩
 have b_W : Below w.heap.size w W := by rw [hW]; exact qBA _ _
 have s_W : W.heap.size = w.heap.size + 1 := by rw [hW]; exact Array.size_push (xs := w.heap) _
 have hg_gc : W.heap[w.heap.size]? = some (.cells #[.int .i64 n, .int .i64 s0, .slice mo ms.length mc, .slice bo dn.length bc] 25) := (by rw [hW]; exact heap_alloc_new w _)
 have HBW := qHd (show Below w.heap.size w W from b_W)
 obtain ⟨gc, hgc⟩ : ∃ g, g = w.heap.size := ⟨_, rfl⟩
 rw [← hgc] at hg_gc
 have l_gc : w.heap.size ≤ gc ∧ gc < W.heap.size := by rw [s_W]; omega
 have G_gc := qHd hg_gc
 obtain ⟨gcx0, gcx1, gcx2, gcx3⟩ := qbn hg_gc
 rw [hW, hgc] at gcx0 gcx1 gcx2 gcx3
 clear hg_gc b_W s_W
 have HM := qHd (hM.below HBW.out); have HL := qHd (hv.below HBW.out); have HLL := qHd hll
 clear hM hv gcx0 gcx1 gcx2 gcx3
 rw [hll] at HL hlc ⊢
 go_enter Tryz.func41, Tryz.ntmps41
 go_wp2_with (with_reducible refine qaw ?_)
 rw [← hW, ← hgc]
 clear hW hgc
 refine qbj Tryz.intTyL n rfl rfl (by omega) (by decide) (by decide) ?_
 intro w2 hw2 ho2
 have hb2 : Below W.heap.size W w2 := by rw [hw2]; exact qBA _ _
 have hO := made1 noUi ho2 hw2
 obtain ⟨gp, hgp⟩ : ∃ g, g = W.heap.size := ⟨_, rfl⟩
 have lp : W.heap.size ≤ gp := by omega
 have hO : qbm w2 W.heap.size 3 1 (.slice (some ⟨gp, 0, none⟩) n n) n (qco (qcs (List.replicate n 0))) := by
  have e : qco (qcs (List.replicate n 0)) = List.replicate n (.int .i64 0) := by simp [qco, qcs]
  rw [e, hgp]; exact hO
 rw [← hgp]
 have PLO := qHd hO; have HB := qHd hb2
 clear hO hb2 ho2 hw2 hgp
 go_wp2_with (with_reducible first | refine qah ?_ | refine qae ?_)
 refine qal.mk ?_
 go_loopw [23, 8] (fun i' sv wx => ∃ (i : Nat) (ss pp : List Nat), i ≤ n ∧ i' = .int .i64 i ∧ Hid (qbm wx W.heap.size 3 1 (.slice (some ⟨gp, 0, none⟩) n n) n (qco (qcs pp))) ∧ Hid (qbm wx W.heap.size 3 1 sv ss.length (qco (qcs ss))) ∧ Hid (∀ z, sv.ownBlock = some z → z ≠ gp) ∧ Hid (pp.length = n ∧ Pl l i ss pp) ∧ Hid (Below W.heap.size W wx)) (fun i' _ _ => n - (intOf i').toNat)
 case atStart => exact ⟨0, [], List.replicate n 0, Nat.zero_le _, rfl, PLO, qHd (qbm.nil _ _ _ _), qHd (fun z e => by cases e), qHd ⟨by simp, Nat.le_refl _, fun j hj => absurd hj (by simp), fun s hs => absurd hs (by omega)⟩, HB⟩
 case round =>
  obtain ⟨i, ss, pp, hi, rfl, PLO, STO, NE, PP, HB⟩ := hrel
  obtain ⟨wo, rfl⟩ : ∃ wo : World, wo = wr := ⟨_, rfl⟩
  obtain ⟨so, sc, rfl, hsc, hsc2, _⟩ := qbd STO.out.1
  have hle := PP.out.2.le
  by_cases hlt : i < n
  ·have hltz : (i : Int) < (n : Int) := by omega
   obtain ⟨lb, loff, rfl, _, _, hlat⟩ := (show BlsV wo (.slice lo l.length lc) l by rw [HLL.out]; exact HL.out.below HB.out).at (by rw [HLL.out]; omega)
   have c1 := hlat i _ (dnf_at (by rw [HLL.out]; exact hlt))
   clear hlat
   obtain ⟨b1, hb1⟩ : ∃ b, b = dnf l i := ⟨_, rfl⟩
   rw [← hb1] at c1
   have HB1 := qHd hb1; clear hb1
   cases b1
   ·have P2 := qHd (PP.out.2.skip HB1.out.symm)
    go_wp2_with fail
    go_roundw
    case rel => exact ⟨i + 1, ss, pp, by omega, by go_num, PLO, STO, NE, qHd ⟨PP.out.1, P2.out⟩, HB⟩
    case measure => simp [intOf]; omega
   ·have P2 := qHd (PP.out.2.next HB1.out.symm PP.out.1 hlt)
    obtain ⟨cs, hcs, hcz⟩ := ownB_block PLO.out
    go_wp2_with (with_reducible refine qaz 3 ?_)
    refine wpList_stI gp i hcs rfl rfl (by omega) (by kernel_rfl) ?_
    intro w4 hp4
    obtain ⟨hP4, st4⟩ := ownI_put PLO.out PP.out.1 hlt hp4
    have PLO := qHd hP4
    have STO := qHd (STO.out.kept st4.gr (fun z hz e => by have h2 : gp = z := Option.some.inj e; exact NE.out z hz h2.symm))
    have HB := qHd (st4.low HB.out HB.out.size lp)
    clear hP4 st4 hp4 hcs hcz c1
    go_wp2_with (with_reducible refine qbf ?_)
    obtain ⟨w5, hw5, hb5, hx5⟩ := qBx3 w4 (.cells #[.int .i64 (i : Nat)] 3)
    rw [← hw5]
    have PLO := qHd (qaq PLO.out hb5); have STO := qHd (qaq STO.out hb5); have HB := qHd (qac HB.out (Nat.le_refl _) hb5)
    clear hb5 hw5
    have hgp5 := (World.ownsRow.lt PLO.out.1 gp rfl).2
    refine qbo W.heap.size Tryz.intTyL rfl noUi (by decide) _ ss.length _ [.int .i64 (i : Nat)] w4.heap.size 3 rfl rfl STO.out hx5 rfl rfl noUi (noU_ivals _) (by omega) (by decide) HB.out.size ?_
    intro v' w6 ho6 hg6 hfr
    have hSt := stp_own STO.out hg6
    have NE2 := qHd (show ∀ z, v'.ownBlock = some z → z ≠ gp from fun z hz e => hfr gp hgp5 (fun q => NE.out gp q rfl) (by rw [← e]; exact hz))
    have PLO := qHd (PLO.out.kept hSt.gr (fun z hz e => by have h1 : gp = z := Option.some.inj hz; exact NE.out z e h1.symm))
    have hob := fun g (hg : (Value.slice so ss.length sc).ownBlock = some g) => (World.ownsRow.lt STO.out.1 g hg).1
    have HB := qHd (hSt.low' HB.out HB.out.size hob)
    have STO := qHd (show qbm w6 W.heap.size 3 1 v' (ss ++ [i]).length (qco (qcs (ss ++ [i]))) by
     rw [List.length_append, List.length_cons, List.length_nil, nints_app, ivals_app]; exact ho6)
    clear ho6 hg6 hfr hSt hob hx5 hgp5
    go_wp2_with fail
    go_roundw
    case rel => exact ⟨i + 1, _, _, by omega, by go_num, PLO, STO, NE2, qHd ⟨by rw [List.length_set]; exact PP.out.1, P2.out⟩, HB⟩
    case measure => simp [intOf]; omega
  ·have hiz : ¬ ((i : Int) < (n : Int)) := by omega
   have HI := qHd (show i = n by omega)
   have PP := qHd (show pp.length = n ∧ Pl l n ss pp by rw [← HI.out]; exact ⟨by rw [HI.out]; exact PP.out.1, PP.out.2⟩)
   obtain ⟨k, hk⟩ : ∃ k, k = ss.length := ⟨_, rfl⟩
   have HK0 := qHd hk
   rw [← hk] at STO hsc hle NE ⊢
   have hkn : k ≤ n := by omega
   clear hk
   obtain ⟨sv, hsv⟩ : ∃ sv, sv = Value.slice so k sc := ⟨_, rfl⟩
   have NE := qHd (show ∀ z, sv.ownBlock = some z → z ≠ gp by rw [hsv]; exact NE.out)
   have STO := qHd (show qbm wo W.heap.size 3 1 sv k (qco (qcs ss)) by rw [hsv]; exact STO.out)
   have HSV := qHd hsv; clear hsv
   go_wp2_with (with_reducible refine qaw ?_)
   refine qbj Tryz.rowsTyL k rfl rfl (by omega) (by decide) (by decide) ?_
   intro w4 hw4 ho4
   have hb4 : Below wo.heap.size wo w4 := by rw [hw4]; exact qBA _ _
   have hO := made1 noU1 ho4 hw4
   obtain ⟨ga, hga⟩ : ∃ g, g = wo.heap.size := ⟨_, rfl⟩
   have la : W.heap.size ≤ ga := by rw [hga]; exact HB.out.size
   have nap : ga ≠ gp := by have := (World.ownsRow.lt PLO.out.1 gp rfl).2; omega
   have NAS := qHd (show ∀ z, sv.ownBlock = some z → ga ≠ z from fun z hz => by have := (World.ownsRow.lt STO.out.1 z hz).2; omega)
   rw [← hga] at hO ⊢
   have MT := qHd (show Mat w4 W.heap.size (.slice (some ⟨ga, 0, none⟩) k k) k (fun _ => .slice none 0 0) (fun a => if a < 0 then k else 0) (fun _ _ => 0) from by
    refine ⟨?_, fun i hi => FrL.nil _ _ _, (fun i hi g hg e => by cases e), (fun i j _ _ _ g e => by cases e)⟩
    have e : (List.range k).map (fun _ => Value.slice none 0 0) = List.replicate k (.slice none 0 0) := by rw [List.map_const', List.length_range]
    rw [e]; exact ⟨qcr hO.1 la, hO.2⟩)
   have PLO := qHd (qaq PLO.out hb4); have STO := qHd (qaq STO.out hb4); have HB := qHd (qac HB.out (Nat.le_refl _) hb4)
   clear hO hb4 ho4 hw4 hga
   go_wp2_with (with_reducible first | refine qah ?_ | refine qae ?_)
   refine qal.mk ?_
   go_loopw [44] (fun i' wx => ∃ (j : Nat) (V : Nat → Value), j ≤ k ∧ i' = .int .i64 j ∧ Hid (Mat wx W.heap.size (.slice (some ⟨ga, 0, none⟩) k k) k V (fun a => if a < j then k else 0) (fun _ _ => 0)) ∧ Hid (qbm wx W.heap.size 3 1 (.slice (some ⟨gp, 0, none⟩) n n) n (qco (qcs pp))) ∧ Hid (qbm wx W.heap.size 3 1 sv k (qco (qcs ss))) ∧ Hid (Below W.heap.size W wx) ∧ Hid (∀ a, a < k → ∀ z, (V a).ownBlock = some z → z ≠ gp ∧ ∀ y, sv.ownBlock = some y → z ≠ y) ∧ Hid (∀ a, j ≤ a → V a = .slice none 0 0)) (fun i' _ => k - (intOf i').toNat)
   case atStart => exact ⟨0, _, Nat.zero_le _, rfl, MT, PLO, STO, HB, qHd (fun a _ z e => by cases e), qHd (fun a _ => rfl)⟩
   case round =>
    obtain ⟨j, V, hj, rfl, MT, PLO, STO, HB, NRW, NIL⟩ := hrel
    obtain ⟨wq, rfl⟩ : ∃ wq : World, wq = wr := ⟨_, rfl⟩
    by_cases hjl : j < k
    ·have hjz : (j : Int) < (k : Int) := by omega
     go_wp2_with (with_reducible refine qaw ?_)
     refine qbj Tryz.ratTy k rfl rfl (by omega) (by decide) (by decide) ?_
     intro w5 hw5 ho5
     have hb5 : Below wq.heap.size wq w5 := by rw [hw5]; exact qBA _ _
     have hF := madeF ho5 hw5
     obtain ⟨gr, hgr⟩ : ∃ g, g = wq.heap.size := ⟨_, rfl⟩
     have lr : W.heap.size ≤ gr := by rw [hgr]; exact HB.out.size
     have nrp : gr ≠ gp := by have := (World.ownsRow.lt PLO.out.1 gp rfl).2; omega
     have NRS := qHd (show ∀ y, sv.ownBlock = some y → gr ≠ y from fun y hy => by have := (World.ownsRow.lt STO.out.1 y hy).2; omega)
     have HGR := qHd hgr
     rw [← hgr] at hF ⊢
     have HF := qHd (hF.base lr); have ST := qHd (qca hb5)
     have PLO5 := qHd (qaq PLO.out hb5); have STO5 := qHd (qaq STO.out hb5); have HB5 := qHd (qac HB.out (Nat.le_refl _) hb5)
     obtain ⟨cs, hcs, hcz⟩ := (MT.out.below hb5).outCap
     clear hF hb5 ho5 hw5 hgr
     go_wp2_with (with_reducible refine qaz 28 ?_)
     refine qcc ga j hcs rfl rfl (by omega) (by kernel_rfl) ?_
     intro w6 hp6
     obtain ⟨hM6, st6⟩ := MT.out.setRow (r := none) hjl (fun _ e => by cases e) ST.out HF.out (fun g hg _ e => by
      have h1 : gr = g := Option.some.inj e
      have h2 := HGR.out
      omega) hp6
     have MT := qHd (show Mat w6 W.heap.size (.slice (some ⟨ga, 0, none⟩) k k) k (updV V j (.slice (some ⟨gr, 0, none⟩) k k)) (fun a => if a < j + 1 then k else 0) (fun _ _ => 0) from by
      have e : updV (fun a => if a < j then k else 0) j k = fun a => if a < j + 1 then k else 0 := by
       funext a
       show (if a = j then k else if a < j then k else 0) = if a < j + 1 then k else 0
       by_cases q : a = j
       ·rw [if_pos q, if_pos (by omega)]
       ·rw [if_neg q]
        by_cases q2 : a < j
        ·rw [if_pos q2, if_pos (by omega)]
        ·rw [if_neg q2, if_neg (by omega)]
      rw [e] at hM6
      exact hM6.congr (fun a _ b _ => by split <;> rfl))
     have PLO := qHd (PLO5.out.kept st6.gr (fun z hz e => by have h1 : gp = z := Option.some.inj hz; have h2 : ga = z := Option.some.inj e; omega))
     have STO := qHd (STO5.out.kept st6.gr (fun z hz e => by have h2 : ga = z := Option.some.inj e; exact NAS.out z hz h2))
     have HB := qHd (st6.low HB5.out HB5.out.size la)
     have NRW := qHd (show ∀ a, a < k → ∀ z, (updV V j (.slice (some ⟨gr, 0, none⟩) k k) a).ownBlock = some z → z ≠ gp ∧ ∀ y, sv.ownBlock = some y → z ≠ y from fun a ha z hz => by
      unfold updV at hz
      by_cases q : a = j
      ·rw [if_pos q] at hz
       have h1 : gr = z := Option.some.inj hz
       rw [← h1]; exact ⟨nrp, NRS.out⟩
      ·rw [if_neg q] at hz; exact NRW.out a ha z hz)
     have NIL := qHd (show ∀ a, j + 1 ≤ a → updV V j (.slice (some ⟨gr, 0, none⟩) k k) a = .slice none 0 0 from fun a ha => by
      unfold updV; rw [if_neg (by omega)]; exact NIL.out a (by omega))
     clear hM6 st6 hp6 hcs hcz ST HF PLO5 STO5 HB5
     go_wp2_with fail
     go_roundw
     case rel => exact ⟨j + 1, _, by omega, by go_num, MT, PLO, STO, HB, NRW, NIL⟩
     case measure => simp [intOf]; omega
    ·have hjz : ¬ ((j : Int) < (k : Int)) := by omega
     have MT := qHd (show Mat wq W.heap.size (.slice (some ⟨ga, 0, none⟩) k k) k V (fun _ => k) (sysM (dnf l) (gd pp) (ms.take 0) (fun _ _ => 0)) from
      ⟨MT.out.out, fun i hi => by have := MT.out.row i hi; simp only [if_pos (show i < j by omega)] at this; exact this, MT.out.ne0, MT.out.inj⟩)
     have HPS := qHd (PP.out.2.places HLL.out)
     clear NIL
     obtain ⟨gcx0, gcx1, gcx2, gcx3⟩ := qbn (qab G_gc.out HB.out)
     go_wp2_with (with_reducible first | refine qah ?_ | refine qae ?_)
     clear gcx0 gcx1 gcx2 gcx3
     refine qal.mk ?_
     go_loopw [57] (fun i' wx => ∃ (t : Nat), t ≤ ms.length ∧ i' = .int .i64 t ∧ Hid (Mat wx W.heap.size (.slice (some ⟨ga, 0, none⟩) k k) k V (fun _ => k) (sysM (dnf l) (gd pp) (ms.take t) (fun _ _ => 0))) ∧ Hid (qbm wx W.heap.size 3 1 (.slice (some ⟨gp, 0, none⟩) n n) n (qco (qcs pp))) ∧ Hid (qbm wx W.heap.size 3 1 sv k (qco (qcs ss))) ∧ Hid (Below W.heap.size W wx)) (fun i' _ => ms.length - (intOf i').toNat)
     case atStart => exact ⟨0, Nat.zero_le _, rfl, MT, PLO, STO, HB⟩
     case round =>
      obtain ⟨t, ht, rfl, MT, PLO, STO, HB⟩ := hrel
      obtain ⟨wo2, rfl⟩ : ∃ wo2 : World, wo2 = wr := ⟨_, rfl⟩
      by_cases hlt : t < ms.length
      ·have hltz : (t : Int) < (ms.length : Int) := by omega
       obtain ⟨m, hm⟩ : ∃ m, ms[t]? = some m := ⟨ms[t], List.getElem?_eq_getElem hlt⟩
       obtain ⟨mb, moff, rfl, hmb, _, hat⟩ := (HM.out.below HB.out).at (by omega)
       obtain ⟨sm, om, nm, cm, am, mm, dm, m0, m1, m2, m3, m4, hIm⟩ := hat t m hm
       clear hat
       have hmem := List.mem_of_getElem? hm
       obtain ⟨ha1, hb1, _, _⟩ := HG.out.ok.mv m hmem
       have haz : ((m.a : Nat) : Int) < (n : Int) := by omega
       have hbz : ((m.b : Nat) : Int) < (n : Int) := by omega
       have LM := qHd (show rl m.r ≤ 100000 from Nat.le_trans (rate_rl HG.out.sm hmem) (by decide))
       have LN0 := qHd (fun x y => sys_rl HG.out.sm (dnf l) (gd pp) t x y)
       have LN1 := qHd (fun i j x y => sys_rl2 (L := dnf l) (pl := gd pp) (k := t) (i := i) (j := j) (x := x) (y := y) HG.out.sm hmem)
       have HNX := qHd (sysM_next (L := dnf l) (pl := gd pp) (M := fun _ _ => 0) hm)
       clear hm hmem
       obtain ⟨lb, loff, e2, _, _, hlat⟩ := (show BlsV wo2 (.slice lo l.length lc) l by rw [HLL.out]; exact HL.out.below HB.out).at (by rw [HLL.out]; omega)
       cases e2
       have ca := hlat m.a _ (dnf_at (by rw [HLL.out]; exact ha1))
       have cb := hlat m.b _ (dnf_at (by rw [HLL.out]; exact hb1))
       have cpa := ownI_cell PLO.out PP.out.1 ha1
       have cpb := ownI_cell PLO.out PP.out.1 hb1
       clear hlat
       have HPA := qHd (fun (h : dnf l m.a = true) => (HPS.out.pls m.a h).1); have HPB := qHd (fun (h : dnf l m.b = true) => (HPS.out.pls m.b h).1)
       obtain ⟨fa, hfa⟩ : ∃ b, b = dnf l m.a := ⟨_, rfl⟩
       obtain ⟨fb, hfb⟩ : ∃ b, b = dnf l m.b := ⟨_, rfl⟩
       obtain ⟨p, hpe⟩ : ∃ p, p = gd pp m.a := ⟨_, rfl⟩
       obtain ⟨q, hqe⟩ : ∃ q, q = gd pp m.b := ⟨_, rfl⟩
       rw [← hfa] at ca HNX HPA
       rw [← hfb] at cb HNX HPB
       rw [← hpe] at cpa HNX HPA
       rw [← hqe] at cpb HNX HPB
       rw [← HK0.out] at HPA HPB
       obtain ⟨N, hN⟩ : ∃ N, N = sysM (dnf l) (gd pp) (ms.take t) (fun _ _ => 0) := ⟨_, rfl⟩
       rw [← hN] at MT HNX LN0 LN1
       have HFB := qHd hfb; have HQE := qHd hqe
       clear hN hfa hfb hpe hqe
       obtain ⟨w2, hw2, hb2, hx2⟩ := qBx3 wo2 (.cells #[.int .i64 (m.a : Nat), .int .i64 (m.b : Nat), .bool sm, .slice om nm cm, .slice am mm dm] 45)
       obtain ⟨gm, hgm⟩ : ∃ g, g = wo2.heap.size := ⟨_, rfl⟩
       have lm : W.heap.size ≤ gm := by rw [hgm]; exact HB.out.size
       rw [← hgm] at hx2
       have G_gm := qHd hx2
       obtain ⟨gmx0, gmx1, gmx2, gmx3, gmx4⟩ := qbz (hx2)
       rw [hw2, hgm] at gmx0 gmx1 gmx2 gmx3 gmx4
       have ca2 := qak ca hb2; have cpa2 := qak cpa hb2
       rw [hw2] at ca2 cpa2
       have MT := qHd (MT.out.below hb2); have PLO := qHd (qaq PLO.out hb2); have STO := qHd (qaq STO.out hb2); have HB := qHd (qac HB.out (Nat.le_refl _) hb2); have IM := qHd (hIm.below hb2)
       clear hx2 hIm hmb
       cases fa
       ·have HE := qHd (show sysM (dnf l) (gd pp) (ms.take (t + 1)) (fun _ _ => 0) = N from HNX.out)
        clear hb2
        go_wp2_with fail
        rw [← hw2]
        go_roundw
        case rel => exact ⟨t + 1, by omega, by go_num, qHd (by rw [HE.out]; exact MT.out), PLO, STO, HB⟩
        case measure => simp [intOf]; omega
       ·have hpk : p < k := HPA.out rfl
        have HPZ := qHd (show ((p : Nat) : Int) < (k : Int) by omega); have HQZ := qHd (show ((p : Nat) : Int) < (k : Int) by omega)
        clear hb2
        go_wp2_with (with_reducible first | refine qag ?_ | refine qah ?_ | refine qbb ?_ | refine qbc ?_ | refine qae ?_)
        rw [← hw2, ← hgm]
        clear hw2 hgm m0 m1 m2 m3 m4 ca2 cpa2 ca cb cpa cpb
        clear gmx0 gmx1 gmx2 gmx3 gmx4
        have LNN := qHd LN0.out
        obtain ⟨gi, cgi, eVi, hci, hci2, hBi, hnei, cI, hFi⟩ := MT.out.get (i := p) hpk (by omega)
        obtain ⟨sx, ox, nx, cx, ax, mx, dx, x0, x1, x2, hIx⟩ := hFi.at (j := p) (by omega)
        obtain ⟨xa, hxa⟩ : ∃ z0, z0 = N p p := ⟨_, rfl⟩
        rw [← hxa] at hIx
        have LX := qHd (show rl xa ≤ 100000 by rw [hxa]; exact Nat.le_trans (LNN.out _ _) (by decide))
        have HXA := qHd hxa; have IX := qHd hIx; have CX := qHd (And.intro x0 (And.intro x1 x2)); have CI := qHd cI; have EVI := qHd eVi
        have NGI := qHd (show W.heap.size ≤ gi ∧ gi ≠ gp ∧ (∀ z, sv.ownBlock = some z → gi ≠ z) from ⟨hBi, (NRW.out p hpk gi (by rw [eVi]; rfl)).1, (NRW.out p hpk gi (by rw [eVi]; rfl)).2⟩)
        clear hIx x0 x1 x2 cI eVi hFi hxa
        refine qal.mk ?_
        refine qaj (A := ?aaR21) (w := w2) 16 [] (by kernel_rfl) (Fl [KEq (.slice (some ⟨ga, 0, none⟩) k k), KEq (.int .i64 (p : Nat)), KEq (.pointer (some ⟨ga, p, none⟩)), KEq (.slice (some ⟨gi, 0, none⟩) k cgi), KEq (.int .i64 (p : Nat)), KEq (.slice (some ⟨ga, 0, none⟩) k k), KEq (.int .i64 (p : Nat)), KEq (.pointer (some ⟨ga, p, none⟩)), KEq (.slice (some ⟨gi, 0, none⟩) k cgi), KEq (.int .i64 (p : Nat)), KEq (.pointer (some ⟨gi, p * 3, none⟩)), KEq (.agg #[.bool sx, .slice ox nx cx, .slice ax mx dx]), KEq (.pointer (some ⟨gm, 2, none⟩)), KEq (.agg #[.bool sm, .slice om nm cm, .slice am mm dm]), KIs (xa + m.r), KEq (.pointer (some ⟨gi, p * 3, none⟩))]) (fun i => false) (by kernel_rfl) ?hqR21 (qdk (qad (kEq _) (qad (kEq _) (qad (kEq _) (qad (kEq _) (qad (kEq _) (qad (kEq _) (qad (kEq _) (qad (kEq _) (qad (kEq _) (qad (kEq _) (qad (kEq _) (qad (kEq _) (qad (kEq _) (qad (kEq _) (qad (kIs _) (qad (kEq _) qdj))))))))))))))))) ?haR21 ?stR21 ?tlR21
        case hqR21 =>
         intro c a d v w h
         first | (simp only [Exit.then] at h ⊢; exact h) | (simp only [Exit.inBlock, Exit.then] at h ⊢; exact h) | exact h
        case haR21 =>
         intro vals
         simp only [qat, qby, if_true, Act.put, List.setIfInBounds_toArray, List.set_cons_zero, List.set_cons_succ, List.getElem?_toArray, List.getElem?_cons_zero, List.getElem?_cons_succ, Option.bind_some]
         exact rfl
        case stR21 =>
         simp only [List.take_succ_cons, List.take_zero]
         refine qaa rfl rfl ?_ (qaa rfl rfl ?_ (qaa rfl rfl ?_ (qaa rfl rfl ?_ (qaa rfl rfl ?_ (qaa rfl rfl ?_ (qaa rfl rfl ?_ (qaa rfl rfl ?_ (qaa rfl rfl ?_ (qaa rfl rfl ?_ (qaa rfl rfl ?_ (qaa rfl rfl ?_ (qaa rfl rfl ?_ (qaa rfl rfl ?_ (qaa rfl rfl ?_ (qaa rfl rfl ?_ (qau))))))))))))))))
         ·intro vals w1 hb hd
          refine qSv (.slice (some ⟨ga, 0, none⟩) k k) (by go_simp) (qLk rfl rfl)
         ·intro vals w1 hb hd
          refine qSv (.int .i64 (p : Nat)) (by go_simp) (qLk rfl rfl)
         ·intro vals w1 hb hd
          have hpz := HPZ.out
          rw [show vals 0 = .slice (some ⟨ga, 0, none⟩) k k from hd 0 (by kernel_rfl)]
          rw [show vals 1 = .int .i64 (p : Nat) from hd 1 (by kernel_rfl)]
          refine qSv (.pointer (some ⟨ga, p, none⟩)) (by go_simp) (qLk rfl rfl)
         ·intro vals w1 hb hd
          have e0 := qak CI.out hb
          rw [show vals 2 = .pointer (some ⟨ga, p, none⟩) from hd 2 (by kernel_rfl)]
          refine qSv (.slice (some ⟨gi, 0, none⟩) k cgi) (by go_simp) (qLk rfl rfl)
         ·intro vals w1 hb hd
          refine qSv (.int .i64 (p : Nat)) (by go_simp) (qLk rfl rfl)
         ·intro vals w1 hb hd
          refine qSv (.slice (some ⟨ga, 0, none⟩) k k) (by go_simp) (qLk rfl rfl)
         ·intro vals w1 hb hd
          refine qSv (.int .i64 (p : Nat)) (by go_simp) (qLk rfl rfl)
         ·intro vals w1 hb hd
          have hpz := HPZ.out
          rw [show vals 5 = .slice (some ⟨ga, 0, none⟩) k k from hd 5 (by kernel_rfl)]
          rw [show vals 6 = .int .i64 (p : Nat) from hd 6 (by kernel_rfl)]
          refine qSv (.pointer (some ⟨ga, p, none⟩)) (by go_simp) (qLk rfl rfl)
         ·intro vals w1 hb hd
          have e0 := qak CI.out hb
          rw [show vals 7 = .pointer (some ⟨ga, p, none⟩) from hd 7 (by kernel_rfl)]
          refine qSv (.slice (some ⟨gi, 0, none⟩) k cgi) (by go_simp) (qLk rfl rfl)
         ·intro vals w1 hb hd
          refine qSv (.int .i64 (p : Nat)) (by go_simp) (qLk rfl rfl)
         ·intro vals w1 hb hd
          have hqz := HQZ.out
          rw [show vals 8 = .slice (some ⟨gi, 0, none⟩) k cgi from hd 8 (by kernel_rfl)]
          rw [show vals 9 = .int .i64 (p : Nat) from hd 9 (by kernel_rfl)]
          refine qSv (.pointer (some ⟨gi, p * 3, none⟩)) (by go_simp) (qLk rfl rfl)
         ·intro vals w1 hb hd
          obtain ⟨e0, e1, e2⟩ := qax CX.out hb
          rw [show vals 10 = .pointer (some ⟨gi, p * 3, none⟩) from hd 10 (by kernel_rfl)]
          refine qSv (.agg #[.bool sx, .slice ox nx cx, .slice ax mx dx]) (by go_simp) (qLk rfl rfl)
         ·intro vals w1 hb hd
          refine qSv (.pointer (some ⟨gm, 2, none⟩)) (by go_simp) (qLk rfl rfl)
         ·intro vals w1 hb hd
          obtain ⟨e0, e1, e2, e3, e4⟩ := qbz (qab G_gm.out hb)
          rw [show vals 12 = .pointer (some ⟨gm, 2, none⟩) from hd 12 (by kernel_rfl)]
          refine qSv (.agg #[.bool sm, .slice om nm cm, .slice am mm dm]) (by go_simp) (qLk rfl rfl)
         ·intro vals w1 hb hd
          have d11 : KEq (.agg #[.bool sx, .slice ox nx cx, .slice ax mx dx]) (vals 11) w1 := hd 11 (by kernel_rfl)
          have d13 : KEq (.agg #[.bool sm, .slice om nm cm, .slice am mm dm]) (vals 13) w1 := hd 13 (by kernel_rfl)
          have HS := qHd (qcz _ xa _ m.r w1 ((IX.out.below hb).is LX.out) ((IM.out.below hb).is LM.out))
          have z11 : vals 11 = _ := d11
          rw [z11]; clear z11
          have z13 : vals 13 = _ := d13
          rw [z13]; clear z13
          refine qar (by go_simp; first | done | exact ⟨⟨rfl, rfl⟩, rfl⟩) ?_
          (with_reducible refine HS.out.mono ?_); rintro e w2 ⟨v, rfl, hb2, hn⟩
          exact ⟨v, rfl, qai hb2 hn (fun h => by cases h)⟩
         ·intro vals w1 hb hd
          have hqz := HQZ.out
          rw [show vals 3 = .slice (some ⟨gi, 0, none⟩) k cgi from hd 3 (by kernel_rfl)]
          rw [show vals 4 = .int .i64 (p : Nat) from hd 4 (by kernel_rfl)]
          refine qSv (.pointer (some ⟨gi, p * 3, none⟩)) (by go_simp) (qLk rfl rfl)
        case tlR21 =>
         intro vals w8 hb8 hf hdis
         simp only [List.drop_succ_cons, List.drop_zero]
         have z15 : vals 15 = _ := hf 15 (by decide)
         have hn : IsR w8 (vals 14) (xa + m.r) := hf 14 (by decide)
         rw [z15]
         obtain ⟨r, hr⟩ : ∃ r, r = vals 14 := ⟨_, rfl⟩
         rw [← hr] at hn ⊢
         clear z15 hf hdis hr
         obtain ⟨sz, oz, nz, cz, az, mz, dz, rfl⟩ := hn.shape
         have MT := qHd (MT.out.below hb8); have PLO := qHd (qaq PLO.out hb8); have STO := qHd (qaq STO.out hb8); have HB := qHd (qac HB.out (Nat.le_refl _) hb8); have G_gm := qHd (qab G_gm.out hb8); have IM := qHd (IM.out.below hb8)
         have IZ := qHd hn
         clear hb8 hn CX CI IX
         obtain ⟨_, hFi⟩ := MT.out.at hpk EVI.out
         obtain ⟨cs, hcs, hsz⟩ := qbe hFi
         go_wp2_with (with_reducible refine qan ?_)
         refine qba gi (p * 3) [.bool sz, .slice oz nz cz, .slice az mz dz] hcs rfl rfl (by simp only [List.length_cons, List.length_nil]; omega) (by kernel_rfl) rfl ?_
         intro wz hpz
         obtain ⟨hX, hSt⟩ := hFi.put (j := p) (by omega) IZ.out hpz
         have MT := qHd ((MT.out.rowPut hpk (x := updR (N p) p (xa + m.r)) (by rw [EVI.out]; exact hX) (by rw [EVI.out]; exact hSt)).congr (N := addM N p p m.r) (fun a _ b _ => by
          rw [HXA.out]
          exact addM_row N p p _ a b))
         have PLO := qHd (PLO.out.kept hSt.gr (fun z hz e => by have h1 : gp = z := Option.some.inj hz; have h2 : gi = z := Option.some.inj e; exact NGI.out.2.1 (by omega)))
         have STO := qHd (STO.out.kept hSt.gr (fun z hz e => by have h2 : gi = z := Option.some.inj e; exact NGI.out.2.2 z hz h2))
         have HB := qHd (hSt.low HB.out HB.out.size NGI.out.1)
         have G_gm := qHd (hSt.heap G_gm.out (fun e => by
          have h2 : gi = gm := Option.some.inj e
          obtain ⟨cz, hcz, _⟩ := qbe hFi
          rw [h2, G_gm.out] at hcz; cases hcz))
         have IM := qHd (hSt.I IM.out)
         clear hX hSt hpz hcs hsz IZ hFi EVI NGI
         obtain ⟨lb3, loff3, e3, _, _, hlat3⟩ := (show BlsV wz (.slice (some ⟨lb, loff, none⟩) l.length lc) l by rw [HLL.out]; exact HL.out.below HB.out).at (by rw [HLL.out]; omega)
         cases e3
         have cb3 := hlat3 m.b _ (dnf_at (by rw [HLL.out]; exact hb1))
         rw [← HFB.out] at cb3
         have cpb3 := ownI_cell PLO.out PP.out.1 hb1
         rw [← HQE.out] at cpb3
         clear hlat3
         obtain ⟨gmx0, gmx1, gmx2, gmx3, gmx4⟩ := qbz G_gm.out
         cases fb
         ·have HE := qHd (show sysM (dnf l) (gd pp) (ms.take (t + 1)) (fun _ _ => 0) = addM N p p m.r from HNX.out)
          go_wp2_with fail
          go_roundw
          case rel => exact ⟨t + 1, by omega, by go_num, qHd (by rw [HE.out]; exact MT.out), PLO, STO, HB⟩
          case measure => simp [intOf]; omega
         ·have hqk : q < k := HPB.out rfl
          have HQZ := qHd (show ((q : Nat) : Int) < (k : Int) by omega)
          go_wp2_with (with_reducible first | refine qag ?_ | refine qah ?_ | refine qbb ?_ | refine qbc ?_ | refine qae ?_)
          clear gmx0 gmx1 gmx2 gmx3 gmx4 cb3 cpb3
          have LNN := qHd (fun x y => LN1.out p p x y)
          have HE := qHd (show sysM (dnf l) (gd pp) (ms.take (t + 1)) (fun _ _ => 0) = addM (addM N p p m.r) p q (- m.r) from HNX.out)
          obtain ⟨N1, hN1⟩ : ∃ N1, N1 = addM N p p m.r := ⟨_, rfl⟩
          rw [← hN1] at MT LNN HE
          clear hN1 HNX LN0 LN1
          obtain ⟨N0, hN0⟩ : ∃ N0, N0 = N := ⟨_, rfl⟩
          clear hN0
          obtain ⟨N, rfl⟩ : ∃ N, N = N1 := ⟨_, rfl⟩
          obtain ⟨gi, cgi, eVi, hci, hci2, hBi, hnei, cI, hFi⟩ := MT.out.get (i := p) hpk (by omega)
          obtain ⟨sx, ox, nx, cx, ax, mx, dx, x0, x1, x2, hIx⟩ := hFi.at (j := q) (by omega)
          obtain ⟨xa, hxa⟩ : ∃ z0, z0 = N p q := ⟨_, rfl⟩
          rw [← hxa] at hIx
          have LX := qHd (show rl xa ≤ 100000 by rw [hxa]; exact Nat.le_trans (LNN.out _ _) (by decide))
          have HXA := qHd hxa; have IX := qHd hIx; have CX := qHd (And.intro x0 (And.intro x1 x2)); have CI := qHd cI; have EVI := qHd eVi
          have NGI := qHd (show W.heap.size ≤ gi ∧ gi ≠ gp ∧ (∀ z, sv.ownBlock = some z → gi ≠ z) from ⟨hBi, (NRW.out p hpk gi (by rw [eVi]; rfl)).1, (NRW.out p hpk gi (by rw [eVi]; rfl)).2⟩)
          clear hIx x0 x1 x2 cI eVi hFi hxa
          refine qal.mk ?_
          refine qaj (A := ?aaR26) (w := wz) 16 [] (by kernel_rfl) (Fl [KEq (.slice (some ⟨ga, 0, none⟩) k k), KEq (.int .i64 (p : Nat)), KEq (.pointer (some ⟨ga, p, none⟩)), KEq (.slice (some ⟨gi, 0, none⟩) k cgi), KEq (.int .i64 (q : Nat)), KEq (.slice (some ⟨ga, 0, none⟩) k k), KEq (.int .i64 (p : Nat)), KEq (.pointer (some ⟨ga, p, none⟩)), KEq (.slice (some ⟨gi, 0, none⟩) k cgi), KEq (.int .i64 (q : Nat)), KEq (.pointer (some ⟨gi, q * 3, none⟩)), KEq (.agg #[.bool sx, .slice ox nx cx, .slice ax mx dx]), KEq (.pointer (some ⟨gm, 2, none⟩)), KEq (.agg #[.bool sm, .slice om nm cm, .slice am mm dm]), KIs (xa - m.r), KEq (.pointer (some ⟨gi, q * 3, none⟩))]) (fun i => false) (by kernel_rfl) ?hqR26 (qdk (qad (kEq _) (qad (kEq _) (qad (kEq _) (qad (kEq _) (qad (kEq _) (qad (kEq _) (qad (kEq _) (qad (kEq _) (qad (kEq _) (qad (kEq _) (qad (kEq _) (qad (kEq _) (qad (kEq _) (qad (kEq _) (qad (kIs _) (qad (kEq _) qdj))))))))))))))))) ?haR26 ?stR26 ?tlR26
          case hqR26 =>
           intro c a d v w h
           first | (simp only [Exit.then] at h ⊢; exact h) | (simp only [Exit.inBlock, Exit.then] at h ⊢; exact h) | exact h
          case haR26 =>
           intro vals
           simp only [qat, qby, if_true, Act.put, List.setIfInBounds_toArray, List.set_cons_zero, List.set_cons_succ, List.getElem?_toArray, List.getElem?_cons_zero, List.getElem?_cons_succ, Option.bind_some]
           exact rfl
          case stR26 =>
           simp only [List.take_succ_cons, List.take_zero]
           refine qaa rfl rfl ?_ (qaa rfl rfl ?_ (qaa rfl rfl ?_ (qaa rfl rfl ?_ (qaa rfl rfl ?_ (qaa rfl rfl ?_ (qaa rfl rfl ?_ (qaa rfl rfl ?_ (qaa rfl rfl ?_ (qaa rfl rfl ?_ (qaa rfl rfl ?_ (qaa rfl rfl ?_ (qaa rfl rfl ?_ (qaa rfl rfl ?_ (qaa rfl rfl ?_ (qaa rfl rfl ?_ (qau))))))))))))))))
           ·intro vals w1 hb hd
            refine qSv (.slice (some ⟨ga, 0, none⟩) k k) (by go_simp) (qLk rfl rfl)
           ·intro vals w1 hb hd
            refine qSv (.int .i64 (p : Nat)) (by go_simp) (qLk rfl rfl)
           ·intro vals w1 hb hd
            have hpz := HPZ.out
            rw [show vals 0 = .slice (some ⟨ga, 0, none⟩) k k from hd 0 (by kernel_rfl)]
            rw [show vals 1 = .int .i64 (p : Nat) from hd 1 (by kernel_rfl)]
            refine qSv (.pointer (some ⟨ga, p, none⟩)) (by go_simp) (qLk rfl rfl)
           ·intro vals w1 hb hd
            have e0 := qak CI.out hb
            rw [show vals 2 = .pointer (some ⟨ga, p, none⟩) from hd 2 (by kernel_rfl)]
            refine qSv (.slice (some ⟨gi, 0, none⟩) k cgi) (by go_simp) (qLk rfl rfl)
           ·intro vals w1 hb hd
            refine qSv (.int .i64 (q : Nat)) (by go_simp) (qLk rfl rfl)
           ·intro vals w1 hb hd
            refine qSv (.slice (some ⟨ga, 0, none⟩) k k) (by go_simp) (qLk rfl rfl)
           ·intro vals w1 hb hd
            refine qSv (.int .i64 (p : Nat)) (by go_simp) (qLk rfl rfl)
           ·intro vals w1 hb hd
            have hpz := HPZ.out
            rw [show vals 5 = .slice (some ⟨ga, 0, none⟩) k k from hd 5 (by kernel_rfl)]
            rw [show vals 6 = .int .i64 (p : Nat) from hd 6 (by kernel_rfl)]
            refine qSv (.pointer (some ⟨ga, p, none⟩)) (by go_simp) (qLk rfl rfl)
           ·intro vals w1 hb hd
            have e0 := qak CI.out hb
            rw [show vals 7 = .pointer (some ⟨ga, p, none⟩) from hd 7 (by kernel_rfl)]
            refine qSv (.slice (some ⟨gi, 0, none⟩) k cgi) (by go_simp) (qLk rfl rfl)
           ·intro vals w1 hb hd
            refine qSv (.int .i64 (q : Nat)) (by go_simp) (qLk rfl rfl)
           ·intro vals w1 hb hd
            have hqz := HQZ.out
            rw [show vals 8 = .slice (some ⟨gi, 0, none⟩) k cgi from hd 8 (by kernel_rfl)]
            rw [show vals 9 = .int .i64 (q : Nat) from hd 9 (by kernel_rfl)]
            refine qSv (.pointer (some ⟨gi, q * 3, none⟩)) (by go_simp) (qLk rfl rfl)
           ·intro vals w1 hb hd
            obtain ⟨e0, e1, e2⟩ := qax CX.out hb
            rw [show vals 10 = .pointer (some ⟨gi, q * 3, none⟩) from hd 10 (by kernel_rfl)]
            refine qSv (.agg #[.bool sx, .slice ox nx cx, .slice ax mx dx]) (by go_simp) (qLk rfl rfl)
           ·intro vals w1 hb hd
            refine qSv (.pointer (some ⟨gm, 2, none⟩)) (by go_simp) (qLk rfl rfl)
           ·intro vals w1 hb hd
            obtain ⟨e0, e1, e2, e3, e4⟩ := qbz (qab G_gm.out hb)
            rw [show vals 12 = .pointer (some ⟨gm, 2, none⟩) from hd 12 (by kernel_rfl)]
            refine qSv (.agg #[.bool sm, .slice om nm cm, .slice am mm dm]) (by go_simp) (qLk rfl rfl)
           ·intro vals w1 hb hd
            have d11 : KEq (.agg #[.bool sx, .slice ox nx cx, .slice ax mx dx]) (vals 11) w1 := hd 11 (by kernel_rfl)
            have d13 : KEq (.agg #[.bool sm, .slice om nm cm, .slice am mm dm]) (vals 13) w1 := hd 13 (by kernel_rfl)
            have HS := qHd (subq_any _ xa _ m.r w1 ((IX.out.below hb).is LX.out) ((IM.out.below hb).is LM.out))
            have z11 : vals 11 = _ := d11
            rw [z11]; clear z11
            have z13 : vals 13 = _ := d13
            rw [z13]; clear z13
            refine qar (by go_simp; first | done | exact ⟨⟨rfl, rfl⟩, rfl⟩) ?_
            (with_reducible refine HS.out.mono ?_); rintro e w2 ⟨v, rfl, hb2, hn⟩
            exact ⟨v, rfl, qai hb2 hn (fun h => by cases h)⟩
           ·intro vals w1 hb hd
            have hqz := HQZ.out
            rw [show vals 3 = .slice (some ⟨gi, 0, none⟩) k cgi from hd 3 (by kernel_rfl)]
            rw [show vals 4 = .int .i64 (q : Nat) from hd 4 (by kernel_rfl)]
            refine qSv (.pointer (some ⟨gi, q * 3, none⟩)) (by go_simp) (qLk rfl rfl)
          case tlR26 =>
           intro vals w8 hb8 hf hdis
           simp only [List.drop_succ_cons, List.drop_zero]
           have z15 : vals 15 = _ := hf 15 (by decide)
           have hn : IsR w8 (vals 14) (xa - m.r) := hf 14 (by decide)
           rw [z15]
           obtain ⟨r, hr⟩ : ∃ r, r = vals 14 := ⟨_, rfl⟩
           rw [← hr] at hn ⊢
           clear z15 hf hdis hr
           obtain ⟨sz, oz, nz, cz, az, mz, dz, rfl⟩ := hn.shape
           have MT := qHd (MT.out.below hb8); have PLO := qHd (qaq PLO.out hb8); have STO := qHd (qaq STO.out hb8); have HB := qHd (qac HB.out (Nat.le_refl _) hb8); have G_gm := qHd (qab G_gm.out hb8); have IM := qHd (IM.out.below hb8)
           have IZ := qHd hn
           clear hb8 hn CX CI IX
           obtain ⟨_, hFi⟩ := MT.out.at hpk EVI.out
           obtain ⟨cs, hcs, hsz⟩ := qbe hFi
           go_wp2_with (with_reducible refine qan ?_)
           refine qba gi (q * 3) [.bool sz, .slice oz nz cz, .slice az mz dz] hcs rfl rfl (by simp only [List.length_cons, List.length_nil]; omega) (by kernel_rfl) rfl ?_
           intro wy hpz
           obtain ⟨hX, hSt⟩ := hFi.put (j := q) (by omega) IZ.out hpz
           have MT := qHd ((MT.out.rowPut hpk (x := updR (N p) q (xa - m.r)) (by rw [EVI.out]; exact hX) (by rw [EVI.out]; exact hSt)).congr (N := addM N p q (- m.r)) (fun a _ b _ => by
            rw [HXA.out, Rat.sub_eq_add_neg]
            exact addM_row N p q _ a b))
           have PLO := qHd (PLO.out.kept hSt.gr (fun z hz e => by have h1 : gp = z := Option.some.inj hz; have h2 : gi = z := Option.some.inj e; exact NGI.out.2.1 (by omega)))
           have STO := qHd (STO.out.kept hSt.gr (fun z hz e => by have h2 : gi = z := Option.some.inj e; exact NGI.out.2.2 z hz h2))
           have HB := qHd (hSt.low HB.out HB.out.size NGI.out.1)
           have G_gm := qHd (hSt.heap G_gm.out (fun e => by
            have h2 : gi = gm := Option.some.inj e
            obtain ⟨cz, hcz, _⟩ := qbe hFi
            rw [h2, G_gm.out] at hcz; cases hcz))
           have IM := qHd (hSt.I IM.out)
           clear hX hSt hpz hcs hsz IZ hFi EVI NGI
           go_wp2_with fail
           go_roundw
           case rel => exact ⟨t + 1, by omega, by go_num, qHd (by rw [HE.out]; exact MT.out), PLO, STO, HB⟩
           case measure => simp [intOf]; omega
      ·have HT := qHd (show t = ms.length by omega)
       have htz : ¬ ((t : Int) < (ms.length : Int)) := by omega
       go_wp2_with fail
       go_ret2
       refine ⟨sv, ga, V, ss, pp, by rw [HSV.out, ← HK0.out]; rfl, HBW.out.trans (HB.out.mono HBW.out.size), by rw [← HK0.out]; exact hkn, by rw [← HK0.out]; exact ⟨qcr STO.out.1 HBW.out.size, STO.out.2⟩, ?_, HPS.out, fun j hj => (PP.out.2.sts j hj).2.1⟩
       rw [← HK0.out]
       have hm := MT.out
       rw [HT.out, List.take_length] at hm
       exact ⟨⟨qcr hm.out.1 HBW.out.size, hm.out.2⟩, fun i hi => (hm.row i hi).base HBW.out.size, hm.ne0, hm.inj⟩
def KL1 (B : Nat) (q : Rat) : Value → World → Prop := fun v w => ∃ g s o n c a m d, B ≤ g ∧ v = .slice (some ⟨g, 0, none⟩) 1 1 ∧ w.heap[g]? = some (.cells #[.bool s, .slice o n c, .slice a m d] 37) ∧ IsR w (.agg #[.bool s, .slice o n c, .slice a m d]) q
theorem kL1 (B : Nat) (q : Rat) : MonoF (KL1 B q) := fun _ _ _ ⟨g, s, o, n, c, a, m, d, h1, h2, h3, h4⟩ hb => ⟨g, s, o, n, c, a, m, d, h1, h2, qab h3 hb, h4.below hb⟩
theorem lcheck_any (ga ca k q B : Nat) (VA : Nat → Value) (M : Nat → Nat → Rat) (w : World) (hM : Mat w B (.slice (some ⟨ga, 0, none⟩) k ca) k VA (fun _ => q) M) (hk0 : 0 < k) (hk : k ≤ 100) (hq0 : 0 < q) (hq : q ≤ 100) :
  Calls Tryz.prog 54 #[.slice (some ⟨ga, 0, none⟩) k ca] w (RetS w .nilIface) := by
 have MT := qHd hM; clear hM
 obtain ⟨g0, c0, _, h0, h02, _, _, cA, _⟩ := MT.out.get (i := 0) hk0 hq0
 have hkz : ((k : Int) == 0) = false := by rw [beq_eq_false_iff_ne]; omega
 have hqz : ((q : Int) == 0) = false := by rw [beq_eq_false_iff_ne]; omega
 have hk256 : ¬ ((256 : Int) < (k : Int)) := by omega
 have hq256 : ¬ ((256 : Int) < (q : Int)) := by omega
 go_enter Tryz.func54, Tryz.ntmps54
 go_wp2_with (with_reducible first | refine qah ?_ | refine qae ?_)
 refine qal.mk ?_
 go_loopw [29] (fun i' wx => ∃ i : Nat, i ≤ k ∧ i' = .int .i64 i ∧ wx = w) (fun i' _ => k - (intOf i').toNat)
 case atStart => exact ⟨0, Nat.zero_le _, rfl, rfl⟩
 case round =>
  obtain ⟨i, hi, rfl, rfl⟩ := hrel
  obtain ⟨wo, rfl⟩ : ∃ wo : World, wo = wr := ⟨_, rfl⟩
  by_cases hlt : i < k
  ·have hltz : (i : Int) < (k : Int) := by omega
   obtain ⟨g1, c1, _, h1, h12, _, _, cI, _⟩ := MT.out.get (i := i) hlt hq0
   go_wp2_with fail
   go_roundw
   case rel => exact ⟨i + 1, by omega, by go_num, by first | rfl | trivial⟩
   case measure => simp [intOf]; omega
  ·have hi' : i = k := by omega
   subst hi'
   go_wp2_with fail
   go_ret
   exact ⟨rfl, rfl⟩
def RetMat (w : World) (k q : Nat) (M : Nat → Nat → Rat) (e : Ending) (w' : World) : Prop := ∃ g V, e = .returned (.slice (some ⟨g, 0, none⟩) k k) ∧ Below w.heap.size w w' ∧ Mat w' w.heap.size (.slice (some ⟨g, 0, none⟩) k k) k V (fun _ => q) M
theorem copied_any (ga ca k q B : Nat) (VA : Nat → Value) (X : Nat → Nat → Rat) (W : World) (hM : Mat W B (.slice (some ⟨ga, 0, none⟩) k ca) k VA (fun _ => q) X) (hk0 : 0 < k) (hk : k ≤ 100) (hq0 : 0 < q) (hq : q ≤ 100) (hca : k ≤ ca ∧ ca ≤ 9223372036854775807) (lx : ∀ i, i < k → ∀ j, j < q → rl (X i j) ≤ 100000) :
  Calls Tryz.prog 55 #[.slice (some ⟨ga, 0, none⟩) k ca] W (RetMat W k q X) := by
 have MA := qHd hM; clear hM
 have LXX := qHd lx; clear lx
 go_enter Tryz.func55, Tryz.ntmps55
 go_wp2_with (with_reducible refine qaw ?_)
 refine qbj Tryz.rowsTyL k rfl rfl (by omega) (by decide) (by decide) ?_
 intro w2 hw2 ho2
 have hb2 : Below W.heap.size W w2 := by rw [hw2]; exact qBA _ _
 have hO := made1 noU1 ho2 hw2
 obtain ⟨go, hgo⟩ : ∃ g, g = W.heap.size := ⟨_, rfl⟩
 have lgo : W.heap.size ≤ go := by omega
 have MT := qHd (show Mat w2 W.heap.size (.slice (some ⟨go, 0, none⟩) k k) k (fun _ => .slice none 0 0) (fun a => if a < 0 then q else 0) X from by
  refine ⟨?_, fun i hi => FrL.nil _ _ _, (fun i hi g hg e => by cases e), (fun i j _ _ _ g e => by cases e)⟩
  have e : (List.range k).map (fun _ => Value.slice none 0 0) = List.replicate k (.slice none 0 0) := by rw [List.map_const', List.length_range]
  rw [e, hgo]; exact hO)
 rw [← hgo]
 have HB := qHd hb2
 clear hO hb2 ho2 hw2 hgo
 go_wp2_with (with_reducible first | refine qah ?_ | refine qae ?_)
 refine qal.mk ?_
 go_loopw [13] (fun i' wx => ∃ (i : Nat) (VO : Nat → Value), i ≤ k ∧ i' = .int .i64 i ∧ Hid (Mat wx W.heap.size (.slice (some ⟨go, 0, none⟩) k k) k VO (fun a => if a < i then q else 0) X) ∧ Hid (Below W.heap.size W wx)) (fun i' _ => k - (intOf i').toNat)
 case atStart => exact ⟨0, _, Nat.zero_le _, rfl, MT, HB⟩
 case round =>
  obtain ⟨i, VO, hi, rfl, MT, HB⟩ := hrel
  obtain ⟨wo, rfl⟩ : ∃ wo : World, wo = wr := ⟨_, rfl⟩
  by_cases hik : i < k
  ·have hiz : (i : Int) < (k : Int) := by omega
   obtain ⟨gi, ci, eVA, hci, hci2, _, _, cI, _⟩ := (MA.out.below HB.out).get (i := i) hik hq0
   have EVA := qHd eVA
   have MT := qHd (show Mat wo W.heap.size (.slice (some ⟨go, 0, none⟩) k k) k VO (fun a => if a < i then q else if a = i then 0 else 0) X by
    have e : (fun a => if a < i then q else 0) = fun a => if a < i then q else if a = i then 0 else 0 := by funext a; simp
    rw [← e]; exact MT.out)
   go_wp2_with (with_reducible first | refine qah ?_ | refine qae ?_)
   clear cI eVA
   refine qal.mk ?_
   go_loopw [20] (fun i' wx => ∃ (j : Nat) (VO : Nat → Value), j ≤ q ∧ i' = .int .i64 j ∧ Hid (Mat wx W.heap.size (.slice (some ⟨go, 0, none⟩) k k) k VO (fun a => if a < i then q else if a = i then j else 0) X) ∧ Hid (Below W.heap.size W wx)) (fun i' _ => q - (intOf i').toNat)
   case atStart => exact ⟨0, VO, Nat.zero_le _, rfl, MT, HB⟩
   case round =>
    obtain ⟨j, VO, hj, rfl, MT, HB⟩ := hrel
    obtain ⟨wp, rfl⟩ : ∃ wp : World, wp = wr := ⟨_, rfl⟩
    by_cases hjq : j < q
    ·have hjz : (j : Int) < (q : Int) := by omega
     obtain ⟨_, hFa⟩ := (MA.out.below HB.out).at hik EVA.out
     obtain ⟨sx, ox, nx, cx, ax, mx, dx, x0, x1, x2, hIx⟩ := hFa.at hjq
     have LX := qHd (LXX.out i hik j hjq)
     obtain ⟨xv, hxv⟩ : ∃ z0, z0 = X i j := ⟨_, rfl⟩
     rw [← hxv] at hIx LX
     have HXV := qHd hxv
     obtain ⟨w3, hw3, hb3, gx, hgx, hx3⟩ := qBx5 wp (.cells #[.bool sx, .slice ox nx cx, .slice ax mx dx] 37)
     go_wp2_with (with_reducible first | refine qag ?_ | refine qah ?_ | refine qbb ?_ | refine qbc ?_ | refine qae ?_)
     rw [← hw3, ← hgx]
     clear hw3 hgx x0 x1 x2 hFa hxv
     have IX := qHd (hIx.below hb3); have MT := qHd (MT.out.below hb3); have HB := qHd (qac HB.out (Nat.le_refl _) hb3); have GX := qHd hx3
     clear hIx hb3 hx3
     obtain ⟨ro, rc, eVI, hrc, hrc2, _⟩ := (show FrL w3 W.heap.size (VO i) j (X i) by have := MT.out.row i hik; simpa using this).shape
     have CI := qHd (show w3.cell? ⟨go, i, none⟩ = some (.slice ro j rc) by
      obtain ⟨g', e', _, _, _, _, hc⟩ := qbi MT.out.out.1 rfl (by omega)
      cases e'
      have := hc i _ (map_at hik)
      rw [eVI] at this; exact this)
     have EVI := qHd eVI; have HIZ := qHd hiz
     clear eVI
     obtain ⟨W0, rfl⟩ : ∃ W0 : World, W0 = w3 := ⟨_, rfl⟩
     refine qal.mk ?_
     refine qaj (A := ?aaCP) (w := W0) 10 [0, 1] (by kernel_rfl) (Fl [KEq (.slice (some ⟨go, 0, none⟩) k k), KEq (.int .i64 (i : Nat)), KEq (.slice (some ⟨go, 0, none⟩) k k), KEq (.int .i64 (i : Nat)), KEq (.pointer (some ⟨go, i, none⟩)), KEq (.slice ro j rc), KEq (.agg #[.bool sx, .slice ox nx cx, .slice ax mx dx]), KEq (.agg #[.bool false, .slice none 0 0, .slice none 0 0]), KIs xv, KL1 W0.heap.size xv]) (fun i => false) (by kernel_rfl) ?hqCP (qdk (qad (kEq _) (qad (kEq _) (qad (kEq _) (qad (kEq _) (qad (kEq _) (qad (kEq _) (qad (kEq _) (qad (kEq _) (qad (kIs _) (qad (kL1 _ _) qdj))))))))))) ?haCP ?stCP ?tlCP
     case hqCP =>
      intro c a d v w h
      first | (simp only [Exit.then] at h ⊢; exact h) | (simp only [Exit.inBlock, Exit.then] at h ⊢; exact h) | exact h
     case haCP =>
      intro vals
      simp only [qat, qby, if_true, Act.put, List.setIfInBounds_toArray, List.set_cons_zero, List.set_cons_succ, List.getElem?_toArray, List.getElem?_cons_zero, List.getElem?_cons_succ, Option.bind_some]
      exact rfl
     case stCP =>
      simp only [List.take_succ_cons, List.take_zero]
      refine qci rfl ?_ (qci rfl ?_ (qaa rfl rfl ?_ (qaa rfl rfl ?_ (qaa rfl rfl ?_ (qaa rfl rfl ?_ (qaa rfl rfl ?_ (qaa rfl rfl ?_ (qaa rfl rfl ?_ (qaa rfl rfl ?_ (qau))))))))))
      ·intro vals w1 hb hd
       refine qbv (v := .slice (some ⟨go, 0, none⟩) k k) (fun w => by go_simp) (qLk rfl rfl)
      ·intro vals w1 hb hd
       refine qbv (v := .int .i64 (i : Nat)) (fun w => by go_simp) (qLk rfl rfl)
      ·intro vals w1 hb hd
       refine qSv (.slice (some ⟨go, 0, none⟩) k k) (by go_simp) (qLk rfl rfl)
      ·intro vals w1 hb hd
       refine qSv (.int .i64 (i : Nat)) (by go_simp) (qLk rfl rfl)
      ·intro vals w1 hb hd
       have hiz := HIZ.out
       rw [show vals 2 = .slice (some ⟨go, 0, none⟩) k k from hd 2 (by kernel_rfl)]
       rw [show vals 3 = .int .i64 (i : Nat) from hd 3 (by kernel_rfl)]
       refine qSv (.pointer (some ⟨go, i, none⟩)) (by go_simp) (qLk rfl rfl)
      ·intro vals w1 hb hd
       have e0 := qak CI.out hb
       rw [show vals 4 = .pointer (some ⟨go, i, none⟩) from hd 4 (by kernel_rfl)]
       refine qSv (.slice ro j rc) (by go_simp) (qLk rfl rfl)
      ·intro vals w1 hb hd
       obtain ⟨e0, e1, e2⟩ := row3 (qab GX.out hb)
       refine qSv (.agg #[.bool sx, .slice ox nx cx, .slice ax mx dx]) (by go_simp) (qLk rfl rfl)
      ·intro vals w1 hb hd
       refine qSv (.agg #[.bool false, .slice none 0 0, .slice none 0 0]) (by go_simp) (qLk rfl rfl)
      ·intro vals w1 hb hd
       have d6 : KEq (.agg #[.bool sx, .slice ox nx cx, .slice ax mx dx]) (vals 6) w1 := hd 6 (by kernel_rfl)
       have d7 : KEq (.agg #[.bool false, .slice none 0 0, .slice none 0 0]) (vals 7) w1 := hd 7 (by kernel_rfl)
       have hs := qcz _ xv _ 0 w1 ((IX.out.below hb).is LX.out) (IsR.is (isR_zero w1) (by rw [rl_zero]; decide))
       rw [show xv + 0 = xv from Rat.add_zero _] at hs
       have HS2 := qHd hs; clear hs
       rw [show vals 6 = _ from d6, show vals 7 = _ from d7]
       refine qar (by go_simp; first | done | exact ⟨⟨rfl, rfl⟩, rfl⟩) ?_
       (with_reducible refine HS2.out.mono ?_); rintro e w2 ⟨v, rfl, hb2, hn⟩
       exact ⟨v, rfl, qai hb2 hn (fun h => by cases h)⟩
      ·intro vals w1 hb hd
       have d8 : KIs xv (vals 8) w1 := hd 8 (by kernel_rfl)
       have hn : IsR w1 (vals 8) xv := d8
       obtain ⟨sz, oz, nz, cz, az, mz, dz, ez⟩ := hn.shape
       rw [ez] at hn ⊢
       refine qaf (v := .slice (some ⟨w1.heap.size, 0, none⟩) 1 1) (w' := w1.alloc (.cells #[.bool sz, .slice oz nz cz, .slice az mz dz] 37)) (by go_simp) (qai ((Below.refl _ _).alloc (Nat.le_refl _) _) ⟨w1.heap.size, sz, oz, nz, cz, az, mz, dz, hb.size, rfl, heap_alloc_new _ _, hn.below ((Below.refl _ _).alloc (Nat.le_refl _) _)⟩ (fun h => by cases h))
     case tlCP =>
      intro vals w8 hb8 hf hdis
      simp only [List.drop_succ_cons, List.drop_zero]
      have z0 : vals 0 = _ := hf 0 (by decide); have z1 : vals 1 = _ := hf 1 (by decide); have z5 : vals 5 = _ := hf 5 (by decide)
      obtain ⟨gz, sz, oz, nz, cz, az, mz, dz, hgz, ev, hxz, hnz⟩ : KL1 W0.heap.size xv (vals 9) w8 := hf 9 (by decide)
      rw [z0, z1, z5, ev]
      clear z0 z1 z5 hf hdis ev
      have MT := qHd (MT.out.below hb8); have HB := qHd (qac HB.out (Nat.le_refl _) hb8)
      have EV := EVI
      have HF := qHd (show FrL w8 W.heap.size (.slice ro (j) rc) (j) (X i) by have := MT.out.row i hik; rw [EVI.out] at this; simpa using this)
      obtain ⟨xs, hxs, hxat⟩ := HF.out
      have hlt8 := fun g (hg : (Value.slice ro (j) rc).ownBlock = some g) => (World.ownsRow.lt hxs.1 g hg).1
      clear hb8 CI IX GX
      go_wp2_with (with_reducible refine qbf ?_)
      refine qbo W.heap.size Tryz.ratTy rfl noU3 (by decide) _ (j) xs [.bool sz, .slice oz nz cz, .slice az mz dz] gz 37 rfl rfl hxs hxz rfl rfl noU3 hxs.noU (by omega) (by decide) HB.out.size ?_
      intro v' w9 ho9 hg9 hfr
      have hSt := stp_own hxs hg9
      have hFr := FrL.app hxs hxat hnz ho9 hSt
      obtain ⟨o9, c9, rfl, hc9, hc92, _⟩ := qbd ho9.1
      have HFR := qHd hFr; have HST := qHd hSt; have HFH := qHd hfr
      have n0 := MT.out.ne0 i hik go rfl
      rw [EVI.out] at n0
      obtain ⟨cs, hcs, hcz⟩ := (show ∃ cs, w9.heap[go]? = some (.cells cs 28) ∧ k ≤ cs.size from by
       obtain ⟨cs, h1, h2⟩ := MT.out.outCap
       exact ⟨cs, hSt.heap h1 (fun e => n0 e), h2⟩)
      have HB := qHd (hSt.low' HB.out HB.out.size hlt8)
      clear ho9 hg9 hfr hFr hSt hxz hnz hlt8 hxs hxat n0 HF
      go_wp2_with (with_reducible refine qaz 28 ?_)
      refine qcc go i hcs rfl rfl (by omega) (by kernel_rfl) ?_
      intro wz hpz
      obtain ⟨hM9, st9⟩ := MT.out.setRow hik (fun g e => by rw [EVI.out]; exact e) HST.out HFR.out (fun g hg q => HFH.out g hg (by rw [EVI.out] at q; exact q)) hpz
      have HB := qHd (st9.low HB.out HB.out.size lgo)
      have MT := qHd (show Mat wz W.heap.size (.slice (some ⟨go, 0, none⟩) k k) k (updV VO i (.slice o9 (j + 1) c9)) (fun a => if a < i then q else if a = i then j + 1 else 0) (X) from by
       have e : updV (fun a => if a < i then q else if a = i then j else 0) i (j + 1) = fun a => if a < i then q else if a = i then j + 1 else 0 := by
        funext a
        unfold updV
        by_cases q : a = i
        ·rw [if_pos q]; subst q; simp
        ·rw [if_neg q]; show (_ : Nat) = _; simp only []; (repeat' split) <;> omega
       rw [e] at hM9
       exact hM9.congr (fun a ha b hb => by
        by_cases q : a = i
        ·subst q; rw [if_pos rfl]; unfold updR
         by_cases e : b = j
         ·rw [if_pos e, e, HXV.out]
         ·rw [if_neg e]
        ·rw [if_neg q]))
      clear hM9 st9 hpz hcs hcz HST HFR HFH EVI EV
      go_wp2_with fail
      go_roundw
      case rel => exact ⟨j + 1, _, by omega, by go_num, MT, HB⟩
      case measure => simp [intOf]; omega
    ·have HJ := qHd (show j = q by omega)
     have hjz : ¬ ((j : Int) < (q : Int)) := by omega
     have MT := qHd (show Mat wp W.heap.size (.slice (some ⟨go, 0, none⟩) k k) k VO (fun a => if a < i + 1 then q else 0) X by
      have e : (fun a => if a < i then q else if a = i then j else 0) = fun a => if a < i + 1 then q else 0 := by
       funext a; rw [HJ.out]
       by_cases h1 : a < i
       ·rw [if_pos h1, if_pos (by omega)]
       ·rw [if_neg h1]
        by_cases h2 : a = i
        ·rw [if_pos h2, if_pos (by omega)]
        ·rw [if_neg h2, if_neg (by omega)]
      rw [← e]; exact MT.out)
     go_wp2_with fail
     go_roundw
     case rel => exact ⟨i + 1, VO, by omega, by go_num, MT, HB⟩
     case measure => simp [intOf]; omega
  ·have HI := qHd (show i = k by omega)
   have hiz : ¬ ((i : Int) < (k : Int)) := by omega
   go_wp2_with fail
   go_ret
   refine ⟨go, VO, rfl, HB.out, ⟨MT.out.out, fun a ha => by have := MT.out.row a ha; simp only [if_pos (show a < i by rw [HI.out]; exact ha)] at this; exact this, MT.out.ne0, MT.out.inj⟩⟩
def aug2 (M : Nat → Nat → Rat) (bv : Nat → Rat) (k : Nat) : Nat → Nat → Rat := fun i j => if j < k then M i j else bv i
def RetSol (w : World) (k : Nat) (M : Nat → Nat → Rat) (bv : Nat → Rat) (e : Ending) (w' : World) : Prop :=
 ∃ sol, RetFrE w k sol e w' ∧ (∀ i, i < k → qcq (fun j => M i j * sol j) k = bv i) ∧ ∀ i, i < k → rl (sol i) ≤ 9640
theorem lsolve_any (ga ca gb cb k B B2 : Nat) (VA : Nat → Value) (X : Nat → Nat → Rat) (bv : Nat → Rat) (W : World) (hM : Mat W B (.slice (some ⟨ga, 0, none⟩) k ca) k VA (fun _ => k) X) (hb : FrL W B2 (.slice (some ⟨gb, 0, none⟩) k cb) k bv) (hk0 : 0 < k) (hk : k ≤ 10) (hca : k ≤ ca ∧ ca ≤ 9223372036854775807) (hcb : k ≤ cb ∧ cb ≤ 9223372036854775807)
  (lx : ∀ i, i < k → ∀ j, j < k → rl (X i j) ≤ 100000) (lb : ∀ i, i < k → rl (bv i) ≤ 100000) (hsz : SzM (aug2 X bv k) k (k + 1) (bk 0)) (hns : NonSing (aug2 X bv k) k) :
  Calls Tryz.prog 35 #[.slice (some ⟨ga, 0, none⟩) k ca, .slice (some ⟨gb, 0, none⟩) k cb] W (RetSol W k X bv) := by
 have MA := qHd hM; have FB := qHd hb; have LBB := qHd lb; have SZ := qHd hsz; have NS := qHd hns
 have HK := qHd (lcheck_any ga ca k k B VA X W hM hk0 (by omega) hk0 (by omega))
 have HK2 := qHd (copied_any ga ca k k B VA X W hM hk0 (by omega) hk0 (by omega) hca lx)
 obtain ⟨g0, c0, _, hc0, hc02, _, _, cA0, _⟩ := hM.get (i := 0) hk0 hk0
 have CA0 := qHd cA0
 clear hM hb lx lb hsz hns cA0
 have hkk : (((k : Nat) : Int) != (k : Int)) = false := by simp
 go_enter Tryz.func35, Tryz.ntmps35
 go_wp2_with (with_reducible refine qag ?_)
 refine qal.mk ?_
 (with_reducible refine HK.out.mono ?_); rintro e w1 ⟨rfl, rfl⟩
 clear HK
 go_wp2_with (with_reducible refine qag ?_)
 refine qal.mk ?_
 (with_reducible refine HK2.out.mono ?_); rintro e w2 ⟨go, VO, rfl, hb2, hM2⟩
 have hgo := hM2.lt (g := go) rfl
 have lgo : W.heap.size ≤ go := hgo.1
 have MT := qHd (show Mat w2 W.heap.size (.slice (some ⟨go, 0, none⟩) k k) k VO (fun a => if a < 0 then k + 1 else k) (aug2 X bv k) from
  ⟨hM2.out, fun i hi => (hM2.row i hi).congr (fun j hj => by unfold aug2; rw [if_pos hj]), hM2.ne0, hM2.inj⟩)
 have HB := qHd hb2
 clear hM2 hb2 HK2 hgo
 go_wp2_with (with_reducible first | refine qah ?_ | refine qae ?_)
 refine qal.mk ?_
 go_loopw [30] (fun i' wx => ∃ (i : Nat) (VO : Nat → Value), i ≤ k ∧ i' = .int .i64 i ∧ Hid (Mat wx W.heap.size (.slice (some ⟨go, 0, none⟩) k k) k VO (fun a => if a < i then k + 1 else k) (aug2 X bv k)) ∧ Hid (Below W.heap.size W wx)) (fun i' _ => k - (intOf i').toNat)
 case atStart => exact ⟨0, VO, Nat.zero_le _, rfl, MT, HB⟩
 case round =>
  obtain ⟨i, VO, hi, rfl, MT, HB⟩ := hrel
  obtain ⟨wp, rfl⟩ : ∃ wp : World, wp = wr := ⟨_, rfl⟩
  by_cases hik : i < k
  ·have hiz : (i : Int) < (k : Int) := by omega
   obtain ⟨sx, ox, nx, cx, ax, mx, dx, x0, x1, x2, hIx⟩ := (FB.out.below HB.out).at hik
   have LX := qHd (LBB.out i hik)
   obtain ⟨xv, hxv⟩ : ∃ z0, z0 = bv i := ⟨_, rfl⟩
   rw [← hxv] at hIx LX
   have HXV := qHd hxv
   obtain ⟨w3, hw3, hb3, gx, hgx, hx3⟩ := qBx5 wp (.cells #[.bool sx, .slice ox nx cx, .slice ax mx dx] 37)
   go_wp2_with (with_reducible first | refine qag ?_ | refine qah ?_ | refine qbb ?_ | refine qbc ?_ | refine qae ?_)
   rw [← hw3, ← hgx]
   clear hw3 hgx x0 x1 x2 hxv
   have IX := qHd (hIx.below hb3); have MT := qHd (MT.out.below hb3); have HB := qHd (qac HB.out (Nat.le_refl _) hb3); have GX := qHd hx3
   clear hIx hb3 hx3
   obtain ⟨ro, rc, eVI, hrc, hrc2, _⟩ := (show FrL w3 W.heap.size (VO i) k (aug2 X bv k i) by have := MT.out.row i hik; simpa using this).shape
   have CI := qHd (show w3.cell? ⟨go, i, none⟩ = some (.slice ro k rc) by
    obtain ⟨g', e', _, _, _, _, hc⟩ := qbi MT.out.out.1 rfl (by omega)
    cases e'
    have := hc i _ (map_at hik)
    rw [eVI] at this; exact this)
   have EVI := qHd eVI; have HIZ := qHd hiz
   clear eVI
   obtain ⟨W0, rfl⟩ : ∃ W0 : World, W0 = w3 := ⟨_, rfl⟩
   refine qal.mk ?_
   refine qaj (A := ?aaSV) (w := W0) 10 [0, 1] (by kernel_rfl) (Fl [KEq (.slice (some ⟨go, 0, none⟩) k k), KEq (.int .i64 (i : Nat)), KEq (.slice (some ⟨go, 0, none⟩) k k), KEq (.int .i64 (i : Nat)), KEq (.pointer (some ⟨go, i, none⟩)), KEq (.slice ro k rc), KEq (.agg #[.bool sx, .slice ox nx cx, .slice ax mx dx]), KEq (.agg #[.bool false, .slice none 0 0, .slice none 0 0]), KIs xv, KL1 W0.heap.size xv]) (fun i => false) (by kernel_rfl) ?hqSV (qdk (qad (kEq _) (qad (kEq _) (qad (kEq _) (qad (kEq _) (qad (kEq _) (qad (kEq _) (qad (kEq _) (qad (kEq _) (qad (kIs _) (qad (kL1 _ _) qdj))))))))))) ?haSV ?stSV ?tlSV
   case hqSV =>
    intro c a d v w h
    first | (simp only [Exit.then] at h ⊢; exact h) | (simp only [Exit.inBlock, Exit.then] at h ⊢; exact h) | exact h
   case haSV =>
    intro vals
    simp only [qat, qby, if_true, Act.put, List.setIfInBounds_toArray, List.set_cons_zero, List.set_cons_succ, List.getElem?_toArray, List.getElem?_cons_zero, List.getElem?_cons_succ, Option.bind_some]
    exact rfl
   case stSV =>
    simp only [List.take_succ_cons, List.take_zero]
    refine qci rfl ?_ (qci rfl ?_ (qaa rfl rfl ?_ (qaa rfl rfl ?_ (qaa rfl rfl ?_ (qaa rfl rfl ?_ (qaa rfl rfl ?_ (qaa rfl rfl ?_ (qaa rfl rfl ?_ (qaa rfl rfl ?_ (qau))))))))))
    ·intro vals w1 hb hd
     refine qbv (v := .slice (some ⟨go, 0, none⟩) k k) (fun w => by go_simp) (qLk rfl rfl)
    ·intro vals w1 hb hd
     refine qbv (v := .int .i64 (i : Nat)) (fun w => by go_simp) (qLk rfl rfl)
    ·intro vals w1 hb hd
     refine qSv (.slice (some ⟨go, 0, none⟩) k k) (by go_simp) (qLk rfl rfl)
    ·intro vals w1 hb hd
     refine qSv (.int .i64 (i : Nat)) (by go_simp) (qLk rfl rfl)
    ·intro vals w1 hb hd
     have hiz := HIZ.out
     rw [show vals 2 = .slice (some ⟨go, 0, none⟩) k k from hd 2 (by kernel_rfl)]
     rw [show vals 3 = .int .i64 (i : Nat) from hd 3 (by kernel_rfl)]
     refine qSv (.pointer (some ⟨go, i, none⟩)) (by go_simp) (qLk rfl rfl)
    ·intro vals w1 hb hd
     have e0 := qak CI.out hb
     rw [show vals 4 = .pointer (some ⟨go, i, none⟩) from hd 4 (by kernel_rfl)]
     refine qSv (.slice ro k rc) (by go_simp) (qLk rfl rfl)
    ·intro vals w1 hb hd
     obtain ⟨e0, e1, e2⟩ := row3 (qab GX.out hb)
     refine qSv (.agg #[.bool sx, .slice ox nx cx, .slice ax mx dx]) (by go_simp) (qLk rfl rfl)
    ·intro vals w1 hb hd
     refine qSv (.agg #[.bool false, .slice none 0 0, .slice none 0 0]) (by go_simp) (qLk rfl rfl)
    ·intro vals w1 hb hd
     have d6 : KEq (.agg #[.bool sx, .slice ox nx cx, .slice ax mx dx]) (vals 6) w1 := hd 6 (by kernel_rfl)
     have d7 : KEq (.agg #[.bool false, .slice none 0 0, .slice none 0 0]) (vals 7) w1 := hd 7 (by kernel_rfl)
     have hs := qcz _ xv _ 0 w1 ((IX.out.below hb).is LX.out) (IsR.is (isR_zero w1) (by rw [rl_zero]; decide))
     rw [show xv + 0 = xv from Rat.add_zero _] at hs
     have HS2 := qHd hs; clear hs
     rw [show vals 6 = _ from d6, show vals 7 = _ from d7]
     refine qar (by go_simp; first | done | exact ⟨⟨rfl, rfl⟩, rfl⟩) ?_
     (with_reducible refine HS2.out.mono ?_); rintro e w2 ⟨v, rfl, hb2, hn⟩
     exact ⟨v, rfl, qai hb2 hn (fun h => by cases h)⟩
    ·intro vals w1 hb hd
     have d8 : KIs xv (vals 8) w1 := hd 8 (by kernel_rfl)
     have hn : IsR w1 (vals 8) xv := d8
     obtain ⟨sz, oz, nz, cz, az, mz, dz, ez⟩ := hn.shape
     rw [ez] at hn ⊢
     refine qaf (v := .slice (some ⟨w1.heap.size, 0, none⟩) 1 1) (w' := w1.alloc (.cells #[.bool sz, .slice oz nz cz, .slice az mz dz] 37)) (by go_simp) (qai ((Below.refl _ _).alloc (Nat.le_refl _) _) ⟨w1.heap.size, sz, oz, nz, cz, az, mz, dz, hb.size, rfl, heap_alloc_new _ _, hn.below ((Below.refl _ _).alloc (Nat.le_refl _) _)⟩ (fun h => by cases h))
   case tlSV =>
    intro vals w8 hb8 hf hdis
    simp only [List.drop_succ_cons, List.drop_zero]
    have z0 : vals 0 = _ := hf 0 (by decide); have z1 : vals 1 = _ := hf 1 (by decide); have z5 : vals 5 = _ := hf 5 (by decide)
    obtain ⟨gz, sz, oz, nz, cz, az, mz, dz, hgz, ev, hxz, hnz⟩ : KL1 W0.heap.size xv (vals 9) w8 := hf 9 (by decide)
    rw [z0, z1, z5, ev]
    clear z0 z1 z5 hf hdis ev
    have MT := qHd (MT.out.below hb8); have HB := qHd (qac HB.out (Nat.le_refl _) hb8)
    have EV := EVI
    have HF := qHd (show FrL w8 W.heap.size (.slice ro (k) rc) (k) (aug2 X bv k i) by have := MT.out.row i hik; rw [EVI.out] at this; simpa using this)
    obtain ⟨xs, hxs, hxat⟩ := HF.out
    have hlt8 := fun g (hg : (Value.slice ro (k) rc).ownBlock = some g) => (World.ownsRow.lt hxs.1 g hg).1
    clear hb8 CI IX GX
    go_wp2_with (with_reducible refine qbf ?_)
    refine qbo W.heap.size Tryz.ratTy rfl noU3 (by decide) _ (k) xs [.bool sz, .slice oz nz cz, .slice az mz dz] gz 37 rfl rfl hxs hxz rfl rfl noU3 hxs.noU (by omega) (by decide) HB.out.size ?_
    intro v' w9 ho9 hg9 hfr
    have hSt := stp_own hxs hg9
    have hFr := FrL.app hxs hxat hnz ho9 hSt
    obtain ⟨o9, c9, rfl, hc9, hc92, _⟩ := qbd ho9.1
    have HFR := qHd hFr; have HST := qHd hSt; have HFH := qHd hfr
    have n0 := MT.out.ne0 i hik go rfl
    rw [EVI.out] at n0
    obtain ⟨cs, hcs, hcz⟩ := (show ∃ cs, w9.heap[go]? = some (.cells cs 28) ∧ k ≤ cs.size from by
     obtain ⟨cs, h1, h2⟩ := MT.out.outCap
     exact ⟨cs, hSt.heap h1 (fun e => n0 e), h2⟩)
    have HB := qHd (hSt.low' HB.out HB.out.size hlt8)
    clear ho9 hg9 hfr hFr hSt hxz hnz hlt8 hxs hxat n0 HF
    go_wp2_with (with_reducible refine qaz 28 ?_)
    refine qcc go i hcs rfl rfl (by omega) (by kernel_rfl) ?_
    intro wz hpz
    obtain ⟨hM9, st9⟩ := MT.out.setRow hik (fun g e => by rw [EVI.out]; exact e) HST.out HFR.out (fun g hg q => HFH.out g hg (by rw [EVI.out] at q; exact q)) hpz
    have HB := qHd (st9.low HB.out HB.out.size lgo)
    have MT := qHd (show Mat wz W.heap.size (.slice (some ⟨go, 0, none⟩) k k) k (updV VO i (.slice o9 (k + 1) c9)) (fun a => if a < i + 1 then k + 1 else k) (aug2 X bv k) from by
     have e : updV (fun a => if a < i then k + 1 else k) i (k + 1) = fun a => if a < i + 1 then k + 1 else k := by
      funext a
      unfold updV
      by_cases q : a = i
      ·rw [if_pos q]; subst q; simp
      ·rw [if_neg q]; show (_ : Nat) = _; simp only []; (repeat' split) <;> omega
     rw [e] at hM9
     exact hM9.congr (fun a ha b hb => by
      by_cases q : a = i
      ·subst q; rw [if_pos rfl]; unfold updR
       by_cases e : b = k
       ·rw [if_pos e, e, HXV.out]; unfold aug2; rw [if_neg (Nat.lt_irrefl _)]
       ·rw [if_neg e]
      ·rw [if_neg q]))
    clear hM9 st9 hpz hcs hcz HST HFR HFH EVI EV
    go_wp2_with fail
    go_roundw
    case rel => exact ⟨i + 1, _, by omega, by go_num, MT, HB⟩
    case measure => simp [intOf]; omega
  ·have HI := qHd (show i = k by omega)
   have hiz : ¬ ((i : Int) < (k : Int)) := by omega
   have MT := qHd (show Mat wp W.heap.size (.slice (some ⟨go, 0, none⟩) k k) k VO (fun _ => k + 1) (aug2 X bv k) from
    ⟨MT.out.out, fun a ha => by have := MT.out.row a ha; simp only [if_pos (show a < i by rw [HI.out]; exact ha)] at this; exact this, MT.out.ne0, MT.out.inj⟩)
   have cA1 := HB.out.cell (p := ⟨ga, 0, none⟩) (World.block_lt_of_cell? _ _ CA0.out)
   rw [CA0.out] at cA1
   have HK := qHd (reduce_any go k k W.heap.size VO (aug2 X bv k) wp MT.out hk0 hk ⟨Nat.le_refl _, by omega⟩ HB.out.size SZ.out NS.out)
   go_wp2_with (with_reducible refine qag ?_)
   clear cA1
   refine qal.mk ?_
   (with_reducible refine HK.out.mono ?_); rintro e w4 ⟨pv, V2, N, B3, rfl, hb4, hM4, hu4, hk4, hs4, hp4⟩
   obtain ⟨po, pc, rfl, hpc, hpc2, _⟩ := qbd hp4.1
   have cp := ownI_cell (l := List.range k) (g := go) (i := k - 1) (n := k) (c := pc) (w := w4) (B := B3)
   obtain ⟨gpv, rfl, _, _, _, _, hpcell⟩ := qbi hp4.1 rfl hk0
   have cl := hpcell (k - 1) _ (ivals_at (nints_at (l := List.range k) (j := k - 1) (by simp; omega)))
   have egd : gd (List.range k) (k - 1) = k - 1 := by
    rw [gd_lt _ _ (by simp; omega)]; simp
   rw [egd] at cl
   have hkm : ((k : Int) - 1) = ((k - 1 : Nat) : Int) := by omega
   have hw1 := wrapN (x := k - 1) (by omega)
   have hneq : ((((k - 1 : Nat) : Int)) == (k : Int)) = false := by rw [beq_eq_false_iff_ne]; omega
   have hk0z : (0 : Int) < (k : Int) := by omega
   have hk1z : (((k - 1 : Nat)) : Int) < (k : Int) := by omega
   have hwr : IntKind.wrap .i64 ((k : Int) - 1) = ((k - 1 : Nat) : Int) := by rw [hkm]; exact hw1
   have M4 := qHd hM4; have U4 := qHd hu4; have K4 := qHd hk4; have S4 := qHd hs4
   have HB := qHd (HB.out.trans hb4)
   clear cp hpcell egd hM4 hu4 hk4 hs4 hp4 hb4 HK hkm hw1
   go_wp2_with (with_reducible refine qaw ?_)
   clear cl hneq hk1z hwr
   refine qbj Tryz.ratTy k rfl rfl (by omega) (by decide) (by decide) ?_
   intro w5 hw5 ho5
   have hb5 : Below w4.heap.size w4 w5 := by rw [hw5]; exact qBA _ _
   have hF := madeF ho5 hw5
   obtain ⟨gs, hgs⟩ : ∃ g, g = w4.heap.size := ⟨_, rfl⟩
   have lgs : W.heap.size ≤ gs := by rw [hgs]; exact HB.out.size
   have HGS := qHd hgs
   rw [← hgs] at hF ⊢
   have HF := qHd (show FrL w5 W.heap.size (.slice (some ⟨gs, 0, none⟩) k k) k (mix 0 (fun _ => 0) (fun i => N i k)) from (hF.base lgs).congr (fun j _ => (if_neg (by omega)).symm))
   have LR := qHd (show ∀ i, i < k → ∀ g, (V2 i).ownBlock = some g → g < gs from fun i hi g hg => by rw [HGS.out]; exact ((M4.out.row i hi).lt hg).2)
   have hgos : go < gs := by rw [hgs]; exact (M4.out.lt (g := go) rfl).2
   have M4 := qHd (M4.out.below hb5); have HB := qHd (qac HB.out (Nat.le_refl _) hb5)
   clear hF hb5 ho5 hw5 hgs HGS
   go_wp2_with (with_reducible first | refine qah ?_ | refine qae ?_)
   refine qal.mk ?_
   go_loopw [80] (fun i' wx => ∃ (t : Nat), t ≤ k ∧ i' = .int .i64 t ∧ Hid (FrL wx W.heap.size (.slice (some ⟨gs, 0, none⟩) k k) k (mix t (fun _ => 0) (fun i => N i k))) ∧ Hid (Mat wx W.heap.size (.slice (some ⟨go, 0, none⟩) k k) k V2 (fun _ => k + 1) N) ∧ Hid (Below W.heap.size W wx)) (fun i' _ => k - (intOf i').toNat)
   case atStart => exact ⟨0, Nat.zero_le _, rfl, HF, M4, HB⟩
   case round =>
    obtain ⟨t, ht, rfl, HF, M4, HB⟩ := hrel
    obtain ⟨wq, rfl⟩ : ∃ wq : World, wq = wr := ⟨_, rfl⟩
    by_cases htk : t < k
    ·have htz : (t : Int) < (k : Int) := by omega
     have hk1 : (k : Int) < (k : Int) + 1 := by omega
     obtain ⟨gt, ct, eVt, hct, hct2, _, _, cT, hFt⟩ := M4.out.get (i := t) htk (by omega)
     obtain ⟨sx, ox, nx, cx, ax, mx, dx, x0, x1, x2, hIx⟩ := hFt.at (j := k) (by omega)
     have HNX := qHd (mix_next t (fun _ => 0) (fun i => N i k))
     have IX := qHd hIx
     clear hIx hFt eVt
     obtain ⟨cs, hcs, hsz⟩ := qbe HF.out
     go_wp2_with (with_reducible refine qan ?_)
     clear cT x0 x1 x2
     refine qba gs (t * 3) [.bool sx, .slice ox nx cx, .slice ax mx dx] hcs rfl rfl (by simp only [List.length_cons, List.length_nil]; omega) (by kernel_rfl) rfl ?_
     intro wz hpz
     obtain ⟨hX, hSt⟩ := HF.out.put htk IX.out hpz
     have HF := qHd (show FrL wz W.heap.size (.slice (some ⟨gs, 0, none⟩) k k) k (mix (t + 1) (fun _ => 0) (fun i => N i k)) by rw [← HNX.out]; exact hX)
     have M4 := qHd (M4.out.stp hSt (fun g hg e => by have h1 : go = g := Option.some.inj hg; have h2 : gs = g := Option.some.inj e; omega) (fun i hi g hg e => by have h1 := LR.out i hi g hg; have h2 : gs = g := Option.some.inj e; omega))
     have HB := qHd (hSt.low HB.out HB.out.size lgs)
     clear hX hSt hpz hcs hsz IX
     go_wp2_with fail
     go_roundw
     case rel => exact ⟨t + 1, by omega, by go_num, HF, M4, HB⟩
     case measure => simp [intOf]; omega
    ·have HT := qHd (show t = k by omega)
     have htz : ¬ ((t : Int) < (k : Int)) := by omega
     go_wp2_with fail
     go_ret2
     refine ⟨fun i => N i k, ⟨_, rfl, HB.out, HF.out.congr (fun j hj => if_pos (by rw [HT.out]; exact hj))⟩, fun i hi => ?_, fun i hi => S4.out.rl (bk_len (by omega)) hi (by omega)⟩
     have h1 := solved (M := aug2 X bv k) U4.out K4.out i hi
     have e1 : aug2 X bv k i k = bv i := by unfold aug2; rw [if_neg (Nat.lt_irrefl _)]
     rw [e1] at h1
     rw [← h1]
     exact qbw k (fun j hj => by unfold aug2; rw [if_pos hj])
def RetSolve (w : World) (n s0 : Nat) (ms : List Mv) (dn : List Bool) (e : Ending) (w' : World) : Prop :=
 (e = .returned (.tuple #[.slice none 0 0, .slice none 0 0, errV 17]) ∧ Below w.heap.size w w' ∧ ¬ ∀ i, qcf ms (dnf dn) s0 i → Ends ms (dnf dn) i) ∨
 (∃ lv tv T, e = .returned (.tuple #[lv, tv, .nilIface]) ∧ Below w.heap.size w w' ∧ FrL w' w.heap.size tv n T ∧ IsT ms (dnf dn) s0 T ∧ (∀ i, rl (T i) ≤ 9640) ∧ ∀ i, qcf ms (dnf dn) s0 i → Ends ms (dnf dn) i)
def RetTimes (w : World) (n s0 : Nat) (ms : List Mv) (dn : List Bool) (e : Ending) (w' : World) : Prop :=
 (e = .returned (.tuple #[.slice none 0 0, errV 17]) ∧ Below w.heap.size w w' ∧ ¬ ∀ i, qcf ms (dnf dn) s0 i → Ends ms (dnf dn) i) ∨
 (∃ tv T, e = .returned (.tuple #[tv, .nilIface]) ∧ Below w.heap.size w w' ∧ FrL w' w.heap.size tv n T ∧ IsT ms (dnf dn) s0 T ∧ (∀ i, rl (T i) ≤ 9640) ∧ ∀ i, qcf ms (dnf dn) s0 i → Ends ms (dnf dn) i)
def outF (l : List Bool) (pp : List Nat) (sol : Nat → Rat) (t : Nat) : Nat → Rat := fun s => if dnf l s = true ∧ gd pp s < t then sol (gd pp s) else 0
theorem outF_next {l : List Bool} {ss pp : List Nat} {sol : Nat → Rat} {k t : Nat} (hp : Places (dnf l) (gd pp) (gd ss) k) (ht : t < k) : updR (outF l pp sol t) (gd ss t) (sol t) = outF l pp sol (t + 1) := by
 funext s
 obtain ⟨h1, h2⟩ := hp.sts t ht
 unfold updR outF
 by_cases e : s = gd ss t
 ·subst e
  rw [if_pos rfl, h2, if_pos ⟨h1, by omega⟩]
 ·rw [if_neg e]
  by_cases hd : dnf l s = true
  ·have hne : gd pp s ≠ t := fun q => e (by rw [← q]; exact (hp.pls s hd).2.symm)
   by_cases h3 : gd pp s < t
   ·rw [if_pos ⟨hd, h3⟩, if_pos ⟨hd, by omega⟩]
   ·rw [if_neg (fun q => h3 q.2), if_neg (fun q => by omega)]
  ·rw [if_neg (fun q => hd q.1), if_neg (fun q => hd q.1)]
theorem outF_all {l : List Bool} {ss pp : List Nat} {sol : Nat → Rat} {k : Nat} (hp : Places (dnf l) (gd pp) (gd ss) k) : outF l pp sol k = liftT (dnf l) (gd pp) sol := by
 funext s
 unfold outF liftT
 by_cases hd : dnf l s = true
 ·rw [if_pos ⟨hd, (hp.pls s hd).1⟩, if_pos hd]
 ·rw [if_neg (fun q => hd q.1), if_neg hd]
theorem asolve_any (vc : Value) (n s0 : Nat) (ms : List Mv) (dn : List Bool) (w : World) (hc : ChI w vc n s0 ms dn) (hg : GCh n s0 ms dn) :
  Calls Tryz.prog 19 #[vc, .bool false] w (RetSolve w n s0 ms dn) := by
 have HC := qHd hc
 obtain ⟨mo, mc, bo, bc, rfl, hM, hB, hmc, hbc⟩ := hc
 have HG := qHd hg
 have hn10 := hg.n10
 have hn0 := hg.n0
 have hl60 := hg.sm.len
 have HDL := qHd hg.dl
 clear hg
 clear hM hB
 obtain ⟨W, hW⟩ : ∃ z0, z0 = w.alloc (.cells #[.int .i64 n, .int .i64 s0, .slice mo ms.length mc, .slice bo dn.length bc] 25) := ⟨_, rfl⟩
 have b_W : Below w.heap.size w W := by rw [hW]; exact qBA _ _
 have s_W : W.heap.size = w.heap.size + 1 := by rw [hW]; exact Array.size_push (xs := w.heap) _
 have hg_gc : W.heap[w.heap.size]? = some (.cells #[.int .i64 n, .int .i64 s0, .slice mo ms.length mc, .slice bo dn.length bc] 25) := (by rw [hW]; exact heap_alloc_new w _)
 have HBW := qHd (show Below w.heap.size w W from b_W)
 obtain ⟨gc, hgc⟩ : ∃ g, g = w.heap.size := ⟨_, rfl⟩
 rw [← hgc] at hg_gc
 have l_gc : w.heap.size ≤ gc ∧ gc < W.heap.size := by rw [s_W]; omega
 have G_gc := qHd hg_gc
 obtain ⟨gcx0, gcx1, gcx2, gcx3⟩ := qbn hg_gc
 rw [hW, hgc] at gcx0 gcx1 gcx2 gcx3
 clear hg_gc b_W s_W
 have HC := qHd (HC.out.below HBW.out)
 have HK := qHd (live_any _ n s0 ms dn W HC.out HG.out)
 go_enter Tryz.func19, Tryz.ntmps19
 go_wp2_with (with_reducible refine qag ?_)
 rw [← hW, ← hgc]
 clear hW hgc
 clear gcx0 gcx1 gcx2 gcx3
 refine qal.mk ?_
 (with_reducible refine HK.out.mono ?_); rintro e w1 (⟨rfl, hb1, hno⟩ | ⟨lv, l, rfl, hb1, hll, hO, hL, hR⟩)
 ·have HB := qHd hb1; have HNO := qHd hno
  clear hb1 hno HK
  rw [errV_pos (by decide)]
  go_wp2_with fail
  go_ret3
  exact Or.inl ⟨by rw [errV_pos (by decide)]; rfl, HBW.out.trans (HB.out.mono HBW.out.size), HNO.out⟩
 ·have HB := qHd hb1; have HLL := qHd hll; have HL := qHd hL; have HR := qHd hR
  have LV := qHd (own_blsV (show qbm w1 _ 4 1 lv l.length (bls l) by rw [hll]; exact hO))
  clear hb1 hll hO hL hR HK
  obtain ⟨gcx0, gcx1, gcx2, gcx3⟩ := qbn (qab G_gc.out HB.out)
  go_wp2_with (with_reducible refine qaw ?_)
  clear gcx0 gcx1 gcx2 gcx3
  refine qbj Tryz.ratTy n rfl rfl (by omega) (by decide) (by decide) ?_
  intro w2 hw2 ho2
  have hb2 : Below w1.heap.size w1 w2 := by rw [hw2]; exact qBA _ _
  have hF := madeF ho2 hw2
  obtain ⟨go, hgo⟩ : ∃ g, g = w1.heap.size := ⟨_, rfl⟩
  have lgo : W.heap.size ≤ go := by rw [hgo]; exact HB.out.size
  rw [← hgo] at hF ⊢
  have HF := qHd (hF.base lgo); have LV := qHd (LV.out.below hb2); have HB := qHd (qac HB.out (Nat.le_refl _) hb2)
  clear hF hb2 ho2 hw2 hgo
  obtain ⟨gcx0, gcx1, gcx2, gcx3⟩ := qbn (qab G_gc.out HB.out)
  have HK := qHd (system_any _ _ n s0 ms dn l w2 (HC.out.below HB.out) HG.out LV.out HLL.out)
  go_wp2_with (with_reducible refine qag ?_)
  clear gcx0 gcx1 gcx2 gcx3
  refine qal.mk ?_
  (with_reducible refine HK.out.mono ?_); rintro e w3 ⟨sv, ga, VV, ss, pp, rfl, hb3, hkn, hS3, hM3, hP3, hss⟩
  obtain ⟨so, sc, rfl, hsc, hsc2, _⟩ := qbd hS3.1
  have hgo3 := (HF.out.lt (g := go) rfl).2
  obtain ⟨k, hk⟩ : ∃ k, k = ss.length := ⟨_, rfl⟩
  rw [← hk] at hkn hS3 hM3 hP3 hss hsc ⊢
  have MA := qHd hM3; have SS := qHd hS3; have HP := qHd hP3; have HSS := qHd hss; have HKL := qHd hk
  have HF := qHd (HF.out.below hb3); have HB := qHd (qac HB.out (Nat.le_refl _) hb3)
  clear hS3 hM3 hP3 hss hk hb3 HK
  by_cases hk0 : k = 0
  ·subst hk0
   have HT := qHd (show IsT ms (dnf dn) s0 (fun _ => 0) from ⟨fun _ _ => rfl, fun i hi => by
    have := (HP.out.pls i ((HL.out i).2 hi)).1
    omega⟩)
   go_wp2_with fail
   go_ret3
   exact Or.inr ⟨_, _, fun _ => 0, rfl, HBW.out.trans (HB.out.mono HBW.out.size), HF.out.base HBW.out.size, HT.out, fun _ => by rw [rl_zero]; decide, HR.out⟩
  ·have hkp : 0 < k := by omega
   have hkz : ((k : Int) == 0) = false := by rw [beq_eq_false_iff_ne]; omega
   go_wp2_with (with_reducible refine qaw ?_)
   refine qbj Tryz.ratTy k rfl rfl (by omega) (by decide) (by decide) ?_
   intro w4 hw4 ho4
   have hb4 : Below w3.heap.size w3 w4 := by rw [hw4]; exact qBA _ _
   have hF4 := madeF ho4 hw4
   obtain ⟨gb, hgb⟩ : ∃ g, g = w3.heap.size := ⟨_, rfl⟩
   have lgb : W.heap.size ≤ gb := by rw [hgb]; exact HB.out.size
   have nob : go ≠ gb := by have := (HF.out.lt (g := go) rfl).2; omega
   have NSB := qHd (show ∀ z, (Value.slice so k sc).ownBlock = some z → z ≠ gb from fun z hz => by have := (World.ownsRow.lt SS.out.1 z hz).2; omega)
   have NAB := qHd (show ga ≠ gb by have := (MA.out.lt (g := ga) rfl).2; omega)
   have NRB := qHd (show ∀ i, i < k → ∀ z, (VV i).ownBlock = some z → z ≠ gb from fun i hi z hz => by have := ((MA.out.row i hi).lt hz).2; omega)
   rw [← hgb] at hF4 ⊢
   have FB := qHd (show FrL w4 W.heap.size (.slice (some ⟨gb, 0, none⟩) k k) k (mix 0 (fun _ => 0) (fun _ => 1)) from (hF4.base lgb).congr (fun j _ => (if_neg (by omega)).symm))
   have HF := qHd (HF.out.below hb4); have MA := qHd (MA.out.below hb4); have SS := qHd (qaq SS.out hb4); have HB := qHd (qac HB.out (Nat.le_refl _) hb4)
   clear hF4 hb4 ho4 hw4 hgb
   obtain ⟨gsv, rfl, _, _, _, _, _⟩ := qbi SS.out.1 rfl hkp
   go_wp2_with (with_reducible first | refine qah ?_ | refine qae ?_)
   refine qal.mk ?_
   go_loopw [46] (fun i' wx => ∃ (t : Nat), t ≤ k ∧ i' = .int .i64 t ∧ Hid (FrL wx W.heap.size (.slice (some ⟨gb, 0, none⟩) k k) k (mix t (fun _ => 0) (fun _ => 1))) ∧ Hid (FrL wx W.heap.size (.slice (some ⟨go, 0, none⟩) n n) n (fun _ => 0)) ∧ Hid (Mat wx w2.heap.size (.slice (some ⟨ga, 0, none⟩) k k) k VV (fun _ => k) (sysM (dnf l) (gd pp) ms (fun _ _ => 0))) ∧ Hid (qbm wx w2.heap.size 3 1 (.slice (some ⟨gsv, 0, none⟩) k sc) k (qco (qcs ss))) ∧ Hid (Below W.heap.size W wx)) (fun i' _ => k - (intOf i').toNat)
   case atStart => exact ⟨0, Nat.zero_le _, rfl, FB, HF, MA, SS, HB⟩
   case round =>
    obtain ⟨t, ht, rfl, FB, HF, MA, SS, HB⟩ := hrel
    obtain ⟨wo, rfl⟩ : ∃ wo : World, wo = wr := ⟨_, rfl⟩
    by_cases htk : t < k
    ·have htz : (t : Int) < (k : Int) := by omega
     have cs1 := ownI_cell SS.out HKL.out.symm htk
     have hs := ofq_any 1 wo (by decide) (by decide)
     rw [show (((1 : Int) : Rat)) = 1 from rfl] at hs
     have HK := qHd hs; clear hs
     go_wp2_with (with_reducible refine qag ?_)
     clear cs1
     refine qal.mk ?_
     (with_reducible refine HK.out.mono ?_); rintro e w5 ⟨v5, rfl, hb5, hn5⟩
     obtain ⟨sz, oz, nz, cz, az, mz, dz, rfl⟩ := hn5.shape
     have FB := qHd (FB.out.below hb5); have HF := qHd (HF.out.below hb5); have MA := qHd (MA.out.below hb5); have SS := qHd (qaq SS.out hb5); have HB := qHd (qac HB.out (Nat.le_refl _) hb5)
     have IZ := qHd hn5
     clear hb5 hn5 HK
     obtain ⟨cs, hcs, hsz⟩ := qbe FB.out
     go_wp2_with (with_reducible refine qan ?_)
     refine qba gb (t * 3) [.bool sz, .slice oz nz cz, .slice az mz dz] hcs rfl rfl (by simp only [List.length_cons, List.length_nil]; omega) (by kernel_rfl) rfl ?_
     intro wz hpz
     obtain ⟨hX, hSt⟩ := FB.out.put htk IZ.out hpz
     have FB := qHd (show FrL wz W.heap.size (.slice (some ⟨gb, 0, none⟩) k k) k (mix (t + 1) (fun _ => 0) (fun _ => 1)) by rw [← mix_next t (fun _ => 0) (fun _ => 1)]; exact hX)
     have HF := qHd (HF.out.stp hSt (fun g hg e => by have h1 : go = g := Option.some.inj hg; have h2 : gb = g := Option.some.inj e; omega))
     have MA := qHd (MA.out.stp hSt (fun g hg e => by have h1 : ga = g := Option.some.inj hg; have h2 : gb = g := Option.some.inj e; have h3 := NAB.out; omega) (fun i hi g hg e => by have h1 := NRB.out i hi g hg; have h2 : gb = g := Option.some.inj e; omega))
     have SS := qHd (SS.out.kept hSt.gr (fun g hg e => by have h1 := NSB.out g hg; have h2 : gb = g := Option.some.inj e; omega))
     have HB := qHd (hSt.low HB.out HB.out.size lgb)
     clear hX hSt hpz hcs hsz IZ
     go_wp2_with fail
     go_roundw
     case rel => exact ⟨t + 1, by omega, by go_num, FB, HF, MA, SS, HB⟩
     case measure => simp [intOf]; omega
    ·have HT := qHd (show t = k by omega)
     have htz : ¬ ((t : Int) < (k : Int)) := by omega
     have FB := qHd (FB.out.congr (y := fun _ => 1) (fun j hj => if_pos (by rw [HT.out]; exact hj)))
     have HKS := qHd (show Places (dnf l) (gd pp) (gd ss) k from HP.out)
     have HK := qHd (lsolve_any ga k gb k k w2.heap.size W.heap.size VV (sysM (dnf l) (gd pp) ms (fun _ _ => 0)) (fun _ => 1) wo MA.out FB.out hkp (by omega) ⟨Nat.le_refl _, by omega⟩ ⟨Nat.le_refl _, by omega⟩
      (fun i _ j _ => Nat.le_trans (by have := sys_rl HG.out.sm (dnf l) (gd pp) ms.length i j; rwa [List.take_length] at this) (by decide : 9 ≤ 100000))
      (fun i _ => by rw [rl_one]; decide) (aug_sz HG.out.sm (dnf l) (gd pp) k) (sys_nonsing HG.out.ok HR.out HL.out HP.out))
     go_wp2_with (with_reducible refine qag ?_)
     refine qal.mk ?_
     (with_reducible refine HK.out.mono ?_); rintro e w6 ⟨sol, ⟨v6, rfl, hb6, hF6⟩, hsol, hrl⟩
     obtain ⟨gx, cx, rfl, hcx, hcx2, _, hgx⟩ := hF6.addr hkp
     have FX := qHd hF6; have HSOL := qHd hsol; have HRL := qHd hrl
     have nxo : gx ≠ go := by
      have h1 := (hF6.lt (g := gx) rfl).1
      have h2 := (HF.out.lt (g := go) rfl).2
      omega
     have HF := qHd (show FrL w6 W.heap.size (.slice (some ⟨go, 0, none⟩) n n) n (outF l pp sol 0) from (HF.out.below hb6).congr (fun j _ => by unfold outF; rw [if_neg (fun q => by omega)])); have SS := qHd (qaq SS.out hb6); have HB := qHd (qac HB.out (Nat.le_refl _) hb6)
     have NSO := qHd (show gsv ≠ go by have h1 := (World.ownsRow.lt SS.out.1 gsv rfl).1; omega)
     clear hb6 hF6 hsol hrl HK FB MA
     go_wp2_with (with_reducible first | refine qah ?_ | refine qae ?_)
     refine qal.mk ?_
     go_loopw [75] (fun i' wx => ∃ (t : Nat), t ≤ k ∧ i' = .int .i64 t ∧ Hid (FrL wx W.heap.size (.slice (some ⟨go, 0, none⟩) n n) n (outF l pp sol t)) ∧ Hid (FrL wx wo.heap.size (.slice (some ⟨gx, 0, none⟩) k cx) k sol) ∧ Hid (qbm wx w2.heap.size 3 1 (.slice (some ⟨gsv, 0, none⟩) k sc) k (qco (qcs ss))) ∧ Hid (Below W.heap.size W wx)) (fun i' _ => k - (intOf i').toNat)
     case atStart => exact ⟨0, Nat.zero_le _, rfl, HF, FX, SS, HB⟩
     case round =>
      obtain ⟨t, ht, rfl, HF, FX, SS, HB⟩ := hrel
      obtain ⟨wq, rfl⟩ : ∃ wq : World, wq = wr := ⟨_, rfl⟩
      by_cases htk : t < k
      ·have htz : (t : Int) < (k : Int) := by omega
       have cs1 := ownI_cell SS.out HKL.out.symm htk
       have hsn := HSS.out t htk
       have HNX := qHd (outF_next (sol := sol) HP.out htk)
       obtain ⟨s1, hs1⟩ : ∃ s, s = gd ss t := ⟨_, rfl⟩
       rw [← hs1] at cs1 hsn HNX
       have hsz1 : (s1 : Int) < (n : Int) := by omega
       obtain ⟨sx, ox, nx, cx', ax, mx, dx, x0, x1, x2, hIx⟩ := FX.out.at htk
       have IX := qHd hIx
       clear hIx hs1
       obtain ⟨cs, hcs, hsz⟩ := qbe HF.out
       go_wp2_with (with_reducible refine qan ?_)
       clear cs1 x0 x1 x2
       refine qba go (s1 * 3) [.bool sx, .slice ox nx cx', .slice ax mx dx] hcs rfl rfl (by simp only [List.length_cons, List.length_nil]; omega) (by kernel_rfl) rfl ?_
       intro wz hpz
       obtain ⟨hX, hSt⟩ := HF.out.put hsn IX.out hpz
       have HF := qHd (show FrL wz W.heap.size (.slice (some ⟨go, 0, none⟩) n n) n (outF l pp sol (t + 1)) by rw [← HNX.out]; exact hX)
       have FX := qHd (FX.out.stp hSt (fun g hg e => by have h1 : gx = g := Option.some.inj hg; have h2 : go = g := Option.some.inj e; omega))
       have SS := qHd (SS.out.kept hSt.gr (fun g hg e => by have h1 : gsv = g := Option.some.inj hg; have h2 : go = g := Option.some.inj e; exact NSO.out (by omega)))
       have HB := qHd (hSt.low HB.out HB.out.size lgo)
       clear hX hSt hpz hcs hsz IX
       go_wp2_with fail
       go_roundw
       case rel => exact ⟨t + 1, by omega, by go_num, HF, FX, SS, HB⟩
       case measure => simp [intOf]; omega
      ·have HT2 := qHd (show t = k by omega)
       have htz2 : ¬ ((t : Int) < (k : Int)) := by omega
       have hF := HF.out
       rw [HT2.out, outF_all HP.out] at hF
       have HF := qHd hF; clear hF
       go_wp2_with fail
       go_ret3
       refine Or.inr ⟨_, _, liftT (dnf l) (gd pp) sol, rfl, HBW.out.trans (HB.out.mono HBW.out.size), HF.out.base HBW.out.size, sys_times HL.out HP.out HSOL.out, fun i => ?_, HR.out⟩
       unfold liftT
       split
       ·rename_i hi; exact HRL.out _ (HP.out.pls i hi).1
       ·rw [rl_zero]; decide
theorem times_any (vc : Value) (n s0 : Nat) (ms : List Mv) (dn : List Bool) (w : World) (hc : ChI w vc n s0 ms dn) (hg : GCh n s0 ms dn) :
  Calls Tryz.prog 6 #[vc] w (RetTimes w n s0 ms dn) := by
 have HC := qHd hc
 obtain ⟨mo, mc, bo, bc, rfl, hM, hB, hmc, hbc⟩ := hc
 have HG := qHd hg
 have hn10 := hg.n10
 have hn0 := hg.n0
 have hl60 := hg.sm.len
 have HDL := qHd hg.dl
 clear hg
 clear hM hB
 obtain ⟨W, hW⟩ : ∃ z0, z0 = w.alloc (.cells #[.int .i64 n, .int .i64 s0, .slice mo ms.length mc, .slice bo dn.length bc] 25) := ⟨_, rfl⟩
 have b_W : Below w.heap.size w W := by rw [hW]; exact qBA _ _
 have s_W : W.heap.size = w.heap.size + 1 := by rw [hW]; exact Array.size_push (xs := w.heap) _
 have hg_gc : W.heap[w.heap.size]? = some (.cells #[.int .i64 n, .int .i64 s0, .slice mo ms.length mc, .slice bo dn.length bc] 25) := (by rw [hW]; exact heap_alloc_new w _)
 have HBW := qHd (show Below w.heap.size w W from b_W)
 obtain ⟨gc, hgc⟩ : ∃ g, g = w.heap.size := ⟨_, rfl⟩
 rw [← hgc] at hg_gc
 have l_gc : w.heap.size ≤ gc ∧ gc < W.heap.size := by rw [s_W]; omega
 have G_gc := qHd hg_gc
 obtain ⟨gcx0, gcx1, gcx2, gcx3⟩ := qbn hg_gc
 rw [hW, hgc] at gcx0 gcx1 gcx2 gcx3
 clear hg_gc b_W s_W
 have HC := qHd (HC.out.below HBW.out)
 have HK := qHd (asolve_any _ n s0 ms dn W HC.out HG.out)
 go_enter Tryz.func6, Tryz.ntmps6
 go_wp2_with (with_reducible refine qag ?_)
 rw [← hW, ← hgc]
 clear hW hgc
 clear gcx0 gcx1 gcx2 gcx3
 refine qal.mk ?_
 (with_reducible refine HK.out.mono ?_); rintro e w1 (⟨rfl, hb1, hno⟩ | ⟨lv, tv, T, rfl, hb1, hF, hT, hrl, hR⟩)
 ·have HB := qHd hb1; have HNO := qHd hno
  clear hb1 hno HK
  rw [errV_pos (by decide)]
  go_wp2_with fail
  go_ret2
  exact Or.inl ⟨by rw [errV_pos (by decide)]; rfl, HBW.out.trans (HB.out.mono HBW.out.size), HNO.out⟩
 ·have HB := qHd hb1; have HF := qHd hF; have HT := qHd hT; have HRL := qHd hrl; have HR := qHd hR
  clear hb1 hF hT hrl hR HK
  go_wp2_with fail
  go_ret2
  exact Or.inr ⟨_, T, rfl, HBW.out.trans (HB.out.mono HBW.out.size), HF.out.base HBW.out.size, HT.out, HRL.out, HR.out⟩
def RetTwo (w : World) (n : Nat) (e : Ending) (w' : World) : Prop := ∃ v l, e = .returned v ∧ Below w.heap.size w w' ∧ Num w' v l ∧ val l = n ∧ l.length = 2
theorem two_words (n : Nat) : val [n % 4294967296, n / 4294967296] = n := by
 simp only [val]; omega
theorem rsize_any (n : Int) (w : World) (h0 : -9223372036854775808 ≤ n) (h1 : n < 9223372036854775808) :
  Calls Tryz.prog 80 #[.int .i64 n] w (RetTwo w n.natAbs) := by
 obtain ⟨m, hm⟩ : ∃ m, m = n.natAbs := ⟨_, rfl⟩
 rw [← hm]
 have hmb : m ≤ 9223372036854775808 := by omega
 have hlo := num_lit w 49 #[.int .u32 ((m % 4294967296 : Nat) : Int), .int .u32 ((m / 4294967296 : Nat) : Int)] [m % 4294967296, m / 4294967296] 2 (U32.cons (by omega) (U32.cons (by omega) U32.nil)) rfl (by simp) rfl
 have HLO := qHd hlo
 have e0 : ((m % 4294967296 : Nat) : Int) = (m : Int) % 4294967296 := by omega
 have e1 : ((m / 4294967296 : Nat) : Int) = (m : Int) / 4294967296 := by omega
 rw [e0, e1] at HLO
 by_cases h : n < 0
 ·have hn : n = -(m : Int) := by omega
  subst hn
  have f1 : decide (-(m : Int) < 0) = true := decide_eq_true h
  have f2 : decide (0 < m) = true := decide_eq_true (by omega)
  have hwr : IntKind.u64.wrap (-IntKind.u64.wrap (-(m : Int))) = (m : Int) := by
   have e : ∀ n : Int, IntKind.u64.wrap n = n % 18446744073709551616 := fun n => rfl
   rw [e, e]; omega
  clear hm hlo e0 e1
  go_enter Tryz.func80, Tryz.ntmps80
  go_wp2_with fail
  go_ret
  exact ⟨_, _, rfl, (Below.refl _ _).alloc (Nat.le_refl _) _, HLO.out, two_words m, rfl⟩
 ·have hn : n = (m : Int) := by omega
  subst hn
  have f1 : decide ((m : Int) < 0) = false := decide_eq_false h
  clear hm hlo e0 e1
  go_enter Tryz.func80, Tryz.ntmps80
  go_wp2_with fail
  go_ret
  exact ⟨_, _, rfl, (Below.refl _ _).alloc (Nat.le_refl _) _, HLO.out, two_words m, rfl⟩
theorem rmake_any (n : Int) (d : Int) (w : World)  (h0 : -9223372036854775808 ≤ n) (h1 : n < 9223372036854775808) (g0 : -9223372036854775808 ≤ d) (g1 : d < 9223372036854775808) :
  Calls Tryz.prog 57 #[.int .i64 n, .int .i64 d] w (RetRE w ((n : Rat) / (d : Rat)) (.int .i64 (zc d.natAbs : Nat))) := by
 have hb0 := ((Below.refl w.heap.size w).alloc (by first | (simp; done) | (simp; omega)) (.cells #[.bool false, .slice none 0 0, .slice none 0 0] 37))
 have hxR := nest1_0 w (.cells #[.bool false, .slice none 0 0, .slice none 0 0] 37)
 obtain ⟨w0, hw0⟩ : ∃ w0, w0 = (w.alloc (.cells #[.bool false, .slice none 0 0, .slice none 0 0] 37)) := ⟨_, rfl⟩
 rw [← hw0] at hb0 hxR
 have HB0 := qHd hb0; have HW0 := qHd hw0
 have BXR := qHd hxR
 clear hb0 hw0 hxR
 have BD := qHd (And.intro h0 h1); have BG := qHd (And.intro g0 g1)
 obtain ⟨z, hz⟩ : ∃ z, z = zc d.natAbs := ⟨_, rfl⟩
 rw [← hz]
 have HZ := qHd hz; clear hz
 go_enter Tryz.func57, Tryz.ntmps57
 have hs := rsize_any n w0 BD.out.1 BD.out.2
 have HS := qHd hs; clear hs
 go_wp2_with fail
 rw [← HW0.out]
 (with_reducible refine HS.out.mono ?_); rintro e w1 ⟨v1, l1, rfl, hb1, hn1, hv1, hl1⟩
 clear HS
 have HB1 := qHd (HB0.out.step hb1)
 have BXR := qHd (qab BXR.out hb1)
 have N := qHd hn1; have VN := qHd hv1; have LN := qHd hl1; clear hn1 hb1 hv1 hl1
 have hs := rsize_any d w1 BG.out.1 BG.out.2
 have HS := qHd hs; clear hs
 go_wp2_with fail
 (with_reducible refine HS.out.mono ?_); rintro e w2 ⟨v2, l2, rfl, hb2, hn2, hv2, hl2⟩
 clear HS
 have HB2 := qHd (HB1.out.step hb2)
 have N := qHd (N.out.below hb2)
 have BXR := qHd (qab BXR.out hb2)
 have D := qHd hn2; have VD := qHd hv2; have LD := qHd hl2; clear hn2 hb2 hv2 hl2
 have hs := rfrom_any (!(decide (n < 0) == decide (d < 0))) _ _ _ _ w2 N.out D.out (by rw [LN.out]; decide) (by rw [LD.out]; decide)
 rw [VN.out, VD.out, q_ints, ← HZ.out] at hs
 have HS := qHd hs; clear hs
 go_wp2_with fail
 (with_reducible refine HS.out.mono ?_); rintro e w3 ⟨v3, rfl, hb3, hn3⟩
 clear HS
 have HB3 := qHd (HB2.out.step hb3)
 have N := qHd (N.out.below hb3)
 have D := qHd (D.out.below hb3)
 have BXR := qHd (qab BXR.out hb3)
 have Q := qHd hn3; clear hn3
 clear hb3
 obtain ⟨sQ, oQ, nQ, cQ, aQ, mQ, dQ, rfl⟩ := Q.out.shape
 obtain ⟨eR0, eR1, eR2⟩ := row3 BXR.out
 obtain ⟨fR0, fR1, fR2⟩ := froz3 BXR.out
 go_wp2_with fail
 refine ret_rat2 rfl w.heap.size _ _ _ rfl (qce BXR.out) rfl ?_
 exact ⟨_, rfl, qbx HB3.out (by omega) _ _ _, isR_put Q.out BXR.out⟩
theorem rofq_any (n : Int) (w : World)  (h0 : -9223372036854775808 ≤ n) (h1 : n < 9223372036854775808) :
  Calls Tryz.prog 36 #[.int .i64 n] w (RetR w (n : Rat)) := by
 have hb0 := ((Below.refl w.heap.size w).alloc (by first | (simp; done) | (simp; omega)) (.cells #[.bool false, .slice none 0 0, .slice none 0 0] 37))
 have hxR := nest1_0 w (.cells #[.bool false, .slice none 0 0, .slice none 0 0] 37)
 obtain ⟨w0, hw0⟩ : ∃ w0, w0 = (w.alloc (.cells #[.bool false, .slice none 0 0, .slice none 0 0] 37)) := ⟨_, rfl⟩
 rw [← hw0] at hb0 hxR
 have HB0 := qHd hb0; have HW0 := qHd hw0
 have BXR := qHd hxR
 clear hb0 hw0 hxR
 have BD := qHd (And.intro h0 h1)
 have hq1 : (n : Rat) / ((1 : Int) : Rat) = (n : Rat) := by rw [show ((1 : Int) : Rat) = 1 from rfl]; grind
 have HQ1 := qHd hq1; clear hq1
 go_enter Tryz.func36, Tryz.ntmps36
 have hs := rmake_any n 1 w0 BD.out.1 BD.out.2 (by decide) (by decide)
 rw [HQ1.out, show zc (1 : Int).natAbs = 0 from rfl] at hs
 have HS := qHd hs; clear hs
 go_wp2_with fail
 rw [← HW0.out]
 (with_reducible refine HS.out.mono ?_); rintro e w1 ⟨v1, rfl, hb1, hn1⟩
 clear HS
 have HB1 := qHd (HB0.out.step hb1)
 have BXR := qHd (qab BXR.out hb1)
 have Q := qHd hn1; clear hn1
 clear hb1
 obtain ⟨sQ, oQ, nQ, cQ, aQ, mQ, dQ, rfl⟩ := Q.out.shape
 have hal : Below w1.heap.size w1 (w1.alloc (.cells #[.bool sQ, .slice oQ nQ cQ, .slice aQ mQ dQ] 37)) := (Below.refl _ _).alloc (Nat.le_refl _) _
 have HXA := qHd (qab BXR.out hal); have HAL := qHd hal; clear hal
 obtain ⟨eR0, eR1, eR2⟩ := row3 HXA.out
 obtain ⟨fR0, fR1, fR2⟩ := froz3 HXA.out
 go_wp2_with fail
 refine ret_rat rfl w.heap.size _ _ _ rfl (qce HXA.out) rfl ?_
 exact ⟨_, rfl, qbx (HB1.out.step HAL.out) (by omega) _ _ _, isR_put (Q.out.below HAL.out) HXA.out⟩
def pairM : List Mv := [⟨0, 1, 1⟩, ⟨1, 0, 3⟩]
def pairD : List Bool := [false, true]
theorem pair_gch : GCh 2 0 pairM pairD := by
 refine ⟨⟨by decide, ?_⟩, ⟨by decide, ?_, ?_, ?_⟩, by decide, rfl, ?_⟩
 ·intro m hm
  simp only [pairM, List.mem_cons, List.not_mem_nil, or_false] at hm
  rcases hm with rfl | rfl
  ·exact ⟨by decide, by decide, by decide, by decide⟩
  ·exact ⟨by decide, by decide, by decide, by decide⟩
 ·intro m hm
  simp only [pairM, List.mem_cons, List.not_mem_nil, or_false] at hm
  rcases hm with rfl | rfl
  ·show (0 : Rat) < 1; decide
  ·show (0 : Rat) < 3; decide
 ·intro m hm
  have h1 : ((3 : Nat) : Rat) ≤ ((p2 33 : Nat) : Rat) := p2_le_cast (by unfold p2; decide)
  have h3 : ((3 : Nat) : Rat) = 3 := rfl
  rw [h3] at h1
  simp only [pairM, List.mem_cons, List.not_mem_nil, or_false] at hm
  rcases hm with rfl | rfl
  ·show (1 : Rat) ≤ _; grind
  ·show (3 : Rat) ≤ _; exact h1
 ·have : qdd pairM = 1 := by decide
  rw [this]
  exact Nat.pow_pos (by decide)
 ·intro j x y hx hy
  match j with
  | 0 => cases hx; cases hy; exact .inl (by decide)
  | j + 1 => simp [pairM] at hy
theorem row10 {w : World} {g : Nat} {x0 x1 x2 x3 x4 x5 x6 x7 x8 x9 : Value} {T : TypeId} (h : w.heap[g]? = some (.cells #[x0, x1, x2, x3, x4, x5, x6, x7, x8, x9] T)) : w.cell? ⟨g, 0, none⟩ = some x0 ∧ w.cell? ⟨g, 1, none⟩ = some x1 ∧ w.cell? ⟨g, 2, none⟩ = some x2 ∧ w.cell? ⟨g, 3, none⟩ = some x3 ∧ w.cell? ⟨g, 4, none⟩ = some x4 ∧ w.cell? ⟨g, 5, none⟩ = some x5 ∧ w.cell? ⟨g, 6, none⟩ = some x6 ∧ w.cell? ⟨g, 7, none⟩ = some x7 ∧ w.cell? ⟨g, 8, none⟩ = some x8 ∧ w.cell? ⟨g, 9, none⟩ = some x9 :=
 ⟨cell_of_row _ _ _ _ _ _ h, cell_of_row _ _ _ _ _ _ h, cell_of_row _ _ _ _ _ _ h, cell_of_row _ _ _ _ _ _ h, cell_of_row _ _ _ _ _ _ h, cell_of_row _ _ _ _ _ _ h, cell_of_row _ _ _ _ _ _ h, cell_of_row _ _ _ _ _ _ h, cell_of_row _ _ _ _ _ _ h, cell_of_row _ _ _ _ _ _ h⟩
theorem mvs_two {w : World} {g : Nat} {m0 m1 : Mv} {s0 s1 : Bool} {o0 o1 a0 a1 : Option Addr} {n0 n1 c0 c1 p0 p1 d0 d1 : Nat} {T : TypeId}
  (h : w.heap[g]? = some (.cells #[.int .i64 (m0.a : Nat), .int .i64 (m0.b : Nat), .bool s0, .slice o0 n0 c0, .slice a0 p0 d0, .int .i64 (m1.a : Nat), .int .i64 (m1.b : Nat), .bool s1, .slice o1 n1 c1, .slice a1 p1 d1] T))
  (h0 : IsR w (.agg #[.bool s0, .slice o0 n0 c0, .slice a0 p0 d0]) m0.r) (h1 : IsR w (.agg #[.bool s1, .slice o1 n1 c1, .slice a1 p1 d1]) m1.r) : MvsI w (.slice (some ⟨g, 0, none⟩) 2 2) [m0, m1] := by
 obtain ⟨x0, x1, x2, x3, x4, x5, x6, x7, x8, x9⟩ := row10 h
 refine ⟨_, _, rfl, Nat.le_refl _, by omega, (fun h => by cases h), ?_⟩
 intro b' off s hs
 cases hs
 refine ⟨fun _ => ⟨qdc h, rfl⟩, fun j x hj => ?_⟩
 match j with
 | 0 => cases hj; exact ⟨_, _, _, _, _, _, _, x0, x1, x2, x3, x4, h0⟩
 | 1 => cases hj; exact ⟨_, _, _, _, _, _, _, x5, x6, x7, x8, x9, h1⟩
 | j + 2 => simp at hj
theorem bls_two {w : World} {g : Nat} {a b : Bool} {T : TypeId} (h : w.heap[g]? = some (.cells #[.bool a, .bool b] T)) : BlsV w (.slice (some ⟨g, 0, none⟩) 2 2) [a, b] := by
 have x0 : w.cell? ⟨g, 0, none⟩ = some (.bool a) := cell_of_row _ _ _ _ _ _ h
 have x1 : w.cell? ⟨g, 1, none⟩ = some (.bool b) := cell_of_row _ _ _ _ _ _ h
 refine ⟨_, _, rfl, Nat.le_refl _, by omega, (fun h => by cases h), ?_⟩
 intro b' off s hs
 cases hs
 refine ⟨fun _ => ⟨qdc h, rfl⟩, fun j x hj => ?_⟩
 match j with
 | 0 => cases hj; exact x0
 | 1 => cases hj; exact x1
 | j + 2 => simp at hj
theorem noW4c {a b : Int} {o p : Option Addr} {n c m d : Nat} : noW #[.int .i64 a, .int .i64 b, .slice o n c, .slice p m d] := by
 intro j n; match j with
 | 0 => simp
 | 1 => simp
 | 2 => simp
 | 3 => simp
 | j + 4 => simp
theorem putL_4 {w : World} {g : Nat} {x0 x1 x2 x3 y0 y1 y2 y3 : Value} {T : TypeId} (h : w.heap[g]? = some (.cells #[x0, x1, x2, x3] T)) : (putL w g 0 [y0, y1, y2, y3]).heap[g]? = some (.cells #[y0, y1, y2, y3] T) := by
 simp [putL, World.setCell, Array.getElem?_modify, h]
theorem chain_info : (Tryz.prog.info? 25).map (·.size) = some 4 := by kernel_rfl
def RetCh (w : World) (n s0 : Nat) (ms : List Mv) (dn : List Bool) (e : Ending) (w' : World) : Prop := ∃ v, e = .returned v ∧ Below w.heap.size w w' ∧ ChI w' v n s0 ms dn
theorem pair_any (w : World) : Calls Tryz.prog 16 #[] w (RetCh w 2 0 pairM pairD) := by
 obtain ⟨w0, hw0⟩ : ∃ z0, z0 = w.alloc (.cells #[.int .i64 0, .int .i64 0, .slice none 0 0, .slice none 0 0] 25) := ⟨_, rfl⟩
 have hb0 : Below w.heap.size w w0 := by rw [hw0]; exact qBA _ _
 obtain ⟨gp, hgp⟩ : ∃ g, g = w.heap.size := ⟨_, rfl⟩
 have hx0 : w0.heap[gp]? = some (.cells #[.int .i64 0, .int .i64 0, .slice none 0 0, .slice none 0 0] 25) := by rw [hw0, hgp]; exact heap_alloc_new _ _
 have lgp : w.heap.size ≤ gp := by omega
 have GP := qHd hx0; have HB0 := qHd hb0
 clear hx0 hb0
 have HK := qHd (rofq_any 1 w0 (by decide) (by decide))
 go_enter Tryz.func16, Tryz.ntmps16
 go_wp2_with (with_reducible refine qag ?_)
 rw [← hw0, ← hgp]
 clear hw0 hgp
 refine qal.mk ?_
 (with_reducible refine HK.out.mono ?_); rintro e w1 ⟨v1, rfl, hb1, hn1⟩
 obtain ⟨sa, oa, na, ca, aa, ma, da, rfl⟩ := hn1.shape
 have HB1 := qHd (HB0.out.trans (hb1.mono HB0.out.size)); have GP := qHd (qab GP.out hb1); have I1 := qHd hn1
 clear hb1 hn1 HK
 have HK := qHd (rofq_any 3 w1 (by decide) (by decide))
 go_wp2_with (with_reducible refine qag ?_)
 refine qal.mk ?_
 (with_reducible refine HK.out.mono ?_); rintro e w2 ⟨v2, rfl, hb2, hn2⟩
 obtain ⟨sb, ob, nb, cb, ab, mb, db, rfl⟩ := hn2.shape
 have HB2 := qHd (HB1.out.trans (hb2.mono HB1.out.size)); have GP := qHd (qab GP.out hb2); have I1 := qHd (I1.out.below hb2); have I2 := qHd hn2
 clear hb2 hn2 HK HB0 HB1
 obtain ⟨w3, hw3⟩ : ∃ z0, z0 = w2.alloc (.cells #[.int .i64 0, .int .i64 1, .bool sa, .slice oa na ca, .slice aa ma da, .int .i64 1, .int .i64 0, .bool sb, .slice ob nb cb, .slice ab mb db] 45) := ⟨_, rfl⟩
 have hb3 : Below w2.heap.size w2 w3 := by rw [hw3]; exact qBA _ _
 have hs3 : w3.heap.size = w2.heap.size + 1 := by rw [hw3]; simp
 obtain ⟨g3, hg3⟩ : ∃ g, g = w2.heap.size := ⟨_, rfl⟩
 have hx3 : w3.heap[g3]? = some (.cells #[.int .i64 0, .int .i64 1, .bool sa, .slice oa na ca, .slice aa ma da, .int .i64 1, .int .i64 0, .bool sb, .slice ob nb cb, .slice ab mb db] 45) := by rw [hw3, hg3]; exact heap_alloc_new _ _
 obtain ⟨w4, hw4⟩ : ∃ z0, z0 = w3.alloc (.cells #[.bool false, .bool true] 4) := ⟨_, rfl⟩
 have hb4 : Below w3.heap.size w3 w4 := by rw [hw4]; exact qBA _ _
 obtain ⟨g4, hg4⟩ : ∃ g, g = w2.heap.size + 1 := ⟨_, rfl⟩
 have hx4 : w4.heap[g4]? = some (.cells #[.bool false, .bool true] 4) := by rw [hw4, show g4 = w3.heap.size by omega]; exact heap_alloc_new _ _
 have hlt2 := qdc GP.out
 have n3 : g3 ≠ gp := by omega
 have n4 : g4 ≠ gp := by omega
 have hb24 := hb3.trans (hb4.mono (by omega))
 have GP := qHd (qab GP.out hb24); have I1 := qHd (I1.out.below hb24); have I2 := qHd (I2.out.below hb24); have HB := qHd (HB2.out.trans (hb24.mono HB2.out.size))
 have G3 := qHd (qab hx3 hb4); have G4 := qHd hx4
 clear hb3 hb4 hx3 hx4 hs3 hlt2 hb24 HB2
 go_wp2_with (with_reducible refine qaz 25 ?_)
 rw [← hg4, ← hg3, ← hw3, ← hw4]
 clear hw3 hg3 hw4 hg4
 refine qba gp 0 [.int .i64 2, .int .i64 0, .slice (some ⟨g3, 0, none⟩) 2 2, .slice (some ⟨g4, 0, none⟩) 2 2] GP.out rfl rfl (Nat.le_refl 4) chain_info rfl ?_
 intro wz hz
 have J1 := qHd (putL_I hz I1.out GP.out noW4c); have J2 := qHd (putL_I hz I2.out GP.out noW4c)
 have G3 := qHd (putLx hz G3.out n3); have G4 := qHd (putLx hz G4.out n4)
 have HB := qHd (putLb hz HB.out lgp)
 have GZ := qHd (show wz.heap[gp]? = some (.cells #[.int .i64 2, .int .i64 0, .slice (some ⟨g3, 0, none⟩) 2 2, .slice (some ⟨g4, 0, none⟩) 2 2] 25) by rw [hz]; exact putL_4 GP.out)
 clear hz I1 I2 GP n3 n4
 go_wp2_with fail
 refine bodyPost_ret (results_cell_row rfl _ wz gp 25 _ _ _ rfl GZ.out Tryz.underlying25 rfl chain_info) rfl ?_
 exact ⟨_, rfl, HB.out, ChI.of (n := 2) (s0 := 0) (mvs_two (m0 := ⟨0, 1, 1⟩) (m1 := ⟨1, 0, 3⟩) G3.out J1.out J2.out) (bls_two G4.out)⟩
def KOw (B : Nat) (x : Int) : Value → World → Prop := fun v w => qbm w B 3 1 v 1 [.int .i64 x]
theorem kOw (B : Nat) (x : Int) : MonoF (KOw B x) := fun _ _ _ h hb => qbm.below h hb
theorem Tryz.intsTyL : qcl Tryz.prog 68 70 (.slice none 0 0) 1 24 := .mk' Tryz.underlying68 (by kernel_rfl)
theorem Tryz.boolsTyL : qcl Tryz.prog 93 23 (.slice none 0 0) 1 24 := .mk' Tryz.underlying93 (by kernel_rfl)
theorem stepOK_appNil {P : Program} {a : Act} {w : World} {R : Value → World → Prop} {s x : Operand} {t e : TypeId} {o : Oper}
  {z : Value} {size bytes : Nat} (T : qcl P t e z size bytes) (hzs : z.cells.size = size) (hzu : noU z.cells.toList) (hsz : 0 < size) {news : List Value} {g0 : Nat} {T0 : TypeId} (ho : o.op = .call { callee := .builtin .append, args := #[s, x], argTypes := #[t, t] }) (hs : a.eval s = .slice none 0 0) (hx : a.eval x = .slice (some ⟨g0, 0, none⟩) 1 1)
  (hg0 : w.heap[g0]? = some (.cells news.toArray T0)) (hl : news.length = size) (h1 : news.all (fun u => u.oneCell') = true) (hnu : noU news) (hby : bytes ≤ 1000)
  (hK : ∀ v' w', qbm w' w.heap.size e size v' 1 news → Below w.heap.size w w' → R v' w') : StepOK P o a w R := by
 obtain ⟨i0, hi, hz0, hz1, hz2⟩ := T.info
 have hbb : (0 + 1) * bytes ≤ 140737488355328 := by omega
 obtain ⟨v', w', hr, k1, k2, k3⟩ := run_append_L (P := P) w w.heap.size t o.type e i0 z size bytes T.under hi hz0 hz1 hz2 hzs hsz hzu (.slice none 0 0) 0 [] (qbm.nil _ _ _ _) ⟨g0, 0, none⟩ 1 news hl
  (fun j u hu => by
   have e2 : (⟨g0, 0, none⟩ : Addr).add j = ⟨g0, j, none⟩ := by unfold Addr.add; split <;> simp_all
   rw [e2, cell_of_row w g0 j news.toArray T0 (0, 0) hg0]; simpa using hu) (fun u hu => List.all_eq_true.1 h1 u hu) hnu noU0 (by unfold maxLen; omega) hbb (Nat.le_refl _)
 refine qaf (v := v') (w' := w') ?_ (hK v' w' (by simpa using k1) ((Below.refl _ _).grown k2 (Nat.le_refl _) (fun k hk => by cases hk)))
 unfold execOp
 simp only [ho, resolve, invoke, builtin, Sem.run_bind, Sem.run_pure, Result.andThen_ok, List.map_toArray, List.map_cons, List.map_nil, hs, hx, hr]
 try rfl
theorem qam {w w' : World} {g i : Nat} {x : Value} {B : Nat} (h : w.cell? ⟨g, i, none⟩ = some x ∧ g < B) (hb : Below B w w') : w'.cell? ⟨g, i, none⟩ = some x := by
 rw [hb.cell (p := ⟨g, i, none⟩) h.2]; exact h.1
theorem qcy {w : World} {g i : Nat} {x : Value} (h : w.cell? ⟨g, i, none⟩ = some x) : w.cell? ⟨g, i, none⟩ = some x ∧ g < w.heap.size := ⟨h, World.block_lt_of_cell? _ _ h⟩
theorem row2k {w : World} {g : Nat} {x0 x1 : Value} {T : TypeId} (h : w.heap[g]? = some (.cells #[x0, x1] T)) : w.cell? ⟨g, 0, none⟩ = some x0 ∧ w.cell? ⟨g, 1, none⟩ = some x1 := ⟨cell_of_row _ _ _ _ _ _ h, cell_of_row _ _ _ _ _ _ h⟩
theorem made_2b : madeCells (Value.bool false).cells (2 * 1) = #[.bool false, .bool false] := by
 apply Array.ext'
 rw [show (Value.bool false).cells = #[.bool false] from rfl, toList_madeCells_one]; rfl
theorem own_one {w : World} {g B : Nat} {x : Int} (h : w.heap[g]? = some (.cells #[.int .i64 x] 3)) (hB : B ≤ g) : qbm w B 3 1 (.slice (some ⟨g, 0, none⟩) 1 1) 1 [.int .i64 x] :=
 ⟨⟨rfl, .inr ⟨g, 1, _, rfl, hB, h, Nat.le_refl _, by unfold maxLen; omega, rfl, rfl⟩⟩, fun g' cur hg hc => by
  simp only [Value.ownBlock, Option.some.injEq] at hg
  subst hg
  rw [h] at hc
  cases hc
  exact noUi⟩
theorem own_zero {w : World} {g B c n size : Nat} {e : TypeId} {xs : List Value} (h : qbm w B e size (.slice (some ⟨g, 0, none⟩) n c) n xs) : qbm w B e size (.slice (some ⟨g, 0, none⟩) 0 c) 0 [] := by
 obtain ⟨⟨h1, h2⟩, h3⟩ := h
 refine ⟨⟨by simp, ?_⟩, h3⟩
 rcases h2 with ⟨e1, _⟩ | ⟨g', cap, cur, e1, k1, k2, k3, k4, k5, k6⟩
 ·cases e1
 ·cases e1
  exact .inr ⟨_, _, cur, rfl, k1, k2, Nat.zero_le _, k4, k5, by simp⟩
def sl2 (p : Nat) : Value := .slice (some ⟨p, 0, none⟩) 2 2
def RL (B : Nat) (w : World) (v : Value) (ps : List Nat) : Prop :=
 qbm w B 23 1 v ps.length (ps.map sl2) ∧ ∀ p ∈ ps, w.heap[p]? = some (.cells #[.bool true, .bool true] 4) ∧ v.ownBlock ≠ some p
theorem noU_sl (ps : List Nat) : noU (ps.map sl2) := by
 intro u hu n
 obtain ⟨p, _, rfl⟩ := List.mem_map.1 hu
 exact fun e => by cases e
theorem RL.nil (B : Nat) (w : World) : RL B w (.slice none 0 0) [] := ⟨qbm.nil _ _ _ _, fun p hp => by cases hp⟩
theorem RL.below {B : Nat} {w w' : World} {v : Value} {ps : List Nat} (h : RL B w v ps) (hb : Below w.heap.size w w') : RL B w' v ps :=
 ⟨qaq h.1 hb, fun p hp => ⟨qab (h.2 p hp).1 hb, (h.2 p hp).2⟩⟩
theorem RL.lt {B g : Nat} {w : World} {v : Value} {ps : List Nat} (h : RL B w v ps) (hg : w.heap.size ≤ g) : v.ownBlock ≠ some g := h.1.lt hg
theorem RL.app {B g : Nat} {w w' : World} {v v' : Value} {ps : List Nat} (h : RL B w v ps) (hg : w.heap[g]? = some (.cells #[.bool true, .bool true] 4)) (hn : v.ownBlock ≠ some g)
  (ho : qbm w' B 23 1 v' (ps.length + 1) (ps.map sl2 ++ [sl2 g])) (hgr : w.grownBy w' v.ownBlock) (hf : ∀ p, p < w.heap.size → v.ownBlock ≠ some p → v'.ownBlock ≠ some p) : RL B w' v' (ps ++ [g]) := by
 refine ⟨by rw [List.length_append, List.map_append]; exact ho, fun p hp => ?_⟩
 rcases List.mem_append.1 hp with q | q
 ·obtain ⟨k1, k2⟩ := h.2 p q
  exact ⟨grown_heap hgr k1 k2, hf p (qdc k1) k2⟩
 ·rw [List.mem_singleton] at q
  subst q
  exact ⟨grown_heap hgr hg hn, hf _ (qdc hg) hn⟩
def RetRL (w : World) (e : Ending) (w' : World) : Prop := ∃ v, e = .returned v ∧ Below w.heap.size w w' ∧ ∃ B p0 p1, RL B w' v [p0, p1]
def slen : Value → Nat
 | .slice _ n _ => n
 | _ => 0
def mz (g : Nat) (v : Value) (w : World) : Nat := (cond (isT (w.cell? ⟨g, 0, none⟩) && isT (w.cell? ⟨g, 1, none⟩)) 0 2) + slen v
theorem mz_tt {g : Nat} {v : Value} {w : World} (h : w.heap[g]? = some (.cells #[.bool true, .bool true] 4)) : mz g v w = slen v := by
 obtain ⟨x0, x1⟩ := row2k h
 unfold mz; rw [x0, x1]; simp [isT]
theorem mz_01 {g B : Nat} {v v0 : Value} {w w0 : World} {x : Int} {a b : Bool} (h : w.heap[g]? = some (.cells #[.bool true, .bool true] 4)) (hv : qbm w B 3 1 v 1 [.int .i64 x])
  (h0 : w0.heap[g]? = some (.cells #[.bool a, .bool b] 4)) (hab : (a && b) = false := by rfl) : mz g v w < mz g v0 w0 := by
 rw [mz_tt h]
 obtain ⟨o, c, rfl, _⟩ := qbd hv.1
 obtain ⟨x0, x1⟩ := row2k h0
 unfold mz; rw [x0, x1]
 cases a <;> cases b <;> simp_all [isT, slen] <;> omega
theorem mz_12 {g : Nat} {v : Value} {w w0 : World} {o : Option Addr} {c : Nat} (hv : ∃ o2 c2, v = .slice o2 0 c2) (h : w.heap[g]? = some (.cells #[.bool true, .bool true] 4)) (h0 : w0.heap[g]? = some (.cells #[.bool true, .bool true] 4)) : mz g v w < mz g (.slice o 1 c) w0 := by
 rw [mz_tt h, mz_tt h0]
 obtain ⟨o2, c2, rfl⟩ := hv
 simp [slen]
theorem reach2_any (vc : Value) (w : World) (hc : ChI w vc 2 0 pairM pairD) : Calls Tryz.prog 53 #[vc] w (RetRL w) := by
 obtain ⟨mo, mc, bo, bc, rfl, hM, hB, hmc, hbc⟩ := hc
 rw [show pairM.length = 2 from rfl] at hmc hM ⊢
 rw [show pairD.length = 2 from rfl] at hbc ⊢
 clear hB
 show Calls _ _ #[.agg #[.int .i64 2, .int .i64 0, .slice mo 2 mc, .slice bo 2 bc]] w _
 obtain ⟨W, hW⟩ : ∃ z0, z0 = w.alloc (.cells #[.int .i64 2, .int .i64 0, .slice mo 2 mc, .slice bo 2 bc] 25) := ⟨_, rfl⟩
 have b_W : Below w.heap.size w W := by rw [hW]; exact qBA _ _
 have s_W : W.heap.size = w.heap.size + 1 := by rw [hW]; exact Array.size_push (xs := w.heap) _
 have hg_gc : W.heap[w.heap.size]? = some (.cells #[.int .i64 2, .int .i64 0, .slice mo 2 mc, .slice bo 2 bc] 25) := (by rw [hW]; exact heap_alloc_new w _)
 have HBW := qHd (show Below w.heap.size w W from b_W)
 obtain ⟨gc, hgc⟩ : ∃ g, g = w.heap.size := ⟨_, rfl⟩
 rw [← hgc] at hg_gc
 have l_gc : w.heap.size ≤ gc ∧ gc < W.heap.size := by rw [s_W]; omega
 have G_gc := qHd hg_gc
 obtain ⟨gcx0, gcx1, gcx2, gcx3⟩ := qbn hg_gc
 rw [hW, hgc] at gcx0 gcx1 gcx2 gcx3
 clear hg_gc b_W s_W
 have HM := qHd (hM.below HBW.out)
 clear hM
 go_enter Tryz.func53, Tryz.ntmps53
 go_wp2_with (with_reducible refine qaw ?_)
 rw [← hW, ← hgc]
 clear hW hgc
 clear gcx0 gcx1 gcx2 gcx3
 refine qbj Tryz.intsTyL 2 rfl rfl (by decide) (by decide) (by decide) ?_
 intro w2 hw2 ho2
 have hb2 : Below W.heap.size W w2 := by rw [hw2]; exact qBA _ _
 have hO := made1 noU1 ho2 hw2
 obtain ⟨go, hgo⟩ : ∃ g, g = W.heap.size := ⟨_, rfl⟩
 have lgo : W.heap.size ≤ go := by omega
 rw [← hgo] at hO ⊢
 have OU := qHd (show qbm w2 W.heap.size 70 1 (.slice (some ⟨go, 0, none⟩) 2 2) 2 [.slice none 0 0, .slice none 0 0] from ⟨qcr hO.1 lgo, hO.2⟩); have HB := qHd hb2
 clear hO hb2 ho2 hw2 hgo
 obtain ⟨gcx0, gcx1, gcx2, gcx3⟩ := qbn (qab G_gc.out HB.out)
 go_wp2_with (with_reducible first | refine qah ?_ | refine qae ?_)
 clear gcx0 gcx1 gcx2 gcx3
 refine qal.mk ?_
 go_loopw [19] (fun i' wx => (i' = .int .i64 0 ∧ Hid (qbm wx W.heap.size 70 1 (.slice (some ⟨go, 0, none⟩) 2 2) 2 [.slice none 0 0, .slice none 0 0]) ∧ Hid (Below W.heap.size W wx)) ∨ (i' = .int .i64 1 ∧ ∃ a0, Hid (qbm wx W.heap.size 70 1 (.slice (some ⟨go, 0, none⟩) 2 2) 2 [a0, .slice none 0 0]) ∧ Hid (qbm wx W.heap.size 3 1 a0 1 [.int .i64 1]) ∧ Hid (a0.ownBlock ≠ some go) ∧ Hid (Below W.heap.size W wx)) ∨
  (i' = .int .i64 2 ∧ ∃ a0 a1, Hid (qbm wx W.heap.size 70 1 (.slice (some ⟨go, 0, none⟩) 2 2) 2 [a0, a1]) ∧ Hid (qbm wx W.heap.size 3 1 a0 1 [.int .i64 1]) ∧ Hid (qbm wx W.heap.size 3 1 a1 1 [.int .i64 0]) ∧ Hid (a0.ownBlock ≠ some go) ∧ Hid (a1.ownBlock ≠ some go) ∧ Hid (Below W.heap.size W wx))) (fun i' _ => 2 - (intOf i').toNat)
 case atStart => exact .inl ⟨rfl, OU, HB⟩
 case round =>
  clear OU HB
  obtain ⟨wo, rfl⟩ : ∃ wo : World, wo = wr := ⟨_, rfl⟩
  rcases hrel with ⟨rfl, OU, HB⟩ | ⟨rfl, a0, OU, A0, N0, HB⟩ | ⟨rfl, a0, a1, OU, A0, A1, N0, N1, HB⟩
  ·obtain ⟨mb, moff, rfl, hmb, hl2, hat⟩ := (HM.out.below HB.out).at (by decide)
   clear hl2
   obtain ⟨sm, om, nm, cm, am, mm, dm, n0, n1, n2, n3, n4, _⟩ := hat 0 _ rfl
   have m0 : wo.cell? ⟨mb, moff, none⟩ = some (.int .i64 0) := n0
   have m1 : wo.cell? ⟨mb, moff + 1, none⟩ = some (.int .i64 1) := n1
   have m2 : wo.cell? ⟨mb, moff + 2, none⟩ = some (.bool sm) := n2
   have m3 : wo.cell? ⟨mb, moff + 3, none⟩ = some (.slice om nm cm) := n3
   have m4 : wo.cell? ⟨mb, moff + 4, none⟩ = some (.slice am mm dm) := n4
   clear hat n0 n1 n2 n3 n4
   obtain ⟨w2, hw2, hb2, gm, hgm, hx2⟩ := qBx5 wo (.cells #[.int .i64 0, .int .i64 1, .bool sm, .slice om nm cm, .slice am mm dm] 45)
   have G_gm := qHd hx2
   go_wp2_with (with_reducible first | refine qag ?_ | refine qah ?_ | refine qbb ?_ | refine qbc ?_ | refine qae ?_)
   rw [← hw2, ← hgm]
   clear hw2 hgm m0 m1 m2 m3 m4 hx2
   have OU := qHd (qaq OU.out hb2)
   have HB := qHd (qac HB.out (Nat.le_refl _) hb2)
   have CI := qHd (show w2.cell? ⟨go, 0, none⟩ = some (.slice none 0 0) by
    obtain ⟨g', e', _, _, _, _, hc⟩ := qbi OU.out.1 rfl (by decide)
    cases e'
    exact hc 0 _ rfl)
   clear hb2
   obtain ⟨W0, rfl⟩ : ∃ W0 : World, W0 = w2 := ⟨_, rfl⟩
   refine qal.mk ?_
   refine qaj (A := ?aaR0) (w := W0) 12 [] (by kernel_rfl) (Fl [KEq (.slice (some ⟨go, 0, none⟩) 2 2), KEq (.pointer (some ⟨gm, 0, none⟩)), KEq (.int .i64 0), KEq (.slice (some ⟨go, 0, none⟩) 2 2), KEq (.pointer (some ⟨gm, 0, none⟩)), KEq (.int .i64 0), KEq (.pointer (some ⟨go, 0, none⟩)), KEq (.slice none 0 0), KEq (.pointer (some ⟨gm, 1, none⟩)), KEq (.int .i64 1), KLst W0.heap.size 1 #[.int .i64 1] 3, KOw W0.heap.size 1]) (fun i => false) (by kernel_rfl) ?hqR0 (qdk (qad (kEq _) (qad (kEq _) (qad (kEq _) (qad (kEq _) (qad (kEq _) (qad (kEq _) (qad (kEq _) (qad (kEq _) (qad (kEq _) (qad (kEq _) (qad (kLst _ _ _ _) (qad (kOw _ _) qdj))))))))))))) ?haR0 ?stR0 ?tlR0
   case hqR0 =>
    intro c a d v w h
    first | (simp only [Exit.then] at h ⊢; exact h) | (simp only [Exit.inBlock, Exit.then] at h ⊢; exact h) | exact h
   case haR0 =>
    intro vals
    simp only [qat, qby, if_true, Act.put, List.setIfInBounds_toArray, List.set_cons_zero, List.set_cons_succ, List.getElem?_toArray, List.getElem?_cons_zero, List.getElem?_cons_succ, Option.bind_some]
    exact rfl
   case stR0 =>
    simp only [List.take_succ_cons, List.take_zero]
    refine qaa rfl rfl ?_ (qaa rfl rfl ?_ (qaa rfl rfl ?_ (qaa rfl rfl ?_ (qaa rfl rfl ?_ (qaa rfl rfl ?_ (qaa rfl rfl ?_ (qaa rfl rfl ?_ (qaa rfl rfl ?_ (qaa rfl rfl ?_ (qaa rfl rfl ?_ (qaa rfl rfl ?_ (qau))))))))))))
    ·intro vals w1 hb hd
     refine qSv (.slice (some ⟨go, 0, none⟩) 2 2) (by go_simp) (qLk rfl rfl)
    ·intro vals w1 hb hd
     refine qSv (.pointer (some ⟨gm, 0, none⟩)) (by go_simp) (qLk rfl rfl)
    ·intro vals w1 hb hd
     obtain ⟨gmx0, gmx1, gmx2, gmx3, gmx4⟩ := qbz (qab G_gm.out hb)
     rw [show vals 1 = .pointer (some ⟨gm, 0, none⟩) from hd 1 (by kernel_rfl)]
     refine qSv (.int .i64 0) (by go_simp) (qLk rfl rfl)
    ·intro vals w1 hb hd
     refine qSv (.slice (some ⟨go, 0, none⟩) 2 2) (by go_simp) (qLk rfl rfl)
    ·intro vals w1 hb hd
     refine qSv (.pointer (some ⟨gm, 0, none⟩)) (by go_simp) (qLk rfl rfl)
    ·intro vals w1 hb hd
     obtain ⟨gmx0, gmx1, gmx2, gmx3, gmx4⟩ := qbz (qab G_gm.out hb)
     rw [show vals 4 = .pointer (some ⟨gm, 0, none⟩) from hd 4 (by kernel_rfl)]
     refine qSv (.int .i64 0) (by go_simp) (qLk rfl rfl)
    ·intro vals w1 hb hd
     rw [show vals 3 = .slice (some ⟨go, 0, none⟩) 2 2 from hd 3 (by kernel_rfl)]
     rw [show vals 5 = .int .i64 0 from hd 5 (by kernel_rfl)]
     refine qSv (.pointer (some ⟨go, 0, none⟩)) (by go_simp) (qLk rfl rfl)
    ·intro vals w1 hb hd
     have e0 := qak CI.out hb
     rw [show vals 6 = .pointer (some ⟨go, 0, none⟩) from hd 6 (by kernel_rfl)]
     refine qSv (.slice none 0 0) (by go_simp) (qLk rfl rfl)
    ·intro vals w1 hb hd
     refine qSv (.pointer (some ⟨gm, 1, none⟩)) (by go_simp) (qLk rfl rfl)
    ·intro vals w1 hb hd
     obtain ⟨gmx0, gmx1, gmx2, gmx3, gmx4⟩ := qbz (qab G_gm.out hb)
     rw [show vals 8 = .pointer (some ⟨gm, 1, none⟩) from hd 8 (by kernel_rfl)]
     refine qSv (.int .i64 1) (by go_simp) (qLk rfl rfl)
    ·intro vals w1 hb hd
     rw [show vals 9 = .int .i64 1 from hd 9 (by kernel_rfl)]
     refine qaf (v := .slice (some ⟨w1.heap.size, 0, none⟩) 1 1) (w' := w1.alloc (.cells #[.int .i64 1] 3)) (by go_simp) (qai ((Below.refl _ _).alloc (Nat.le_refl _) _) ⟨_, hb.size, rfl, heap_alloc_new _ _⟩ (fun h => by cases h))
    ·intro vals w1 hb hd
     have d7 : KEq (.slice none 0 0) (vals 7) w1 := hd 7 (by kernel_rfl)
     have d10 : KLst W0.heap.size 1 #[.int .i64 1] 3 (vals 10) w1 := hd 10 (by kernel_rfl)
     obtain ⟨g0, hg0, e10, hx0⟩ := d10
     rw [show vals 7 = _ from d7, e10]
     refine stepOK_appNil Tryz.intTyL rfl noUi (by decide) (s := .tmp 30) (x := .tmp 33) rfl rfl rfl hx0 rfl rfl noUi (by decide) (fun v2 w2 ho hb2 => qai hb2 ⟨qcr ho.1 hb.size, ho.2⟩ (fun h => by cases h))
   case tlR0 =>
    intro vals w8 hb8 hf hdis
    simp only [List.drop_succ_cons, List.drop_zero]
    have z0 : vals 0 = _ := hf 0 (by decide); have z2 : vals 2 = _ := hf 2 (by decide)
    have z11 : KOw W0.heap.size 1 (vals 11) w8 := hf 11 (by decide)
    obtain ⟨v9, hv9⟩ : ∃ v, v = vals 11 := ⟨_, rfl⟩
    rw [← hv9] at z11
    obtain ⟨r9, c9, rfl, hc9, hc92, _⟩ := qbd z11.1
    rw [z0, z2, ← hv9]
    have hgolt := (World.ownsRow.lt OU.out.1 go rfl).2
    have NR := qHd (show (Value.slice r9 1 c9).ownBlock ≠ some go from fun e => by have := (World.ownsRow.lt z11.1 go e).1; omega)
    have RN := qHd (show qbm w8 W.heap.size 3 1 (.slice r9 1 c9) 1 [.int .i64 1] from ⟨qcr z11.1 HB.out.size, z11.2⟩)
    have OU := qHd (qaq OU.out hb8)
    have HB := qHd (qac HB.out (Nat.le_refl _) hb8)
    clear z0 z2 z11 hv9 hf hdis hb8 hgolt CI G_gm
    obtain ⟨cs, hcs, hcz⟩ := ownB_block OU.out
    go_wp2_with (with_reducible refine qaz 70 ?_)
    refine qcc go 0 hcs rfl rfl (by omega) (by kernel_rfl) ?_
    intro wz hz
    obtain ⟨hO, hS⟩ := OU.out.write hz (by simp only [List.length_cons, List.length_nil]; omega) noU1
    have OU := qHd (show qbm wz W.heap.size 70 1 (.slice (some ⟨go, 0, none⟩) 2 2) 2 [.slice r9 1 c9, .slice none 0 0] from hO)
    have RN := qHd (RN.out.kept hS.gr (fun g hg e => NR.out (by rw [hg, ← e])))
    have HB := qHd (hS.low HB.out HB.out.size lgo)
    clear hO hS hz hcs hcz
    go_wp2_with fail
    go_roundw
    case rel => exact .inr (.inl ⟨rfl, _, OU, RN, NR, HB⟩)
    case measure => simp [intOf]
  ·obtain ⟨mb, moff, rfl, hmb, hl2, hat⟩ := (HM.out.below HB.out).at (by decide)
   clear hl2
   obtain ⟨sm, om, nm, cm, am, mm, dm, n0, n1, n2, n3, n4, _⟩ := hat 1 _ rfl
   have m0 : wo.cell? ⟨mb, moff + 5, none⟩ = some (.int .i64 1) := n0
   have m1 : wo.cell? ⟨mb, moff + 5 + 1, none⟩ = some (.int .i64 0) := n1
   have k1 : wo.cell? ⟨mb, moff + 6, none⟩ = some (.int .i64 0) := n1
   have m2 : wo.cell? ⟨mb, moff + 5 + 2, none⟩ = some (.bool sm) := n2
   have k2 : wo.cell? ⟨mb, moff + 7, none⟩ = some (.bool sm) := n2
   have m3 : wo.cell? ⟨mb, moff + 5 + 3, none⟩ = some (.slice om nm cm) := n3
   have k3 : wo.cell? ⟨mb, moff + 8, none⟩ = some (.slice om nm cm) := n3
   have m4 : wo.cell? ⟨mb, moff + 5 + 4, none⟩ = some (.slice am mm dm) := n4
   have k4 : wo.cell? ⟨mb, moff + 9, none⟩ = some (.slice am mm dm) := n4
   clear hat n0 n1 n2 n3 n4
   obtain ⟨w2, hw2, hb2, gm, hgm, hx2⟩ := qBx5 wo (.cells #[.int .i64 1, .int .i64 0, .bool sm, .slice om nm cm, .slice am mm dm] 45)
   have G_gm := qHd hx2
   go_wp2_with (with_reducible first | refine qag ?_ | refine qah ?_ | refine qbb ?_ | refine qbc ?_ | refine qae ?_)
   rw [← hw2, ← hgm]
   clear hw2 hgm m0 m1 m2 m3 m4 hx2 k1 k2 k3 k4
   have OU := qHd (qaq OU.out hb2)
   have A0 := qHd (qaq A0.out hb2)
   have HB := qHd (qac HB.out (Nat.le_refl _) hb2)
   have CI := qHd (show w2.cell? ⟨go, 1, none⟩ = some (.slice none 0 0) by
    obtain ⟨g', e', _, _, _, _, hc⟩ := qbi OU.out.1 rfl (by decide)
    cases e'
    exact hc 1 _ rfl)
   clear hb2
   obtain ⟨W0, rfl⟩ : ∃ W0 : World, W0 = w2 := ⟨_, rfl⟩
   refine qal.mk ?_
   refine qaj (A := ?aaR1) (w := W0) 12 [] (by kernel_rfl) (Fl [KEq (.slice (some ⟨go, 0, none⟩) 2 2), KEq (.pointer (some ⟨gm, 0, none⟩)), KEq (.int .i64 1), KEq (.slice (some ⟨go, 0, none⟩) 2 2), KEq (.pointer (some ⟨gm, 0, none⟩)), KEq (.int .i64 1), KEq (.pointer (some ⟨go, 1, none⟩)), KEq (.slice none 0 0), KEq (.pointer (some ⟨gm, 1, none⟩)), KEq (.int .i64 0), KLst W0.heap.size 1 #[.int .i64 0] 3, KOw W0.heap.size 0]) (fun i => false) (by kernel_rfl) ?hqR1 (qdk (qad (kEq _) (qad (kEq _) (qad (kEq _) (qad (kEq _) (qad (kEq _) (qad (kEq _) (qad (kEq _) (qad (kEq _) (qad (kEq _) (qad (kEq _) (qad (kLst _ _ _ _) (qad (kOw _ _) qdj))))))))))))) ?haR1 ?stR1 ?tlR1
   case hqR1 =>
    intro c a d v w h
    first | (simp only [Exit.then] at h ⊢; exact h) | (simp only [Exit.inBlock, Exit.then] at h ⊢; exact h) | exact h
   case haR1 =>
    intro vals
    simp only [qat, qby, if_true, Act.put, List.setIfInBounds_toArray, List.set_cons_zero, List.set_cons_succ, List.getElem?_toArray, List.getElem?_cons_zero, List.getElem?_cons_succ, Option.bind_some]
    exact rfl
   case stR1 =>
    simp only [List.take_succ_cons, List.take_zero]
    refine qaa rfl rfl ?_ (qaa rfl rfl ?_ (qaa rfl rfl ?_ (qaa rfl rfl ?_ (qaa rfl rfl ?_ (qaa rfl rfl ?_ (qaa rfl rfl ?_ (qaa rfl rfl ?_ (qaa rfl rfl ?_ (qaa rfl rfl ?_ (qaa rfl rfl ?_ (qaa rfl rfl ?_ (qau))))))))))))
    ·intro vals w1 hb hd
     refine qSv (.slice (some ⟨go, 0, none⟩) 2 2) (by go_simp) (qLk rfl rfl)
    ·intro vals w1 hb hd
     refine qSv (.pointer (some ⟨gm, 0, none⟩)) (by go_simp) (qLk rfl rfl)
    ·intro vals w1 hb hd
     obtain ⟨gmx0, gmx1, gmx2, gmx3, gmx4⟩ := qbz (qab G_gm.out hb)
     rw [show vals 1 = .pointer (some ⟨gm, 0, none⟩) from hd 1 (by kernel_rfl)]
     refine qSv (.int .i64 1) (by go_simp) (qLk rfl rfl)
    ·intro vals w1 hb hd
     refine qSv (.slice (some ⟨go, 0, none⟩) 2 2) (by go_simp) (qLk rfl rfl)
    ·intro vals w1 hb hd
     refine qSv (.pointer (some ⟨gm, 0, none⟩)) (by go_simp) (qLk rfl rfl)
    ·intro vals w1 hb hd
     obtain ⟨gmx0, gmx1, gmx2, gmx3, gmx4⟩ := qbz (qab G_gm.out hb)
     rw [show vals 4 = .pointer (some ⟨gm, 0, none⟩) from hd 4 (by kernel_rfl)]
     refine qSv (.int .i64 1) (by go_simp) (qLk rfl rfl)
    ·intro vals w1 hb hd
     rw [show vals 3 = .slice (some ⟨go, 0, none⟩) 2 2 from hd 3 (by kernel_rfl)]
     rw [show vals 5 = .int .i64 1 from hd 5 (by kernel_rfl)]
     refine qSv (.pointer (some ⟨go, 1, none⟩)) (by go_simp) (qLk rfl rfl)
    ·intro vals w1 hb hd
     have e0 := qak CI.out hb
     rw [show vals 6 = .pointer (some ⟨go, 1, none⟩) from hd 6 (by kernel_rfl)]
     refine qSv (.slice none 0 0) (by go_simp) (qLk rfl rfl)
    ·intro vals w1 hb hd
     refine qSv (.pointer (some ⟨gm, 1, none⟩)) (by go_simp) (qLk rfl rfl)
    ·intro vals w1 hb hd
     obtain ⟨gmx0, gmx1, gmx2, gmx3, gmx4⟩ := qbz (qab G_gm.out hb)
     rw [show vals 8 = .pointer (some ⟨gm, 1, none⟩) from hd 8 (by kernel_rfl)]
     refine qSv (.int .i64 0) (by go_simp) (qLk rfl rfl)
    ·intro vals w1 hb hd
     rw [show vals 9 = .int .i64 0 from hd 9 (by kernel_rfl)]
     refine qaf (v := .slice (some ⟨w1.heap.size, 0, none⟩) 1 1) (w' := w1.alloc (.cells #[.int .i64 0] 3)) (by go_simp) (qai ((Below.refl _ _).alloc (Nat.le_refl _) _) ⟨_, hb.size, rfl, heap_alloc_new _ _⟩ (fun h => by cases h))
    ·intro vals w1 hb hd
     have d7 : KEq (.slice none 0 0) (vals 7) w1 := hd 7 (by kernel_rfl)
     have d10 : KLst W0.heap.size 1 #[.int .i64 0] 3 (vals 10) w1 := hd 10 (by kernel_rfl)
     obtain ⟨g0, hg0, e10, hx0⟩ := d10
     rw [show vals 7 = _ from d7, e10]
     refine stepOK_appNil Tryz.intTyL rfl noUi (by decide) (s := .tmp 30) (x := .tmp 33) rfl rfl rfl hx0 rfl rfl noUi (by decide) (fun v2 w2 ho hb2 => qai hb2 ⟨qcr ho.1 hb.size, ho.2⟩ (fun h => by cases h))
   case tlR1 =>
    intro vals w8 hb8 hf hdis
    simp only [List.drop_succ_cons, List.drop_zero]
    have z0 : vals 0 = _ := hf 0 (by decide); have z2 : vals 2 = _ := hf 2 (by decide)
    have z11 : KOw W0.heap.size 0 (vals 11) w8 := hf 11 (by decide)
    obtain ⟨v9, hv9⟩ : ∃ v, v = vals 11 := ⟨_, rfl⟩
    rw [← hv9] at z11
    obtain ⟨r9, c9, rfl, hc9, hc92, _⟩ := qbd z11.1
    rw [z0, z2, ← hv9]
    have hgolt := (World.ownsRow.lt OU.out.1 go rfl).2
    have NR := qHd (show (Value.slice r9 1 c9).ownBlock ≠ some go from fun e => by have := (World.ownsRow.lt z11.1 go e).1; omega)
    have RN := qHd (show qbm w8 W.heap.size 3 1 (.slice r9 1 c9) 1 [.int .i64 0] from ⟨qcr z11.1 HB.out.size, z11.2⟩)
    have OU := qHd (qaq OU.out hb8)
    have HB := qHd (qac HB.out (Nat.le_refl _) hb8)
    have A0 := qHd (qaq A0.out hb8)
    clear z0 z2 z11 hv9 hf hdis hb8 hgolt CI G_gm
    obtain ⟨cs, hcs, hcz⟩ := ownB_block OU.out
    go_wp2_with (with_reducible refine qaz 70 ?_)
    refine qcc go 1 hcs rfl rfl (by omega) (by kernel_rfl) ?_
    intro wz hz
    obtain ⟨hO, hS⟩ := OU.out.write hz (by simp only [List.length_cons, List.length_nil]; omega) noU1
    have OU := qHd (show qbm wz W.heap.size 70 1 (.slice (some ⟨go, 0, none⟩) 2 2) 2 [a0, .slice r9 1 c9] from hO)
    have RN := qHd (RN.out.kept hS.gr (fun g hg e => NR.out (by rw [hg, ← e])))
    have HB := qHd (hS.low HB.out HB.out.size lgo)
    have A0 := qHd (A0.out.kept hS.gr (fun g hg e => N0.out (by rw [hg, ← e])))
    clear hO hS hz hcs hcz
    go_wp2_with fail
    go_roundw
    case rel => exact .inr (.inr ⟨rfl, a0, _, OU, A0, RN, N0, NR, HB⟩)
    case measure => simp [intOf]
  ·clear N0 N1
   obtain ⟨W1, rfl⟩ : ∃ W1 : World, W1 = wo := ⟨_, rfl⟩
   obtain ⟨r0, c0, rfl, hc0, hc02, _⟩ := qbd A0.out.1
   obtain ⟨r1, c1, rfl, hc1, hc12, _⟩ := qbd A1.out.1
   obtain ⟨q0, rfl, _, _, _, _, hq0⟩ := qbi A0.out.1 rfl (by decide)
   obtain ⟨q1, rfl, _, _, _, _, hq1⟩ := qbi A1.out.1 rfl (by decide)
   obtain ⟨q2, hq2e, _, _, _, _, hq2⟩ := qbi OU.out.1 rfl (by decide)
   cases hq2e
   have AF := qHd (And.intro (qcy (hq2 0 _ rfl)) (And.intro (qcy (hq2 1 _ rfl)) (And.intro (qcy (hq0 0 _ rfl)) (qcy (hq1 0 _ rfl)))))
   clear hq0 hq1 hq2 OU A0 A1
   obtain ⟨gcx0, gcx1, gcx2, gcx3⟩ := qbn (qab G_gc.out HB.out)
   go_wp2_with (with_reducible first | refine qah ?_ | refine qae ?_)
   clear gcx0 gcx1 gcx2 gcx3
   refine qal.mk ?_
   go_loopw [39, 6] (fun i' rv wx => (i' = .int .i64 0 ∧ Hid (RL W1.heap.size wx rv []) ∧ Hid (Below W1.heap.size W1 wx)) ∨ (i' = .int .i64 1 ∧ ∃ p0, Hid (RL W1.heap.size wx rv [p0]) ∧ Hid (Below W1.heap.size W1 wx)) ∨ (i' = .int .i64 2 ∧ ∃ p0 p1, Hid (RL W1.heap.size wx rv [p0, p1]) ∧ Hid (Below W1.heap.size W1 wx))) (fun i' _ _ => 2 - (intOf i').toNat)
   case atStart => exact .inl ⟨rfl, qHd (RL.nil _ _), qHd (Below.refl _ _)⟩
   case round =>
    rcases hrel with ⟨rfl, RLS, HBO⟩ | ⟨rfl, p0, RLS, HBO⟩ | ⟨rfl, p0, p1, RLS, HBO⟩
    ·obtain ⟨wo, rfl⟩ : ∃ wo : World, wo = wr := ⟨_, rfl⟩
     have HBG := qHd (HB.out.trans (HBO.out.mono HB.out.size))
     obtain ⟨gcx0, gcx1, gcx2, gcx3⟩ := qbn (qab G_gc.out HBG.out)
     go_wp2_with (with_reducible refine qaw ?_)
     clear gcx0 gcx1 gcx2 gcx3
     refine qbj Tryz.boolTyL 2 rfl rfl (by decide) (by decide) (by decide) ?_
     intro w2 hw2 _
     have hb2 : Below wo.heap.size wo w2 := by rw [hw2]; exact qBA _ _
     obtain ⟨gs, hgs⟩ : ∃ g, g = wo.heap.size := ⟨_, rfl⟩
     have hx2 : w2.heap[gs]? = some (.cells #[.bool false, .bool false] 4) := by rw [hw2, hgs, made_2b]; exact heap_alloc_new _ _
     have lgs : wo.heap.size ≤ gs := by omega
     rw [← hgs]
     have GS := qHd hx2; have HB2 := qHd hb2
     clear hx2 hb2 hw2 hgs
     go_wp2_with (with_reducible refine qaz 4 ?_)
     refine wpList_stB gs 0 GS.out rfl rfl (by decide) (by kernel_rfl) ?_
     intro w3 hp3
     have GS3 := qHd (show w3.heap[gs]? = some (.cells #[.bool true, .bool false] 4) by rw [hp3]; simp [putL, World.setCell, Array.getElem?_modify, GS.out])
     have HB3 := qHd (putLb hp3 HB2.out lgs)
     clear hp3 GS HB2
     obtain ⟨w4, hw4, hb4, hx4⟩ := qBx3 w3 (.cells #[.int .i64 0] 3)
     go_wp2_with (with_reducible first | refine qah ?_ | refine qae ?_)
     rw [← hw4]
     clear hw4
     have SK := qHd (own_one hx4 HB3.out.size)
     have NS := qHd (show (Value.slice (some ⟨w3.heap.size, 0, none⟩) 1 1).ownBlock ≠ some gs from fun e => by have h1 := qdc GS3.out; have h2 : w3.heap.size = gs := Option.some.inj e; omega)
     have GS := qHd (qab GS3.out hb4)
     have HB4 := qHd (qac HB3.out (Nat.le_refl _) hb4)
     clear hb4 hx4 GS3 HB3
     refine qal.mk ?_
     go_loopw [9] (fun sv wx => (Hid (qbm wx wo.heap.size 3 1 sv 1 [.int .i64 0]) ∧ Hid (sv.ownBlock ≠ some gs) ∧ Hid (wx.heap[gs]? = some (.cells #[.bool true, .bool false] 4)) ∧ Hid (Below wo.heap.size wo wx)) ∨ (Hid (qbm wx wo.heap.size 3 1 sv 1 [.int .i64 1]) ∧ Hid (sv.ownBlock ≠ some gs) ∧ Hid (wx.heap[gs]? = some (.cells #[.bool true, .bool true] 4)) ∧ Hid (Below wo.heap.size wo wx)) ∨ ((∃ o2 c2, sv = .slice o2 0 c2) ∧ Hid (wx.heap[gs]? = some (.cells #[.bool true, .bool true] 4)) ∧ Hid (Below wo.heap.size wo wx))) (fun sv wx => mz gs sv wx)
     case atStart => exact .inl ⟨SK, NS, GS, HB4⟩
     case round =>
      clear SK NS GS HB4
      obtain ⟨wp, rfl⟩ : ∃ wp : World, wp = wr := ⟨_, rfl⟩
      rcases hrel with ⟨SK, NS, GS, HBQ⟩ | ⟨SK, NS, GS, HBQ⟩ | ⟨⟨o2, c2, rfl⟩, GS, HBQ⟩
      ·obtain ⟨so, sc, rfl, hsc, hsc2, _⟩ := qbd SK.out.1
       obtain ⟨gk, rfl, _, _, _, _, hck⟩ := qbi SK.out.1 rfl (by decide)
       have e0 := hck 0 _ rfl
       obtain ⟨f0, f1, f2, f3⟩ := AF.out
       have HBA := qHd (HBO.out.trans (HBQ.out.mono HBO.out.size))
       have y0 := qam f0 HBA.out
       have y1 := qam f2 HBA.out
       have SK0 := qHd (own_zero SK.out)
       have NS0 := qHd NS.out
       have hscz : (1 : Int) ≤ (sc : Int) := by omega
       clear f0 f1 f2 f3 hck
       go_wp2_with (with_reducible first | refine qah ?_ | refine qae ?_)
       clear y0 y1 e0
       refine qal.mk ?_
       obtain ⟨wq, hwq⟩ : ∃ z, z = wp := ⟨_, rfl⟩
       go_loopw [69, 9] (fun i' sv wx => (i' = .int .i64 0 ∧ sv = .slice (some ⟨gk, 0, none⟩) 0 sc ∧ wx = wp) ∨ (i' = .int .i64 1 ∧ Hid (qbm wx wo.heap.size 3 1 sv 1 [.int .i64 1]) ∧ Hid (sv.ownBlock ≠ some gs) ∧ Hid (wx.heap[gs]? = some (.cells #[.bool true, .bool true] 4)) ∧ Hid (Below wo.heap.size wo wx))) (fun i' _ _ => 1 - (intOf i').toNat)
       case atStart => exact .inl ⟨rfl, rfl, rfl⟩
       case round =>
        rcases hrel with ⟨rfl, rfl, rfl⟩ | ⟨rfl, HR⟩
        ·obtain ⟨f0, f1, f2, f3⟩ := AF.out
         have y0 := qam f0 HBA.out
         have y1 := qam f2 HBA.out
         have e0 := hscz
         clear f0 f1 f2 f3
         obtain ⟨sx0, sx1⟩ := row2k GS.out
         go_wp2_with (with_reducible refine qaz 4 ?_)
         clear sx0 sx1 y0 y1 e0
         refine wpList_stB gs 1 GS.out rfl rfl (by decide) (by kernel_rfl) ?_
         intro w6 hp6
         have GS6 := qHd (show w6.heap[gs]? = some (.cells #[.bool true, .bool true] 4) by rw [hp6]; simp [putL, World.setCell, Array.getElem?_modify, GS.out])
         have SK6 := qHd (SK0.out.put hp6 NS.out (by rw [hp6]; exact putL_os _ _ _ _))
         have HB6 := qHd (putLb hp6 HBQ.out lgs)
         clear hp6
         go_wp2_with (with_reducible refine qbf ?_)
         obtain ⟨w7, hw7, hb7, hx7⟩ := qBx3 w6 (.cells #[.int .i64 1] 3)
         rw [← hw7]
         have GS7 := qHd (qab GS6.out hb7); have SK7 := qHd (qaq SK6.out hb7); have HB7 := qHd (qac HB6.out (Nat.le_refl _) hb7)
         clear hb7 hw7
         have hgs7 := qdc GS7.out
         refine qbo wo.heap.size Tryz.intTyL rfl noUi (by decide) _ 0 [] [.int .i64 1] w6.heap.size 3 rfl rfl SK7.out hx7 rfl rfl noUi noU0 (by decide) (by decide) HB7.out.size ?_
         intro v' w8 ho8 hg8 hfr
         have NS8 := qHd (hfr gs hgs7 NS.out)
         have hSt := stp_own SK7.out hg8
         have GS8 := qHd (hSt.heap GS7.out NS.out)
         have HB8 := qHd (qbm.low SK7.out hg8 HB7.out HB7.out.size)
         have SK8 := qHd (show qbm w8 wo.heap.size 3 1 v' 1 [.int .i64 1] from ho8)
         clear ho8 hg8 hfr hSt hx7 hgs7
         go_wp2_with fail
         go_roundw
         case rel => exact .inr ⟨by first | rfl | go_num, SK8, NS8, GS8, HB8⟩
         case measure => simp [intOf]
        ·go_wp2_with fail
         go_roundw
         case rel => exact .inr (.inl HR)
         case measure => exact mz_01 HR.2.2.1.out HR.1.out GS.out
      ·obtain ⟨so, sc, rfl, hsc, hsc2, _⟩ := qbd SK.out.1
       obtain ⟨gk, rfl, _, _, _, _, hck⟩ := qbi SK.out.1 rfl (by decide)
       have e0 := hck 0 _ rfl
       obtain ⟨f0, f1, f2, f3⟩ := AF.out
       have HBA := qHd (HBO.out.trans (HBQ.out.mono HBO.out.size))
       have y0 := qam f1 HBA.out
       have y1 := qam f3 HBA.out
       have SK0 := qHd (own_zero SK.out)
       have NS0 := qHd NS.out
       have hscz : (1 : Int) ≤ (sc : Int) := by omega
       clear f0 f1 f2 f3 hck
       go_wp2_with (with_reducible first | refine qah ?_ | refine qae ?_)
       clear y0 y1 e0
       refine qal.mk ?_
       obtain ⟨wq, hwq⟩ : ∃ z, z = wp := ⟨_, rfl⟩
       go_loopw [69, 9] (fun i' sv wx => (i' = .int .i64 0 ∧ sv = .slice (some ⟨gk, 0, none⟩) 0 sc ∧ wx = wp) ∨ (i' = .int .i64 1 ∧ (∃ o2 c2, sv = .slice o2 0 c2) ∧ Hid (wx.heap[gs]? = some (.cells #[.bool true, .bool true] 4)) ∧ Hid (Below wo.heap.size wo wx))) (fun i' _ _ => 1 - (intOf i').toNat)
       case atStart => exact .inl ⟨rfl, rfl, rfl⟩
       case round =>
        rcases hrel with ⟨rfl, rfl, rfl⟩ | ⟨rfl, HR⟩
        ·obtain ⟨f0, f1, f2, f3⟩ := AF.out
         have y0 := qam f1 HBA.out
         have y1 := qam f3 HBA.out
         have e0 := hscz
         clear f0 f1 f2 f3
         obtain ⟨sx0, sx1⟩ := row2k GS.out
         go_wp2_with fail
         go_roundw
         case rel => exact .inr ⟨by first | rfl | go_num, ⟨_, _, rfl⟩, GS, HBQ⟩
         case measure => simp [intOf]
        ·go_wp2_with fail
         go_roundw
         case rel => exact .inr (.inr HR)
         case measure => exact mz_12 HR.1 HR.2.1.out GS.out
      ·have RLP := qHd (RL.below RLS.out HBQ.out)
       have NP := qHd (RL.lt RLS.out lgs)
       go_wp2_with (with_reducible refine qbf ?_)
       obtain ⟨w7, hw7, hb7, hx7⟩ := qBx3 wp (.cells #[.slice (some ⟨gs, 0, none⟩) 2 2] 23)
       rw [← hw7]
       have RL7 := qHd (RL.below RLP.out hb7); have GS7 := qHd (qab GS.out hb7); have HB7 := qHd (HBO.out.trans ((qac HBQ.out (Nat.le_refl _) hb7).mono HBO.out.size))
       clear hb7 hw7
       refine qbo W1.heap.size Tryz.boolsTyL rfl noU1 (by decide) _ 0 _ [.slice (some ⟨gs, 0, none⟩) 2 2] wp.heap.size 23 rfl rfl RL7.out.1 hx7 rfl rfl noU1 (noU_sl _) (by decide) (by decide) HB7.out.size ?_
       intro v' w8 ho8 hg8 hfr
       have RL8 := qHd (RL.app RL7.out GS7.out NP.out ho8 hg8 hfr)
       have HB8 := qHd (qbm.low RL7.out.1 hg8 HB7.out HB7.out.size)
       clear ho8 hg8 hfr hx7
       go_wp2_with fail
       go_roundw
       case rel => exact .inr (.inl ⟨by first | rfl | go_num, gs, RL8, HB8⟩)
       case measure => simp [intOf]
    ·obtain ⟨wo, rfl⟩ : ∃ wo : World, wo = wr := ⟨_, rfl⟩
     have HBG := qHd (HB.out.trans (HBO.out.mono HB.out.size))
     obtain ⟨gcx0, gcx1, gcx2, gcx3⟩ := qbn (qab G_gc.out HBG.out)
     go_wp2_with (with_reducible refine qaw ?_)
     clear gcx0 gcx1 gcx2 gcx3
     refine qbj Tryz.boolTyL 2 rfl rfl (by decide) (by decide) (by decide) ?_
     intro w2 hw2 _
     have hb2 : Below wo.heap.size wo w2 := by rw [hw2]; exact qBA _ _
     obtain ⟨gs, hgs⟩ : ∃ g, g = wo.heap.size := ⟨_, rfl⟩
     have hx2 : w2.heap[gs]? = some (.cells #[.bool false, .bool false] 4) := by rw [hw2, hgs, made_2b]; exact heap_alloc_new _ _
     have lgs : wo.heap.size ≤ gs := by omega
     rw [← hgs]
     have GS := qHd hx2; have HB2 := qHd hb2
     clear hx2 hb2 hw2 hgs
     go_wp2_with (with_reducible refine qaz 4 ?_)
     refine wpList_stB gs 1 GS.out rfl rfl (by decide) (by kernel_rfl) ?_
     intro w3 hp3
     have GS3 := qHd (show w3.heap[gs]? = some (.cells #[.bool false, .bool true] 4) by rw [hp3]; simp [putL, World.setCell, Array.getElem?_modify, GS.out])
     have HB3 := qHd (putLb hp3 HB2.out lgs)
     clear hp3 GS HB2
     obtain ⟨w4, hw4, hb4, hx4⟩ := qBx3 w3 (.cells #[.int .i64 1] 3)
     go_wp2_with (with_reducible first | refine qah ?_ | refine qae ?_)
     rw [← hw4]
     clear hw4
     have SK := qHd (own_one hx4 HB3.out.size)
     have NS := qHd (show (Value.slice (some ⟨w3.heap.size, 0, none⟩) 1 1).ownBlock ≠ some gs from fun e => by have h1 := qdc GS3.out; have h2 : w3.heap.size = gs := Option.some.inj e; omega)
     have GS := qHd (qab GS3.out hb4)
     have HB4 := qHd (qac HB3.out (Nat.le_refl _) hb4)
     clear hb4 hx4 GS3 HB3
     refine qal.mk ?_
     go_loopw [9] (fun sv wx => (Hid (qbm wx wo.heap.size 3 1 sv 1 [.int .i64 1]) ∧ Hid (sv.ownBlock ≠ some gs) ∧ Hid (wx.heap[gs]? = some (.cells #[.bool false, .bool true] 4)) ∧ Hid (Below wo.heap.size wo wx)) ∨ (Hid (qbm wx wo.heap.size 3 1 sv 1 [.int .i64 0]) ∧ Hid (sv.ownBlock ≠ some gs) ∧ Hid (wx.heap[gs]? = some (.cells #[.bool true, .bool true] 4)) ∧ Hid (Below wo.heap.size wo wx)) ∨ ((∃ o2 c2, sv = .slice o2 0 c2) ∧ Hid (wx.heap[gs]? = some (.cells #[.bool true, .bool true] 4)) ∧ Hid (Below wo.heap.size wo wx))) (fun sv wx => mz gs sv wx)
     case atStart => exact .inl ⟨SK, NS, GS, HB4⟩
     case round =>
      clear SK NS GS HB4
      obtain ⟨wp, rfl⟩ : ∃ wp : World, wp = wr := ⟨_, rfl⟩
      rcases hrel with ⟨SK, NS, GS, HBQ⟩ | ⟨SK, NS, GS, HBQ⟩ | ⟨⟨o2, c2, rfl⟩, GS, HBQ⟩
      ·obtain ⟨so, sc, rfl, hsc, hsc2, _⟩ := qbd SK.out.1
       obtain ⟨gk, rfl, _, _, _, _, hck⟩ := qbi SK.out.1 rfl (by decide)
       have e0 := hck 0 _ rfl
       obtain ⟨f0, f1, f2, f3⟩ := AF.out
       have HBA := qHd (HBO.out.trans (HBQ.out.mono HBO.out.size))
       have y0 := qam f1 HBA.out
       have y1 := qam f3 HBA.out
       have SK0 := qHd (own_zero SK.out)
       have NS0 := qHd NS.out
       have hscz : (1 : Int) ≤ (sc : Int) := by omega
       clear f0 f1 f2 f3 hck
       go_wp2_with (with_reducible first | refine qah ?_ | refine qae ?_)
       clear y0 y1 e0
       refine qal.mk ?_
       obtain ⟨wq, hwq⟩ : ∃ z, z = wp := ⟨_, rfl⟩
       go_loopw [69, 9] (fun i' sv wx => (i' = .int .i64 0 ∧ sv = .slice (some ⟨gk, 0, none⟩) 0 sc ∧ wx = wp) ∨ (i' = .int .i64 1 ∧ Hid (qbm wx wo.heap.size 3 1 sv 1 [.int .i64 0]) ∧ Hid (sv.ownBlock ≠ some gs) ∧ Hid (wx.heap[gs]? = some (.cells #[.bool true, .bool true] 4)) ∧ Hid (Below wo.heap.size wo wx))) (fun i' _ _ => 1 - (intOf i').toNat)
       case atStart => exact .inl ⟨rfl, rfl, rfl⟩
       case round =>
        rcases hrel with ⟨rfl, rfl, rfl⟩ | ⟨rfl, HR⟩
        ·obtain ⟨f0, f1, f2, f3⟩ := AF.out
         have y0 := qam f1 HBA.out
         have y1 := qam f3 HBA.out
         have e0 := hscz
         clear f0 f1 f2 f3
         obtain ⟨sx0, sx1⟩ := row2k GS.out
         go_wp2_with (with_reducible refine qaz 4 ?_)
         clear sx0 sx1 y0 y1 e0
         refine wpList_stB gs 0 GS.out rfl rfl (by decide) (by kernel_rfl) ?_
         intro w6 hp6
         have GS6 := qHd (show w6.heap[gs]? = some (.cells #[.bool true, .bool true] 4) by rw [hp6]; simp [putL, World.setCell, Array.getElem?_modify, GS.out])
         have SK6 := qHd (SK0.out.put hp6 NS.out (by rw [hp6]; exact putL_os _ _ _ _))
         have HB6 := qHd (putLb hp6 HBQ.out lgs)
         clear hp6
         go_wp2_with (with_reducible refine qbf ?_)
         obtain ⟨w7, hw7, hb7, hx7⟩ := qBx3 w6 (.cells #[.int .i64 0] 3)
         rw [← hw7]
         have GS7 := qHd (qab GS6.out hb7); have SK7 := qHd (qaq SK6.out hb7); have HB7 := qHd (qac HB6.out (Nat.le_refl _) hb7)
         clear hb7 hw7
         have hgs7 := qdc GS7.out
         refine qbo wo.heap.size Tryz.intTyL rfl noUi (by decide) _ 0 [] [.int .i64 0] w6.heap.size 3 rfl rfl SK7.out hx7 rfl rfl noUi noU0 (by decide) (by decide) HB7.out.size ?_
         intro v' w8 ho8 hg8 hfr
         have NS8 := qHd (hfr gs hgs7 NS.out)
         have hSt := stp_own SK7.out hg8
         have GS8 := qHd (hSt.heap GS7.out NS.out)
         have HB8 := qHd (qbm.low SK7.out hg8 HB7.out HB7.out.size)
         have SK8 := qHd (show qbm w8 wo.heap.size 3 1 v' 1 [.int .i64 0] from ho8)
         clear ho8 hg8 hfr hSt hx7 hgs7
         go_wp2_with fail
         go_roundw
         case rel => exact .inr ⟨by first | rfl | go_num, SK8, NS8, GS8, HB8⟩
         case measure => simp [intOf]
        ·go_wp2_with fail
         go_roundw
         case rel => exact .inr (.inl HR)
         case measure => exact mz_01 HR.2.2.1.out HR.1.out GS.out
      ·obtain ⟨so, sc, rfl, hsc, hsc2, _⟩ := qbd SK.out.1
       obtain ⟨gk, rfl, _, _, _, _, hck⟩ := qbi SK.out.1 rfl (by decide)
       have e0 := hck 0 _ rfl
       obtain ⟨f0, f1, f2, f3⟩ := AF.out
       have HBA := qHd (HBO.out.trans (HBQ.out.mono HBO.out.size))
       have y0 := qam f0 HBA.out
       have y1 := qam f2 HBA.out
       have SK0 := qHd (own_zero SK.out)
       have NS0 := qHd NS.out
       have hscz : (1 : Int) ≤ (sc : Int) := by omega
       clear f0 f1 f2 f3 hck
       go_wp2_with (with_reducible first | refine qah ?_ | refine qae ?_)
       clear y0 y1 e0
       refine qal.mk ?_
       obtain ⟨wq, hwq⟩ : ∃ z, z = wp := ⟨_, rfl⟩
       go_loopw [69, 9] (fun i' sv wx => (i' = .int .i64 0 ∧ sv = .slice (some ⟨gk, 0, none⟩) 0 sc ∧ wx = wp) ∨ (i' = .int .i64 1 ∧ (∃ o2 c2, sv = .slice o2 0 c2) ∧ Hid (wx.heap[gs]? = some (.cells #[.bool true, .bool true] 4)) ∧ Hid (Below wo.heap.size wo wx))) (fun i' _ _ => 1 - (intOf i').toNat)
       case atStart => exact .inl ⟨rfl, rfl, rfl⟩
       case round =>
        rcases hrel with ⟨rfl, rfl, rfl⟩ | ⟨rfl, HR⟩
        ·obtain ⟨f0, f1, f2, f3⟩ := AF.out
         have y0 := qam f0 HBA.out
         have y1 := qam f2 HBA.out
         have e0 := hscz
         clear f0 f1 f2 f3
         obtain ⟨sx0, sx1⟩ := row2k GS.out
         go_wp2_with fail
         go_roundw
         case rel => exact .inr ⟨by first | rfl | go_num, ⟨_, _, rfl⟩, GS, HBQ⟩
         case measure => simp [intOf]
        ·go_wp2_with fail
         go_roundw
         case rel => exact .inr (.inr HR)
         case measure => exact mz_12 HR.1 HR.2.1.out GS.out
      ·have RLP := qHd (RL.below RLS.out HBQ.out)
       have NP := qHd (RL.lt RLS.out lgs)
       go_wp2_with (with_reducible refine qbf ?_)
       obtain ⟨w7, hw7, hb7, hx7⟩ := qBx3 wp (.cells #[.slice (some ⟨gs, 0, none⟩) 2 2] 23)
       rw [← hw7]
       have RL7 := qHd (RL.below RLP.out hb7); have GS7 := qHd (qab GS.out hb7); have HB7 := qHd (HBO.out.trans ((qac HBQ.out (Nat.le_refl _) hb7).mono HBO.out.size))
       clear hb7 hw7
       refine qbo W1.heap.size Tryz.boolsTyL rfl noU1 (by decide) _ 1 _ [.slice (some ⟨gs, 0, none⟩) 2 2] wp.heap.size 23 rfl rfl RL7.out.1 hx7 rfl rfl noU1 (noU_sl _) (by decide) (by decide) HB7.out.size ?_
       intro v' w8 ho8 hg8 hfr
       have RL8 := qHd (RL.app RL7.out GS7.out NP.out ho8 hg8 hfr)
       have HB8 := qHd (qbm.low RL7.out.1 hg8 HB7.out HB7.out.size)
       clear ho8 hg8 hfr hx7
       go_wp2_with fail
       go_roundw
       case rel => exact .inr (.inr ⟨by first | rfl | go_num, p0, gs, RL8, HB8⟩)
       case measure => simp [intOf]
    ·go_wp2_with fail
     go_ret
     exact ⟨_, rfl, HBW.out.trans ((HB.out.trans (HBO.out.mono HB.out.size)).mono HBW.out.size), _, _, _, RLS.out⟩
def CL (w : World) (v : Value) : Prop := ∃ g c q cq, v = .slice (some ⟨g, 0, none⟩) 1 c ∧ (1 ≤ c ∧ c ≤ 9223372036854775807) ∧ w.cell? ⟨g, 0, none⟩ = some (.slice (some ⟨q, 0, none⟩) 2 cq) ∧ (2 ≤ cq ∧ cq ≤ 9223372036854775807) ∧ w.cell? ⟨q, 0, none⟩ = some (.int .i64 0) ∧ w.cell? ⟨q, 1, none⟩ = some (.int .i64 1)
theorem CL.below {w w' : World} {v : Value} (h : CL w v) (hb : Below w.heap.size w w') : CL w' v := by
 obtain ⟨g, c, q, cq, h1, h2, h3, h4, h5, h6⟩ := h
 exact ⟨g, c, q, cq, h1, h2, qak h3 hb, h4, qak h5 hb, qak h6 hb⟩
theorem CL.of {w : World} {B B2 : Nat} {v : Value} {so : Option Addr} {sc : Nat} (h : qbm w B 70 1 v 1 [.slice so 2 sc]) (k : qbm w B2 3 1 (.slice so 2 sc) 2 [.int .i64 0, .int .i64 1]) : CL w v := by
 obtain ⟨o1, c1, rfl, h1, h2, _⟩ := qbd h.1
 obtain ⟨g, rfl, _, _, _, _, hc⟩ := qbi h.1 rfl (by decide)
 obtain ⟨q, rfl, _, _, _, _, kc⟩ := qbi k.1 rfl (by decide)
 obtain ⟨o2, c2, e2, k1, k2, _⟩ := qbd k.1
 cases e2
 exact ⟨g, c1, q, sc, rfl, ⟨h1, h2⟩, hc 0 _ rfl, ⟨k1, k2⟩, kc 0 _ rfl, kc 1 _ rfl⟩
def RetCL (w : World) (e : Ending) (w' : World) : Prop := ∃ v, e = .returned v ∧ Below w.heap.size w w' ∧ CL w' v
theorem closed2_any (vc : Value) (w : World) (hc : ChI w vc 2 0 pairM pairD) : Calls Tryz.prog 34 #[vc] w (RetCL w) := by
 have HC := qHd hc
 obtain ⟨mo, mc, bo, bc, rfl, hM, hB, hmc, hbc⟩ := hc
 rw [show pairM.length = 2 from rfl] at hmc HC ⊢
 rw [show pairD.length = 2 from rfl] at hbc HC ⊢
 have HC := qHd (show ChI w (.agg #[.int .i64 2, .int .i64 0, .slice mo 2 mc, .slice bo 2 bc]) 2 0 pairM pairD from HC.out)
 clear hB hM
 show Calls _ _ #[.agg #[.int .i64 2, .int .i64 0, .slice mo 2 mc, .slice bo 2 bc]] w _
 obtain ⟨W, hW⟩ : ∃ z0, z0 = w.alloc (.cells #[.int .i64 2, .int .i64 0, .slice mo 2 mc, .slice bo 2 bc] 25) := ⟨_, rfl⟩
 have b_W : Below w.heap.size w W := by rw [hW]; exact qBA _ _
 have s_W : W.heap.size = w.heap.size + 1 := by rw [hW]; exact Array.size_push (xs := w.heap) _
 have hg_gc : W.heap[w.heap.size]? = some (.cells #[.int .i64 2, .int .i64 0, .slice mo 2 mc, .slice bo 2 bc] 25) := (by rw [hW]; exact heap_alloc_new w _)
 have HBW := qHd (show Below w.heap.size w W from b_W)
 obtain ⟨gc, hgc⟩ : ∃ g, g = w.heap.size := ⟨_, rfl⟩
 rw [← hgc] at hg_gc
 have l_gc : w.heap.size ≤ gc ∧ gc < W.heap.size := by rw [s_W]; omega
 have G_gc := qHd hg_gc
 obtain ⟨gcx0, gcx1, gcx2, gcx3⟩ := qbn hg_gc
 rw [hW, hgc] at gcx0 gcx1 gcx2 gcx3
 clear hg_gc b_W s_W
 have HK := qHd (reach2_any _ W (HC.out.below HBW.out))
 go_enter Tryz.func34, Tryz.ntmps34
 go_wp2_with (with_reducible refine qag ?_)
 rw [← hW, ← hgc]
 clear hW hgc
 clear gcx0 gcx1 gcx2 gcx3
 refine qal.mk ?_
 (with_reducible refine HK.out.mono ?_); rintro e W1 ⟨v, rfl, hb1, B, p0, p1, hR⟩
 have HB1 := qHd (HBW.out.trans (hb1.mono HBW.out.size))
 obtain ⟨ro, rc, rfl, hrc, hrc2, _⟩ := qbd hR.1.1
 obtain ⟨gv, rfl, _, _, _, _, hcc⟩ := qbi hR.1.1 rfl (Nat.zero_lt_two)
 obtain ⟨x0, x1⟩ := row2k (hR.2 p0 (by simp)).1
 obtain ⟨x2, x3⟩ := row2k (hR.2 p1 (by simp)).1
 have AF := qHd (And.intro (qcy (hcc 0 (.slice (some ⟨p0, 0, none⟩) 2 2) rfl)) (And.intro (qcy (hcc 1 (.slice (some ⟨p1, 0, none⟩) 2 2) rfl)) (And.intro (qcy x0) (And.intro (qcy x1) (And.intro (qcy x2) (qcy x3))))))
 clear hb1 HK hcc x0 x1 x2 x3 hR HC
 rw [show [p0, p1].length = 2 from rfl] at hrc ⊢
 go_wp2_with (with_reducible first | refine qah ?_ | refine qae ?_)
 refine qal.mk ?_
 go_loopw [15, 4] (fun i' cl wx => (i' = .int .i64 0 ∧ cl = .slice none 0 0 ∧ Hid (Below W1.heap.size W1 wx)) ∨ (i' = .int .i64 1 ∧ Hid (CL wx cl) ∧ Hid (Below W1.heap.size W1 wx)) ∨ (i' = .int .i64 2 ∧ Hid (CL wx cl) ∧ Hid (Below W1.heap.size W1 wx))) (fun i' _ _ => 2 - (intOf i').toNat)
 case atStart => exact .inl ⟨rfl, rfl, qHd (Below.refl _ _)⟩
 case round =>
 rcases hrel with ⟨rfl, rfl, HBO⟩ | ⟨rfl, CLS, HBO⟩ | ⟨rfl, CLS, HBO⟩
 ·obtain ⟨wo, rfl⟩ : ∃ wo : World, wo = wr := ⟨_, rfl⟩
  obtain ⟨f0, f1, f2, f3, f4, f5⟩ := AF.out
  have y0 := qam f0 HBO.out; have y1 := qam f1 HBO.out
  clear f0 f1 f2 f3 f4 f5
  go_wp2_with (with_reducible first | refine qah ?_ | refine qae ?_)
  clear y0 y1
  refine qal.mk ?_
  go_loopw [22, 7, 8] (fun j' cv fb wx => (j' = .int .i64 0 ∧ cv = .slice none 0 0 ∧ fb = .bool true ∧ Hid (Below wo.heap.size wo wx)) ∨ (j' = .int .i64 1 ∧ Hid (qbm wx wo.heap.size 3 1 cv 1 [.int .i64 0]) ∧ fb = .bool true ∧ Hid (Below wo.heap.size wo wx)) ∨ (j' = .int .i64 2 ∧ Hid (qbm wx wo.heap.size 3 1 cv 2 [.int .i64 0, .int .i64 1]) ∧ fb = .bool true ∧ Hid (Below wo.heap.size wo wx))) (fun j' _ _ _ => 2 - (intOf j').toNat)
  case atStart => exact .inl ⟨rfl, rfl, rfl, qHd (Below.refl _ _)⟩
  case round =>
   rcases hrel with ⟨rfl, rfl, rfl, HBQ⟩ | ⟨rfl, SK, rfl, HBQ⟩ | ⟨rfl, SK, rfl, HBQ⟩
   ·obtain ⟨wp, rfl⟩ : ∃ wp : World, wp = wr := ⟨_, rfl⟩
    obtain ⟨f0, f1, f2, f3, f4, f5⟩ := AF.out
    have HBA := qHd (HBO.out.trans (HBQ.out.mono HBO.out.size))
    have y0 := qam f0 HBA.out; have y1 := qam f1 HBA.out; have y2 := qam f2 HBA.out; have y3 := qam f3 HBA.out; have y4 := qam f4 HBA.out; have y5 := qam f5 HBA.out
    clear f0 f1 f2 f3 f4 f5
    go_wp2_with (with_reducible refine qbf ?_)
    clear y0 y1 y2 y3 y4 y5
    obtain ⟨w7, hw7, hb7, hx7⟩ := qBx3 wp (.cells #[.int .i64 0] 3)
    rw [← hw7]
    have HB7 := qHd (qac HBQ.out (Nat.le_refl _) hb7)
    clear hb7 hw7
    refine qbo wo.heap.size Tryz.intTyL rfl noUi (by decide) _ 0 [] [.int .i64 0] wp.heap.size 3 rfl rfl (qbm.nil _ wo.heap.size 3 1) hx7 rfl rfl noUi noU0 (by decide) (by decide) HB7.out.size ?_
    intro v' w8 ho8 hg8 _
    have HB8 := qHd (qbm.low (qbm.nil _ wo.heap.size 3 1) hg8 HB7.out HB7.out.size)
    have SK8 := qHd (show qbm w8 wo.heap.size 3 1 v' 1 [.int .i64 0] from ho8)
    clear ho8 hg8 hx7
    go_wp2_with fail
    go_roundw
    case rel => exact .inr (.inl ⟨by first | rfl | go_num, SK8, rfl, HB8⟩)
    case measure => simp [intOf]
   ·obtain ⟨wp, rfl⟩ : ∃ wp : World, wp = wr := ⟨_, rfl⟩
    obtain ⟨so, sc, rfl, hsc, hsc2, _⟩ := qbd SK.out.1
    obtain ⟨f0, f1, f2, f3, f4, f5⟩ := AF.out
    have HBA := qHd (HBO.out.trans (HBQ.out.mono HBO.out.size))
    have y0 := qam f0 HBA.out; have y1 := qam f1 HBA.out; have y2 := qam f2 HBA.out; have y3 := qam f3 HBA.out; have y4 := qam f4 HBA.out; have y5 := qam f5 HBA.out
    clear f0 f1 f2 f3 f4 f5
    go_wp2_with (with_reducible refine qbf ?_)
    clear y0 y1 y2 y3 y4 y5
    obtain ⟨w7, hw7, hb7, hx7⟩ := qBx3 wp (.cells #[.int .i64 1] 3)
    rw [← hw7]
    have SKQ := qHd (qaq SK.out hb7)
    have HB7 := qHd (qac HBQ.out (Nat.le_refl _) hb7)
    clear hb7 hw7
    refine qbo wo.heap.size Tryz.intTyL rfl noUi (by decide) _ 1 [.int .i64 0] [.int .i64 1] wp.heap.size 3 rfl rfl SKQ.out hx7 rfl rfl noUi (noU_ivals [0]) (by decide) (by decide) HB7.out.size ?_
    intro v' w8 ho8 hg8 _
    have HB8 := qHd (qbm.low SKQ.out hg8 HB7.out HB7.out.size)
    have SK8 := qHd (show qbm w8 wo.heap.size 3 1 v' 2 [.int .i64 0, .int .i64 1] from ho8)
    clear ho8 hg8 hx7
    go_wp2_with fail
    go_roundw
    case rel => exact .inr (.inr ⟨by first | rfl | go_num, SK8, rfl, HB8⟩)
    case measure => simp [intOf]
   ·obtain ⟨wp, rfl⟩ : ∃ wp : World, wp = wr := ⟨_, rfl⟩
    obtain ⟨so, sc, rfl, hsc, hsc2, _⟩ := qbd SK.out.1
    go_wp2_with (with_reducible refine qbf ?_)
    obtain ⟨w7, hw7, hb7, hx7⟩ := qBx3 wp (.cells #[.slice so 2 sc] 70)
    rw [← hw7]
    have SKQ := qHd (qaq SK.out hb7); have HB7 := qHd (HBO.out.trans ((qac HBQ.out (Nat.le_refl _) hb7).mono HBO.out.size))
    clear hb7 hw7
    refine qbo W1.heap.size Tryz.intsTyL rfl noU1 (by decide) _ 0 [] [.slice so 2 sc] wp.heap.size 70 rfl rfl (qbm.nil _ _ _ _) hx7 rfl rfl noU1 noU0 (by decide) (by decide) HB7.out.size ?_
    intro v' w8 ho8 hg8 _
    have HB8 := qHd (qbm.low (qbm.nil _ W1.heap.size 70 1) hg8 HB7.out HB7.out.size)
    have SK8 := SKQ.out.kept hg8 (fun g hg e => by cases e)
    have CL8 := qHd (CL.of ho8 SK8)
    clear ho8 hg8 hx7 SK8
    go_wp2_with fail
    go_roundw
    case rel => exact .inr (.inl ⟨by first | rfl | go_num, CL8, HB8⟩)
    case measure => simp [intOf]
 ·obtain ⟨wo, rfl⟩ : ∃ wo : World, wo = wr := ⟨_, rfl⟩
  obtain ⟨f0, f1, f2, f3, f4, f5⟩ := AF.out
  have y0 := qam f0 HBO.out; have y1 := qam f1 HBO.out
  clear f0 f1 f2 f3 f4 f5
  go_wp2_with (with_reducible first | refine qah ?_ | refine qae ?_)
  clear y0 y1
  refine qal.mk ?_
  go_loopw [22, 7, 8] (fun j' cv fb wx => (j' = .int .i64 0 ∧ cv = .slice none 0 0 ∧ fb = .bool true ∧ Hid (Below wo.heap.size wo wx)) ∨ (j' = .int .i64 1 ∧ Hid (qbm wx wo.heap.size 3 1 cv 1 [.int .i64 0]) ∧ fb = .bool false ∧ Hid (Below wo.heap.size wo wx)) ∨ (j' = .int .i64 2 ∧ Hid (qbm wx wo.heap.size 3 1 cv 2 [.int .i64 0, .int .i64 1]) ∧ fb = .bool false ∧ Hid (Below wo.heap.size wo wx))) (fun j' _ _ _ => 2 - (intOf j').toNat)
  case atStart => exact .inl ⟨rfl, rfl, rfl, qHd (Below.refl _ _)⟩
  case round =>
   rcases hrel with ⟨rfl, rfl, rfl, HBQ⟩ | ⟨rfl, SK, rfl, HBQ⟩ | ⟨rfl, SK, rfl, HBQ⟩
   ·obtain ⟨wp, rfl⟩ : ∃ wp : World, wp = wr := ⟨_, rfl⟩
    obtain ⟨f0, f1, f2, f3, f4, f5⟩ := AF.out
    have HBA := qHd (HBO.out.trans (HBQ.out.mono HBO.out.size))
    have y0 := qam f0 HBA.out; have y1 := qam f1 HBA.out; have y2 := qam f2 HBA.out; have y3 := qam f3 HBA.out; have y4 := qam f4 HBA.out; have y5 := qam f5 HBA.out
    clear f0 f1 f2 f3 f4 f5
    go_wp2_with (with_reducible refine qbf ?_)
    clear y0 y1 y2 y3 y4 y5
    obtain ⟨w7, hw7, hb7, hx7⟩ := qBx3 wp (.cells #[.int .i64 0] 3)
    rw [← hw7]
    have HB7 := qHd (qac HBQ.out (Nat.le_refl _) hb7)
    clear hb7 hw7
    refine qbo wo.heap.size Tryz.intTyL rfl noUi (by decide) _ 0 [] [.int .i64 0] wp.heap.size 3 rfl rfl (qbm.nil _ wo.heap.size 3 1) hx7 rfl rfl noUi noU0 (by decide) (by decide) HB7.out.size ?_
    intro v' w8 ho8 hg8 _
    have HB8 := qHd (qbm.low (qbm.nil _ wo.heap.size 3 1) hg8 HB7.out HB7.out.size)
    have SK8 := qHd (show qbm w8 wo.heap.size 3 1 v' 1 [.int .i64 0] from ho8)
    clear ho8 hg8 hx7
    go_wp2_with fail
    go_roundw
    case rel => exact .inr (.inl ⟨by first | rfl | go_num, SK8, rfl, HB8⟩)
    case measure => simp [intOf]
   ·obtain ⟨wp, rfl⟩ : ∃ wp : World, wp = wr := ⟨_, rfl⟩
    obtain ⟨so, sc, rfl, hsc, hsc2, _⟩ := qbd SK.out.1
    obtain ⟨f0, f1, f2, f3, f4, f5⟩ := AF.out
    have HBA := qHd (HBO.out.trans (HBQ.out.mono HBO.out.size))
    have y0 := qam f0 HBA.out; have y1 := qam f1 HBA.out; have y2 := qam f2 HBA.out; have y3 := qam f3 HBA.out; have y4 := qam f4 HBA.out; have y5 := qam f5 HBA.out
    clear f0 f1 f2 f3 f4 f5
    go_wp2_with (with_reducible refine qbf ?_)
    clear y0 y1 y2 y3 y4 y5
    obtain ⟨w7, hw7, hb7, hx7⟩ := qBx3 wp (.cells #[.int .i64 1] 3)
    rw [← hw7]
    have SKQ := qHd (qaq SK.out hb7)
    have HB7 := qHd (qac HBQ.out (Nat.le_refl _) hb7)
    clear hb7 hw7
    refine qbo wo.heap.size Tryz.intTyL rfl noUi (by decide) _ 1 [.int .i64 0] [.int .i64 1] wp.heap.size 3 rfl rfl SKQ.out hx7 rfl rfl noUi (noU_ivals [0]) (by decide) (by decide) HB7.out.size ?_
    intro v' w8 ho8 hg8 _
    have HB8 := qHd (qbm.low SKQ.out hg8 HB7.out HB7.out.size)
    have SK8 := qHd (show qbm w8 wo.heap.size 3 1 v' 2 [.int .i64 0, .int .i64 1] from ho8)
    clear ho8 hg8 hx7
    go_wp2_with fail
    go_roundw
    case rel => exact .inr (.inr ⟨by first | rfl | go_num, SK8, rfl, HB8⟩)
    case measure => simp [intOf]
   ·obtain ⟨wp, rfl⟩ : ∃ wp : World, wp = wr := ⟨_, rfl⟩
    obtain ⟨so, sc, rfl, hsc, hsc2, _⟩ := qbd SK.out.1
    have HB8 := qHd (HBO.out.trans (HBQ.out.mono HBO.out.size))
    have CL8 := qHd (CLS.out.below HBQ.out)
    go_wp2_with fail
    go_roundw
    case rel => exact .inr (.inr ⟨by first | rfl | go_num, CL8, HB8⟩)
    case measure => simp [intOf]
 ·go_wp2_with fail
  go_ret
  exact ⟨_, rfl, HB1.out.trans (HBO.out.mono HB1.out.size), CLS.out⟩
theorem Tryz.lawI : Maps.Keyed Tryz.prog 3 := Maps.int_keyed Tryz.underlying3
theorem Tryz.zeroI (w : World) : (zeroValue 3).run Tryz.prog w = .ok (.int .i64 0) w := by kernel_rfl
def dm : Nat → DataW Unit
 | 0 => .map []
 | n + 1 => (dm n).put (.int .i64 (n : Nat)) (.lit (.int .i64 (n : Nat)))
def MpW (w : World) (b k : Nat) : Prop := w.ownsMap Tryz.prog 3 (plainElem Tryz.prog 3) b k (dm k)
theorem MpW.made (w : World) : MpW (w.alloc (.map #[] 0)) w.heap.size 0 := World.ownsMap_made _ _ _ _
theorem MpW.kept {w w' : World} {b k : Nat} {r : Option Nat} (h : MpW w b k) (hg : w.grownBy w' r) (hne : r ≠ some b) : MpW w' b k := World.ownsMap.kept h hg (fun e => hne e.symm)
theorem MpW.below {w w' : World} {b k : Nat} (h : MpW w b k) (hb : Below w.heap.size w w') : MpW w' b k := h.kept (below_gr hb) (by simp)
theorem MpW.ne {w : World} {b k g : Nat} {cs : Array Value} {T : TypeId} (h : MpW w b k) (hg : w.heap[g]? = some (.cells cs T)) : g ≠ b := by
 obtain ⟨es, clock, hb, _⟩ := h
 intro e
 rw [e, hb] at hg; cases hg
section
variable {P : Program} {ops : Array Oper} {rest : List Oper} {a : Act} {w : World} {Q : Exit → Act → World → Prop} {d : Option Tmp} {t tt : TypeId} {m x v : Operand} {pos : String} {af : Array Edge} {c : Bool}
theorem wpList_pauseMu (h : qal (wpList P ops Q (⟨d, .mapUpdate t m x v, tt, pos, af, none⟩ :: rest) a w)) : wpList P ops Q (⟨d, .mapUpdate t m x v, tt, pos, af, none⟩ :: rest) a w := h
theorem wpList_pauseLk (h : qal (wpList P ops Q (⟨d, .lookup t m x c, tt, pos, af, none⟩ :: rest) a w)) : wpList P ops Q (⟨d, .lookup t m x c, tt, pos, af, none⟩ :: rest) a w := h
end
section
variable {ops : Array Oper} {rest : List Oper} {a : Act} {w : World} {Q : Exit → Act → World → Prop} {d : Option Tmp} {tt : TypeId} {m x v : Operand} {pos : String} {af : Array Edge}
theorem wpList_mu (b k : Nat) (hm : a.eval m = .map (some b)) (h : MpW w b k) (hk : k < 100) (hx : a.eval x = .int .i64 (k : Nat)) (hv : a.eval v = .int .i64 (k : Nat))
  (hK : ∀ w', MpW w' b (k + 1) → w.grownBy w' (some b) → wpList Tryz.prog ops Q rest (a.put d undef) w') : qal (wpList Tryz.prog ops Q (⟨d, .mapUpdate 71 m x v, tt, pos, af, none⟩ :: rest) a w) := by
 have hw : (Lit.int .i64 (k : Nat)).wf = true := by
  simp only [Lit.wf, Bool.and_eq_true, decide_eq_true_eq]
  have h1 : IntKind.i64.min = -9223372036854775808 := by decide
  have h2 : IntKind.i64.max = 9223372036854775807 := by decide
  rw [h1, h2]; omega
 exact wpList_mapUpdate_own w rfl m x v _ rfl _ _ Tryz.lawI Tryz.underlying71 _ b k _ hm h (by unfold maxLen; omega) _ _ _ hx hv (Maps.keyOf_int_mk Tryz.underlying3 hw) _ [] (plainElem_int Tryz.underlying3 hw) hK
theorem dm_at (k : Nat) (hk : k < 2) (z : DataW Unit) : (dm 2).atKey (.int .i64 (k : Nat)) z = .lit (.int .i64 (k : Nat)) ∧ Maps.has (dm 2) (.int .i64 (k : Nat)) = true := by
 have : k = 0 ∨ k = 1 := by omega
 rcases this with rfl | rfl
 ·exact ⟨rfl, rfl⟩
 ·exact ⟨rfl, rfl⟩
theorem key_wf {k : Nat} (hk : k < 2) : (Lit.int .i64 (k : Nat)).wf = true := by
 simp only [Lit.wf, Bool.and_eq_true, decide_eq_true_eq]
 have h1 : IntKind.i64.min = -9223372036854775808 := by decide
 have h2 : IntKind.i64.max = 9223372036854775807 := by decide
 rw [h1, h2]; omega
theorem wpList_lkO (b k : Nat) (hm : a.eval m = .map (some b)) (h : MpW w b 2) (hk : k < 2) (hx : a.eval x = .int .i64 (k : Nat))
  (hK : wpList Tryz.prog ops Q rest (a.put d (.tuple #[.int .i64 (k : Nat), .bool true])) w) : qal (wpList Tryz.prog ops Q (⟨d, .lookup 71 m x true, tt, pos, af, none⟩ :: rest) a w) := by
 refine wpList_lookup_own_ok_int w rfl m x _ rfl _ _ .i64 Tryz.lawI Tryz.underlying71 Tryz.underlying3 (Tryz.zeroI _) b 2 _ hm h _ _ hx (Maps.keyOf_int_mk Tryz.underlying3 (key_wf hk)) (fun c hat _ => ?_)
 rw [(dm_at k hk _).1] at hat
 have hc : c = (k : Int) := by injection hat with h1; injection h1 with h2 h3; exact h3.symm
 rw [hc, (dm_at k hk (.lit (.int .i64 0))).2]
 exact hK
theorem wpList_lk (b k : Nat) (hm : a.eval m = .map (some b)) (h : MpW w b 2) (hk : k < 2) (hx : a.eval x = .int .i64 (k : Nat))
  (hK : wpList Tryz.prog ops Q rest (a.put d (.int .i64 (k : Nat))) w) : qal (wpList Tryz.prog ops Q (⟨d, .lookup 71 m x false, tt, pos, af, none⟩ :: rest) a w) := by
 refine wpList_lookup_own_int w rfl m x _ rfl _ _ .i64 Tryz.lawI Tryz.underlying71 Tryz.underlying3 (Tryz.zeroI _) b 2 _ hm h _ _ hx (Maps.keyOf_int_mk Tryz.underlying3 (key_wf hk)) (fun c hat _ => ?_)
 rw [(dm_at k hk _).1] at hat
 have hc : c = (k : Int) := by injection hat with h1; injection h1 with h2 h3; exact h3.symm
 rw [hc]
 exact hK
end
def M2 (x y z t : Rat) : Nat → Nat → Rat := fun i j => if i = 0 then (if j = 0 then x else y) else (if j = 0 then z else t)
theorem M2_00 (x y z t q : Rat) : ∀ i, i < 2 → ∀ j, j < 2 → (if i = 0 then updR (M2 x y z t 0) 0 q else M2 x y z t i) j = M2 q y z t i j := by
 intro i hi j hj
 have h1 : i = 0 ∨ i = 1 := by omega
 have h2 : j = 0 ∨ j = 1 := by omega
 rcases h1 with rfl | rfl <;> rcases h2 with rfl | rfl <;> rfl
theorem M2_01 (x y z t q : Rat) : ∀ i, i < 2 → ∀ j, j < 2 → (if i = 0 then updR (M2 x y z t 0) 1 q else M2 x y z t i) j = M2 x q z t i j := by
 intro i hi j hj
 have h1 : i = 0 ∨ i = 1 := by omega
 have h2 : j = 0 ∨ j = 1 := by omega
 rcases h1 with rfl | rfl <;> rcases h2 with rfl | rfl <;> rfl
theorem M2_10 (x y z t q : Rat) : ∀ i, i < 2 → ∀ j, j < 2 → (if i = 1 then updR (M2 x y z t 1) 0 q else M2 x y z t i) j = M2 x y q t i j := by
 intro i hi j hj
 have h1 : i = 0 ∨ i = 1 := by omega
 have h2 : j = 0 ∨ j = 1 := by omega
 rcases h1 with rfl | rfl <;> rcases h2 with rfl | rfl <;> rfl
theorem M2_11 (x y z t q : Rat) : ∀ i, i < 2 → ∀ j, j < 2 → (if i = 1 then updR (M2 x y z t 1) 1 q else M2 x y z t i) j = M2 x y z q i j := by
 intro i hi j hj
 have h1 : i = 0 ∨ i = 1 := by omega
 have h2 : j = 0 ∨ j = 1 := by omega
 rcases h1 with rfl | rfl <;> rcases h2 with rfl | rfl <;> rfl
theorem rl_sm8 (z : Int) (h : z.natAbs ≤ 8) : rl (z : Rat) ≤ 1 := by
 have h1 : DenB 1 (z : Rat) := ⟨z, by grind⟩
 have hz : -(8 : Int) ≤ z ∧ z ≤ 8 := by omega
 have k1 : -(((8 : Nat)) : Rat) ≤ (z : Rat) := by
  have : ((-8 : Int) : Rat) ≤ (z : Rat) := by exact_mod_cast hz.1
  have e : ((-8 : Int) : Rat) = -(((8 : Nat)) : Rat) := rfl
  rw [← e]; exact this
 have k2 : (z : Rat) ≤ (((8 : Nat)) : Rat) := by exact_mod_cast hz.2
 refine Nat.le_trans (rl_den (D := 1) (c := 8) (by decide) (by decide) h1 k1 k2) ?_
 exact p2_len (e := 4) (by unfold p2; decide) (by decide)
theorem cnt_small (z : Int) (h : z.natAbs ≤ 8) : Cnt 1 (bk 0) (z : Rat) := ⟨z, by grind, by rw [bk_zero]; exact Nat.le_trans h (Nat.le_trans (show 8 ≤ p2 3 by unfold p2; decide) (qcv (by decide)))⟩
def AM : Nat → Nat → Rat := M2 (-1) 3 1 1
def BM : Nat → Rat := fun i => if i = 0 then 0 else 1
theorem am_sz : SzM (aug2 AM BM 2) 2 3 (bk 0) := by
 refine ⟨1, by decide, by rw [bk_zero]; exact Nat.le_trans (show 1 ≤ p2 0 by unfold p2; decide) (qcv (by decide)), fun i hi j hj => ?_⟩
 have hi2 : i = 0 ∨ i = 1 := by omega
 have hj3 : j = 0 ∨ j = 1 ∨ j = 2 := by omega
 rcases hi2 with rfl | rfl <;> rcases hj3 with rfl | rfl | rfl
 ·exact cnt_small (-1) (by decide)
 ·exact cnt_small 3 (by decide)
 ·exact cnt_small 0 (by decide)
 ·exact cnt_small 1 (by decide)
 ·exact cnt_small 1 (by decide)
 ·exact cnt_small 1 (by decide)
theorem am_rl : ∀ i, i < 2 → ∀ j, j < 2 → rl (AM i j) ≤ 100000 := by
 intro i hi j hj
 have hi2 : i = 0 ∨ i = 1 := by omega
 have hj2 : j = 0 ∨ j = 1 := by omega
 rcases hi2 with rfl | rfl <;> rcases hj2 with rfl | rfl
 ·exact Nat.le_trans (rl_sm8 (-1) (by decide)) (by decide)
 ·exact Nat.le_trans (rl_sm8 3 (by decide)) (by decide)
 ·exact Nat.le_trans (rl_sm8 1 (by decide)) (by decide)
 ·exact Nat.le_trans (rl_sm8 1 (by decide)) (by decide)
theorem bm_rl : ∀ i, i < 2 → rl (BM i) ≤ 100000 := by
 intro i hi
 have hi2 : i = 0 ∨ i = 1 := by omega
 rcases hi2 with rfl | rfl
 ·exact Nat.le_trans (rl_sm8 0 (by decide)) (by decide)
 ·exact Nat.le_trans (rl_sm8 1 (by decide)) (by decide)
theorem am_ns : NonSing (aug2 AM BM 2) 2 := by
 intro z hz h0 j hj
 have e0 := hz 0 (by decide)
 have e1 := hz 1 (by decide)
 have f0 : (-1 : Rat) * z 0 + 3 * z 1 + 0 * z 2 = 0 := by
  rw [← e0]; simp only [dotM, qcq, aug2, AM, BM, M2]; simp <;> grind
 have f1 : (1 : Rat) * z 0 + 1 * z 1 + 1 * z 2 = 0 := by
  rw [← e1]; simp only [dotM, qcq, aug2, AM, BM, M2]; simp <;> grind
 have hj2 : j = 0 ∨ j = 1 := by omega
 rcases hj2 with rfl | rfl <;> grind
theorem am_row0 (s : Nat → Rat) : qcq (fun j => AM 0 j * s j) 2 = -1 * s 0 + 3 * s 1 := by
 show (0 + (-1 : Rat) * s 0) + 3 * s 1 = _; grind
theorem am_row1 (s : Nat → Rat) : qcq (fun j => AM 1 j * s j) 2 = s 0 + s 1 := by
 show (0 + (1 : Rat) * s 0) + 1 * s 1 = _; grind
theorem am_sol {sol : Nat → Rat} (h : ∀ i, i < 2 → qcq (fun j => AM i j * sol j) 2 = BM i) : sol 1 = 1 / 4 := by
 have e0 := h 0 (by decide)
 have e1 := h 1 (by decide)
 rw [am_row0] at e0
 rw [am_row1] at e1
 have b0 : BM 0 = 0 := rfl
 have b1 : BM 1 = 1 := rfl
 rw [b0] at e0
 rw [b1] at e1
 clear h b0 b1
 grind
end Go.Proofs.YtblekfkmianmeaaGreatDoor
