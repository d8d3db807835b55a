/-
  What the law leans on, one text behind the other (the base).
  Conditions: each theorem's own.
-/
import Derived.Lib.SmallJoins
import Derived.Deep.Grids
import Derived.Carry
import Derived.ShutString
import Derived.OpenShut
import Derived.Test.YtblekfkmianmeaaGreatDoorMA6
set_option maxRecDepth 100000
set_option maxHeartbeats 16000000
namespace Go.Proofs.YtblekfkmianmeaaGreatDoor
open Go.RowKit Go.ChangeShapes Go.WideShapes
def RetSt (w : World) (e : Ending) (w' : World) : Prop := ∃ sol, RetFrE w 2 sol e w' ∧ sol 1 = 1 / 4
theorem ssolve_any (vc : Value) (w : World) (hc : ChI w vc 2 0 pairM pairD) : Calls Tryz.prog 15 #[vc] w (RetSt w) := by
 have HC := qHd hc
 have hmm := @run_makeMap Tryz.prog
 obtain ⟨mo, mc, bo, bc, rfl, hM, hB, hmc, hbc⟩ := hc
 rw [show pairM.length = 2 from rfl] at hmc HC hM ⊢
 rw [show pairD.length = 2 from rfl] at hbc HC ⊢
 have HC := qHd (show ChI w (.agg #[.int .i64 2, .int .i64 0, .slice mo 2 mc, .slice bo 2 bc]) 2 0 pairM pairD from HC.out)
 clear hB
 show Calls _ _ #[.agg #[.int .i64 2, .int .i64 0, .slice mo 2 mc, .slice bo 2 bc]] w _
 obtain ⟨W, hW⟩ : ∃ z0, z0 = w.alloc (.cells #[.int .i64 2, .int .i64 0, .slice mo 2 mc, .slice bo 2 bc] 25) := ⟨_, rfl⟩
 have b_W : Below w.heap.size w W := by rw [hW]; exact qBA _ _
 have s_W : W.heap.size = w.heap.size + 1 := by rw [hW]; exact Array.size_push (xs := w.heap) _
 have hg_gc : W.heap[w.heap.size]? = some (.cells #[.int .i64 2, .int .i64 0, .slice mo 2 mc, .slice bo 2 bc] 25) := (by rw [hW]; exact heap_alloc_new w _)
 have HBW := qHd (show Below w.heap.size w W from b_W)
 obtain ⟨gc, hgc⟩ : ∃ g, g = w.heap.size := ⟨_, rfl⟩
 rw [← hgc] at hg_gc
 have l_gc : w.heap.size ≤ gc ∧ gc < W.heap.size := by rw [s_W]; omega
 have G_gc := qHd hg_gc
 obtain ⟨gcx0, gcx1, gcx2, gcx3⟩ := qbn hg_gc
 rw [hW, hgc] at gcx0 gcx1 gcx2 gcx3
 clear hg_gc b_W s_W
 have HM := qHd (hM.below HBW.out)
 have HK := qHd (ccheck_any _ 2 0 pairM pairD W (HC.out.below HBW.out) pair_gch)
 clear hM
 go_enter Tryz.func15, Tryz.ntmps15
 go_wp2_with (with_reducible refine qag ?_)
 rw [← hW, ← hgc]
 clear hW hgc
 clear gcx0 gcx1 gcx2 gcx3
 refine qal.mk ?_
 (with_reducible refine HK.out.mono ?_); rintro e w1 ⟨rfl, hb1⟩
 have HB := qHd hb1; clear hb1 HK
 obtain ⟨gcx0, gcx1, gcx2, gcx3⟩ := qbn (qab G_gc.out HB.out)
 have HK := qHd (closed2_any _ w1 ((HC.out.below HBW.out).below HB.out))
 go_wp2_with (with_reducible refine qag ?_)
 clear gcx0 gcx1 gcx2 gcx3
 refine qal.mk ?_
 (with_reducible refine HK.out.mono ?_); rintro e W1 ⟨v, rfl, hb2, gcl, ccl, q, cq, rfl, hcc, f0, hcq, f1, f2⟩
 have HB1 := qHd (HB.out.trans (hb2.mono HB.out.size))
 have AF := qHd (And.intro (qcy f0) (And.intro (qcy f1) (qcy f2)))
 clear hb2 HK HB
 obtain ⟨w3, hw3⟩ : ∃ z0, z0 = W1.alloc (.map #[] 0) := ⟨_, rfl⟩
 have hb3 : Below W1.heap.size W1 w3 := by rw [hw3]; exact qBA _ _
 obtain ⟨gb, hgb⟩ : ∃ g, g = W1.heap.size := ⟨_, rfl⟩
 have lgb : W1.heap.size ≤ gb := by omega
 have MPW := qHd (show MpW w3 gb 0 by rw [hw3, hgb]; exact MpW.made W1)
 have y0 := f0; have y1 := f1; have y2 := f2
 clear f0 f1 f2
 go_wp2_with (with_reducible first | refine qah ?_ | refine qae ?_)
 rw [← hw3, ← hgb]
 clear y0 y1 y2 hw3 hgb
 have HB := qHd hb3; clear hb3
 refine qal.mk ?_
 go_loopw [44] (fun i' wx => (i' = .int .i64 0 ∧ Hid (MpW wx gb 0) ∧ Hid (Below W1.heap.size W1 wx)) ∨ (i' = .int .i64 1 ∧ Hid (MpW wx gb 1) ∧ Hid (Below W1.heap.size W1 wx)) ∨ (i' = .int .i64 2 ∧ Hid (MpW wx gb 2) ∧ Hid (Below W1.heap.size W1 wx))) (fun i' _ => 2 - (intOf i').toNat)
 case atStart => exact .inl ⟨rfl, MPW, HB⟩
 case round =>
  clear MPW HB
  rcases hrel with ⟨rfl, MPW, HB⟩ | ⟨rfl, MPW, HB⟩ | ⟨rfl, MPW, HB⟩
  ·obtain ⟨wo, rfl⟩ : ∃ wo : World, wo = wr := ⟨_, rfl⟩
   obtain ⟨f0, f1, f2⟩ := AF.out
   have y0 := qam f0 HB.out; have y1 := qam f1 HB.out; have y2 := qam f2 HB.out
   clear f0 f1 f2
   go_wp2_with (with_reducible refine wpList_pauseMu ?_)
   clear y0 y1 y2
   refine wpList_mu gb 0 rfl MPW.out (by decide) rfl rfl ?_
   intro w4 hm4 hg4
   have MPW := qHd hm4; have HB := qHd (HB.out.grown hg4 HB.out.size (fun k hk => by cases hk; exact lgb))
   clear hm4 hg4
   go_wp2_with fail
   go_roundw
   case rel => exact .inr (.inl ⟨by first | rfl | go_num, MPW, HB⟩)
   case measure => simp [intOf]
  ·obtain ⟨wo, rfl⟩ : ∃ wo : World, wo = wr := ⟨_, rfl⟩
   obtain ⟨f0, f1, f2⟩ := AF.out
   have y0 := qam f0 HB.out; have y1 := qam f1 HB.out; have y2 := qam f2 HB.out
   clear f0 f1 f2
   go_wp2_with (with_reducible refine wpList_pauseMu ?_)
   clear y0 y1 y2
   refine wpList_mu gb 1 rfl MPW.out (by decide) rfl rfl ?_
   intro w4 hm4 hg4
   have MPW := qHd hm4; have HB := qHd (HB.out.grown hg4 HB.out.size (fun k hk => by cases hk; exact lgb))
   clear hm4 hg4
   go_wp2_with fail
   go_roundw
   case rel => exact .inr (.inr ⟨by first | rfl | go_num, MPW, HB⟩)
   case measure => simp [intOf]
  ·obtain ⟨wo, rfl⟩ : ∃ wo : World, wo = wr := ⟨_, rfl⟩
   go_wp2_with (with_reducible refine qaw ?_)
   refine qbj Tryz.rowsTyL 2 rfl rfl (by decide) (by decide) (by decide) ?_
   intro w4 hw4 ho4
   have hb4 : Below wo.heap.size wo w4 := by rw [hw4]; exact qBA _ _
   have hO := made1 noU1 ho4 hw4
   obtain ⟨ga, hga⟩ : ∃ g, g = wo.heap.size := ⟨_, rfl⟩
   have la : W1.heap.size ≤ ga := by rw [hga]; exact HB.out.size
   rw [← hga] at hO ⊢
   have MT := qHd (show Mat w4 W1.heap.size (.slice (some ⟨ga, 0, none⟩) 2 2) 2 (fun _ => .slice none 0 0) (fun a => if a < 0 then 2 else 0) (fun _ _ => 0) from by
    refine ⟨?_, fun i hi => FrL.nil _ _ _, (fun i hi g hg e => by cases e), (fun i j _ _ _ g e => by cases e)⟩
    exact ⟨qcr hO.1 la, hO.2⟩)
   have MPW := qHd (MPW.out.below hb4); have HB := qHd (qac HB.out (Nat.le_refl _) hb4)
   clear hO hb4 ho4 hw4 hga
   go_wp2_with (with_reducible first | refine qah ?_ | refine qae ?_)
   refine qal.mk ?_
   go_loopw [57] (fun i' wx => (i' = .int .i64 0 ∧ ∃ V, Hid (Mat wx W1.heap.size (.slice (some ⟨ga, 0, none⟩) 2 2) 2 V (fun a => if a < 0 then 2 else 0) (fun _ _ => 0)) ∧ Hid (MpW wx gb 2) ∧ Hid (Below W1.heap.size W1 wx)) ∨ (i' = .int .i64 1 ∧ ∃ V, Hid (Mat wx W1.heap.size (.slice (some ⟨ga, 0, none⟩) 2 2) 2 V (fun a => if a < 1 then 2 else 0) (fun _ _ => 0)) ∧ Hid (MpW wx gb 2) ∧ Hid (Below W1.heap.size W1 wx)) ∨ (i' = .int .i64 2 ∧ ∃ V, Hid (Mat wx W1.heap.size (.slice (some ⟨ga, 0, none⟩) 2 2) 2 V (fun a => if a < 2 then 2 else 0) (fun _ _ => 0)) ∧ Hid (MpW wx gb 2) ∧ Hid (Below W1.heap.size W1 wx))) (fun i' _ => 2 - (intOf i').toNat)
   case atStart => exact .inl ⟨rfl, _, MT, MPW, HB⟩
   case round =>
    clear MT MPW HB
    rcases hrel with ⟨rfl, V, MT, MPW, HB⟩ | ⟨rfl, V, MT, MPW, HB⟩ | ⟨rfl, V, MT, MPW, HB⟩
    ·obtain ⟨wq, rfl⟩ : ∃ wq : World, wq = wr := ⟨_, rfl⟩
     go_wp2_with (with_reducible refine qaw ?_)
     refine qbj Tryz.ratTy 2 rfl rfl (by decide) (by decide) (by decide) ?_
     intro w5 hw5 ho5
     have hb5 : Below wq.heap.size wq w5 := by rw [hw5]; exact qBA _ _
     have hF := madeF ho5 hw5
     obtain ⟨gr, hgr⟩ : ∃ g, g = wq.heap.size := ⟨_, rfl⟩
     have lr : W1.heap.size ≤ gr := by rw [hgr]; exact HB.out.size
     have HGR := qHd hgr
     rw [← hgr] at hF ⊢
     have HF := qHd (hF.base lr); have ST := qHd (qca hb5)
     have MP5 := qHd (MPW.out.below hb5); have HB5 := qHd (qac HB.out (Nat.le_refl _) hb5)
     obtain ⟨cs, hcs, hcz⟩ := (MT.out.below hb5).outCap
     have nab := MP5.out.ne hcs
     clear hF hb5 ho5 hw5 hgr
     go_wp2_with (with_reducible refine qaz 28 ?_)
     refine qcc ga 0 hcs rfl rfl (by omega) (by kernel_rfl) ?_
     intro w6 hp6
     obtain ⟨hM6, st6⟩ := MT.out.setRow (i := 0) (r := none) (by decide) (fun _ e => by cases e) ST.out HF.out (fun g hg _ e => by
      have h1 : gr = g := Option.some.inj e
      have h2 := HGR.out
      omega) hp6
     have MT := qHd (show Mat w6 W1.heap.size (.slice (some ⟨ga, 0, none⟩) 2 2) 2 (updV V 0 (.slice (some ⟨gr, 0, none⟩) 2 2)) (fun a => if a < 1 then 2 else 0) (fun _ _ => 0) from by
      have e : updV (fun a => if a < 0 then 2 else 0) 0 2 = fun a => if a < 1 then 2 else 0 := by
       funext a
       show (if a = 0 then 2 else if a < 0 then 2 else 0) = if a < 1 then 2 else 0
       by_cases q : a = 0
       ·rw [if_pos q, if_pos (by omega)]
       ·rw [if_neg q]
        by_cases q2 : a < 0
        ·rw [if_pos q2, if_pos (by omega)]
        ·rw [if_neg q2, if_neg (by omega)]
      rw [e] at hM6
      exact hM6.congr (fun a _ b _ => by split <;> rfl))
     have MPW := qHd (MP5.out.kept st6.gr (fun e => nab (Option.some.inj e)))
     have HB := qHd (st6.low HB5.out HB5.out.size la)
     clear hM6 st6 hp6 hcs hcz ST HF MP5 HB5
     go_wp2_with fail
     go_roundw
     case rel => exact .inr (.inl ⟨by first | rfl | go_num, _, MT, MPW, HB⟩)
     case measure => simp [intOf]
    ·obtain ⟨wq, rfl⟩ : ∃ wq : World, wq = wr := ⟨_, rfl⟩
     go_wp2_with (with_reducible refine qaw ?_)
     refine qbj Tryz.ratTy 2 rfl rfl (by decide) (by decide) (by decide) ?_
     intro w5 hw5 ho5
     have hb5 : Below wq.heap.size wq w5 := by rw [hw5]; exact qBA _ _
     have hF := madeF ho5 hw5
     obtain ⟨gr, hgr⟩ : ∃ g, g = wq.heap.size := ⟨_, rfl⟩
     have lr : W1.heap.size ≤ gr := by rw [hgr]; exact HB.out.size
     have HGR := qHd hgr
     rw [← hgr] at hF ⊢
     have HF := qHd (hF.base lr); have ST := qHd (qca hb5)
     have MP5 := qHd (MPW.out.below hb5); have HB5 := qHd (qac HB.out (Nat.le_refl _) hb5)
     obtain ⟨cs, hcs, hcz⟩ := (MT.out.below hb5).outCap
     have nab := MP5.out.ne hcs
     clear hF hb5 ho5 hw5 hgr
     go_wp2_with (with_reducible refine qaz 28 ?_)
     refine qcc ga 1 hcs rfl rfl (by omega) (by kernel_rfl) ?_
     intro w6 hp6
     obtain ⟨hM6, st6⟩ := MT.out.setRow (i := 1) (r := none) (by decide) (fun _ e => by cases e) ST.out HF.out (fun g hg _ e => by
      have h1 : gr = g := Option.some.inj e
      have h2 := HGR.out
      omega) hp6
     have MT := qHd (show Mat w6 W1.heap.size (.slice (some ⟨ga, 0, none⟩) 2 2) 2 (updV V 1 (.slice (some ⟨gr, 0, none⟩) 2 2)) (fun a => if a < 2 then 2 else 0) (fun _ _ => 0) from by
      have e : updV (fun a => if a < 1 then 2 else 0) 1 2 = fun a => if a < 2 then 2 else 0 := by
       funext a
       show (if a = 1 then 2 else if a < 1 then 2 else 0) = if a < 2 then 2 else 0
       by_cases q : a = 1
       ·rw [if_pos q, if_pos (by omega)]
       ·rw [if_neg q]
        by_cases q2 : a < 1
        ·rw [if_pos q2, if_pos (by omega)]
        ·rw [if_neg q2, if_neg (by omega)]
      rw [e] at hM6
      exact hM6.congr (fun a _ b _ => by split <;> rfl))
     have MPW := qHd (MP5.out.kept st6.gr (fun e => nab (Option.some.inj e)))
     have HB := qHd (st6.low HB5.out HB5.out.size la)
     clear hM6 st6 hp6 hcs hcz ST HF MP5 HB5
     go_wp2_with fail
     go_roundw
     case rel => exact .inr (.inr ⟨by first | rfl | go_num, _, MT, MPW, HB⟩)
     case measure => simp [intOf]
    ·obtain ⟨wo, rfl⟩ : ∃ wo : World, wo = wr := ⟨_, rfl⟩
     have MT := qHd (show Mat wo W1.heap.size (.slice (some ⟨ga, 0, none⟩) 2 2) 2 V (fun _ => 2) (M2 0 0 0 0) from (⟨MT.out.out, fun i hi => by have := MT.out.row i hi; simp only [if_pos hi] at this; exact this, MT.out.ne0, MT.out.inj⟩ : Mat wo W1.heap.size (.slice (some ⟨ga, 0, none⟩) 2 2) 2 V (fun _ => 2) (fun _ _ => 0)).congr (fun i _ j _ => by unfold M2; split <;> split <;> rfl))
     have HBG := qHd (HB1.out.trans (HB.out.mono HB1.out.size))
     obtain ⟨gcx0, gcx1, gcx2, gcx3⟩ := qbn (qab G_gc.out HBG.out)
     go_wp2_with (with_reducible first | refine qah ?_ | refine qae ?_)
     clear gcx0 gcx1 gcx2 gcx3
     refine qal.mk ?_
     go_loopw [69] (fun i' wx => (i' = .int .i64 0 ∧ Hid (Mat wx W1.heap.size (.slice (some ⟨ga, 0, none⟩) 2 2) 2 V (fun _ => 2) (M2 0 0 0 0)) ∧ Hid (MpW wx gb 2) ∧ Hid (Below W1.heap.size W1 wx)) ∨ (i' = .int .i64 1 ∧ Hid (Mat wx W1.heap.size (.slice (some ⟨ga, 0, none⟩) 2 2) 2 V (fun _ => 2) (M2 (-1) 0 1 0)) ∧ Hid (MpW wx gb 2) ∧ Hid (Below W1.heap.size W1 wx)) ∨ (i' = .int .i64 2 ∧ Hid (Mat wx W1.heap.size (.slice (some ⟨ga, 0, none⟩) 2 2) 2 V (fun _ => 2) (M2 (-1) 3 1 (-3))) ∧ Hid (MpW wx gb 2) ∧ Hid (Below W1.heap.size W1 wx))) (fun i' _ => 2 - (intOf i').toNat)
     case atStart => exact .inl ⟨rfl, MT, MPW, HB⟩
     case round =>
      clear MT MPW HB HBG
      rcases hrel with ⟨rfl, MT, MPW, HB⟩ | ⟨rfl, MT, MPW, HB⟩ | ⟨rfl, MT, MPW, HB⟩
      ·obtain ⟨wo, rfl⟩ : ∃ wo : World, wo = wr := ⟨_, rfl⟩
       obtain ⟨mb, moff, rfl, hmb, hl2, hat⟩ := (HM.out.below (HB1.out.trans (HB.out.mono HB1.out.size))).at (by decide)
       clear hl2
       obtain ⟨sm, om, nm, cm, am, mm, dm, n0, n1, n2, n3, n4, hIm⟩ := hat 0 _ rfl
       have m0 : wo.cell? ⟨mb, moff, none⟩ = some (.int .i64 0) := n0
       have m1 : wo.cell? ⟨mb, moff + 1, none⟩ = some (.int .i64 1) := n1
       have m2 : wo.cell? ⟨mb, moff + 2, none⟩ = some (.bool sm) := n2
       have m3 : wo.cell? ⟨mb, moff + 3, none⟩ = some (.slice om nm cm) := n3
       have m4 : wo.cell? ⟨mb, moff + 4, none⟩ = some (.slice am mm dm) := n4
       clear hat n0 n1 n2 n3 n4
       have hIm : IsR wo (.agg #[.bool sm, .slice om nm cm, .slice am mm dm]) 1 := hIm
       obtain ⟨w2, hw2, hb2, gm, hgm, hx2⟩ := qBx5 wo (.cells #[.int .i64 0, .int .i64 1, .bool sm, .slice om nm cm, .slice am mm dm] 45)
       have G_gm := qHd hx2
       obtain ⟨gmx0, gmx1, gmx2, gmx3, gmx4⟩ := qbz (hx2)
       rw [hw2, hgm] at gmx0 gmx1 gmx2 gmx3 gmx4
       go_wp2_with (with_reducible refine wpList_pauseLk ?_)
       rw [← hw2, ← hgm]
       clear hw2 hgm m0 m1 m2 m3 m4 hx2 gmx0 gmx1 gmx2 gmx3 gmx4
       have MT := qHd (MT.out.below hb2); have MPW := qHd (MPW.out.below hb2); have IM := qHd (hIm.below hb2)
       have HB := qHd (qac HB.out (Nat.le_refl _) hb2)
       have LM := qHd (show rl (1 : Rat) ≤ 100000 from Nat.le_trans (rl_sm8 1 (by decide)) (by decide))
       clear hb2 hIm
       refine wpList_lkO gb 0 rfl MPW.out (by decide) rfl ?_
       obtain ⟨gmx0, gmx1, gmx2, gmx3, gmx4⟩ := qbz G_gm.out
       go_wp2_with (with_reducible refine wpList_pauseLk ?_)
       clear gmx0 gmx1 gmx2 gmx3 gmx4
       refine wpList_lk gb 1 rfl MPW.out (by decide) rfl ?_
       go_wp2_with (with_reducible first | refine qag ?_ | refine qah ?_ | refine qbb ?_ | refine qbc ?_ | refine qae ?_)
       obtain ⟨gi, cgi, eVi, hci, hci2, hBi, hnei, cI, hFi⟩ := MT.out.get (i := 0) (by decide) (by decide)
       have EVI := qHd eVi; have CI := qHd cI
       have NGB := qHd (show gi ≠ gb by obtain ⟨cs, h1, _⟩ := qbe hFi; exact MPW.out.ne h1)
       have lgi : W1.heap.size ≤ gi := hBi
       obtain ⟨sx, ox, nx, cx, ax, mx, dx, x0, x1, x2, hIx⟩ := hFi.at (j := 0) (by decide)
       obtain ⟨xa, hxa⟩ : ∃ z0 : Rat, z0 = (0) := ⟨_, rfl⟩
       have hIx : IsR w2 (.agg #[.bool sx, .slice ox nx cx, .slice ax mx dx]) xa := by rw [hxa]; exact hIx
       have LX := qHd (show rl xa ≤ 100000 by rw [hxa]; exact Nat.le_trans (rl_sm8 0 (by decide)) (by decide))
       have HXA := qHd hxa; have IX := qHd hIx; have CX := qHd (And.intro x0 (And.intro x1 x2))
       clear hIx x0 x1 x2 cI eVi hFi hxa
       refine qal.mk ?_
       refine qaj (A := ?aaA0) (w := w2) 16 [] (by kernel_rfl) (Fl [KEq (.slice (some ⟨ga, 0, none⟩) 2 2), KEq (.int .i64 0), KEq (.pointer (some ⟨ga, 0, none⟩)), KEq (.slice (some ⟨gi, 0, none⟩) 2 cgi), KEq (.int .i64 0), KEq (.slice (some ⟨ga, 0, none⟩) 2 2), KEq (.int .i64 0), KEq (.pointer (some ⟨ga, 0, none⟩)), KEq (.slice (some ⟨gi, 0, none⟩) 2 cgi), KEq (.int .i64 0), KEq (.pointer (some ⟨gi, 0, none⟩)), KEq (.agg #[.bool sx, .slice ox nx cx, .slice ax mx dx]), KEq (.pointer (some ⟨gm, 2, none⟩)), KEq (.agg #[.bool sm, .slice om nm cm, .slice am mm dm]), KIs (xa - 1), KEq (.pointer (some ⟨gi, 0, none⟩))]) (fun i => false) (by kernel_rfl) ?hqA0 (qdk (qad (kEq _) (qad (kEq _) (qad (kEq _) (qad (kEq _) (qad (kEq _) (qad (kEq _) (qad (kEq _) (qad (kEq _) (qad (kEq _) (qad (kEq _) (qad (kEq _) (qad (kEq _) (qad (kEq _) (qad (kEq _) (qad (kIs _) (qad (kEq _) qdj))))))))))))))))) ?haA0 ?stA0 ?tlA0
       case hqA0 =>
        intro c a d v w h
        first | (simp only [Exit.then] at h ⊢; exact h) | (simp only [Exit.inBlock, Exit.then] at h ⊢; exact h) | exact h
       case haA0 =>
        intro vals
        simp only [qat, qby, if_true, Act.put, List.setIfInBounds_toArray, List.set_cons_zero, List.set_cons_succ, List.getElem?_toArray, List.getElem?_cons_zero, List.getElem?_cons_succ, Option.bind_some]
        exact rfl
       case stA0 =>
        simp only [List.take_succ_cons, List.take_zero]
        refine qaa rfl rfl ?_ (qaa rfl rfl ?_ (qaa rfl rfl ?_ (qaa rfl rfl ?_ (qaa rfl rfl ?_ (qaa rfl rfl ?_ (qaa rfl rfl ?_ (qaa rfl rfl ?_ (qaa rfl rfl ?_ (qaa rfl rfl ?_ (qaa rfl rfl ?_ (qaa rfl rfl ?_ (qaa rfl rfl ?_ (qaa rfl rfl ?_ (qaa rfl rfl ?_ (qaa rfl rfl ?_ (qau))))))))))))))))
        ·intro vals w1 hb hd
         refine qSv (.slice (some ⟨ga, 0, none⟩) 2 2) (by go_simp) (qLk rfl rfl)
        ·intro vals w1 hb hd
         refine qSv (.int .i64 0) (by go_simp) (qLk rfl rfl)
        ·intro vals w1 hb hd
         rw [show vals 0 = .slice (some ⟨ga, 0, none⟩) 2 2 from hd 0 (by kernel_rfl)]
         rw [show vals 1 = .int .i64 0 from hd 1 (by kernel_rfl)]
         refine qSv (.pointer (some ⟨ga, 0, none⟩)) (by go_simp) (qLk rfl rfl)
        ·intro vals w1 hb hd
         have e0 := qak CI.out hb
         rw [show vals 2 = .pointer (some ⟨ga, 0, none⟩) from hd 2 (by kernel_rfl)]
         refine qSv (.slice (some ⟨gi, 0, none⟩) 2 cgi) (by go_simp) (qLk rfl rfl)
        ·intro vals w1 hb hd
         refine qSv (.int .i64 0) (by go_simp) (qLk rfl rfl)
        ·intro vals w1 hb hd
         refine qSv (.slice (some ⟨ga, 0, none⟩) 2 2) (by go_simp) (qLk rfl rfl)
        ·intro vals w1 hb hd
         refine qSv (.int .i64 0) (by go_simp) (qLk rfl rfl)
        ·intro vals w1 hb hd
         rw [show vals 5 = .slice (some ⟨ga, 0, none⟩) 2 2 from hd 5 (by kernel_rfl)]
         rw [show vals 6 = .int .i64 0 from hd 6 (by kernel_rfl)]
         refine qSv (.pointer (some ⟨ga, 0, none⟩)) (by go_simp) (qLk rfl rfl)
        ·intro vals w1 hb hd
         have e0 := qak CI.out hb
         rw [show vals 7 = .pointer (some ⟨ga, 0, none⟩) from hd 7 (by kernel_rfl)]
         refine qSv (.slice (some ⟨gi, 0, none⟩) 2 cgi) (by go_simp) (qLk rfl rfl)
        ·intro vals w1 hb hd
         refine qSv (.int .i64 0) (by go_simp) (qLk rfl rfl)
        ·intro vals w1 hb hd
         rw [show vals 8 = .slice (some ⟨gi, 0, none⟩) 2 cgi from hd 8 (by kernel_rfl)]
         rw [show vals 9 = .int .i64 0 from hd 9 (by kernel_rfl)]
         refine qSv (.pointer (some ⟨gi, 0, none⟩)) (by go_simp) (qLk rfl rfl)
        ·intro vals w1 hb hd
         obtain ⟨e0, e1, e2⟩ := qax CX.out hb
         rw [show vals 10 = .pointer (some ⟨gi, 0, none⟩) from hd 10 (by kernel_rfl)]
         refine qSv (.agg #[.bool sx, .slice ox nx cx, .slice ax mx dx]) (by go_simp) (qLk rfl rfl)
        ·intro vals w1 hb hd
         refine qSv (.pointer (some ⟨gm, 2, none⟩)) (by go_simp) (qLk rfl rfl)
        ·intro vals w1 hb hd
         obtain ⟨e0, e1, e2, e3, e4⟩ := qbz (qab G_gm.out hb)
         rw [show vals 12 = .pointer (some ⟨gm, 2, none⟩) from hd 12 (by kernel_rfl)]
         refine qSv (.agg #[.bool sm, .slice om nm cm, .slice am mm dm]) (by go_simp) (qLk rfl rfl)
        ·intro vals w1 hb hd
         have d11 : KEq (.agg #[.bool sx, .slice ox nx cx, .slice ax mx dx]) (vals 11) w1 := hd 11 (by kernel_rfl)
         have d13 : KEq (.agg #[.bool sm, .slice om nm cm, .slice am mm dm]) (vals 13) w1 := hd 13 (by kernel_rfl)
         have HS := qHd (subq_any _ xa _ 1 w1 ((IX.out.below hb).is LX.out) ((IM.out.below hb).is LM.out))
         have z11 : vals 11 = _ := d11
         rw [z11]; clear z11
         have z13 : vals 13 = _ := d13
         rw [z13]; clear z13
         refine qar (by go_simp; first | done | exact ⟨⟨rfl, rfl⟩, rfl⟩) ?_
         (with_reducible refine HS.out.mono ?_); rintro e w2 ⟨v, rfl, hb2, hn⟩
         exact ⟨v, rfl, qai hb2 hn (fun h => by cases h)⟩
        ·intro vals w1 hb hd
         rw [show vals 3 = .slice (some ⟨gi, 0, none⟩) 2 cgi from hd 3 (by kernel_rfl)]
         rw [show vals 4 = .int .i64 0 from hd 4 (by kernel_rfl)]
         refine qSv (.pointer (some ⟨gi, 0, none⟩)) (by go_simp) (qLk rfl rfl)
       case tlA0 =>
        intro vals w8 hb8 hf hdis
        simp only [List.drop_succ_cons, List.drop_zero]
        have z15 : vals 15 = _ := hf 15 (by decide)
        have hn : IsR w8 (vals 14) (xa - 1) := hf 14 (by decide)
        rw [z15]
        obtain ⟨r, hr⟩ : ∃ r, r = vals 14 := ⟨_, rfl⟩
        rw [← hr] at hn ⊢
        clear z15 hf hdis hr
        obtain ⟨sz, oz, nz, cz, az, mz, dz, rfl⟩ := hn.shape
        have hn : IsR w8 (.agg #[.bool sz, .slice oz nz cz, .slice az mz dz]) (-1) := by rw [HXA.out] at hn; exact (show ((0) : Rat) - 1 = -1 by decide +kernel) ▸ hn
        have MT := qHd (MT.out.below hb8); have MPW := qHd (MPW.out.below hb8); have HB := qHd (qac HB.out (Nat.le_refl _) hb8); have G_gm := qHd (qab G_gm.out hb8); have IM := qHd (IM.out.below hb8)
        have IZ := qHd hn
        clear hb8 hn CX CI IX HXA
        obtain ⟨_, hFi⟩ := MT.out.at (i := 0) (by decide) EVI.out
        obtain ⟨cs, hcs, hsz⟩ := qbe hFi
        go_wp2_with (with_reducible refine qan ?_)
        refine qba gi 0 [.bool sz, .slice oz nz cz, .slice az mz dz] hcs rfl rfl (by simp only [List.length_cons, List.length_nil]; omega) (by kernel_rfl) rfl ?_
        intro wz hpz
        obtain ⟨hX, hSt⟩ := hFi.put (j := 0) (by decide) IZ.out hpz
        have MT := qHd ((MT.out.rowPut (i := 0) (by decide) (x := updR ((M2 0 0 0 0) 0) 0 (-1)) (by rw [EVI.out]; exact hX) (by rw [EVI.out]; exact hSt)).congr (N := M2 (-1) 0 0 0) (fun a ha b hb => M2_00 _ _ _ _ _ a ha b hb))
        have MPW := qHd (MPW.out.kept hSt.gr (fun e => NGB.out (Option.some.inj e)))
        have HB := qHd (hSt.low HB.out HB.out.size lgi)
        have G_gm := qHd (hSt.heap G_gm.out (fun e => by
         have h2 : gi = gm := Option.some.inj e
         obtain ⟨cz, hcz, _⟩ := qbe hFi
         rw [h2, G_gm.out] at hcz; cases hcz))
        have IM := qHd (hSt.I IM.out)
        clear hX hSt hpz hcs hsz IZ hFi EVI NGB
        go_wp2_with (with_reducible first | refine qag ?_ | refine qah ?_ | refine qbb ?_ | refine qbc ?_ | refine qae ?_)
        obtain ⟨wy, rfl⟩ : ∃ z : World, z = wz := ⟨_, rfl⟩
        obtain ⟨gi, cgi, eVi, hci, hci2, hBi, hnei, cI, hFi⟩ := MT.out.get (i := 1) (by decide) (by decide)
        have EVI := qHd eVi; have CI := qHd cI
        have NGB := qHd (show gi ≠ gb by obtain ⟨cs, h1, _⟩ := qbe hFi; exact MPW.out.ne h1)
        have lgi : W1.heap.size ≤ gi := hBi
        obtain ⟨sx, ox, nx, cx, ax, mx, dx, x0, x1, x2, hIx⟩ := hFi.at (j := 0) (by decide)
        obtain ⟨xa, hxa⟩ : ∃ z0 : Rat, z0 = (0) := ⟨_, rfl⟩
        have hIx : IsR wy (.agg #[.bool sx, .slice ox nx cx, .slice ax mx dx]) xa := by rw [hxa]; exact hIx
        have LX := qHd (show rl xa ≤ 100000 by rw [hxa]; exact Nat.le_trans (rl_sm8 0 (by decide)) (by decide))
        have HXA := qHd hxa; have IX := qHd hIx; have CX := qHd (And.intro x0 (And.intro x1 x2))
        clear hIx x0 x1 x2 cI eVi hFi hxa
        refine qal.mk ?_
        refine qaj (A := ?aaB0) (w := wy) 16 [] (by kernel_rfl) (Fl [KEq (.slice (some ⟨ga, 0, none⟩) 2 2), KEq (.int .i64 1), KEq (.pointer (some ⟨ga, 1, none⟩)), KEq (.slice (some ⟨gi, 0, none⟩) 2 cgi), KEq (.int .i64 0), KEq (.slice (some ⟨ga, 0, none⟩) 2 2), KEq (.int .i64 1), KEq (.pointer (some ⟨ga, 1, none⟩)), KEq (.slice (some ⟨gi, 0, none⟩) 2 cgi), KEq (.int .i64 0), KEq (.pointer (some ⟨gi, 0, none⟩)), KEq (.agg #[.bool sx, .slice ox nx cx, .slice ax mx dx]), KEq (.pointer (some ⟨gm, 2, none⟩)), KEq (.agg #[.bool sm, .slice om nm cm, .slice am mm dm]), KIs (xa + 1), KEq (.pointer (some ⟨gi, 0, none⟩))]) (fun i => false) (by kernel_rfl) ?hqB0 (qdk (qad (kEq _) (qad (kEq _) (qad (kEq _) (qad (kEq _) (qad (kEq _) (qad (kEq _) (qad (kEq _) (qad (kEq _) (qad (kEq _) (qad (kEq _) (qad (kEq _) (qad (kEq _) (qad (kEq _) (qad (kEq _) (qad (kIs _) (qad (kEq _) qdj))))))))))))))))) ?haB0 ?stB0 ?tlB0
        case hqB0 =>
         intro c a d v w h
         first | (simp only [Exit.then] at h ⊢; exact h) | (simp only [Exit.inBlock, Exit.then] at h ⊢; exact h) | exact h
        case haB0 =>
         intro vals
         simp only [qat, qby, if_true, Act.put, List.setIfInBounds_toArray, List.set_cons_zero, List.set_cons_succ, List.getElem?_toArray, List.getElem?_cons_zero, List.getElem?_cons_succ, Option.bind_some]
         exact rfl
        case stB0 =>
         simp only [List.take_succ_cons, List.take_zero]
         refine qaa rfl rfl ?_ (qaa rfl rfl ?_ (qaa rfl rfl ?_ (qaa rfl rfl ?_ (qaa rfl rfl ?_ (qaa rfl rfl ?_ (qaa rfl rfl ?_ (qaa rfl rfl ?_ (qaa rfl rfl ?_ (qaa rfl rfl ?_ (qaa rfl rfl ?_ (qaa rfl rfl ?_ (qaa rfl rfl ?_ (qaa rfl rfl ?_ (qaa rfl rfl ?_ (qaa rfl rfl ?_ (qau))))))))))))))))
         ·intro vals w1 hb hd
          refine qSv (.slice (some ⟨ga, 0, none⟩) 2 2) (by go_simp) (qLk rfl rfl)
         ·intro vals w1 hb hd
          refine qSv (.int .i64 1) (by go_simp) (qLk rfl rfl)
         ·intro vals w1 hb hd
          rw [show vals 0 = .slice (some ⟨ga, 0, none⟩) 2 2 from hd 0 (by kernel_rfl)]
          rw [show vals 1 = .int .i64 1 from hd 1 (by kernel_rfl)]
          refine qSv (.pointer (some ⟨ga, 1, none⟩)) (by go_simp) (qLk rfl rfl)
         ·intro vals w1 hb hd
          have e0 := qak CI.out hb
          rw [show vals 2 = .pointer (some ⟨ga, 1, none⟩) from hd 2 (by kernel_rfl)]
          refine qSv (.slice (some ⟨gi, 0, none⟩) 2 cgi) (by go_simp) (qLk rfl rfl)
         ·intro vals w1 hb hd
          refine qSv (.int .i64 0) (by go_simp) (qLk rfl rfl)
         ·intro vals w1 hb hd
          refine qSv (.slice (some ⟨ga, 0, none⟩) 2 2) (by go_simp) (qLk rfl rfl)
         ·intro vals w1 hb hd
          refine qSv (.int .i64 1) (by go_simp) (qLk rfl rfl)
         ·intro vals w1 hb hd
          rw [show vals 5 = .slice (some ⟨ga, 0, none⟩) 2 2 from hd 5 (by kernel_rfl)]
          rw [show vals 6 = .int .i64 1 from hd 6 (by kernel_rfl)]
          refine qSv (.pointer (some ⟨ga, 1, none⟩)) (by go_simp) (qLk rfl rfl)
         ·intro vals w1 hb hd
          have e0 := qak CI.out hb
          rw [show vals 7 = .pointer (some ⟨ga, 1, none⟩) from hd 7 (by kernel_rfl)]
          refine qSv (.slice (some ⟨gi, 0, none⟩) 2 cgi) (by go_simp) (qLk rfl rfl)
         ·intro vals w1 hb hd
          refine qSv (.int .i64 0) (by go_simp) (qLk rfl rfl)
         ·intro vals w1 hb hd
          rw [show vals 8 = .slice (some ⟨gi, 0, none⟩) 2 cgi from hd 8 (by kernel_rfl)]
          rw [show vals 9 = .int .i64 0 from hd 9 (by kernel_rfl)]
          refine qSv (.pointer (some ⟨gi, 0, none⟩)) (by go_simp) (qLk rfl rfl)
         ·intro vals w1 hb hd
          obtain ⟨e0, e1, e2⟩ := qax CX.out hb
          rw [show vals 10 = .pointer (some ⟨gi, 0, none⟩) from hd 10 (by kernel_rfl)]
          refine qSv (.agg #[.bool sx, .slice ox nx cx, .slice ax mx dx]) (by go_simp) (qLk rfl rfl)
         ·intro vals w1 hb hd
          refine qSv (.pointer (some ⟨gm, 2, none⟩)) (by go_simp) (qLk rfl rfl)
         ·intro vals w1 hb hd
          obtain ⟨e0, e1, e2, e3, e4⟩ := qbz (qab G_gm.out hb)
          rw [show vals 12 = .pointer (some ⟨gm, 2, none⟩) from hd 12 (by kernel_rfl)]
          refine qSv (.agg #[.bool sm, .slice om nm cm, .slice am mm dm]) (by go_simp) (qLk rfl rfl)
         ·intro vals w1 hb hd
          have d11 : KEq (.agg #[.bool sx, .slice ox nx cx, .slice ax mx dx]) (vals 11) w1 := hd 11 (by kernel_rfl)
          have d13 : KEq (.agg #[.bool sm, .slice om nm cm, .slice am mm dm]) (vals 13) w1 := hd 13 (by kernel_rfl)
          have HS := qHd (qcz _ xa _ 1 w1 ((IX.out.below hb).is LX.out) ((IM.out.below hb).is LM.out))
          have z11 : vals 11 = _ := d11
          rw [z11]; clear z11
          have z13 : vals 13 = _ := d13
          rw [z13]; clear z13
          refine qar (by go_simp; first | done | exact ⟨⟨rfl, rfl⟩, rfl⟩) ?_
          (with_reducible refine HS.out.mono ?_); rintro e w2 ⟨v, rfl, hb2, hn⟩
          exact ⟨v, rfl, qai hb2 hn (fun h => by cases h)⟩
         ·intro vals w1 hb hd
          rw [show vals 3 = .slice (some ⟨gi, 0, none⟩) 2 cgi from hd 3 (by kernel_rfl)]
          rw [show vals 4 = .int .i64 0 from hd 4 (by kernel_rfl)]
          refine qSv (.pointer (some ⟨gi, 0, none⟩)) (by go_simp) (qLk rfl rfl)
        case tlB0 =>
         intro vals w8 hb8 hf hdis
         simp only [List.drop_succ_cons, List.drop_zero]
         have z15 : vals 15 = _ := hf 15 (by decide)
         have hn : IsR w8 (vals 14) (xa + 1) := hf 14 (by decide)
         rw [z15]
         obtain ⟨r, hr⟩ : ∃ r, r = vals 14 := ⟨_, rfl⟩
         rw [← hr] at hn ⊢
         clear z15 hf hdis hr
         obtain ⟨sz, oz, nz, cz, az, mz, dz, rfl⟩ := hn.shape
         have hn : IsR w8 (.agg #[.bool sz, .slice oz nz cz, .slice az mz dz]) (1) := by rw [HXA.out] at hn; exact (show ((0) : Rat) + 1 = 1 by decide +kernel) ▸ hn
         have MT := qHd (MT.out.below hb8); have MPW := qHd (MPW.out.below hb8); have HB := qHd (qac HB.out (Nat.le_refl _) hb8); have G_gm := qHd (qab G_gm.out hb8); have IM := qHd (IM.out.below hb8)
         have IZ := qHd hn
         clear hb8 hn CX CI IX HXA
         obtain ⟨_, hFi⟩ := MT.out.at (i := 1) (by decide) EVI.out
         obtain ⟨cs, hcs, hsz⟩ := qbe hFi
         go_wp2_with (with_reducible refine qan ?_)
         refine qba gi 0 [.bool sz, .slice oz nz cz, .slice az mz dz] hcs rfl rfl (by simp only [List.length_cons, List.length_nil]; omega) (by kernel_rfl) rfl ?_
         intro wz hpz
         obtain ⟨hX, hSt⟩ := hFi.put (j := 0) (by decide) IZ.out hpz
         have MT := qHd ((MT.out.rowPut (i := 1) (by decide) (x := updR ((M2 (-1) 0 0 0) 1) 0 (1)) (by rw [EVI.out]; exact hX) (by rw [EVI.out]; exact hSt)).congr (N := M2 (-1) 0 1 0) (fun a ha b hb => M2_10 _ _ _ _ _ a ha b hb))
         have MPW := qHd (MPW.out.kept hSt.gr (fun e => NGB.out (Option.some.inj e)))
         have HB := qHd (hSt.low HB.out HB.out.size lgi)
         have G_gm := qHd (hSt.heap G_gm.out (fun e => by
          have h2 : gi = gm := Option.some.inj e
          obtain ⟨cz, hcz, _⟩ := qbe hFi
          rw [h2, G_gm.out] at hcz; cases hcz))
         have IM := qHd (hSt.I IM.out)
         clear hX hSt hpz hcs hsz IZ hFi EVI NGB
         go_wp2_with fail
         go_roundw
         case rel => exact .inr (.inl ⟨by first | rfl | go_num, MT, MPW, HB⟩)
         case measure => simp [intOf]
      ·obtain ⟨wo, rfl⟩ : ∃ wo : World, wo = wr := ⟨_, rfl⟩
       obtain ⟨mb, moff, rfl, hmb, hl2, hat⟩ := (HM.out.below (HB1.out.trans (HB.out.mono HB1.out.size))).at (by decide)
       clear hl2
       obtain ⟨sm, om, nm, cm, am, mm, dm, n0, n1, n2, n3, n4, hIm⟩ := hat 1 _ rfl
       have m0 : wo.cell? ⟨mb, moff + 5, none⟩ = some (.int .i64 1) := n0
       have m1 : wo.cell? ⟨mb, moff + 5 + 1, none⟩ = some (.int .i64 0) := n1
       have k1 : wo.cell? ⟨mb, moff + 6, none⟩ = some (.int .i64 0) := n1
       have m2 : wo.cell? ⟨mb, moff + 5 + 2, none⟩ = some (.bool sm) := n2
       have k2 : wo.cell? ⟨mb, moff + 7, none⟩ = some (.bool sm) := n2
       have m3 : wo.cell? ⟨mb, moff + 5 + 3, none⟩ = some (.slice om nm cm) := n3
       have k3 : wo.cell? ⟨mb, moff + 8, none⟩ = some (.slice om nm cm) := n3
       have m4 : wo.cell? ⟨mb, moff + 5 + 4, none⟩ = some (.slice am mm dm) := n4
       have k4 : wo.cell? ⟨mb, moff + 9, none⟩ = some (.slice am mm dm) := n4
       clear hat n0 n1 n2 n3 n4
       have hIm : IsR wo (.agg #[.bool sm, .slice om nm cm, .slice am mm dm]) 3 := hIm
       obtain ⟨w2, hw2, hb2, gm, hgm, hx2⟩ := qBx5 wo (.cells #[.int .i64 1, .int .i64 0, .bool sm, .slice om nm cm, .slice am mm dm] 45)
       have G_gm := qHd hx2
       obtain ⟨gmx0, gmx1, gmx2, gmx3, gmx4⟩ := qbz (hx2)
       rw [hw2, hgm] at gmx0 gmx1 gmx2 gmx3 gmx4
       go_wp2_with (with_reducible refine wpList_pauseLk ?_)
       rw [← hw2, ← hgm]
       clear hw2 hgm m0 m1 m2 m3 m4 hx2 gmx0 gmx1 gmx2 gmx3 gmx4 k1 k2 k3 k4
       have MT := qHd (MT.out.below hb2); have MPW := qHd (MPW.out.below hb2); have IM := qHd (hIm.below hb2)
       have HB := qHd (qac HB.out (Nat.le_refl _) hb2)
       have LM := qHd (show rl (3 : Rat) ≤ 100000 from Nat.le_trans (rl_sm8 3 (by decide)) (by decide))
       clear hb2 hIm
       refine wpList_lkO gb 1 rfl MPW.out (by decide) rfl ?_
       obtain ⟨gmx0, gmx1, gmx2, gmx3, gmx4⟩ := qbz G_gm.out
       go_wp2_with (with_reducible refine wpList_pauseLk ?_)
       clear gmx0 gmx1 gmx2 gmx3 gmx4
       refine wpList_lk gb 0 rfl MPW.out (by decide) rfl ?_
       go_wp2_with (with_reducible first | refine qag ?_ | refine qah ?_ | refine qbb ?_ | refine qbc ?_ | refine qae ?_)
       obtain ⟨gi, cgi, eVi, hci, hci2, hBi, hnei, cI, hFi⟩ := MT.out.get (i := 1) (by decide) (by decide)
       have EVI := qHd eVi; have CI := qHd cI
       have NGB := qHd (show gi ≠ gb by obtain ⟨cs, h1, _⟩ := qbe hFi; exact MPW.out.ne h1)
       have lgi : W1.heap.size ≤ gi := hBi
       obtain ⟨sx, ox, nx, cx, ax, mx, dx, x0, x1, x2, hIx⟩ := hFi.at (j := 1) (by decide)
       obtain ⟨xa, hxa⟩ : ∃ z0 : Rat, z0 = (0) := ⟨_, rfl⟩
       have hIx : IsR w2 (.agg #[.bool sx, .slice ox nx cx, .slice ax mx dx]) xa := by rw [hxa]; exact hIx
       have LX := qHd (show rl xa ≤ 100000 by rw [hxa]; exact Nat.le_trans (rl_sm8 0 (by decide)) (by decide))
       have HXA := qHd hxa; have IX := qHd hIx; have CX := qHd (And.intro x0 (And.intro x1 x2))
       clear hIx x0 x1 x2 cI eVi hFi hxa
       refine qal.mk ?_
       refine qaj (A := ?aaA1) (w := w2) 16 [] (by kernel_rfl) (Fl [KEq (.slice (some ⟨ga, 0, none⟩) 2 2), KEq (.int .i64 1), KEq (.pointer (some ⟨ga, 1, none⟩)), KEq (.slice (some ⟨gi, 0, none⟩) 2 cgi), KEq (.int .i64 1), KEq (.slice (some ⟨ga, 0, none⟩) 2 2), KEq (.int .i64 1), KEq (.pointer (some ⟨ga, 1, none⟩)), KEq (.slice (some ⟨gi, 0, none⟩) 2 cgi), KEq (.int .i64 1), KEq (.pointer (some ⟨gi, 3, none⟩)), KEq (.agg #[.bool sx, .slice ox nx cx, .slice ax mx dx]), KEq (.pointer (some ⟨gm, 2, none⟩)), KEq (.agg #[.bool sm, .slice om nm cm, .slice am mm dm]), KIs (xa - 3), KEq (.pointer (some ⟨gi, 3, none⟩))]) (fun i => false) (by kernel_rfl) ?hqA1 (qdk (qad (kEq _) (qad (kEq _) (qad (kEq _) (qad (kEq _) (qad (kEq _) (qad (kEq _) (qad (kEq _) (qad (kEq _) (qad (kEq _) (qad (kEq _) (qad (kEq _) (qad (kEq _) (qad (kEq _) (qad (kEq _) (qad (kIs _) (qad (kEq _) qdj))))))))))))))))) ?haA1 ?stA1 ?tlA1
       case hqA1 =>
        intro c a d v w h
        first | (simp only [Exit.then] at h ⊢; exact h) | (simp only [Exit.inBlock, Exit.then] at h ⊢; exact h) | exact h
       case haA1 =>
        intro vals
        simp only [qat, qby, if_true, Act.put, List.setIfInBounds_toArray, List.set_cons_zero, List.set_cons_succ, List.getElem?_toArray, List.getElem?_cons_zero, List.getElem?_cons_succ, Option.bind_some]
        exact rfl
       case stA1 =>
        simp only [List.take_succ_cons, List.take_zero]
        refine qaa rfl rfl ?_ (qaa rfl rfl ?_ (qaa rfl rfl ?_ (qaa rfl rfl ?_ (qaa rfl rfl ?_ (qaa rfl rfl ?_ (qaa rfl rfl ?_ (qaa rfl rfl ?_ (qaa rfl rfl ?_ (qaa rfl rfl ?_ (qaa rfl rfl ?_ (qaa rfl rfl ?_ (qaa rfl rfl ?_ (qaa rfl rfl ?_ (qaa rfl rfl ?_ (qaa rfl rfl ?_ (qau))))))))))))))))
        ·intro vals w1 hb hd
         refine qSv (.slice (some ⟨ga, 0, none⟩) 2 2) (by go_simp) (qLk rfl rfl)
        ·intro vals w1 hb hd
         refine qSv (.int .i64 1) (by go_simp) (qLk rfl rfl)
        ·intro vals w1 hb hd
         rw [show vals 0 = .slice (some ⟨ga, 0, none⟩) 2 2 from hd 0 (by kernel_rfl)]
         rw [show vals 1 = .int .i64 1 from hd 1 (by kernel_rfl)]
         refine qSv (.pointer (some ⟨ga, 1, none⟩)) (by go_simp) (qLk rfl rfl)
        ·intro vals w1 hb hd
         have e0 := qak CI.out hb
         rw [show vals 2 = .pointer (some ⟨ga, 1, none⟩) from hd 2 (by kernel_rfl)]
         refine qSv (.slice (some ⟨gi, 0, none⟩) 2 cgi) (by go_simp) (qLk rfl rfl)
        ·intro vals w1 hb hd
         refine qSv (.int .i64 1) (by go_simp) (qLk rfl rfl)
        ·intro vals w1 hb hd
         refine qSv (.slice (some ⟨ga, 0, none⟩) 2 2) (by go_simp) (qLk rfl rfl)
        ·intro vals w1 hb hd
         refine qSv (.int .i64 1) (by go_simp) (qLk rfl rfl)
        ·intro vals w1 hb hd
         rw [show vals 5 = .slice (some ⟨ga, 0, none⟩) 2 2 from hd 5 (by kernel_rfl)]
         rw [show vals 6 = .int .i64 1 from hd 6 (by kernel_rfl)]
         refine qSv (.pointer (some ⟨ga, 1, none⟩)) (by go_simp) (qLk rfl rfl)
        ·intro vals w1 hb hd
         have e0 := qak CI.out hb
         rw [show vals 7 = .pointer (some ⟨ga, 1, none⟩) from hd 7 (by kernel_rfl)]
         refine qSv (.slice (some ⟨gi, 0, none⟩) 2 cgi) (by go_simp) (qLk rfl rfl)
        ·intro vals w1 hb hd
         refine qSv (.int .i64 1) (by go_simp) (qLk rfl rfl)
        ·intro vals w1 hb hd
         rw [show vals 8 = .slice (some ⟨gi, 0, none⟩) 2 cgi from hd 8 (by kernel_rfl)]
         rw [show vals 9 = .int .i64 1 from hd 9 (by kernel_rfl)]
         refine qSv (.pointer (some ⟨gi, 3, none⟩)) (by go_simp) (qLk rfl rfl)
        ·intro vals w1 hb hd
         obtain ⟨e0, e1, e2⟩ := qax CX.out hb
         rw [show vals 10 = .pointer (some ⟨gi, 3, none⟩) from hd 10 (by kernel_rfl)]
         refine qSv (.agg #[.bool sx, .slice ox nx cx, .slice ax mx dx]) (by go_simp) (qLk rfl rfl)
        ·intro vals w1 hb hd
         refine qSv (.pointer (some ⟨gm, 2, none⟩)) (by go_simp) (qLk rfl rfl)
        ·intro vals w1 hb hd
         obtain ⟨e0, e1, e2, e3, e4⟩ := qbz (qab G_gm.out hb)
         rw [show vals 12 = .pointer (some ⟨gm, 2, none⟩) from hd 12 (by kernel_rfl)]
         refine qSv (.agg #[.bool sm, .slice om nm cm, .slice am mm dm]) (by go_simp) (qLk rfl rfl)
        ·intro vals w1 hb hd
         have d11 : KEq (.agg #[.bool sx, .slice ox nx cx, .slice ax mx dx]) (vals 11) w1 := hd 11 (by kernel_rfl)
         have d13 : KEq (.agg #[.bool sm, .slice om nm cm, .slice am mm dm]) (vals 13) w1 := hd 13 (by kernel_rfl)
         have HS := qHd (subq_any _ xa _ 3 w1 ((IX.out.below hb).is LX.out) ((IM.out.below hb).is LM.out))
         have z11 : vals 11 = _ := d11
         rw [z11]; clear z11
         have z13 : vals 13 = _ := d13
         rw [z13]; clear z13
         refine qar (by go_simp; first | done | exact ⟨⟨rfl, rfl⟩, rfl⟩) ?_
         (with_reducible refine HS.out.mono ?_); rintro e w2 ⟨v, rfl, hb2, hn⟩
         exact ⟨v, rfl, qai hb2 hn (fun h => by cases h)⟩
        ·intro vals w1 hb hd
         rw [show vals 3 = .slice (some ⟨gi, 0, none⟩) 2 cgi from hd 3 (by kernel_rfl)]
         rw [show vals 4 = .int .i64 1 from hd 4 (by kernel_rfl)]
         refine qSv (.pointer (some ⟨gi, 3, none⟩)) (by go_simp) (qLk rfl rfl)
       case tlA1 =>
        intro vals w8 hb8 hf hdis
        simp only [List.drop_succ_cons, List.drop_zero]
        have z15 : vals 15 = _ := hf 15 (by decide)
        have hn : IsR w8 (vals 14) (xa - 3) := hf 14 (by decide)
        rw [z15]
        obtain ⟨r, hr⟩ : ∃ r, r = vals 14 := ⟨_, rfl⟩
        rw [← hr] at hn ⊢
        clear z15 hf hdis hr
        obtain ⟨sz, oz, nz, cz, az, mz, dz, rfl⟩ := hn.shape
        have hn : IsR w8 (.agg #[.bool sz, .slice oz nz cz, .slice az mz dz]) (-3) := by rw [HXA.out] at hn; exact (show ((0) : Rat) - 3 = -3 by decide +kernel) ▸ hn
        have MT := qHd (MT.out.below hb8); have MPW := qHd (MPW.out.below hb8); have HB := qHd (qac HB.out (Nat.le_refl _) hb8); have G_gm := qHd (qab G_gm.out hb8); have IM := qHd (IM.out.below hb8)
        have IZ := qHd hn
        clear hb8 hn CX CI IX HXA
        obtain ⟨_, hFi⟩ := MT.out.at (i := 1) (by decide) EVI.out
        obtain ⟨cs, hcs, hsz⟩ := qbe hFi
        go_wp2_with (with_reducible refine qan ?_)
        refine qba gi 3 [.bool sz, .slice oz nz cz, .slice az mz dz] hcs rfl rfl (by simp only [List.length_cons, List.length_nil]; omega) (by kernel_rfl) rfl ?_
        intro wz hpz
        obtain ⟨hX, hSt⟩ := hFi.put (j := 1) (by decide) IZ.out hpz
        have MT := qHd ((MT.out.rowPut (i := 1) (by decide) (x := updR ((M2 (-1) 0 1 0) 1) 1 (-3)) (by rw [EVI.out]; exact hX) (by rw [EVI.out]; exact hSt)).congr (N := M2 (-1) 0 1 (-3)) (fun a ha b hb => M2_11 _ _ _ _ _ a ha b hb))
        have MPW := qHd (MPW.out.kept hSt.gr (fun e => NGB.out (Option.some.inj e)))
        have HB := qHd (hSt.low HB.out HB.out.size lgi)
        have G_gm := qHd (hSt.heap G_gm.out (fun e => by
         have h2 : gi = gm := Option.some.inj e
         obtain ⟨cz, hcz, _⟩ := qbe hFi
         rw [h2, G_gm.out] at hcz; cases hcz))
        have IM := qHd (hSt.I IM.out)
        clear hX hSt hpz hcs hsz IZ hFi EVI NGB
        go_wp2_with (with_reducible first | refine qag ?_ | refine qah ?_ | refine qbb ?_ | refine qbc ?_ | refine qae ?_)
        obtain ⟨wy, rfl⟩ : ∃ z : World, z = wz := ⟨_, rfl⟩
        obtain ⟨gi, cgi, eVi, hci, hci2, hBi, hnei, cI, hFi⟩ := MT.out.get (i := 0) (by decide) (by decide)
        have EVI := qHd eVi; have CI := qHd cI
        have NGB := qHd (show gi ≠ gb by obtain ⟨cs, h1, _⟩ := qbe hFi; exact MPW.out.ne h1)
        have lgi : W1.heap.size ≤ gi := hBi
        obtain ⟨sx, ox, nx, cx, ax, mx, dx, x0, x1, x2, hIx⟩ := hFi.at (j := 1) (by decide)
        obtain ⟨xa, hxa⟩ : ∃ z0 : Rat, z0 = (0) := ⟨_, rfl⟩
        have hIx : IsR wy (.agg #[.bool sx, .slice ox nx cx, .slice ax mx dx]) xa := by rw [hxa]; exact hIx
        have LX := qHd (show rl xa ≤ 100000 by rw [hxa]; exact Nat.le_trans (rl_sm8 0 (by decide)) (by decide))
        have HXA := qHd hxa; have IX := qHd hIx; have CX := qHd (And.intro x0 (And.intro x1 x2))
        clear hIx x0 x1 x2 cI eVi hFi hxa
        refine qal.mk ?_
        refine qaj (A := ?aaB1) (w := wy) 16 [] (by kernel_rfl) (Fl [KEq (.slice (some ⟨ga, 0, none⟩) 2 2), KEq (.int .i64 0), KEq (.pointer (some ⟨ga, 0, none⟩)), KEq (.slice (some ⟨gi, 0, none⟩) 2 cgi), KEq (.int .i64 1), KEq (.slice (some ⟨ga, 0, none⟩) 2 2), KEq (.int .i64 0), KEq (.pointer (some ⟨ga, 0, none⟩)), KEq (.slice (some ⟨gi, 0, none⟩) 2 cgi), KEq (.int .i64 1), KEq (.pointer (some ⟨gi, 3, none⟩)), KEq (.agg #[.bool sx, .slice ox nx cx, .slice ax mx dx]), KEq (.pointer (some ⟨gm, 2, none⟩)), KEq (.agg #[.bool sm, .slice om nm cm, .slice am mm dm]), KIs (xa + 3), KEq (.pointer (some ⟨gi, 3, none⟩))]) (fun i => false) (by kernel_rfl) ?hqB1 (qdk (qad (kEq _) (qad (kEq _) (qad (kEq _) (qad (kEq _) (qad (kEq _) (qad (kEq _) (qad (kEq _) (qad (kEq _) (qad (kEq _) (qad (kEq _) (qad (kEq _) (qad (kEq _) (qad (kEq _) (qad (kEq _) (qad (kIs _) (qad (kEq _) qdj))))))))))))))))) ?haB1 ?stB1 ?tlB1
        case hqB1 =>
         intro c a d v w h
         first | (simp only [Exit.then] at h ⊢; exact h) | (simp only [Exit.inBlock, Exit.then] at h ⊢; exact h) | exact h
        case haB1 =>
         intro vals
         simp only [qat, qby, if_true, Act.put, List.setIfInBounds_toArray, List.set_cons_zero, List.set_cons_succ, List.getElem?_toArray, List.getElem?_cons_zero, List.getElem?_cons_succ, Option.bind_some]
         exact rfl
        case stB1 =>
         simp only [List.take_succ_cons, List.take_zero]
         refine qaa rfl rfl ?_ (qaa rfl rfl ?_ (qaa rfl rfl ?_ (qaa rfl rfl ?_ (qaa rfl rfl ?_ (qaa rfl rfl ?_ (qaa rfl rfl ?_ (qaa rfl rfl ?_ (qaa rfl rfl ?_ (qaa rfl rfl ?_ (qaa rfl rfl ?_ (qaa rfl rfl ?_ (qaa rfl rfl ?_ (qaa rfl rfl ?_ (qaa rfl rfl ?_ (qaa rfl rfl ?_ (qau))))))))))))))))
         ·intro vals w1 hb hd
          refine qSv (.slice (some ⟨ga, 0, none⟩) 2 2) (by go_simp) (qLk rfl rfl)
         ·intro vals w1 hb hd
          refine qSv (.int .i64 0) (by go_simp) (qLk rfl rfl)
         ·intro vals w1 hb hd
          rw [show vals 0 = .slice (some ⟨ga, 0, none⟩) 2 2 from hd 0 (by kernel_rfl)]
          rw [show vals 1 = .int .i64 0 from hd 1 (by kernel_rfl)]
          refine qSv (.pointer (some ⟨ga, 0, none⟩)) (by go_simp) (qLk rfl rfl)
         ·intro vals w1 hb hd
          have e0 := qak CI.out hb
          rw [show vals 2 = .pointer (some ⟨ga, 0, none⟩) from hd 2 (by kernel_rfl)]
          refine qSv (.slice (some ⟨gi, 0, none⟩) 2 cgi) (by go_simp) (qLk rfl rfl)
         ·intro vals w1 hb hd
          refine qSv (.int .i64 1) (by go_simp) (qLk rfl rfl)
         ·intro vals w1 hb hd
          refine qSv (.slice (some ⟨ga, 0, none⟩) 2 2) (by go_simp) (qLk rfl rfl)
         ·intro vals w1 hb hd
          refine qSv (.int .i64 0) (by go_simp) (qLk rfl rfl)
         ·intro vals w1 hb hd
          rw [show vals 5 = .slice (some ⟨ga, 0, none⟩) 2 2 from hd 5 (by kernel_rfl)]
          rw [show vals 6 = .int .i64 0 from hd 6 (by kernel_rfl)]
          refine qSv (.pointer (some ⟨ga, 0, none⟩)) (by go_simp) (qLk rfl rfl)
         ·intro vals w1 hb hd
          have e0 := qak CI.out hb
          rw [show vals 7 = .pointer (some ⟨ga, 0, none⟩) from hd 7 (by kernel_rfl)]
          refine qSv (.slice (some ⟨gi, 0, none⟩) 2 cgi) (by go_simp) (qLk rfl rfl)
         ·intro vals w1 hb hd
          refine qSv (.int .i64 1) (by go_simp) (qLk rfl rfl)
         ·intro vals w1 hb hd
          rw [show vals 8 = .slice (some ⟨gi, 0, none⟩) 2 cgi from hd 8 (by kernel_rfl)]
          rw [show vals 9 = .int .i64 1 from hd 9 (by kernel_rfl)]
          refine qSv (.pointer (some ⟨gi, 3, none⟩)) (by go_simp) (qLk rfl rfl)
         ·intro vals w1 hb hd
          obtain ⟨e0, e1, e2⟩ := qax CX.out hb
          rw [show vals 10 = .pointer (some ⟨gi, 3, none⟩) from hd 10 (by kernel_rfl)]
          refine qSv (.agg #[.bool sx, .slice ox nx cx, .slice ax mx dx]) (by go_simp) (qLk rfl rfl)
         ·intro vals w1 hb hd
          refine qSv (.pointer (some ⟨gm, 2, none⟩)) (by go_simp) (qLk rfl rfl)
         ·intro vals w1 hb hd
          obtain ⟨e0, e1, e2, e3, e4⟩ := qbz (qab G_gm.out hb)
          rw [show vals 12 = .pointer (some ⟨gm, 2, none⟩) from hd 12 (by kernel_rfl)]
          refine qSv (.agg #[.bool sm, .slice om nm cm, .slice am mm dm]) (by go_simp) (qLk rfl rfl)
         ·intro vals w1 hb hd
          have d11 : KEq (.agg #[.bool sx, .slice ox nx cx, .slice ax mx dx]) (vals 11) w1 := hd 11 (by kernel_rfl)
          have d13 : KEq (.agg #[.bool sm, .slice om nm cm, .slice am mm dm]) (vals 13) w1 := hd 13 (by kernel_rfl)
          have HS := qHd (qcz _ xa _ 3 w1 ((IX.out.below hb).is LX.out) ((IM.out.below hb).is LM.out))
          have z11 : vals 11 = _ := d11
          rw [z11]; clear z11
          have z13 : vals 13 = _ := d13
          rw [z13]; clear z13
          refine qar (by go_simp; first | done | exact ⟨⟨rfl, rfl⟩, rfl⟩) ?_
          (with_reducible refine HS.out.mono ?_); rintro e w2 ⟨v, rfl, hb2, hn⟩
          exact ⟨v, rfl, qai hb2 hn (fun h => by cases h)⟩
         ·intro vals w1 hb hd
          rw [show vals 3 = .slice (some ⟨gi, 0, none⟩) 2 cgi from hd 3 (by kernel_rfl)]
          rw [show vals 4 = .int .i64 1 from hd 4 (by kernel_rfl)]
          refine qSv (.pointer (some ⟨gi, 3, none⟩)) (by go_simp) (qLk rfl rfl)
        case tlB1 =>
         intro vals w8 hb8 hf hdis
         simp only [List.drop_succ_cons, List.drop_zero]
         have z15 : vals 15 = _ := hf 15 (by decide)
         have hn : IsR w8 (vals 14) (xa + 3) := hf 14 (by decide)
         rw [z15]
         obtain ⟨r, hr⟩ : ∃ r, r = vals 14 := ⟨_, rfl⟩
         rw [← hr] at hn ⊢
         clear z15 hf hdis hr
         obtain ⟨sz, oz, nz, cz, az, mz, dz, rfl⟩ := hn.shape
         have hn : IsR w8 (.agg #[.bool sz, .slice oz nz cz, .slice az mz dz]) (3) := by rw [HXA.out] at hn; exact (show ((0) : Rat) + 3 = 3 by decide +kernel) ▸ hn
         have MT := qHd (MT.out.below hb8); have MPW := qHd (MPW.out.below hb8); have HB := qHd (qac HB.out (Nat.le_refl _) hb8); have G_gm := qHd (qab G_gm.out hb8); have IM := qHd (IM.out.below hb8)
         have IZ := qHd hn
         clear hb8 hn CX CI IX HXA
         obtain ⟨_, hFi⟩ := MT.out.at (i := 0) (by decide) EVI.out
         obtain ⟨cs, hcs, hsz⟩ := qbe hFi
         go_wp2_with (with_reducible refine qan ?_)
         refine qba gi 3 [.bool sz, .slice oz nz cz, .slice az mz dz] hcs rfl rfl (by simp only [List.length_cons, List.length_nil]; omega) (by kernel_rfl) rfl ?_
         intro wz hpz
         obtain ⟨hX, hSt⟩ := hFi.put (j := 1) (by decide) IZ.out hpz
         have MT := qHd ((MT.out.rowPut (i := 0) (by decide) (x := updR ((M2 (-1) 0 1 (-3)) 0) 1 (3)) (by rw [EVI.out]; exact hX) (by rw [EVI.out]; exact hSt)).congr (N := M2 (-1) 3 1 (-3)) (fun a ha b hb => M2_01 _ _ _ _ _ a ha b hb))
         have MPW := qHd (MPW.out.kept hSt.gr (fun e => NGB.out (Option.some.inj e)))
         have HB := qHd (hSt.low HB.out HB.out.size lgi)
         have G_gm := qHd (hSt.heap G_gm.out (fun e => by
          have h2 : gi = gm := Option.some.inj e
          obtain ⟨cz, hcz, _⟩ := qbe hFi
          rw [h2, G_gm.out] at hcz; cases hcz))
         have IM := qHd (hSt.I IM.out)
         clear hX hSt hpz hcs hsz IZ hFi EVI NGB
         go_wp2_with fail
         go_roundw
         case rel => exact .inr (.inr ⟨by first | rfl | go_num, MT, MPW, HB⟩)
         case measure => simp [intOf]
      ·obtain ⟨wo, rfl⟩ : ∃ wo : World, wo = wr := ⟨_, rfl⟩
       go_wp2_with (with_reducible refine qaw ?_)
       refine qbj Tryz.ratTy 2 rfl rfl (by decide) (by decide) (by decide) ?_
       intro w5 hw5 ho5
       have hb5 : Below wo.heap.size wo w5 := by rw [hw5]; exact qBA _ _
       have hF := madeF ho5 hw5
       obtain ⟨gv, hgv⟩ : ∃ g, g = wo.heap.size := ⟨_, rfl⟩
       have lgv : W1.heap.size ≤ gv := by rw [hgv]; exact HB.out.size
       rw [← hgv] at hF ⊢
       have HF := qHd (hF.base lgv)
       have NGV := qHd (show ∀ i, i < 2 → (V i).ownBlock ≠ some gv from fun i hi e => by have := ((MT.out.row i hi).lt e).2; omega)
       have nga : ga ≠ gv := by have := (MT.out.lt (g := ga) rfl).2; omega
       have MT := qHd (MT.out.below hb5); have HB := qHd (qac HB.out (Nat.le_refl _) hb5)
       clear hF hb5 ho5 hw5 hgv MPW
       have HK := qHd (ofq_any 1 w5 (by decide) (by decide))
       go_wp2_with (with_reducible refine qag ?_)
       refine qal.mk ?_
       (with_reducible refine HK.out.mono ?_); rintro e w6 ⟨v6, rfl, hb6, hn6⟩
       have MT := qHd (MT.out.below hb6); have HB := qHd (qac HB.out (Nat.le_refl _) hb6); have HF := qHd (HF.out.below hb6)
       obtain ⟨sz, oz, nz, cz, az, mz, dz, rfl⟩ := hn6.shape
       have IZ := qHd (show IsR w6 (.agg #[.bool sz, .slice oz nz cz, .slice az mz dz]) 1 from hn6)
       clear hb6 hn6 HK
       obtain ⟨cs, hcs, hsz⟩ := qbe HF.out
       go_wp2_with (with_reducible refine qan ?_)
       refine qba gv 3 [.bool sz, .slice oz nz cz, .slice az mz dz] hcs rfl rfl (by simp only [List.length_cons, List.length_nil]; omega) (by kernel_rfl) rfl ?_
       intro wz hpz
       obtain ⟨hX, hSt⟩ := HF.out.put (j := 1) (by decide) IZ.out hpz
       have FBB := qHd (show FrL wz W1.heap.size (.slice (some ⟨gv, 0, none⟩) 2 2) 2 BM from hX.congr (fun j hj => by
        have h2 : j = 0 ∨ j = 1 := by omega
        rcases h2 with rfl | rfl <;> rfl))
       have MT := qHd (MT.out.stp hSt (fun g hg e => by have h1 : ga = g := Option.some.inj hg; have h2 : gv = g := Option.some.inj e; omega) (fun i hi g hg e => by have h2 : gv = g := Option.some.inj e; exact NGV.out i hi (by rw [hg, h2])))
       have HB := qHd (hSt.low HB.out HB.out.size lgv)
       clear hX hSt hpz hcs hsz IZ HF
       obtain ⟨gi, cgi, eVi, hci, hci2, hBi, hnei, cI, hFi⟩ := MT.out.get (i := 1) (by decide) (by decide)
       clear eVi hFi
       go_wp2_with (with_reducible first | refine qah ?_ | refine qae ?_)
       clear cI
       refine qal.mk ?_
       clear hci hci2 hBi hnei
       go_loopw [132] (fun i' wx => (i' = .int .i64 0 ∧ Hid (Mat wx W1.heap.size (.slice (some ⟨ga, 0, none⟩) 2 2) 2 V (fun _ => 2) (M2 (-1) 3 1 (-3))) ∧ Hid (FrL wx W1.heap.size (.slice (some ⟨gv, 0, none⟩) 2 2) 2 BM) ∧ Hid (Below W1.heap.size W1 wx)) ∨ (i' = .int .i64 1 ∧ Hid (Mat wx W1.heap.size (.slice (some ⟨ga, 0, none⟩) 2 2) 2 V (fun _ => 2) (M2 (-1) 3 1 (-3))) ∧ Hid (FrL wx W1.heap.size (.slice (some ⟨gv, 0, none⟩) 2 2) 2 BM) ∧ Hid (Below W1.heap.size W1 wx)) ∨ (i' = .int .i64 2 ∧ Hid (Mat wx W1.heap.size (.slice (some ⟨ga, 0, none⟩) 2 2) 2 V (fun _ => 2) (M2 (-1) 3 1 1)) ∧ Hid (FrL wx W1.heap.size (.slice (some ⟨gv, 0, none⟩) 2 2) 2 BM) ∧ Hid (Below W1.heap.size W1 wx))) (fun i' _ => 2 - (intOf i').toNat)
       case atStart => exact .inl ⟨rfl, MT, FBB, HB⟩
       case round =>
        clear MT FBB HB
        rcases hrel with ⟨rfl, MT, FBB, HB⟩ | ⟨rfl, MT, FBB, HB⟩ | ⟨rfl, MT, FBB, HB⟩
        ·obtain ⟨wo, rfl⟩ : ∃ wo : World, wo = wr := ⟨_, rfl⟩
         obtain ⟨gi, cgi, eVi, hci, hci2, hBi, hnei, cI, hFi⟩ := MT.out.get (i := 1) (by decide) (by decide)
         have EVI := qHd eVi; have CI := qHd cI
         have NGB := qHd (show gi ≠ gv from fun e => NGV.out 1 (by decide) (by rw [eVi, e]; rfl))
         have lgi : W1.heap.size ≤ gi := hBi
         clear cI eVi hFi
         go_wp2_with (with_reducible first | refine qag ?_ | refine qah ?_ | refine qbb ?_ | refine qbc ?_ | refine qae ?_)
         refine qal.mk ?_
         refine qaj (A := ?aaJ0) (w := wo) 8 [] (by kernel_rfl) (Fl [KEq (.slice (some ⟨ga, 0, none⟩) 2 2), KEq (.int .i64 2), KEq (.int .i64 1), KEq (.pointer (some ⟨ga, 1, none⟩)), KEq (.slice (some ⟨gi, 0, none⟩) 2 cgi), KEq (.int .i64 0), KIs (((1 : Int) : Rat)), KEq (.pointer (some ⟨gi, 0, none⟩))]) (fun i => false) (by kernel_rfl) ?hqJ0 (qdk (qad (kEq _) (qad (kEq _) (qad (kEq _) (qad (kEq _) (qad (kEq _) (qad (kEq _) (qad (kIs _) (qad (kEq _) qdj))))))))) ?haJ0 ?stJ0 ?tlJ0
         case hqJ0 =>
          intro c a d v w h
          first | (simp only [Exit.then] at h ⊢; exact h) | (simp only [Exit.inBlock, Exit.then] at h ⊢; exact h) | exact h
         case haJ0 =>
          intro vals
          simp only [qat, qby, if_true, Act.put, List.setIfInBounds_toArray, List.set_cons_zero, List.set_cons_succ, List.getElem?_toArray, List.getElem?_cons_zero, List.getElem?_cons_succ, Option.bind_some]
          exact rfl
         case stJ0 =>
          simp only [List.take_succ_cons, List.take_zero]
          refine qaa rfl rfl ?_ (qaa rfl rfl ?_ (qaa rfl rfl ?_ (qaa rfl rfl ?_ (qaa rfl rfl ?_ (qaa rfl rfl ?_ (qaa rfl rfl ?_ (qaa rfl rfl ?_ (qau))))))))
          ·intro vals w1 hb hd
           refine qSv (.slice (some ⟨ga, 0, none⟩) 2 2) (by go_simp) (qLk rfl rfl)
          ·intro vals w1 hb hd
           refine qSv (.int .i64 2) (by go_simp) (qLk rfl rfl)
          ·intro vals w1 hb hd
           rw [show vals 1 = .int .i64 2 from hd 1 (by kernel_rfl)]
           refine qSv (.int .i64 1) (by go_simp; (first | rfl | decide)) (qLk rfl rfl)
          ·intro vals w1 hb hd
           rw [show vals 0 = .slice (some ⟨ga, 0, none⟩) 2 2 from hd 0 (by kernel_rfl)]
           rw [show vals 2 = .int .i64 1 from hd 2 (by kernel_rfl)]
           refine qSv (.pointer (some ⟨ga, 1, none⟩)) (by go_simp) (qLk rfl rfl)
          ·intro vals w1 hb hd
           have e0 := qak CI.out hb
           rw [show vals 3 = .pointer (some ⟨ga, 1, none⟩) from hd 3 (by kernel_rfl)]
           refine qSv (.slice (some ⟨gi, 0, none⟩) 2 cgi) (by go_simp) (qLk rfl rfl)
          ·intro vals w1 hb hd
           refine qSv (.int .i64 0) (by go_simp) (qLk rfl rfl)
          ·intro vals w1 hb hd
           have HS := qHd (ofq_any 1 w1 (by decide) (by decide))
           refine qar (by go_simp; first | done | exact ⟨⟨rfl, rfl⟩, rfl⟩) ?_
           (with_reducible refine HS.out.mono ?_); rintro e w2 ⟨v, rfl, hb2, hn⟩
           exact ⟨v, rfl, qai hb2 hn (fun h => by cases h)⟩
          ·intro vals w1 hb hd
           rw [show vals 4 = .slice (some ⟨gi, 0, none⟩) 2 cgi from hd 4 (by kernel_rfl)]
           rw [show vals 5 = .int .i64 0 from hd 5 (by kernel_rfl)]
           refine qSv (.pointer (some ⟨gi, 0, none⟩)) (by go_simp) (qLk rfl rfl)
         case tlJ0 =>
          intro vals w8 hb8 hf hdis
          simp only [List.drop_succ_cons, List.drop_zero]
          have z7 : vals 7 = _ := hf 7 (by decide)
          have hn : IsR w8 (vals 6) ((1 : Int) : Rat) := hf 6 (by decide)
          rw [z7]
          obtain ⟨r, hr⟩ : ∃ r, r = vals 6 := ⟨_, rfl⟩
          rw [← hr] at hn ⊢
          clear z7 hf hdis hr
          obtain ⟨sz, oz, nz, cz, az, mz, dz, rfl⟩ := hn.shape
          have hn : IsR w8 (.agg #[.bool sz, .slice oz nz cz, .slice az mz dz]) 1 := hn
          have MT := qHd (MT.out.below hb8); have FBB := qHd (FBB.out.below hb8); have HB := qHd (qac HB.out (Nat.le_refl _) hb8)
          have IZ := qHd hn
          clear hb8 hn CI
          obtain ⟨_, hFi⟩ := MT.out.at (i := 1) (by decide) EVI.out
          obtain ⟨cs, hcs, hsz⟩ := qbe hFi
          go_wp2_with (with_reducible refine qan ?_)
          refine qba gi 0 [.bool sz, .slice oz nz cz, .slice az mz dz] hcs rfl rfl (by simp only [List.length_cons, List.length_nil]; omega) (by kernel_rfl) rfl ?_
          intro wz hpz
          obtain ⟨hX, hSt⟩ := hFi.put (j := 0) (by decide) IZ.out hpz
          have MT := qHd ((MT.out.rowPut (i := 1) (by decide) (x := updR ((M2 (-1) 3 1 (-3)) 1) 0 1) (by rw [EVI.out]; exact hX) (by rw [EVI.out]; exact hSt)).congr (N := M2 (-1) 3 1 (-3)) (fun a ha b hb => M2_10 _ _ _ _ _ a ha b hb))
          have FBB := qHd (FBB.out.stp hSt (fun g hg e => NGB.out (by have h1 : gv = g := Option.some.inj hg; have h2 : gi = g := Option.some.inj e; omega)))
          have HB := qHd (hSt.low HB.out HB.out.size lgi)
          clear hX hSt hpz hcs hsz IZ hFi EVI NGB
          go_wp2_with fail
          go_roundw
          case rel => exact .inr (.inl ⟨by first | rfl | go_num, MT, FBB, HB⟩)
          case measure => simp [intOf]
        ·obtain ⟨wo, rfl⟩ : ∃ wo : World, wo = wr := ⟨_, rfl⟩
         obtain ⟨gi, cgi, eVi, hci, hci2, hBi, hnei, cI, hFi⟩ := MT.out.get (i := 1) (by decide) (by decide)
         have EVI := qHd eVi; have CI := qHd cI
         have NGB := qHd (show gi ≠ gv from fun e => NGV.out 1 (by decide) (by rw [eVi, e]; rfl))
         have lgi : W1.heap.size ≤ gi := hBi
         clear cI eVi hFi
         go_wp2_with (with_reducible first | refine qag ?_ | refine qah ?_ | refine qbb ?_ | refine qbc ?_ | refine qae ?_)
         refine qal.mk ?_
         refine qaj (A := ?aaJ1) (w := wo) 8 [] (by kernel_rfl) (Fl [KEq (.slice (some ⟨ga, 0, none⟩) 2 2), KEq (.int .i64 2), KEq (.int .i64 1), KEq (.pointer (some ⟨ga, 1, none⟩)), KEq (.slice (some ⟨gi, 0, none⟩) 2 cgi), KEq (.int .i64 1), KIs (((1 : Int) : Rat)), KEq (.pointer (some ⟨gi, 3, none⟩))]) (fun i => false) (by kernel_rfl) ?hqJ1 (qdk (qad (kEq _) (qad (kEq _) (qad (kEq _) (qad (kEq _) (qad (kEq _) (qad (kEq _) (qad (kIs _) (qad (kEq _) qdj))))))))) ?haJ1 ?stJ1 ?tlJ1
         case hqJ1 =>
          intro c a d v w h
          first | (simp only [Exit.then] at h ⊢; exact h) | (simp only [Exit.inBlock, Exit.then] at h ⊢; exact h) | exact h
         case haJ1 =>
          intro vals
          simp only [qat, qby, if_true, Act.put, List.setIfInBounds_toArray, List.set_cons_zero, List.set_cons_succ, List.getElem?_toArray, List.getElem?_cons_zero, List.getElem?_cons_succ, Option.bind_some]
          exact rfl
         case stJ1 =>
          simp only [List.take_succ_cons, List.take_zero]
          refine qaa rfl rfl ?_ (qaa rfl rfl ?_ (qaa rfl rfl ?_ (qaa rfl rfl ?_ (qaa rfl rfl ?_ (qaa rfl rfl ?_ (qaa rfl rfl ?_ (qaa rfl rfl ?_ (qau))))))))
          ·intro vals w1 hb hd
           refine qSv (.slice (some ⟨ga, 0, none⟩) 2 2) (by go_simp) (qLk rfl rfl)
          ·intro vals w1 hb hd
           refine qSv (.int .i64 2) (by go_simp) (qLk rfl rfl)
          ·intro vals w1 hb hd
           rw [show vals 1 = .int .i64 2 from hd 1 (by kernel_rfl)]
           refine qSv (.int .i64 1) (by go_simp; (first | rfl | decide)) (qLk rfl rfl)
          ·intro vals w1 hb hd
           rw [show vals 0 = .slice (some ⟨ga, 0, none⟩) 2 2 from hd 0 (by kernel_rfl)]
           rw [show vals 2 = .int .i64 1 from hd 2 (by kernel_rfl)]
           refine qSv (.pointer (some ⟨ga, 1, none⟩)) (by go_simp) (qLk rfl rfl)
          ·intro vals w1 hb hd
           have e0 := qak CI.out hb
           rw [show vals 3 = .pointer (some ⟨ga, 1, none⟩) from hd 3 (by kernel_rfl)]
           refine qSv (.slice (some ⟨gi, 0, none⟩) 2 cgi) (by go_simp) (qLk rfl rfl)
          ·intro vals w1 hb hd
           refine qSv (.int .i64 1) (by go_simp) (qLk rfl rfl)
          ·intro vals w1 hb hd
           have HS := qHd (ofq_any 1 w1 (by decide) (by decide))
           refine qar (by go_simp; first | done | exact ⟨⟨rfl, rfl⟩, rfl⟩) ?_
           (with_reducible refine HS.out.mono ?_); rintro e w2 ⟨v, rfl, hb2, hn⟩
           exact ⟨v, rfl, qai hb2 hn (fun h => by cases h)⟩
          ·intro vals w1 hb hd
           rw [show vals 4 = .slice (some ⟨gi, 0, none⟩) 2 cgi from hd 4 (by kernel_rfl)]
           rw [show vals 5 = .int .i64 1 from hd 5 (by kernel_rfl)]
           refine qSv (.pointer (some ⟨gi, 3, none⟩)) (by go_simp) (qLk rfl rfl)
         case tlJ1 =>
          intro vals w8 hb8 hf hdis
          simp only [List.drop_succ_cons, List.drop_zero]
          have z7 : vals 7 = _ := hf 7 (by decide)
          have hn : IsR w8 (vals 6) ((1 : Int) : Rat) := hf 6 (by decide)
          rw [z7]
          obtain ⟨r, hr⟩ : ∃ r, r = vals 6 := ⟨_, rfl⟩
          rw [← hr] at hn ⊢
          clear z7 hf hdis hr
          obtain ⟨sz, oz, nz, cz, az, mz, dz, rfl⟩ := hn.shape
          have hn : IsR w8 (.agg #[.bool sz, .slice oz nz cz, .slice az mz dz]) 1 := hn
          have MT := qHd (MT.out.below hb8); have FBB := qHd (FBB.out.below hb8); have HB := qHd (qac HB.out (Nat.le_refl _) hb8)
          have IZ := qHd hn
          clear hb8 hn CI
          obtain ⟨_, hFi⟩ := MT.out.at (i := 1) (by decide) EVI.out
          obtain ⟨cs, hcs, hsz⟩ := qbe hFi
          go_wp2_with (with_reducible refine qan ?_)
          refine qba gi 3 [.bool sz, .slice oz nz cz, .slice az mz dz] hcs rfl rfl (by simp only [List.length_cons, List.length_nil]; omega) (by kernel_rfl) rfl ?_
          intro wz hpz
          obtain ⟨hX, hSt⟩ := hFi.put (j := 1) (by decide) IZ.out hpz
          have MT := qHd ((MT.out.rowPut (i := 1) (by decide) (x := updR ((M2 (-1) 3 1 (-3)) 1) 1 1) (by rw [EVI.out]; exact hX) (by rw [EVI.out]; exact hSt)).congr (N := M2 (-1) 3 1 1) (fun a ha b hb => M2_11 _ _ _ _ _ a ha b hb))
          have FBB := qHd (FBB.out.stp hSt (fun g hg e => NGB.out (by have h1 : gv = g := Option.some.inj hg; have h2 : gi = g := Option.some.inj e; omega)))
          have HB := qHd (hSt.low HB.out HB.out.size lgi)
          clear hX hSt hpz hcs hsz IZ hFi EVI NGB
          go_wp2_with fail
          go_roundw
          case rel => exact .inr (.inr ⟨by first | rfl | go_num, MT, FBB, HB⟩)
          case measure => simp [intOf]
        ·obtain ⟨wo, rfl⟩ : ∃ wo : World, wo = wr := ⟨_, rfl⟩
         have HK := qHd (lsolve_any ga 2 gv 2 2 W1.heap.size W1.heap.size V AM BM wo MT.out FBB.out (by decide) (by decide) ⟨Nat.le_refl _, by decide⟩ ⟨Nat.le_refl _, by decide⟩ am_rl bm_rl am_sz am_ns)
         go_wp2_with (with_reducible refine qag ?_)
         refine qal.mk ?_
         (with_reducible refine HK.out.mono ?_); rintro e w7 ⟨sol, ⟨v7, rfl, hb7, hF7⟩, hsum, _⟩
         have SOL := qHd (am_sol hsum)
         have HB := qHd (qac HB.out (Nat.le_refl _) hb7)
         obtain ⟨gx, cgx, rfl, hcgx, hcgx2, _, _⟩ := hF7.addr (by decide)
         have lwo := HB.out.size
         have FSS := qHd (hF7.base (B' := W1.heap.size) (by have := FBB.out.lt (g := gv) rfl; omega))
         have HBG := qHd (HB1.out.trans (HB.out.mono HB1.out.size))
         clear hb7 hF7 hsum HK MT FBB lwo
         obtain ⟨gcx0, gcx1, gcx2, gcx3⟩ := qbn (qab G_gc.out HBG.out)
         go_wp2_with (with_reducible refine qaw ?_)
         clear gcx0 gcx1 gcx2 gcx3
         refine qbj Tryz.ratTy 2 rfl rfl (by decide) (by decide) (by decide) ?_
         intro w8 hw8 ho8
         have hb8 : Below w7.heap.size w7 w8 := by rw [hw8]; exact qBA _ _
         have hF := madeF ho8 hw8
         obtain ⟨gs, hgs⟩ : ∃ g, g = w7.heap.size := ⟨_, rfl⟩
         have lgs : W1.heap.size ≤ gs := by rw [hgs]; exact HB.out.size
         have nsx : gs ≠ gx := by have := (FSS.out.lt (g := gx) rfl).2; omega
         rw [← hgs] at hF ⊢
         have FO := qHd (show FrL w8 W1.heap.size (.slice (some ⟨gs, 0, none⟩) 2 2) 2 (mix 0 (fun _ => 0) sol) from (hF.base lgs).congr (fun j _ => (if_neg (by omega)).symm))
         have FSS := qHd (FSS.out.below hb8); have HB := qHd (qac HB.out (Nat.le_refl _) hb8)
         clear hF hb8 ho8 hw8 hgs HBG
         go_wp2_with (with_reducible first | refine qah ?_ | refine qae ?_)
         refine qal.mk ?_
         go_loopw [158] (fun i' wx => (i' = .int .i64 0 ∧ Hid (FrL wx W1.heap.size (.slice (some ⟨gs, 0, none⟩) 2 2) 2 (mix 0 (fun _ => 0) sol)) ∧ Hid (FrL wx W1.heap.size (.slice (some ⟨gx, 0, none⟩) 2 cgx) 2 sol) ∧ Hid (Below W1.heap.size W1 wx)) ∨ (i' = .int .i64 1 ∧ Hid (FrL wx W1.heap.size (.slice (some ⟨gs, 0, none⟩) 2 2) 2 (mix 1 (fun _ => 0) sol)) ∧ Hid (FrL wx W1.heap.size (.slice (some ⟨gx, 0, none⟩) 2 cgx) 2 sol) ∧ Hid (Below W1.heap.size W1 wx)) ∨ (i' = .int .i64 2 ∧ Hid (FrL wx W1.heap.size (.slice (some ⟨gs, 0, none⟩) 2 2) 2 (mix 2 (fun _ => 0) sol)) ∧ Hid (FrL wx W1.heap.size (.slice (some ⟨gx, 0, none⟩) 2 cgx) 2 sol) ∧ Hid (Below W1.heap.size W1 wx))) (fun i' _ => 2 - (intOf i').toNat)
         case atStart => exact .inl ⟨rfl, FO, FSS, HB⟩
         case round =>
          clear FO FSS HB
          rcases hrel with ⟨rfl, FO, FSS, HB⟩ | ⟨rfl, FO, FSS, HB⟩ | ⟨rfl, FO, FSS, HB⟩
          ·obtain ⟨wq, rfl⟩ : ∃ wq : World, wq = wr := ⟨_, rfl⟩
           obtain ⟨f0, f1, f2⟩ := AF.out
           have y0 := qam f1 HB.out
           clear f0 f1 f2
           obtain ⟨sx, ox, nx, cx, ax, mx, dx, x0, x1, x2, hIx⟩ := FSS.out.at (j := 0) (by decide)
           have IX := qHd hIx
           clear hIx
           obtain ⟨cs, hcs, hsz⟩ := qbe FO.out
           go_wp2_with (with_reducible refine qan ?_)
           clear x0 x1 x2 y0
           refine qba gs 0 [.bool sx, .slice ox nx cx, .slice ax mx dx] hcs rfl rfl (by simp only [List.length_cons, List.length_nil]; omega) (by kernel_rfl) rfl ?_
           intro wz hpz
           obtain ⟨hX, hSt⟩ := FO.out.put (j := 0) (by decide) IX.out hpz
           have FO := qHd (show FrL wz W1.heap.size (.slice (some ⟨gs, 0, none⟩) 2 2) 2 (mix 1 (fun _ => 0) sol) by rw [← mix_next]; exact hX)
           have FSS := qHd (FSS.out.stp hSt (fun g hg e => nsx (by have h1 : gx = g := Option.some.inj hg; have h2 : gs = g := Option.some.inj e; omega)))
           have HB := qHd (hSt.low HB.out HB.out.size lgs)
           clear hX hSt hpz hcs hsz IX
           go_wp2_with fail
           go_roundw
           case rel => exact .inr (.inl ⟨by first | rfl | go_num, FO, FSS, HB⟩)
           case measure => simp [intOf]
          ·obtain ⟨wq, rfl⟩ : ∃ wq : World, wq = wr := ⟨_, rfl⟩
           obtain ⟨f0, f1, f2⟩ := AF.out
           have y1 := qam f2 HB.out
           clear f0 f1 f2
           obtain ⟨sx, ox, nx, cx, ax, mx, dx, x0, x1, x2, hIx⟩ := FSS.out.at (j := 1) (by decide)
           have IX := qHd hIx
           clear hIx
           obtain ⟨cs, hcs, hsz⟩ := qbe FO.out
           go_wp2_with (with_reducible refine qan ?_)
           clear x0 x1 x2 y1
           refine qba gs 3 [.bool sx, .slice ox nx cx, .slice ax mx dx] hcs rfl rfl (by simp only [List.length_cons, List.length_nil]; omega) (by kernel_rfl) rfl ?_
           intro wz hpz
           obtain ⟨hX, hSt⟩ := FO.out.put (j := 1) (by decide) IX.out hpz
           have FO := qHd (show FrL wz W1.heap.size (.slice (some ⟨gs, 0, none⟩) 2 2) 2 (mix 2 (fun _ => 0) sol) by rw [← mix_next]; exact hX)
           have FSS := qHd (FSS.out.stp hSt (fun g hg e => nsx (by have h1 : gx = g := Option.some.inj hg; have h2 : gs = g := Option.some.inj e; omega)))
           have HB := qHd (hSt.low HB.out HB.out.size lgs)
           clear hX hSt hpz hcs hsz IX
           go_wp2_with fail
           go_roundw
           case rel => exact .inr (.inr ⟨by first | rfl | go_num, FO, FSS, HB⟩)
           case measure => simp [intOf]
          ·go_wp2_with fail
           go_ret2
           have HBZ := HBW.out.trans ((HB1.out.trans (HB.out.mono HB1.out.size)).mono HBW.out.size)
           exact ⟨sol, ⟨_, rfl, HBZ, (FO.out.congr (fun j hj => if_pos hj)).base (Nat.le_trans HBW.out.size HB1.out.size)⟩, SOL.out⟩
end Go.Proofs.YtblekfkmianmeaaGreatDoor
namespace Go.Proofs.YtblekfkmianmeaaGreatDoor
def decL (n : Nat) : List UInt8 := if n = 0 then [48] else (digD n).reverse
theorem decB_decL (n : Nat) : decB n = ⟨(decL n).toArray⟩ := by
 unfold decB decL; split <;> rfl
theorem decL_len {n k : Nat} (h : n < 10 ^ k) (hk : 0 < k) : (decL n).length ≤ k := by
 unfold decL; split
 ·exact hk
 ·rw [List.length_reverse]; exact digD_len h
theorem decL_words {n k : Nat} (h : (wd n).length ≤ k) (hk : 0 < k) : (decL n).length ≤ 10 * k := by
 refine decL_len (Nat.lt_of_lt_of_le (m := 4294967296 ^ k) ?_ (pow_ten k)) (by omega)
 have h1 := qct (qcp n)
 rw [qao] at h1
 exact Nat.lt_of_lt_of_le h1 (Nat.pow_le_pow_right (by decide) h)
end Go.Proofs.YtblekfkmianmeaaGreatDoor
namespace Go.Proofs.YtblekfkmianmeaaGreatDoor
open Go.RowKit Go.ChangeShapes Go.WideShapes
theorem assert_yes (c : Int) (w : World) : (Instr.typeAssert (.iface 34 (.int .i64 c)) 30 34 true).run Tryz.prog w = .ok (.tuple #[.int .i64 c, .bool true]) w := by kernel_rfl
theorem assert_no (w : World) : (Instr.typeAssert .nilIface 30 34 true).run Tryz.prog w = .ok (.tuple #[.int .i64 0, .bool false]) w := by kernel_rfl
theorem is_eq (c k : Nat) : (((c : Int) == (k : Int)) : Bool) = decide (c = k) := by rw [Bool.eq_iff_iff]; simp; omega
theorem is_any (c : Nat) (kk : Int) (k : Nat) (w : World) (hk : kk = k) (hk0 : k ≠ 0) : Calls Tryz.prog 7 #[errV c, .int .i64 kk] w (RetS w (.bool (decide (c = k)))) := by
 have HK := qHd hk; clear hk
 by_cases h0 : c = 0
 ·subst h0
  have ha := assert_no
  rw [qcm]
  go_enter Tryz.func7, Tryz.ntmps7
  go_wp2
  go_ret
  exact ⟨ret_bool (by rw [eq_comm]; simp; omega), rfl⟩
 ·have ha := assert_yes c
  rw [errV_pos h0]
  go_enter Tryz.func7, Tryz.ntmps7
  go_wp2
  go_ret
  exact ⟨ret_bool (by rw [HK.out, is_eq]), rfl⟩
def rtx (p : Rat) : List UInt8 := (if ng p then [45] else []) ++ decL (nn p) ++ (if p.den = 1 then [] else 47 :: decL p.den)
theorem decB_size {n : Nat} (h : (wd n).length ≤ 100000) : (decB n).size ≤ 1000000 := by
 rw [decB_decL]
 have := decL_words h (by decide)
 simp [ByteArray.size]; omega
theorem cmpN_zero {m n : Nat} (h : cmpN m n = 0) : m = n := by
 unfold cmpN at h; split at h
 ·cases h
 ·split at h
  ·cases h
  ·omega
theorem text_f1 (vp : Value) (p : Rat) (w : World) (hp : qcn w vp p) (hs : ng p = false) (hd : p.den = 1) :
  Calls Tryz.prog 17 #[vp] w (RetV w (.string ⟨(rtx p).toArray⟩)) := by
 obtain ⟨sp, op, np, cp, ap, mp, dp, rfl⟩ := hp.shape
 have hlp := hp.rl
 have hb0 := ((Below.refl w.heap.size w).alloc (by first | (simp; done) | (simp; omega)) (.cells #[.bool sp, .slice op np cp, .slice ap mp dp] 37))
 have hxp := nest1_0 w (.cells #[.bool sp, .slice op np cp, .slice ap mp dp] 37)
 have hpp := hp.below hb0
 obtain ⟨w0, hw0⟩ : ∃ w0, w0 = (w.alloc (.cells #[.bool sp, .slice op np cp, .slice ap mp dp] 37)) := ⟨_, rfl⟩
 rw [← hw0] at hb0 hxp hpp
 have HB0 := qHd hb0; have HW0 := qHd hw0
 have BXp := qHd hxp
 have Fp := qHd hpp
 clear hb0 hw0 hxp hpp hp
 have l1 := rl_n p; have l2 := rl_d p
 have hz1 := decB_size (n := nn p) (by omega); have hz2 := decB_size (n := p.den) (by omega)
 have heq : (⟨(rtx p).toArray⟩ : ByteArray) = decB (nn p) := by
  unfold rtx; rw [hs, if_pos hd, decB_decL]; apply ByteArray.ext; simp
 rw [heq]
 have hlo : (wd 1).length ≤ 1 := by rw [wd_one_len]; exact Nat.le_refl _
 obtain ⟨c, hc⟩ : ∃ c, c = cmpN p.den 1 := ⟨_, rfl⟩
 have hc0 : c = 0 := by rw [hc]; exact cmpN_eq hd
 have hcb : (c == 0) = true := by rw [hc0]; rfl
 have HC := qHd hc; have HS := qHd hs; have HSP := qHd hs; clear hc hs heq hd hc0
 have ht1 := fun v wx (h : Num wx v (wd (nn p))) => text_any v _ wx h (by omega)
 rw [qao] at ht1
 obtain ⟨B, hB⟩ : ∃ B, B = decB (nn p) := ⟨_, rfl⟩; obtain ⟨D, hD⟩ : ∃ D, D = decB p.den := ⟨_, rfl⟩
 rw [← hB] at ht1 hz1 ⊢
 rw [← hD] at hz2
 have HT1 := qHd ht1; clear ht1 hB hD
 go_enter Tryz.func17, Tryz.ntmps17
 have hs := qbq _ p w0 Fp.out
 have HS := qHd hs; clear hs
 go_wp2_with fail
 rw [← HW0.out]
 (with_reducible refine HS.out.mono ?_); rintro e w1 ⟨v1, u1, rfl, hb1, hn1, hm1⟩
 clear HS
 rw [HSP.out]
 have HB1 := qHd (HB0.out.step hb1)
 have Fp := qHd (Fp.out.below hb1)
 have BXp := qHd (qab BXp.out hb1)
 have N := qHd hn1
 have D0 := qHd hm1
 clear hn1 hm1
 clear hb1
 have hs := HT1.out _ w1 N.out
 have HS := qHd hs; clear hs
 go_wp2_with fail
 (with_reducible refine HS.out.mono ?_); rintro e w2 ⟨rfl, hb2⟩
 clear HS
 have HB2 := qHd (HB1.out.step hb2)
 have Fp := qHd (Fp.out.below hb2)
 have N := qHd (N.out.below hb2)
 have D0 := qHd (D0.out.below hb2)
 have BXp := qHd (qab BXp.out hb2)
 clear hb2
 have hs := one_any w2
 have HS := qHd hs; clear hs
 go_wp2_with fail
 (with_reducible refine HS.out.mono ?_); rintro e w3 ⟨v3, rfl, hb3, hn3⟩
 clear HS
 have HB3 := qHd (HB2.out.step hb3)
 have Fp := qHd (Fp.out.below hb3)
 have N := qHd (N.out.below hb3)
 have D0 := qHd (D0.out.below hb3)
 have BXp := qHd (qab BXp.out hb3)
 have ONE := qHd hn3; clear hn3
 clear hb3
 have hs := cmpN_ D0.out ONE.out (by omega) (by omega)
 rw [← HC.out] at hs
 have HS := qHd hs; clear hs
 go_wp2_with fail
 (with_reducible refine HS.out.mono ?_); rintro e w4 ⟨rfl, hb4⟩
 clear HS
 have HB4 := qHd (HB3.out.step hb4)
 have Fp := qHd (Fp.out.below hb4)
 have N := qHd (N.out.below hb4)
 have D0 := qHd (D0.out.below hb4)
 have ONE := qHd (ONE.out.below hb4)
 have BXp := qHd (qab BXp.out hb4)
 clear hb4
 go_wp2_with fail
 all_goals first | (go_ret; exact ⟨by first | rfl | (simp; done), HB4.out⟩) | (rename_i h; exact absurd h (by simp; omega))
theorem text_f0 (vp : Value) (p : Rat) (w : World) (hp : qcn w vp p) (hs : ng p = false) (hd : p.den ≠ 1) :
  Calls Tryz.prog 17 #[vp] w (RetV w (.string ⟨(rtx p).toArray⟩)) := by
 obtain ⟨sp, op, np, cp, ap, mp, dp, rfl⟩ := hp.shape
 have hlp := hp.rl
 have hb0 := ((Below.refl w.heap.size w).alloc (by first | (simp; done) | (simp; omega)) (.cells #[.bool sp, .slice op np cp, .slice ap mp dp] 37))
 have hxp := nest1_0 w (.cells #[.bool sp, .slice op np cp, .slice ap mp dp] 37)
 have hpp := hp.below hb0
 obtain ⟨w0, hw0⟩ : ∃ w0, w0 = (w.alloc (.cells #[.bool sp, .slice op np cp, .slice ap mp dp] 37)) := ⟨_, rfl⟩
 rw [← hw0] at hb0 hxp hpp
 have HB0 := qHd hb0; have HW0 := qHd hw0
 have BXp := qHd hxp
 have Fp := qHd hpp
 clear hb0 hw0 hxp hpp hp
 have l1 := rl_n p; have l2 := rl_d p
 have hz1 := decB_size (n := nn p) (by omega); have hz2 := decB_size (n := p.den) (by omega)
 have heq : (⟨(rtx p).toArray⟩ : ByteArray) = decB (nn p) ++ (⟨#[47]⟩ ++ decB p.den) := by
  unfold rtx; rw [hs, if_neg hd, decB_decL, decB_decL]; apply ByteArray.ext; simp
 rw [heq]
 have hlo : (wd 1).length ≤ 1 := by rw [wd_one_len]; exact Nat.le_refl _
 obtain ⟨c, hc⟩ : ∃ c, c = cmpN p.den 1 := ⟨_, rfl⟩
 have hcb : (c == 0) = false := by rw [hc, beq_eq_false_iff_ne]; exact fun e => hd (cmpN_zero e)
 have HC := qHd hc; have HS := qHd hs; have HSP := qHd hs; clear hc hs heq hd
 have ht1 := fun v wx (h : Num wx v (wd (nn p))) => text_any v _ wx h (by omega)
 rw [qao] at ht1
 obtain ⟨B, hB⟩ : ∃ B, B = decB (nn p) := ⟨_, rfl⟩; obtain ⟨D, hD⟩ : ∃ D, D = decB p.den := ⟨_, rfl⟩
 rw [← hB] at ht1 hz1 ⊢
 rw [← hD] at hz2 ⊢
 have ht2 := fun v wx (h : Num wx v (wd p.den)) => text_any v _ wx h (by omega)
 rw [qao, ← hD] at ht2
 have HT2 := qHd ht2; clear ht2
 have HT1 := qHd ht1; clear ht1 hB hD
 go_enter Tryz.func17, Tryz.ntmps17
 have hs := qbq _ p w0 Fp.out
 have HS := qHd hs; clear hs
 go_wp2_with fail
 rw [← HW0.out]
 (with_reducible refine HS.out.mono ?_); rintro e w1 ⟨v1, u1, rfl, hb1, hn1, hm1⟩
 clear HS
 rw [HSP.out]
 have HB1 := qHd (HB0.out.step hb1)
 have Fp := qHd (Fp.out.below hb1)
 have BXp := qHd (qab BXp.out hb1)
 have N := qHd hn1
 have D0 := qHd hm1
 clear hn1 hm1
 clear hb1
 have hs := HT1.out _ w1 N.out
 have HS := qHd hs; clear hs
 go_wp2_with fail
 (with_reducible refine HS.out.mono ?_); rintro e w2 ⟨rfl, hb2⟩
 clear HS
 have HB2 := qHd (HB1.out.step hb2)
 have Fp := qHd (Fp.out.below hb2)
 have N := qHd (N.out.below hb2)
 have D0 := qHd (D0.out.below hb2)
 have BXp := qHd (qab BXp.out hb2)
 clear hb2
 have hs := one_any w2
 have HS := qHd hs; clear hs
 go_wp2_with fail
 (with_reducible refine HS.out.mono ?_); rintro e w3 ⟨v3, rfl, hb3, hn3⟩
 clear HS
 have HB3 := qHd (HB2.out.step hb3)
 have Fp := qHd (Fp.out.below hb3)
 have N := qHd (N.out.below hb3)
 have D0 := qHd (D0.out.below hb3)
 have BXp := qHd (qab BXp.out hb3)
 have ONE := qHd hn3; clear hn3
 clear hb3
 have hs := cmpN_ D0.out ONE.out (by omega) (by omega)
 rw [← HC.out] at hs
 have HS := qHd hs; clear hs
 go_wp2_with fail
 (with_reducible refine HS.out.mono ?_); rintro e w4 ⟨rfl, hb4⟩
 clear HS
 have HB4 := qHd (HB3.out.step hb4)
 have Fp := qHd (Fp.out.below hb4)
 have N := qHd (N.out.below hb4)
 have D0 := qHd (D0.out.below hb4)
 have ONE := qHd (ONE.out.below hb4)
 have BXp := qHd (qab BXp.out hb4)
 clear hb4
 have hs := HT2.out _ w4 D0.out
 have HS := qHd hs; clear hs
 go_wp2_with fail
 (with_reducible refine HS.out.mono ?_); rintro e w5 ⟨rfl, hb5⟩
 clear HS
 have HB5 := qHd (HB4.out.step hb5)
 have Fp := qHd (Fp.out.below hb5)
 have N := qHd (N.out.below hb5)
 have D0 := qHd (D0.out.below hb5)
 have ONE := qHd (ONE.out.below hb5)
 have BXp := qHd (qab BXp.out hb5)
 clear hb5
 go_wp2_with fail
 all_goals first | (go_ret; exact ⟨by first | rfl | (simp; done), HB5.out⟩) | (rename_i h; exact absurd h (by simp; omega))
theorem text_t1 (vp : Value) (p : Rat) (w : World) (hp : qcn w vp p) (hs : ng p = true) (hd : p.den = 1) :
  Calls Tryz.prog 17 #[vp] w (RetV w (.string ⟨(rtx p).toArray⟩)) := by
 obtain ⟨sp, op, np, cp, ap, mp, dp, rfl⟩ := hp.shape
 have hlp := hp.rl
 have hb0 := ((Below.refl w.heap.size w).alloc (by first | (simp; done) | (simp; omega)) (.cells #[.bool sp, .slice op np cp, .slice ap mp dp] 37))
 have hxp := nest1_0 w (.cells #[.bool sp, .slice op np cp, .slice ap mp dp] 37)
 have hpp := hp.below hb0
 obtain ⟨w0, hw0⟩ : ∃ w0, w0 = (w.alloc (.cells #[.bool sp, .slice op np cp, .slice ap mp dp] 37)) := ⟨_, rfl⟩
 rw [← hw0] at hb0 hxp hpp
 have HB0 := qHd hb0; have HW0 := qHd hw0
 have BXp := qHd hxp
 have Fp := qHd hpp
 clear hb0 hw0 hxp hpp hp
 have l1 := rl_n p; have l2 := rl_d p
 have hz1 := decB_size (n := nn p) (by omega); have hz2 := decB_size (n := p.den) (by omega)
 have heq : (⟨(rtx p).toArray⟩ : ByteArray) = ⟨#[45]⟩ ++ decB (nn p) := by
  unfold rtx; rw [hs, if_pos hd, decB_decL]; apply ByteArray.ext; simp
 rw [heq]
 have hlo : (wd 1).length ≤ 1 := by rw [wd_one_len]; exact Nat.le_refl _
 obtain ⟨c, hc⟩ : ∃ c, c = cmpN p.den 1 := ⟨_, rfl⟩
 have hc0 : c = 0 := by rw [hc]; exact cmpN_eq hd
 have hcb : (c == 0) = true := by rw [hc0]; rfl
 have HC := qHd hc; have HS := qHd hs; have HSP := qHd hs; clear hc hs heq hd hc0
 have ht1 := fun v wx (h : Num wx v (wd (nn p))) => text_any v _ wx h (by omega)
 rw [qao] at ht1
 obtain ⟨B, hB⟩ : ∃ B, B = decB (nn p) := ⟨_, rfl⟩; obtain ⟨D, hD⟩ : ∃ D, D = decB p.den := ⟨_, rfl⟩
 rw [← hB] at ht1 hz1 ⊢
 rw [← hD] at hz2
 have HT1 := qHd ht1; clear ht1 hB hD
 go_enter Tryz.func17, Tryz.ntmps17
 have hs := qbq _ p w0 Fp.out
 have HS := qHd hs; clear hs
 go_wp2_with fail
 rw [← HW0.out]
 (with_reducible refine HS.out.mono ?_); rintro e w1 ⟨v1, u1, rfl, hb1, hn1, hm1⟩
 clear HS
 rw [HSP.out]
 have HB1 := qHd (HB0.out.step hb1)
 have Fp := qHd (Fp.out.below hb1)
 have BXp := qHd (qab BXp.out hb1)
 have N := qHd hn1
 have D0 := qHd hm1
 clear hn1 hm1
 clear hb1
 have hs := HT1.out _ w1 N.out
 have HS := qHd hs; clear hs
 go_wp2_with fail
 (with_reducible refine HS.out.mono ?_); rintro e w2 ⟨rfl, hb2⟩
 clear HS
 have HB2 := qHd (HB1.out.step hb2)
 have Fp := qHd (Fp.out.below hb2)
 have N := qHd (N.out.below hb2)
 have D0 := qHd (D0.out.below hb2)
 have BXp := qHd (qab BXp.out hb2)
 clear hb2
 have hs := one_any w2
 have HS := qHd hs; clear hs
 go_wp2_with fail
 (with_reducible refine HS.out.mono ?_); rintro e w3 ⟨v3, rfl, hb3, hn3⟩
 clear HS
 have HB3 := qHd (HB2.out.step hb3)
 have Fp := qHd (Fp.out.below hb3)
 have N := qHd (N.out.below hb3)
 have D0 := qHd (D0.out.below hb3)
 have BXp := qHd (qab BXp.out hb3)
 have ONE := qHd hn3; clear hn3
 clear hb3
 have hs := cmpN_ D0.out ONE.out (by omega) (by omega)
 rw [← HC.out] at hs
 have HS := qHd hs; clear hs
 go_wp2_with fail
 (with_reducible refine HS.out.mono ?_); rintro e w4 ⟨rfl, hb4⟩
 clear HS
 have HB4 := qHd (HB3.out.step hb4)
 have Fp := qHd (Fp.out.below hb4)
 have N := qHd (N.out.below hb4)
 have D0 := qHd (D0.out.below hb4)
 have ONE := qHd (ONE.out.below hb4)
 have BXp := qHd (qab BXp.out hb4)
 clear hb4
 go_wp2_with fail
 all_goals first | (go_ret; exact ⟨by first | rfl | (simp; done), HB4.out⟩) | (rename_i h; exact absurd h (by simp; omega))
theorem text_t0 (vp : Value) (p : Rat) (w : World) (hp : qcn w vp p) (hs : ng p = true) (hd : p.den ≠ 1) :
  Calls Tryz.prog 17 #[vp] w (RetV w (.string ⟨(rtx p).toArray⟩)) := by
 obtain ⟨sp, op, np, cp, ap, mp, dp, rfl⟩ := hp.shape
 have hlp := hp.rl
 have hb0 := ((Below.refl w.heap.size w).alloc (by first | (simp; done) | (simp; omega)) (.cells #[.bool sp, .slice op np cp, .slice ap mp dp] 37))
 have hxp := nest1_0 w (.cells #[.bool sp, .slice op np cp, .slice ap mp dp] 37)
 have hpp := hp.below hb0
 obtain ⟨w0, hw0⟩ : ∃ w0, w0 = (w.alloc (.cells #[.bool sp, .slice op np cp, .slice ap mp dp] 37)) := ⟨_, rfl⟩
 rw [← hw0] at hb0 hxp hpp
 have HB0 := qHd hb0; have HW0 := qHd hw0
 have BXp := qHd hxp
 have Fp := qHd hpp
 clear hb0 hw0 hxp hpp hp
 have l1 := rl_n p; have l2 := rl_d p
 have hz1 := decB_size (n := nn p) (by omega); have hz2 := decB_size (n := p.den) (by omega)
 have heq : (⟨(rtx p).toArray⟩ : ByteArray) = ⟨#[45]⟩ ++ decB (nn p) ++ (⟨#[47]⟩ ++ decB p.den) := by
  unfold rtx; rw [hs, if_neg hd, decB_decL, decB_decL]; apply ByteArray.ext; simp
 rw [heq]
 have hlo : (wd 1).length ≤ 1 := by rw [wd_one_len]; exact Nat.le_refl _
 obtain ⟨c, hc⟩ : ∃ c, c = cmpN p.den 1 := ⟨_, rfl⟩
 have hcb : (c == 0) = false := by rw [hc, beq_eq_false_iff_ne]; exact fun e => hd (cmpN_zero e)
 have HC := qHd hc; have HS := qHd hs; have HSP := qHd hs; clear hc hs heq hd
 have ht1 := fun v wx (h : Num wx v (wd (nn p))) => text_any v _ wx h (by omega)
 rw [qao] at ht1
 obtain ⟨B, hB⟩ : ∃ B, B = decB (nn p) := ⟨_, rfl⟩; obtain ⟨D, hD⟩ : ∃ D, D = decB p.den := ⟨_, rfl⟩
 rw [← hB] at ht1 hz1 ⊢
 rw [← hD] at hz2 ⊢
 have ht2 := fun v wx (h : Num wx v (wd p.den)) => text_any v _ wx h (by omega)
 rw [qao, ← hD] at ht2
 have HT2 := qHd ht2; clear ht2
 have HT1 := qHd ht1; clear ht1 hB hD
 go_enter Tryz.func17, Tryz.ntmps17
 have hs := qbq _ p w0 Fp.out
 have HS := qHd hs; clear hs
 go_wp2_with fail
 rw [← HW0.out]
 (with_reducible refine HS.out.mono ?_); rintro e w1 ⟨v1, u1, rfl, hb1, hn1, hm1⟩
 clear HS
 rw [HSP.out]
 have HB1 := qHd (HB0.out.step hb1)
 have Fp := qHd (Fp.out.below hb1)
 have BXp := qHd (qab BXp.out hb1)
 have N := qHd hn1
 have D0 := qHd hm1
 clear hn1 hm1
 clear hb1
 have hs := HT1.out _ w1 N.out
 have HS := qHd hs; clear hs
 go_wp2_with fail
 (with_reducible refine HS.out.mono ?_); rintro e w2 ⟨rfl, hb2⟩
 clear HS
 have HB2 := qHd (HB1.out.step hb2)
 have Fp := qHd (Fp.out.below hb2)
 have N := qHd (N.out.below hb2)
 have D0 := qHd (D0.out.below hb2)
 have BXp := qHd (qab BXp.out hb2)
 clear hb2
 have hs := one_any w2
 have HS := qHd hs; clear hs
 go_wp2_with fail
 (with_reducible refine HS.out.mono ?_); rintro e w3 ⟨v3, rfl, hb3, hn3⟩
 clear HS
 have HB3 := qHd (HB2.out.step hb3)
 have Fp := qHd (Fp.out.below hb3)
 have N := qHd (N.out.below hb3)
 have D0 := qHd (D0.out.below hb3)
 have BXp := qHd (qab BXp.out hb3)
 have ONE := qHd hn3; clear hn3
 clear hb3
 have hs := cmpN_ D0.out ONE.out (by omega) (by omega)
 rw [← HC.out] at hs
 have HS := qHd hs; clear hs
 go_wp2_with fail
 (with_reducible refine HS.out.mono ?_); rintro e w4 ⟨rfl, hb4⟩
 clear HS
 have HB4 := qHd (HB3.out.step hb4)
 have Fp := qHd (Fp.out.below hb4)
 have N := qHd (N.out.below hb4)
 have D0 := qHd (D0.out.below hb4)
 have ONE := qHd (ONE.out.below hb4)
 have BXp := qHd (qab BXp.out hb4)
 clear hb4
 have hs := HT2.out _ w4 D0.out
 have HS := qHd hs; clear hs
 go_wp2_with fail
 (with_reducible refine HS.out.mono ?_); rintro e w5 ⟨rfl, hb5⟩
 clear HS
 have HB5 := qHd (HB4.out.step hb5)
 have Fp := qHd (Fp.out.below hb5)
 have N := qHd (N.out.below hb5)
 have D0 := qHd (D0.out.below hb5)
 have ONE := qHd (ONE.out.below hb5)
 have BXp := qHd (qab BXp.out hb5)
 clear hb5
 go_wp2_with fail
 all_goals first | (go_ret; exact ⟨by first | rfl | (simp; done), HB5.out⟩) | (rename_i h; exact absurd h (by simp; omega))
theorem textq_any (vp : Value) (p : Rat) (w : World) (hp : qcn w vp p) : Calls Tryz.prog 17 #[vp] w (RetV w (.string ⟨(rtx p).toArray⟩)) := by
 by_cases h : ng p = true
 ·by_cases h2 : p.den = 1
  ·exact text_t1 vp p w hp h h2
  ·exact text_t0 vp p w hp h h2
 ·have h := Bool.eq_false_iff.2 h
  by_cases h2 : p.den = 1
  ·exact text_f1 vp p w hp h h2
  ·exact text_f0 vp p w hp h h2
theorem pair_reach (i : Nat) : qcf pairM (dnf pairD) 0 i ↔ i = 0 := by
 constructor
 ·intro h
  cases h with
  | start _ => rfl
  | step m h1 hm hd =>
   simp only [pairM, List.mem_cons, List.not_mem_nil, or_false] at hm
   rcases hm with rfl | rfl
   ·exact absurd hd (by decide)
   ·rfl
 ·rintro rfl; exact .start (by decide)
theorem pair_ends : ∀ i, qcf pairM (dnf pairD) 0 i → Ends pairM (dnf pairD) i := by
 intro i h
 rw [pair_reach] at h
 subst h
 exact Ends.step (ms := pairM) ⟨0, 1, 1⟩ (by simp [pairM]) (.down 1 (by decide))
theorem pair_T {T : Nat → Rat} (h : IsT pairM (dnf pairD) 0 T) : T 0 = 1 := by
 have h0 := h.eq 0 ((pair_reach 0).2 rfl)
 have h1 := h.out 1 (fun k => by have := (pair_reach 1).1 k; omega)
 have e : flow pairM 0 T = 1 * (T 0 - T 1) + (0 + 0) := rfl
 rw [e, h1] at h0
 grind
theorem decL_1 : decL 1 = [49] := by
 unfold decL
 rw [if_neg (by decide), digD_pos (by decide), show 1 / 10 = 0 by decide, digD_zero]; rfl
theorem decL_4 : decL 4 = [52] := by
 unfold decL
 rw [if_neg (by decide), digD_pos (by decide), show 4 / 10 = 0 by decide, digD_zero]; rfl
theorem rtx_quarter : rtx (1 / 4) = [49, 47, 52] := by
 unfold rtx
 rw [show ng (1 / 4 : Rat) = false by decide +kernel, show nn (1 / 4 : Rat) = 1 by decide +kernel, show (1 / 4 : Rat).den = 4 by decide +kernel, decL_1, decL_4]; rfl
theorem rtx_one : rtx 1 = [49] := by
 unfold rtx
 rw [show ng (1 : Rat) = false by decide +kernel, show nn (1 : Rat) = 1 by decide +kernel, show (1 : Rat).den = 1 by decide +kernel, decL_1]; rfl
theorem awake54_any (w : World) : Calls Tryz.prog 4 #[] w (RetV w (.bool true)) := by
 go_enter Tryz.func4, Tryz.ntmps4
 have HK := qHd (pair_any w)
 go_wp2_with (with_reducible refine qag ?_)
 refine qal.mk ?_
 (with_reducible refine HK.out.mono ?_); rintro e w1 ⟨v1, rfl, hb1, hc1⟩
 have HB := qHd hb1
 have HK := qHd (ssolve_any v1 w1 hc1)
 clear hb1 hc1
 go_wp2_with (with_reducible refine qag ?_)
 refine qal.mk ?_
 (with_reducible refine HK.out.mono ?_); rintro e w2 ⟨sol, ⟨v2, rfl, hb2, hF⟩, hs⟩
 obtain ⟨g1, c1, rfl, hc1, hc12, _, _⟩ := hF.addr (by decide)
 have HB := qHd (HB.out.trans (hb2.mono HB.out.size)); have F1 := qHd hF; have SOL := qHd hs
 clear hb2 hF hs
 have HK := qHd (pair_any w2)
 go_wp2_with (with_reducible refine qag ?_)
 refine qal.mk ?_
 (with_reducible refine HK.out.mono ?_); rintro e w3 ⟨v3, rfl, hb3, hc3⟩
 have HB := qHd (HB.out.trans (hb3.mono HB.out.size)); have F1 := qHd (F1.out.below hb3)
 have HK := qHd (times_any v3 2 0 pairM pairD w3 hc3 pair_gch)
 clear hb3 hc3
 go_wp2_with (with_reducible refine qag ?_)
 refine qal.mk ?_
 (with_reducible refine HK.out.mono ?_)
 rintro e w4 (⟨_, _, hno⟩ | ⟨v4, T, rfl, hb4, hF, hT, hrl, _⟩)
 ·exact absurd pair_ends hno
 obtain ⟨g2, c2, rfl, hc2, hc22, _, _⟩ := hF.addr (by decide)
 have HB := qHd (HB.out.trans (hb4.mono HB.out.size)); have F1 := qHd (F1.out.below hb4); have F2 := qHd hF
 have T0 := pair_T hT
 obtain ⟨s1, o1, n1, k1, a1, m1, d1, x0, x1, x2, hI1⟩ := F1.out.at (j := 1) (by decide)
 have HI1 := qHd (show IsR w4 (.agg #[.bool s1, .slice o1 n1 k1, .slice a1 m1 d1]) (1 / 4) by rw [SOL.out] at hI1; exact hI1)
 obtain ⟨s2, o2, n2, k2, a2, m2, d2, z0, z1, z2, hI2⟩ := F2.out.at (j := 0) (by decide)
 have HI2 := qHd (show IsR w4 (.agg #[.bool s2, .slice o2 n2 k2, .slice a2 m2 d2]) 1 by rw [T0] at hI2; exact hI2)
 have y0 : w4.cell? ⟨g1, 3, none⟩ = some (.bool s1) := x0
 have y1 : w4.cell? ⟨g1, 4, none⟩ = some (.slice o1 n1 k1) := x1
 have y2 : w4.cell? ⟨g1, 5, none⟩ = some (.slice a1 m1 d1) := x2
 have Z := qHd (show w4.cell? ⟨g2, 0, none⟩ = some (.bool s2) ∧ w4.cell? ⟨g2, 1, none⟩ = some (.slice o2 n2 k2) ∧ w4.cell? ⟨g2, 2, none⟩ = some (.slice a2 m2 d2) from ⟨z0, z1, z2⟩)
 have h14 : rl (1 / 4 : Rat) ≤ 100000 := by decide +kernel
 clear hb4 hF hT hrl T0 hI1 hI2 x0 x1 x2 z0 z1 z2 SOL
 have HK := qHd (textq_any _ (1 / 4) w4 (HI1.out.is h14))
 rw [rtx_quarter] at HK
 go_wp2_with (with_reducible refine qag ?_)
 clear y0 y1 y2
 refine qal.mk ?_
 (with_reducible refine HK.out.mono ?_); rintro e w5 ⟨rfl, hb5⟩
 obtain ⟨q0, q1, q2⟩ := qax (g := g2) (i := 0) ⟨Z.out.1, Z.out.2.1, Z.out.2.2⟩ hb5
 have HB := qHd (HB.out.trans (hb5.mono HB.out.size))
 have HK := qHd (textq_any _ 1 w5 ((HI2.out.below hb5).is (by decide +kernel)))
 rw [rtx_one] at HK
 clear hb5
 go_wp2_with (with_reducible refine qag ?_)
 clear q0 q1 q2
 refine qal.mk ?_
 (with_reducible refine HK.out.mono ?_); rintro e w6 ⟨rfl, hb6⟩
 have HB := qHd (HB.out.trans (hb6.mono HB.out.size))
 clear hb6
 go_wp2_with fail
 go_ret
 exact ⟨rfl, HB.out⟩
def MvC (w : World) (xs : List Value) (j : Nat) (m : Mv) : Prop :=
 ∃ s o n c a p d, xs[j * 5]? = some (.int .i64 (m.a : Nat)) ∧ xs[j * 5 + 1]? = some (.int .i64 (m.b : Nat)) ∧ xs[j * 5 + 2]? = some (.bool s) ∧ xs[j * 5 + 3]? = some (.slice o n c) ∧ xs[j * 5 + 4]? = some (.slice a p d) ∧ IsR w (.agg #[.bool s, .slice o n c, .slice a p d]) m.r
def MvL (w : World) (B : Nat) (v : Value) (l : List Mv) : Prop := ∃ xs, qbm w B 45 5 v l.length xs ∧ ∀ (j : Nat) x, l[j]? = some x → MvC w xs j x
theorem MvC.stp {w w' : World} {r : Option Nat} {xs : List Value} {j : Nat} {m : Mv} (h : MvC w xs j m) (hs : Stp w w' r) : MvC w' xs j m := by
 obtain ⟨s, o, n, c, a, p, d, h0, h1, h2, h3, h4, h5⟩ := h
 exact ⟨s, o, n, c, a, p, d, h0, h1, h2, h3, h4, hs.I h5⟩
theorem MvL.stp {w w' : World} {r : Option Nat} {B : Nat} {v : Value} {l : List Mv} (h : MvL w B v l) (hs : Stp w w' r) (hne : ∀ g, v.ownBlock = some g → r ≠ some g) : MvL w' B v l := by
 obtain ⟨xs, h1, h2⟩ := h
 exact ⟨xs, h1.kept hs.gr hne, fun j x hj => (h2 j x hj).stp hs⟩
theorem MvL.below {w w' : World} {B : Nat} {v : Value} {l : List Mv} (h : MvL w B v l) (hb : Below w.heap.size w w') : MvL w' B v l := h.stp (qca hb) (fun _ _ e => by cases e)
theorem MvL.nil (w : World) (B : Nat) : MvL w B (.slice none 0 0) [] := ⟨[], qbm.nil _ _ _ _, fun j x hj => by simp at hj⟩
theorem MvL.mvs {w : World} {B : Nat} {v : Value} {l : List Mv} (h : MvL w B v l) : MvsI w v l := by
 obtain ⟨xs, h1, h2⟩ := h
 obtain ⟨ao, c, rfl, k1, k2, k3⟩ := qbd h1.1
 refine ⟨ao, c, rfl, k1, k2, k3, ?_⟩
 intro b off s hs
 subst hs
 by_cases h0 : 0 < l.length
 ·obtain ⟨g, e1, e2, e3, e4, e5, e6⟩ := qbi h1.1 rfl h0
  cases e1
  refine ⟨fun _ => ⟨e3, rfl⟩, fun j x hj => ?_⟩
  obtain ⟨s, o, n, c, a, p, d, q0, q1, q2, q3, q4, q5⟩ := h2 j x hj
  rw [Nat.zero_add]
  exact ⟨s, o, n, c, a, p, d, e6 _ _ q0, e6 _ _ q1, e6 _ _ q2, e6 _ _ q3, e6 _ _ q4, q5⟩
 ·have : l = [] := List.eq_nil_of_length_eq_zero (by omega)
  subst this
  exact ⟨fun h => absurd h (Nat.lt_irrefl _), fun j x hj => by simp at hj⟩
theorem MvL.app {w w' : World} {B : Nat} {v v' : Value} {l : List Mv} {xs : List Value} (ho : qbm w B 45 5 v l.length xs) (hx : ∀ (j : Nat) x, l[j]? = some x → MvC w xs j x) {m : Mv} {s : Bool} {o p : Option Addr} {k c q d : Nat}
  (hI : IsR w (.agg #[.bool s, .slice o k c, .slice p q d]) m.r) (ho' : qbm w' B 45 5 v' (l.length + 1) (xs ++ [.int .i64 (m.a : Nat), .int .i64 (m.b : Nat), .bool s, .slice o k c, .slice p q d])) (hs : Stp w w' v.ownBlock) : MvL w' B v' (l ++ [m]) := by
 refine ⟨_, by rw [List.length_append]; exact ho', fun j x hj => ?_⟩
 have hl := ho.1.1
 by_cases e : j < l.length
 ·rw [List.getElem?_append_left e] at hj
  obtain ⟨s, o, n, c, a, p, d, q0, q1, q2, q3, q4, q5⟩ := (hx j x hj).stp hs
  exact ⟨s, o, n, c, a, p, d, by rw [List.getElem?_append_left (by omega)]; exact q0, by rw [List.getElem?_append_left (by omega)]; exact q1, by rw [List.getElem?_append_left (by omega)]; exact q2, by rw [List.getElem?_append_left (by omega)]; exact q3, by rw [List.getElem?_append_left (by omega)]; exact q4, q5⟩
 ·rw [List.getElem?_append_right (by omega)] at hj
  have e2 : j = l.length := by
   rcases Nat.lt_or_ge (j - l.length) 1 with h | h
   ·omega
   ·rw [List.getElem?_eq_none (by simp; omega)] at hj; cases hj
  subst e2
  rw [Nat.sub_self] at hj
  cases hj
  exact ⟨s, o, k, c, p, q, d, by rw [List.getElem?_append_right (by omega), hl, Nat.sub_self]; rfl, by rw [List.getElem?_append_right (by omega), show l.length * 5 + 1 - xs.length = 1 by omega]; rfl, by rw [List.getElem?_append_right (by omega), show l.length * 5 + 2 - xs.length = 2 by omega]; rfl, by rw [List.getElem?_append_right (by omega), show l.length * 5 + 3 - xs.length = 3 by omega]; rfl, by rw [List.getElem?_append_right (by omega), show l.length * 5 + 4 - xs.length = 4 by omega]; rfl, hs.I hI⟩
theorem noU5 {a b : Int} {s : Bool} {o p : Option Addr} {n c m d : Nat} : noU [.int .i64 a, .int .i64 b, .bool s, .slice o n c, .slice p m d] := by
 intro u hu k
 simp only [List.mem_cons, List.not_mem_nil, or_false] at hu
 rcases hu with rfl | rfl | rfl | rfl | rfl <;> exact fun e => by cases e
theorem Tryz.moveTy : qcl Tryz.prog 22 45 (.agg #[.int .i64 0, .int .i64 0, .bool false, .slice none 0 0, .slice none 0 0]) 5 72 := .mk' Tryz.underlying22 (by kernel_rfl)
def KMv (m : Mv) : Value → World → Prop := fun v w => ∃ s o n c a p d, v = .agg #[.int .i64 (m.a : Nat), .int .i64 (m.b : Nat), .bool s, .slice o n c, .slice a p d] ∧ IsR w (.agg #[.bool s, .slice o n c, .slice a p d]) m.r
theorem kMv (m : Mv) : MonoF (KMv m) := fun _ _ _ ⟨s, o, n, c, a, p, d, h1, h2⟩ hb => ⟨s, o, n, c, a, p, d, h1, h2.below hb⟩
def KM1 (B : Nat) (m : Mv) : Value → World → Prop := fun v w => ∃ g s o n c a p d, B ≤ g ∧ v = .slice (some ⟨g, 0, none⟩) 1 1 ∧ w.heap[g]? = some (.cells #[.int .i64 (m.a : Nat), .int .i64 (m.b : Nat), .bool s, .slice o n c, .slice a p d] 45) ∧ IsR w (.agg #[.bool s, .slice o n c, .slice a p d]) m.r
theorem kM1 (B : Nat) (m : Mv) : MonoF (KM1 B m) := fun _ _ _ ⟨g, s, o, n, c, a, p, d, h1, h2, h3, h4⟩ hb => ⟨g, s, o, n, c, a, p, d, h1, h2, qab h3 hb, h4.below hb⟩
theorem twice_take (ms : List Mv) {j : Nat} {m : Mv} (h : ms[j]? = some m) : qcd (ms.take j) ++ [⟨m.a, m.b, m.r + m.r⟩] = qcd (ms.take (j + 1)) := by
 unfold qcd
 rw [List.take_add_one, h]
 simp
theorem open_words_cell {H : Type} {enc : TypeId × Value → H} {P : Program} {W : World} {t e : TypeId} {v : Value} {x : DataW H × List MemPlace} {fuel : Nat} (ht : P.underlying t = some (.slice e)) (he : P.underlying e = some (.int .u32)) (hc : P.cellsOf e = 1)
  (hf : DataW.trod enc P W 0 (fun _ => true) true fuel t [v] = some x) : ∃ l : List Nat, Num W v l := by
 rcases open_ints ht he hc hf with ⟨hcs, hx⟩ | ⟨a, len', cap', zs, hcs, _, hl, hm, hz, hx, hcell, hwz⟩
 ·have hcs' : v = .slice none 0 0 := by simpa using hcs
  rw [hcs']; exact ⟨[], Num.nil W⟩
 ·have hcs' : v = .slice (some a) len' cap' := by simpa using hcs
  rw [hcs']
  have hz' : len' ≤ zs.length := by rw [hz]; simp; exact hl
  have hgd : ∀ j, j < len' → gd ((zs.take len').map Int.toNat) j = (zs.getD j 0).toNat := fun j hj => by
   simp [gd, List.getD_eq_getElem?_getD, hj, show j < zs.length by omega]
  have hwf : ∀ j, j < zs.length → 0 ≤ zs.getD j 0 ∧ zs.getD j 0 < 4294967296 := fun j hj => by
   have hmem : zs.getD j 0 ∈ zs := by rw [List.getD_eq_getElem?_getD, List.getElem?_eq_getElem hj]; exact List.getElem_mem hj
   have := hwz _ hmem
   simp only [Lit.wf, Bool.and_eq_true, decide_eq_true_eq] at this
   have h1 : IntKind.u32.min = 0 := by decide
   have h2 : IntKind.u32.max = 4294967296 - 1 := by decide
   rw [h1, h2] at this; omega
  have hlen : ((zs.take len').map Int.toNat).length = len' := by rw [List.length_map, List.length_take]; omega
  refine ⟨(zs.take len').map Int.toNat, some a, cap', by rw [hlen], by omega, by unfold maxLen at hm; omega, by simp, ?_, ?_⟩
  ·intro b off s hs
   obtain rfl : a = ⟨b, off, s⟩ := Option.some.inj hs
   have h0 : 0 < len' → b < W.heap.size ∧ s = none := fun h0 => by
    have := hcell 0 (by omega)
    have e0 : (⟨b, off, s⟩ : Addr).add 0 = ⟨b, off, s⟩ := by simp [Addr.add]
    rw [e0] at this
    refine ⟨World.block_lt_of_cell? W _ this, ?_⟩
    cases s with
    | none => rfl
    | some x =>
     unfold World.cell? at this
     split at this <;> simp at this
   refine ⟨fun hh => h0 (by omega), fun j hj => ?_⟩
   rw [hlen] at hj
   obtain ⟨_, rfl⟩ := h0 (by omega)
   have := hcell j (by omega)
   have e2 : (⟨b, off, none⟩ : Addr).add j = ⟨b, off + j, none⟩ := by unfold Addr.add; split <;> simp_all
   rw [e2] at this
   rw [this, hgd j hj]
   have := hwf j (by omega)
   congr 2; omega
  ·intro j
   by_cases hj : j < len'
   ·rw [hgd j hj]; have := hwf j (by omega); omega
   ·rw [gd_over _ _ (by omega)]; omega
end Go.Proofs.YtblekfkmianmeaaGreatDoor
namespace Go.Proofs.YtblekfkmianmeaaGreatDoor
open Go.RowKit Go.ChangeShapes Go.WideShapes Go.Joins Go.Deep
theorem open_bools_cell {H : Type} {enc : TypeId × Value → H} {P : Program} {W : World} {t e : TypeId} {v : Value} {x : DataW H × List MemPlace} {fuel : Nat} (ht : P.underlying t = some (.slice e)) (he : P.underlying e = some .bool) (hc : P.cellsOf e = 1)
  (hf : DataW.trod enc P W 0 (fun _ => true) true fuel t [v] = some x) : ∃ l : List Bool, BlsV W v l := by
 rcases open_bools ht he hc hf with ⟨hcs, hx⟩ | ⟨a, len', cap', B, hcs, _, hl, hm, hx, hcell⟩
 ·have hcs' : v = .slice none 0 0 := by simpa using hcs
  rw [hcs']; exact ⟨[], none, 0, rfl, Nat.le_refl _, by omega, fun _ => rfl, (fun b off s h => by cases h)⟩
 ·have hcs' : v = .slice (some a) len' cap' := by simpa using hcs
  rw [hcs']
  refine ⟨(List.range len').map B, some a, cap', by simp, by simp; exact hl, by unfold maxLen at hm; omega, by simp, ?_⟩
  intro b off s hs
  obtain rfl : a = ⟨b, off, s⟩ := Option.some.inj hs
  have h0 : 0 < len' → b < W.heap.size ∧ s = none := fun h0 => cell_none (hcell 0 (by omega)) rfl
  refine ⟨fun hh => h0 (by simpa using hh), fun j x hj => ?_⟩
  have hjl : j < len' := by
   rcases Nat.lt_or_ge j len' with q | q
   ·exact q
   ·rw [List.getElem?_eq_none (by simpa using q)] at hj; cases hj
  obtain ⟨_, rfl⟩ := h0 (by omega)
  have := hcell j (by omega)
  rw [addr_add] at this
  rw [this]
  rw [List.getElem?_map, List.getElem?_range hjl] at hj
  have hz : B j = x := by simpa using hj
  rw [hz]
theorem open_rv {H : Type} {enc : TypeId × Value → H} {W : World} {cs : List Value} {x : DataW H × List MemPlace} {fuel : Nat}
  (h : DataW.trod enc Tryz.prog W 0 (fun _ => true) true fuel 37 cs = some x) : ∃ (s : Bool) (p q : List Nat) (va vb : Value), cs = [.bool s, va, vb] ∧ Num W va p ∧ Num W vb q := by
 obtain ⟨y0, y1, y2, n, hx, hl, h0, h1, h2⟩ := trod_struct3 Tryz.underlying37 h
 have hl' : cs.length = 3 := hl.trans (by kernel_rfl)
 match cs, hl' with
 | [c0, c1, c2], _ =>
  have h0' : DataW.trod enc Tryz.prog W 0 (fun _ => true) true n 4 [c0] = some y0 := h0
  have h1' : DataW.trod enc Tryz.prog W 0 (fun _ => true) true n 35 [c1] = some y1 := h1
  have h2' : DataW.trod enc Tryz.prog W 0 (fun _ => true) true n 35 [c2] = some y2 := h2
  obtain ⟨b', k0, _⟩ := DataW.trod_bool Tryz.underlying4 h0'
  have e0 : c0 = .bool b' := by simpa using k0
  obtain ⟨a, ha⟩ := open_words_cell Tryz.underlying35 Tryz.underlying49 (by kernel_rfl) h1'
  obtain ⟨b, hb⟩ := open_words_cell Tryz.underlying35 Tryz.underlying49 (by kernel_rfl) h2'
  exact ⟨b', a, b, c1, c2, by rw [e0], ha, hb⟩
theorem open_mv {H : Type} {enc : TypeId × Value → H} {W : World} {cs : List Value} {x : DataW H × List MemPlace} {fuel : Nat}
  (h : DataW.trod enc Tryz.prog W 0 (fun _ => true) true fuel 45 cs = some x) : ∃ (m : MvR) (va vb : Value), cs = [.int .i64 m.a, .int .i64 m.b, .bool m.s, va, vb] ∧ Num W va m.p ∧ Num W vb m.q ∧ I64 m.a ∧ I64 m.b := by
 obtain ⟨y0, y1, y2, n, hx, hl, h0, h1, h2⟩ := trod_struct3 Tryz.underlying45 h
 have hl' : cs.length = 5 := hl.trans (by kernel_rfl)
 match cs, hl' with
 | [c0, c1, c2, c3, c4], _ =>
  have h0' : DataW.trod enc Tryz.prog W 0 (fun _ => true) true n 3 [c0] = some y0 := h0
  have h1' : DataW.trod enc Tryz.prog W 0 (fun _ => true) true n 3 [c1] = some y1 := h1
  have h2' : DataW.trod enc Tryz.prog W 0 (fun _ => true) true n 37 [c2, c3, c4] = some y2 := h2
  obtain ⟨k0, e0, _, w0⟩ := DataW.trod_int Tryz.underlying3 h0'
  obtain ⟨k1, e1, _, w1⟩ := DataW.trod_int Tryz.underlying3 h1'
  obtain ⟨s, p, q, va, vb, e, ha, hb⟩ := open_rv h2'
  simp only [List.cons.injEq, and_true] at e0 e1 e
  obtain ⟨e2, e3, e4⟩ := e
  exact ⟨⟨k0, k1, s, p, q⟩, va, vb, by rw [e0, e1, e2, e3, e4], ha, hb, i64_wf w0, i64_wf w1⟩
theorem open_mvs {H : Type} {enc : TypeId × Value → H} {W : World} {v : Value} {x : DataW H × List MemPlace} {fuel : Nat}
  (h : DataW.trod enc Tryz.prog W 0 (fun _ => true) true fuel 22 [v] = some x) : ∃ L, MvsR W v L := by
 rcases open_slice Tryz.underlying22 h with ⟨hcs, _⟩ | ⟨a, len, cap, m, n, D, Pl, hcs, _, hl, hm, hmm, _, hel⟩
 ·have hcs' : v = .slice none 0 0 := by simpa using hcs
  rw [hcs']; exact ⟨[], none, 0, rfl, Nat.le_refl _, by omega, fun _ => rfl, fun b off s h => by cases h⟩
 ·have hcs' : v = .slice (some a) len cap := by simpa using hcs
  rw [hcs']
  simp only [if_true] at hmm
  subst hmm
  have hc5 : Tryz.prog.cellsOf 45 = 5 := by kernel_rfl
  rw [hc5] at hel
  obtain ⟨F, hF⟩ := choose_lt (α := MvR) (n := len) (p := fun i r => ∃ va vb, W.cell? (a.add (i * 5)) = some (.int .i64 r.a) ∧ W.cell? ((a.add (i * 5)).add 1) = some (.int .i64 r.b) ∧ W.cell? ((a.add (i * 5)).add 2) = some (.bool r.s) ∧ W.cell? ((a.add (i * 5)).add 3) = some va ∧ W.cell? ((a.add (i * 5)).add 4) = some vb ∧ Num W va r.p ∧ Num W vb r.q ∧ I64 r.a ∧ I64 r.b) (fun i hi => by
   obtain ⟨cs', h1, h2⟩ := hel i (by omega)
   obtain ⟨r, va, vb, rfl, k1, k2, k3, k4⟩ := open_mv h2
   obtain ⟨_, _, hc⟩ := World.cells?_some h1
   refine ⟨r, va, vb, ?_, hc 1 (by omega), hc 2 (by omega), hc 3 (by omega), hc 4 (by omega), k1, k2, k3, k4⟩
   have := hc 0 (by omega)
   rw [show (a.add (i * 5)).add 0 = a.add (i * 5) from by simp [Addr.add]] at this
   exact this)
  refine ⟨(List.range len).map F, some a, m, by simp, by simp; omega, by unfold maxLen at hm; omega, by simp, ?_⟩
  intro b off s hs
  obtain rfl : a = ⟨b, off, s⟩ := Option.some.inj hs
  have h0 : 0 < len → b < W.heap.size ∧ s = none := fun h0 => by
   obtain ⟨va, vb, this, _⟩ := hF 0 h0
   rw [Nat.zero_mul] at this
   exact cell_none this rfl
  refine ⟨fun hh => h0 (by simpa using hh), fun j z hj => ?_⟩
  have hjl : j < len := by
   rcases Nat.lt_or_ge j len with q | q
   ·exact q
   ·rw [List.getElem?_eq_none (by simpa using q)] at hj; cases hj
  rw [List.getElem?_map, List.getElem?_range hjl] at hj
  have hz : F j = z := by simpa using hj
  subst hz
  obtain ⟨_, rfl⟩ := h0 (by omega)
  obtain ⟨va, vb, k0, k1, k2, k3, k4, k5, k6, k7⟩ := hF j hjl
  rw [addr_add] at k0 k1 k2 k3 k4
  rw [addr_add] at k1 k2 k3 k4
  obtain ⟨o, c, rfl, _⟩ := id k5.shape
  obtain ⟨o2, c2, rfl, _⟩ := id k6.shape
  exact ⟨o, c, o2, c2, k0, k1, k2, k3, k4, k5, k6, k7⟩
theorem open_chain {H : Type} {enc : TypeId × Value → H} {W : World} {v : Value} {d : DataW H} {p : List MemPlace} {base : Nat}
  (hv : Value.okWide Tryz.prog W .any base 25 v) (h : DataW.Trod enc Tryz.prog W 0 (fun _ => true) true 25 v d p) : ∃ st s0 ms dn, ChR W v st s0 ms dn := by
 obtain ⟨v0, v1, v2, v3, y0, y1, y2, y3, n, rfl, _, _, h0, h1, h2, h3⟩ := Go.Joins.open_agg4 Tryz.underlying25 (by kernel_rfl) (by kernel_rfl) hv h
 have h0' : DataW.trod enc Tryz.prog W 0 (fun _ => true) true n 3 [v0] = some y0 := h0
 have h1' : DataW.trod enc Tryz.prog W 0 (fun _ => true) true n 3 [v1] = some y1 := h1
 have h2' : DataW.trod enc Tryz.prog W 0 (fun _ => true) true n 22 [v2] = some y2 := h2
 have h3' : DataW.trod enc Tryz.prog W 0 (fun _ => true) true n 23 [v3] = some y3 := h3
 obtain ⟨k0, e0, _, w0⟩ := DataW.trod_int Tryz.underlying3 h0'
 obtain ⟨k1, e1, _, w1⟩ := DataW.trod_int Tryz.underlying3 h1'
 obtain ⟨ms, hms⟩ := open_mvs h2'
 obtain ⟨dn, hdn⟩ := open_bools_cell Tryz.underlying23 Tryz.underlying4 (by kernel_rfl) h3'
 have e0' : v0 = .int .i64 k0 := by simpa using e0
 have e1' : v1 = .int .i64 k1 := by simpa using e1
 obtain ⟨mo, mc, rfl, a1, a2, a3⟩ := id hms
 obtain ⟨bo, bc, rfl, b1, b2, b3⟩ := id hdn
 exact ⟨k0, k1, ms, dn, mo, mc, bo, bc, by rw [e0', e1'], hms, hdn, ⟨a1, a2⟩, ⟨b1, b2⟩, i64_wf w0, i64_wf w1⟩
end Go.Proofs.YtblekfkmianmeaaGreatDoor
namespace Go.Proofs.YtblekfkmianmeaaGreatDoor
open Go.RowKit Go.ChangeShapes Go.WideShapes
theorem trodAll_below {H : Type} {enc : TypeId × Value → H} {P : Program} (hl : laidOutB P = true) {W W' : World} (hb : Below W.heap.size W W') :
  ∀ (ts : List TypeId) (vs : List Value) (ds : List (DataW H)) (ps : List MemPlace), (ts.all fun t => P.readableRec t && decide (t < P.types.size)) = true →
   DataW.TrodAll enc P W 0 (fun _ => true) true ts vs ds ps → (∀ x ∈ ps, x.block < W.heap.size) → DataW.TrodAll enc P W' 0 (fun b => decide (b < W.heap.size)) true ts vs ds ps := by
 intro ts
 induction ts with
 | nil =>
  intro vs ds ps hr h hlt
  cases vs <;> cases ds <;> first | exact h | exact h.elim
 | cons t ts ih =>
  intro vs ds ps hr h hlt
  simp only [List.all_cons, Bool.and_eq_true, decide_eq_true_eq] at hr
  cases vs with
  | nil => cases ds <;> exact h.elim
  | cons v vs =>
   cases ds with
   | nil => exact h.elim
   | cons d ds =>
    obtain ⟨p, q, h1, h2, rfl⟩ := h
    exact ⟨p, q, Below.trod hl hr.1.1 hr.1.2 h1 hb (fun x hx => hlt x (List.mem_append_left _ hx)),
     ih vs ds q hr.2 h2 (fun x hx => hlt x (List.mem_append_right _ hx)), rfl⟩

theorem bd_u8 {n : Int} (h : (Lit.int .u8 n).wf = true) : 0 ≤ n ∧ n ≤ 255 := by
 simp only [Lit.wf, Bool.and_eq_true, decide_eq_true_eq] at h
 have h1 : IntKind.u8.min = 0 := by decide
 have h2 : IntKind.u8.max = 255 := by decide
 rw [h1, h2] at h; exact h
theorem law_close {H : Type} {enc : TypeId × Value → H} {P : Program} {f : Func} {s : ChangeSpec} {W W' : World} {args : Array Value} {ds gs : List (DataW H)} {before : List MemPlace} {tb : TypeId}
  (hl : laidOutB P = true) (hrd : (f.params.toList.all fun t => P.readableRec t && decide (t < P.types.size)) = true) (hvars : s.vars = []) (hr : f.resultTypes = #[tb]) (hbool : P.underlying tb = some .bool)
  (hres : (s.fn H (ds ++ gs)).results = [.lit (.bool true)]) (hargs : (s.fn H (ds ++ gs)).args = ds) (hvs : (s.fn H (ds ++ gs)).vars = [])
  (hW : DataW.Whole enc P f.params.toList s.vars false W args.toList ds gs before) (hb : Below W.heap.size W W') :
  s.post enc P f false true false false W args (.bool true) W' := by
 have hlt := hW.lt
 have hW' := hW
 obtain ⟨p, q, hA, hV, rfl, hz, hn⟩ := hW
 rw [hvars] at hV
 obtain ⟨rfl, rfl⟩ := trodVars_none hV
 refine ⟨ds, [], p ++ [], [], p, [], hW', ?_, ?_, ?_, hb.frame _, fun h => by cases h⟩
 ·rw [hres, hr]
  exact ⟨[], [], shut_bool hbool true, rfl, rfl⟩
 ·rw [hargs]
  exact trodAll_below hl hb _ _ _ _ hrd hA (fun x hx => by simpa using hlt x (List.mem_append_left _ hx))
 ·rw [hvs, hvars]; rfl
end Go.Proofs.YtblekfkmianmeaaGreatDoor
