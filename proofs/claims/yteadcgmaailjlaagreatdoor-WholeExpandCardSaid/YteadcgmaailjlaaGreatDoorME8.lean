/-
  What the law leans on, one text behind the other (the base).
  Conditions: each theorem's own.
-/
import Derived.Shelf.Strings.OnBuilder
import Derived.Test.YteadcgmaailjlaaGreatDoorME7
set_option maxRecDepth 100000
set_option maxHeartbeats 16000000
namespace Go.Proofs.YteadcgmaailjlaaGreatDoor
open Go.RowKit Go.ChangeShapes Go.WideShapes
theorem md_of {w : World} {B ge ce gg cg gi ci : Nat} (h1 : qbx w B 101 11 (.slice (some ⟨ge, 0, none⟩) 2 ce) 2 evL) (h2 : qbx w B 107 7 (.slice (some ⟨gg, 0, none⟩) 1 cg) 1 (gtL gi ci))
  (h3 : w.cell? ⟨gi, 0, none⟩ = some (.string ⟨#[97]⟩) ∧ w.cell? ⟨gi, 1, none⟩ = some (.string ⟨#[98]⟩)) (h4 : 2 ≤ ci) (h5 : ci ≤ 9223372036854775807) : Md w ge ce gg cg gi ci := by
 obtain ⟨g1, e1, _, _, _, a1, c1⟩ := qbt h1.1 rfl (by decide)
 obtain ⟨g2, e2, _, _, _, a2, c2⟩ := qbt h2.1 rfl (by decide)
 cases e1; cases e2
 obtain ⟨_, _, e3, _, b1, _⟩ := qaz h1.1
 obtain ⟨_, _, e4, _, b2, _⟩ := qaz h2.1
 cases e3; cases e4
 exact ⟨c1, c2, h3, a1, b1, a2, b2, h4, h5⟩
theorem begin_txt (w : World) : Calls Tryz.prog 34 #[.string ⟨#[109, 111, 100, 101, 108, 32, 109, 59, 32, 101, 118, 101, 110, 116, 32, 97, 59, 32, 101, 118, 101, 110, 116, 32, 98, 59, 32, 103, 97, 116, 101, 32, 103, 32, 97, 110, 100, 32, 97, 32, 98, 59, 32, 116, 111, 112, 32, 103, 59]⟩] w (RetBg txt w) := begin_any txt w txt_split txt_ne
def RetMo (w : World) (e : Ending) (w' : World) : Prop := ∃ ge ce gg cg gi ci : Nat, e = .returned (.tuple #[.agg #[.string ⟨#[109]⟩, .string ⟨#[103]⟩, .slice (some ⟨ge, 0, none⟩) 2 ce, .slice none 0 0, .slice (some ⟨gg, 0, none⟩) 1 cg, .slice none 0 0, .slice none 0 0, .slice none 0 0], .nilIface]) ∧ Below w.heap.size w w' ∧ Md w' ge ce gg cg gi ci
theorem pmodel_m  (w : World)  :
  Calls Tryz.prog 14 #[.string ⟨#[109, 111, 100, 101, 108, 32, 109, 59, 32, 101, 118, 101, 110, 116, 32, 97, 59, 32, 101, 118, 101, 110, 116, 32, 98, 59, 32, 103, 97, 116, 101, 32, 103, 32, 97, 110, 100, 32, 97, 32, 98, 59, 32, 116, 111, 112, 32, 103, 59]⟩] w (RetMo w) := by
 have HB := qHd (Below.refl w.heap.size w)
 go_enter Tryz.func14, Tryz.ntmps14
 go_wp2_with (with_reducible refine qac ?_)
 obtain ⟨w2, hw_3, hb_3, g1, hg_3, Gg1, LO_g1⟩ := qcd HB.out.size (.cells #[.string ⟨#[]⟩, .string ⟨#[]⟩, .slice none 0 0, .slice none 0 0, .slice none 0 0, .slice none 0 0, .slice none 0 0, .slice none 0 0] 44)
 rw [← hw_3, ← hg_3]
 replace HB := qHd (HB.out.trans (hb_3.mono HB.out.size))
 clear hw_3 hg_3 hb_3
 refine qad.mk ?_
 have HK := qHd (begin_txt w2)
 (with_reducible refine HK.out.mono ?_); rintro e w4 ⟨gr, gt, c, rfl, hb, hlo, hlt, hgt, hrd⟩; clear HK
 rw [txt_len] at hrd; rw [txt_tok] at hrd
 have HR := qHd hrd; have LO_gr := qHd (show w.heap.size ≤ gr from Nat.le_trans HB.out.size hlo)
 have LT_gt := qHd (show gt ≠ gr from hrd.ne)
 have NE_gr_g1 := qHd (show gr ≠ g1 from fun e => by have := qao Gg1.out; omega)
 have NE_gt_g1 := qHd (show gt ≠ g1 from fun e => by have := qao Gg1.out; omega)
 replace Gg1 := qHd (qaa Gg1.out hb)
 replace HB := qHd (HB.out.trans (hb.mono HB.out.size))
 clear hb hlo hlt hrd hgt
 have Ggr := qHd (show w4.heap[gr]? = some (.cells #[.slice (some ⟨gt, 0, none⟩) 18 c, .int .i64 0, .nilIface] 82) from HR.out.cells)
 go_wp2_with (with_reducible refine qaf 44 ?_)
 obtain ⟨w6, hw_7, hb_7, g5, hg_7, Gg5, LO_g5⟩ := qcd HB.out.size (.cells #[.string ⟨#[]⟩, .string ⟨#[]⟩, .slice none 0 0, .slice none 0 0, .slice none 0 0, .slice none 0 0, .slice none 0 0, .slice none 0 0] 44)
 rw [← hw_7, ← hg_7]
 have NE_g1_g5 := qHd (show g1 ≠ g5 by have hq := qao Gg1.out; rw [hg_7]; omega)
 have NE_gt_g5 := qHd (show gt ≠ g5 by have hq := HR.out.tlt (j := 0) rfl; rw [hg_7]; omega)
 replace Gg1 := qHd (qaa Gg1.out hb_7)
 replace Ggr := qHd (qaa Ggr.out hb_7)
 replace HR := qHd (HR.out.below hb_7)
 replace HB := qHd (HB.out.trans (hb_7.mono HB.out.size))
 clear hw_7 hg_7 hb_7
 refine qau g5 [.string ⟨#[]⟩, .string ⟨#[]⟩, .slice none 0 0, .slice none 0 0, .slice none 0 0, .slice none 0 0, .slice none 0 0, .slice none 0 0] Gg5.out rfl rfl rfl (by kernel_rfl) rfl ?_
 intro w8 hx_ hgn
 have q_ := (And.intro (qHd (hx_.heap Gg1.out (fun hm => NE_g1_g5.out (List.mem_singleton.1 hm)))) (And.intro (qHd (hx_.heap Ggr.out (fun hm => qaw Ggr.out Gg5.out (by simp) (List.mem_singleton.1 hm)))) (qHd (HR.out.exc hx_ (fun hm => qaw Ggr.out Gg5.out (by simp) (List.mem_singleton.1 hm)) (fun hm => NE_gt_g5.out (List.mem_singleton.1 hm)))))); clear Gg1 Ggr HR; obtain ⟨Gg1, Ggr, HR⟩ := q_
 replace HB := qHd (hx_.low HB.out HB.out.size (fun g hg => by rw [List.mem_singleton.1 hg]; exact LO_g5.out))
 replace Gg5 := qHd hgn
 clear hx_ hgn
 go_wp2_with (with_reducible refine qac ?_)
 refine qad.mk ?_
 have HK := qHd (expect_rd w8 gr gt 18 c 0 txtT 0 ⟨#[109, 111, 100, 101, 108]⟩ ⟨#[109, 111, 100, 101, 108]⟩ HR.out rfl (by decide) (by kernel_rfl) (by decide))
 (with_reducible refine HK.out.mono ?_); rintro e w9 ⟨rfl, hx, hr⟩; clear HK
 have q_ := (And.intro (qHd (hx.heap Gg1.out (fun hm => NE_gr_g1.out.symm (List.mem_singleton.1 hm)))) (qHd (hx.heap Gg5.out (fun hm => qaw Gg5.out Ggr.out (by simp) (List.mem_singleton.1 hm))))); clear Gg1 Gg5; obtain ⟨Gg1, Gg5⟩ := q_
 replace HB := qHd (hx.low HB.out HB.out.size (fun g hg => by rw [List.mem_singleton.1 hg]; exact LO_gr.out))
 replace HR := qHd hr; clear Ggr hr
 have Ggr := qHd (show w9.heap[gr]? = some (.cells #[.slice (some ⟨gt, 0, none⟩) 18 c, .int .i64 1, .nilIface] 82) from HR.out.cells)
 go_wp2_with (with_reducible refine qac ?_)
 refine qad.mk ?_
 have HK := qHd (word_rd w9 gr gt 18 c 1 txtT ⟨#[109]⟩ HR.out rfl (by decide))
 (with_reducible refine HK.out.mono ?_); rintro e w10 ⟨rfl, hx, hr⟩; clear HK
 have q_ := (And.intro (qHd (hx.heap Gg1.out (fun hm => NE_gr_g1.out.symm (List.mem_singleton.1 hm)))) (qHd (hx.heap Gg5.out (fun hm => qaw Gg5.out Ggr.out (by simp) (List.mem_singleton.1 hm))))); clear Gg1 Gg5; obtain ⟨Gg1, Gg5⟩ := q_
 replace HB := qHd (hx.low HB.out HB.out.size (fun g hg => by rw [List.mem_singleton.1 hg]; exact LO_gr.out))
 replace HR := qHd hr; clear Ggr hr
 have Ggr := qHd (show w10.heap[gr]? = some (.cells #[.slice (some ⟨gt, 0, none⟩) 18 c, .int .i64 2, .nilIface] 82) from HR.out.cells)
 go_wp2_with (with_reducible refine qaf 9 ?_)
 refine qct g5 0 (.string ⟨#[109]⟩) Gg5.out rfl rfl (Nat.le_of_ble_eq_true rfl) (by kernel_rfl) rfl rfl ?_
 intro w11 hp
 have hgn : w11.heap[g5]? = some (.cells #[.string ⟨#[109]⟩, .string ⟨#[]⟩, .slice none 0 0, .slice none 0 0, .slice none 0 0, .slice none 0 0, .slice none 0 0, .slice none 0 0] 44) := by rw [hp]; simp [putL, World.setCell, Array.getElem?_modify, Gg5.out]
 have he_ := (Exc.put (X := [g5]) hp (List.mem_singleton.2 rfl))
 have q_ := (And.intro (qHd (he_.heap Gg1.out (fun hm => NE_g1_g5.out (List.mem_singleton.1 hm)))) (And.intro (qHd (he_.heap Ggr.out (fun hm => qaw Ggr.out Gg5.out (by simp) (List.mem_singleton.1 hm)))) (qHd (HR.out.exc he_ (fun hm => qaw Ggr.out Gg5.out (by simp) (List.mem_singleton.1 hm)) (fun hm => NE_gt_g5.out (List.mem_singleton.1 hm)))))); clear Gg1 Ggr HR; obtain ⟨Gg1, Ggr, HR⟩ := q_
 replace HB := qHd (he_.low HB.out HB.out.size (fun g hg => by rw [List.mem_singleton.1 hg]; exact LO_g5.out))
 clear he_
 replace Gg5 := qHd hgn
 clear hp hgn
 go_wp2_with (with_reducible refine qac ?_)
 refine qad.mk ?_
 have HK := qHd (expect_rd w11 gr gt 18 c 2 txtT 2 ⟨#[59]⟩ ⟨#[59]⟩ HR.out rfl (by decide) (by kernel_rfl) (by decide))
 (with_reducible refine HK.out.mono ?_); rintro e w12 ⟨rfl, hx, hr⟩; clear HK
 have q_ := (And.intro (qHd (hx.heap Gg1.out (fun hm => NE_gr_g1.out.symm (List.mem_singleton.1 hm)))) (qHd (hx.heap Gg5.out (fun hm => qaw Gg5.out Ggr.out (by simp) (List.mem_singleton.1 hm))))); clear Gg1 Gg5; obtain ⟨Gg1, Gg5⟩ := q_
 replace HB := qHd (hx.low HB.out HB.out.size (fun g hg => by rw [List.mem_singleton.1 hg]; exact LO_gr.out))
 replace HR := qHd hr; clear Ggr hr
 have Ggr := qHd (show w12.heap[gr]? = some (.cells #[.slice (some ⟨gt, 0, none⟩) 18 c, .int .i64 3, .nilIface] 82) from HR.out.cells)
 go_wp2_with (with_reducible first | refine qah ?_ | refine qae ?_)
 refine qad.mk ?_
 refine wp_loop_rounds 4 ?_
 rw [rounds_succ]
 have x13 : w12.cell? ⟨gr, 2, none⟩ = some (.nilIface) := cell_of_row _ _ _ _ _ _ (Ggr.out)
 go_wp2_with (with_reducible refine qac ?_)
 clear x13
 refine qad.mk ?_
 have HK := qHd (is_rd w12 gr gt 18 c 3 txtT 0 ⟨#[101, 118, 101, 110, 116]⟩ ⟨#[116, 111, 112]⟩ false HR.out rfl (by decide) (by kernel_rfl))
 (with_reducible refine HK.out.mono ?_); rintro e w14 ⟨rfl, hb⟩; clear HK
 replace Gg1 := qHd (qaa Gg1.out hb)
 replace Gg5 := qHd (qaa Gg5.out hb)
 replace Ggr := qHd (qaa Ggr.out hb)
 replace HR := qHd (HR.out.below hb)
 replace HB := qHd (HB.out.trans (hb.mono HB.out.size))
 clear hb
 go_wp2_with (with_reducible refine qac ?_)
 refine qad.mk ?_
 have O15 := qHd (qbx.nil w14 w.heap.size 101 11)
 have HK := qHd (statement_ev w14 gr gt 18 c 3 txtT g5 ⟨#[109]⟩ ⟨#[]⟩ (.slice none 0 0) none w.heap.size 0 0 [] ⟨#[97]⟩ HR.out rfl rfl rfl (by decide) Gg5.out O15.out (by intro u hu n; cases hu) (by decide) HB.out.size (qaw Gg5.out Ggr.out (by simp)) (NE_gt_g5.out.symm) (fun g hg => by cases hg))
 (with_reducible refine HK.out.mono ?_); rintro e w16 ⟨gv1, cv1, rfl, hx, hr, hg, ho, hfr, n1, n2⟩; clear HK
 have Tlt_ := HR.out.tlt (j := 0) rfl
 have NE_gv1_g1 := qHd (hfr g1 (qao Gg1.out) (by intro e; cases e))
 have NE_gv1_gt := qHd (hfr gt Tlt_ (by intro e; cases e))
 have NE_gv1_gr := qHd n1; have NE_gv1_g5 := qHd n2
 have LO_gv1 := qHd (World.ownsRow.lt ho.1 gv1 rfl).1
 replace hx := (show Exc w14 w16 [gr, g5] from hx)
 clear Tlt_
 replace Gg1 := (qHd (hx.heap Gg1.out (fun hm => by simp only [List.mem_cons, List.not_mem_nil, or_false] at hm; exact hm.elim (fun e => NE_gr_g1.out.symm e) (fun hm => NE_g1_g5.out hm))))
 replace HB := qHd (hx.low HB.out HB.out.size (fun g hg => by simp only [List.mem_cons, List.not_mem_nil, or_false] at hg; exact hg.elim (fun e => (by rw [e]; exact LO_gr.out)) (fun hg => (by rw [hg]; exact LO_g5.out))))
 replace HR := qHd hr; clear Ggr hr
 have Ggr := qHd (show w16.heap[gr]? = some (.cells #[.slice (some ⟨gt, 0, none⟩) 18 c, .int .i64 6, .nilIface] 82) from HR.out.cells)
 replace Gg5 := qHd hg
 have O17 := qHd ho
 clear hx hg ho hfr n1 n2
 go_wp2_with (with_reducible first | refine qah ?_ | refine qae ?_)
 refine qad.mk ?_
 rw [rounds_succ]
 have x18 : w16.cell? ⟨gr, 2, none⟩ = some (.nilIface) := cell_of_row _ _ _ _ _ _ (Ggr.out)
 go_wp2_with (with_reducible refine qac ?_)
 clear x18
 refine qad.mk ?_
 have HK := qHd (is_rd w16 gr gt 18 c 6 txtT 0 ⟨#[101, 118, 101, 110, 116]⟩ ⟨#[116, 111, 112]⟩ false HR.out rfl (by decide) (by kernel_rfl))
 (with_reducible refine HK.out.mono ?_); rintro e w19 ⟨rfl, hb⟩; clear HK
 replace Gg1 := qHd (qaa Gg1.out hb)
 replace Ggr := qHd (qaa Ggr.out hb)
 replace HR := qHd (HR.out.below hb)
 replace Gg5 := qHd (qaa Gg5.out hb)
 replace O17 := qHd (O17.out.below hb)
 replace HB := qHd (HB.out.trans (hb.mono HB.out.size))
 clear hb
 go_wp2_with (with_reducible refine qac ?_)
 refine qad.mk ?_
 have HK := qHd (statement_ev w19 gr gt 18 c 6 txtT g5 ⟨#[109]⟩ ⟨#[]⟩ (.slice none 0 0) (some ⟨gv1, 0, none⟩) w.heap.size 1 cv1 [.string ⟨#[97]⟩, .bool false, .slice none 0 0, .slice none 0 0, .bool false, .slice none 0 0, .slice none 0 0, .bool false, .slice none 0 0, .slice none 0 0, .int .i64 0] ⟨#[98]⟩ HR.out rfl rfl rfl (by decide) Gg5.out O17.out (by intro u hu n; simp only [List.mem_cons, List.not_mem_nil, or_false] at hu; rcases hu with rfl | rfl | rfl | rfl | rfl | rfl | rfl | rfl | rfl | rfl | rfl <;> exact fun e => by cases e) (by decide) HB.out.size (qaw Gg5.out Ggr.out (by simp)) (NE_gt_g5.out.symm) (fun g hg => by cases hg; exact ⟨NE_gv1_gr.out, NE_gv1_g5.out, NE_gv1_gt.out⟩))
 (with_reducible refine HK.out.mono ?_); rintro e w20 ⟨ge, ce, rfl, hx, hr, hg, ho, hfr, n1, n2⟩; clear HK
 have Tlt_ := HR.out.tlt (j := 0) rfl
 have NE_ge_g1 := qHd (hfr g1 (qao Gg1.out) (fun e => by cases e; exact NE_gv1_g1.out rfl))
 have NE_ge_gt := qHd (hfr gt Tlt_ (fun e => by cases e; exact NE_gv1_gt.out rfl))
 have NE_ge_gr := qHd n1; have NE_ge_g5 := qHd n2
 have LO_ge := qHd (World.ownsRow.lt ho.1 ge rfl).1
 replace hx := (show Exc w19 w20 [gr, g5, gv1] from hx)
 clear Tlt_
 replace Gg1 := (qHd (hx.heap Gg1.out (fun hm => by simp only [List.mem_cons, List.not_mem_nil, or_false] at hm; exact hm.elim (fun e => NE_gr_g1.out.symm e) (fun hm => hm.elim (fun e => NE_g1_g5.out e) (fun hm => NE_gv1_g1.out.symm hm)))))
 replace HB := qHd (hx.low HB.out HB.out.size (fun g hg => by simp only [List.mem_cons, List.not_mem_nil, or_false] at hg; exact hg.elim (fun e => (by rw [e]; exact LO_gr.out)) (fun hg => hg.elim (fun e => (by rw [e]; exact LO_g5.out)) (fun hg => (by rw [hg]; exact LO_gv1.out)))))
 replace HR := qHd hr; clear Ggr hr
 have Ggr := qHd (show w20.heap[gr]? = some (.cells #[.slice (some ⟨gt, 0, none⟩) 18 c, .int .i64 9, .nilIface] 82) from HR.out.cells)
 replace Gg5 := qHd hg
 have O21 := qHd ho
 clear hx hg ho hfr n1 n2
 go_wp2_with (with_reducible first | refine qah ?_ | refine qae ?_)
 refine qad.mk ?_
 rw [rounds_succ]
 have x22 : w20.cell? ⟨gr, 2, none⟩ = some (.nilIface) := cell_of_row _ _ _ _ _ _ (Ggr.out)
 go_wp2_with (with_reducible refine qac ?_)
 clear x22
 refine qad.mk ?_
 have HK := qHd (is_rd w20 gr gt 18 c 9 txtT 0 ⟨#[103, 97, 116, 101]⟩ ⟨#[116, 111, 112]⟩ false HR.out rfl (by decide) (by kernel_rfl))
 (with_reducible refine HK.out.mono ?_); rintro e w23 ⟨rfl, hb⟩; clear HK
 replace Gg1 := qHd (qaa Gg1.out hb)
 replace Ggr := qHd (qaa Ggr.out hb)
 replace HR := qHd (HR.out.below hb)
 replace Gg5 := qHd (qaa Gg5.out hb)
 replace O21 := qHd (O21.out.below hb)
 replace HB := qHd (HB.out.trans (hb.mono HB.out.size))
 clear hb
 go_wp2_with (with_reducible refine qac ?_)
 refine qad.mk ?_
 have O24 := qHd (qbx.nil w23 w.heap.size 107 7)
 have HK := qHd (statement_ga w23 gr gt 18 c 9 txtT g5 ⟨#[109]⟩ ⟨#[]⟩ (.slice (some ⟨ge, 0, none⟩) 2 ce) none w.heap.size 0 0 [] ⟨#[103]⟩ ⟨#[97]⟩ ⟨#[98]⟩ HR.out rfl rfl rfl rfl rfl rfl (by decide) (by kernel_rfl) (by kernel_rfl) (by kernel_rfl) (by kernel_rfl) Gg5.out O24.out (by intro u hu n; cases hu) (by decide) HB.out.size (qaw Gg5.out Ggr.out (by simp)) (NE_gt_g5.out.symm) (fun g hg => by cases hg))
 (with_reducible refine HK.out.mono ?_); rintro e w25 ⟨gg, cg, gi, ci, rfl, hx, hr, hg, ho, hfr, n1, n2, n3, n3a, n4, n5, n6, k1, k2, q1, q2⟩; clear HK
 have Tlt_ := HR.out.tlt (j := 0) rfl
 have NE_gg_g1 := qHd (hfr g1 (qao Gg1.out) (by intro e; cases e))
 have NE_gi_g1 := qHd (show gi ≠ g1 from fun e => by have := (qao Gg1.out); omega)
 have NE_gg_gt := qHd (hfr gt Tlt_ (by intro e; cases e))
 have NE_gi_gt := qHd (show gi ≠ gt from fun e => by have := Tlt_; omega)
 have NE_gg_ge := qHd (hfr ge (World.ownsRow.lt O21.out.1 ge rfl).2 (by intro e; cases e))
 have NE_gi_ge := qHd (show gi ≠ ge from fun e => by have := (World.ownsRow.lt O21.out.1 ge rfl).2; omega)
 have NE_gg_gr := qHd n1; have NE_gg_g5 := qHd n2
 have LO_gg := qHd (World.ownsRow.lt ho.1 gg rfl).1
 have NE_gi_gr := qHd n4; have NE_gi_g5 := qHd n5; have NE_gi_gg := qHd n6
 replace hx := (show Exc w23 w25 [gr, g5] from hx)
 clear Tlt_
 have q_ := (And.intro (qHd (hx.heap Gg1.out (fun hm => by simp only [List.mem_cons, List.not_mem_nil, or_false] at hm; exact hm.elim (fun e => NE_gr_g1.out.symm e) (fun hm => NE_g1_g5.out hm)))) (qHd (hx.own O21.out (fun g hg => by cases hg; exact fun hm => by simp only [List.mem_cons, List.not_mem_nil, or_false] at hm; exact hm.elim (fun e => NE_ge_gr.out e) (fun hm => NE_ge_g5.out hm))))); clear Gg1 O21; obtain ⟨Gg1, O21⟩ := q_
 replace HB := qHd (hx.low HB.out HB.out.size (fun g hg => by simp only [List.mem_cons, List.not_mem_nil, or_false] at hg; exact hg.elim (fun e => (by rw [e]; exact LO_gr.out)) (fun hg => (by rw [hg]; exact LO_g5.out))))
 replace HR := qHd hr; clear Ggr hr
 have Ggr := qHd (show w25.heap[gr]? = some (.cells #[.slice (some ⟨gt, 0, none⟩) 18 c, .int .i64 15, .nilIface] 82) from HR.out.cells)
 replace Gg5 := qHd hg
 have O26 := qHd ho
 clear hx hg ho hfr n1 n2
 have HM := qHd (md_of O21.out O26.out ⟨q1, q2⟩ k1 k2); clear q1 q2 k1 k2 n3 n3a n4 n5 n6
 go_wp2_with (with_reducible first | refine qah ?_ | refine qae ?_)
 refine qad.mk ?_
 rw [rounds_succ]
 have x27 : w25.cell? ⟨gr, 2, none⟩ = some (.nilIface) := cell_of_row _ _ _ _ _ _ (Ggr.out)
 go_wp2_with (with_reducible refine qac ?_)
 clear x27
 refine qad.mk ?_
 have HK := qHd (is_rd w25 gr gt 18 c 15 txtT 0 ⟨#[116, 111, 112]⟩ ⟨#[116, 111, 112]⟩ true HR.out rfl (by decide) (by kernel_rfl))
 (with_reducible refine HK.out.mono ?_); rintro e w28 ⟨rfl, hb⟩; clear HK
 replace Gg1 := qHd (qaa Gg1.out hb)
 replace Ggr := qHd (qaa Ggr.out hb)
 replace HR := qHd (HR.out.below hb)
 replace Gg5 := qHd (qaa Gg5.out hb)
 replace HM := qHd (HM.out.below hb)
 replace HB := qHd (HB.out.trans (hb.mono HB.out.size))
 clear hb
 go_wp2_with (with_reducible refine qac ?_)
 refine qad.mk ?_
 have HK := qHd (expect_rd w28 gr gt 18 c 15 txtT 0 ⟨#[116, 111, 112]⟩ ⟨#[116, 111, 112]⟩ HR.out rfl (by decide) (by kernel_rfl) (by decide))
 (with_reducible refine HK.out.mono ?_); rintro e w29 ⟨rfl, hx, hr⟩; clear HK
 have q_ := (And.intro (qHd (hx.heap Gg1.out (fun hm => NE_gr_g1.out.symm (List.mem_singleton.1 hm)))) (And.intro (qHd (hx.heap Gg5.out (fun hm => qaw Gg5.out Ggr.out (by simp) (List.mem_singleton.1 hm)))) (qHd (HM.out.exc hx (fun hm => NE_ge_gr.out (List.mem_singleton.1 hm)) (fun hm => NE_gg_gr.out (List.mem_singleton.1 hm)) (fun hm => NE_gi_gr.out (List.mem_singleton.1 hm)))))); clear Gg1 Gg5 HM; obtain ⟨Gg1, Gg5, HM⟩ := q_
 replace HB := qHd (hx.low HB.out HB.out.size (fun g hg => by rw [List.mem_singleton.1 hg]; exact LO_gr.out))
 replace HR := qHd hr; clear Ggr hr
 have Ggr := qHd (show w29.heap[gr]? = some (.cells #[.slice (some ⟨gt, 0, none⟩) 18 c, .int .i64 16, .nilIface] 82) from HR.out.cells)
 go_wp2_with (with_reducible refine qac ?_)
 refine qad.mk ?_
 have HK := qHd (input_rd w29 gr gt 18 c 16 txtT ⟨#[103]⟩ HR.out rfl (by kernel_rfl) (by decide))
 (with_reducible refine HK.out.mono ?_); rintro e w30 ⟨rfl, hx, hr⟩; clear HK
 have q_ := (And.intro (qHd (hx.heap Gg1.out (fun hm => NE_gr_g1.out.symm (List.mem_singleton.1 hm)))) (And.intro (qHd (hx.heap Gg5.out (fun hm => qaw Gg5.out Ggr.out (by simp) (List.mem_singleton.1 hm)))) (qHd (HM.out.exc hx (fun hm => NE_ge_gr.out (List.mem_singleton.1 hm)) (fun hm => NE_gg_gr.out (List.mem_singleton.1 hm)) (fun hm => NE_gi_gr.out (List.mem_singleton.1 hm)))))); clear Gg1 Gg5 HM; obtain ⟨Gg1, Gg5, HM⟩ := q_
 replace HB := qHd (hx.low HB.out HB.out.size (fun g hg => by rw [List.mem_singleton.1 hg]; exact LO_gr.out))
 replace HR := qHd hr; clear Ggr hr
 have Ggr := qHd (show w30.heap[gr]? = some (.cells #[.slice (some ⟨gt, 0, none⟩) 18 c, .int .i64 17, .nilIface] 82) from HR.out.cells)
 go_wp2_with (with_reducible refine qaf 9 ?_)
 refine qct g5 1 (.string ⟨#[103]⟩) Gg5.out rfl rfl (Nat.le_of_ble_eq_true rfl) (by kernel_rfl) rfl rfl ?_
 intro w31 hp
 have hgn : w31.heap[g5]? = some (.cells #[.string ⟨#[109]⟩, .string ⟨#[103]⟩, .slice (some ⟨ge, 0, none⟩) 2 ce, .slice none 0 0, .slice (some ⟨gg, 0, none⟩) 1 cg, .slice none 0 0, .slice none 0 0, .slice none 0 0] 44) := by rw [hp]; simp [putL, World.setCell, Array.getElem?_modify, Gg5.out]
 have he_ := (Exc.put (X := [g5]) hp (List.mem_singleton.2 rfl))
 have q_ := (And.intro (qHd (he_.heap Gg1.out (fun hm => NE_g1_g5.out (List.mem_singleton.1 hm)))) (And.intro (qHd (HM.out.exc he_ (fun hm => NE_ge_g5.out (List.mem_singleton.1 hm)) (fun hm => NE_gg_g5.out (List.mem_singleton.1 hm)) (fun hm => NE_gi_g5.out (List.mem_singleton.1 hm)))) (And.intro (qHd (he_.heap Ggr.out (fun hm => qaw Ggr.out Gg5.out (by simp) (List.mem_singleton.1 hm)))) (qHd (HR.out.exc he_ (fun hm => qaw Ggr.out Gg5.out (by simp) (List.mem_singleton.1 hm)) (fun hm => NE_gt_g5.out (List.mem_singleton.1 hm))))))); clear Gg1 HM Ggr HR; obtain ⟨Gg1, HM, Ggr, HR⟩ := q_
 replace HB := qHd (he_.low HB.out HB.out.size (fun g hg => by rw [List.mem_singleton.1 hg]; exact LO_g5.out))
 clear he_
 replace Gg5 := qHd hgn
 clear hp hgn
 go_wp2_with (with_reducible refine qac ?_)
 refine qad.mk ?_
 have HK := qHd (expect_rd w31 gr gt 18 c 17 txtT 2 ⟨#[59]⟩ ⟨#[59]⟩ HR.out rfl (by decide) (by kernel_rfl) (by decide))
 (with_reducible refine HK.out.mono ?_); rintro e w32 ⟨rfl, hx, hr⟩; clear HK
 have q_ := (And.intro (qHd (hx.heap Gg1.out (fun hm => NE_gr_g1.out.symm (List.mem_singleton.1 hm)))) (And.intro (qHd (hx.heap Gg5.out (fun hm => qaw Gg5.out Ggr.out (by simp) (List.mem_singleton.1 hm)))) (qHd (HM.out.exc hx (fun hm => NE_ge_gr.out (List.mem_singleton.1 hm)) (fun hm => NE_gg_gr.out (List.mem_singleton.1 hm)) (fun hm => NE_gi_gr.out (List.mem_singleton.1 hm)))))); clear Gg1 Gg5 HM; obtain ⟨Gg1, Gg5, HM⟩ := q_
 replace HB := qHd (hx.low HB.out HB.out.size (fun g hg => by rw [List.mem_singleton.1 hg]; exact LO_gr.out))
 replace HR := qHd hr; clear Ggr hr
 have Ggr := qHd (show w32.heap[gr]? = some (.cells #[.slice (some ⟨gt, 0, none⟩) 18 c, .int .i64 18, .nilIface] 82) from HR.out.cells)
 go_wp2_with (with_reducible refine qac ?_)
 refine qad.mk ?_
 have HK := qHd (end_rd w32 gr gt 18 c txtT HR.out)
 (with_reducible refine HK.out.mono ?_); rintro e w33 ⟨rfl, hb⟩; clear HK
 replace Gg1 := qHd (qaa Gg1.out hb)
 replace Gg5 := qHd (qaa Gg5.out hb)
 replace HM := qHd (HM.out.below hb)
 replace Ggr := qHd (qaa Ggr.out hb)
 replace HR := qHd (HR.out.below hb)
 replace HB := qHd (HB.out.trans (hb.mono HB.out.size))
 clear hb
 obtain ⟨x34, x35, x36, x37, x38, x39, x40, x41⟩ := qcq Gg5.out
 go_wp2_with (with_reducible refine qac ?_)
 clear x34 x35 x36 x37 x38 x39 x40 x41
 refine qad.mk ?_
 have HK := qHd (mcheck_m w33 HM.out)
 (with_reducible refine HK.out.mono ?_); rintro e w42 ⟨rfl, hb⟩; clear HK
 replace Gg1 := qHd (qaa Gg1.out hb)
 replace Gg5 := qHd (qaa Gg5.out hb)
 replace HM := qHd (HM.out.below hb)
 replace Ggr := qHd (qaa Ggr.out hb)
 replace HR := qHd (HR.out.below hb)
 replace HB := qHd (HB.out.trans (hb.mono HB.out.size))
 clear hb
 obtain ⟨x43, x44, x45, x46, x47, x48, x49, x50⟩ := qcq Gg5.out
 go_wp2_with (with_reducible refine qaf 44 ?_)
 clear x43 x44 x45 x46 x47 x48 x49 x50
 refine qau g1 [.string ⟨#[109]⟩, .string ⟨#[103]⟩, .slice (some ⟨ge, 0, none⟩) 2 ce, .slice none 0 0, .slice (some ⟨gg, 0, none⟩) 1 cg, .slice none 0 0, .slice none 0 0, .slice none 0 0] Gg1.out rfl rfl rfl (by kernel_rfl) rfl ?_
 intro w51 hx_ hgn
 have q_ := (And.intro (qHd (hx_.heap Gg5.out (fun hm => NE_g1_g5.out.symm (List.mem_singleton.1 hm)))) (And.intro (qHd (HM.out.exc hx_ (fun hm => NE_ge_g1.out (List.mem_singleton.1 hm)) (fun hm => NE_gg_g1.out (List.mem_singleton.1 hm)) (fun hm => NE_gi_g1.out (List.mem_singleton.1 hm)))) (And.intro (qHd (hx_.heap Ggr.out (fun hm => NE_gr_g1.out (List.mem_singleton.1 hm)))) (qHd (HR.out.exc hx_ (fun hm => NE_gr_g1.out (List.mem_singleton.1 hm)) (fun hm => NE_gt_g1.out (List.mem_singleton.1 hm))))))); clear Gg5 HM Ggr HR; obtain ⟨Gg5, HM, Ggr, HR⟩ := q_
 replace HB := qHd (hx_.low HB.out HB.out.size (fun g hg => by rw [List.mem_singleton.1 hg]; exact LO_g1.out))
 replace Gg1 := qHd hgn
 clear hx_ hgn
 go_wp2_with fail
 refine ret_c2s rfl g1 #[.string ⟨#[109]⟩, .string ⟨#[103]⟩, .slice (some ⟨ge, 0, none⟩) 2 ce, .slice none 0 0, .slice (some ⟨gg, 0, none⟩) 1 cg, .slice none 0 0, .slice none 0 0, .slice none 0 0] rfl Gg1.out Tryz.underlying44 rfl (by kernel_rfl) rfl ?_
 exact ⟨ge, ce, gg, cg, gi, ci, rfl, HB.out, HM.out⟩
theorem stepOK_look1K {P : Program} {T mt ti : TypeId} {ar : Nat} {w : World} {b n : Nat} {M : List Int → Option Int} {a : Act} {R : Value → World → Prop} {m x : Operand} {o : Oper} (K : KTy P T mt ti ar) (h : qde P T ti ar w b n M) {xs : List Int} (hl : xs.length = ar) (hI : ∀ x ∈ xs, I64 x) (ho : o.op = .lookup mt m x false)
  (hm : a.eval m = .map (some b)) (hx : a.eval x = rowV xs) (hK : ∀ c, I64 c → (∀ x, M xs = some x → c = x) → (M xs = none → c = 0) → R (.int .i64 c) w) : StepOK P o a w R := by
 obtain ⟨c, hrun, h1, h2, h3⟩ := h.look1 K hl hI
 refine qak (v := .int .i64 c) (w' := w) ?_ (hK c h1 h2 h3)
 unfold execOp
 simp only [ho, hm, hx, Sem.run_bind, Sem.run_pure, hrun, Result.andThen_ok]
 try rfl
theorem nodeKind_and2  (w : World)  :
  Calls Tryz.prog 125 #[.int .i64 0] w (qcc w (.tuple #[.int .i64 2, .bool true])) := by
 have HB := qHd (Below.refl w.heap.size w)
 go_enter Tryz.func125, Tryz.ntmps125
 go_wp2_with fail
 go_ret2
 exact ⟨rfl, HB.out⟩
theorem cgates_m {ge ce gg cg gi ci : Nat} (gc gd : Nat) (w : World) (h : Md w ge ce gg cg gi ci) (hc : w.heap[gc]? = some (.cells #[.string ⟨#[109]⟩, .string ⟨#[103]⟩, .slice (some ⟨ge, 0, none⟩) 2 ce, .slice none 0 0, .slice (some ⟨gg, 0, none⟩) 1 cg, .slice none 0 0, .slice none 0 0, .slice none 0 0, .int .i64 2, .slice none 0 0, .int .i64 0, .map (some gd)] 156)) :
  Calls Tryz.prog 124 #[.pointer (some ⟨gc, 0, none⟩), .int .i64 (-1)] w (qcc w (.slice (some ⟨gg, 0, none⟩) 1 cg)) := by
 have HM := qHd h; have LM := qHd h.lt; clear h
 have Ggc := qHd hc; clear hc
 have HB := qHd (Below.refl w.heap.size w)
 go_enter Tryz.func124, Tryz.ntmps124
 have x1 : w.cell? ⟨gc, 4, none⟩ = some (.slice (some ⟨gg, 0, none⟩) 1 cg) := cell_of_row _ _ _ _ _ _ (Ggc.out)
 go_wp2_with fail
 clear x1
 go_ret
 exact ⟨rfl, HB.out⟩
theorem cfind_a {ge ce gg cg gi ci : Nat} (gc gd : Nat) (w : World) (h : Md w ge ce gg cg gi ci) (hc : w.heap[gc]? = some (.cells #[.string ⟨#[109]⟩, .string ⟨#[103]⟩, .slice (some ⟨ge, 0, none⟩) 2 ce, .slice none 0 0, .slice (some ⟨gg, 0, none⟩) 1 cg, .slice none 0 0, .slice none 0 0, .slice none 0 0, .int .i64 2, .slice none 0 0, .int .i64 0, .map (some gd)] 156)) :
  Calls Tryz.prog 123 #[.pointer (some ⟨gc, 0, none⟩), .int .i64 (-1), .string ⟨#[97]⟩] w (qcc w (.agg #[.int .i64 0, .int .i64 0, .int .i64 0])) := by
 have HM := qHd h; have LM := qHd h.lt; clear h
 have Ggc := qHd hc; clear hc
 have HB := qHd (Below.refl w.heap.size w)
 go_enter Tryz.func123, Tryz.ntmps123
 go_wp2_with (with_reducible refine qag 6 ?_)
 obtain ⟨w2, hw_3, hb_3, g1, hg_3, Gg1, LO_g1⟩ := qcd HB.out.size (.cells #[.string ⟨#[97]⟩] 9)
 rw [← hw_3, ← hg_3]
 replace HM := qHd (HM.out.below hb_3)
 replace Ggc := qHd (qaa Ggc.out hb_3)
 replace HB := qHd (HB.out.trans (hb_3.mono HB.out.size))
 clear hw_3 hg_3 hb_3
 refine qad.mk ?_
 go_wp2_with (with_reducible refine qag 9 ?_)
 obtain ⟨w5, hw_6, hb_6, g4, hg_6, Gg4, LO_g4⟩ := qcd HB.out.size (.cells #[.int .i64 0, .int .i64 0, .int .i64 0] 197)
 rw [← hw_6, ← hg_6]
 replace HM := qHd (HM.out.below hb_6)
 replace Ggc := qHd (qaa Ggc.out hb_6)
 replace Gg1 := qHd (qaa Gg1.out hb_6)
 replace HB := qHd (HB.out.trans (hb_6.mono HB.out.size))
 clear hw_6 hg_6 hb_6
 refine qad.mk ?_
 have hix1 : ((⟨#[97]⟩ : ByteArray)[0]'(by decide)).toNat = 97 := rfl
 have x7 : w5.cell? ⟨g1, 0, none⟩ = some (.string ⟨#[97]⟩) := cell_of_row _ _ _ _ _ _ (Gg1.out)
 have x8 : w5.cell? ⟨gc, 2, none⟩ = some (.slice (some ⟨ge, 0, none⟩) 2 ce) := cell_of_row _ _ _ _ _ _ (Ggc.out)
 go_wp2_with (with_reducible refine qac ?_)
 clear x7 x8
 refine qad.mk ?_
 have HK := qHd (feix_a g1 w5 HM.out (cell_of_row _ _ _ _ _ _ Gg1.out))
 (with_reducible refine HK.out.mono ?_); rintro e w9 ⟨rfl, hb⟩; clear HK
 replace HM := qHd (HM.out.below hb)
 replace Ggc := qHd (qaa Ggc.out hb)
 replace Gg1 := qHd (qaa Gg1.out hb)
 replace Gg4 := qHd (qaa Gg4.out hb)
 replace HB := qHd (HB.out.trans (hb.mono HB.out.size))
 clear hb
 go_wp2_with (with_reducible refine qaf 197 ?_)
 refine qau g4 [.int .i64 0, .int .i64 0, .int .i64 0] Gg4.out rfl rfl rfl (by kernel_rfl) rfl ?_
 intro w10 hx_ hgn
 have q_ := (And.intro (qHd (HM.out.exc hx_ (fun hm => by simp only [List.mem_cons, List.not_mem_nil, or_false] at hm; have h1 := LM.out; have h_g4 := LO_g4.out; omega) (fun hm => by simp only [List.mem_cons, List.not_mem_nil, or_false] at hm; have h1 := LM.out; have h_g4 := LO_g4.out; omega) (fun hm => by simp only [List.mem_cons, List.not_mem_nil, or_false] at hm; have h1 := LM.out; have h_g4 := LO_g4.out; omega))) (And.intro (qHd (hx_.heap Ggc.out (fun hm => qaw Ggc.out Gg4.out (by simp) (List.mem_singleton.1 hm)))) (qHd (hx_.heap Gg1.out (fun hm => qaw Gg1.out Gg4.out (by simp) (List.mem_singleton.1 hm)))))); clear HM Ggc Gg1; obtain ⟨HM, Ggc, Gg1⟩ := q_
 replace HB := qHd (hx_.low HB.out HB.out.size (fun g hg => by rw [List.mem_singleton.1 hg]; exact LO_g4.out))
 replace Gg4 := qHd hgn
 clear hx_ hgn
 go_wp2_with fail
 refine ret_c1v rfl g4 #[.int .i64 0, .int .i64 0, .int .i64 0] rfl Gg4.out Tryz.underlying197 rfl (by kernel_rfl) rfl ?_
 exact ⟨rfl, HB.out⟩
theorem cfind_b {ge ce gg cg gi ci : Nat} (gc gd : Nat) (w : World) (h : Md w ge ce gg cg gi ci) (hc : w.heap[gc]? = some (.cells #[.string ⟨#[109]⟩, .string ⟨#[103]⟩, .slice (some ⟨ge, 0, none⟩) 2 ce, .slice none 0 0, .slice (some ⟨gg, 0, none⟩) 1 cg, .slice none 0 0, .slice none 0 0, .slice none 0 0, .int .i64 2, .slice none 0 0, .int .i64 0, .map (some gd)] 156)) :
  Calls Tryz.prog 123 #[.pointer (some ⟨gc, 0, none⟩), .int .i64 (-1), .string ⟨#[98]⟩] w (qcc w (.agg #[.int .i64 0, .int .i64 0, .int .i64 1])) := by
 have HM := qHd h; have LM := qHd h.lt; clear h
 have Ggc := qHd hc; clear hc
 have HB := qHd (Below.refl w.heap.size w)
 go_enter Tryz.func123, Tryz.ntmps123
 go_wp2_with (with_reducible refine qag 6 ?_)
 obtain ⟨w2, hw_3, hb_3, g1, hg_3, Gg1, LO_g1⟩ := qcd HB.out.size (.cells #[.string ⟨#[98]⟩] 9)
 rw [← hw_3, ← hg_3]
 replace HM := qHd (HM.out.below hb_3)
 replace Ggc := qHd (qaa Ggc.out hb_3)
 replace HB := qHd (HB.out.trans (hb_3.mono HB.out.size))
 clear hw_3 hg_3 hb_3
 refine qad.mk ?_
 go_wp2_with (with_reducible refine qag 9 ?_)
 obtain ⟨w5, hw_6, hb_6, g4, hg_6, Gg4, LO_g4⟩ := qcd HB.out.size (.cells #[.int .i64 0, .int .i64 0, .int .i64 0] 197)
 rw [← hw_6, ← hg_6]
 replace HM := qHd (HM.out.below hb_6)
 replace Ggc := qHd (qaa Ggc.out hb_6)
 replace Gg1 := qHd (qaa Gg1.out hb_6)
 replace HB := qHd (HB.out.trans (hb_6.mono HB.out.size))
 clear hw_6 hg_6 hb_6
 refine qad.mk ?_
 have hix1 : ((⟨#[98]⟩ : ByteArray)[0]'(by decide)).toNat = 98 := rfl
 have x7 : w5.cell? ⟨g1, 0, none⟩ = some (.string ⟨#[98]⟩) := cell_of_row _ _ _ _ _ _ (Gg1.out)
 have x8 : w5.cell? ⟨gc, 2, none⟩ = some (.slice (some ⟨ge, 0, none⟩) 2 ce) := cell_of_row _ _ _ _ _ _ (Ggc.out)
 go_wp2_with (with_reducible refine qac ?_)
 clear x7 x8
 refine qad.mk ?_
 have HK := qHd (feix_b g1 w5 HM.out (cell_of_row _ _ _ _ _ _ Gg1.out))
 (with_reducible refine HK.out.mono ?_); rintro e w9 ⟨rfl, hb⟩; clear HK
 replace HM := qHd (HM.out.below hb)
 replace Ggc := qHd (qaa Ggc.out hb)
 replace Gg1 := qHd (qaa Gg1.out hb)
 replace Gg4 := qHd (qaa Gg4.out hb)
 replace HB := qHd (HB.out.trans (hb.mono HB.out.size))
 clear hb
 go_wp2_with (with_reducible refine qaf 197 ?_)
 refine qau g4 [.int .i64 0, .int .i64 0, .int .i64 1] Gg4.out rfl rfl rfl (by kernel_rfl) rfl ?_
 intro w10 hx_ hgn
 have q_ := (And.intro (qHd (HM.out.exc hx_ (fun hm => by simp only [List.mem_cons, List.not_mem_nil, or_false] at hm; have h1 := LM.out; have h_g4 := LO_g4.out; omega) (fun hm => by simp only [List.mem_cons, List.not_mem_nil, or_false] at hm; have h1 := LM.out; have h_g4 := LO_g4.out; omega) (fun hm => by simp only [List.mem_cons, List.not_mem_nil, or_false] at hm; have h1 := LM.out; have h_g4 := LO_g4.out; omega))) (And.intro (qHd (hx_.heap Ggc.out (fun hm => qaw Ggc.out Gg4.out (by simp) (List.mem_singleton.1 hm)))) (qHd (hx_.heap Gg1.out (fun hm => qaw Gg1.out Gg4.out (by simp) (List.mem_singleton.1 hm)))))); clear HM Ggc Gg1; obtain ⟨HM, Ggc, Gg1⟩ := q_
 replace HB := qHd (hx_.low HB.out HB.out.size (fun g hg => by rw [List.mem_singleton.1 hg]; exact LO_g4.out))
 replace Gg4 := qHd hgn
 clear hx_ hgn
 go_wp2_with fail
 refine ret_c1v rfl g4 #[.int .i64 0, .int .i64 0, .int .i64 1] rfl Gg4.out Tryz.underlying197 rfl (by kernel_rfl) rfl ?_
 exact ⟨rfl, HB.out⟩
theorem cfind_g {ge ce gg cg gi ci : Nat} (gc gd : Nat) (w : World) (h : Md w ge ce gg cg gi ci) (hc : w.heap[gc]? = some (.cells #[.string ⟨#[109]⟩, .string ⟨#[103]⟩, .slice (some ⟨ge, 0, none⟩) 2 ce, .slice none 0 0, .slice (some ⟨gg, 0, none⟩) 1 cg, .slice none 0 0, .slice none 0 0, .slice none 0 0, .int .i64 2, .slice none 0 0, .int .i64 0, .map (some gd)] 156)) :
  Calls Tryz.prog 123 #[.pointer (some ⟨gc, 0, none⟩), .int .i64 (-1), .string ⟨#[103]⟩] w (qcc w (.agg #[.int .i64 2, .int .i64 (-1), .int .i64 0])) := by
 have HM := qHd h; have LM := qHd h.lt; clear h
 have Ggc := qHd hc; clear hc
 have HB := qHd (Below.refl w.heap.size w)
 go_enter Tryz.func123, Tryz.ntmps123
 go_wp2_with (with_reducible refine qag 6 ?_)
 obtain ⟨w2, hw_3, hb_3, g1, hg_3, Gg1, LO_g1⟩ := qcd HB.out.size (.cells #[.string ⟨#[103]⟩] 9)
 rw [← hw_3, ← hg_3]
 replace HM := qHd (HM.out.below hb_3)
 replace Ggc := qHd (qaa Ggc.out hb_3)
 replace HB := qHd (HB.out.trans (hb_3.mono HB.out.size))
 clear hw_3 hg_3 hb_3
 refine qad.mk ?_
 go_wp2_with (with_reducible refine qag 9 ?_)
 obtain ⟨w5, hw_6, hb_6, g4, hg_6, Gg4, LO_g4⟩ := qcd HB.out.size (.cells #[.int .i64 0, .int .i64 0, .int .i64 0] 197)
 rw [← hw_6, ← hg_6]
 replace HM := qHd (HM.out.below hb_6)
 replace Ggc := qHd (qaa Ggc.out hb_6)
 replace Gg1 := qHd (qaa Gg1.out hb_6)
 replace HB := qHd (HB.out.trans (hb_6.mono HB.out.size))
 clear hw_6 hg_6 hb_6
 refine qad.mk ?_
 have hix1 : ((⟨#[103]⟩ : ByteArray)[0]'(by decide)).toNat = 103 := rfl
 have x7 : w5.cell? ⟨g1, 0, none⟩ = some (.string ⟨#[103]⟩) := cell_of_row _ _ _ _ _ _ (Gg1.out)
 have x8 : w5.cell? ⟨gc, 2, none⟩ = some (.slice (some ⟨ge, 0, none⟩) 2 ce) := cell_of_row _ _ _ _ _ _ (Ggc.out)
 go_wp2_with (with_reducible refine qac ?_)
 clear x7 x8
 refine qad.mk ?_
 have HK := qHd (feix_g g1 w5 HM.out (cell_of_row _ _ _ _ _ _ Gg1.out))
 (with_reducible refine HK.out.mono ?_); rintro e w9 ⟨rfl, hb⟩; clear HK
 replace HM := qHd (HM.out.below hb)
 replace Ggc := qHd (qaa Ggc.out hb)
 replace Gg1 := qHd (qaa Gg1.out hb)
 replace Gg4 := qHd (qaa Gg4.out hb)
 replace HB := qHd (HB.out.trans (hb.mono HB.out.size))
 clear hb
 have x10 : w9.cell? ⟨gc, 3, none⟩ = some (.slice none 0 0) := cell_of_row _ _ _ _ _ _ (Ggc.out)
 go_wp2_with (with_reducible refine qac ?_)
 clear x10
 refine qad.mk ?_
 have HK := qHd (fhix_g g1 w9 (cell_of_row _ _ _ _ _ _ Gg1.out))
 (with_reducible refine HK.out.mono ?_); rintro e w11 ⟨rfl, hb⟩; clear HK
 replace HM := qHd (HM.out.below hb)
 replace Ggc := qHd (qaa Ggc.out hb)
 replace Gg1 := qHd (qaa Gg1.out hb)
 replace Gg4 := qHd (qaa Gg4.out hb)
 replace HB := qHd (HB.out.trans (hb.mono HB.out.size))
 clear hb
 go_wp2_with (with_reducible refine qac ?_)
 refine qad.mk ?_
 have HK := qHd (cgates_m gc gd w11 HM.out Ggc.out)
 (with_reducible refine HK.out.mono ?_); rintro e w12 ⟨rfl, hb⟩; clear HK
 replace HM := qHd (HM.out.below hb)
 replace Ggc := qHd (qaa Ggc.out hb)
 replace Gg1 := qHd (qaa Gg1.out hb)
 replace Gg4 := qHd (qaa Gg4.out hb)
 replace HB := qHd (HB.out.trans (hb.mono HB.out.size))
 clear hb
 go_wp2_with (with_reducible refine qac ?_)
 refine qad.mk ?_
 have HK := qHd (fgix_g g1 w12 HM.out (cell_of_row _ _ _ _ _ _ Gg1.out))
 (with_reducible refine HK.out.mono ?_); rintro e w13 ⟨rfl, hb⟩; clear HK
 replace HM := qHd (HM.out.below hb)
 replace Ggc := qHd (qaa Ggc.out hb)
 replace Gg1 := qHd (qaa Gg1.out hb)
 replace Gg4 := qHd (qaa Gg4.out hb)
 replace HB := qHd (HB.out.trans (hb.mono HB.out.size))
 clear hb
 go_wp2_with (with_reducible refine qaf 197 ?_)
 refine qau g4 [.int .i64 2, .int .i64 (-1), .int .i64 0] Gg4.out rfl rfl rfl (by kernel_rfl) rfl ?_
 intro w14 hx_ hgn
 have q_ := (And.intro (qHd (HM.out.exc hx_ (fun hm => by simp only [List.mem_cons, List.not_mem_nil, or_false] at hm; have h1 := LM.out; have h_g4 := LO_g4.out; omega) (fun hm => by simp only [List.mem_cons, List.not_mem_nil, or_false] at hm; have h1 := LM.out; have h_g4 := LO_g4.out; omega) (fun hm => by simp only [List.mem_cons, List.not_mem_nil, or_false] at hm; have h1 := LM.out; have h_g4 := LO_g4.out; omega))) (And.intro (qHd (hx_.heap Ggc.out (fun hm => qaw Ggc.out Gg4.out (by simp) (List.mem_singleton.1 hm)))) (qHd (hx_.heap Gg1.out (fun hm => qaw Gg1.out Gg4.out (by simp) (List.mem_singleton.1 hm)))))); clear HM Ggc Gg1; obtain ⟨HM, Ggc, Gg1⟩ := q_
 replace HB := qHd (hx_.low HB.out HB.out.size (fun g hg => by rw [List.mem_singleton.1 hg]; exact LO_g4.out))
 replace Gg4 := qHd hgn
 clear hx_ hgn
 go_wp2_with fail
 refine ret_c1v rfl g4 #[.int .i64 2, .int .i64 (-1), .int .i64 0] rfl Gg4.out Tryz.underlying197 rfl (by kernel_rfl) rfl ?_
 exact ⟨rfl, HB.out⟩
theorem cinput_a {ge ce gg cg gi ci : Nat} (gc gd : Nat) (w : World) (h : Md w ge ce gg cg gi ci) (hc : w.heap[gc]? = some (.cells #[.string ⟨#[109]⟩, .string ⟨#[103]⟩, .slice (some ⟨ge, 0, none⟩) 2 ce, .slice none 0 0, .slice (some ⟨gg, 0, none⟩) 1 cg, .slice none 0 0, .slice none 0 0, .slice none 0 0, .int .i64 2, .slice none 0 0, .int .i64 0, .map (some gd)] 156)) :
  Calls Tryz.prog 81 #[.pointer (some ⟨gc, 0, none⟩), .int .i64 (-1), .string ⟨#[97]⟩] w (qcc w (.tuple #[.int .i64 0, .nilIface])) := by
 have HM := qHd h; have LM := qHd h.lt; clear h
 have Ggc := qHd hc; clear hc
 have HB := qHd (Below.refl w.heap.size w)
 go_enter Tryz.func81, Tryz.ntmps81
 go_wp2_with (with_reducible refine qac ?_)
 refine qad.mk ?_
 have HK := qHd (cfind_a gc gd w HM.out Ggc.out)
 (with_reducible refine HK.out.mono ?_); rintro e w1 ⟨rfl, hb⟩; clear HK
 replace HM := qHd (HM.out.below hb)
 replace Ggc := qHd (qaa Ggc.out hb)
 replace HB := qHd (HB.out.trans (hb.mono HB.out.size))
 clear hb
 go_wp2_with (with_reducible refine qaf 197 ?_)
 obtain ⟨w3, hw_4, hb_4, g2, hg_4, Gg2, LO_g2⟩ := qcd HB.out.size (.cells #[.int .i64 0, .int .i64 0, .int .i64 0] 197)
 rw [← hw_4, ← hg_4]
 replace HM := qHd (HM.out.below hb_4)
 replace Ggc := qHd (qaa Ggc.out hb_4)
 replace HB := qHd (HB.out.trans (hb_4.mono HB.out.size))
 clear hw_4 hg_4 hb_4
 refine qau g2 [.int .i64 0, .int .i64 0, .int .i64 0] Gg2.out rfl rfl rfl (by kernel_rfl) rfl ?_
 intro w5 hx_ hgn
 have q_ := (And.intro (qHd (HM.out.exc hx_ (fun hm => by simp only [List.mem_cons, List.not_mem_nil, or_false] at hm; have h1 := LM.out; have h_g2 := LO_g2.out; omega) (fun hm => by simp only [List.mem_cons, List.not_mem_nil, or_false] at hm; have h1 := LM.out; have h_g2 := LO_g2.out; omega) (fun hm => by simp only [List.mem_cons, List.not_mem_nil, or_false] at hm; have h1 := LM.out; have h_g2 := LO_g2.out; omega))) (qHd (hx_.heap Ggc.out (fun hm => qaw Ggc.out Gg2.out (by simp) (List.mem_singleton.1 hm))))); clear HM Ggc; obtain ⟨HM, Ggc⟩ := q_
 replace HB := qHd (hx_.low HB.out HB.out.size (fun g hg => by rw [List.mem_singleton.1 hg]; exact LO_g2.out))
 replace Gg2 := qHd hgn
 clear hx_ hgn
 have x6 : w5.cell? ⟨g2, 0, none⟩ = some (.int .i64 0) := cell_of_row _ _ _ _ _ _ (Gg2.out)
 have x7 : w5.cell? ⟨g2, 2, none⟩ = some (.int .i64 0) := cell_of_row _ _ _ _ _ _ (Gg2.out)
 go_wp2_with fail
 clear x6 x7
 go_ret2
 exact ⟨rfl, HB.out⟩
theorem cinput_b {ge ce gg cg gi ci : Nat} (gc gd : Nat) (w : World) (h : Md w ge ce gg cg gi ci) (hc : w.heap[gc]? = some (.cells #[.string ⟨#[109]⟩, .string ⟨#[103]⟩, .slice (some ⟨ge, 0, none⟩) 2 ce, .slice none 0 0, .slice (some ⟨gg, 0, none⟩) 1 cg, .slice none 0 0, .slice none 0 0, .slice none 0 0, .int .i64 2, .slice none 0 0, .int .i64 0, .map (some gd)] 156)) :
  Calls Tryz.prog 81 #[.pointer (some ⟨gc, 0, none⟩), .int .i64 (-1), .string ⟨#[98]⟩] w (qcc w (.tuple #[.int .i64 1, .nilIface])) := by
 have HM := qHd h; have LM := qHd h.lt; clear h
 have Ggc := qHd hc; clear hc
 have HB := qHd (Below.refl w.heap.size w)
 go_enter Tryz.func81, Tryz.ntmps81
 go_wp2_with (with_reducible refine qac ?_)
 refine qad.mk ?_
 have HK := qHd (cfind_b gc gd w HM.out Ggc.out)
 (with_reducible refine HK.out.mono ?_); rintro e w1 ⟨rfl, hb⟩; clear HK
 replace HM := qHd (HM.out.below hb)
 replace Ggc := qHd (qaa Ggc.out hb)
 replace HB := qHd (HB.out.trans (hb.mono HB.out.size))
 clear hb
 go_wp2_with (with_reducible refine qaf 197 ?_)
 obtain ⟨w3, hw_4, hb_4, g2, hg_4, Gg2, LO_g2⟩ := qcd HB.out.size (.cells #[.int .i64 0, .int .i64 0, .int .i64 0] 197)
 rw [← hw_4, ← hg_4]
 replace HM := qHd (HM.out.below hb_4)
 replace Ggc := qHd (qaa Ggc.out hb_4)
 replace HB := qHd (HB.out.trans (hb_4.mono HB.out.size))
 clear hw_4 hg_4 hb_4
 refine qau g2 [.int .i64 0, .int .i64 0, .int .i64 1] Gg2.out rfl rfl rfl (by kernel_rfl) rfl ?_
 intro w5 hx_ hgn
 have q_ := (And.intro (qHd (HM.out.exc hx_ (fun hm => by simp only [List.mem_cons, List.not_mem_nil, or_false] at hm; have h1 := LM.out; have h_g2 := LO_g2.out; omega) (fun hm => by simp only [List.mem_cons, List.not_mem_nil, or_false] at hm; have h1 := LM.out; have h_g2 := LO_g2.out; omega) (fun hm => by simp only [List.mem_cons, List.not_mem_nil, or_false] at hm; have h1 := LM.out; have h_g2 := LO_g2.out; omega))) (qHd (hx_.heap Ggc.out (fun hm => qaw Ggc.out Gg2.out (by simp) (List.mem_singleton.1 hm))))); clear HM Ggc; obtain ⟨HM, Ggc⟩ := q_
 replace HB := qHd (hx_.low HB.out HB.out.size (fun g hg => by rw [List.mem_singleton.1 hg]; exact LO_g2.out))
 replace Gg2 := qHd hgn
 clear hx_ hgn
 have x6 : w5.cell? ⟨g2, 0, none⟩ = some (.int .i64 0) := cell_of_row _ _ _ _ _ _ (Gg2.out)
 have x7 : w5.cell? ⟨g2, 2, none⟩ = some (.int .i64 1) := cell_of_row _ _ _ _ _ _ (Gg2.out)
 go_wp2_with fail
 clear x6 x7
 go_ret2
 exact ⟨rfl, HB.out⟩
def RetIn (ge ce gg cg gc gd : Nat) (w : World) (e : Ending) (w' : World) : Prop := ∃ gn cn : Nat, e = .returned (.tuple #[.int .i64 2, .nilIface]) ∧ Exc w w' [gc, gd] ∧ w'.heap[gc]? = some (.cells #[.string ⟨#[109]⟩, .string ⟨#[103]⟩, .slice (some ⟨ge, 0, none⟩) 2 ce, .slice none 0 0, .slice (some ⟨gg, 0, none⟩) 1 cg, .slice none 0 0, .slice none 0 0, .slice none 0 0, .int .i64 2, .slice (some ⟨gn, 0, none⟩) 1 cn, .int .i64 0, .map (some gd)] 156)
theorem cinput_g {ge ce gg cg gi ci : Nat} (gc gd : Nat) (w : World) (h : Md w ge ce gg cg gi ci) (hc : w.heap[gc]? = some (.cells #[.string ⟨#[109]⟩, .string ⟨#[103]⟩, .slice (some ⟨ge, 0, none⟩) 2 ce, .slice none 0 0, .slice (some ⟨gg, 0, none⟩) 1 cg, .slice none 0 0, .slice none 0 0, .slice none 0 0, .int .i64 2, .slice none 0 0, .int .i64 0, .map (some gd)] 156)) (hm : qde Tryz.prog 197 3 3 w gd 0 (fun _ => none)) (hl : ge < gc ∧ gg < gc ∧ gi < gc) (hk : ge < gd ∧ gg < gd ∧ gi < gd) :
  Calls Tryz.prog 81 #[.pointer (some ⟨gc, 0, none⟩), .int .i64 (-1), .string ⟨#[103]⟩] w (RetIn ge ce gg cg gc gd w) := by
 have HM := qHd h; have LM := qHd h.lt; clear h
 have Ggc := qHd hc; have Mgd := qHd hm; have LC := qHd hl; have LD := qHd hk; clear hc hm hl hk
 have HE := qHd (Exc.refl w [gc, gd])
 go_enter Tryz.func81, Tryz.ntmps81
 go_wp2_with (with_reducible refine qac ?_)
 refine qad.mk ?_
 have HK := qHd (cfind_g gc gd w HM.out Ggc.out)
 (with_reducible refine HK.out.mono ?_); rintro e w1 ⟨rfl, hb⟩; clear HK
 replace HM := qHd (HM.out.below hb)
 replace Ggc := qHd (qaa Ggc.out hb)
 replace Mgd := qHd (qde.below Mgd.out hb)
 replace HE := qHd (HE.out.trans (Exc.of_below hb))
 clear hb
 go_wp2_with (with_reducible refine qaf 197 ?_)
 obtain ⟨w3, hw_4, hb_4, g2, hg_4, Gg2, LO_g2⟩ := qcd HE.out.size (.cells #[.int .i64 0, .int .i64 0, .int .i64 0] 197)
 rw [← hw_4, ← hg_4]
 replace HM := qHd (HM.out.below hb_4)
 replace Ggc := qHd (qaa Ggc.out hb_4)
 replace Mgd := qHd (qde.below Mgd.out hb_4)
 replace HE := qHd (HE.out.trans (Exc.of_below hb_4))
 clear hw_4 hg_4 hb_4
 refine qau g2 [.int .i64 2, .int .i64 (-1), .int .i64 0] Gg2.out rfl rfl rfl (by kernel_rfl) rfl ?_
 intro w5 hx_ hgn
 have q_ := (And.intro (qHd (HM.out.exc hx_ (fun hm => by simp only [List.mem_cons, List.not_mem_nil, or_false] at hm; have h1 := LM.out; have h_g2 := LO_g2.out; omega) (fun hm => by simp only [List.mem_cons, List.not_mem_nil, or_false] at hm; have h1 := LM.out; have h_g2 := LO_g2.out; omega) (fun hm => by simp only [List.mem_cons, List.not_mem_nil, or_false] at hm; have h1 := LM.out; have h_g2 := LO_g2.out; omega))) (And.intro (qHd (hx_.heap Ggc.out (fun hm => qaw Ggc.out Gg2.out (by simp) (List.mem_singleton.1 hm)))) (qHd (qde.exc Mgd.out hx_ (fun hm => (fun e => (qdm Mgd.out Gg2.out) e) (List.mem_singleton.1 hm)))))); clear HM Ggc Mgd; obtain ⟨HM, Ggc, Mgd⟩ := q_
 replace HE := qHd (HE.out.next hx_ (fun g hg => by rw [List.mem_singleton.1 hg]; exact .inr LO_g2.out))
 replace Gg2 := qHd hgn
 clear hx_ hgn
 have x6 : w5.cell? ⟨g2, 0, none⟩ = some (.int .i64 2) := cell_of_row _ _ _ _ _ _ (Gg2.out)
 go_wp2_with (with_reducible refine qax ?_)
 clear x6
 refine qad.mk ?_
 refine qbz (A := ?aaD7) (w := w5) 11 rfl (by kernel_rfl) (Fl [KEq (.pointer (some ⟨gc, 0, none⟩)), KEq (.pointer (some ⟨gc, 0, none⟩)), KEq (.pointer (some ⟨gc, 11, none⟩)), KEq (.map (some gd)), KEq (.agg #[.int .i64 2, .int .i64 (-1), .int .i64 0]), KEq (.tuple #[.int .i64 0, .bool false]), KEq (.tuple #[.int .i64 0, .bool false]), KEq (.int .i64 0), KEq (.bool false), KEq (.int .i64 0), KEq (.bool false)]) (fun i => false) (by kernel_rfl) (qdx (qai (kEq _) (qai (kEq _) (qai (kEq _) (qai (kEq _) (qai (kEq _) (qai (kEq _) (qai (kEq _) (qai (kEq _) (qai (kEq _) (qai (kEq _) (qai (kEq _) qdw)))))))))))) ?haD7 ?stD7 ?tlD7
 case haD7 =>
  intro vals
  simp only [qat, qcf, if_true, Act.put, List.setIfInBounds_toArray, List.set_cons_zero, List.set_cons_succ, List.getElem?_toArray, List.getElem?_cons_zero, List.getElem?_cons_succ, Option.bind_some]
  exact rfl
 case stD7 =>
  refine qab rfl rfl ?_ (qab rfl rfl ?_ (qab rfl rfl ?_ (qab rfl rfl ?_ (qab rfl rfl ?_ (qab rfl rfl ?_ (qab rfl rfl ?_ (qab rfl rfl ?_ (qab rfl rfl ?_ (qab rfl rfl ?_ (qab rfl rfl ?_ (qbb)))))))))))
  ·intro vals w1 hb hd
   refine qSv (.pointer (some ⟨gc, 0, none⟩)) (by go_simp) (qLk rfl rfl)
  ·intro vals w1 hb hd
   rw [show vals 0 = .pointer (some ⟨gc, 0, none⟩) from hd 0 (by kernel_rfl)]
   refine qSv (.pointer (some ⟨gc, 0, none⟩)) (by go_simp) (qLk rfl rfl)
  ·intro vals w1 hb hd
   rw [show vals 1 = .pointer (some ⟨gc, 0, none⟩) from hd 1 (by kernel_rfl)]
   refine qSv (.pointer (some ⟨gc, 11, none⟩)) (by go_simp) (qLk rfl rfl)
  ·intro vals w1 hb hd
   have e11 : w1.cell? ⟨gc, 11, none⟩ = some (.map (some gd)) := cell_of_row _ _ _ _ _ _ ((qaa Ggc.out hb))
   rw [show vals 2 = .pointer (some ⟨gc, 11, none⟩) from hd 2 (by kernel_rfl)]
   refine qSv (.map (some gd)) (by go_simp) (qLk rfl rfl)
  ·intro vals w1 hb hd
   have e0 : w1.cell? ⟨g2, 0, none⟩ = some (.int .i64 2) := cell_of_row _ _ _ _ _ _ ((qaa Gg2.out hb))
   have e1 : w1.cell? ⟨g2, 1, none⟩ = some (.int .i64 (-1)) := cell_of_row _ _ _ _ _ _ ((qaa Gg2.out hb))
   have e2 : w1.cell? ⟨g2, 2, none⟩ = some (.int .i64 0) := cell_of_row _ _ _ _ _ _ ((qaa Gg2.out hb))
   refine qSv (.agg #[.int .i64 2, .int .i64 (-1), .int .i64 0]) (by go_simp) (qLk rfl rfl)
  ·intro vals w1 hb hd
   rw [show vals 3 = .map (some gd) from hd 3 (by kernel_rfl)]
   rw [show vals 4 = .agg #[.int .i64 2, .int .i64 (-1), .int .i64 0] from hd 4 (by kernel_rfl)]
   refine stepOK_lookK Tryz.ktyKe (qde.below Mgd.out hb) (xs := [2, -1, 0]) rfl (by intro x hx; simp only [List.mem_cons, List.not_mem_nil, or_false] at hx; rcases hx with rfl | rfl | rfl <;> exact ⟨by decide, by decide⟩) rfl rfl rfl (fun c hc h1 h2 => ?_)
   obtain rfl : c = 0 := h2 (by kernel_rfl)
   exact qba (Below.refl _ _) (show _ = _ by rw [show ((fun _ => none) [2, -1, 0]).isSome = false from by kernel_rfl]) (fun h => by cases h)
  ·intro vals w1 hb hd
   rw [show vals 5 = .tuple #[.int .i64 0, .bool false] from hd 5 (by kernel_rfl)]
   refine qSv (.tuple #[.int .i64 0, .bool false]) (by go_simp) (qLk rfl rfl)
  ·intro vals w1 hb hd
   rw [show vals 6 = .tuple #[.int .i64 0, .bool false] from hd 6 (by kernel_rfl)]
   refine qSv (.int .i64 0) (by go_simp) (qLk rfl rfl)
  ·intro vals w1 hb hd
   rw [show vals 6 = .tuple #[.int .i64 0, .bool false] from hd 6 (by kernel_rfl)]
   refine qSv (.bool false) (by go_simp) (qLk rfl rfl)
  ·intro vals w1 hb hd
   rw [show vals 7 = .int .i64 0 from hd 7 (by kernel_rfl)]
   refine qSv (.int .i64 0) (by go_simp) (qLk rfl rfl)
  ·intro vals w1 hb hd
   rw [show vals 8 = .bool false from hd 8 (by kernel_rfl)]
   refine qSv (.bool false) (by go_simp) (qLk rfl rfl)
 case tlD7 =>
  intro vals w8 hb hf hdis
  have z_ : vals 0 = .pointer (some ⟨gc, 0, none⟩) := hf 0 (by decide)
  try rw [z_]
  clear z_
  have z_ : vals 1 = .pointer (some ⟨gc, 0, none⟩) := hf 1 (by decide)
  try rw [z_]
  clear z_
  have z_ : vals 2 = .pointer (some ⟨gc, 11, none⟩) := hf 2 (by decide)
  try rw [z_]
  clear z_
  have z_ : vals 3 = .map (some gd) := hf 3 (by decide)
  try rw [z_]
  clear z_
  have z_ : vals 4 = .agg #[.int .i64 2, .int .i64 (-1), .int .i64 0] := hf 4 (by decide)
  try rw [z_]
  clear z_
  have z_ : vals 5 = .tuple #[.int .i64 0, .bool false] := hf 5 (by decide)
  try rw [z_]
  clear z_
  have z_ : vals 6 = .tuple #[.int .i64 0, .bool false] := hf 6 (by decide)
  try rw [z_]
  clear z_
  have z_ : vals 7 = .int .i64 0 := hf 7 (by decide)
  try rw [z_]
  clear z_
  have z_ : vals 8 = .bool false := hf 8 (by decide)
  try rw [z_]
  clear z_
  have z_ : vals 9 = .int .i64 0 := hf 9 (by decide)
  try rw [z_]
  clear z_
  have z_ : vals 10 = .bool false := hf 10 (by decide)
  try rw [z_]
  clear z_
  clear hf hdis
  replace HM := qHd (HM.out.below hb)
  replace Ggc := qHd (qaa Ggc.out hb)
  replace Mgd := qHd (qde.below Mgd.out hb)
  replace Gg2 := qHd (qaa Gg2.out hb)
  replace HE := qHd (HE.out.trans (Exc.of_below hb))
  clear hb
  go_wp2_with (with_reducible refine qaf 56 ?_)
  obtain ⟨w10, hw_11, hb_11, g9, hg_11, Gg9, LO_g9⟩ := qcd HE.out.size (.cells #[.int .i64 0, .int .i64 0, .slice none 0 0] 56)
  rw [← hw_11, ← hg_11]
  replace HM := qHd (HM.out.below hb_11)
  replace Ggc := qHd (qaa Ggc.out hb_11)
  replace Mgd := qHd (qde.below Mgd.out hb_11)
  replace Gg2 := qHd (qaa Gg2.out hb_11)
  replace HE := qHd (HE.out.trans (Exc.of_below hb_11))
  clear hw_11 hg_11 hb_11
  refine qau g9 [.int .i64 0, .int .i64 0, .slice none 0 0] Gg9.out rfl rfl rfl (by kernel_rfl) rfl ?_
  intro w12 hx_ hgn
  have q_ := (And.intro (qHd (HM.out.exc hx_ (fun hm => by simp only [List.mem_cons, List.not_mem_nil, or_false] at hm; have h1 := LM.out; have h_g9 := LO_g9.out; omega) (fun hm => by simp only [List.mem_cons, List.not_mem_nil, or_false] at hm; have h1 := LM.out; have h_g9 := LO_g9.out; omega) (fun hm => by simp only [List.mem_cons, List.not_mem_nil, or_false] at hm; have h1 := LM.out; have h_g9 := LO_g9.out; omega))) (And.intro (qHd (hx_.heap Ggc.out (fun hm => qaw Ggc.out Gg9.out (by simp) (List.mem_singleton.1 hm)))) (And.intro (qHd (qde.exc Mgd.out hx_ (fun hm => (fun e => (qdm Mgd.out Gg9.out) e) (List.mem_singleton.1 hm)))) (qHd (hx_.heap Gg2.out (fun hm => qaw Gg2.out Gg9.out (by simp) (List.mem_singleton.1 hm))))))); clear HM Ggc Mgd Gg2; obtain ⟨HM, Ggc, Mgd, Gg2⟩ := q_
  replace HE := qHd (HE.out.next hx_ (fun g hg => by rw [List.mem_singleton.1 hg]; exact .inr LO_g9.out))
  replace Gg9 := qHd hgn
  clear hx_ hgn
  have x13 : w12.cell? ⟨g2, 0, none⟩ = some (.int .i64 2) := cell_of_row _ _ _ _ _ _ (Gg2.out)
  go_wp2_with (with_reducible refine qax ?_)
  clear x13
  refine qad.mk ?_
  refine qay (A := ?aaD14) (w := w12) 9 [] (by kernel_rfl) (Fl [KEq (.pointer (some ⟨gc, 0, none⟩)), KEq (.pointer (some ⟨g2, 1, none⟩)), KEq (.int .i64 (-1)), KEq (.slice (some ⟨gg, 0, none⟩) 1 cg), KEq (.pointer (some ⟨g2, 2, none⟩)), KEq (.int .i64 0), KEq (.pointer (some ⟨gg, 0, none⟩)), KEq (.agg #[.string ⟨#[103]⟩, .int .i64 0, .int .i64 0, .slice (some ⟨gi, 0, none⟩) 2 ci, .bool false, .slice none 0 0, .slice none 0 0]), KNew w12.heap.size #[.string ⟨#[]⟩, .int .i64 0, .int .i64 0, .slice none 0 0, .bool false, .slice none 0 0, .slice none 0 0] 107]) (fun i => i == 8) (by kernel_rfl) ?hqD14 (qdx (qai (kEq _) (qai (kEq _) (qai (kEq _) (qai (kEq _) (qai (kEq _) (qai (kEq _) (qai (kEq _) (qai (kEq _) (qai (kNew _ _ _) qdw)))))))))) ?haD14 ?stD14 ?tlD14
  case hqD14 =>
   intro c a d v w h
   first | (simp only [Exit.then] at h ⊢; exact h) | (simp only [Exit.inBlock, Exit.then] at h ⊢; exact h) | exact h
  case haD14 =>
   intro vals
   simp only [qat, qcf, if_true, Act.put, List.setIfInBounds_toArray, List.set_cons_zero, List.set_cons_succ, List.getElem?_toArray, List.getElem?_cons_zero, List.getElem?_cons_succ, Option.bind_some]
   exact rfl
  case stD14 =>
   simp only [List.take_succ_cons, List.take_zero]
   refine qab rfl rfl ?_ (qab rfl rfl ?_ (qab rfl rfl ?_ (qab rfl rfl ?_ (qab rfl rfl ?_ (qab rfl rfl ?_ (qab rfl rfl ?_ (qab rfl rfl ?_ (qab rfl rfl ?_ (qbb)))))))))
   ·intro vals w1 hb hd
    refine qSv (.pointer (some ⟨gc, 0, none⟩)) (by go_simp) (qLk rfl rfl)
   ·intro vals w1 hb hd
    refine qSv (.pointer (some ⟨g2, 1, none⟩)) (by go_simp) (qLk rfl rfl)
   ·intro vals w1 hb hd
    have e1 : w1.cell? ⟨g2, 1, none⟩ = some (.int .i64 (-1)) := cell_of_row _ _ _ _ _ _ ((qaa Gg2.out hb))
    rw [show vals 1 = .pointer (some ⟨g2, 1, none⟩) from hd 1 (by kernel_rfl)]
    refine qSv (.int .i64 (-1)) (by go_simp) (qLk rfl rfl)
   ·intro vals w1 hb hd
    have d0 : KEq (.pointer (some ⟨gc, 0, none⟩)) (vals 0) w1 := hd 0 (by kernel_rfl)
    have d2 : KEq (.int .i64 (-1)) (vals 2) w1 := hd 2 (by kernel_rfl)
    have HS := qHd (cgates_m gc gd w1 (HM.out.below hb) (qaa Ggc.out hb))
    have z0 : vals 0 = _ := d0
    rw [z0]; clear z0
    have z2 : vals 2 = _ := d2
    rw [z2]; clear z2
    refine qbh (by go_simp; first | done | exact ⟨⟨rfl, rfl⟩, rfl⟩) ?_
    (with_reducible refine HS.out.mono ?_); rintro e w2 ⟨rfl, hb2⟩
    exact ⟨_, rfl, qba hb2 rfl (fun h => by cases h)⟩
   ·intro vals w1 hb hd
    refine qSv (.pointer (some ⟨g2, 2, none⟩)) (by go_simp) (qLk rfl rfl)
   ·intro vals w1 hb hd
    have e2 : w1.cell? ⟨g2, 2, none⟩ = some (.int .i64 0) := cell_of_row _ _ _ _ _ _ ((qaa Gg2.out hb))
    rw [show vals 4 = .pointer (some ⟨g2, 2, none⟩) from hd 4 (by kernel_rfl)]
    refine qSv (.int .i64 0) (by go_simp) (qLk rfl rfl)
   ·intro vals w1 hb hd
    rw [show vals 3 = .slice (some ⟨gg, 0, none⟩) 1 cg from hd 3 (by kernel_rfl)]
    rw [show vals 5 = .int .i64 0 from hd 5 (by kernel_rfl)]
    refine qSv (.pointer (some ⟨gg, 0, none⟩)) (by go_simp) (qLk rfl rfl)
   ·intro vals w1 hb hd
    have e0 : w1.cell? ⟨gg, 0, none⟩ = some (.string ⟨#[103]⟩) := (HM.out.below hb).gt 0 _ rfl
    have e1 : w1.cell? ⟨gg, 1, none⟩ = some (.int .i64 0) := (HM.out.below hb).gt 1 _ rfl
    have e2 : w1.cell? ⟨gg, 2, none⟩ = some (.int .i64 0) := (HM.out.below hb).gt 2 _ rfl
    have e3 : w1.cell? ⟨gg, 3, none⟩ = some (.slice (some ⟨gi, 0, none⟩) 2 ci) := (HM.out.below hb).gt 3 _ rfl
    have e4 : w1.cell? ⟨gg, 4, none⟩ = some (.bool false) := (HM.out.below hb).gt 4 _ rfl
    have e5 : w1.cell? ⟨gg, 5, none⟩ = some (.slice none 0 0) := (HM.out.below hb).gt 5 _ rfl
    have e6 : w1.cell? ⟨gg, 6, none⟩ = some (.slice none 0 0) := (HM.out.below hb).gt 6 _ rfl
    rw [show vals 6 = .pointer (some ⟨gg, 0, none⟩) from hd 6 (by kernel_rfl)]
    refine qSv (.agg #[.string ⟨#[103]⟩, .int .i64 0, .int .i64 0, .slice (some ⟨gi, 0, none⟩) 2 ci, .bool false, .slice none 0 0, .slice none 0 0]) (by go_simp) (qLk rfl rfl)
   ·intro vals w1 hb hd
    refine qak (v := .pointer (some ⟨w1.heap.size, 0, none⟩)) (w' := w1.alloc (.cells #[.string ⟨#[]⟩, .int .i64 0, .int .i64 0, .slice none 0 0, .bool false, .slice none 0 0, .slice none 0 0] 107)) (by go_simp) (qba ((Below.refl _ _).alloc (Nat.le_refl _) _) ⟨_, hb.size, rfl, heap_alloc_new _ _⟩ (fun _ => ⟨rfl, by simp⟩))
  case tlD14 =>
   intro vals w16 hb hf hdis
   simp only [List.drop_succ_cons, List.drop_zero]
   have z_ : vals 0 = .pointer (some ⟨gc, 0, none⟩) := hf 0 (by decide)
   try rw [z_]
   clear z_
   have z_ : vals 1 = .pointer (some ⟨g2, 1, none⟩) := hf 1 (by decide)
   try rw [z_]
   clear z_
   have z_ : vals 2 = .int .i64 (-1) := hf 2 (by decide)
   try rw [z_]
   clear z_
   have z_ : vals 3 = .slice (some ⟨gg, 0, none⟩) 1 cg := hf 3 (by decide)
   try rw [z_]
   clear z_
   have z_ : vals 4 = .pointer (some ⟨g2, 2, none⟩) := hf 4 (by decide)
   try rw [z_]
   clear z_
   have z_ : vals 5 = .int .i64 0 := hf 5 (by decide)
   try rw [z_]
   clear z_
   have z_ : vals 6 = .pointer (some ⟨gg, 0, none⟩) := hf 6 (by decide)
   try rw [z_]
   clear z_
   have z_ : vals 7 = .agg #[.string ⟨#[103]⟩, .int .i64 0, .int .i64 0, .slice (some ⟨gi, 0, none⟩) 2 ci, .bool false, .slice none 0 0, .slice none 0 0] := hf 7 (by decide)
   try rw [z_]
   clear z_
   obtain ⟨g15, hg_g15, ez_g15, hz_g15⟩ : KNew w12.heap.size #[.string ⟨#[]⟩, .int .i64 0, .int .i64 0, .slice none 0 0, .bool false, .slice none 0 0, .slice none 0 0] 107 (vals 8) w16 := hf 8 (by decide)
   try rw [ez_g15]
   clear ez_g15
   clear hf hdis
   have LO_g15 := qHd (show w.heap.size ≤ g15 from Nat.le_trans HE.out.size hg_g15)
   replace HM := qHd (HM.out.below hb)
   replace Ggc := qHd (qaa Ggc.out hb)
   replace Mgd := qHd (qde.below Mgd.out hb)
   replace Gg2 := qHd (qaa Gg2.out hb)
   replace Gg9 := qHd (qaa Gg9.out hb)
   replace HE := qHd (HE.out.trans (Exc.of_below hb))
   have Gg15 := qHd hz_g15; clear hz_g15 hg_g15
   clear hb
   go_wp2_with (with_reducible refine qaf 107 ?_)
   refine qau g15 [.string ⟨#[103]⟩, .int .i64 0, .int .i64 0, .slice (some ⟨gi, 0, none⟩) 2 ci, .bool false, .slice none 0 0, .slice none 0 0] Gg15.out rfl rfl rfl (by kernel_rfl) rfl ?_
   intro w17 hx_ hgn
   have q_ := (And.intro (qHd (HM.out.exc hx_ (fun hm => by simp only [List.mem_cons, List.not_mem_nil, or_false] at hm; have h1 := LM.out; have h_g15 := LO_g15.out; omega) (fun hm => by simp only [List.mem_cons, List.not_mem_nil, or_false] at hm; have h1 := LM.out; have h_g15 := LO_g15.out; omega) (fun hm => by simp only [List.mem_cons, List.not_mem_nil, or_false] at hm; have h1 := LM.out; have h_g15 := LO_g15.out; omega))) (And.intro (qHd (hx_.heap Ggc.out (fun hm => qaw Ggc.out Gg15.out (by simp) (List.mem_singleton.1 hm)))) (And.intro (qHd (qde.exc Mgd.out hx_ (fun hm => (fun e => (qdm Mgd.out Gg15.out) e) (List.mem_singleton.1 hm)))) (And.intro (qHd (hx_.heap Gg2.out (fun hm => qaw Gg2.out Gg15.out (by simp) (List.mem_singleton.1 hm)))) (qHd (hx_.heap Gg9.out (fun hm => qaw Gg9.out Gg15.out (by simp) (List.mem_singleton.1 hm)))))))); clear HM Ggc Mgd Gg2 Gg9; obtain ⟨HM, Ggc, Mgd, Gg2, Gg9⟩ := q_
   replace HE := qHd (HE.out.next hx_ (fun g hg => by rw [List.mem_singleton.1 hg]; exact .inr LO_g15.out))
   replace Gg15 := qHd hgn
   clear hx_ hgn
   have x18 : w17.cell? ⟨g15, 1, none⟩ = some (.int .i64 0) := cell_of_row _ _ _ _ _ _ (Gg15.out)
   go_wp2_with (with_reducible refine qac ?_)
   clear x18
   refine qad.mk ?_
   have HK := qHd (nodeKind_and2 w17)
   (with_reducible refine HK.out.mono ?_); rintro e w19 ⟨rfl, hb⟩; clear HK
   replace HM := qHd (HM.out.below hb)
   replace Ggc := qHd (qaa Ggc.out hb)
   replace Mgd := qHd (qde.below Mgd.out hb)
   replace Gg2 := qHd (qaa Gg2.out hb)
   replace Gg9 := qHd (qaa Gg9.out hb)
   replace Gg15 := qHd (qaa Gg15.out hb)
   replace HE := qHd (HE.out.trans (Exc.of_below hb))
   clear hb
   have x20 : w19.cell? ⟨g15, 2, none⟩ = some (.int .i64 0) := cell_of_row _ _ _ _ _ _ (Gg15.out)
   go_wp2_with (with_reducible refine qaf 56 ?_)
   clear x20
   refine qau g9 [.int .i64 2, .int .i64 0, .slice none 0 0] Gg9.out rfl rfl rfl (by kernel_rfl) rfl ?_
   intro w21 hx_ hgn
   have q_ := (And.intro (qHd (HM.out.exc hx_ (fun hm => by simp only [List.mem_cons, List.not_mem_nil, or_false] at hm; have h1 := LM.out; have h_g9 := LO_g9.out; omega) (fun hm => by simp only [List.mem_cons, List.not_mem_nil, or_false] at hm; have h1 := LM.out; have h_g9 := LO_g9.out; omega) (fun hm => by simp only [List.mem_cons, List.not_mem_nil, or_false] at hm; have h1 := LM.out; have h_g9 := LO_g9.out; omega))) (And.intro (qHd (hx_.heap Ggc.out (fun hm => qaw Ggc.out Gg9.out (by simp) (List.mem_singleton.1 hm)))) (And.intro (qHd (qde.exc Mgd.out hx_ (fun hm => (fun e => (qdm Mgd.out Gg9.out) e) (List.mem_singleton.1 hm)))) (And.intro (qHd (hx_.heap Gg2.out (fun hm => qaw Gg2.out Gg9.out (by simp) (List.mem_singleton.1 hm)))) (qHd (hx_.heap Gg15.out (fun hm => qaw Gg15.out Gg9.out (by simp) (List.mem_singleton.1 hm)))))))); clear HM Ggc Mgd Gg2 Gg15; obtain ⟨HM, Ggc, Mgd, Gg2, Gg15⟩ := q_
   replace HE := qHd (HE.out.next hx_ (fun g hg => by rw [List.mem_singleton.1 hg]; exact .inr LO_g9.out))
   replace Gg9 := qHd hgn
   clear hx_ hgn
   have x22 : w21.cell? ⟨g15, 3, none⟩ = some (.slice (some ⟨gi, 0, none⟩) 2 ci) := cell_of_row _ _ _ _ _ _ (Gg15.out)
   go_wp2_with (with_reducible first | refine qah ?_ | refine qae ?_)
   clear x22
   refine qad.mk ?_
   refine wp_loop_rounds 3 ?_
   rw [rounds_succ]
   have x23 : w21.cell? ⟨gi, 0, none⟩ = some (.string ⟨#[97]⟩) := HM.out.inp.1
   have x24 : w21.cell? ⟨g2, 1, none⟩ = some (.int .i64 (-1)) := cell_of_row _ _ _ _ _ _ (Gg2.out)
   go_wp2_with (with_reducible refine qac ?_)
   clear x23 x24
   refine qad.mk ?_
   have HK := qHd (cinput_a gc gd w21 HM.out Ggc.out)
   (with_reducible refine HK.out.mono ?_); rintro e w25 ⟨rfl, hb⟩; clear HK
   replace HM := qHd (HM.out.below hb)
   replace Ggc := qHd (qaa Ggc.out hb)
   replace Mgd := qHd (qde.below Mgd.out hb)
   replace Gg2 := qHd (qaa Gg2.out hb)
   replace Gg9 := qHd (qaa Gg9.out hb)
   replace Gg15 := qHd (qaa Gg15.out hb)
   replace HE := qHd (HE.out.trans (Exc.of_below hb))
   clear hb
   have x27 : w25.cell? ⟨g9, 2, none⟩ = some (.slice none 0 0) := cell_of_row _ _ _ _ _ _ (Gg9.out)
   go_wp2_with (with_reducible refine qam ?_)
   clear x27
   obtain ⟨w28, hw_29, hb_29, g26, hg_29, Gg26, LO_g26⟩ := qcd HE.out.size (.cells #[.int .i64 0] 3)
   rw [← hw_29, ← hg_29]
   replace HM := qHd (HM.out.below hb_29)
   replace Ggc := qHd (qaa Ggc.out hb_29)
   replace Mgd := qHd (qde.below Mgd.out hb_29)
   replace Gg2 := qHd (qaa Gg2.out hb_29)
   replace Gg9 := qHd (qaa Gg9.out hb_29)
   replace Gg15 := qHd (qaa Gg15.out hb_29)
   replace HE := qHd (HE.out.trans (Exc.of_below hb_29))
   clear hw_29 hg_29 hb_29
   have O30 := qHd (qbx.nil w28 w.heap.size 3 1)
   refine qar w.heap.size Tryz.intTyK rfl (show noU [.int .i64 0] from (by intro u hu n; simp only [List.mem_cons, List.not_mem_nil, or_false] at hu; subst hu; exact fun e => by cases e)) (by decide) (.slice none 0 0) 0 [] [.int .i64 0] g26 3 rfl rfl O30.out Gg26.out rfl rfl (by intro u hu n; simp only [List.mem_cons, List.not_mem_nil, or_false] at hu; subst hu; exact fun e => by cases e) (by intro u hu n; cases hu) (by decide) (by decide) HE.out.size ?_
   intro v_ w31 ho hgr hfr
   obtain ⟨a_, cg32, rfl, hc1, hc2, _⟩ := qaz ho.1
   obtain ⟨g32, rfl, hgB, hglt, _, _, _⟩ := qbt ho.1 rfl (by decide)
   have LO_g32 := qHd hgB
   have NE_g32_gc := qHd (show g32 ≠ gc from fun e => hfr gc (qao Ggc.out) (by intro e; cases e) (by rw [e]; rfl))
   have NE_g32_g2 := qHd (show g32 ≠ g2 from fun e => hfr g2 (qao Gg2.out) (by intro e; cases e) (by rw [e]; rfl))
   have NE_g32_g9 := qHd (show g32 ≠ g9 from fun e => hfr g9 (qao Gg9.out) (by intro e; cases e) (by rw [e]; rfl))
   have NE_g32_g15 := qHd (show g32 ≠ g15 from fun e => hfr g15 (qao Gg15.out) (by intro e; cases e) (by rw [e]; rfl))
   have NE_g32_g26 := qHd (show g32 ≠ g26 from fun e => hfr g26 (qao Gg26.out) (by intro e; cases e) (by rw [e]; rfl))
   have NE_g32_gd := qHd (show g32 ≠ gd from fun e => hfr gd (qde.lt Mgd.out) (by intro e; cases e) (by rw [e]; rfl))
   have hon := qHd ho; clear ho
   have he_ := (Exc.of_grown (X := []) hgr (fun g h => by cases h))
   have q_ := (And.intro (qHd (HM.out.exc he_ (fun hm => by cases hm) (fun hm => by cases hm) (fun hm => by cases hm))) (And.intro (qHd (he_.heap Ggc.out (fun hm => by cases hm))) (And.intro (qHd (qde.exc Mgd.out he_ (fun hm => by cases hm))) (And.intro (qHd (he_.heap Gg2.out (fun hm => by cases hm))) (And.intro (qHd (he_.heap Gg9.out (fun hm => by cases hm))) (And.intro (qHd (he_.heap Gg15.out (fun hm => by cases hm))) (qHd (he_.heap Gg26.out (fun hm => by cases hm))))))))); clear HM Ggc Mgd Gg2 Gg9 Gg15 Gg26; obtain ⟨HM, Ggc, Mgd, Gg2, Gg9, Gg15, Gg26⟩ := q_
   replace HE := qHd (HE.out.next he_ (fun g hg => by cases hg))
   clear he_
   clear hgr hfr hgB hglt hc1 hc2
   have O33 := hon; clear hon O30
   go_wp2_with (with_reducible refine qaf 54 ?_)
   refine qct g9 2 (.slice (some ⟨g32, 0, none⟩) 1 cg32) Gg9.out rfl rfl (Nat.le_of_ble_eq_true rfl) (by kernel_rfl) rfl rfl ?_
   intro w34 hp
   have hgn : w34.heap[g9]? = some (.cells #[.int .i64 2, .int .i64 0, .slice (some ⟨g32, 0, none⟩) 1 cg32] 56) := by rw [hp]; simp [putL, World.setCell, Array.getElem?_modify, Gg9.out]
   have he_ := (Exc.put (X := [g9]) hp (List.mem_singleton.2 rfl))
   have q_ := (And.intro (qHd (HM.out.exc he_ (fun hm => by simp only [List.mem_cons, List.not_mem_nil, or_false] at hm; have h1 := LM.out; have h_g9 := LO_g9.out; omega) (fun hm => by simp only [List.mem_cons, List.not_mem_nil, or_false] at hm; have h1 := LM.out; have h_g9 := LO_g9.out; omega) (fun hm => by simp only [List.mem_cons, List.not_mem_nil, or_false] at hm; have h1 := LM.out; have h_g9 := LO_g9.out; omega))) (And.intro (qHd (he_.heap Ggc.out (fun hm => qaw Ggc.out Gg9.out (by simp) (List.mem_singleton.1 hm)))) (And.intro (qHd (qde.exc Mgd.out he_ (fun hm => (fun e => (qdm Mgd.out Gg9.out) e) (List.mem_singleton.1 hm)))) (And.intro (qHd (he_.heap Gg2.out (fun hm => qaw Gg2.out Gg9.out (by simp) (List.mem_singleton.1 hm)))) (And.intro (qHd (he_.heap Gg15.out (fun hm => qaw Gg15.out Gg9.out (by simp) (List.mem_singleton.1 hm)))) (And.intro (qHd (he_.heap Gg26.out (fun hm => qaw Gg26.out Gg9.out (by simp) (List.mem_singleton.1 hm)))) (qHd (he_.own O33.out (fun g hg => by cases hg; exact fun hm => NE_g32_g9.out (List.mem_singleton.1 hm)))))))))); clear HM Ggc Mgd Gg2 Gg15 Gg26 O33; obtain ⟨HM, Ggc, Mgd, Gg2, Gg15, Gg26, O33⟩ := q_
   replace HE := qHd (HE.out.next he_ (fun g hg => by rw [List.mem_singleton.1 hg]; exact .inr LO_g9.out))
   clear he_
   replace Gg9 := qHd hgn
   clear hp hgn
   go_wp2_with (with_reducible first | refine qah ?_ | refine qae ?_)
   refine qad.mk ?_
   rw [rounds_succ]
   have x35 : w34.cell? ⟨gi, 1, none⟩ = some (.string ⟨#[98]⟩) := HM.out.inp.2
   have x36 : w34.cell? ⟨g2, 1, none⟩ = some (.int .i64 (-1)) := cell_of_row _ _ _ _ _ _ (Gg2.out)
   go_wp2_with (with_reducible refine qac ?_)
   clear x35 x36
   refine qad.mk ?_
   have HK := qHd (cinput_b gc gd w34 HM.out Ggc.out)
   (with_reducible refine HK.out.mono ?_); rintro e w37 ⟨rfl, hb⟩; clear HK
   replace HM := qHd (HM.out.below hb)
   replace Ggc := qHd (qaa Ggc.out hb)
   replace Mgd := qHd (qde.below Mgd.out hb)
   replace Gg2 := qHd (qaa Gg2.out hb)
   replace Gg9 := qHd (qaa Gg9.out hb)
   replace Gg15 := qHd (qaa Gg15.out hb)
   replace Gg26 := qHd (qaa Gg26.out hb)
   replace O33 := qHd (O33.out.below hb)
   replace HE := qHd (HE.out.trans (Exc.of_below hb))
   clear hb
   have x39 : w37.cell? ⟨g9, 2, none⟩ = some (.slice (some ⟨g32, 0, none⟩) 1 cg32) := cell_of_row _ _ _ _ _ _ (Gg9.out)
   go_wp2_with (with_reducible refine qam ?_)
   clear x39
   obtain ⟨w40, hw_41, hb_41, g38, hg_41, Gg38, LO_g38⟩ := qcd HE.out.size (.cells #[.int .i64 1] 3)
   rw [← hw_41, ← hg_41]
   have NE_g26_g38 := qHd (show g26 ≠ g38 by have hq := qao Gg26.out; rw [hg_41]; omega)
   have NE_g32_g38 := qHd (show g32 ≠ g38 by have hq := (World.ownsRow.lt O33.out.1 g32 rfl).2; rw [hg_41]; omega)
   replace HM := qHd (HM.out.below hb_41)
   replace Ggc := qHd (qaa Ggc.out hb_41)
   replace Mgd := qHd (qde.below Mgd.out hb_41)
   replace Gg2 := qHd (qaa Gg2.out hb_41)
   replace Gg9 := qHd (qaa Gg9.out hb_41)
   replace Gg15 := qHd (qaa Gg15.out hb_41)
   replace Gg26 := qHd (qaa Gg26.out hb_41)
   replace O33 := qHd (O33.out.below hb_41)
   replace HE := qHd (HE.out.trans (Exc.of_below hb_41))
   clear hw_41 hg_41 hb_41
   refine qar w.heap.size Tryz.intTyK rfl (show noU [.int .i64 0] from (by intro u hu n; simp only [List.mem_cons, List.not_mem_nil, or_false] at hu; subst hu; exact fun e => by cases e)) (by decide) (.slice (some ⟨g32, 0, none⟩) 1 cg32) 1 [.int .i64 0] [.int .i64 1] g38 3 rfl rfl O33.out Gg38.out rfl rfl (by intro u hu n; simp only [List.mem_cons, List.not_mem_nil, or_false] at hu; subst hu; exact fun e => by cases e) (by intro u hu n; simp only [List.mem_cons, List.not_mem_nil, or_false] at hu; subst hu; exact fun e => by cases e) (by decide) (by decide) HE.out.size ?_
   intro v_ w42 ho hgr hfr
   obtain ⟨a_, cg43, rfl, hc1, hc2, _⟩ := qaz ho.1
   obtain ⟨g43, rfl, hgB, hglt, _, _, _⟩ := qbt ho.1 rfl (by decide)
   have LO_g43 := qHd hgB
   have NE_g43_gc := qHd (show g43 ≠ gc from fun e => hfr gc (qao Ggc.out) (fun e => by cases e; exact NE_g32_gc.out rfl) (by rw [e]; rfl))
   have NE_g43_g2 := qHd (show g43 ≠ g2 from fun e => hfr g2 (qao Gg2.out) (fun e => by cases e; exact NE_g32_g2.out rfl) (by rw [e]; rfl))
   have NE_g43_g9 := qHd (show g43 ≠ g9 from fun e => hfr g9 (qao Gg9.out) (fun e => by cases e; exact NE_g32_g9.out rfl) (by rw [e]; rfl))
   have NE_g43_g15 := qHd (show g43 ≠ g15 from fun e => hfr g15 (qao Gg15.out) (fun e => by cases e; exact NE_g32_g15.out rfl) (by rw [e]; rfl))
   have NE_g43_g26 := qHd (show g43 ≠ g26 from fun e => hfr g26 (qao Gg26.out) (fun e => by cases e; exact NE_g32_g26.out rfl) (by rw [e]; rfl))
   have NE_g43_g38 := qHd (show g43 ≠ g38 from fun e => hfr g38 (qao Gg38.out) (fun e => by cases e; exact NE_g32_g38.out rfl) (by rw [e]; rfl))
   have NE_g43_gd := qHd (show g43 ≠ gd from fun e => hfr gd (qde.lt Mgd.out) (fun e => by cases e; exact NE_g32_gd.out rfl) (by rw [e]; rfl))
   have hon := qHd ho; clear ho
   have he_ := (Exc.of_grown (X := [g32]) hgr (fun g h => by cases h; simp))
   have q_ := (And.intro (qHd (HM.out.exc he_ (fun hm => by simp only [List.mem_cons, List.not_mem_nil, or_false] at hm; have h1 := LM.out; have h_g32 := LO_g32.out; omega) (fun hm => by simp only [List.mem_cons, List.not_mem_nil, or_false] at hm; have h1 := LM.out; have h_g32 := LO_g32.out; omega) (fun hm => by simp only [List.mem_cons, List.not_mem_nil, or_false] at hm; have h1 := LM.out; have h_g32 := LO_g32.out; omega))) (And.intro (qHd (he_.heap Ggc.out (fun hm => NE_g32_gc.out.symm (List.mem_singleton.1 hm)))) (And.intro (qHd (qde.exc Mgd.out he_ (fun hm => NE_g32_gd.out.symm (List.mem_singleton.1 hm)))) (And.intro (qHd (he_.heap Gg2.out (fun hm => NE_g32_g2.out.symm (List.mem_singleton.1 hm)))) (And.intro (qHd (he_.heap Gg9.out (fun hm => NE_g32_g9.out.symm (List.mem_singleton.1 hm)))) (And.intro (qHd (he_.heap Gg15.out (fun hm => NE_g32_g15.out.symm (List.mem_singleton.1 hm)))) (And.intro (qHd (he_.heap Gg26.out (fun hm => NE_g32_g26.out.symm (List.mem_singleton.1 hm)))) (qHd (he_.heap Gg38.out (fun hm => NE_g32_g38.out.symm (List.mem_singleton.1 hm))))))))))); clear HM Ggc Mgd Gg2 Gg9 Gg15 Gg26 Gg38; obtain ⟨HM, Ggc, Mgd, Gg2, Gg9, Gg15, Gg26, Gg38⟩ := q_
   replace HE := qHd (HE.out.next he_ (fun g hg => by rw [List.mem_singleton.1 hg]; exact .inr LO_g32.out))
   clear he_
   clear hgr hfr hgB hglt hc1 hc2
   have O44 := hon; clear hon O33
   go_wp2_with (with_reducible refine qaf 54 ?_)
   refine qct g9 2 (.slice (some ⟨g43, 0, none⟩) 2 cg43) Gg9.out rfl rfl (Nat.le_of_ble_eq_true rfl) (by kernel_rfl) rfl rfl ?_
   intro w45 hp
   have hgn : w45.heap[g9]? = some (.cells #[.int .i64 2, .int .i64 0, .slice (some ⟨g43, 0, none⟩) 2 cg43] 56) := by rw [hp]; simp [putL, World.setCell, Array.getElem?_modify, Gg9.out]
   have he_ := (Exc.put (X := [g9]) hp (List.mem_singleton.2 rfl))
   have q_ := (And.intro (qHd (HM.out.exc he_ (fun hm => by simp only [List.mem_cons, List.not_mem_nil, or_false] at hm; have h1 := LM.out; have h_g9 := LO_g9.out; omega) (fun hm => by simp only [List.mem_cons, List.not_mem_nil, or_false] at hm; have h1 := LM.out; have h_g9 := LO_g9.out; omega) (fun hm => by simp only [List.mem_cons, List.not_mem_nil, or_false] at hm; have h1 := LM.out; have h_g9 := LO_g9.out; omega))) (And.intro (qHd (he_.heap Ggc.out (fun hm => qaw Ggc.out Gg9.out (by simp) (List.mem_singleton.1 hm)))) (And.intro (qHd (qde.exc Mgd.out he_ (fun hm => (fun e => (qdm Mgd.out Gg9.out) e) (List.mem_singleton.1 hm)))) (And.intro (qHd (he_.heap Gg2.out (fun hm => qaw Gg2.out Gg9.out (by simp) (List.mem_singleton.1 hm)))) (And.intro (qHd (he_.heap Gg15.out (fun hm => qaw Gg15.out Gg9.out (by simp) (List.mem_singleton.1 hm)))) (And.intro (qHd (he_.heap Gg26.out (fun hm => qaw Gg26.out Gg9.out (by simp) (List.mem_singleton.1 hm)))) (And.intro (qHd (he_.heap Gg38.out (fun hm => qaw Gg38.out Gg9.out (by simp) (List.mem_singleton.1 hm)))) (qHd (he_.own O44.out (fun g hg => by cases hg; exact fun hm => NE_g43_g9.out (List.mem_singleton.1 hm))))))))))); clear HM Ggc Mgd Gg2 Gg15 Gg26 Gg38 O44; obtain ⟨HM, Ggc, Mgd, Gg2, Gg15, Gg26, Gg38, O44⟩ := q_
   replace HE := qHd (HE.out.next he_ (fun g hg => by rw [List.mem_singleton.1 hg]; exact .inr LO_g9.out))
   clear he_
   replace Gg9 := qHd hgn
   clear hp hgn
   go_wp2_with (with_reducible first | refine qah ?_ | refine qae ?_)
   refine qad.mk ?_
   rw [rounds_succ]
   go_wp2_with (with_reducible refine qax ?_)
   refine qad.mk ?_
   refine qay (A := ?aaD46) (w := w45) 8 [0] (by kernel_rfl) (Fl [KEq (.pointer (some ⟨gc, 0, none⟩)), KEq (.pointer (some ⟨gc, 0, none⟩)), KEq (.pointer (some ⟨gc, 0, none⟩)), KEq (.pointer (some ⟨gc, 8, none⟩)), KEq (.pointer (some ⟨gc, 9, none⟩)), KEq (.slice none 0 0), KEq (.agg #[.int .i64 2, .int .i64 0, .slice (some ⟨g43, 0, none⟩) 2 cg43]), KLst w45.heap.size 1 #[.int .i64 2, .int .i64 0, .slice (some ⟨g43, 0, none⟩) 2 cg43] 56]) (fun i => false) (by kernel_rfl) ?hqD46 (qdx (qai (kEq _) (qai (kEq _) (qai (kEq _) (qai (kEq _) (qai (kEq _) (qai (kEq _) (qai (kEq _) (qai (kLst _ _ _ _) qdw))))))))) ?haD46 ?stD46 ?tlD46
   case hqD46 =>
    intro c a d v w h
    first | (simp only [Exit.then] at h ⊢; exact h) | (simp only [Exit.inBlock, Exit.then] at h ⊢; exact h) | exact h
   case haD46 =>
    intro vals
    simp only [qat, qcf, if_true, Act.put, List.setIfInBounds_toArray, List.set_cons_zero, List.set_cons_succ, List.getElem?_toArray, List.getElem?_cons_zero, List.getElem?_cons_succ, Option.bind_some]
    exact rfl
   case stD46 =>
    simp only [List.take_succ_cons, List.take_zero]
    refine stepsOK_pure rfl ?_ (qab rfl rfl ?_ (qab rfl rfl ?_ (qab rfl rfl ?_ (qab rfl rfl ?_ (qab rfl rfl ?_ (qab rfl rfl ?_ (qab rfl rfl ?_ (qbb))))))))
    ·intro vals w1 hb hd
     refine qcn (v := .pointer (some ⟨gc, 0, none⟩)) (fun w => by go_simp) (qLk rfl rfl)
    ·intro vals w1 hb hd
     refine qSv (.pointer (some ⟨gc, 0, none⟩)) (by go_simp) (qLk rfl rfl)
    ·intro vals w1 hb hd
     rw [show vals 1 = .pointer (some ⟨gc, 0, none⟩) from hd 1 (by kernel_rfl)]
     refine qSv (.pointer (some ⟨gc, 0, none⟩)) (by go_simp) (qLk rfl rfl)
    ·intro vals w1 hb hd
     rw [show vals 2 = .pointer (some ⟨gc, 0, none⟩) from hd 2 (by kernel_rfl)]
     refine qSv (.pointer (some ⟨gc, 8, none⟩)) (by go_simp) (qLk rfl rfl)
    ·intro vals w1 hb hd
     rw [show vals 3 = .pointer (some ⟨gc, 8, none⟩) from hd 3 (by kernel_rfl)]
     refine qSv (.pointer (some ⟨gc, 9, none⟩)) (by go_simp) (qLk rfl rfl)
    ·intro vals w1 hb hd
     have e9 : w1.cell? ⟨gc, 9, none⟩ = some (.slice none 0 0) := cell_of_row _ _ _ _ _ _ ((qaa Ggc.out hb))
     rw [show vals 4 = .pointer (some ⟨gc, 9, none⟩) from hd 4 (by kernel_rfl)]
     refine qSv (.slice none 0 0) (by go_simp) (qLk rfl rfl)
    ·intro vals w1 hb hd
     have e0 : w1.cell? ⟨g9, 0, none⟩ = some (.int .i64 2) := cell_of_row _ _ _ _ _ _ ((qaa Gg9.out hb))
     have e1 : w1.cell? ⟨g9, 1, none⟩ = some (.int .i64 0) := cell_of_row _ _ _ _ _ _ ((qaa Gg9.out hb))
     have e2 : w1.cell? ⟨g9, 2, none⟩ = some (.slice (some ⟨g43, 0, none⟩) 2 cg43) := cell_of_row _ _ _ _ _ _ ((qaa Gg9.out hb))
     refine qSv (.agg #[.int .i64 2, .int .i64 0, .slice (some ⟨g43, 0, none⟩) 2 cg43]) (by go_simp) (qLk rfl rfl)
    ·intro vals w1 hb hd
     rw [show vals 6 = .agg #[.int .i64 2, .int .i64 0, .slice (some ⟨g43, 0, none⟩) 2 cg43] from hd 6 (by kernel_rfl)]
     refine qak (v := .slice (some ⟨w1.heap.size, 0, none⟩) 1 1) (w' := w1.alloc (.cells #[.int .i64 2, .int .i64 0, .slice (some ⟨g43, 0, none⟩) 2 cg43] 56)) (by go_simp) (qba ((Below.refl _ _).alloc (Nat.le_refl _) _) ⟨_, hb.size, rfl, heap_alloc_new _ _⟩ (fun h => by cases h))
   case tlD46 =>
    intro vals w48 hb hf hdis
    simp only [List.drop_succ_cons, List.drop_zero]
    have z_ : vals 0 = .pointer (some ⟨gc, 0, none⟩) := hf 0 (by decide)
    try rw [z_]
    clear z_
    have z_ : vals 1 = .pointer (some ⟨gc, 0, none⟩) := hf 1 (by decide)
    try rw [z_]
    clear z_
    have z_ : vals 2 = .pointer (some ⟨gc, 0, none⟩) := hf 2 (by decide)
    try rw [z_]
    clear z_
    have z_ : vals 3 = .pointer (some ⟨gc, 8, none⟩) := hf 3 (by decide)
    try rw [z_]
    clear z_
    have z_ : vals 4 = .pointer (some ⟨gc, 9, none⟩) := hf 4 (by decide)
    try rw [z_]
    clear z_
    have z_ : vals 5 = .slice none 0 0 := hf 5 (by decide)
    try rw [z_]
    clear z_
    have z_ : vals 6 = .agg #[.int .i64 2, .int .i64 0, .slice (some ⟨g43, 0, none⟩) 2 cg43] := hf 6 (by decide)
    try rw [z_]
    clear z_
    obtain ⟨g47, hg_g47, ez_g47, hz_g47⟩ : KLst w45.heap.size 1 #[.int .i64 2, .int .i64 0, .slice (some ⟨g43, 0, none⟩) 2 cg43] 56 (vals 7) w48 := hf 7 (by decide)
    try rw [ez_g47]
    clear ez_g47
    clear hf hdis
    have LO_g47 := qHd (show w.heap.size ≤ g47 from Nat.le_trans HE.out.size hg_g47)
    have NE_g43_g47 := qHd (show g43 ≠ g47 by have hq := (World.ownsRow.lt O44.out.1 g43 rfl).2; have hq2 := hg_g47; omega)
    replace HM := qHd (HM.out.below hb)
    replace Ggc := qHd (qaa Ggc.out hb)
    replace Mgd := qHd (qde.below Mgd.out hb)
    replace Gg2 := qHd (qaa Gg2.out hb)
    replace Gg9 := qHd (qaa Gg9.out hb)
    replace Gg15 := qHd (qaa Gg15.out hb)
    replace Gg26 := qHd (qaa Gg26.out hb)
    replace Gg38 := qHd (qaa Gg38.out hb)
    replace O44 := qHd (O44.out.below hb)
    replace HE := qHd (HE.out.trans (Exc.of_below hb))
    have Gg47 := qHd hz_g47; clear hz_g47 hg_g47
    clear hb
    go_wp2_with (with_reducible refine qam ?_)
    have O49 := qHd (qbx.nil w48 w.heap.size 56 3)
    refine qar w.heap.size Tryz.nodeTy rfl (show noU [.int .i64 0, .int .i64 0, .slice none 0 0] from (by intro u hu n; simp only [List.mem_cons, List.not_mem_nil, or_false] at hu; rcases hu with rfl | rfl | rfl <;> exact fun e => by cases e)) (by decide) (.slice none 0 0) 0 [] [.int .i64 2, .int .i64 0, .slice (some ⟨g43, 0, none⟩) 2 cg43] g47 56 rfl rfl O49.out Gg47.out rfl rfl (by intro u hu n; simp only [List.mem_cons, List.not_mem_nil, or_false] at hu; rcases hu with rfl | rfl | rfl <;> exact fun e => by cases e) (by intro u hu n; cases hu) (by decide) (by decide) HE.out.size ?_
    intro v_ w50 ho hgr hfr
    obtain ⟨a_, cg51, rfl, hc1, hc2, _⟩ := qaz ho.1
    obtain ⟨g51, rfl, hgB, hglt, _, _, _⟩ := qbt ho.1 rfl (by decide)
    have LO_g51 := qHd hgB
    have NE_g51_gc := qHd (show g51 ≠ gc from fun e => hfr gc (qao Ggc.out) (by intro e; cases e) (by rw [e]; rfl))
    have NE_g51_g2 := qHd (show g51 ≠ g2 from fun e => hfr g2 (qao Gg2.out) (by intro e; cases e) (by rw [e]; rfl))
    have NE_g51_g9 := qHd (show g51 ≠ g9 from fun e => hfr g9 (qao Gg9.out) (by intro e; cases e) (by rw [e]; rfl))
    have NE_g51_g15 := qHd (show g51 ≠ g15 from fun e => hfr g15 (qao Gg15.out) (by intro e; cases e) (by rw [e]; rfl))
    have NE_g51_g26 := qHd (show g51 ≠ g26 from fun e => hfr g26 (qao Gg26.out) (by intro e; cases e) (by rw [e]; rfl))
    have NE_g51_g38 := qHd (show g51 ≠ g38 from fun e => hfr g38 (qao Gg38.out) (by intro e; cases e) (by rw [e]; rfl))
    have NE_g51_g47 := qHd (show g51 ≠ g47 from fun e => hfr g47 (qao Gg47.out) (by intro e; cases e) (by rw [e]; rfl))
    have NE_g51_gd := qHd (show g51 ≠ gd from fun e => hfr gd (qde.lt Mgd.out) (by intro e; cases e) (by rw [e]; rfl))
    have NE_g51_g43 := qHd (show g51 ≠ g43 from fun e => hfr g43 (World.ownsRow.lt O44.out.1 g43 rfl).2 (by intro e; cases e) (by rw [e]; rfl))
    have hon := qHd ho; clear ho
    have he_ := (Exc.of_grown (X := []) hgr (fun g h => by cases h))
    have q_ := (And.intro (qHd (HM.out.exc he_ (fun hm => by cases hm) (fun hm => by cases hm) (fun hm => by cases hm))) (And.intro (qHd (he_.heap Ggc.out (fun hm => by cases hm))) (And.intro (qHd (qde.exc Mgd.out he_ (fun hm => by cases hm))) (And.intro (qHd (he_.heap Gg2.out (fun hm => by cases hm))) (And.intro (qHd (he_.heap Gg9.out (fun hm => by cases hm))) (And.intro (qHd (he_.heap Gg15.out (fun hm => by cases hm))) (And.intro (qHd (he_.heap Gg26.out (fun hm => by cases hm))) (And.intro (qHd (he_.heap Gg38.out (fun hm => by cases hm))) (And.intro (qHd (he_.own O44.out (fun g hg => by cases hg; exact fun hm => by cases hm))) (qHd (he_.heap Gg47.out (fun hm => by cases hm)))))))))))); clear HM Ggc Mgd Gg2 Gg9 Gg15 Gg26 Gg38 O44 Gg47; obtain ⟨HM, Ggc, Mgd, Gg2, Gg9, Gg15, Gg26, Gg38, O44, Gg47⟩ := q_
    replace HE := qHd (HE.out.next he_ (fun g hg => by cases hg))
    clear he_
    clear hgr hfr hgB hglt hc1 hc2
    have O52 := hon; clear hon O49
    go_wp2_with (with_reducible refine qaf 22 ?_)
    refine qct gc 9 (.slice (some ⟨g51, 0, none⟩) 1 cg51) Ggc.out rfl rfl (Nat.le_of_ble_eq_true rfl) (by kernel_rfl) rfl rfl ?_
    intro w53 hp
    have hgn : w53.heap[gc]? = some (.cells #[.string ⟨#[109]⟩, .string ⟨#[103]⟩, .slice (some ⟨ge, 0, none⟩) 2 ce, .slice none 0 0, .slice (some ⟨gg, 0, none⟩) 1 cg, .slice none 0 0, .slice none 0 0, .slice none 0 0, .int .i64 2, .slice (some ⟨g51, 0, none⟩) 1 cg51, .int .i64 0, .map (some gd)] 156) := by rw [hp]; simp [putL, World.setCell, Array.getElem?_modify, Ggc.out]
    have he_ := (Exc.put (X := [gc]) hp (List.mem_singleton.2 rfl))
    have q_ := (And.intro (qHd (HM.out.exc he_ (fun hm => by simp only [List.mem_cons, List.not_mem_nil, or_false] at hm; have h1 := LM.out; have h_gc := LC.out; omega) (fun hm => by simp only [List.mem_cons, List.not_mem_nil, or_false] at hm; have h1 := LM.out; have h_gc := LC.out; omega) (fun hm => by simp only [List.mem_cons, List.not_mem_nil, or_false] at hm; have h1 := LM.out; have h_gc := LC.out; omega))) (And.intro (qHd (qde.exc Mgd.out he_ (fun hm => (fun e => (qdm Mgd.out Ggc.out) e) (List.mem_singleton.1 hm)))) (And.intro (qHd (he_.heap Gg2.out (fun hm => qaw Gg2.out Ggc.out (by simp) (List.mem_singleton.1 hm)))) (And.intro (qHd (he_.heap Gg9.out (fun hm => qaw Gg9.out Ggc.out (by simp) (List.mem_singleton.1 hm)))) (And.intro (qHd (he_.heap Gg15.out (fun hm => qaw Gg15.out Ggc.out (by simp) (List.mem_singleton.1 hm)))) (And.intro (qHd (he_.heap Gg26.out (fun hm => qaw Gg26.out Ggc.out (by simp) (List.mem_singleton.1 hm)))) (And.intro (qHd (he_.heap Gg38.out (fun hm => qaw Gg38.out Ggc.out (by simp) (List.mem_singleton.1 hm)))) (And.intro (qHd (he_.own O44.out (fun g hg => by cases hg; exact fun hm => NE_g43_gc.out (List.mem_singleton.1 hm)))) (And.intro (qHd (he_.heap Gg47.out (fun hm => qaw Gg47.out Ggc.out (by simp) (List.mem_singleton.1 hm)))) (qHd (he_.own O52.out (fun g hg => by cases hg; exact fun hm => NE_g51_gc.out (List.mem_singleton.1 hm))))))))))))); clear HM Mgd Gg2 Gg9 Gg15 Gg26 Gg38 O44 Gg47 O52; obtain ⟨HM, Mgd, Gg2, Gg9, Gg15, Gg26, Gg38, O44, Gg47, O52⟩ := q_
    replace HE := qHd (HE.out.next he_ (fun g hg => by rw [List.mem_singleton.1 hg]; exact .inl (by simp)))
    clear he_
    replace Ggc := qHd hgn
    clear hp hgn
    go_wp2_with (with_reducible refine qax ?_)
    refine qad.mk ?_
    refine qay (A := ?aaD54) (w := w53) 18 [] (by kernel_rfl) (Fl [KEq (.pointer (some ⟨gc, 0, none⟩)), KEq (.pointer (some ⟨gc, 0, none⟩)), KEq (.pointer (some ⟨gc, 11, none⟩)), KEq (.map (some gd)), KEq (.agg #[.int .i64 2, .int .i64 (-1), .int .i64 0]), KEq (.pointer (some ⟨gc, 0, none⟩)), KEq (.pointer (some ⟨gc, 0, none⟩)), KEq (.pointer (some ⟨gc, 8, none⟩)), KEq (.pointer (some ⟨gc, 8, none⟩)), KEq (.int .i64 2), KEq (.pointer (some ⟨gc, 0, none⟩)), KEq (.pointer (some ⟨gc, 0, none⟩)), KEq (.pointer (some ⟨gc, 8, none⟩)), KEq (.pointer (some ⟨gc, 9, none⟩)), KEq (.slice (some ⟨g51, 0, none⟩) 1 cg51), KEq (.int .i64 1), KEq (.int .i64 3), KEq (.int .i64 2)]) (fun i => false) (by kernel_rfl) ?hqD54 (qdx (qai (kEq _) (qai (kEq _) (qai (kEq _) (qai (kEq _) (qai (kEq _) (qai (kEq _) (qai (kEq _) (qai (kEq _) (qai (kEq _) (qai (kEq _) (qai (kEq _) (qai (kEq _) (qai (kEq _) (qai (kEq _) (qai (kEq _) (qai (kEq _) (qai (kEq _) (qai (kEq _) qdw))))))))))))))))))) ?haD54 ?stD54 ?tlD54
    case hqD54 =>
     intro c a d v w h
     first | (simp only [Exit.then] at h ⊢; exact h) | (simp only [Exit.inBlock, Exit.then] at h ⊢; exact h) | exact h
    case haD54 =>
     intro vals
     simp only [qat, qcf, if_true, Act.put, List.setIfInBounds_toArray, List.set_cons_zero, List.set_cons_succ, List.getElem?_toArray, List.getElem?_cons_zero, List.getElem?_cons_succ, Option.bind_some]
     exact rfl
    case stD54 =>
     simp only [List.take_succ_cons, List.take_zero]
     refine qab rfl rfl ?_ (qab rfl rfl ?_ (qab rfl rfl ?_ (qab rfl rfl ?_ (qab rfl rfl ?_ (qab rfl rfl ?_ (qab rfl rfl ?_ (qab rfl rfl ?_ (qab rfl rfl ?_ (qab rfl rfl ?_ (qab rfl rfl ?_ (qab rfl rfl ?_ (qab rfl rfl ?_ (qab rfl rfl ?_ (qab rfl rfl ?_ (qab rfl rfl ?_ (qab rfl rfl ?_ (qab rfl rfl ?_ (qbb))))))))))))))))))
     ·intro vals w1 hb hd
      refine qSv (.pointer (some ⟨gc, 0, none⟩)) (by go_simp) (qLk rfl rfl)
     ·intro vals w1 hb hd
      rw [show vals 0 = .pointer (some ⟨gc, 0, none⟩) from hd 0 (by kernel_rfl)]
      refine qSv (.pointer (some ⟨gc, 0, none⟩)) (by go_simp) (qLk rfl rfl)
     ·intro vals w1 hb hd
      rw [show vals 1 = .pointer (some ⟨gc, 0, none⟩) from hd 1 (by kernel_rfl)]
      refine qSv (.pointer (some ⟨gc, 11, none⟩)) (by go_simp) (qLk rfl rfl)
     ·intro vals w1 hb hd
      have e11 : w1.cell? ⟨gc, 11, none⟩ = some (.map (some gd)) := cell_of_row _ _ _ _ _ _ ((qaa Ggc.out hb))
      rw [show vals 2 = .pointer (some ⟨gc, 11, none⟩) from hd 2 (by kernel_rfl)]
      refine qSv (.map (some gd)) (by go_simp) (qLk rfl rfl)
     ·intro vals w1 hb hd
      have e0 : w1.cell? ⟨g2, 0, none⟩ = some (.int .i64 2) := cell_of_row _ _ _ _ _ _ ((qaa Gg2.out hb))
      have e1 : w1.cell? ⟨g2, 1, none⟩ = some (.int .i64 (-1)) := cell_of_row _ _ _ _ _ _ ((qaa Gg2.out hb))
      have e2 : w1.cell? ⟨g2, 2, none⟩ = some (.int .i64 0) := cell_of_row _ _ _ _ _ _ ((qaa Gg2.out hb))
      refine qSv (.agg #[.int .i64 2, .int .i64 (-1), .int .i64 0]) (by go_simp) (qLk rfl rfl)
     ·intro vals w1 hb hd
      refine qSv (.pointer (some ⟨gc, 0, none⟩)) (by go_simp) (qLk rfl rfl)
     ·intro vals w1 hb hd
      rw [show vals 5 = .pointer (some ⟨gc, 0, none⟩) from hd 5 (by kernel_rfl)]
      refine qSv (.pointer (some ⟨gc, 0, none⟩)) (by go_simp) (qLk rfl rfl)
     ·intro vals w1 hb hd
      rw [show vals 6 = .pointer (some ⟨gc, 0, none⟩) from hd 6 (by kernel_rfl)]
      refine qSv (.pointer (some ⟨gc, 8, none⟩)) (by go_simp) (qLk rfl rfl)
     ·intro vals w1 hb hd
      rw [show vals 7 = .pointer (some ⟨gc, 8, none⟩) from hd 7 (by kernel_rfl)]
      refine qSv (.pointer (some ⟨gc, 8, none⟩)) (by go_simp) (qLk rfl rfl)
     ·intro vals w1 hb hd
      have e8 : w1.cell? ⟨gc, 8, none⟩ = some (.int .i64 2) := cell_of_row _ _ _ _ _ _ ((qaa Ggc.out hb))
      rw [show vals 8 = .pointer (some ⟨gc, 8, none⟩) from hd 8 (by kernel_rfl)]
      refine qSv (.int .i64 2) (by go_simp) (qLk rfl rfl)
     ·intro vals w1 hb hd
      refine qSv (.pointer (some ⟨gc, 0, none⟩)) (by go_simp) (qLk rfl rfl)
     ·intro vals w1 hb hd
      rw [show vals 10 = .pointer (some ⟨gc, 0, none⟩) from hd 10 (by kernel_rfl)]
      refine qSv (.pointer (some ⟨gc, 0, none⟩)) (by go_simp) (qLk rfl rfl)
     ·intro vals w1 hb hd
      rw [show vals 11 = .pointer (some ⟨gc, 0, none⟩) from hd 11 (by kernel_rfl)]
      refine qSv (.pointer (some ⟨gc, 8, none⟩)) (by go_simp) (qLk rfl rfl)
     ·intro vals w1 hb hd
      rw [show vals 12 = .pointer (some ⟨gc, 8, none⟩) from hd 12 (by kernel_rfl)]
      refine qSv (.pointer (some ⟨gc, 9, none⟩)) (by go_simp) (qLk rfl rfl)
     ·intro vals w1 hb hd
      have e9 : w1.cell? ⟨gc, 9, none⟩ = some (.slice (some ⟨g51, 0, none⟩) 1 cg51) := cell_of_row _ _ _ _ _ _ ((qaa Ggc.out hb))
      rw [show vals 13 = .pointer (some ⟨gc, 9, none⟩) from hd 13 (by kernel_rfl)]
      refine qSv (.slice (some ⟨g51, 0, none⟩) 1 cg51) (by go_simp) (qLk rfl rfl)
     ·intro vals w1 hb hd
      rw [show vals 14 = .slice (some ⟨g51, 0, none⟩) 1 cg51 from hd 14 (by kernel_rfl)]
      refine qSv (.int .i64 1) (by go_simp) (qLk rfl rfl)
     ·intro vals w1 hb hd
      rw [show vals 9 = .int .i64 2 from hd 9 (by kernel_rfl)]
      rw [show vals 15 = .int .i64 1 from hd 15 (by kernel_rfl)]
      refine qSv (.int .i64 3) (by go_simp; first | done | rfl | decide) (qLk rfl rfl)
     ·intro vals w1 hb hd
      rw [show vals 16 = .int .i64 3 from hd 16 (by kernel_rfl)]
      refine qSv (.int .i64 2) (by go_simp; first | done | rfl | decide) (qLk rfl rfl)
    case tlD54 =>
     intro vals w55 hb hf hdis
     simp only [List.drop_succ_cons, List.drop_zero]
     have z_ : vals 0 = .pointer (some ⟨gc, 0, none⟩) := hf 0 (by decide)
     try rw [z_]
     clear z_
     have z_ : vals 1 = .pointer (some ⟨gc, 0, none⟩) := hf 1 (by decide)
     try rw [z_]
     clear z_
     have z_ : vals 2 = .pointer (some ⟨gc, 11, none⟩) := hf 2 (by decide)
     try rw [z_]
     clear z_
     have z_ : vals 3 = .map (some gd) := hf 3 (by decide)
     try rw [z_]
     clear z_
     have z_ : vals 4 = .agg #[.int .i64 2, .int .i64 (-1), .int .i64 0] := hf 4 (by decide)
     try rw [z_]
     clear z_
     have z_ : vals 5 = .pointer (some ⟨gc, 0, none⟩) := hf 5 (by decide)
     try rw [z_]
     clear z_
     have z_ : vals 6 = .pointer (some ⟨gc, 0, none⟩) := hf 6 (by decide)
     try rw [z_]
     clear z_
     have z_ : vals 7 = .pointer (some ⟨gc, 8, none⟩) := hf 7 (by decide)
     try rw [z_]
     clear z_
     have z_ : vals 8 = .pointer (some ⟨gc, 8, none⟩) := hf 8 (by decide)
     try rw [z_]
     clear z_
     have z_ : vals 9 = .int .i64 2 := hf 9 (by decide)
     try rw [z_]
     clear z_
     have z_ : vals 10 = .pointer (some ⟨gc, 0, none⟩) := hf 10 (by decide)
     try rw [z_]
     clear z_
     have z_ : vals 11 = .pointer (some ⟨gc, 0, none⟩) := hf 11 (by decide)
     try rw [z_]
     clear z_
     have z_ : vals 12 = .pointer (some ⟨gc, 8, none⟩) := hf 12 (by decide)
     try rw [z_]
     clear z_
     have z_ : vals 13 = .pointer (some ⟨gc, 9, none⟩) := hf 13 (by decide)
     try rw [z_]
     clear z_
     have z_ : vals 14 = .slice (some ⟨g51, 0, none⟩) 1 cg51 := hf 14 (by decide)
     try rw [z_]
     clear z_
     have z_ : vals 15 = .int .i64 1 := hf 15 (by decide)
     try rw [z_]
     clear z_
     have z_ : vals 16 = .int .i64 3 := hf 16 (by decide)
     try rw [z_]
     clear z_
     have z_ : vals 17 = .int .i64 2 := hf 17 (by decide)
     try rw [z_]
     clear z_
     clear hf hdis
     replace HM := qHd (HM.out.below hb)
     replace Ggc := qHd (qaa Ggc.out hb)
     replace Mgd := qHd (qde.below Mgd.out hb)
     replace Gg2 := qHd (qaa Gg2.out hb)
     replace Gg9 := qHd (qaa Gg9.out hb)
     replace Gg15 := qHd (qaa Gg15.out hb)
     replace Gg26 := qHd (qaa Gg26.out hb)
     replace Gg38 := qHd (qaa Gg38.out hb)
     replace O44 := qHd (O44.out.below hb)
     replace Gg47 := qHd (qaa Gg47.out hb)
     replace O52 := qHd (O52.out.below hb)
     replace HE := qHd (HE.out.trans (Exc.of_below hb))
     clear hb
     go_wp2_with (with_reducible refine qdb ?_)
     refine wpList_muK Tryz.ktyKe Mgd.out [2, -1, 0] (2) rfl (by intro x hx; simp only [List.mem_cons, List.not_mem_nil, or_false] at hx; rcases hx with rfl | rfl | rfl <;> exact ⟨by decide, by decide⟩) ⟨by decide, by decide⟩ (by unfold maxLen; omega) rfl rfl rfl ?_
     intro w56 hmn hgn
     have he_ := (Exc.of_grown (X := [gd]) hgn (fun g h => by cases h; simp))
     have q_ := (And.intro (qHd (HM.out.exc he_ (fun hm => by simp only [List.mem_cons, List.not_mem_nil, or_false] at hm; have h1 := LM.out; have h_gd := LD.out; omega) (fun hm => by simp only [List.mem_cons, List.not_mem_nil, or_false] at hm; have h1 := LM.out; have h_gd := LD.out; omega) (fun hm => by simp only [List.mem_cons, List.not_mem_nil, or_false] at hm; have h1 := LM.out; have h_gd := LD.out; omega))) (And.intro (qHd (he_.heap Ggc.out (fun hm => (fun e => (qdm Mgd.out Ggc.out) e.symm) (List.mem_singleton.1 hm)))) (And.intro (qHd (he_.heap Gg2.out (fun hm => (fun e => (qdm Mgd.out Gg2.out) e.symm) (List.mem_singleton.1 hm)))) (And.intro (qHd (he_.heap Gg9.out (fun hm => (fun e => (qdm Mgd.out Gg9.out) e.symm) (List.mem_singleton.1 hm)))) (And.intro (qHd (he_.heap Gg15.out (fun hm => (fun e => (qdm Mgd.out Gg15.out) e.symm) (List.mem_singleton.1 hm)))) (And.intro (qHd (he_.heap Gg26.out (fun hm => (fun e => (qdm Mgd.out Gg26.out) e.symm) (List.mem_singleton.1 hm)))) (And.intro (qHd (he_.heap Gg38.out (fun hm => (fun e => (qdm Mgd.out Gg38.out) e.symm) (List.mem_singleton.1 hm)))) (And.intro (qHd (he_.own O44.out (fun g hg => by cases hg; exact fun hm => NE_g43_gd.out (List.mem_singleton.1 hm)))) (And.intro (qHd (he_.heap Gg47.out (fun hm => (fun e => (qdm Mgd.out Gg47.out) e.symm) (List.mem_singleton.1 hm)))) (qHd (he_.own O52.out (fun g hg => by cases hg; exact fun hm => NE_g51_gd.out (List.mem_singleton.1 hm))))))))))))); clear HM Ggc Gg2 Gg9 Gg15 Gg26 Gg38 O44 Gg47 O52; obtain ⟨HM, Ggc, Gg2, Gg9, Gg15, Gg26, Gg38, O44, Gg47, O52⟩ := q_
     replace HE := qHd (HE.out.next he_ (fun g hg => by rw [List.mem_singleton.1 hg]; exact .inl (by simp)))
     clear he_
     replace Mgd := qHd hmn
     clear hmn hgn
     go_wp2_with (with_reducible refine qax ?_)
     refine qad.mk ?_
     refine qbz (A := ?aaD57) (w := w56) 8 rfl (by kernel_rfl) (Fl [KEq (.pointer (some ⟨gc, 0, none⟩)), KEq (.pointer (some ⟨gc, 0, none⟩)), KEq (.pointer (some ⟨gc, 11, none⟩)), KEq (.map (some gd)), KEq (.agg #[.int .i64 2, .int .i64 (-1), .int .i64 0]), KEq (.int .i64 2), KEq (.int .i64 2), KEq (.nilIface)]) (fun i => false) (by kernel_rfl) (qdx (qai (kEq _) (qai (kEq _) (qai (kEq _) (qai (kEq _) (qai (kEq _) (qai (kEq _) (qai (kEq _) (qai (kEq _) qdw))))))))) ?haD57 ?stD57 ?tlD57
     case haD57 =>
      intro vals
      simp only [qat, qcf, if_true, Act.put, List.setIfInBounds_toArray, List.set_cons_zero, List.set_cons_succ, List.getElem?_toArray, List.getElem?_cons_zero, List.getElem?_cons_succ, Option.bind_some]
      exact rfl
     case stD57 =>
      refine qab rfl rfl ?_ (qab rfl rfl ?_ (qab rfl rfl ?_ (qab rfl rfl ?_ (qab rfl rfl ?_ (qab rfl rfl ?_ (qab rfl rfl ?_ (qab rfl rfl ?_ (qbb))))))))
      ·intro vals w1 hb hd
       refine qSv (.pointer (some ⟨gc, 0, none⟩)) (by go_simp) (qLk rfl rfl)
      ·intro vals w1 hb hd
       rw [show vals 0 = .pointer (some ⟨gc, 0, none⟩) from hd 0 (by kernel_rfl)]
       refine qSv (.pointer (some ⟨gc, 0, none⟩)) (by go_simp) (qLk rfl rfl)
      ·intro vals w1 hb hd
       rw [show vals 1 = .pointer (some ⟨gc, 0, none⟩) from hd 1 (by kernel_rfl)]
       refine qSv (.pointer (some ⟨gc, 11, none⟩)) (by go_simp) (qLk rfl rfl)
      ·intro vals w1 hb hd
       have e11 : w1.cell? ⟨gc, 11, none⟩ = some (.map (some gd)) := cell_of_row _ _ _ _ _ _ ((qaa Ggc.out hb))
       rw [show vals 2 = .pointer (some ⟨gc, 11, none⟩) from hd 2 (by kernel_rfl)]
       refine qSv (.map (some gd)) (by go_simp) (qLk rfl rfl)
      ·intro vals w1 hb hd
       have e0 : w1.cell? ⟨g2, 0, none⟩ = some (.int .i64 2) := cell_of_row _ _ _ _ _ _ ((qaa Gg2.out hb))
       have e1 : w1.cell? ⟨g2, 1, none⟩ = some (.int .i64 (-1)) := cell_of_row _ _ _ _ _ _ ((qaa Gg2.out hb))
       have e2 : w1.cell? ⟨g2, 2, none⟩ = some (.int .i64 0) := cell_of_row _ _ _ _ _ _ ((qaa Gg2.out hb))
       refine qSv (.agg #[.int .i64 2, .int .i64 (-1), .int .i64 0]) (by go_simp) (qLk rfl rfl)
      ·intro vals w1 hb hd
       rw [show vals 3 = .map (some gd) from hd 3 (by kernel_rfl)]
       rw [show vals 4 = .agg #[.int .i64 2, .int .i64 (-1), .int .i64 0] from hd 4 (by kernel_rfl)]
       refine stepOK_look1K Tryz.ktyKe (qde.below Mgd.out hb) (xs := [2, -1, 0]) rfl (by intro x hx; simp only [List.mem_cons, List.not_mem_nil, or_false] at hx; rcases hx with rfl | rfl | rfl <;> exact ⟨by decide, by decide⟩) rfl rfl rfl (fun c hc h1 h2 => ?_)
       obtain rfl : c = 2 := h1 2 (by kernel_rfl)
       exact qLk rfl rfl
      ·intro vals w1 hb hd
       rw [show vals 5 = .int .i64 2 from hd 5 (by kernel_rfl)]
       refine qSv (.int .i64 2) (by go_simp) (qLk rfl rfl)
      ·intro vals w1 hb hd
       refine qSv (.nilIface) (by go_simp) (qLk rfl rfl)
     case tlD57 =>
      intro vals w58 hb hf hdis
      have z_ : vals 0 = .pointer (some ⟨gc, 0, none⟩) := hf 0 (by decide)
      try rw [z_]
      clear z_
      have z_ : vals 1 = .pointer (some ⟨gc, 0, none⟩) := hf 1 (by decide)
      try rw [z_]
      clear z_
      have z_ : vals 2 = .pointer (some ⟨gc, 11, none⟩) := hf 2 (by decide)
      try rw [z_]
      clear z_
      have z_ : vals 3 = .map (some gd) := hf 3 (by decide)
      try rw [z_]
      clear z_
      have z_ : vals 4 = .agg #[.int .i64 2, .int .i64 (-1), .int .i64 0] := hf 4 (by decide)
      try rw [z_]
      clear z_
      have z_ : vals 5 = .int .i64 2 := hf 5 (by decide)
      try rw [z_]
      clear z_
      have z_ : vals 6 = .int .i64 2 := hf 6 (by decide)
      try rw [z_]
      clear z_
      have z_ : vals 7 = .nilIface := hf 7 (by decide)
      try rw [z_]
      clear z_
      clear hf hdis
      replace HM := qHd (HM.out.below hb)
      replace Ggc := qHd (qaa Ggc.out hb)
      replace Mgd := qHd (qde.below Mgd.out hb)
      replace Gg2 := qHd (qaa Gg2.out hb)
      replace Gg9 := qHd (qaa Gg9.out hb)
      replace Gg15 := qHd (qaa Gg15.out hb)
      replace Gg26 := qHd (qaa Gg26.out hb)
      replace Gg38 := qHd (qaa Gg38.out hb)
      replace O44 := qHd (O44.out.below hb)
      replace Gg47 := qHd (qaa Gg47.out hb)
      replace O52 := qHd (O52.out.below hb)
      replace HE := qHd (HE.out.trans (Exc.of_below hb))
      clear hb
      go_wp2_with fail
      go_ret2
      exact ⟨g51, cg51, rfl, HE.out, Ggc.out⟩
def RetFm (w : World) (e : Ending) (w' : World) : Prop := ∃ gn cn : Nat, e = .returned (.tuple #[.agg #[.int .i64 2, .slice (some ⟨gn, 0, none⟩) 1 cn, .int .i64 2], .nilIface]) ∧ Below w.heap.size w w'
theorem cat_m {ge ce gg cg gi ci : Nat} (w : World) (h : Md w ge ce gg cg gi ci) :
  Calls Tryz.prog 42 #[.agg #[.string ⟨#[109]⟩, .string ⟨#[103]⟩, .slice (some ⟨ge, 0, none⟩) 2 ce, .slice none 0 0, .slice (some ⟨gg, 0, none⟩) 1 cg, .slice none 0 0, .slice none 0 0, .slice none 0 0], .string ⟨#[103]⟩] w (RetFm w) := by
 have HM := qHd h; have LM := qHd h.lt; clear h
 have HB := qHd (Below.refl w.heap.size w)
 go_enter Tryz.func42, Tryz.ntmps42
 go_wp2_with (with_reducible refine qag 4 ?_)
 obtain ⟨w2, hw_3, hb_3, g1, hg_3, Gg1, LO_g1⟩ := qcd HB.out.size (.cells #[.string ⟨#[109]⟩, .string ⟨#[103]⟩, .slice (some ⟨ge, 0, none⟩) 2 ce, .slice none 0 0, .slice (some ⟨gg, 0, none⟩) 1 cg, .slice none 0 0, .slice none 0 0, .slice none 0 0] 44)
 rw [← hw_3, ← hg_3]
 replace HM := qHd (HM.out.below hb_3)
 replace HB := qHd (HB.out.trans (hb_3.mono HB.out.size))
 clear hw_3 hg_3 hb_3
 refine qad.mk ?_
 go_wp2_with (with_reducible refine qag 14 ?_)
 obtain ⟨w5, hw_6, hb_6, g4, hg_6, Gg4, LO_g4⟩ := qcd HB.out.size (.cells #[.int .i64 0, .slice none 0 0, .int .i64 0] 24)
 rw [← hw_6, ← hg_6]
 replace HM := qHd (HM.out.below hb_6)
 replace Gg1 := qHd (qaa Gg1.out hb_6)
 replace HB := qHd (HB.out.trans (hb_6.mono HB.out.size))
 clear hw_6 hg_6 hb_6
 refine qad.mk ?_
 obtain ⟨x7, x8, x9, x10, x11, x12, x13, x14⟩ := qcq Gg1.out
 go_wp2_with (with_reducible refine qac ?_)
 clear x7 x8 x9 x10 x11 x12 x13 x14
 refine qad.mk ?_
 have HK := qHd (minput_m w5 HM.out)
 (with_reducible refine HK.out.mono ?_); rintro e w15 ⟨rfl, hb⟩; clear HK
 replace HM := qHd (HM.out.below hb)
 replace Gg1 := qHd (qaa Gg1.out hb)
 replace Gg4 := qHd (qaa Gg4.out hb)
 replace HB := qHd (HB.out.trans (hb.mono HB.out.size))
 clear hb
 have hmm := @run_makeMap Tryz.prog
 obtain ⟨x17, x18, x19, x20, x21, x22, x23, x24⟩ := qcq Gg1.out
 go_wp2_with (with_reducible refine qag 32 ?_)
 clear x17 x18 x19 x20 x21 x22 x23 x24
 obtain ⟨w25, hw_26⟩ : ∃ z0, z0 = w15.alloc (.map #[] 0) := ⟨_, rfl⟩
 have hb_26 : Below w15.heap.size w15 w25 := by rw [hw_26]; exact qBA _ _
 obtain ⟨g16, hg_26⟩ : ∃ g, g = w15.heap.size := ⟨_, rfl⟩
 have Mg16 := qHd (show qde Tryz.prog 197 3 3 w25 g16 0 (fun _ => none) by rw [hw_26, hg_26]; exact qde.made _)
 have LO_g16 := qHd (show w.heap.size ≤ g16 by rw [hg_26]; exact HB.out.size)
 rw [← hw_26, ← hg_26]
 replace HM := qHd (HM.out.below hb_26)
 replace Gg1 := qHd (qaa Gg1.out hb_26)
 replace Gg4 := qHd (qaa Gg4.out hb_26)
 replace HB := qHd (HB.out.trans (hb_26.mono HB.out.size))
 clear hw_26 hg_26 hb_26 hmm
 refine qad.mk ?_
 go_wp2_with (with_reducible refine qac ?_)
 obtain ⟨w28, hw_29, hb_29, g27, hg_29, Gg27, LO_g27⟩ := qcd HB.out.size (.cells #[.string ⟨#[109]⟩, .string ⟨#[103]⟩, .slice (some ⟨ge, 0, none⟩) 2 ce, .slice none 0 0, .slice (some ⟨gg, 0, none⟩) 1 cg, .slice none 0 0, .slice none 0 0, .slice none 0 0, .int .i64 2, .slice none 0 0, .int .i64 0, .map (some g16)] 156)
 rw [← hw_29, ← hg_29]
 replace HM := qHd (HM.out.below hb_29)
 replace Gg1 := qHd (qaa Gg1.out hb_29)
 replace Gg4 := qHd (qaa Gg4.out hb_29)
 replace Mg16 := qHd (qde.below Mg16.out hb_29)
 replace HB := qHd (HB.out.trans (hb_29.mono HB.out.size))
 clear hw_29 hg_29 hb_29
 refine qad.mk ?_
 have HK := qHd (cinput_g g27 g16 w28 HM.out Gg27.out Mg16.out ⟨Nat.lt_of_lt_of_le LM.out.1 LO_g27.out, Nat.lt_of_lt_of_le LM.out.2.1 LO_g27.out, Nat.lt_of_lt_of_le LM.out.2.2 LO_g27.out⟩ ⟨Nat.lt_of_lt_of_le LM.out.1 LO_g16.out, Nat.lt_of_lt_of_le LM.out.2.1 LO_g16.out, Nat.lt_of_lt_of_le LM.out.2.2 LO_g16.out⟩)
 (with_reducible refine HK.out.mono ?_); rintro e w30 ⟨gN, cN, rfl, hx, hgc⟩; clear HK
 have q_ := (And.intro (qHd (HM.out.exc hx (fun hm => by simp only [List.mem_cons, List.not_mem_nil, or_false] at hm; have h1 := LM.out; have h_g27 := LO_g27.out; have h_g16 := LO_g16.out; omega) (fun hm => by simp only [List.mem_cons, List.not_mem_nil, or_false] at hm; have h1 := LM.out; have h_g27 := LO_g27.out; have h_g16 := LO_g16.out; omega) (fun hm => by simp only [List.mem_cons, List.not_mem_nil, or_false] at hm; have h1 := LM.out; have h_g27 := LO_g27.out; have h_g16 := LO_g16.out; omega))) (And.intro (qHd (hx.heap Gg1.out (fun hm => by simp only [List.mem_cons, List.not_mem_nil, or_false] at hm; exact hm.elim (fun e => qaw Gg1.out Gg27.out (by simp) e) (fun hm => (fun e => (qdm Mg16.out Gg1.out) e.symm) hm)))) (qHd (hx.heap Gg4.out (fun hm => by simp only [List.mem_cons, List.not_mem_nil, or_false] at hm; exact hm.elim (fun e => qaw Gg4.out Gg27.out (by simp) e) (fun hm => (fun e => (qdm Mg16.out Gg4.out) e.symm) hm)))))); clear HM Gg1 Gg4; obtain ⟨HM, Gg1, Gg4⟩ := q_
 replace HB := qHd (hx.low HB.out HB.out.size (fun g hg => by simp only [List.mem_cons, List.not_mem_nil, or_false] at hg; exact hg.elim (fun e => (by rw [e]; exact LO_g27.out)) (fun hg => (by rw [hg]; exact LO_g16.out))))
 replace Gg27 := qHd hgc
 clear hx hgc Mg16
 go_wp2_with (with_reducible refine qaf 3 ?_)
 refine qct g27 10 (.int .i64 2) Gg27.out rfl rfl (Nat.le_of_ble_eq_true rfl) (by kernel_rfl) rfl rfl ?_
 intro w31 hp
 have hgn : w31.heap[g27]? = some (.cells #[.string ⟨#[109]⟩, .string ⟨#[103]⟩, .slice (some ⟨ge, 0, none⟩) 2 ce, .slice none 0 0, .slice (some ⟨gg, 0, none⟩) 1 cg, .slice none 0 0, .slice none 0 0, .slice none 0 0, .int .i64 2, .slice (some ⟨gN, 0, none⟩) 1 cN, .int .i64 2, .map (some g16)] 156) := by rw [hp]; simp [putL, World.setCell, Array.getElem?_modify, Gg27.out]
 have he_ := (Exc.put (X := [g27]) hp (List.mem_singleton.2 rfl))
 have q_ := (And.intro (qHd (HM.out.exc he_ (fun hm => by simp only [List.mem_cons, List.not_mem_nil, or_false] at hm; have h1 := LM.out; have h_g27 := LO_g27.out; omega) (fun hm => by simp only [List.mem_cons, List.not_mem_nil, or_false] at hm; have h1 := LM.out; have h_g27 := LO_g27.out; omega) (fun hm => by simp only [List.mem_cons, List.not_mem_nil, or_false] at hm; have h1 := LM.out; have h_g27 := LO_g27.out; omega))) (And.intro (qHd (he_.heap Gg1.out (fun hm => qaw Gg1.out Gg27.out (by simp) (List.mem_singleton.1 hm)))) (qHd (he_.heap Gg4.out (fun hm => qaw Gg4.out Gg27.out (by simp) (List.mem_singleton.1 hm)))))); clear HM Gg1 Gg4; obtain ⟨HM, Gg1, Gg4⟩ := q_
 replace HB := qHd (he_.low HB.out HB.out.size (fun g hg => by rw [List.mem_singleton.1 hg]; exact LO_g27.out))
 clear he_
 replace Gg27 := qHd hgn
 clear hp hgn
 obtain ⟨_, _, _, _, _, _, _, _, x32, x33, x34, _⟩ := row12m Gg27.out
 go_wp2_with (with_reducible refine qaf 24 ?_)
 clear x32 x33 x34
 refine qau g4 [.int .i64 2, .slice (some ⟨gN, 0, none⟩) 1 cN, .int .i64 2] Gg4.out rfl rfl rfl (by kernel_rfl) rfl ?_
 intro w35 hx_ hgn
 have q_ := (And.intro (qHd (HM.out.exc hx_ (fun hm => by simp only [List.mem_cons, List.not_mem_nil, or_false] at hm; have h1 := LM.out; have h_g4 := LO_g4.out; omega) (fun hm => by simp only [List.mem_cons, List.not_mem_nil, or_false] at hm; have h1 := LM.out; have h_g4 := LO_g4.out; omega) (fun hm => by simp only [List.mem_cons, List.not_mem_nil, or_false] at hm; have h1 := LM.out; have h_g4 := LO_g4.out; omega))) (And.intro (qHd (hx_.heap Gg1.out (fun hm => qaw Gg1.out Gg4.out (by simp) (List.mem_singleton.1 hm)))) (qHd (hx_.heap Gg27.out (fun hm => qaw Gg27.out Gg4.out (by simp) (List.mem_singleton.1 hm)))))); clear HM Gg1 Gg27; obtain ⟨HM, Gg1, Gg27⟩ := q_
 replace HB := qHd (hx_.low HB.out HB.out.size (fun g hg => by rw [List.mem_singleton.1 hg]; exact LO_g4.out))
 replace Gg4 := qHd hgn
 clear hx_ hgn
 go_wp2_with fail
 refine ret_c2s rfl g4 #[.int .i64 2, .slice (some ⟨gN, 0, none⟩) 1 cN, .int .i64 2] rfl Gg4.out Tryz.underlying24 rfl (by kernel_rfl) rfl ?_
 exact ⟨gN, cN, rfl, HB.out⟩
theorem cstatic_m {ge ce gg cg gi ci : Nat} (w : World) (h : Md w ge ce gg cg gi ci) :
  Calls Tryz.prog 15 #[.agg #[.string ⟨#[109]⟩, .string ⟨#[103]⟩, .slice (some ⟨ge, 0, none⟩) 2 ce, .slice none 0 0, .slice (some ⟨gg, 0, none⟩) 1 cg, .slice none 0 0, .slice none 0 0, .slice none 0 0]] w (RetFm w) := by
 have HM := qHd h; have LM := qHd h.lt; clear h
 have HB := qHd (Below.refl w.heap.size w)
 go_enter Tryz.func15, Tryz.ntmps15
 go_wp2_with (with_reducible refine qag 2 ?_)
 obtain ⟨w2, hw_3, hb_3, g1, hg_3, Gg1, LO_g1⟩ := qcd HB.out.size (.cells #[.string ⟨#[109]⟩, .string ⟨#[103]⟩, .slice (some ⟨ge, 0, none⟩) 2 ce, .slice none 0 0, .slice (some ⟨gg, 0, none⟩) 1 cg, .slice none 0 0, .slice none 0 0, .slice none 0 0] 44)
 rw [← hw_3, ← hg_3]
 replace HM := qHd (HM.out.below hb_3)
 replace HB := qHd (HB.out.trans (hb_3.mono HB.out.size))
 clear hw_3 hg_3 hb_3
 refine qad.mk ?_
 go_wp2_with (with_reducible refine qag 5 ?_)
 obtain ⟨w5, hw_6, hb_6, g4, hg_6, Gg4, LO_g4⟩ := qcd HB.out.size (.cells #[.int .i64 0, .slice none 0 0, .int .i64 0] 24)
 rw [← hw_6, ← hg_6]
 replace HM := qHd (HM.out.below hb_6)
 replace Gg1 := qHd (qaa Gg1.out hb_6)
 replace HB := qHd (HB.out.trans (hb_6.mono HB.out.size))
 clear hw_6 hg_6 hb_6
 refine qad.mk ?_
 obtain ⟨x7, x8, x9, x10, x11, x12, x13, x14⟩ := qcq Gg1.out
 go_wp2_with (with_reducible refine qac ?_)
 clear x7 x8 x9 x10 x11 x12 x13 x14
 refine qad.mk ?_
 have HK := qHd (mcheck_m w5 HM.out)
 (with_reducible refine HK.out.mono ?_); rintro e w15 ⟨rfl, hb⟩; clear HK
 replace HM := qHd (HM.out.below hb)
 replace Gg1 := qHd (qaa Gg1.out hb)
 replace Gg4 := qHd (qaa Gg4.out hb)
 replace HB := qHd (HB.out.trans (hb.mono HB.out.size))
 clear hb
 obtain ⟨x16, x17, x18, x19, x20, x21, x22, x23⟩ := qcq Gg1.out
 go_wp2_with (with_reducible refine qac ?_)
 clear x16 x17 x18 x19 x20 x21 x22 x23
 refine qad.mk ?_
 have HK := qHd (cat_m w15 HM.out)
 (with_reducible refine HK.out.mono ?_); rintro e w24 ⟨gN, cN, rfl, hb⟩; clear HK
 replace HM := qHd (HM.out.below hb)
 replace Gg1 := qHd (qaa Gg1.out hb)
 replace Gg4 := qHd (qaa Gg4.out hb)
 replace HB := qHd (HB.out.trans (hb.mono HB.out.size))
 clear hb
 go_wp2_with (with_reducible refine qaf 24 ?_)
 refine qau g4 [.int .i64 2, .slice (some ⟨gN, 0, none⟩) 1 cN, .int .i64 2] Gg4.out rfl rfl rfl (by kernel_rfl) rfl ?_
 intro w25 hx_ hgn
 have q_ := (And.intro (qHd (HM.out.exc hx_ (fun hm => by simp only [List.mem_cons, List.not_mem_nil, or_false] at hm; have h1 := LM.out; have h_g4 := LO_g4.out; omega) (fun hm => by simp only [List.mem_cons, List.not_mem_nil, or_false] at hm; have h1 := LM.out; have h_g4 := LO_g4.out; omega) (fun hm => by simp only [List.mem_cons, List.not_mem_nil, or_false] at hm; have h1 := LM.out; have h_g4 := LO_g4.out; omega))) (qHd (hx_.heap Gg1.out (fun hm => qaw Gg1.out Gg4.out (by simp) (List.mem_singleton.1 hm))))); clear HM Gg1; obtain ⟨HM, Gg1⟩ := q_
 replace HB := qHd (hx_.low HB.out HB.out.size (fun g hg => by rw [List.mem_singleton.1 hg]; exact LO_g4.out))
 replace Gg4 := qHd hgn
 clear hx_ hgn
 go_wp2_with fail
 refine ret_c2s rfl g4 #[.int .i64 2, .slice (some ⟨gN, 0, none⟩) 1 cN, .int .i64 2] rfl Gg4.out Tryz.underlying24 rfl (by kernel_rfl) rfl ?_
 exact ⟨gN, cN, rfl, HB.out⟩
end Go.Proofs.YteadcgmaailjlaaGreatDoor
namespace Go.Proofs
open Go.Shelf
def Tryz.lays156_ren : Go.Shelf.Ren := ⟨fun | 156 => 84 | 165 => 127 | 166 => 82 | 169 => 49 | 240 => 126 | 241 => 158 | 276 => 157 | 277 => 175 | n => n, fun | 31 => 105 | 9 => 9 | 3 => 3 | 4 => 4 | 0 => 0 | 20 => 20 | 72 => 93 | 76 => 157 | 70 => 90 | 37 => 91 | 75 => 28 | 127 => 166 | 164 => 224 | 5 => 5 | 80 => 79 | n => n, fun | n => n⟩
theorem Tryz.lays156 : Go.Proofs.Lays.n156 Tryz.prog Tryz.lays156_ren := {
 mixed := by kernel_rfl
 f156 := Tryz.func84.trans (congrArg some (by kernel_rfl))
 f165 := Tryz.func127.trans (congrArg some (by kernel_rfl))
 f166 := Tryz.func82.trans (congrArg some (by kernel_rfl))
 f169 := Tryz.func49.trans (congrArg some (by kernel_rfl))
 f240 := Tryz.func126.trans (congrArg some (by kernel_rfl))
 f241 := Tryz.func158.trans (congrArg some (by kernel_rfl))
 f276 := Tryz.func157.trans (congrArg some (by kernel_rfl))
 f277 := Tryz.func175.trans (congrArg some (by kernel_rfl))
 t0 := Tryz.underlying0
 a0 := Tryz.isAgg0
 z0 := Tryz.sizeOf0
 v0 := Tryz.zeroValue0
 t3 := Tryz.underlying3
 a3 := Tryz.isAgg3
 z3 := Tryz.sizeOf3
 v3 := Tryz.zeroValue3
 t4 := Tryz.underlying4
 a4 := Tryz.isAgg4
 z4 := Tryz.sizeOf4
 v4 := Tryz.zeroValue4
 t9 := Tryz.underlying9
 a9 := Tryz.isAgg9
 z9 := Tryz.sizeOf9
 v9 := Tryz.zeroValue9
 t20 := Tryz.underlying20
 a20 := Tryz.isAgg20
 z20 := Tryz.sizeOf20
 v20 := Tryz.zeroValue20
 t31 := Tryz.underlying105
 a31 := Tryz.isAgg105
 z31 := Tryz.sizeOf105
 v31 := Tryz.zeroValue105
 t37 := Tryz.underlying91
 a37 := Tryz.isAgg91
 z37 := Tryz.sizeOf91
 v37 := Tryz.zeroValue91
 t70 := Tryz.underlying90
 a70 := Tryz.isAgg90
 z70 := Tryz.sizeOf90
 v70 := Tryz.zeroValue90
 t72 := Tryz.underlying93
 a72 := Tryz.isAgg93
 z72 := Tryz.sizeOf93
 v72 := Tryz.zeroValue93
 t75 := Tryz.underlying28
 a75 := Tryz.isAgg28
 z75 := Tryz.sizeOf28
 v75 := Tryz.zeroValue28
 t76 := Tryz.underlying157
 a76 := Tryz.isAgg157
 z76 := Tryz.sizeOf157
 v76 := Tryz.zeroValue157
 t127 := Tryz.underlying166
 a127 := Tryz.isAgg166
 z127 := Tryz.sizeOf166
 v127 := Tryz.zeroValue166
 t164 := Tryz.underlying224
 a164 := Tryz.isAgg224
 z164 := Tryz.sizeOf224
 v164 := Tryz.zeroValue224 }
theorem Tryz.Builder_Extra_156 : Builder.Extra Tryz.prog Tryz.lays156_ren := {
 sizeBuilder := by kernel_rfl
 liesBuilder := by kernel_rfl
 t5 := Tryz.underlying5
 a5 := Tryz.isAgg5
 z5 := Tryz.sizeOf5
 v5 := Tryz.zeroValue5
 infoByte := by kernel_rfl
 cellsByte := by kernel_rfl
 sizeByte := by kernel_rfl
 neB5 := by decide }
open Go.RowKit in
/-- strings.Join: "Join concatenates the elements of its first argument to create a single string. The separator string sep is placed between elements in the resulting string.": HOWEVER MANY ELEMENTS. Below the heap's end the world is as it was. (LAID: no walk: one application.) -/
theorem Tryz.strings_Join (bk o c : Nat) (xs : List ByteArray) (sep : ByteArray) (w : World) (hcells : ∀ (j : Nat) x, xs[j]? = some x → w.cell? ⟨bk, o + j, none⟩ = some (.string x)) (hbk : bk < w.heap.size) (hN : xs.length ≤ 140737488355328) (hcap : xs.length ≤ c) (hlen : (Lib.join (xs.map (·.data.toList)) sep.data.toList).length ≤ 140737488355328) :
  Calls Tryz.prog 84 #[.slice (some ⟨bk, o, none⟩) xs.length c, .string sep] w fun e w' => e = .returned (.string ⟨(Lib.join (xs.map (·.data.toList)) sep.data.toList).toArray⟩) ∧ Below w.heap.size w w' := Any.strings_Join Tryz.lays156 Tryz.Builder_Extra_156 bk o c xs sep w hcells hbk hN hcap hlen
end Go.Proofs
namespace Go.Proofs.YteadcgmaailjlaaGreatDoor
open Go.RowKit Go.ChangeShapes Go.WideShapes
theorem nOf_0  (w : World)  :
  Calls Tryz.prog 162 #[.int .i64 0] w (qcc w (.slice none 0 0)) := by
 have HB := qHd (Below.refl w.heap.size w)
 go_enter Tryz.func162, Tryz.ntmps162
 go_wp2_with fail
 go_ret
 exact ⟨rfl, HB.out⟩
theorem nBits_nil  (w : World)  :
  Calls Tryz.prog 159 #[.slice none 0 0] w (qcc w (.int .i64 0)) := by
 have HB := qHd (Below.refl w.heap.size w)
 go_enter Tryz.func159, Tryz.ntmps159
 go_wp2_with (with_reducible first | refine qah ?_ | refine qae ?_)
 refine qad.mk ?_
 refine wp_loop_rounds 1 ?_
 rw [rounds_succ]
 go_wp2_with fail
 go_ret
 exact ⟨rfl, HB.out⟩
theorem rsize_0  (w : World)  :
  Calls Tryz.prog 129 #[.int .i64 0] w (qcc w (.slice none 0 0)) := by
 have HB := qHd (Below.refl w.heap.size w)
 go_enter Tryz.func129, Tryz.ntmps129
 go_wp2_with (with_reducible refine qac ?_)
 refine qad.mk ?_
 have HK := qHd (nOf_0 w)
 (with_reducible refine HK.out.mono ?_); rintro e w1 ⟨rfl, hb⟩; clear HK
 replace HB := qHd (HB.out.trans (hb.mono HB.out.size))
 clear hb
 go_wp2_with fail
 go_ret
 exact ⟨rfl, HB.out⟩
theorem rform_0 (vd : Value) (w : World)  :
  Calls Tryz.prog 128 #[.bool false, .slice none 0 0, vd] w (qcc w (.agg #[.bool false, .slice none 0 0, .slice none 0 0])) := by
 have HB := qHd (Below.refl w.heap.size w)
 go_enter Tryz.func128, Tryz.ntmps128
 go_wp2_with (with_reducible refine qac ?_)
 obtain ⟨w2, hw_3, hb_3, g1, hg_3, Gg1, LO_g1⟩ := qcd HB.out.size (.cells #[.bool false, .slice none 0 0, .slice none 0 0] 99)
 rw [← hw_3, ← hg_3]
 replace HB := qHd (HB.out.trans (hb_3.mono HB.out.size))
 clear hw_3 hg_3 hb_3
 refine qad.mk ?_
 have HK := qHd (nBits_nil w2)
 (with_reducible refine HK.out.mono ?_); rintro e w4 ⟨rfl, hb⟩; clear HK
 replace Gg1 := qHd (qaa Gg1.out hb)
 replace HB := qHd (HB.out.trans (hb.mono HB.out.size))
 clear hb
 go_wp2_with (with_reducible refine qaf 99 ?_)
 refine qau g1 [.bool false, .slice none 0 0, .slice none 0 0] Gg1.out rfl rfl rfl (by kernel_rfl) rfl ?_
 intro w5 hx_ hgn
 replace HB := qHd (hx_.low HB.out HB.out.size (fun g hg => by rw [List.mem_singleton.1 hg]; exact LO_g1.out))
 replace Gg1 := qHd hgn
 clear hx_ hgn
 go_wp2_with fail
 refine ret_c1v rfl g1 #[.bool false, .slice none 0 0, .slice none 0 0] rfl Gg1.out Tryz.underlying99 rfl (by kernel_rfl) rfl ?_
 exact ⟨rfl, HB.out⟩
theorem rOf_0  (w : World)  :
  Calls Tryz.prog 85 #[.int .i64 0] w (qcc w (.agg #[.bool false, .slice none 0 0, .slice none 0 0])) := by
 have HB := qHd (Below.refl w.heap.size w)
 go_enter Tryz.func85, Tryz.ntmps85
 go_wp2_with (with_reducible refine qac ?_)
 obtain ⟨w2, hw_3, hb_3, g1, hg_3, Gg1, LO_g1⟩ := qcd HB.out.size (.cells #[.bool false, .slice none 0 0, .slice none 0 0] 99)
 rw [← hw_3, ← hg_3]
 replace HB := qHd (HB.out.trans (hb_3.mono HB.out.size))
 clear hw_3 hg_3 hb_3
 refine qad.mk ?_
 have HK := qHd (rsize_0 w2)
 (with_reducible refine HK.out.mono ?_); rintro e w4 ⟨rfl, hb⟩; clear HK
 replace Gg1 := qHd (qaa Gg1.out hb)
 replace HB := qHd (HB.out.trans (hb.mono HB.out.size))
 clear hb
 go_wp2_with (with_reducible refine qac ?_)
 refine qad.mk ?_
 have HK := qHd (rone_r w4)
 (with_reducible refine HK.out.mono ?_); rintro e w5 ⟨gO, rfl, hb⟩; clear HK
 replace Gg1 := qHd (qaa Gg1.out hb)
 replace HB := qHd (HB.out.trans (hb.mono HB.out.size))
 clear hb
 go_wp2_with (with_reducible refine qac ?_)
 refine qad.mk ?_
 have HK := qHd (rform_0 (.slice (some ⟨gO, 0, none⟩) 1 1) w5)
 (with_reducible refine HK.out.mono ?_); rintro e w6 ⟨rfl, hb⟩; clear HK
 replace Gg1 := qHd (qaa Gg1.out hb)
 replace HB := qHd (HB.out.trans (hb.mono HB.out.size))
 clear hb
 go_wp2_with (with_reducible refine qaf 99 ?_)
 refine qau g1 [.bool false, .slice none 0 0, .slice none 0 0] Gg1.out rfl rfl rfl (by kernel_rfl) rfl ?_
 intro w7 hx_ hgn
 replace HB := qHd (hx_.low HB.out HB.out.size (fun g hg => by rw [List.mem_singleton.1 hg]; exact LO_g1.out))
 replace Gg1 := qHd hgn
 clear hx_ hgn
 go_wp2_with fail
 refine ret_c1v rfl g1 #[.bool false, .slice none 0 0, .slice none 0 0] rfl Gg1.out Tryz.underlying99 rfl (by kernel_rfl) rfl ?_
 exact ⟨rfl, HB.out⟩
theorem word_0  (w : World)  :
  Calls Tryz.prog 132 #[.int .i64 0] w (qcc w (.string ⟨#[97, 110, 100]⟩)) := by
 have HB := qHd (Below.refl w.heap.size w)
 go_enter Tryz.func132, Tryz.ntmps132
 go_wp2_with (with_reducible refine qag 16 ?_)
 obtain ⟨w2, hw_3, hb_3, g1, hg_3, Gg1, LO_g1⟩ := qcd HB.out.size (.cells #[.string ⟨#[97, 110, 100]⟩, .string ⟨#[111, 114]⟩, .string ⟨#[118, 111, 116, 101]⟩, .string ⟨#[110, 111, 116]⟩, .string ⟨#[120, 111, 114]⟩, .string ⟨#[105, 110, 104, 105, 98, 105, 116]⟩, .string ⟨#[112, 97, 110, 100]⟩, .string ⟨#[115, 112, 97, 114, 101]⟩, .string ⟨#[100, 101, 112, 101, 110, 100]⟩] 9)
 rw [← hw_3, ← hg_3]
 replace HB := qHd (HB.out.trans (hb_3.mono HB.out.size))
 clear hw_3 hg_3 hb_3
 refine qad.mk ?_
 have x4 : w2.cell? ⟨g1, 0, none⟩ = some (.string ⟨#[97, 110, 100]⟩) := cell_of_row _ _ _ _ _ _ (Gg1.out)
 go_wp2_with fail
 clear x4
 go_ret
 exact ⟨rfl, HB.out⟩
def Sts (w : World) (g : Nat) (xs : List ByteArray) : Prop := (∀ (j : Nat) (x : ByteArray), xs[j]? = some x → w.cell? ⟨g, j, none⟩ = some (.string x)) ∧ g < w.heap.size
theorem Sts.below {w w' : World} {g : Nat} {xs : List ByteArray} (h : Sts w g xs) (hb : Below w.heap.size w w') : Sts w' g xs := ⟨fun j x q => qap (h.1 j x q) hb, Nat.lt_of_lt_of_le h.2 hb.size⟩
theorem join_model (gl cl : Nat) (w : World) (h : Sts w gl [⟨#[109, 111, 100, 101, 108]⟩, ⟨#[109]⟩]) (hc : 2 ≤ cl) : Calls Tryz.prog 84 #[.slice (some ⟨gl, 0, none⟩) 2 cl, .string ⟨#[32]⟩] w (qcc w (.string ⟨#[109, 111, 100, 101, 108, 32, 109]⟩)) :=
 (Tryz.strings_Join gl 0 cl [⟨#[109, 111, 100, 101, 108]⟩, ⟨#[109]⟩] ⟨#[32]⟩ w (fun j x q => by rw [Nat.zero_add]; exact h.1 j x q) h.2 (by decide) hc (by decide)).mono fun e w' q => ⟨q.1.trans (by kernel_rfl), q.2⟩
theorem line_model (gl cl : Nat) (w : World) (h : Sts w gl [⟨#[109, 111, 100, 101, 108]⟩, ⟨#[109]⟩]) (hcl : 2 ≤ cl) :
  Calls Tryz.prog 44 #[.slice (some ⟨gl, 0, none⟩) 2 cl] w (qcc w (.string ⟨#[109, 111, 100, 101, 108, 32, 109, 59]⟩)) := by
 have HS := qHd h; clear h
 have HB := qHd (Below.refl w.heap.size w)
 go_enter Tryz.func44, Tryz.ntmps44
 go_wp2_with (with_reducible refine qac ?_)
 refine qad.mk ?_
 have HK := qHd (join_model gl cl w HS.out hcl)
 (with_reducible refine HK.out.mono ?_); rintro e w1 ⟨rfl, hb⟩; clear HK
 replace HS := qHd (HS.out.below hb)
 replace HB := qHd (HB.out.trans (hb.mono HB.out.size))
 clear hb
 go_wp2_with fail
 go_ret
 exact ⟨by first | rfl | kernel_rfl, HB.out⟩
theorem join_eva (gl cl : Nat) (w : World) (h : Sts w gl [⟨#[101, 118, 101, 110, 116]⟩, ⟨#[97]⟩]) (hc : 2 ≤ cl) : Calls Tryz.prog 84 #[.slice (some ⟨gl, 0, none⟩) 2 cl, .string ⟨#[32]⟩] w (qcc w (.string ⟨#[101, 118, 101, 110, 116, 32, 97]⟩)) :=
 (Tryz.strings_Join gl 0 cl [⟨#[101, 118, 101, 110, 116]⟩, ⟨#[97]⟩] ⟨#[32]⟩ w (fun j x q => by rw [Nat.zero_add]; exact h.1 j x q) h.2 (by decide) hc (by decide)).mono fun e w' q => ⟨q.1.trans (by kernel_rfl), q.2⟩
theorem line_eva (gl cl : Nat) (w : World) (h : Sts w gl [⟨#[101, 118, 101, 110, 116]⟩, ⟨#[97]⟩]) (hcl : 2 ≤ cl) :
  Calls Tryz.prog 44 #[.slice (some ⟨gl, 0, none⟩) 2 cl] w (qcc w (.string ⟨#[101, 118, 101, 110, 116, 32, 97, 59]⟩)) := by
 have HS := qHd h; clear h
 have HB := qHd (Below.refl w.heap.size w)
 go_enter Tryz.func44, Tryz.ntmps44
 go_wp2_with (with_reducible refine qac ?_)
 refine qad.mk ?_
 have HK := qHd (join_eva gl cl w HS.out hcl)
 (with_reducible refine HK.out.mono ?_); rintro e w1 ⟨rfl, hb⟩; clear HK
 replace HS := qHd (HS.out.below hb)
 replace HB := qHd (HB.out.trans (hb.mono HB.out.size))
 clear hb
 go_wp2_with fail
 go_ret
 exact ⟨by first | rfl | kernel_rfl, HB.out⟩
theorem join_evb (gl cl : Nat) (w : World) (h : Sts w gl [⟨#[101, 118, 101, 110, 116]⟩, ⟨#[98]⟩]) (hc : 2 ≤ cl) : Calls Tryz.prog 84 #[.slice (some ⟨gl, 0, none⟩) 2 cl, .string ⟨#[32]⟩] w (qcc w (.string ⟨#[101, 118, 101, 110, 116, 32, 98]⟩)) :=
 (Tryz.strings_Join gl 0 cl [⟨#[101, 118, 101, 110, 116]⟩, ⟨#[98]⟩] ⟨#[32]⟩ w (fun j x q => by rw [Nat.zero_add]; exact h.1 j x q) h.2 (by decide) hc (by decide)).mono fun e w' q => ⟨q.1.trans (by kernel_rfl), q.2⟩
theorem line_evb (gl cl : Nat) (w : World) (h : Sts w gl [⟨#[101, 118, 101, 110, 116]⟩, ⟨#[98]⟩]) (hcl : 2 ≤ cl) :
  Calls Tryz.prog 44 #[.slice (some ⟨gl, 0, none⟩) 2 cl] w (qcc w (.string ⟨#[101, 118, 101, 110, 116, 32, 98, 59]⟩)) := by
 have HS := qHd h; clear h
 have HB := qHd (Below.refl w.heap.size w)
 go_enter Tryz.func44, Tryz.ntmps44
 go_wp2_with (with_reducible refine qac ?_)
 refine qad.mk ?_
 have HK := qHd (join_evb gl cl w HS.out hcl)
 (with_reducible refine HK.out.mono ?_); rintro e w1 ⟨rfl, hb⟩; clear HK
 replace HS := qHd (HS.out.below hb)
 replace HB := qHd (HB.out.trans (hb.mono HB.out.size))
 clear hb
 go_wp2_with fail
 go_ret
 exact ⟨by first | rfl | kernel_rfl, HB.out⟩
theorem join_gate (gl cl : Nat) (w : World) (h : Sts w gl [⟨#[103, 97, 116, 101]⟩, ⟨#[103]⟩, ⟨#[97, 110, 100]⟩, ⟨#[97]⟩, ⟨#[98]⟩]) (hc : 5 ≤ cl) : Calls Tryz.prog 84 #[.slice (some ⟨gl, 0, none⟩) 5 cl, .string ⟨#[32]⟩] w (qcc w (.string ⟨#[103, 97, 116, 101, 32, 103, 32, 97, 110, 100, 32, 97, 32, 98]⟩)) :=
 (Tryz.strings_Join gl 0 cl [⟨#[103, 97, 116, 101]⟩, ⟨#[103]⟩, ⟨#[97, 110, 100]⟩, ⟨#[97]⟩, ⟨#[98]⟩] ⟨#[32]⟩ w (fun j x q => by rw [Nat.zero_add]; exact h.1 j x q) h.2 (by decide) hc (by decide)).mono fun e w' q => ⟨q.1.trans (by kernel_rfl), q.2⟩
theorem line_gate (gl cl : Nat) (w : World) (h : Sts w gl [⟨#[103, 97, 116, 101]⟩, ⟨#[103]⟩, ⟨#[97, 110, 100]⟩, ⟨#[97]⟩, ⟨#[98]⟩]) (hcl : 5 ≤ cl) :
  Calls Tryz.prog 44 #[.slice (some ⟨gl, 0, none⟩) 5 cl] w (qcc w (.string ⟨#[103, 97, 116, 101, 32, 103, 32, 97, 110, 100, 32, 97, 32, 98, 59]⟩)) := by
 have HS := qHd h; clear h
 have HB := qHd (Below.refl w.heap.size w)
 go_enter Tryz.func44, Tryz.ntmps44
 go_wp2_with (with_reducible refine qac ?_)
 refine qad.mk ?_
 have HK := qHd (join_gate gl cl w HS.out hcl)
 (with_reducible refine HK.out.mono ?_); rintro e w1 ⟨rfl, hb⟩; clear HK
 replace HS := qHd (HS.out.below hb)
 replace HB := qHd (HB.out.trans (hb.mono HB.out.size))
 clear hb
 go_wp2_with fail
 go_ret
 exact ⟨by first | rfl | kernel_rfl, HB.out⟩
theorem join_top (gl cl : Nat) (w : World) (h : Sts w gl [⟨#[116, 111, 112]⟩, ⟨#[103]⟩]) (hc : 2 ≤ cl) : Calls Tryz.prog 84 #[.slice (some ⟨gl, 0, none⟩) 2 cl, .string ⟨#[32]⟩] w (qcc w (.string ⟨#[116, 111, 112, 32, 103]⟩)) :=
 (Tryz.strings_Join gl 0 cl [⟨#[116, 111, 112]⟩, ⟨#[103]⟩] ⟨#[32]⟩ w (fun j x q => by rw [Nat.zero_add]; exact h.1 j x q) h.2 (by decide) hc (by decide)).mono fun e w' q => ⟨q.1.trans (by kernel_rfl), q.2⟩
theorem line_top (gl cl : Nat) (w : World) (h : Sts w gl [⟨#[116, 111, 112]⟩, ⟨#[103]⟩]) (hcl : 2 ≤ cl) :
  Calls Tryz.prog 44 #[.slice (some ⟨gl, 0, none⟩) 2 cl] w (qcc w (.string ⟨#[116, 111, 112, 32, 103, 59]⟩)) := by
 have HS := qHd h; clear h
 have HB := qHd (Below.refl w.heap.size w)
 go_enter Tryz.func44, Tryz.ntmps44
 go_wp2_with (with_reducible refine qac ?_)
 refine qad.mk ?_
 have HK := qHd (join_top gl cl w HS.out hcl)
 (with_reducible refine HK.out.mono ?_); rintro e w1 ⟨rfl, hb⟩; clear HK
 replace HS := qHd (HS.out.below hb)
 replace HB := qHd (HB.out.trans (hb.mono HB.out.size))
 clear hb
 go_wp2_with fail
 go_ret
 exact ⟨by first | rfl | kernel_rfl, HB.out⟩
theorem run_append_Lk {P : Program} (w : World) (base : Nat) (t ty e : TypeId) (i : TypeInfo) (z : Value) (size bytes : Nat) (ht : P.underlying t = some (.slice e)) (hi : P.info? e = some i) (hz : i.zero = some z)
  (hsize : i.size = size) (hby : i.bytes = bytes) (hzs : z.cells.size = size) (hsz : 0 < size) (hzu : noU z.cells.toList)
  (v : Value) (n : Nat) (xs : List Value) (hown : qbx w base e size v n xs)
  (a : Addr) (c : Nat) (news : List Value) (kk : Nat) (hkk : 0 < kk) (hl : news.length = kk * size) (hnews : ∀ j u, news[j]? = some u → w.cell? (a.add j) = some u) (h1 : ∀ u ∈ news, u.oneCell' = true) (hnu : noU news) (hxu : noU xs)
  (h63 : n + kk ≤ maxLen) (hbytes : (n + kk) * bytes ≤ 140737488355328) (hbase : base ≤ w.heap.size) :
  ∃ v' w', (Builtin.append_ #[t, t] ty #[v, .slice (some a) kk c]).run P w = .ok v' w' ∧ qbx w' base e size v' (n + kk) (xs ++ news) ∧ w.grownBy w' v.ownBlock ∧
   (∀ g, g < w.heap.size → v.ownBlock ≠ some g → v'.ownBlock ≠ some g) := by
 subst hsize
 subst hby
 have hl' : news.length = kk * i.size := hl
 obtain ⟨v', w', hr, h2, h3, _⟩ := run_append_own (P := P) w base t ty e i z i.size i.bytes ht hi hz rfl rfl hzs hsz v n xs hown.1 a kk c news hl' hnews h1 h63 hbytes hbase
 refine ⟨v', w', hr, ⟨h2, ?_⟩, h3, ?_⟩
 ·intro g cur hg hc
  rcases hown.1.2 with ⟨rfl, rfl⟩ | ⟨g', cap, old, rfl, hbg, hgg, hnc, hcm, hcs, htake⟩
  ·have hr' := run_append_nil (P := P) w t ty e i z ht hi hz a kk c news hl' hnews (by omega) (by unfold maxLen at h63; omega) (by have hq := hbytes; rw [Nat.zero_add] at hq; omega)
   rw [hr] at hr'
   simp only [Result.ok.injEq] at hr'
   obtain ⟨rfl, rfl⟩ := hr'
   simp only [Value.ownBlock, Option.some.injEq] at hg
   subst hg
   have hn := heap_alloc_new w.drew (.cells (news.toArray ++ Builtin.zeroCells z.cells (grownCap w kk 0 e - kk)) e)
   rw [show w.drew.heap.size = w.heap.size from rfl] at hn
   rw [hn] at hc
   simp only [Option.some.injEq, Obj.cells.injEq] at hc
   rw [← hc.1, Array.toList_append]
   exact noU_app hnu (noU_zeros hzu _)
  ·by_cases hroom : n + kk ≤ cap
   ·have hfit : n * i.size + news.length ≤ old.size := by rw [hl', hcs, ← Nat.add_mul]; exact Nat.mul_le_mul_right _ hroom
    have hr' := run_append_room (P := P) w t ty e i ht hi g' n cap old hgg a kk c news hl' hnews h1 hroom hfit
    rw [hr] at hr'
    simp only [Result.ok.injEq] at hr'
    obtain ⟨rfl, rfl⟩ := hr'
    simp only [Value.ownBlock, Option.some.injEq] at hg
    subst hg
    rw [setRow_heap w g' old _ e _ hgg] at hc
    simp only [Option.some.injEq, Obj.cells.injEq] at hc
    have ho := hown.2 g' old rfl hgg
    rw [← hc.1]
    exact noU_app (noU_app (noU_take ho _) hnu) (noU_drop ho _)
   ·have holds : ∀ j u, xs[j]? = some u → w.cell? ((⟨g', 0, none⟩ : Addr).add j) = some u := World.ownsRow.cells hown.1 (g := g') rfl
    have hr' := run_append_grow (P := P) w t ty e i z ht hi hz ⟨g', 0, none⟩ n cap xs hown.1.1 holds a kk c news hl' hnews (by omega) (by unfold maxLen at h63; omega) (growslice_fits (by omega) hbytes)
    rw [hr] at hr'
    simp only [Result.ok.injEq] at hr'
    obtain ⟨rfl, rfl⟩ := hr'
    simp only [Value.ownBlock, Option.some.injEq] at hg
    subst hg
    have hn := heap_alloc_new w.drew (.cells (xs.toArray ++ news.toArray ++ Builtin.zeroCells z.cells (grownCap w (n + kk) cap e - (n + kk))) e)
    rw [show w.drew.heap.size = w.heap.size from rfl] at hn
    rw [hn] at hc
    simp only [Option.some.injEq, Obj.cells.injEq] at hc
    rw [← hc.1, Array.toList_append, Array.toList_append]
    exact noU_app (noU_app hxu hnu) (noU_zeros hzu _)
 ·intro g hglt hgne hg'
  rcases hown.1.2 with ⟨rfl, rfl⟩ | ⟨g', cap, old, rfl, hbg, hgg, hnc, hcm, hcs, htake⟩
  ·have hr' := run_append_nil (P := P) w t ty e i z ht hi hz a kk c news hl' hnews (by omega) (by unfold maxLen at h63; omega) (by have hq := hbytes; rw [Nat.zero_add] at hq; omega)
   rw [hr] at hr'
   simp only [Result.ok.injEq] at hr'
   obtain ⟨rfl, rfl⟩ := hr'
   simp only [Value.ownBlock, Option.some.injEq] at hg'
   omega
  ·by_cases hroom : n + kk ≤ cap
   ·have hfit : n * i.size + news.length ≤ old.size := by rw [hl', hcs, ← Nat.add_mul]; exact Nat.mul_le_mul_right _ hroom
    have hr' := run_append_room (P := P) w t ty e i ht hi g' n cap old hgg a kk c news hl' hnews h1 hroom hfit
    rw [hr] at hr'
    simp only [Result.ok.injEq] at hr'
    obtain ⟨rfl, rfl⟩ := hr'
    exact hgne hg'
   ·have holds : ∀ j u, xs[j]? = some u → w.cell? ((⟨g', 0, none⟩ : Addr).add j) = some u := World.ownsRow.cells hown.1 (g := g') rfl
    have hr' := run_append_grow (P := P) w t ty e i z ht hi hz ⟨g', 0, none⟩ n cap xs hown.1.1 holds a kk c news hl' hnews (by omega) (by unfold maxLen at h63; omega) (growslice_fits (by omega) hbytes)
    rw [hr] at hr'
    simp only [Result.ok.injEq] at hr'
    obtain ⟨rfl, rfl⟩ := hr'
    simp only [Value.ownBlock, Option.some.injEq] at hg'
    omega
theorem wpList_appLk {P : Program} {ops : Array Oper} {rest : List Oper} {a : Act} {w : World} {Q : Exit → Act → World → Prop} {d : Option Tmp} {tt : TypeId} {s x : Operand} {t e : TypeId} {pos : String} {af : Array Edge}
  (base : Nat) {z : Value} {size bytes : Nat} (T : qdj P t e z size bytes) (hzs : z.cells.size = size) (hzu : noU z.cells.toList) (hsz : 0 < size)
  (v : Value) (n : Nat) (xs news : List Value) (ad : Addr) (kk c : Nat) (hkk : 0 < kk) (hs : a.eval s = v) (hx : a.eval x = .slice (some ad) kk c) (hown : qbx w base e size v n xs) (hnews : ∀ j u, news[j]? = some u → w.cell? (ad.add j) = some u) (hl : news.length = kk * size)
  (h1 : ∀ u ∈ news, u.oneCell' = true) (hnu : noU news) (hxu : noU xs) (hn : n + kk ≤ 1000000) (hby : bytes ≤ 1000) (hbase : base ≤ w.heap.size)
  (hK : ∀ v' w', qbx w' base e size v' (n + kk) (xs ++ news) → w.grownBy w' v.ownBlock → (∀ g, g < w.heap.size → v.ownBlock ≠ some g → v'.ownBlock ≠ some g) → wpList P ops Q rest (a.put d v') w') :
  qad (wpList P ops Q (⟨d, .call { callee := .builtin .append, args := #[s, x], argTypes := #[t, t] }, tt, pos, af, none⟩ :: rest) a w) := by
 obtain ⟨i0, hi, hz0, hz1, hz2⟩ := T.info
 have hbb : (n + kk) * bytes ≤ 140737488355328 := Nat.le_trans (Nat.mul_le_mul hn hby) (by decide)
 obtain ⟨v', w', hr, k1, k2, k3⟩ := run_append_Lk (P := P) w base t tt e i0 z size bytes T.under hi hz0 hz1 hz2 hzs hsz hzu v n xs hown ad c news kk hkk hl hnews h1 hnu hxu (by unfold maxLen; omega) hbb hbase
 refine wpList_plain rfl fun _ hK' => ?_
 unfold Oper.wp execOp
 simp only [resolve, invoke, builtin, Sem.run_bind, Sem.run_pure, Result.andThen_ok, List.map_toArray, List.map_cons, List.map_nil, hs, hx, hr]
 exact hK' _ _ (hK v' w' k1 k2 k3)
theorem own_litS {w : World} {B g n : Nat} {T : TypeId} {xs : List Value} (hg : w.heap[g]? = some (.cells xs.toArray T)) (hB : B ≤ g) (hl : xs.length = n) (hn : n ≤ 1000000) (hu : noU xs) : qbx w B T 1 (.slice (some ⟨g, 0, none⟩) n n) n xs :=
 own_full ⟨by omega, .inr ⟨g, n, _, rfl, hB, hg, Nat.le_refl _, by unfold maxLen; omega, by simp; omega, by rw [Nat.mul_one, ← hl]; simp⟩⟩ hu
theorem sts_of_own {w : World} {B g n c : Nat} {T : TypeId} {xs : List ByteArray} (h : qbx w B T 1 (.slice (some ⟨g, 0, none⟩) n c) n (xs.map Value.string)) (hn : 0 < n) : Sts w g xs := by
 obtain ⟨g', e, _, hlt, _, _, hc⟩ := qbt h.1 rfl hn
 cases e
 exact ⟨fun j x q => hc j _ (by rw [List.getElem?_map, q]; rfl), hlt⟩
theorem own_cap {w : World} {B g n c : Nat} {T : TypeId} {xs : List Value} (h : qbx w B T 1 (.slice (some ⟨g, 0, none⟩) n c) n xs) : n ≤ c := by
 obtain ⟨_, _, e, h1, _, _⟩ := qaz h.1
 cases e; exact h1
theorem sts_of_row {w : World} {g : Nat} {T : TypeId} {xs : List ByteArray} (h : w.heap[g]? = some (.cells (xs.map Value.string).toArray T)) : Sts w g xs :=
 ⟨fun j x q => by rw [cell_of_row w g j _ T (0, 0) h]; simp [q], qao h⟩
theorem Md.news {w : World} {ge ce gg cg gi ci : Nat} (h : Md w ge ce gg cg gi ci) : ∀ (j : Nat) (u : Value), [Value.string ⟨#[97]⟩, Value.string ⟨#[98]⟩][j]? = some u → w.cell? ((⟨gi, 0, none⟩ : Addr).add j) = some u
 | 0, u, q => by cases q; exact h.inp.1
 | 1, u, q => by cases q; exact h.inp.2
 | j + 2, u, q => by simp at q
end Go.Proofs.YteadcgmaailjlaaGreatDoor
