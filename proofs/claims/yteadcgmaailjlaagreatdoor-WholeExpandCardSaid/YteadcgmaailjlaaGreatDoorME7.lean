/-
  What the law leans on, one text behind the other (the base).
  Conditions: each theorem's own.
-/
import Derived.Test.YteadcgmaailjlaaGreatDoorME6
set_option maxRecDepth 100000
set_option maxHeartbeats 16000000
namespace Go.Proofs.YteadcgmaailjlaaGreatDoor
open Go.RowKit Go.ChangeShapes Go.WideShapes
theorem evcl_a_a (gn : Nat) (w : World) (hn : w.cell? ⟨gn, 0, none⟩ = some (.string ⟨#[97]⟩)) :
  Calls Tryz.prog 141 #[.agg #[.string ⟨#[97]⟩, .bool false, .slice none 0 0, .slice none 0 0, .bool false, .slice none 0 0, .slice none 0 0, .bool false, .slice none 0 0, .slice none 0 0, .int .i64 0], .pointer (some ⟨gn, 0, none⟩)] w (qcc w (.bool true)) := by
 have HN := qHd hn; clear hn
 have HB := qHd (Below.refl w.heap.size w)
 go_enter Tryz.func141, Tryz.ntmps141
 go_wp2_with (with_reducible refine qag 5 ?_)
 obtain ⟨w2, hw_3, hb_3, g1, hg_3, Gg1, LO_g1⟩ := qcd HB.out.size (.cells #[.string ⟨#[97]⟩, .bool false, .slice none 0 0, .slice none 0 0, .bool false, .slice none 0 0, .slice none 0 0, .bool false, .slice none 0 0, .slice none 0 0, .int .i64 0] 101)
 rw [← hw_3, ← hg_3]
 replace HN := qHd (qap HN.out hb_3)
 replace HB := qHd (HB.out.trans (hb_3.mono HB.out.size))
 clear hw_3 hg_3 hb_3
 refine qad.mk ?_
 have x4 : w2.cell? ⟨g1, 0, none⟩ = some (.string ⟨#[97]⟩) := cell_of_row _ _ _ _ _ _ (Gg1.out)
 have x5 : w2.cell? ⟨gn, 0, none⟩ = some (.string ⟨#[97]⟩) := HN.out
 go_wp2_with fail
 clear x4 x5
 go_ret
 exact ⟨rfl, HB.out⟩
theorem evix_a {ge ce gg cg gi ci : Nat} (gn : Nat) (w : World) (h : Md w ge ce gg cg gi ci) (hn : w.cell? ⟨gn, 0, none⟩ = some (.string ⟨#[97]⟩)) :
  Calls Tryz.prog 140 #[.slice (some ⟨ge, 0, none⟩) 2 ce, .func (.func 141) #[] #[.pointer (some ⟨gn, 0, none⟩)]] w (qcc w (.int .i64 0)) := by
 have HN := qHd hn; clear hn
 have HM := qHd h; have LM := qHd h.lt; clear h
 have HB := qHd (Below.refl w.heap.size w)
 go_enter Tryz.func140, Tryz.ntmps140
 go_wp2_with (with_reducible first | refine qah ?_ | refine qae ?_)
 refine qad.mk ?_
 refine wp_loop_rounds 1 ?_
 rw [rounds_succ]
 obtain ⟨x1, x2, x3, x4, x5, x6, x7, x8, x9, x10, x11⟩ := HM.out.e0
 go_wp2_with (with_reducible refine qac ?_)
 clear x1 x2 x3 x4 x5 x6 x7 x8 x9 x10 x11
 refine qad.mk ?_
 have HK := qHd (evcl_a_a gn w HN.out)
 (with_reducible refine HK.out.mono ?_); rintro e w12 ⟨rfl, hb⟩; clear HK
 replace HN := qHd (qap HN.out hb)
 replace HM := qHd (HM.out.below hb)
 replace HB := qHd (HB.out.trans (hb.mono HB.out.size))
 clear hb
 go_wp2_with fail
 go_ret
 exact ⟨rfl, HB.out⟩
theorem evcl_a_b (gn : Nat) (w : World) (hn : w.cell? ⟨gn, 0, none⟩ = some (.string ⟨#[98]⟩)) :
  Calls Tryz.prog 141 #[.agg #[.string ⟨#[97]⟩, .bool false, .slice none 0 0, .slice none 0 0, .bool false, .slice none 0 0, .slice none 0 0, .bool false, .slice none 0 0, .slice none 0 0, .int .i64 0], .pointer (some ⟨gn, 0, none⟩)] w (qcc w (.bool false)) := by
 have HN := qHd hn; clear hn
 have HB := qHd (Below.refl w.heap.size w)
 go_enter Tryz.func141, Tryz.ntmps141
 go_wp2_with (with_reducible refine qag 5 ?_)
 obtain ⟨w2, hw_3, hb_3, g1, hg_3, Gg1, LO_g1⟩ := qcd HB.out.size (.cells #[.string ⟨#[97]⟩, .bool false, .slice none 0 0, .slice none 0 0, .bool false, .slice none 0 0, .slice none 0 0, .bool false, .slice none 0 0, .slice none 0 0, .int .i64 0] 101)
 rw [← hw_3, ← hg_3]
 replace HN := qHd (qap HN.out hb_3)
 replace HB := qHd (HB.out.trans (hb_3.mono HB.out.size))
 clear hw_3 hg_3 hb_3
 refine qad.mk ?_
 have x4 : w2.cell? ⟨g1, 0, none⟩ = some (.string ⟨#[97]⟩) := cell_of_row _ _ _ _ _ _ (Gg1.out)
 have x5 : w2.cell? ⟨gn, 0, none⟩ = some (.string ⟨#[98]⟩) := HN.out
 go_wp2_with fail
 clear x4 x5
 go_ret
 exact ⟨rfl, HB.out⟩
theorem evcl_b_b (gn : Nat) (w : World) (hn : w.cell? ⟨gn, 0, none⟩ = some (.string ⟨#[98]⟩)) :
  Calls Tryz.prog 141 #[.agg #[.string ⟨#[98]⟩, .bool false, .slice none 0 0, .slice none 0 0, .bool false, .slice none 0 0, .slice none 0 0, .bool false, .slice none 0 0, .slice none 0 0, .int .i64 0], .pointer (some ⟨gn, 0, none⟩)] w (qcc w (.bool true)) := by
 have HN := qHd hn; clear hn
 have HB := qHd (Below.refl w.heap.size w)
 go_enter Tryz.func141, Tryz.ntmps141
 go_wp2_with (with_reducible refine qag 5 ?_)
 obtain ⟨w2, hw_3, hb_3, g1, hg_3, Gg1, LO_g1⟩ := qcd HB.out.size (.cells #[.string ⟨#[98]⟩, .bool false, .slice none 0 0, .slice none 0 0, .bool false, .slice none 0 0, .slice none 0 0, .bool false, .slice none 0 0, .slice none 0 0, .int .i64 0] 101)
 rw [← hw_3, ← hg_3]
 replace HN := qHd (qap HN.out hb_3)
 replace HB := qHd (HB.out.trans (hb_3.mono HB.out.size))
 clear hw_3 hg_3 hb_3
 refine qad.mk ?_
 have x4 : w2.cell? ⟨g1, 0, none⟩ = some (.string ⟨#[98]⟩) := cell_of_row _ _ _ _ _ _ (Gg1.out)
 have x5 : w2.cell? ⟨gn, 0, none⟩ = some (.string ⟨#[98]⟩) := HN.out
 go_wp2_with fail
 clear x4 x5
 go_ret
 exact ⟨rfl, HB.out⟩
theorem evix_b {ge ce gg cg gi ci : Nat} (gn : Nat) (w : World) (h : Md w ge ce gg cg gi ci) (hn : w.cell? ⟨gn, 0, none⟩ = some (.string ⟨#[98]⟩)) :
  Calls Tryz.prog 140 #[.slice (some ⟨ge, 0, none⟩) 2 ce, .func (.func 141) #[] #[.pointer (some ⟨gn, 0, none⟩)]] w (qcc w (.int .i64 1)) := by
 have HN := qHd hn; clear hn
 have HM := qHd h; have LM := qHd h.lt; clear h
 have HB := qHd (Below.refl w.heap.size w)
 go_enter Tryz.func140, Tryz.ntmps140
 go_wp2_with (with_reducible first | refine qah ?_ | refine qae ?_)
 refine qad.mk ?_
 refine wp_loop_rounds 2 ?_
 rw [rounds_succ]
 obtain ⟨x1, x2, x3, x4, x5, x6, x7, x8, x9, x10, x11⟩ := HM.out.e0
 go_wp2_with (with_reducible refine qac ?_)
 clear x1 x2 x3 x4 x5 x6 x7 x8 x9 x10 x11
 refine qad.mk ?_
 have HK := qHd (evcl_a_b gn w HN.out)
 (with_reducible refine HK.out.mono ?_); rintro e w12 ⟨rfl, hb⟩; clear HK
 replace HN := qHd (qap HN.out hb)
 replace HM := qHd (HM.out.below hb)
 replace HB := qHd (HB.out.trans (hb.mono HB.out.size))
 clear hb
 go_wp2_with (with_reducible first | refine qah ?_ | refine qae ?_)
 refine qad.mk ?_
 rw [rounds_succ]
 obtain ⟨x13, x14, x15, x16, x17, x18, x19, x20, x21, x22, x23⟩ := HM.out.e1
 go_wp2_with (with_reducible refine qac ?_)
 clear x13 x14 x15 x16 x17 x18 x19 x20 x21 x22 x23
 refine qad.mk ?_
 have HK := qHd (evcl_b_b gn w12 HN.out)
 (with_reducible refine HK.out.mono ?_); rintro e w24 ⟨rfl, hb⟩; clear HK
 replace HN := qHd (qap HN.out hb)
 replace HM := qHd (HM.out.below hb)
 replace HB := qHd (HB.out.trans (hb.mono HB.out.size))
 clear hb
 go_wp2_with fail
 go_ret
 exact ⟨rfl, HB.out⟩
theorem evcl_a_g (gn : Nat) (w : World) (hn : w.cell? ⟨gn, 0, none⟩ = some (.string ⟨#[103]⟩)) :
  Calls Tryz.prog 141 #[.agg #[.string ⟨#[97]⟩, .bool false, .slice none 0 0, .slice none 0 0, .bool false, .slice none 0 0, .slice none 0 0, .bool false, .slice none 0 0, .slice none 0 0, .int .i64 0], .pointer (some ⟨gn, 0, none⟩)] w (qcc w (.bool false)) := by
 have HN := qHd hn; clear hn
 have HB := qHd (Below.refl w.heap.size w)
 go_enter Tryz.func141, Tryz.ntmps141
 go_wp2_with (with_reducible refine qag 5 ?_)
 obtain ⟨w2, hw_3, hb_3, g1, hg_3, Gg1, LO_g1⟩ := qcd HB.out.size (.cells #[.string ⟨#[97]⟩, .bool false, .slice none 0 0, .slice none 0 0, .bool false, .slice none 0 0, .slice none 0 0, .bool false, .slice none 0 0, .slice none 0 0, .int .i64 0] 101)
 rw [← hw_3, ← hg_3]
 replace HN := qHd (qap HN.out hb_3)
 replace HB := qHd (HB.out.trans (hb_3.mono HB.out.size))
 clear hw_3 hg_3 hb_3
 refine qad.mk ?_
 have x4 : w2.cell? ⟨g1, 0, none⟩ = some (.string ⟨#[97]⟩) := cell_of_row _ _ _ _ _ _ (Gg1.out)
 have x5 : w2.cell? ⟨gn, 0, none⟩ = some (.string ⟨#[103]⟩) := HN.out
 go_wp2_with fail
 clear x4 x5
 go_ret
 exact ⟨rfl, HB.out⟩
theorem evcl_b_g (gn : Nat) (w : World) (hn : w.cell? ⟨gn, 0, none⟩ = some (.string ⟨#[103]⟩)) :
  Calls Tryz.prog 141 #[.agg #[.string ⟨#[98]⟩, .bool false, .slice none 0 0, .slice none 0 0, .bool false, .slice none 0 0, .slice none 0 0, .bool false, .slice none 0 0, .slice none 0 0, .int .i64 0], .pointer (some ⟨gn, 0, none⟩)] w (qcc w (.bool false)) := by
 have HN := qHd hn; clear hn
 have HB := qHd (Below.refl w.heap.size w)
 go_enter Tryz.func141, Tryz.ntmps141
 go_wp2_with (with_reducible refine qag 5 ?_)
 obtain ⟨w2, hw_3, hb_3, g1, hg_3, Gg1, LO_g1⟩ := qcd HB.out.size (.cells #[.string ⟨#[98]⟩, .bool false, .slice none 0 0, .slice none 0 0, .bool false, .slice none 0 0, .slice none 0 0, .bool false, .slice none 0 0, .slice none 0 0, .int .i64 0] 101)
 rw [← hw_3, ← hg_3]
 replace HN := qHd (qap HN.out hb_3)
 replace HB := qHd (HB.out.trans (hb_3.mono HB.out.size))
 clear hw_3 hg_3 hb_3
 refine qad.mk ?_
 have x4 : w2.cell? ⟨g1, 0, none⟩ = some (.string ⟨#[98]⟩) := cell_of_row _ _ _ _ _ _ (Gg1.out)
 have x5 : w2.cell? ⟨gn, 0, none⟩ = some (.string ⟨#[103]⟩) := HN.out
 go_wp2_with fail
 clear x4 x5
 go_ret
 exact ⟨rfl, HB.out⟩
theorem evix_g {ge ce gg cg gi ci : Nat} (gn : Nat) (w : World) (h : Md w ge ce gg cg gi ci) (hn : w.cell? ⟨gn, 0, none⟩ = some (.string ⟨#[103]⟩)) :
  Calls Tryz.prog 140 #[.slice (some ⟨ge, 0, none⟩) 2 ce, .func (.func 141) #[] #[.pointer (some ⟨gn, 0, none⟩)]] w (qcc w (.int .i64 (-1))) := by
 have HN := qHd hn; clear hn
 have HM := qHd h; have LM := qHd h.lt; clear h
 have HB := qHd (Below.refl w.heap.size w)
 go_enter Tryz.func140, Tryz.ntmps140
 go_wp2_with (with_reducible first | refine qah ?_ | refine qae ?_)
 refine qad.mk ?_
 refine wp_loop_rounds 3 ?_
 rw [rounds_succ]
 obtain ⟨x1, x2, x3, x4, x5, x6, x7, x8, x9, x10, x11⟩ := HM.out.e0
 go_wp2_with (with_reducible refine qac ?_)
 clear x1 x2 x3 x4 x5 x6 x7 x8 x9 x10 x11
 refine qad.mk ?_
 have HK := qHd (evcl_a_g gn w HN.out)
 (with_reducible refine HK.out.mono ?_); rintro e w12 ⟨rfl, hb⟩; clear HK
 replace HN := qHd (qap HN.out hb)
 replace HM := qHd (HM.out.below hb)
 replace HB := qHd (HB.out.trans (hb.mono HB.out.size))
 clear hb
 go_wp2_with (with_reducible first | refine qah ?_ | refine qae ?_)
 refine qad.mk ?_
 rw [rounds_succ]
 obtain ⟨x13, x14, x15, x16, x17, x18, x19, x20, x21, x22, x23⟩ := HM.out.e1
 go_wp2_with (with_reducible refine qac ?_)
 clear x13 x14 x15 x16 x17 x18 x19 x20 x21 x22 x23
 refine qad.mk ?_
 have HK := qHd (evcl_b_g gn w12 HN.out)
 (with_reducible refine HK.out.mono ?_); rintro e w24 ⟨rfl, hb⟩; clear HK
 replace HN := qHd (qap HN.out hb)
 replace HM := qHd (HM.out.below hb)
 replace HB := qHd (HB.out.trans (hb.mono HB.out.size))
 clear hb
 go_wp2_with (with_reducible first | refine qah ?_ | refine qae ?_)
 refine qad.mk ?_
 rw [rounds_succ]
 go_wp2_with fail
 go_ret
 exact ⟨rfl, HB.out⟩
theorem fecl_a_a (gn : Nat) (w : World) (hn : w.cell? ⟨gn, 0, none⟩ = some (.string ⟨#[97]⟩)) :
  Calls Tryz.prog 154 #[.agg #[.string ⟨#[97]⟩, .bool false, .slice none 0 0, .slice none 0 0, .bool false, .slice none 0 0, .slice none 0 0, .bool false, .slice none 0 0, .slice none 0 0, .int .i64 0], .pointer (some ⟨gn, 0, none⟩)] w (qcc w (.bool true)) := by
 have HN := qHd hn; clear hn
 have HB := qHd (Below.refl w.heap.size w)
 go_enter Tryz.func154, Tryz.ntmps154
 go_wp2_with (with_reducible refine qag 5 ?_)
 obtain ⟨w2, hw_3, hb_3, g1, hg_3, Gg1, LO_g1⟩ := qcd HB.out.size (.cells #[.string ⟨#[97]⟩, .bool false, .slice none 0 0, .slice none 0 0, .bool false, .slice none 0 0, .slice none 0 0, .bool false, .slice none 0 0, .slice none 0 0, .int .i64 0] 101)
 rw [← hw_3, ← hg_3]
 replace HN := qHd (qap HN.out hb_3)
 replace HB := qHd (HB.out.trans (hb_3.mono HB.out.size))
 clear hw_3 hg_3 hb_3
 refine qad.mk ?_
 have x4 : w2.cell? ⟨g1, 0, none⟩ = some (.string ⟨#[97]⟩) := cell_of_row _ _ _ _ _ _ (Gg1.out)
 have x5 : w2.cell? ⟨gn, 0, none⟩ = some (.string ⟨#[97]⟩) := HN.out
 go_wp2_with fail
 clear x4 x5
 go_ret
 exact ⟨rfl, HB.out⟩
theorem feix_a {ge ce gg cg gi ci : Nat} (gn : Nat) (w : World) (h : Md w ge ce gg cg gi ci) (hn : w.cell? ⟨gn, 0, none⟩ = some (.string ⟨#[97]⟩)) :
  Calls Tryz.prog 140 #[.slice (some ⟨ge, 0, none⟩) 2 ce, .func (.func 154) #[] #[.pointer (some ⟨gn, 0, none⟩)]] w (qcc w (.int .i64 0)) := by
 have HN := qHd hn; clear hn
 have HM := qHd h; have LM := qHd h.lt; clear h
 have HB := qHd (Below.refl w.heap.size w)
 go_enter Tryz.func140, Tryz.ntmps140
 go_wp2_with (with_reducible first | refine qah ?_ | refine qae ?_)
 refine qad.mk ?_
 refine wp_loop_rounds 1 ?_
 rw [rounds_succ]
 obtain ⟨x1, x2, x3, x4, x5, x6, x7, x8, x9, x10, x11⟩ := HM.out.e0
 go_wp2_with (with_reducible refine qac ?_)
 clear x1 x2 x3 x4 x5 x6 x7 x8 x9 x10 x11
 refine qad.mk ?_
 have HK := qHd (fecl_a_a gn w HN.out)
 (with_reducible refine HK.out.mono ?_); rintro e w12 ⟨rfl, hb⟩; clear HK
 replace HN := qHd (qap HN.out hb)
 replace HM := qHd (HM.out.below hb)
 replace HB := qHd (HB.out.trans (hb.mono HB.out.size))
 clear hb
 go_wp2_with fail
 go_ret
 exact ⟨rfl, HB.out⟩
theorem fecl_a_b (gn : Nat) (w : World) (hn : w.cell? ⟨gn, 0, none⟩ = some (.string ⟨#[98]⟩)) :
  Calls Tryz.prog 154 #[.agg #[.string ⟨#[97]⟩, .bool false, .slice none 0 0, .slice none 0 0, .bool false, .slice none 0 0, .slice none 0 0, .bool false, .slice none 0 0, .slice none 0 0, .int .i64 0], .pointer (some ⟨gn, 0, none⟩)] w (qcc w (.bool false)) := by
 have HN := qHd hn; clear hn
 have HB := qHd (Below.refl w.heap.size w)
 go_enter Tryz.func154, Tryz.ntmps154
 go_wp2_with (with_reducible refine qag 5 ?_)
 obtain ⟨w2, hw_3, hb_3, g1, hg_3, Gg1, LO_g1⟩ := qcd HB.out.size (.cells #[.string ⟨#[97]⟩, .bool false, .slice none 0 0, .slice none 0 0, .bool false, .slice none 0 0, .slice none 0 0, .bool false, .slice none 0 0, .slice none 0 0, .int .i64 0] 101)
 rw [← hw_3, ← hg_3]
 replace HN := qHd (qap HN.out hb_3)
 replace HB := qHd (HB.out.trans (hb_3.mono HB.out.size))
 clear hw_3 hg_3 hb_3
 refine qad.mk ?_
 have x4 : w2.cell? ⟨g1, 0, none⟩ = some (.string ⟨#[97]⟩) := cell_of_row _ _ _ _ _ _ (Gg1.out)
 have x5 : w2.cell? ⟨gn, 0, none⟩ = some (.string ⟨#[98]⟩) := HN.out
 go_wp2_with fail
 clear x4 x5
 go_ret
 exact ⟨rfl, HB.out⟩
theorem fecl_b_b (gn : Nat) (w : World) (hn : w.cell? ⟨gn, 0, none⟩ = some (.string ⟨#[98]⟩)) :
  Calls Tryz.prog 154 #[.agg #[.string ⟨#[98]⟩, .bool false, .slice none 0 0, .slice none 0 0, .bool false, .slice none 0 0, .slice none 0 0, .bool false, .slice none 0 0, .slice none 0 0, .int .i64 0], .pointer (some ⟨gn, 0, none⟩)] w (qcc w (.bool true)) := by
 have HN := qHd hn; clear hn
 have HB := qHd (Below.refl w.heap.size w)
 go_enter Tryz.func154, Tryz.ntmps154
 go_wp2_with (with_reducible refine qag 5 ?_)
 obtain ⟨w2, hw_3, hb_3, g1, hg_3, Gg1, LO_g1⟩ := qcd HB.out.size (.cells #[.string ⟨#[98]⟩, .bool false, .slice none 0 0, .slice none 0 0, .bool false, .slice none 0 0, .slice none 0 0, .bool false, .slice none 0 0, .slice none 0 0, .int .i64 0] 101)
 rw [← hw_3, ← hg_3]
 replace HN := qHd (qap HN.out hb_3)
 replace HB := qHd (HB.out.trans (hb_3.mono HB.out.size))
 clear hw_3 hg_3 hb_3
 refine qad.mk ?_
 have x4 : w2.cell? ⟨g1, 0, none⟩ = some (.string ⟨#[98]⟩) := cell_of_row _ _ _ _ _ _ (Gg1.out)
 have x5 : w2.cell? ⟨gn, 0, none⟩ = some (.string ⟨#[98]⟩) := HN.out
 go_wp2_with fail
 clear x4 x5
 go_ret
 exact ⟨rfl, HB.out⟩
theorem feix_b {ge ce gg cg gi ci : Nat} (gn : Nat) (w : World) (h : Md w ge ce gg cg gi ci) (hn : w.cell? ⟨gn, 0, none⟩ = some (.string ⟨#[98]⟩)) :
  Calls Tryz.prog 140 #[.slice (some ⟨ge, 0, none⟩) 2 ce, .func (.func 154) #[] #[.pointer (some ⟨gn, 0, none⟩)]] w (qcc w (.int .i64 1)) := by
 have HN := qHd hn; clear hn
 have HM := qHd h; have LM := qHd h.lt; clear h
 have HB := qHd (Below.refl w.heap.size w)
 go_enter Tryz.func140, Tryz.ntmps140
 go_wp2_with (with_reducible first | refine qah ?_ | refine qae ?_)
 refine qad.mk ?_
 refine wp_loop_rounds 2 ?_
 rw [rounds_succ]
 obtain ⟨x1, x2, x3, x4, x5, x6, x7, x8, x9, x10, x11⟩ := HM.out.e0
 go_wp2_with (with_reducible refine qac ?_)
 clear x1 x2 x3 x4 x5 x6 x7 x8 x9 x10 x11
 refine qad.mk ?_
 have HK := qHd (fecl_a_b gn w HN.out)
 (with_reducible refine HK.out.mono ?_); rintro e w12 ⟨rfl, hb⟩; clear HK
 replace HN := qHd (qap HN.out hb)
 replace HM := qHd (HM.out.below hb)
 replace HB := qHd (HB.out.trans (hb.mono HB.out.size))
 clear hb
 go_wp2_with (with_reducible first | refine qah ?_ | refine qae ?_)
 refine qad.mk ?_
 rw [rounds_succ]
 obtain ⟨x13, x14, x15, x16, x17, x18, x19, x20, x21, x22, x23⟩ := HM.out.e1
 go_wp2_with (with_reducible refine qac ?_)
 clear x13 x14 x15 x16 x17 x18 x19 x20 x21 x22 x23
 refine qad.mk ?_
 have HK := qHd (fecl_b_b gn w12 HN.out)
 (with_reducible refine HK.out.mono ?_); rintro e w24 ⟨rfl, hb⟩; clear HK
 replace HN := qHd (qap HN.out hb)
 replace HM := qHd (HM.out.below hb)
 replace HB := qHd (HB.out.trans (hb.mono HB.out.size))
 clear hb
 go_wp2_with fail
 go_ret
 exact ⟨rfl, HB.out⟩
theorem fecl_a_g (gn : Nat) (w : World) (hn : w.cell? ⟨gn, 0, none⟩ = some (.string ⟨#[103]⟩)) :
  Calls Tryz.prog 154 #[.agg #[.string ⟨#[97]⟩, .bool false, .slice none 0 0, .slice none 0 0, .bool false, .slice none 0 0, .slice none 0 0, .bool false, .slice none 0 0, .slice none 0 0, .int .i64 0], .pointer (some ⟨gn, 0, none⟩)] w (qcc w (.bool false)) := by
 have HN := qHd hn; clear hn
 have HB := qHd (Below.refl w.heap.size w)
 go_enter Tryz.func154, Tryz.ntmps154
 go_wp2_with (with_reducible refine qag 5 ?_)
 obtain ⟨w2, hw_3, hb_3, g1, hg_3, Gg1, LO_g1⟩ := qcd HB.out.size (.cells #[.string ⟨#[97]⟩, .bool false, .slice none 0 0, .slice none 0 0, .bool false, .slice none 0 0, .slice none 0 0, .bool false, .slice none 0 0, .slice none 0 0, .int .i64 0] 101)
 rw [← hw_3, ← hg_3]
 replace HN := qHd (qap HN.out hb_3)
 replace HB := qHd (HB.out.trans (hb_3.mono HB.out.size))
 clear hw_3 hg_3 hb_3
 refine qad.mk ?_
 have x4 : w2.cell? ⟨g1, 0, none⟩ = some (.string ⟨#[97]⟩) := cell_of_row _ _ _ _ _ _ (Gg1.out)
 have x5 : w2.cell? ⟨gn, 0, none⟩ = some (.string ⟨#[103]⟩) := HN.out
 go_wp2_with fail
 clear x4 x5
 go_ret
 exact ⟨rfl, HB.out⟩
theorem fecl_b_g (gn : Nat) (w : World) (hn : w.cell? ⟨gn, 0, none⟩ = some (.string ⟨#[103]⟩)) :
  Calls Tryz.prog 154 #[.agg #[.string ⟨#[98]⟩, .bool false, .slice none 0 0, .slice none 0 0, .bool false, .slice none 0 0, .slice none 0 0, .bool false, .slice none 0 0, .slice none 0 0, .int .i64 0], .pointer (some ⟨gn, 0, none⟩)] w (qcc w (.bool false)) := by
 have HN := qHd hn; clear hn
 have HB := qHd (Below.refl w.heap.size w)
 go_enter Tryz.func154, Tryz.ntmps154
 go_wp2_with (with_reducible refine qag 5 ?_)
 obtain ⟨w2, hw_3, hb_3, g1, hg_3, Gg1, LO_g1⟩ := qcd HB.out.size (.cells #[.string ⟨#[98]⟩, .bool false, .slice none 0 0, .slice none 0 0, .bool false, .slice none 0 0, .slice none 0 0, .bool false, .slice none 0 0, .slice none 0 0, .int .i64 0] 101)
 rw [← hw_3, ← hg_3]
 replace HN := qHd (qap HN.out hb_3)
 replace HB := qHd (HB.out.trans (hb_3.mono HB.out.size))
 clear hw_3 hg_3 hb_3
 refine qad.mk ?_
 have x4 : w2.cell? ⟨g1, 0, none⟩ = some (.string ⟨#[98]⟩) := cell_of_row _ _ _ _ _ _ (Gg1.out)
 have x5 : w2.cell? ⟨gn, 0, none⟩ = some (.string ⟨#[103]⟩) := HN.out
 go_wp2_with fail
 clear x4 x5
 go_ret
 exact ⟨rfl, HB.out⟩
theorem feix_g {ge ce gg cg gi ci : Nat} (gn : Nat) (w : World) (h : Md w ge ce gg cg gi ci) (hn : w.cell? ⟨gn, 0, none⟩ = some (.string ⟨#[103]⟩)) :
  Calls Tryz.prog 140 #[.slice (some ⟨ge, 0, none⟩) 2 ce, .func (.func 154) #[] #[.pointer (some ⟨gn, 0, none⟩)]] w (qcc w (.int .i64 (-1))) := by
 have HN := qHd hn; clear hn
 have HM := qHd h; have LM := qHd h.lt; clear h
 have HB := qHd (Below.refl w.heap.size w)
 go_enter Tryz.func140, Tryz.ntmps140
 go_wp2_with (with_reducible first | refine qah ?_ | refine qae ?_)
 refine qad.mk ?_
 refine wp_loop_rounds 3 ?_
 rw [rounds_succ]
 obtain ⟨x1, x2, x3, x4, x5, x6, x7, x8, x9, x10, x11⟩ := HM.out.e0
 go_wp2_with (with_reducible refine qac ?_)
 clear x1 x2 x3 x4 x5 x6 x7 x8 x9 x10 x11
 refine qad.mk ?_
 have HK := qHd (fecl_a_g gn w HN.out)
 (with_reducible refine HK.out.mono ?_); rintro e w12 ⟨rfl, hb⟩; clear HK
 replace HN := qHd (qap HN.out hb)
 replace HM := qHd (HM.out.below hb)
 replace HB := qHd (HB.out.trans (hb.mono HB.out.size))
 clear hb
 go_wp2_with (with_reducible first | refine qah ?_ | refine qae ?_)
 refine qad.mk ?_
 rw [rounds_succ]
 obtain ⟨x13, x14, x15, x16, x17, x18, x19, x20, x21, x22, x23⟩ := HM.out.e1
 go_wp2_with (with_reducible refine qac ?_)
 clear x13 x14 x15 x16 x17 x18 x19 x20 x21 x22 x23
 refine qad.mk ?_
 have HK := qHd (fecl_b_g gn w12 HN.out)
 (with_reducible refine HK.out.mono ?_); rintro e w24 ⟨rfl, hb⟩; clear HK
 replace HN := qHd (qap HN.out hb)
 replace HM := qHd (HM.out.below hb)
 replace HB := qHd (HB.out.trans (hb.mono HB.out.size))
 clear hb
 go_wp2_with (with_reducible first | refine qah ?_ | refine qae ?_)
 refine qad.mk ?_
 rw [rounds_succ]
 go_wp2_with fail
 go_ret
 exact ⟨rfl, HB.out⟩
theorem gtcl_g_g (gi ci : Nat) (gn : Nat) (w : World) (hn : w.cell? ⟨gn, 0, none⟩ = some (.string ⟨#[103]⟩)) :
  Calls Tryz.prog 148 #[.agg #[.string ⟨#[103]⟩, .int .i64 0, .int .i64 0, .slice (some ⟨gi, 0, none⟩) 2 ci, .bool false, .slice none 0 0, .slice none 0 0], .pointer (some ⟨gn, 0, none⟩)] w (qcc w (.bool true)) := by
 have HN := qHd hn; clear hn
 have HB := qHd (Below.refl w.heap.size w)
 go_enter Tryz.func148, Tryz.ntmps148
 go_wp2_with (with_reducible refine qag 5 ?_)
 obtain ⟨w2, hw_3, hb_3, g1, hg_3, Gg1, LO_g1⟩ := qcd HB.out.size (.cells #[.string ⟨#[103]⟩, .int .i64 0, .int .i64 0, .slice (some ⟨gi, 0, none⟩) 2 ci, .bool false, .slice none 0 0, .slice none 0 0] 107)
 rw [← hw_3, ← hg_3]
 replace HN := qHd (qap HN.out hb_3)
 replace HB := qHd (HB.out.trans (hb_3.mono HB.out.size))
 clear hw_3 hg_3 hb_3
 refine qad.mk ?_
 have x4 : w2.cell? ⟨g1, 0, none⟩ = some (.string ⟨#[103]⟩) := cell_of_row _ _ _ _ _ _ (Gg1.out)
 have x5 : w2.cell? ⟨gn, 0, none⟩ = some (.string ⟨#[103]⟩) := HN.out
 go_wp2_with fail
 clear x4 x5
 go_ret
 exact ⟨rfl, HB.out⟩
theorem gtix_g {ge ce gg cg gi ci : Nat} (gn : Nat) (w : World) (h : Md w ge ce gg cg gi ci) (hn : w.cell? ⟨gn, 0, none⟩ = some (.string ⟨#[103]⟩)) :
  Calls Tryz.prog 147 #[.slice (some ⟨gg, 0, none⟩) 1 cg, .func (.func 148) #[] #[.pointer (some ⟨gn, 0, none⟩)]] w (qcc w (.int .i64 0)) := by
 have HN := qHd hn; clear hn
 have HM := qHd h; have LM := qHd h.lt; clear h
 have HB := qHd (Below.refl w.heap.size w)
 go_enter Tryz.func147, Tryz.ntmps147
 go_wp2_with (with_reducible first | refine qah ?_ | refine qae ?_)
 refine qad.mk ?_
 refine wp_loop_rounds 1 ?_
 rw [rounds_succ]
 obtain ⟨x1, x2, x3, x4, x5, x6, x7⟩ := HM.out.g0
 go_wp2_with (with_reducible refine qac ?_)
 clear x1 x2 x3 x4 x5 x6 x7
 refine qad.mk ?_
 have HK := qHd (gtcl_g_g gi ci gn w HN.out)
 (with_reducible refine HK.out.mono ?_); rintro e w8 ⟨rfl, hb⟩; clear HK
 replace HN := qHd (qap HN.out hb)
 replace HM := qHd (HM.out.below hb)
 replace HB := qHd (HB.out.trans (hb.mono HB.out.size))
 clear hb
 go_wp2_with fail
 go_ret
 exact ⟨rfl, HB.out⟩
theorem fgcl_g_g (gi ci : Nat) (gn : Nat) (w : World) (hn : w.cell? ⟨gn, 0, none⟩ = some (.string ⟨#[103]⟩)) :
  Calls Tryz.prog 156 #[.agg #[.string ⟨#[103]⟩, .int .i64 0, .int .i64 0, .slice (some ⟨gi, 0, none⟩) 2 ci, .bool false, .slice none 0 0, .slice none 0 0], .pointer (some ⟨gn, 0, none⟩)] w (qcc w (.bool true)) := by
 have HN := qHd hn; clear hn
 have HB := qHd (Below.refl w.heap.size w)
 go_enter Tryz.func156, Tryz.ntmps156
 go_wp2_with (with_reducible refine qag 5 ?_)
 obtain ⟨w2, hw_3, hb_3, g1, hg_3, Gg1, LO_g1⟩ := qcd HB.out.size (.cells #[.string ⟨#[103]⟩, .int .i64 0, .int .i64 0, .slice (some ⟨gi, 0, none⟩) 2 ci, .bool false, .slice none 0 0, .slice none 0 0] 107)
 rw [← hw_3, ← hg_3]
 replace HN := qHd (qap HN.out hb_3)
 replace HB := qHd (HB.out.trans (hb_3.mono HB.out.size))
 clear hw_3 hg_3 hb_3
 refine qad.mk ?_
 have x4 : w2.cell? ⟨g1, 0, none⟩ = some (.string ⟨#[103]⟩) := cell_of_row _ _ _ _ _ _ (Gg1.out)
 have x5 : w2.cell? ⟨gn, 0, none⟩ = some (.string ⟨#[103]⟩) := HN.out
 go_wp2_with fail
 clear x4 x5
 go_ret
 exact ⟨rfl, HB.out⟩
theorem fgix_g {ge ce gg cg gi ci : Nat} (gn : Nat) (w : World) (h : Md w ge ce gg cg gi ci) (hn : w.cell? ⟨gn, 0, none⟩ = some (.string ⟨#[103]⟩)) :
  Calls Tryz.prog 147 #[.slice (some ⟨gg, 0, none⟩) 1 cg, .func (.func 156) #[] #[.pointer (some ⟨gn, 0, none⟩)]] w (qcc w (.int .i64 0)) := by
 have HN := qHd hn; clear hn
 have HM := qHd h; have LM := qHd h.lt; clear h
 have HB := qHd (Below.refl w.heap.size w)
 go_enter Tryz.func147, Tryz.ntmps147
 go_wp2_with (with_reducible first | refine qah ?_ | refine qae ?_)
 refine qad.mk ?_
 refine wp_loop_rounds 1 ?_
 rw [rounds_succ]
 obtain ⟨x1, x2, x3, x4, x5, x6, x7⟩ := HM.out.g0
 go_wp2_with (with_reducible refine qac ?_)
 clear x1 x2 x3 x4 x5 x6 x7
 refine qad.mk ?_
 have HK := qHd (fgcl_g_g gi ci gn w HN.out)
 (with_reducible refine HK.out.mono ?_); rintro e w8 ⟨rfl, hb⟩; clear HK
 replace HN := qHd (qap HN.out hb)
 replace HM := qHd (HM.out.below hb)
 replace HB := qHd (HB.out.trans (hb.mono HB.out.size))
 clear hb
 go_wp2_with fail
 go_ret
 exact ⟨rfl, HB.out⟩
theorem hoix_g (gn : Nat) (w : World) (hn : w.cell? ⟨gn, 0, none⟩ = some (.string ⟨#[103]⟩)) :
  Calls Tryz.prog 143 #[.slice none 0 0, .func (.func 144) #[] #[.pointer (some ⟨gn, 0, none⟩)]] w (qcc w (.int .i64 (-1))) := by
 have HN := qHd hn; clear hn
 have HB := qHd (Below.refl w.heap.size w)
 go_enter Tryz.func143, Tryz.ntmps143
 go_wp2_with (with_reducible first | refine qah ?_ | refine qae ?_)
 refine qad.mk ?_
 refine wp_loop_rounds 1 ?_
 rw [rounds_succ]
 go_wp2_with fail
 go_ret
 exact ⟨rfl, HB.out⟩
theorem fhix_g (gn : Nat) (w : World) (hn : w.cell? ⟨gn, 0, none⟩ = some (.string ⟨#[103]⟩)) :
  Calls Tryz.prog 143 #[.slice none 0 0, .func (.func 155) #[] #[.pointer (some ⟨gn, 0, none⟩)]] w (qcc w (.int .i64 (-1))) := by
 have HN := qHd hn; clear hn
 have HB := qHd (Below.refl w.heap.size w)
 go_enter Tryz.func143, Tryz.ntmps143
 go_wp2_with (with_reducible first | refine qah ?_ | refine qae ?_)
 refine qad.mk ?_
 refine wp_loop_rounds 1 ?_
 rw [rounds_succ]
 go_wp2_with fail
 go_ret
 exact ⟨rfl, HB.out⟩
theorem event_a {ge ce gg cg gi ci : Nat} (w : World) (h : Md w ge ce gg cg gi ci) :
  Calls Tryz.prog 102 #[.agg #[.string ⟨#[109]⟩, .string ⟨#[103]⟩, .slice (some ⟨ge, 0, none⟩) 2 ce, .slice none 0 0, .slice (some ⟨gg, 0, none⟩) 1 cg, .slice none 0 0, .slice none 0 0, .slice none 0 0], .string ⟨#[97]⟩] w (qcc w (.int .i64 0)) := by
 have HM := qHd h; have LM := qHd h.lt; clear h
 have HB := qHd (Below.refl w.heap.size w)
 go_enter Tryz.func102, Tryz.ntmps102
 go_wp2_with (with_reducible refine qag 3 ?_)
 obtain ⟨w2, hw_3, hb_3, g1, hg_3, Gg1, LO_g1⟩ := qcd HB.out.size (.cells #[.string ⟨#[109]⟩, .string ⟨#[103]⟩, .slice (some ⟨ge, 0, none⟩) 2 ce, .slice none 0 0, .slice (some ⟨gg, 0, none⟩) 1 cg, .slice none 0 0, .slice none 0 0, .slice none 0 0] 44)
 rw [← hw_3, ← hg_3]
 replace HM := qHd (HM.out.below hb_3)
 replace HB := qHd (HB.out.trans (hb_3.mono HB.out.size))
 clear hw_3 hg_3 hb_3
 refine qad.mk ?_
 go_wp2_with (with_reducible refine qag 6 ?_)
 obtain ⟨w5, hw_6, hb_6, g4, hg_6, Gg4, LO_g4⟩ := qcd HB.out.size (.cells #[.string ⟨#[97]⟩] 9)
 rw [← hw_6, ← hg_6]
 replace HM := qHd (HM.out.below hb_6)
 replace Gg1 := qHd (qaa Gg1.out hb_6)
 replace HB := qHd (HB.out.trans (hb_6.mono HB.out.size))
 clear hw_6 hg_6 hb_6
 refine qad.mk ?_
 have x7 : w5.cell? ⟨g1, 2, none⟩ = some (.slice (some ⟨ge, 0, none⟩) 2 ce) := cell_of_row _ _ _ _ _ _ (Gg1.out)
 go_wp2_with (with_reducible refine qac ?_)
 clear x7
 refine qad.mk ?_
 have HK := qHd (evix_a g4 w5 HM.out (cell_of_row _ _ _ _ _ _ Gg4.out))
 (with_reducible refine HK.out.mono ?_); rintro e w8 ⟨rfl, hb⟩; clear HK
 replace HM := qHd (HM.out.below hb)
 replace Gg1 := qHd (qaa Gg1.out hb)
 replace Gg4 := qHd (qaa Gg4.out hb)
 replace HB := qHd (HB.out.trans (hb.mono HB.out.size))
 clear hb
 go_wp2_with fail
 go_ret
 exact ⟨rfl, HB.out⟩
theorem event_b {ge ce gg cg gi ci : Nat} (w : World) (h : Md w ge ce gg cg gi ci) :
  Calls Tryz.prog 102 #[.agg #[.string ⟨#[109]⟩, .string ⟨#[103]⟩, .slice (some ⟨ge, 0, none⟩) 2 ce, .slice none 0 0, .slice (some ⟨gg, 0, none⟩) 1 cg, .slice none 0 0, .slice none 0 0, .slice none 0 0], .string ⟨#[98]⟩] w (qcc w (.int .i64 1)) := by
 have HM := qHd h; have LM := qHd h.lt; clear h
 have HB := qHd (Below.refl w.heap.size w)
 go_enter Tryz.func102, Tryz.ntmps102
 go_wp2_with (with_reducible refine qag 3 ?_)
 obtain ⟨w2, hw_3, hb_3, g1, hg_3, Gg1, LO_g1⟩ := qcd HB.out.size (.cells #[.string ⟨#[109]⟩, .string ⟨#[103]⟩, .slice (some ⟨ge, 0, none⟩) 2 ce, .slice none 0 0, .slice (some ⟨gg, 0, none⟩) 1 cg, .slice none 0 0, .slice none 0 0, .slice none 0 0] 44)
 rw [← hw_3, ← hg_3]
 replace HM := qHd (HM.out.below hb_3)
 replace HB := qHd (HB.out.trans (hb_3.mono HB.out.size))
 clear hw_3 hg_3 hb_3
 refine qad.mk ?_
 go_wp2_with (with_reducible refine qag 6 ?_)
 obtain ⟨w5, hw_6, hb_6, g4, hg_6, Gg4, LO_g4⟩ := qcd HB.out.size (.cells #[.string ⟨#[98]⟩] 9)
 rw [← hw_6, ← hg_6]
 replace HM := qHd (HM.out.below hb_6)
 replace Gg1 := qHd (qaa Gg1.out hb_6)
 replace HB := qHd (HB.out.trans (hb_6.mono HB.out.size))
 clear hw_6 hg_6 hb_6
 refine qad.mk ?_
 have x7 : w5.cell? ⟨g1, 2, none⟩ = some (.slice (some ⟨ge, 0, none⟩) 2 ce) := cell_of_row _ _ _ _ _ _ (Gg1.out)
 go_wp2_with (with_reducible refine qac ?_)
 clear x7
 refine qad.mk ?_
 have HK := qHd (evix_b g4 w5 HM.out (cell_of_row _ _ _ _ _ _ Gg4.out))
 (with_reducible refine HK.out.mono ?_); rintro e w8 ⟨rfl, hb⟩; clear HK
 replace HM := qHd (HM.out.below hb)
 replace Gg1 := qHd (qaa Gg1.out hb)
 replace Gg4 := qHd (qaa Gg4.out hb)
 replace HB := qHd (HB.out.trans (hb.mono HB.out.size))
 clear hb
 go_wp2_with fail
 go_ret
 exact ⟨rfl, HB.out⟩
theorem event_g {ge ce gg cg gi ci : Nat} (w : World) (h : Md w ge ce gg cg gi ci) :
  Calls Tryz.prog 102 #[.agg #[.string ⟨#[109]⟩, .string ⟨#[103]⟩, .slice (some ⟨ge, 0, none⟩) 2 ce, .slice none 0 0, .slice (some ⟨gg, 0, none⟩) 1 cg, .slice none 0 0, .slice none 0 0, .slice none 0 0], .string ⟨#[103]⟩] w (qcc w (.int .i64 (-1))) := by
 have HM := qHd h; have LM := qHd h.lt; clear h
 have HB := qHd (Below.refl w.heap.size w)
 go_enter Tryz.func102, Tryz.ntmps102
 go_wp2_with (with_reducible refine qag 3 ?_)
 obtain ⟨w2, hw_3, hb_3, g1, hg_3, Gg1, LO_g1⟩ := qcd HB.out.size (.cells #[.string ⟨#[109]⟩, .string ⟨#[103]⟩, .slice (some ⟨ge, 0, none⟩) 2 ce, .slice none 0 0, .slice (some ⟨gg, 0, none⟩) 1 cg, .slice none 0 0, .slice none 0 0, .slice none 0 0] 44)
 rw [← hw_3, ← hg_3]
 replace HM := qHd (HM.out.below hb_3)
 replace HB := qHd (HB.out.trans (hb_3.mono HB.out.size))
 clear hw_3 hg_3 hb_3
 refine qad.mk ?_
 go_wp2_with (with_reducible refine qag 6 ?_)
 obtain ⟨w5, hw_6, hb_6, g4, hg_6, Gg4, LO_g4⟩ := qcd HB.out.size (.cells #[.string ⟨#[103]⟩] 9)
 rw [← hw_6, ← hg_6]
 replace HM := qHd (HM.out.below hb_6)
 replace Gg1 := qHd (qaa Gg1.out hb_6)
 replace HB := qHd (HB.out.trans (hb_6.mono HB.out.size))
 clear hw_6 hg_6 hb_6
 refine qad.mk ?_
 have x7 : w5.cell? ⟨g1, 2, none⟩ = some (.slice (some ⟨ge, 0, none⟩) 2 ce) := cell_of_row _ _ _ _ _ _ (Gg1.out)
 go_wp2_with (with_reducible refine qac ?_)
 clear x7
 refine qad.mk ?_
 have HK := qHd (evix_g g4 w5 HM.out (cell_of_row _ _ _ _ _ _ Gg4.out))
 (with_reducible refine HK.out.mono ?_); rintro e w8 ⟨rfl, hb⟩; clear HK
 replace HM := qHd (HM.out.below hb)
 replace Gg1 := qHd (qaa Gg1.out hb)
 replace Gg4 := qHd (qaa Gg4.out hb)
 replace HB := qHd (HB.out.trans (hb.mono HB.out.size))
 clear hb
 go_wp2_with fail
 go_ret
 exact ⟨rfl, HB.out⟩
theorem house_g {ge ce gg cg gi ci : Nat} (w : World) (h : Md w ge ce gg cg gi ci) :
  Calls Tryz.prog 105 #[.agg #[.string ⟨#[109]⟩, .string ⟨#[103]⟩, .slice (some ⟨ge, 0, none⟩) 2 ce, .slice none 0 0, .slice (some ⟨gg, 0, none⟩) 1 cg, .slice none 0 0, .slice none 0 0, .slice none 0 0], .string ⟨#[103]⟩] w (qcc w (.int .i64 (-1))) := by
 have HM := qHd h; have LM := qHd h.lt; clear h
 have HB := qHd (Below.refl w.heap.size w)
 go_enter Tryz.func105, Tryz.ntmps105
 go_wp2_with (with_reducible refine qag 3 ?_)
 obtain ⟨w2, hw_3, hb_3, g1, hg_3, Gg1, LO_g1⟩ := qcd HB.out.size (.cells #[.string ⟨#[109]⟩, .string ⟨#[103]⟩, .slice (some ⟨ge, 0, none⟩) 2 ce, .slice none 0 0, .slice (some ⟨gg, 0, none⟩) 1 cg, .slice none 0 0, .slice none 0 0, .slice none 0 0] 44)
 rw [← hw_3, ← hg_3]
 replace HM := qHd (HM.out.below hb_3)
 replace HB := qHd (HB.out.trans (hb_3.mono HB.out.size))
 clear hw_3 hg_3 hb_3
 refine qad.mk ?_
 go_wp2_with (with_reducible refine qag 6 ?_)
 obtain ⟨w5, hw_6, hb_6, g4, hg_6, Gg4, LO_g4⟩ := qcd HB.out.size (.cells #[.string ⟨#[103]⟩] 9)
 rw [← hw_6, ← hg_6]
 replace HM := qHd (HM.out.below hb_6)
 replace Gg1 := qHd (qaa Gg1.out hb_6)
 replace HB := qHd (HB.out.trans (hb_6.mono HB.out.size))
 clear hw_6 hg_6 hb_6
 refine qad.mk ?_
 have x7 : w5.cell? ⟨g1, 3, none⟩ = some (.slice none 0 0) := cell_of_row _ _ _ _ _ _ (Gg1.out)
 go_wp2_with (with_reducible refine qac ?_)
 clear x7
 refine qad.mk ?_
 have HK := qHd (hoix_g g4 w5 (cell_of_row _ _ _ _ _ _ Gg4.out))
 (with_reducible refine HK.out.mono ?_); rintro e w8 ⟨rfl, hb⟩; clear HK
 replace HM := qHd (HM.out.below hb)
 replace Gg1 := qHd (qaa Gg1.out hb)
 replace Gg4 := qHd (qaa Gg4.out hb)
 replace HB := qHd (HB.out.trans (hb.mono HB.out.size))
 clear hb
 go_wp2_with fail
 go_ret
 exact ⟨rfl, HB.out⟩
theorem gate_g {ge ce gg cg gi ci : Nat} (w : World) (h : Md w ge ce gg cg gi ci) :
  Calls Tryz.prog 108 #[.slice (some ⟨gg, 0, none⟩) 1 cg, .string ⟨#[103]⟩] w (qcc w (.int .i64 0)) := by
 have HM := qHd h; have LM := qHd h.lt; clear h
 have HB := qHd (Below.refl w.heap.size w)
 go_enter Tryz.func108, Tryz.ntmps108
 go_wp2_with (with_reducible refine qac ?_)
 obtain ⟨w2, hw_3, hb_3, g1, hg_3, Gg1, LO_g1⟩ := qcd HB.out.size (.cells #[.string ⟨#[103]⟩] 9)
 rw [← hw_3, ← hg_3]
 replace HM := qHd (HM.out.below hb_3)
 replace HB := qHd (HB.out.trans (hb_3.mono HB.out.size))
 clear hw_3 hg_3 hb_3
 refine qad.mk ?_
 have HK := qHd (gtix_g g1 w2 HM.out (cell_of_row _ _ _ _ _ _ Gg1.out))
 (with_reducible refine HK.out.mono ?_); rintro e w4 ⟨rfl, hb⟩; clear HK
 replace HM := qHd (HM.out.below hb)
 replace Gg1 := qHd (qaa Gg1.out hb)
 replace HB := qHd (HB.out.trans (hb.mono HB.out.size))
 clear hb
 go_wp2_with fail
 go_ret
 exact ⟨rfl, HB.out⟩
theorem gatesOf_m {ge ce gg cg gi ci : Nat} (w : World) (h : Md w ge ce gg cg gi ci) :
  Calls Tryz.prog 107 #[.agg #[.string ⟨#[109]⟩, .string ⟨#[103]⟩, .slice (some ⟨ge, 0, none⟩) 2 ce, .slice none 0 0, .slice (some ⟨gg, 0, none⟩) 1 cg, .slice none 0 0, .slice none 0 0, .slice none 0 0], .int .i64 (-1)] w (qcc w (.slice (some ⟨gg, 0, none⟩) 1 cg)) := by
 have HM := qHd h; have LM := qHd h.lt; clear h
 have HB := qHd (Below.refl w.heap.size w)
 go_enter Tryz.func107, Tryz.ntmps107
 go_wp2_with (with_reducible refine qag 8 ?_)
 obtain ⟨w2, hw_3, hb_3, g1, hg_3, Gg1, LO_g1⟩ := qcd HB.out.size (.cells #[.string ⟨#[109]⟩, .string ⟨#[103]⟩, .slice (some ⟨ge, 0, none⟩) 2 ce, .slice none 0 0, .slice (some ⟨gg, 0, none⟩) 1 cg, .slice none 0 0, .slice none 0 0, .slice none 0 0] 44)
 rw [← hw_3, ← hg_3]
 replace HM := qHd (HM.out.below hb_3)
 replace HB := qHd (HB.out.trans (hb_3.mono HB.out.size))
 clear hw_3 hg_3 hb_3
 refine qad.mk ?_
 have x4 : w2.cell? ⟨g1, 4, none⟩ = some (.slice (some ⟨gg, 0, none⟩) 1 cg) := cell_of_row _ _ _ _ _ _ (Gg1.out)
 go_wp2_with fail
 clear x4
 go_ret
 exact ⟨rfl, HB.out⟩
def RetOne (w : World) (e : Ending) (w' : World) : Prop := ∃ g : Nat, e = .returned (.slice (some ⟨g, 0, none⟩) 1 1) ∧ Below w.heap.size w w'
theorem rone_r  (w : World)  :
  Calls Tryz.prog 130 #[] w (RetOne w) := by
 have HB := qHd (Below.refl w.heap.size w)
 go_enter Tryz.func130, Tryz.ntmps130
 go_wp2_with fail
 obtain ⟨w2, hw_3, hb_3, g1, hg_3, Gg1, LO_g1⟩ := qcd HB.out.size (.cells #[.int .u32 1] 230)
 rw [← hw_3, ← hg_3]
 replace HB := qHd (HB.out.trans (hb_3.mono HB.out.size))
 clear hw_3 hg_3 hb_3
 go_ret
 exact ⟨_, rfl, HB.out⟩
theorem ntrim_nil  (w : World)  :
  Calls Tryz.prog 164 #[.slice none 0 0] w (qcc w (.slice none 0 0)) := by
 have HB := qHd (Below.refl w.heap.size w)
 go_enter Tryz.func164, Tryz.ntmps164
 go_wp2_with (with_reducible first | refine qah ?_ | refine qae ?_)
 refine qad.mk ?_
 refine wp_loop_rounds 1 ?_
 rw [rounds_succ]
 go_wp2_with fail
 go_ret
 exact ⟨rfl, HB.out⟩
theorem ncmp_nil  (w : World)  :
  Calls Tryz.prog 135 #[.slice none 0 0, .slice none 0 0] w (qcc w (.int .i64 0)) := by
 have HB := qHd (Below.refl w.heap.size w)
 go_enter Tryz.func135, Tryz.ntmps135
 go_wp2_with (with_reducible refine qac ?_)
 refine qad.mk ?_
 have HK := qHd (ntrim_nil w)
 (with_reducible refine HK.out.mono ?_); rintro e w1 ⟨rfl, hb⟩; clear HK
 replace HB := qHd (HB.out.trans (hb.mono HB.out.size))
 clear hb
 go_wp2_with (with_reducible refine qac ?_)
 refine qad.mk ?_
 have HK := qHd (ntrim_nil w1)
 (with_reducible refine HK.out.mono ?_); rintro e w2 ⟨rfl, hb⟩; clear HK
 replace HB := qHd (HB.out.trans (hb.mono HB.out.size))
 clear hb
 go_wp2_with (with_reducible first | refine qah ?_ | refine qae ?_)
 refine qad.mk ?_
 refine wp_loop_rounds 1 ?_
 rw [rounds_succ]
 go_wp2_with fail
 go_ret
 exact ⟨rfl, HB.out⟩
theorem valid_zero  (w : World)  :
  Calls Tryz.prog 142 #[.agg #[.bool false, .slice none 0 0, .slice none 0 0]] w (qcc w (.bool true)) := by
 have HB := qHd (Below.refl w.heap.size w)
 go_enter Tryz.func142, Tryz.ntmps142
 go_wp2_with (with_reducible refine qag 4 ?_)
 obtain ⟨w2, hw_3, hb_3, g1, hg_3, Gg1, LO_g1⟩ := qcd HB.out.size (.cells #[.bool false, .slice none 0 0, .slice none 0 0] 99)
 rw [← hw_3, ← hg_3]
 replace HB := qHd (HB.out.trans (hb_3.mono HB.out.size))
 clear hw_3 hg_3 hb_3
 refine qad.mk ?_
 obtain ⟨x4, x5, x6⟩ := row3m Gg1.out
 go_wp2_with fail
 clear x4 x5 x6
 go_ret
 exact ⟨rfl, HB.out⟩
theorem prob_zero  (w : World)  :
  Calls Tryz.prog 103 #[.agg #[.bool false, .slice none 0 0, .slice none 0 0]] w (qcc w (.bool true)) := by
 have HB := qHd (Below.refl w.heap.size w)
 go_enter Tryz.func103, Tryz.ntmps103
 go_wp2_with (with_reducible refine qag 3 ?_)
 obtain ⟨w2, hw_3, hb_3, g1, hg_3, Gg1, LO_g1⟩ := qcd HB.out.size (.cells #[.bool false, .slice none 0 0, .slice none 0 0] 99)
 rw [← hw_3, ← hg_3]
 replace HB := qHd (HB.out.trans (hb_3.mono HB.out.size))
 clear hw_3 hg_3 hb_3
 refine qad.mk ?_
 obtain ⟨x4, x5, x6⟩ := row3m Gg1.out
 go_wp2_with (with_reducible refine qac ?_)
 clear x4 x5 x6
 refine qad.mk ?_
 have HK := qHd (valid_zero w2)
 (with_reducible refine HK.out.mono ?_); rintro e w7 ⟨rfl, hb⟩; clear HK
 replace Gg1 := qHd (qaa Gg1.out hb)
 replace HB := qHd (HB.out.trans (hb.mono HB.out.size))
 clear hb
 obtain ⟨x8, x9, x10⟩ := row3m Gg1.out
 go_wp2_with (with_reducible refine qac ?_)
 clear x8 x9 x10
 refine qad.mk ?_
 have HK := qHd (ncmp_nil w7)
 (with_reducible refine HK.out.mono ?_); rintro e w11 ⟨rfl, hb⟩; clear HK
 replace Gg1 := qHd (qaa Gg1.out hb)
 replace HB := qHd (HB.out.trans (hb.mono HB.out.size))
 clear hb
 go_wp2_with fail
 go_ret
 exact ⟨rfl, HB.out⟩
def RetPz (w : World) (e : Ending) (w' : World) : Prop := ∃ g : Nat, e = .returned (.tuple #[.bool false, .slice none 0 0, .slice (some ⟨g, 0, none⟩) 1 1]) ∧ Below w.heap.size w w'
theorem rparts_0  (w : World)  :
  Calls Tryz.prog 131 #[.agg #[.bool false, .slice none 0 0, .slice none 0 0]] w (RetPz w) := by
 have HB := qHd (Below.refl w.heap.size w)
 go_enter Tryz.func131, Tryz.ntmps131
 go_wp2_with (with_reducible refine qag 5 ?_)
 obtain ⟨w2, hw_3, hb_3, g1, hg_3, Gg1, LO_g1⟩ := qcd HB.out.size (.cells #[.bool false, .slice none 0 0, .slice none 0 0] 99)
 rw [← hw_3, ← hg_3]
 replace HB := qHd (HB.out.trans (hb_3.mono HB.out.size))
 clear hw_3 hg_3 hb_3
 refine qad.mk ?_
 obtain ⟨x4, x5, x6⟩ := row3m Gg1.out
 go_wp2_with (with_reducible refine qac ?_)
 clear x4 x5 x6
 refine qad.mk ?_
 have HK := qHd (valid_zero w2)
 (with_reducible refine HK.out.mono ?_); rintro e w7 ⟨rfl, hb⟩; clear HK
 replace Gg1 := qHd (qaa Gg1.out hb)
 replace HB := qHd (HB.out.trans (hb.mono HB.out.size))
 clear hb
 have x8 : w7.cell? ⟨g1, 1, none⟩ = some (.slice none 0 0) := cell_of_row _ _ _ _ _ _ (Gg1.out)
 go_wp2_with (with_reducible refine qac ?_)
 clear x8
 refine qad.mk ?_
 have HK := qHd (rone_r w7)
 (with_reducible refine HK.out.mono ?_); rintro e w9 ⟨gO, rfl, hb⟩; clear HK
 replace Gg1 := qHd (qaa Gg1.out hb)
 replace HB := qHd (HB.out.trans (hb.mono HB.out.size))
 clear hb
 go_wp2_with fail
 go_ret3
 exact ⟨_, rfl, HB.out⟩
theorem qdz  (w : World)  :
  Calls Tryz.prog 86 #[.agg #[.bool false, .slice none 0 0, .slice none 0 0]] w (qcc w (.int .i64 0)) := by
 have HB := qHd (Below.refl w.heap.size w)
 go_enter Tryz.func86, Tryz.ntmps86
 go_wp2_with (with_reducible refine qag 7 ?_)
 obtain ⟨w2, hw_3, hb_3, g1, hg_3, Gg1, LO_g1⟩ := qcd HB.out.size (.cells #[.bool false, .slice none 0 0, .slice none 0 0] 99)
 rw [← hw_3, ← hg_3]
 replace HB := qHd (HB.out.trans (hb_3.mono HB.out.size))
 clear hw_3 hg_3 hb_3
 refine qad.mk ?_
 obtain ⟨x4, x5, x6⟩ := row3m Gg1.out
 go_wp2_with (with_reducible refine qac ?_)
 clear x4 x5 x6
 refine qad.mk ?_
 have HK := qHd (rparts_0 w2)
 (with_reducible refine HK.out.mono ?_); rintro e w7 ⟨gO, rfl, hb⟩; clear HK
 replace Gg1 := qHd (qaa Gg1.out hb)
 replace HB := qHd (HB.out.trans (hb.mono HB.out.size))
 clear hb
 go_wp2_with fail
 go_ret
 exact ⟨rfl, HB.out⟩
theorem letter_97  (w : World)  :
  Calls Tryz.prog 94 #[.int .u8 97] w (qcc w (.bool true)) := by
 have HB := qHd (Below.refl w.heap.size w)
 go_enter Tryz.func94, Tryz.ntmps94
 go_wp2_with fail
 go_ret
 exact ⟨rfl, HB.out⟩
theorem letter_109  (w : World)  :
  Calls Tryz.prog 94 #[.int .u8 109] w (qcc w (.bool true)) := by
 have HB := qHd (Below.refl w.heap.size w)
 go_enter Tryz.func94, Tryz.ntmps94
 go_wp2_with fail
 go_ret
 exact ⟨rfl, HB.out⟩
theorem letter_98  (w : World)  :
  Calls Tryz.prog 94 #[.int .u8 98] w (qcc w (.bool true)) := by
 have HB := qHd (Below.refl w.heap.size w)
 go_enter Tryz.func94, Tryz.ntmps94
 go_wp2_with fail
 go_ret
 exact ⟨rfl, HB.out⟩
theorem letter_103  (w : World)  :
  Calls Tryz.prog 94 #[.int .u8 103] w (qcc w (.bool true)) := by
 have HB := qHd (Below.refl w.heap.size w)
 go_enter Tryz.func94, Tryz.ntmps94
 go_wp2_with fail
 go_ret
 exact ⟨rfl, HB.out⟩
theorem wordEnd_a  (w : World)  :
  Calls Tryz.prog 95 #[.string ⟨#[97]⟩, .int .i64 0] w (qcc w (.int .i64 1)) := by
 have HB := qHd (Below.refl w.heap.size w)
 go_enter Tryz.func95, Tryz.ntmps95
 go_wp2_with (with_reducible first | refine qah ?_ | refine qae ?_)
 refine qad.mk ?_
 refine wp_loop_rounds 2 ?_
 rw [rounds_succ]
 have hix1 : ((⟨#[97]⟩ : ByteArray)[0]'(by decide)).toNat = 97 := rfl
 go_wp2_with (with_reducible refine qac ?_)
 refine qad.mk ?_
 have HK := qHd (letter_97 w)
 (with_reducible refine HK.out.mono ?_); rintro e w1 ⟨rfl, hb⟩; clear HK
 replace HB := qHd (HB.out.trans (hb.mono HB.out.size))
 clear hb
 go_wp2_with (with_reducible first | refine qah ?_ | refine qae ?_)
 refine qad.mk ?_
 rw [rounds_succ]
 go_wp2_with fail
 go_ret
 exact ⟨rfl, HB.out⟩
theorem name_a  (w : World)  :
  Calls Tryz.prog 71 #[.string ⟨#[97]⟩] w (qcc w (.bool true)) := by
 have HB := qHd (Below.refl w.heap.size w)
 go_enter Tryz.func71, Tryz.ntmps71
 have hix1 : ((⟨#[97]⟩ : ByteArray)[0]'(by decide)).toNat = 97 := rfl
 go_wp2_with (with_reducible refine qac ?_)
 refine qad.mk ?_
 have HK := qHd (letter_97 w)
 (with_reducible refine HK.out.mono ?_); rintro e w1 ⟨rfl, hb⟩; clear HK
 replace HB := qHd (HB.out.trans (hb.mono HB.out.size))
 clear hb
 go_wp2_with (with_reducible refine qac ?_)
 refine qad.mk ?_
 have HK := qHd (wordEnd_a w1)
 (with_reducible refine HK.out.mono ?_); rintro e w2 ⟨rfl, hb⟩; clear HK
 replace HB := qHd (HB.out.trans (hb.mono HB.out.size))
 clear hb
 go_wp2_with fail
 go_ret
 exact ⟨rfl, HB.out⟩
theorem wordEnd_b  (w : World)  :
  Calls Tryz.prog 95 #[.string ⟨#[98]⟩, .int .i64 0] w (qcc w (.int .i64 1)) := by
 have HB := qHd (Below.refl w.heap.size w)
 go_enter Tryz.func95, Tryz.ntmps95
 go_wp2_with (with_reducible first | refine qah ?_ | refine qae ?_)
 refine qad.mk ?_
 refine wp_loop_rounds 2 ?_
 rw [rounds_succ]
 have hix1 : ((⟨#[98]⟩ : ByteArray)[0]'(by decide)).toNat = 98 := rfl
 go_wp2_with (with_reducible refine qac ?_)
 refine qad.mk ?_
 have HK := qHd (letter_98 w)
 (with_reducible refine HK.out.mono ?_); rintro e w1 ⟨rfl, hb⟩; clear HK
 replace HB := qHd (HB.out.trans (hb.mono HB.out.size))
 clear hb
 go_wp2_with (with_reducible first | refine qah ?_ | refine qae ?_)
 refine qad.mk ?_
 rw [rounds_succ]
 go_wp2_with fail
 go_ret
 exact ⟨rfl, HB.out⟩
theorem name_b  (w : World)  :
  Calls Tryz.prog 71 #[.string ⟨#[98]⟩] w (qcc w (.bool true)) := by
 have HB := qHd (Below.refl w.heap.size w)
 go_enter Tryz.func71, Tryz.ntmps71
 have hix1 : ((⟨#[98]⟩ : ByteArray)[0]'(by decide)).toNat = 98 := rfl
 go_wp2_with (with_reducible refine qac ?_)
 refine qad.mk ?_
 have HK := qHd (letter_98 w)
 (with_reducible refine HK.out.mono ?_); rintro e w1 ⟨rfl, hb⟩; clear HK
 replace HB := qHd (HB.out.trans (hb.mono HB.out.size))
 clear hb
 go_wp2_with (with_reducible refine qac ?_)
 refine qad.mk ?_
 have HK := qHd (wordEnd_b w1)
 (with_reducible refine HK.out.mono ?_); rintro e w2 ⟨rfl, hb⟩; clear HK
 replace HB := qHd (HB.out.trans (hb.mono HB.out.size))
 clear hb
 go_wp2_with fail
 go_ret
 exact ⟨rfl, HB.out⟩
theorem wordEnd_m  (w : World)  :
  Calls Tryz.prog 95 #[.string ⟨#[109]⟩, .int .i64 0] w (qcc w (.int .i64 1)) := by
 have HB := qHd (Below.refl w.heap.size w)
 go_enter Tryz.func95, Tryz.ntmps95
 go_wp2_with (with_reducible first | refine qah ?_ | refine qae ?_)
 refine qad.mk ?_
 refine wp_loop_rounds 2 ?_
 rw [rounds_succ]
 have hix1 : ((⟨#[109]⟩ : ByteArray)[0]'(by decide)).toNat = 109 := rfl
 go_wp2_with (with_reducible refine qac ?_)
 refine qad.mk ?_
 have HK := qHd (letter_109 w)
 (with_reducible refine HK.out.mono ?_); rintro e w1 ⟨rfl, hb⟩; clear HK
 replace HB := qHd (HB.out.trans (hb.mono HB.out.size))
 clear hb
 go_wp2_with (with_reducible first | refine qah ?_ | refine qae ?_)
 refine qad.mk ?_
 rw [rounds_succ]
 go_wp2_with fail
 go_ret
 exact ⟨rfl, HB.out⟩
theorem name_m  (w : World)  :
  Calls Tryz.prog 71 #[.string ⟨#[109]⟩] w (qcc w (.bool true)) := by
 have HB := qHd (Below.refl w.heap.size w)
 go_enter Tryz.func71, Tryz.ntmps71
 have hix1 : ((⟨#[109]⟩ : ByteArray)[0]'(by decide)).toNat = 109 := rfl
 go_wp2_with (with_reducible refine qac ?_)
 refine qad.mk ?_
 have HK := qHd (letter_109 w)
 (with_reducible refine HK.out.mono ?_); rintro e w1 ⟨rfl, hb⟩; clear HK
 replace HB := qHd (HB.out.trans (hb.mono HB.out.size))
 clear hb
 go_wp2_with (with_reducible refine qac ?_)
 refine qad.mk ?_
 have HK := qHd (wordEnd_m w1)
 (with_reducible refine HK.out.mono ?_); rintro e w2 ⟨rfl, hb⟩; clear HK
 replace HB := qHd (HB.out.trans (hb.mono HB.out.size))
 clear hb
 go_wp2_with fail
 go_ret
 exact ⟨rfl, HB.out⟩
theorem wordEnd_g  (w : World)  :
  Calls Tryz.prog 95 #[.string ⟨#[103]⟩, .int .i64 0] w (qcc w (.int .i64 1)) := by
 have HB := qHd (Below.refl w.heap.size w)
 go_enter Tryz.func95, Tryz.ntmps95
 go_wp2_with (with_reducible first | refine qah ?_ | refine qae ?_)
 refine qad.mk ?_
 refine wp_loop_rounds 2 ?_
 rw [rounds_succ]
 have hix1 : ((⟨#[103]⟩ : ByteArray)[0]'(by decide)).toNat = 103 := rfl
 go_wp2_with (with_reducible refine qac ?_)
 refine qad.mk ?_
 have HK := qHd (letter_103 w)
 (with_reducible refine HK.out.mono ?_); rintro e w1 ⟨rfl, hb⟩; clear HK
 replace HB := qHd (HB.out.trans (hb.mono HB.out.size))
 clear hb
 go_wp2_with (with_reducible first | refine qah ?_ | refine qae ?_)
 refine qad.mk ?_
 rw [rounds_succ]
 go_wp2_with fail
 go_ret
 exact ⟨rfl, HB.out⟩
theorem name_g  (w : World)  :
  Calls Tryz.prog 71 #[.string ⟨#[103]⟩] w (qcc w (.bool true)) := by
 have HB := qHd (Below.refl w.heap.size w)
 go_enter Tryz.func71, Tryz.ntmps71
 have hix1 : ((⟨#[103]⟩ : ByteArray)[0]'(by decide)).toNat = 103 := rfl
 go_wp2_with (with_reducible refine qac ?_)
 refine qad.mk ?_
 have HK := qHd (letter_103 w)
 (with_reducible refine HK.out.mono ?_); rintro e w1 ⟨rfl, hb⟩; clear HK
 replace HB := qHd (HB.out.trans (hb.mono HB.out.size))
 clear hb
 go_wp2_with (with_reducible refine qac ?_)
 refine qad.mk ?_
 have HK := qHd (wordEnd_g w1)
 (with_reducible refine HK.out.mono ?_); rintro e w2 ⟨rfl, hb⟩; clear HK
 replace HB := qHd (HB.out.trans (hb.mono HB.out.size))
 clear hb
 go_wp2_with fail
 go_ret
 exact ⟨rfl, HB.out⟩
theorem rate_zero  (w : World)  :
  Calls Tryz.prog 104 #[.agg #[.bool false, .slice none 0 0, .slice none 0 0]] w (qcc w (.bool true)) := by
 have HB := qHd (Below.refl w.heap.size w)
 go_enter Tryz.func104, Tryz.ntmps104
 go_wp2_with (with_reducible refine qag 3 ?_)
 obtain ⟨w2, hw_3, hb_3, g1, hg_3, Gg1, LO_g1⟩ := qcd HB.out.size (.cells #[.bool false, .slice none 0 0, .slice none 0 0] 99)
 rw [← hw_3, ← hg_3]
 replace HB := qHd (HB.out.trans (hb_3.mono HB.out.size))
 clear hw_3 hg_3 hb_3
 refine qad.mk ?_
 obtain ⟨x4, x5, x6⟩ := row3m Gg1.out
 go_wp2_with (with_reducible refine qac ?_)
 clear x4 x5 x6
 refine qad.mk ?_
 have HK := qHd (valid_zero w2)
 (with_reducible refine HK.out.mono ?_); rintro e w7 ⟨rfl, hb⟩; clear HK
 replace Gg1 := qHd (qaa Gg1.out hb)
 replace HB := qHd (HB.out.trans (hb.mono HB.out.size))
 clear hb
 obtain ⟨x8, x9, x10⟩ := row3m Gg1.out
 go_wp2_with (with_reducible refine qac ?_)
 clear x8 x9 x10
 refine qad.mk ?_
 have HK := qHd (qdz w7)
 (with_reducible refine HK.out.mono ?_); rintro e w11 ⟨rfl, hb⟩; clear HK
 replace Gg1 := qHd (qaa Gg1.out hb)
 replace HB := qHd (HB.out.trans (hb.mono HB.out.size))
 clear hb
 go_wp2_with fail
 go_ret
 exact ⟨rfl, HB.out⟩
theorem zero_zero  (w : World)  :
  Calls Tryz.prog 150 #[.agg #[.bool false, .slice none 0 0, .slice none 0 0]] w (qcc w (.bool true)) := by
 have HB := qHd (Below.refl w.heap.size w)
 go_enter Tryz.func150, Tryz.ntmps150
 go_wp2_with (with_reducible refine qag 4 ?_)
 obtain ⟨w2, hw_3, hb_3, g1, hg_3, Gg1, LO_g1⟩ := qcd HB.out.size (.cells #[.bool false, .slice none 0 0, .slice none 0 0] 99)
 rw [← hw_3, ← hg_3]
 replace HB := qHd (HB.out.trans (hb_3.mono HB.out.size))
 clear hw_3 hg_3 hb_3
 refine qad.mk ?_
 obtain ⟨x4, x5, x6⟩ := row3m Gg1.out
 go_wp2_with fail
 clear x4 x5 x6
 go_ret
 exact ⟨rfl, HB.out⟩
theorem inputs_and2  (w : World)  :
  Calls Tryz.prog 149 #[.int .i64 0, .int .i64 2] w (qcc w (.bool true)) := by
 have HB := qHd (Below.refl w.heap.size w)
 go_enter Tryz.func149, Tryz.ntmps149
 go_wp2_with fail
 go_ret
 exact ⟨rfl, HB.out⟩
theorem checkGate_m {ge ce gg cg gi ci : Nat} (w : World) (h : Md w ge ce gg cg gi ci) :
  Calls Tryz.prog 109 #[.agg #[.string ⟨#[103]⟩, .int .i64 0, .int .i64 0, .slice (some ⟨gi, 0, none⟩) 2 ci, .bool false, .slice none 0 0, .slice none 0 0]] w (qcc w (.nilIface)) := by
 have HM := qHd h; have LM := qHd h.lt; clear h
 have HB := qHd (Below.refl w.heap.size w)
 go_enter Tryz.func109, Tryz.ntmps109
 go_wp2_with (with_reducible refine qag 4 ?_)
 obtain ⟨w2, hw_3, hb_3, g1, hg_3, Gg1, LO_g1⟩ := qcd HB.out.size (.cells #[.string ⟨#[103]⟩, .int .i64 0, .int .i64 0, .slice (some ⟨gi, 0, none⟩) 2 ci, .bool false, .slice none 0 0, .slice none 0 0] 107)
 rw [← hw_3, ← hg_3]
 replace HM := qHd (HM.out.below hb_3)
 replace HB := qHd (HB.out.trans (hb_3.mono HB.out.size))
 clear hw_3 hg_3 hb_3
 refine qad.mk ?_
 have x4 : w2.cell? ⟨g1, 1, none⟩ = some (.int .i64 0) := cell_of_row _ _ _ _ _ _ (Gg1.out)
 have x5 : w2.cell? ⟨g1, 3, none⟩ = some (.slice (some ⟨gi, 0, none⟩) 2 ci) := cell_of_row _ _ _ _ _ _ (Gg1.out)
 go_wp2_with (with_reducible refine qac ?_)
 clear x4 x5
 refine qad.mk ?_
 have HK := qHd (inputs_and2 w2)
 (with_reducible refine HK.out.mono ?_); rintro e w6 ⟨rfl, hb⟩; clear HK
 replace HM := qHd (HM.out.below hb)
 replace Gg1 := qHd (qaa Gg1.out hb)
 replace HB := qHd (HB.out.trans (hb.mono HB.out.size))
 clear hb
 obtain ⟨_, x7, x8, _, x9, x10, x11⟩ := row7m Gg1.out
 go_wp2_with (with_reducible refine qac ?_)
 clear x7 x8 x9 x10 x11
 refine qad.mk ?_
 have HK := qHd (zero_zero w6)
 (with_reducible refine HK.out.mono ?_); rintro e w12 ⟨rfl, hb⟩; clear HK
 replace HM := qHd (HM.out.below hb)
 replace Gg1 := qHd (qaa Gg1.out hb)
 replace HB := qHd (HB.out.trans (hb.mono HB.out.size))
 clear hb
 go_wp2_with fail
 go_ret
 exact ⟨rfl, HB.out⟩
theorem mustBe_0 {ge ce gg cg gi ci : Nat} (w : World) (h : Md w ge ce gg cg gi ci) :
  Calls Tryz.prog 110 #[.agg #[.string ⟨#[103]⟩, .int .i64 0, .int .i64 0, .slice (some ⟨gi, 0, none⟩) 2 ci, .bool false, .slice none 0 0, .slice none 0 0], .int .i64 0] w (qcc w (.bool false)) := by
 have HM := qHd h; have LM := qHd h.lt; clear h
 have HB := qHd (Below.refl w.heap.size w)
 go_enter Tryz.func110, Tryz.ntmps110
 go_wp2_with (with_reducible refine qag 6 ?_)
 obtain ⟨w2, hw_3, hb_3, g1, hg_3, Gg1, LO_g1⟩ := qcd HB.out.size (.cells #[.string ⟨#[103]⟩, .int .i64 0, .int .i64 0, .slice (some ⟨gi, 0, none⟩) 2 ci, .bool false, .slice none 0 0, .slice none 0 0] 107)
 rw [← hw_3, ← hg_3]
 replace HM := qHd (HM.out.below hb_3)
 replace HB := qHd (HB.out.trans (hb_3.mono HB.out.size))
 clear hw_3 hg_3 hb_3
 refine qad.mk ?_
 have x4 : w2.cell? ⟨g1, 1, none⟩ = some (.int .i64 0) := cell_of_row _ _ _ _ _ _ (Gg1.out)
 go_wp2_with fail
 clear x4
 go_ret
 exact ⟨rfl, HB.out⟩
theorem mustBe_1 {ge ce gg cg gi ci : Nat} (w : World) (h : Md w ge ce gg cg gi ci) :
  Calls Tryz.prog 110 #[.agg #[.string ⟨#[103]⟩, .int .i64 0, .int .i64 0, .slice (some ⟨gi, 0, none⟩) 2 ci, .bool false, .slice none 0 0, .slice none 0 0], .int .i64 1] w (qcc w (.bool false)) := by
 have HM := qHd h; have LM := qHd h.lt; clear h
 have HB := qHd (Below.refl w.heap.size w)
 go_enter Tryz.func110, Tryz.ntmps110
 go_wp2_with (with_reducible refine qag 6 ?_)
 obtain ⟨w2, hw_3, hb_3, g1, hg_3, Gg1, LO_g1⟩ := qcd HB.out.size (.cells #[.string ⟨#[103]⟩, .int .i64 0, .int .i64 0, .slice (some ⟨gi, 0, none⟩) 2 ci, .bool false, .slice none 0 0, .slice none 0 0] 107)
 rw [← hw_3, ← hg_3]
 replace HM := qHd (HM.out.below hb_3)
 replace HB := qHd (HB.out.trans (hb_3.mono HB.out.size))
 clear hw_3 hg_3 hb_3
 refine qad.mk ?_
 have x4 : w2.cell? ⟨g1, 1, none⟩ = some (.int .i64 0) := cell_of_row _ _ _ _ _ _ (Gg1.out)
 go_wp2_with fail
 clear x4
 go_ret
 exact ⟨rfl, HB.out⟩
theorem isInput_a {ge ce gg cg gi ci : Nat} (w : World) (h : Md w ge ce gg cg gi ci) :
  Calls Tryz.prog 76 #[.agg #[.string ⟨#[109]⟩, .string ⟨#[103]⟩, .slice (some ⟨ge, 0, none⟩) 2 ce, .slice none 0 0, .slice (some ⟨gg, 0, none⟩) 1 cg, .slice none 0 0, .slice none 0 0, .slice none 0 0], .int .i64 (-1), .string ⟨#[97]⟩] w (qcc w (.bool true)) := by
 have HM := qHd h; have LM := qHd h.lt; clear h
 have HB := qHd (Below.refl w.heap.size w)
 go_enter Tryz.func76, Tryz.ntmps76
 have hix1 : ((⟨#[97]⟩ : ByteArray)[0]'(by decide)).toNat = 97 := rfl
 go_wp2_with (with_reducible refine qag 20 ?_)
 obtain ⟨w2, hw_3, hb_3, g1, hg_3, Gg1, LO_g1⟩ := qcd HB.out.size (.cells #[.string ⟨#[109]⟩, .string ⟨#[103]⟩, .slice (some ⟨ge, 0, none⟩) 2 ce, .slice none 0 0, .slice (some ⟨gg, 0, none⟩) 1 cg, .slice none 0 0, .slice none 0 0, .slice none 0 0] 44)
 rw [← hw_3, ← hg_3]
 replace HM := qHd (HM.out.below hb_3)
 replace HB := qHd (HB.out.trans (hb_3.mono HB.out.size))
 clear hw_3 hg_3 hb_3
 refine qad.mk ?_
 obtain ⟨x4, x5, x6, x7, x8, x9, x10, x11⟩ := qcq Gg1.out
 go_wp2_with (with_reducible refine qac ?_)
 clear x4 x5 x6 x7 x8 x9 x10 x11
 refine qad.mk ?_
 have HK := qHd (event_a w2 HM.out)
 (with_reducible refine HK.out.mono ?_); rintro e w12 ⟨rfl, hb⟩; clear HK
 replace HM := qHd (HM.out.below hb)
 replace Gg1 := qHd (qaa Gg1.out hb)
 replace HB := qHd (HB.out.trans (hb.mono HB.out.size))
 clear hb
 go_wp2_with fail
 go_ret
 exact ⟨rfl, HB.out⟩
theorem resolve_a {ge ce gg cg gi ci : Nat} (w : World) (h : Md w ge ce gg cg gi ci) :
  Calls Tryz.prog 122 #[.agg #[.string ⟨#[109]⟩, .string ⟨#[103]⟩, .slice (some ⟨ge, 0, none⟩) 2 ce, .slice none 0 0, .slice (some ⟨gg, 0, none⟩) 1 cg, .slice none 0 0, .slice none 0 0, .slice none 0 0], .int .i64 (-1), .string ⟨#[97]⟩] w (qcc w (.agg #[.int .i64 0, .int .i64 0, .int .i64 0])) := by
 have HM := qHd h; have LM := qHd h.lt; clear h
 have HB := qHd (Below.refl w.heap.size w)
 go_enter Tryz.func122, Tryz.ntmps122
 go_wp2_with (with_reducible refine qag 6 ?_)
 obtain ⟨w2, hw_3, hb_3, g1, hg_3, Gg1, LO_g1⟩ := qcd HB.out.size (.cells #[.string ⟨#[109]⟩, .string ⟨#[103]⟩, .slice (some ⟨ge, 0, none⟩) 2 ce, .slice none 0 0, .slice (some ⟨gg, 0, none⟩) 1 cg, .slice none 0 0, .slice none 0 0, .slice none 0 0] 44)
 rw [← hw_3, ← hg_3]
 replace HM := qHd (HM.out.below hb_3)
 replace HB := qHd (HB.out.trans (hb_3.mono HB.out.size))
 clear hw_3 hg_3 hb_3
 refine qad.mk ?_
 have hix1 : ((⟨#[97]⟩ : ByteArray)[0]'(by decide)).toNat = 97 := rfl
 go_wp2_with (with_reducible refine qag 22 ?_)
 obtain ⟨w5, hw_6, hb_6, g4, hg_6, Gg4, LO_g4⟩ := qcd HB.out.size (.cells #[.int .i64 0, .int .i64 0, .int .i64 0] 193)
 rw [← hw_6, ← hg_6]
 replace HM := qHd (HM.out.below hb_6)
 replace Gg1 := qHd (qaa Gg1.out hb_6)
 replace HB := qHd (HB.out.trans (hb_6.mono HB.out.size))
 clear hw_6 hg_6 hb_6
 refine qad.mk ?_
 obtain ⟨x7, x8, x9, x10, x11, x12, x13, x14⟩ := qcq Gg1.out
 go_wp2_with (with_reducible refine qac ?_)
 clear x7 x8 x9 x10 x11 x12 x13 x14
 refine qad.mk ?_
 have HK := qHd (event_a w5 HM.out)
 (with_reducible refine HK.out.mono ?_); rintro e w15 ⟨rfl, hb⟩; clear HK
 replace HM := qHd (HM.out.below hb)
 replace Gg1 := qHd (qaa Gg1.out hb)
 replace Gg4 := qHd (qaa Gg4.out hb)
 replace HB := qHd (HB.out.trans (hb.mono HB.out.size))
 clear hb
 go_wp2_with (with_reducible refine qaf 193 ?_)
 refine qau g4 [.int .i64 0, .int .i64 0, .int .i64 0] Gg4.out rfl rfl rfl (by kernel_rfl) rfl ?_
 intro w16 hx_ hgn
 have q_ := (And.intro (qHd (HM.out.exc hx_ (fun hm => by simp only [List.mem_cons, List.not_mem_nil, or_false] at hm; have h1 := LM.out; have h_g4 := LO_g4.out; omega) (fun hm => by simp only [List.mem_cons, List.not_mem_nil, or_false] at hm; have h1 := LM.out; have h_g4 := LO_g4.out; omega) (fun hm => by simp only [List.mem_cons, List.not_mem_nil, or_false] at hm; have h1 := LM.out; have h_g4 := LO_g4.out; omega))) (qHd (hx_.heap Gg1.out (fun hm => qaw Gg1.out Gg4.out (by simp) (List.mem_singleton.1 hm))))); clear HM Gg1; obtain ⟨HM, Gg1⟩ := q_
 replace HB := qHd (hx_.low HB.out HB.out.size (fun g hg => by rw [List.mem_singleton.1 hg]; exact LO_g4.out))
 replace Gg4 := qHd hgn
 clear hx_ hgn
 go_wp2_with fail
 refine ret_c1v rfl g4 #[.int .i64 0, .int .i64 0, .int .i64 0] rfl Gg4.out Tryz.underlying193 rfl (by kernel_rfl) rfl ?_
 exact ⟨rfl, HB.out⟩
theorem isInput_b {ge ce gg cg gi ci : Nat} (w : World) (h : Md w ge ce gg cg gi ci) :
  Calls Tryz.prog 76 #[.agg #[.string ⟨#[109]⟩, .string ⟨#[103]⟩, .slice (some ⟨ge, 0, none⟩) 2 ce, .slice none 0 0, .slice (some ⟨gg, 0, none⟩) 1 cg, .slice none 0 0, .slice none 0 0, .slice none 0 0], .int .i64 (-1), .string ⟨#[98]⟩] w (qcc w (.bool true)) := by
 have HM := qHd h; have LM := qHd h.lt; clear h
 have HB := qHd (Below.refl w.heap.size w)
 go_enter Tryz.func76, Tryz.ntmps76
 have hix1 : ((⟨#[98]⟩ : ByteArray)[0]'(by decide)).toNat = 98 := rfl
 go_wp2_with (with_reducible refine qag 20 ?_)
 obtain ⟨w2, hw_3, hb_3, g1, hg_3, Gg1, LO_g1⟩ := qcd HB.out.size (.cells #[.string ⟨#[109]⟩, .string ⟨#[103]⟩, .slice (some ⟨ge, 0, none⟩) 2 ce, .slice none 0 0, .slice (some ⟨gg, 0, none⟩) 1 cg, .slice none 0 0, .slice none 0 0, .slice none 0 0] 44)
 rw [← hw_3, ← hg_3]
 replace HM := qHd (HM.out.below hb_3)
 replace HB := qHd (HB.out.trans (hb_3.mono HB.out.size))
 clear hw_3 hg_3 hb_3
 refine qad.mk ?_
 obtain ⟨x4, x5, x6, x7, x8, x9, x10, x11⟩ := qcq Gg1.out
 go_wp2_with (with_reducible refine qac ?_)
 clear x4 x5 x6 x7 x8 x9 x10 x11
 refine qad.mk ?_
 have HK := qHd (event_b w2 HM.out)
 (with_reducible refine HK.out.mono ?_); rintro e w12 ⟨rfl, hb⟩; clear HK
 replace HM := qHd (HM.out.below hb)
 replace Gg1 := qHd (qaa Gg1.out hb)
 replace HB := qHd (HB.out.trans (hb.mono HB.out.size))
 clear hb
 go_wp2_with fail
 go_ret
 exact ⟨rfl, HB.out⟩
theorem resolve_b {ge ce gg cg gi ci : Nat} (w : World) (h : Md w ge ce gg cg gi ci) :
  Calls Tryz.prog 122 #[.agg #[.string ⟨#[109]⟩, .string ⟨#[103]⟩, .slice (some ⟨ge, 0, none⟩) 2 ce, .slice none 0 0, .slice (some ⟨gg, 0, none⟩) 1 cg, .slice none 0 0, .slice none 0 0, .slice none 0 0], .int .i64 (-1), .string ⟨#[98]⟩] w (qcc w (.agg #[.int .i64 0, .int .i64 0, .int .i64 1])) := by
 have HM := qHd h; have LM := qHd h.lt; clear h
 have HB := qHd (Below.refl w.heap.size w)
 go_enter Tryz.func122, Tryz.ntmps122
 go_wp2_with (with_reducible refine qag 6 ?_)
 obtain ⟨w2, hw_3, hb_3, g1, hg_3, Gg1, LO_g1⟩ := qcd HB.out.size (.cells #[.string ⟨#[109]⟩, .string ⟨#[103]⟩, .slice (some ⟨ge, 0, none⟩) 2 ce, .slice none 0 0, .slice (some ⟨gg, 0, none⟩) 1 cg, .slice none 0 0, .slice none 0 0, .slice none 0 0] 44)
 rw [← hw_3, ← hg_3]
 replace HM := qHd (HM.out.below hb_3)
 replace HB := qHd (HB.out.trans (hb_3.mono HB.out.size))
 clear hw_3 hg_3 hb_3
 refine qad.mk ?_
 have hix1 : ((⟨#[98]⟩ : ByteArray)[0]'(by decide)).toNat = 98 := rfl
 go_wp2_with (with_reducible refine qag 22 ?_)
 obtain ⟨w5, hw_6, hb_6, g4, hg_6, Gg4, LO_g4⟩ := qcd HB.out.size (.cells #[.int .i64 0, .int .i64 0, .int .i64 0] 193)
 rw [← hw_6, ← hg_6]
 replace HM := qHd (HM.out.below hb_6)
 replace Gg1 := qHd (qaa Gg1.out hb_6)
 replace HB := qHd (HB.out.trans (hb_6.mono HB.out.size))
 clear hw_6 hg_6 hb_6
 refine qad.mk ?_
 obtain ⟨x7, x8, x9, x10, x11, x12, x13, x14⟩ := qcq Gg1.out
 go_wp2_with (with_reducible refine qac ?_)
 clear x7 x8 x9 x10 x11 x12 x13 x14
 refine qad.mk ?_
 have HK := qHd (event_b w5 HM.out)
 (with_reducible refine HK.out.mono ?_); rintro e w15 ⟨rfl, hb⟩; clear HK
 replace HM := qHd (HM.out.below hb)
 replace Gg1 := qHd (qaa Gg1.out hb)
 replace Gg4 := qHd (qaa Gg4.out hb)
 replace HB := qHd (HB.out.trans (hb.mono HB.out.size))
 clear hb
 go_wp2_with (with_reducible refine qaf 193 ?_)
 refine qau g4 [.int .i64 0, .int .i64 0, .int .i64 1] Gg4.out rfl rfl rfl (by kernel_rfl) rfl ?_
 intro w16 hx_ hgn
 have q_ := (And.intro (qHd (HM.out.exc hx_ (fun hm => by simp only [List.mem_cons, List.not_mem_nil, or_false] at hm; have h1 := LM.out; have h_g4 := LO_g4.out; omega) (fun hm => by simp only [List.mem_cons, List.not_mem_nil, or_false] at hm; have h1 := LM.out; have h_g4 := LO_g4.out; omega) (fun hm => by simp only [List.mem_cons, List.not_mem_nil, or_false] at hm; have h1 := LM.out; have h_g4 := LO_g4.out; omega))) (qHd (hx_.heap Gg1.out (fun hm => qaw Gg1.out Gg4.out (by simp) (List.mem_singleton.1 hm))))); clear HM Gg1; obtain ⟨HM, Gg1⟩ := q_
 replace HB := qHd (hx_.low HB.out HB.out.size (fun g hg => by rw [List.mem_singleton.1 hg]; exact LO_g4.out))
 replace Gg4 := qHd hgn
 clear hx_ hgn
 go_wp2_with fail
 refine ret_c1v rfl g4 #[.int .i64 0, .int .i64 0, .int .i64 1] rfl Gg4.out Tryz.underlying193 rfl (by kernel_rfl) rfl ?_
 exact ⟨rfl, HB.out⟩
theorem isInput_g {ge ce gg cg gi ci : Nat} (w : World) (h : Md w ge ce gg cg gi ci) :
  Calls Tryz.prog 76 #[.agg #[.string ⟨#[109]⟩, .string ⟨#[103]⟩, .slice (some ⟨ge, 0, none⟩) 2 ce, .slice none 0 0, .slice (some ⟨gg, 0, none⟩) 1 cg, .slice none 0 0, .slice none 0 0, .slice none 0 0], .int .i64 (-1), .string ⟨#[103]⟩] w (qcc w (.bool true)) := by
 have HM := qHd h; have LM := qHd h.lt; clear h
 have HB := qHd (Below.refl w.heap.size w)
 go_enter Tryz.func76, Tryz.ntmps76
 have hix1 : ((⟨#[103]⟩ : ByteArray)[0]'(by decide)).toNat = 103 := rfl
 go_wp2_with (with_reducible refine qag 20 ?_)
 obtain ⟨w2, hw_3, hb_3, g1, hg_3, Gg1, LO_g1⟩ := qcd HB.out.size (.cells #[.string ⟨#[109]⟩, .string ⟨#[103]⟩, .slice (some ⟨ge, 0, none⟩) 2 ce, .slice none 0 0, .slice (some ⟨gg, 0, none⟩) 1 cg, .slice none 0 0, .slice none 0 0, .slice none 0 0] 44)
 rw [← hw_3, ← hg_3]
 replace HM := qHd (HM.out.below hb_3)
 replace HB := qHd (HB.out.trans (hb_3.mono HB.out.size))
 clear hw_3 hg_3 hb_3
 refine qad.mk ?_
 obtain ⟨x4, x5, x6, x7, x8, x9, x10, x11⟩ := qcq Gg1.out
 go_wp2_with (with_reducible refine qac ?_)
 clear x4 x5 x6 x7 x8 x9 x10 x11
 refine qad.mk ?_
 have HK := qHd (event_g w2 HM.out)
 (with_reducible refine HK.out.mono ?_); rintro e w12 ⟨rfl, hb⟩; clear HK
 replace HM := qHd (HM.out.below hb)
 replace Gg1 := qHd (qaa Gg1.out hb)
 replace HB := qHd (HB.out.trans (hb.mono HB.out.size))
 clear hb
 obtain ⟨x13, x14, x15, x16, x17, x18, x19, x20⟩ := qcq Gg1.out
 go_wp2_with (with_reducible refine qac ?_)
 clear x13 x14 x15 x16 x17 x18 x19 x20
 refine qad.mk ?_
 have HK := qHd (house_g w12 HM.out)
 (with_reducible refine HK.out.mono ?_); rintro e w21 ⟨rfl, hb⟩; clear HK
 replace HM := qHd (HM.out.below hb)
 replace Gg1 := qHd (qaa Gg1.out hb)
 replace HB := qHd (HB.out.trans (hb.mono HB.out.size))
 clear hb
 obtain ⟨x22, x23, x24, x25, x26, x27, x28, x29⟩ := qcq Gg1.out
 go_wp2_with (with_reducible refine qac ?_)
 clear x22 x23 x24 x25 x26 x27 x28 x29
 refine qad.mk ?_
 have HK := qHd (gatesOf_m w21 HM.out)
 (with_reducible refine HK.out.mono ?_); rintro e w30 ⟨rfl, hb⟩; clear HK
 replace HM := qHd (HM.out.below hb)
 replace Gg1 := qHd (qaa Gg1.out hb)
 replace HB := qHd (HB.out.trans (hb.mono HB.out.size))
 clear hb
 go_wp2_with (with_reducible refine qac ?_)
 refine qad.mk ?_
 have HK := qHd (gate_g w30 HM.out)
 (with_reducible refine HK.out.mono ?_); rintro e w31 ⟨rfl, hb⟩; clear HK
 replace HM := qHd (HM.out.below hb)
 replace Gg1 := qHd (qaa Gg1.out hb)
 replace HB := qHd (HB.out.trans (hb.mono HB.out.size))
 clear hb
 go_wp2_with fail
 go_ret
 exact ⟨rfl, HB.out⟩
theorem resolve_g {ge ce gg cg gi ci : Nat} (w : World) (h : Md w ge ce gg cg gi ci) :
  Calls Tryz.prog 122 #[.agg #[.string ⟨#[109]⟩, .string ⟨#[103]⟩, .slice (some ⟨ge, 0, none⟩) 2 ce, .slice none 0 0, .slice (some ⟨gg, 0, none⟩) 1 cg, .slice none 0 0, .slice none 0 0, .slice none 0 0], .int .i64 (-1), .string ⟨#[103]⟩] w (qcc w (.agg #[.int .i64 2, .int .i64 (-1), .int .i64 0])) := by
 have HM := qHd h; have LM := qHd h.lt; clear h
 have HB := qHd (Below.refl w.heap.size w)
 go_enter Tryz.func122, Tryz.ntmps122
 go_wp2_with (with_reducible refine qag 6 ?_)
 obtain ⟨w2, hw_3, hb_3, g1, hg_3, Gg1, LO_g1⟩ := qcd HB.out.size (.cells #[.string ⟨#[109]⟩, .string ⟨#[103]⟩, .slice (some ⟨ge, 0, none⟩) 2 ce, .slice none 0 0, .slice (some ⟨gg, 0, none⟩) 1 cg, .slice none 0 0, .slice none 0 0, .slice none 0 0] 44)
 rw [← hw_3, ← hg_3]
 replace HM := qHd (HM.out.below hb_3)
 replace HB := qHd (HB.out.trans (hb_3.mono HB.out.size))
 clear hw_3 hg_3 hb_3
 refine qad.mk ?_
 have hix1 : ((⟨#[103]⟩ : ByteArray)[0]'(by decide)).toNat = 103 := rfl
 go_wp2_with (with_reducible refine qag 22 ?_)
 obtain ⟨w5, hw_6, hb_6, g4, hg_6, Gg4, LO_g4⟩ := qcd HB.out.size (.cells #[.int .i64 0, .int .i64 0, .int .i64 0] 193)
 rw [← hw_6, ← hg_6]
 replace HM := qHd (HM.out.below hb_6)
 replace Gg1 := qHd (qaa Gg1.out hb_6)
 replace HB := qHd (HB.out.trans (hb_6.mono HB.out.size))
 clear hw_6 hg_6 hb_6
 refine qad.mk ?_
 obtain ⟨x7, x8, x9, x10, x11, x12, x13, x14⟩ := qcq Gg1.out
 go_wp2_with (with_reducible refine qac ?_)
 clear x7 x8 x9 x10 x11 x12 x13 x14
 refine qad.mk ?_
 have HK := qHd (event_g w5 HM.out)
 (with_reducible refine HK.out.mono ?_); rintro e w15 ⟨rfl, hb⟩; clear HK
 replace HM := qHd (HM.out.below hb)
 replace Gg1 := qHd (qaa Gg1.out hb)
 replace Gg4 := qHd (qaa Gg4.out hb)
 replace HB := qHd (HB.out.trans (hb.mono HB.out.size))
 clear hb
 obtain ⟨x16, x17, x18, x19, x20, x21, x22, x23⟩ := qcq Gg1.out
 go_wp2_with (with_reducible refine qac ?_)
 clear x16 x17 x18 x19 x20 x21 x22 x23
 refine qad.mk ?_
 have HK := qHd (house_g w15 HM.out)
 (with_reducible refine HK.out.mono ?_); rintro e w24 ⟨rfl, hb⟩; clear HK
 replace HM := qHd (HM.out.below hb)
 replace Gg1 := qHd (qaa Gg1.out hb)
 replace Gg4 := qHd (qaa Gg4.out hb)
 replace HB := qHd (HB.out.trans (hb.mono HB.out.size))
 clear hb
 obtain ⟨x25, x26, x27, x28, x29, x30, x31, x32⟩ := qcq Gg1.out
 go_wp2_with (with_reducible refine qac ?_)
 clear x25 x26 x27 x28 x29 x30 x31 x32
 refine qad.mk ?_
 have HK := qHd (gatesOf_m w24 HM.out)
 (with_reducible refine HK.out.mono ?_); rintro e w33 ⟨rfl, hb⟩; clear HK
 replace HM := qHd (HM.out.below hb)
 replace Gg1 := qHd (qaa Gg1.out hb)
 replace Gg4 := qHd (qaa Gg4.out hb)
 replace HB := qHd (HB.out.trans (hb.mono HB.out.size))
 clear hb
 go_wp2_with (with_reducible refine qac ?_)
 refine qad.mk ?_
 have HK := qHd (gate_g w33 HM.out)
 (with_reducible refine HK.out.mono ?_); rintro e w34 ⟨rfl, hb⟩; clear HK
 replace HM := qHd (HM.out.below hb)
 replace Gg1 := qHd (qaa Gg1.out hb)
 replace Gg4 := qHd (qaa Gg4.out hb)
 replace HB := qHd (HB.out.trans (hb.mono HB.out.size))
 clear hb
 go_wp2_with (with_reducible refine qaf 193 ?_)
 refine qau g4 [.int .i64 2, .int .i64 (-1), .int .i64 0] Gg4.out rfl rfl rfl (by kernel_rfl) rfl ?_
 intro w35 hx_ hgn
 have q_ := (And.intro (qHd (HM.out.exc hx_ (fun hm => by simp only [List.mem_cons, List.not_mem_nil, or_false] at hm; have h1 := LM.out; have h_g4 := LO_g4.out; omega) (fun hm => by simp only [List.mem_cons, List.not_mem_nil, or_false] at hm; have h1 := LM.out; have h_g4 := LO_g4.out; omega) (fun hm => by simp only [List.mem_cons, List.not_mem_nil, or_false] at hm; have h1 := LM.out; have h_g4 := LO_g4.out; omega))) (qHd (hx_.heap Gg1.out (fun hm => qaw Gg1.out Gg4.out (by simp) (List.mem_singleton.1 hm))))); clear HM Gg1; obtain ⟨HM, Gg1⟩ := q_
 replace HB := qHd (hx_.low HB.out HB.out.size (fun g hg => by rw [List.mem_singleton.1 hg]; exact LO_g4.out))
 replace Gg4 := qHd hgn
 clear hx_ hgn
 go_wp2_with fail
 refine ret_c1v rfl g4 #[.int .i64 2, .int .i64 (-1), .int .i64 0] rfl Gg4.out Tryz.underlying193 rfl (by kernel_rfl) rfl ?_
 exact ⟨rfl, HB.out⟩
theorem checkEvents_m {ge ce gg cg gi ci : Nat} (w : World) (h : Md w ge ce gg cg gi ci) :
  Calls Tryz.prog 72 #[.agg #[.string ⟨#[109]⟩, .string ⟨#[103]⟩, .slice (some ⟨ge, 0, none⟩) 2 ce, .slice none 0 0, .slice (some ⟨gg, 0, none⟩) 1 cg, .slice none 0 0, .slice none 0 0, .slice none 0 0]] w (qcc w (.nilIface)) := by
 have HM := qHd h; have LM := qHd h.lt; clear h
 have HB := qHd (Below.refl w.heap.size w)
 go_enter Tryz.func72, Tryz.ntmps72
 go_wp2_with (with_reducible refine qag 8 ?_)
 obtain ⟨w2, hw_3, hb_3, g1, hg_3, Gg1, LO_g1⟩ := qcd HB.out.size (.cells #[.string ⟨#[109]⟩, .string ⟨#[103]⟩, .slice (some ⟨ge, 0, none⟩) 2 ce, .slice none 0 0, .slice (some ⟨gg, 0, none⟩) 1 cg, .slice none 0 0, .slice none 0 0, .slice none 0 0] 44)
 rw [← hw_3, ← hg_3]
 replace HM := qHd (HM.out.below hb_3)
 replace HB := qHd (HB.out.trans (hb_3.mono HB.out.size))
 clear hw_3 hg_3 hb_3
 refine qad.mk ?_
 have x4 : w2.cell? ⟨g1, 2, none⟩ = some (.slice (some ⟨ge, 0, none⟩) 2 ce) := cell_of_row _ _ _ _ _ _ (Gg1.out)
 go_wp2_with (with_reducible first | refine qah ?_ | refine qae ?_)
 clear x4
 refine qad.mk ?_
 refine wp_loop_rounds 3 ?_
 rw [rounds_succ]
 obtain ⟨x6, x7, x8, x9, x10, x11, x12, x13, x14, x15, x16⟩ := HM.out.e0
 go_wp2_with (with_reducible refine qaf 101 ?_)
 clear x6 x7 x8 x9 x10 x11 x12 x13 x14 x15 x16
 obtain ⟨w17, hw_18, hb_18, g5, hg_18, Gg5, LO_g5⟩ := qcd HB.out.size (.cells #[.string ⟨#[]⟩, .bool false, .slice none 0 0, .slice none 0 0, .bool false, .slice none 0 0, .slice none 0 0, .bool false, .slice none 0 0, .slice none 0 0, .int .i64 0] 101)
 rw [← hw_18, ← hg_18]
 replace HM := qHd (HM.out.below hb_18)
 replace Gg1 := qHd (qaa Gg1.out hb_18)
 replace HB := qHd (HB.out.trans (hb_18.mono HB.out.size))
 clear hw_18 hg_18 hb_18
 refine qau g5 [.string ⟨#[97]⟩, .bool false, .slice none 0 0, .slice none 0 0, .bool false, .slice none 0 0, .slice none 0 0, .bool false, .slice none 0 0, .slice none 0 0, .int .i64 0] Gg5.out rfl rfl rfl (by kernel_rfl) rfl ?_
 intro w19 hx_ hgn
 have q_ := (And.intro (qHd (HM.out.exc hx_ (fun hm => by simp only [List.mem_cons, List.not_mem_nil, or_false] at hm; have h1 := LM.out; have h_g5 := LO_g5.out; omega) (fun hm => by simp only [List.mem_cons, List.not_mem_nil, or_false] at hm; have h1 := LM.out; have h_g5 := LO_g5.out; omega) (fun hm => by simp only [List.mem_cons, List.not_mem_nil, or_false] at hm; have h1 := LM.out; have h_g5 := LO_g5.out; omega))) (qHd (hx_.heap Gg1.out (fun hm => qaw Gg1.out Gg5.out (by simp) (List.mem_singleton.1 hm))))); clear HM Gg1; obtain ⟨HM, Gg1⟩ := q_
 replace HB := qHd (hx_.low HB.out HB.out.size (fun g hg => by rw [List.mem_singleton.1 hg]; exact LO_g5.out))
 replace Gg5 := qHd hgn
 clear hx_ hgn
 have x20 : w19.cell? ⟨g5, 0, none⟩ = some (.string ⟨#[97]⟩) := cell_of_row _ _ _ _ _ _ (Gg5.out)
 go_wp2_with (with_reducible refine qac ?_)
 clear x20
 refine qad.mk ?_
 have HK := qHd (name_a w19)
 (with_reducible refine HK.out.mono ?_); rintro e w21 ⟨rfl, hb⟩; clear HK
 replace HM := qHd (HM.out.below hb)
 replace Gg1 := qHd (qaa Gg1.out hb)
 replace Gg5 := qHd (qaa Gg5.out hb)
 replace HB := qHd (HB.out.trans (hb.mono HB.out.size))
 clear hb
 obtain ⟨x22, x23, x24, x25, x26, x27, x28, x29⟩ := qcq Gg1.out
 have x30 : w21.cell? ⟨g5, 0, none⟩ = some (.string ⟨#[97]⟩) := cell_of_row _ _ _ _ _ _ (Gg5.out)
 go_wp2_with (with_reducible refine qac ?_)
 clear x22 x23 x24 x25 x26 x27 x28 x29 x30
 refine qad.mk ?_
 have HK := qHd (event_a w21 HM.out)
 (with_reducible refine HK.out.mono ?_); rintro e w31 ⟨rfl, hb⟩; clear HK
 replace HM := qHd (HM.out.below hb)
 replace Gg1 := qHd (qaa Gg1.out hb)
 replace Gg5 := qHd (qaa Gg5.out hb)
 replace HB := qHd (HB.out.trans (hb.mono HB.out.size))
 clear hb
 obtain ⟨_, x32, x33, x34, _, _, _, _, _, _, _⟩ := row11m Gg5.out
 go_wp2_with (with_reducible refine qac ?_)
 clear x32 x33 x34
 refine qad.mk ?_
 have HK := qHd (prob_zero w31)
 (with_reducible refine HK.out.mono ?_); rintro e w35 ⟨rfl, hb⟩; clear HK
 replace HM := qHd (HM.out.below hb)
 replace Gg1 := qHd (qaa Gg1.out hb)
 replace Gg5 := qHd (qaa Gg5.out hb)
 replace HB := qHd (HB.out.trans (hb.mono HB.out.size))
 clear hb
 obtain ⟨_, _, _, _, x36, x37, x38, _, _, _, _⟩ := row11m Gg5.out
 go_wp2_with (with_reducible refine qac ?_)
 clear x36 x37 x38
 refine qad.mk ?_
 have HK := qHd (rate_zero w35)
 (with_reducible refine HK.out.mono ?_); rintro e w39 ⟨rfl, hb⟩; clear HK
 replace HM := qHd (HM.out.below hb)
 replace Gg1 := qHd (qaa Gg1.out hb)
 replace Gg5 := qHd (qaa Gg5.out hb)
 replace HB := qHd (HB.out.trans (hb.mono HB.out.size))
 clear hb
 obtain ⟨_, _, _, _, _, _, _, x40, x41, x42, _⟩ := row11m Gg5.out
 go_wp2_with (with_reducible refine qac ?_)
 clear x40 x41 x42
 refine qad.mk ?_
 have HK := qHd (rate_zero w39)
 (with_reducible refine HK.out.mono ?_); rintro e w43 ⟨rfl, hb⟩; clear HK
 replace HM := qHd (HM.out.below hb)
 replace Gg1 := qHd (qaa Gg1.out hb)
 replace Gg5 := qHd (qaa Gg5.out hb)
 replace HB := qHd (HB.out.trans (hb.mono HB.out.size))
 clear hb
 have x44 : w43.cell? ⟨g5, 10, none⟩ = some (.int .i64 0) := cell_of_row _ _ _ _ _ _ (Gg5.out)
 go_wp2_with (with_reducible first | refine qah ?_ | refine qae ?_)
 clear x44
 refine qad.mk ?_
 rw [rounds_succ]
 clear Gg5 LO_g5
 obtain ⟨x46, x47, x48, x49, x50, x51, x52, x53, x54, x55, x56⟩ := HM.out.e1
 go_wp2_with (with_reducible refine qaf 101 ?_)
 clear x46 x47 x48 x49 x50 x51 x52 x53 x54 x55 x56
 obtain ⟨w57, hw_58, hb_58, g45, hg_58, Gg45, LO_g45⟩ := qcd HB.out.size (.cells #[.string ⟨#[]⟩, .bool false, .slice none 0 0, .slice none 0 0, .bool false, .slice none 0 0, .slice none 0 0, .bool false, .slice none 0 0, .slice none 0 0, .int .i64 0] 101)
 rw [← hw_58, ← hg_58]
 replace HM := qHd (HM.out.below hb_58)
 replace Gg1 := qHd (qaa Gg1.out hb_58)
 replace HB := qHd (HB.out.trans (hb_58.mono HB.out.size))
 clear hw_58 hg_58 hb_58
 refine qau g45 [.string ⟨#[98]⟩, .bool false, .slice none 0 0, .slice none 0 0, .bool false, .slice none 0 0, .slice none 0 0, .bool false, .slice none 0 0, .slice none 0 0, .int .i64 0] Gg45.out rfl rfl rfl (by kernel_rfl) rfl ?_
 intro w59 hx_ hgn
 have q_ := (And.intro (qHd (HM.out.exc hx_ (fun hm => by simp only [List.mem_cons, List.not_mem_nil, or_false] at hm; have h1 := LM.out; have h_g45 := LO_g45.out; omega) (fun hm => by simp only [List.mem_cons, List.not_mem_nil, or_false] at hm; have h1 := LM.out; have h_g45 := LO_g45.out; omega) (fun hm => by simp only [List.mem_cons, List.not_mem_nil, or_false] at hm; have h1 := LM.out; have h_g45 := LO_g45.out; omega))) (qHd (hx_.heap Gg1.out (fun hm => qaw Gg1.out Gg45.out (by simp) (List.mem_singleton.1 hm))))); clear HM Gg1; obtain ⟨HM, Gg1⟩ := q_
 replace HB := qHd (hx_.low HB.out HB.out.size (fun g hg => by rw [List.mem_singleton.1 hg]; exact LO_g45.out))
 replace Gg45 := qHd hgn
 clear hx_ hgn
 have x60 : w59.cell? ⟨g45, 0, none⟩ = some (.string ⟨#[98]⟩) := cell_of_row _ _ _ _ _ _ (Gg45.out)
 go_wp2_with (with_reducible refine qac ?_)
 clear x60
 refine qad.mk ?_
 have HK := qHd (name_b w59)
 (with_reducible refine HK.out.mono ?_); rintro e w61 ⟨rfl, hb⟩; clear HK
 replace HM := qHd (HM.out.below hb)
 replace Gg1 := qHd (qaa Gg1.out hb)
 replace Gg45 := qHd (qaa Gg45.out hb)
 replace HB := qHd (HB.out.trans (hb.mono HB.out.size))
 clear hb
 obtain ⟨x62, x63, x64, x65, x66, x67, x68, x69⟩ := qcq Gg1.out
 have x70 : w61.cell? ⟨g45, 0, none⟩ = some (.string ⟨#[98]⟩) := cell_of_row _ _ _ _ _ _ (Gg45.out)
 go_wp2_with (with_reducible refine qac ?_)
 clear x62 x63 x64 x65 x66 x67 x68 x69 x70
 refine qad.mk ?_
 have HK := qHd (event_b w61 HM.out)
 (with_reducible refine HK.out.mono ?_); rintro e w71 ⟨rfl, hb⟩; clear HK
 replace HM := qHd (HM.out.below hb)
 replace Gg1 := qHd (qaa Gg1.out hb)
 replace Gg45 := qHd (qaa Gg45.out hb)
 replace HB := qHd (HB.out.trans (hb.mono HB.out.size))
 clear hb
 obtain ⟨_, x72, x73, x74, _, _, _, _, _, _, _⟩ := row11m Gg45.out
 go_wp2_with (with_reducible refine qac ?_)
 clear x72 x73 x74
 refine qad.mk ?_
 have HK := qHd (prob_zero w71)
 (with_reducible refine HK.out.mono ?_); rintro e w75 ⟨rfl, hb⟩; clear HK
 replace HM := qHd (HM.out.below hb)
 replace Gg1 := qHd (qaa Gg1.out hb)
 replace Gg45 := qHd (qaa Gg45.out hb)
 replace HB := qHd (HB.out.trans (hb.mono HB.out.size))
 clear hb
 obtain ⟨_, _, _, _, x76, x77, x78, _, _, _, _⟩ := row11m Gg45.out
 go_wp2_with (with_reducible refine qac ?_)
 clear x76 x77 x78
 refine qad.mk ?_
 have HK := qHd (rate_zero w75)
 (with_reducible refine HK.out.mono ?_); rintro e w79 ⟨rfl, hb⟩; clear HK
 replace HM := qHd (HM.out.below hb)
 replace Gg1 := qHd (qaa Gg1.out hb)
 replace Gg45 := qHd (qaa Gg45.out hb)
 replace HB := qHd (HB.out.trans (hb.mono HB.out.size))
 clear hb
 obtain ⟨_, _, _, _, _, _, _, x80, x81, x82, _⟩ := row11m Gg45.out
 go_wp2_with (with_reducible refine qac ?_)
 clear x80 x81 x82
 refine qad.mk ?_
 have HK := qHd (rate_zero w79)
 (with_reducible refine HK.out.mono ?_); rintro e w83 ⟨rfl, hb⟩; clear HK
 replace HM := qHd (HM.out.below hb)
 replace Gg1 := qHd (qaa Gg1.out hb)
 replace Gg45 := qHd (qaa Gg45.out hb)
 replace HB := qHd (HB.out.trans (hb.mono HB.out.size))
 clear hb
 have x84 : w83.cell? ⟨g45, 10, none⟩ = some (.int .i64 0) := cell_of_row _ _ _ _ _ _ (Gg45.out)
 go_wp2_with (with_reducible first | refine qah ?_ | refine qae ?_)
 clear x84
 refine qad.mk ?_
 rw [rounds_succ]
 have x85 : w83.cell? ⟨g1, 3, none⟩ = some (.slice none 0 0) := cell_of_row _ _ _ _ _ _ (Gg1.out)
 go_wp2_with (with_reducible first | refine qah ?_ | refine qae ?_)
 clear x85
 refine qad.mk ?_
 refine wp_loop_rounds 1 ?_
 rw [rounds_succ]
 go_wp2_with fail
 go_ret
 exact ⟨rfl, HB.out⟩
theorem checkPages_m {ge ce gg cg gi ci : Nat} (w : World) (h : Md w ge ce gg cg gi ci) :
  Calls Tryz.prog 73 #[.agg #[.string ⟨#[109]⟩, .string ⟨#[103]⟩, .slice (some ⟨ge, 0, none⟩) 2 ce, .slice none 0 0, .slice (some ⟨gg, 0, none⟩) 1 cg, .slice none 0 0, .slice none 0 0, .slice none 0 0]] w (qcc w (.nilIface)) := by
 have HM := qHd h; have LM := qHd h.lt; clear h
 have HB := qHd (Below.refl w.heap.size w)
 go_enter Tryz.func73, Tryz.ntmps73
 go_wp2_with (with_reducible refine qag 9 ?_)
 obtain ⟨w2, hw_3, hb_3, g1, hg_3, Gg1, LO_g1⟩ := qcd HB.out.size (.cells #[.string ⟨#[109]⟩, .string ⟨#[103]⟩, .slice (some ⟨ge, 0, none⟩) 2 ce, .slice none 0 0, .slice (some ⟨gg, 0, none⟩) 1 cg, .slice none 0 0, .slice none 0 0, .slice none 0 0] 44)
 rw [← hw_3, ← hg_3]
 replace HM := qHd (HM.out.below hb_3)
 replace HB := qHd (HB.out.trans (hb_3.mono HB.out.size))
 clear hw_3 hg_3 hb_3
 refine qad.mk ?_
 have x4 : w2.cell? ⟨g1, 4, none⟩ = some (.slice (some ⟨gg, 0, none⟩) 1 cg) := cell_of_row _ _ _ _ _ _ (Gg1.out)
 have x5 : w2.cell? ⟨g1, 5, none⟩ = some (.slice none 0 0) := cell_of_row _ _ _ _ _ _ (Gg1.out)
 go_wp2_with (with_reducible first | refine qah ?_ | refine qae ?_)
 clear x4 x5
 refine qad.mk ?_
 refine wp_loop_rounds 1 ?_
 rw [rounds_succ]
 have x6 : w2.cell? ⟨g1, 5, none⟩ = some (.slice none 0 0) := cell_of_row _ _ _ _ _ _ (Gg1.out)
 go_wp2_with (with_reducible first | refine qah ?_ | refine qae ?_)
 clear x6
 refine qad.mk ?_
 refine wp_loop_rounds 1 ?_
 rw [rounds_succ]
 go_wp2_with fail
 go_ret
 exact ⟨rfl, HB.out⟩
theorem checkGroups_m {ge ce gg cg gi ci : Nat} (w : World) (h : Md w ge ce gg cg gi ci) :
  Calls Tryz.prog 77 #[.agg #[.string ⟨#[109]⟩, .string ⟨#[103]⟩, .slice (some ⟨ge, 0, none⟩) 2 ce, .slice none 0 0, .slice (some ⟨gg, 0, none⟩) 1 cg, .slice none 0 0, .slice none 0 0, .slice none 0 0]] w (qcc w (.nilIface)) := by
 have HM := qHd h; have LM := qHd h.lt; clear h
 have HB := qHd (Below.refl w.heap.size w)
 go_enter Tryz.func77, Tryz.ntmps77
 go_wp2_with (with_reducible refine qag 11 ?_)
 obtain ⟨w2, hw_3, hb_3, g1, hg_3, Gg1, LO_g1⟩ := qcd HB.out.size (.cells #[.string ⟨#[109]⟩, .string ⟨#[103]⟩, .slice (some ⟨ge, 0, none⟩) 2 ce, .slice none 0 0, .slice (some ⟨gg, 0, none⟩) 1 cg, .slice none 0 0, .slice none 0 0, .slice none 0 0] 44)
 rw [← hw_3, ← hg_3]
 replace HM := qHd (HM.out.below hb_3)
 replace HB := qHd (HB.out.trans (hb_3.mono HB.out.size))
 clear hw_3 hg_3 hb_3
 refine qad.mk ?_
 have x4 : w2.cell? ⟨g1, 6, none⟩ = some (.slice none 0 0) := cell_of_row _ _ _ _ _ _ (Gg1.out)
 go_wp2_with (with_reducible first | refine qah ?_ | refine qae ?_)
 clear x4
 refine qad.mk ?_
 refine wp_loop_rounds 1 ?_
 rw [rounds_succ]
 go_wp2_with fail
 go_ret
 exact ⟨rfl, HB.out⟩
theorem checkPhases_m {ge ce gg cg gi ci : Nat} (w : World) (h : Md w ge ce gg cg gi ci) :
  Calls Tryz.prog 78 #[.agg #[.string ⟨#[109]⟩, .string ⟨#[103]⟩, .slice (some ⟨ge, 0, none⟩) 2 ce, .slice none 0 0, .slice (some ⟨gg, 0, none⟩) 1 cg, .slice none 0 0, .slice none 0 0, .slice none 0 0]] w (qcc w (.nilIface)) := by
 have HM := qHd h; have LM := qHd h.lt; clear h
 have HB := qHd (Below.refl w.heap.size w)
 go_enter Tryz.func78, Tryz.ntmps78
 go_wp2_with (with_reducible refine qag 8 ?_)
 obtain ⟨w2, hw_3, hb_3, g1, hg_3, Gg1, LO_g1⟩ := qcd HB.out.size (.cells #[.string ⟨#[109]⟩, .string ⟨#[103]⟩, .slice (some ⟨ge, 0, none⟩) 2 ce, .slice none 0 0, .slice (some ⟨gg, 0, none⟩) 1 cg, .slice none 0 0, .slice none 0 0, .slice none 0 0] 44)
 rw [← hw_3, ← hg_3]
 replace HM := qHd (HM.out.below hb_3)
 replace HB := qHd (HB.out.trans (hb_3.mono HB.out.size))
 clear hw_3 hg_3 hb_3
 refine qad.mk ?_
 have x4 : w2.cell? ⟨g1, 7, none⟩ = some (.slice none 0 0) := cell_of_row _ _ _ _ _ _ (Gg1.out)
 go_wp2_with (with_reducible first | refine qah ?_ | refine qae ?_)
 clear x4
 refine qad.mk ?_
 refine wp_loop_rounds 1 ?_
 rw [rounds_succ]
 go_wp2_with fail
 go_ret
 exact ⟨rfl, HB.out⟩
theorem checkGates_m {ge ce gg cg gi ci : Nat} (w : World) (h : Md w ge ce gg cg gi ci) :
  Calls Tryz.prog 74 #[.agg #[.string ⟨#[109]⟩, .string ⟨#[103]⟩, .slice (some ⟨ge, 0, none⟩) 2 ce, .slice none 0 0, .slice (some ⟨gg, 0, none⟩) 1 cg, .slice none 0 0, .slice none 0 0, .slice none 0 0], .int .i64 (-1)] w (qcc w (.nilIface)) := by
 have HM := qHd h; have LM := qHd h.lt; clear h
 have HB := qHd (Below.refl w.heap.size w)
 go_enter Tryz.func74, Tryz.ntmps74
 go_wp2_with (with_reducible refine qag 9 ?_)
 obtain ⟨w2, hw_3, hb_3, g1, hg_3, Gg1, LO_g1⟩ := qcd HB.out.size (.cells #[.string ⟨#[109]⟩, .string ⟨#[103]⟩, .slice (some ⟨ge, 0, none⟩) 2 ce, .slice none 0 0, .slice (some ⟨gg, 0, none⟩) 1 cg, .slice none 0 0, .slice none 0 0, .slice none 0 0] 44)
 rw [← hw_3, ← hg_3]
 replace HM := qHd (HM.out.below hb_3)
 replace HB := qHd (HB.out.trans (hb_3.mono HB.out.size))
 clear hw_3 hg_3 hb_3
 refine qad.mk ?_
 obtain ⟨x4, x5, x6, x7, x8, x9, x10, x11⟩ := qcq Gg1.out
 go_wp2_with (with_reducible refine qac ?_)
 clear x4 x5 x6 x7 x8 x9 x10 x11
 refine qad.mk ?_
 have HK := qHd (gatesOf_m w2 HM.out)
 (with_reducible refine HK.out.mono ?_); rintro e w12 ⟨rfl, hb⟩; clear HK
 replace HM := qHd (HM.out.below hb)
 replace Gg1 := qHd (qaa Gg1.out hb)
 replace HB := qHd (HB.out.trans (hb.mono HB.out.size))
 clear hb
 go_wp2_with (with_reducible first | refine qah ?_ | refine qae ?_)
 refine qad.mk ?_
 refine wp_loop_rounds 2 ?_
 rw [rounds_succ]
 obtain ⟨x14, x15, x16, x17, x18, x19, x20⟩ := HM.out.g0
 go_wp2_with (with_reducible refine qaf 107 ?_)
 clear x14 x15 x16 x17 x18 x19 x20
 obtain ⟨w21, hw_22, hb_22, g13, hg_22, Gg13, LO_g13⟩ := qcd HB.out.size (.cells #[.string ⟨#[]⟩, .int .i64 0, .int .i64 0, .slice none 0 0, .bool false, .slice none 0 0, .slice none 0 0] 107)
 rw [← hw_22, ← hg_22]
 replace HM := qHd (HM.out.below hb_22)
 replace Gg1 := qHd (qaa Gg1.out hb_22)
 replace HB := qHd (HB.out.trans (hb_22.mono HB.out.size))
 clear hw_22 hg_22 hb_22
 refine qau g13 [.string ⟨#[103]⟩, .int .i64 0, .int .i64 0, .slice (some ⟨gi, 0, none⟩) 2 ci, .bool false, .slice none 0 0, .slice none 0 0] Gg13.out rfl rfl rfl (by kernel_rfl) rfl ?_
 intro w23 hx_ hgn
 have q_ := (And.intro (qHd (HM.out.exc hx_ (fun hm => by simp only [List.mem_cons, List.not_mem_nil, or_false] at hm; have h1 := LM.out; have h_g13 := LO_g13.out; omega) (fun hm => by simp only [List.mem_cons, List.not_mem_nil, or_false] at hm; have h1 := LM.out; have h_g13 := LO_g13.out; omega) (fun hm => by simp only [List.mem_cons, List.not_mem_nil, or_false] at hm; have h1 := LM.out; have h_g13 := LO_g13.out; omega))) (qHd (hx_.heap Gg1.out (fun hm => qaw Gg1.out Gg13.out (by simp) (List.mem_singleton.1 hm))))); clear HM Gg1; obtain ⟨HM, Gg1⟩ := q_
 replace HB := qHd (hx_.low HB.out HB.out.size (fun g hg => by rw [List.mem_singleton.1 hg]; exact LO_g13.out))
 replace Gg13 := qHd hgn
 clear hx_ hgn
 have x24 : w23.cell? ⟨g13, 0, none⟩ = some (.string ⟨#[103]⟩) := cell_of_row _ _ _ _ _ _ (Gg13.out)
 go_wp2_with (with_reducible refine qac ?_)
 clear x24
 refine qad.mk ?_
 have HK := qHd (name_g w23)
 (with_reducible refine HK.out.mono ?_); rintro e w25 ⟨rfl, hb⟩; clear HK
 replace HM := qHd (HM.out.below hb)
 replace Gg1 := qHd (qaa Gg1.out hb)
 replace Gg13 := qHd (qaa Gg13.out hb)
 replace HB := qHd (HB.out.trans (hb.mono HB.out.size))
 clear hb
 obtain ⟨x26, x27, x28, x29, x30, x31, x32, x33⟩ := qcq Gg1.out
 have x34 : w25.cell? ⟨g13, 0, none⟩ = some (.string ⟨#[103]⟩) := cell_of_row _ _ _ _ _ _ (Gg13.out)
 go_wp2_with (with_reducible refine qac ?_)
 clear x26 x27 x28 x29 x30 x31 x32 x33 x34
 refine qad.mk ?_
 have HK := qHd (event_g w25 HM.out)
 (with_reducible refine HK.out.mono ?_); rintro e w35 ⟨rfl, hb⟩; clear HK
 replace HM := qHd (HM.out.below hb)
 replace Gg1 := qHd (qaa Gg1.out hb)
 replace Gg13 := qHd (qaa Gg13.out hb)
 replace HB := qHd (HB.out.trans (hb.mono HB.out.size))
 clear hb
 obtain ⟨x36, x37, x38, x39, x40, x41, x42, x43⟩ := qcq Gg1.out
 have x44 : w35.cell? ⟨g13, 0, none⟩ = some (.string ⟨#[103]⟩) := cell_of_row _ _ _ _ _ _ (Gg13.out)
 go_wp2_with (with_reducible refine qac ?_)
 clear x36 x37 x38 x39 x40 x41 x42 x43 x44
 refine qad.mk ?_
 have HK := qHd (house_g w35 HM.out)
 (with_reducible refine HK.out.mono ?_); rintro e w45 ⟨rfl, hb⟩; clear HK
 replace HM := qHd (HM.out.below hb)
 replace Gg1 := qHd (qaa Gg1.out hb)
 replace Gg13 := qHd (qaa Gg13.out hb)
 replace HB := qHd (HB.out.trans (hb.mono HB.out.size))
 clear hb
 have x46 : w45.cell? ⟨g13, 0, none⟩ = some (.string ⟨#[103]⟩) := cell_of_row _ _ _ _ _ _ (Gg13.out)
 go_wp2_with (with_reducible refine qac ?_)
 clear x46
 refine qad.mk ?_
 have HK := qHd (gate_g w45 HM.out)
 (with_reducible refine HK.out.mono ?_); rintro e w47 ⟨rfl, hb⟩; clear HK
 replace HM := qHd (HM.out.below hb)
 replace Gg1 := qHd (qaa Gg1.out hb)
 replace Gg13 := qHd (qaa Gg13.out hb)
 replace HB := qHd (HB.out.trans (hb.mono HB.out.size))
 clear hb
 obtain ⟨x48, x49, x50, x51, x52, x53, x54⟩ := row7m Gg13.out
 go_wp2_with (with_reducible refine qac ?_)
 clear x48 x49 x50 x51 x52 x53 x54
 refine qad.mk ?_
 have HK := qHd (checkGate_m w47 HM.out)
 (with_reducible refine HK.out.mono ?_); rintro e w55 ⟨rfl, hb⟩; clear HK
 replace HM := qHd (HM.out.below hb)
 replace Gg1 := qHd (qaa Gg1.out hb)
 replace Gg13 := qHd (qaa Gg13.out hb)
 replace HB := qHd (HB.out.trans (hb.mono HB.out.size))
 clear hb
 go_wp2_with (with_reducible first | refine qah ?_ | refine qae ?_)
 refine qad.mk ?_
 rw [rounds_succ]
 go_wp2_with fail
 go_ret
 exact ⟨rfl, HB.out⟩
theorem checkInputs_m {ge ce gg cg gi ci : Nat} (w : World) (h : Md w ge ce gg cg gi ci) :
  Calls Tryz.prog 75 #[.agg #[.string ⟨#[109]⟩, .string ⟨#[103]⟩, .slice (some ⟨ge, 0, none⟩) 2 ce, .slice none 0 0, .slice (some ⟨gg, 0, none⟩) 1 cg, .slice none 0 0, .slice none 0 0, .slice none 0 0], .int .i64 (-1), .slice none 0 0] w (qcc w (.tuple #[.slice none 0 0, .nilIface])) := by
 have HM := qHd h; have LM := qHd h.lt; clear h
 have HB := qHd (Below.refl w.heap.size w)
 go_enter Tryz.func75, Tryz.ntmps75
 go_wp2_with (with_reducible refine qag 13 ?_)
 obtain ⟨w2, hw_3, hb_3, g1, hg_3, Gg1, LO_g1⟩ := qcd HB.out.size (.cells #[.string ⟨#[109]⟩, .string ⟨#[103]⟩, .slice (some ⟨ge, 0, none⟩) 2 ce, .slice none 0 0, .slice (some ⟨gg, 0, none⟩) 1 cg, .slice none 0 0, .slice none 0 0, .slice none 0 0] 44)
 rw [← hw_3, ← hg_3]
 replace HM := qHd (HM.out.below hb_3)
 replace HB := qHd (HB.out.trans (hb_3.mono HB.out.size))
 clear hw_3 hg_3 hb_3
 refine qad.mk ?_
 obtain ⟨x4, x5, x6, x7, x8, x9, x10, x11⟩ := qcq Gg1.out
 go_wp2_with (with_reducible refine qac ?_)
 clear x4 x5 x6 x7 x8 x9 x10 x11
 refine qad.mk ?_
 have HK := qHd (gatesOf_m w2 HM.out)
 (with_reducible refine HK.out.mono ?_); rintro e w12 ⟨rfl, hb⟩; clear HK
 replace HM := qHd (HM.out.below hb)
 replace Gg1 := qHd (qaa Gg1.out hb)
 replace HB := qHd (HB.out.trans (hb.mono HB.out.size))
 clear hb
 go_wp2_with (with_reducible first | refine qah ?_ | refine qae ?_)
 refine qad.mk ?_
 refine wp_loop_rounds 2 ?_
 rw [rounds_succ]
 obtain ⟨x14, x15, x16, x17, x18, x19, x20⟩ := HM.out.g0
 go_wp2_with (with_reducible refine qaf 107 ?_)
 clear x14 x15 x16 x17 x18 x19 x20
 obtain ⟨w21, hw_22, hb_22, g13, hg_22, Gg13, LO_g13⟩ := qcd HB.out.size (.cells #[.string ⟨#[]⟩, .int .i64 0, .int .i64 0, .slice none 0 0, .bool false, .slice none 0 0, .slice none 0 0] 107)
 rw [← hw_22, ← hg_22]
 replace HM := qHd (HM.out.below hb_22)
 replace Gg1 := qHd (qaa Gg1.out hb_22)
 replace HB := qHd (HB.out.trans (hb_22.mono HB.out.size))
 clear hw_22 hg_22 hb_22
 refine qau g13 [.string ⟨#[103]⟩, .int .i64 0, .int .i64 0, .slice (some ⟨gi, 0, none⟩) 2 ci, .bool false, .slice none 0 0, .slice none 0 0] Gg13.out rfl rfl rfl (by kernel_rfl) rfl ?_
 intro w23 hx_ hgn
 have q_ := (And.intro (qHd (HM.out.exc hx_ (fun hm => by simp only [List.mem_cons, List.not_mem_nil, or_false] at hm; have h1 := LM.out; have h_g13 := LO_g13.out; omega) (fun hm => by simp only [List.mem_cons, List.not_mem_nil, or_false] at hm; have h1 := LM.out; have h_g13 := LO_g13.out; omega) (fun hm => by simp only [List.mem_cons, List.not_mem_nil, or_false] at hm; have h1 := LM.out; have h_g13 := LO_g13.out; omega))) (qHd (hx_.heap Gg1.out (fun hm => qaw Gg1.out Gg13.out (by simp) (List.mem_singleton.1 hm))))); clear HM Gg1; obtain ⟨HM, Gg1⟩ := q_
 replace HB := qHd (hx_.low HB.out HB.out.size (fun g hg => by rw [List.mem_singleton.1 hg]; exact LO_g13.out))
 replace Gg13 := qHd hgn
 clear hx_ hgn
 have x24 : w23.cell? ⟨g13, 3, none⟩ = some (.slice (some ⟨gi, 0, none⟩) 2 ci) := cell_of_row _ _ _ _ _ _ (Gg13.out)
 go_wp2_with (with_reducible first | refine qah ?_ | refine qae ?_)
 clear x24
 refine qad.mk ?_
 refine wp_loop_rounds 3 ?_
 rw [rounds_succ]
 have x25 : w23.cell? ⟨gi, 0, none⟩ = some (.string ⟨#[97]⟩) := HM.out.inp.1
 obtain ⟨x26, x27, x28, x29, x30, x31, x32, x33⟩ := qcq Gg1.out
 go_wp2_with (with_reducible refine qac ?_)
 clear x25 x26 x27 x28 x29 x30 x31 x32 x33
 refine qad.mk ?_
 have HK := qHd (isInput_a w23 HM.out)
 (with_reducible refine HK.out.mono ?_); rintro e w34 ⟨rfl, hb⟩; clear HK
 replace HM := qHd (HM.out.below hb)
 replace Gg1 := qHd (qaa Gg1.out hb)
 replace Gg13 := qHd (qaa Gg13.out hb)
 replace HB := qHd (HB.out.trans (hb.mono HB.out.size))
 clear hb
 obtain ⟨x35, x36, x37, x38, x39, x40, x41⟩ := row7m Gg13.out
 go_wp2_with (with_reducible refine qac ?_)
 clear x35 x36 x37 x38 x39 x40 x41
 refine qad.mk ?_
 have HK := qHd (mustBe_0 w34 HM.out)
 (with_reducible refine HK.out.mono ?_); rintro e w42 ⟨rfl, hb⟩; clear HK
 replace HM := qHd (HM.out.below hb)
 replace Gg1 := qHd (qaa Gg1.out hb)
 replace Gg13 := qHd (qaa Gg13.out hb)
 replace HB := qHd (HB.out.trans (hb.mono HB.out.size))
 clear hb
 have x43 : w42.cell? ⟨g13, 1, none⟩ = some (.int .i64 0) := cell_of_row _ _ _ _ _ _ (Gg13.out)
 go_wp2_with (with_reducible first | refine qah ?_ | refine qae ?_)
 clear x43
 refine qad.mk ?_
 rw [rounds_succ]
 have x44 : w42.cell? ⟨gi, 1, none⟩ = some (.string ⟨#[98]⟩) := HM.out.inp.2
 obtain ⟨x45, x46, x47, x48, x49, x50, x51, x52⟩ := qcq Gg1.out
 go_wp2_with (with_reducible refine qac ?_)
 clear x44 x45 x46 x47 x48 x49 x50 x51 x52
 refine qad.mk ?_
 have HK := qHd (isInput_b w42 HM.out)
 (with_reducible refine HK.out.mono ?_); rintro e w53 ⟨rfl, hb⟩; clear HK
 replace HM := qHd (HM.out.below hb)
 replace Gg1 := qHd (qaa Gg1.out hb)
 replace Gg13 := qHd (qaa Gg13.out hb)
 replace HB := qHd (HB.out.trans (hb.mono HB.out.size))
 clear hb
 obtain ⟨x54, x55, x56, x57, x58, x59, x60⟩ := row7m Gg13.out
 go_wp2_with (with_reducible refine qac ?_)
 clear x54 x55 x56 x57 x58 x59 x60
 refine qad.mk ?_
 have HK := qHd (mustBe_1 w53 HM.out)
 (with_reducible refine HK.out.mono ?_); rintro e w61 ⟨rfl, hb⟩; clear HK
 replace HM := qHd (HM.out.below hb)
 replace Gg1 := qHd (qaa Gg1.out hb)
 replace Gg13 := qHd (qaa Gg13.out hb)
 replace HB := qHd (HB.out.trans (hb.mono HB.out.size))
 clear hb
 have x62 : w61.cell? ⟨g13, 1, none⟩ = some (.int .i64 0) := cell_of_row _ _ _ _ _ _ (Gg13.out)
 go_wp2_with (with_reducible first | refine qah ?_ | refine qae ?_)
 clear x62
 refine qad.mk ?_
 rw [rounds_succ]
 go_wp2_with (with_reducible first | refine qah ?_ | refine qae ?_)
 refine qad.mk ?_
 rw [rounds_succ]
 go_wp2_with fail
 go_ret2
 exact ⟨rfl, HB.out⟩
theorem Tryz.rowTh : (193 : TypeId) < Tryz.prog.types.size := of_decide_eq_true (by kernel_rfl)
theorem Tryz.cellsTh : Tryz.prog.cellsOf 193 = 3 := by kernel_rfl
theorem Tryz.wideTh : (match Tryz.prog.underlying 193 with | some (.array _ _) | some (.struct _) => true | _ => false) = true := by rw [Tryz.underlying193]
theorem Tryz.ktaTh : Tryz.prog.keyTypeAt 2 193 = true := by kernel_rfl
theorem Tryz.lawTh : Maps.Keyed Tryz.prog 193 := Maps.Keyed.of_law (deep_law_laid Tryz.laidB (m := 2) (by omega) Tryz.rowTh Tryz.ktaTh Tryz.wideTh)
theorem Tryz.ktTh : Tryz.prog.keyType 193 = true := by kernel_rfl
theorem Tryz.formedTh {c0 c1 c2 : Value} : (Value.agg #[c0, c1, c2]).formed Tryz.prog 193 = true := by simp [Value.formed, Tryz.underlying193, Tryz.cellsTh]
theorem Tryz.keyTh {k i j : Int} (hk : I64 k) (hi : I64 i) (hj : I64 j) : keyOf Tryz.prog 193 (.agg #[.int .i64 k, .int .i64 i, .int .i64 j]) = some (rowK [k, i, j]) := by
 obtain ⟨d, hd⟩ : ∃ d, Tryz.prog.types.size = d + 1 := ⟨Tryz.prog.types.size - 1, (Nat.succ_pred_eq_of_pos (Nat.lt_of_le_of_lt (Nat.zero_le _) Tryz.rowTh)).symm⟩
 unfold keyOf
 rw [Tryz.underlying193]
 simp only [Tryz.ktTh, Tryz.formedTh, Bool.and_self, if_true, hd]
 have e : Tryz.prog.keyLits (d + 1 + 1) 193 (Value.agg #[.int .i64 k, .int .i64 i, .int .i64 j]).cells.toList = some [.int .i64 k, .int .i64 i, .int .i64 j] := by
  show Tryz.prog.keyLits (d + 1 + 1) 193 [.int .i64 k, .int .i64 i, .int .i64 j] = _
  unfold Program.keyLits
  rw [Tryz.underlying193]
  simp [Tryz.cellsTh, Tryz.cellsI, Tryz.litsI d hk, Tryz.litsI d hi, Tryz.litsI d hj]
 rw [e]; rfl
theorem Tryz.ktyTh : KTy Tryz.prog 193 190 3 3 := ⟨Tryz.lawTh, Tryz.underlying190, Tryz.underlying3, fun w => by kernel_rfl, fun xs hl hI => by
 match xs, hl with
 | [a, b, c], _ => exact Tryz.keyTh (hI a (by simp)) (hI b (by simp)) (hI c (by simp))⟩
theorem Tryz.rowKe : (197 : TypeId) < Tryz.prog.types.size := of_decide_eq_true (by kernel_rfl)
theorem Tryz.cellsKe : Tryz.prog.cellsOf 197 = 3 := by kernel_rfl
theorem Tryz.wideKe : (match Tryz.prog.underlying 197 with | some (.array _ _) | some (.struct _) => true | _ => false) = true := by rw [Tryz.underlying197]
theorem Tryz.ktaKe : Tryz.prog.keyTypeAt 2 197 = true := by kernel_rfl
theorem Tryz.lawKe : Maps.Keyed Tryz.prog 197 := Maps.Keyed.of_law (deep_law_laid Tryz.laidB (m := 2) (by omega) Tryz.rowKe Tryz.ktaKe Tryz.wideKe)
theorem Tryz.ktKe : Tryz.prog.keyType 197 = true := by kernel_rfl
theorem Tryz.formedKe {c0 c1 c2 : Value} : (Value.agg #[c0, c1, c2]).formed Tryz.prog 197 = true := by simp [Value.formed, Tryz.underlying197, Tryz.cellsKe]
theorem Tryz.keyKe {k i j : Int} (hk : I64 k) (hi : I64 i) (hj : I64 j) : keyOf Tryz.prog 197 (.agg #[.int .i64 k, .int .i64 i, .int .i64 j]) = some (rowK [k, i, j]) := by
 obtain ⟨d, hd⟩ : ∃ d, Tryz.prog.types.size = d + 1 := ⟨Tryz.prog.types.size - 1, (Nat.succ_pred_eq_of_pos (Nat.lt_of_le_of_lt (Nat.zero_le _) Tryz.rowKe)).symm⟩
 unfold keyOf
 rw [Tryz.underlying197]
 simp only [Tryz.ktKe, Tryz.formedKe, Bool.and_self, if_true, hd]
 have e : Tryz.prog.keyLits (d + 1 + 1) 197 (Value.agg #[.int .i64 k, .int .i64 i, .int .i64 j]).cells.toList = some [.int .i64 k, .int .i64 i, .int .i64 j] := by
  show Tryz.prog.keyLits (d + 1 + 1) 197 [.int .i64 k, .int .i64 i, .int .i64 j] = _
  unfold Program.keyLits
  rw [Tryz.underlying197]
  simp [Tryz.cellsKe, Tryz.cellsI, Tryz.litsI d hk, Tryz.litsI d hi, Tryz.litsI d hj]
 rw [e]; rfl
theorem Tryz.ktyKe : KTy Tryz.prog 197 154 3 3 := ⟨Tryz.lawKe, Tryz.underlying154, Tryz.underlying3, fun w => by kernel_rfl, fun xs hl hI => by
 match xs, hl with
 | [a, b, c], _ => exact Tryz.keyKe (hI a (by simp)) (hI b (by simp)) (hI c (by simp))⟩
section
variable {P : Program} {ops : Array Oper} {md : Region.Mode}
theorem DrawInv.nextE {n i : Nat} {oi : Oper} {F : Nat → Value → World → Prop} {AL : Nat → Bool} {w0 w w' : World} {a0 a : Act} {listed : Array Bool} {v : Value} (ok : HeadOK md ops n i oi)
  (hF : ∀ i v w1 w2, F i v w1 → Below w1.heap.size w1 w2 → F i v w2) (inv : DrawInv md ops n F AL w0 a0 listed a w) (hi : i ∈ Region.ready md ops listed) (hin : i < n) (hoi : ops[i]? = some oi)
  (h : Leaves F AL i w v w') : DrawInv md ops n F AL w0 a0 (listed.setIfInBounds i true) (a.put oi.dst v) w' := by
 obtain ⟨hiu, oi', hoi', hdeps⟩ := mem_ready.1 hi
 have : oi' = oi := Option.some.inj (hoi'.symm.trans hoi)
 subst this
 have hiu' := getD_both hiu
 have his : i < listed.size := by rw [inv.head.size]; exact (Array.getElem?_eq_some_iff.1 hoi).1
 have hdst : qcf ops i = oi'.dst := by unfold qcf; rw [hoi]; rfl
 obtain ⟨vals, rfl, hv, hg, hd⟩ := inv.vals
 obtain ⟨hb, hf, hal⟩ := h
 refine ⟨inv.head.set hi hin, inv.below.trans (hb.mono inv.below.size), fun j => if j = i then v else vals j, ?_, ?_, ?_, ?_⟩
 ·rw [← hdst, ← putsTo_set hiu' n hin (fun j hj hji => by rw [hdst]; exact ok.dst j hj hji)]
  refine qdc fun j hj => ⟨?_, fun _ => rfl⟩
  by_cases hji : j = i
  ·subst hji; rw [if_pos rfl]; simp [his]
  ·rw [if_neg hji, getD_set_ne false (Ne.symm hji)]
 ·intro j hj hl
  show F j (if j = i then v else vals j) w'
  by_cases hji : j = i
  ·subst hji; rw [if_pos rfl]; exact hf
  ·rw [if_neg hji]
   rw [getD_set_ne false (Ne.symm hji)] at hl
   exact hF _ _ _ _ (hv j hj hl) hb
 ·intro j hj hl aj
  show ∃ g, (if j = i then v else vals j) = _ ∧ _
  by_cases hji : j = i
  ·subst hji; rw [if_pos rfl]
   obtain ⟨e1, e2⟩ := hal aj
   exact ⟨_, e1, e2⟩
  ·rw [if_neg hji]
   rw [getD_set_ne false (Ne.symm hji)] at hl
   obtain ⟨g, e1, e2⟩ := hg j hj hl aj
   exact ⟨g, e1, Nat.lt_of_lt_of_le e2 hb.size⟩
 ·intro j k' hj hk' hjk hl hl' aj ak
  show (if j = i then v else vals j) ≠ (if k' = i then v else vals k')
  by_cases hji : j = i
  ·subst hji
   have hki : k' ≠ j := fun e => hjk e.symm
   rw [if_pos rfl, if_neg hki]
   rw [getD_set_ne false (Ne.symm hki)] at hl'
   obtain ⟨e1, e2⟩ := hal aj
   obtain ⟨g, e3, e4⟩ := hg k' hk' hl' ak
   rw [e1, e3]
   intro h
   cases h; omega
  ·rw [if_neg hji]
   rw [getD_set_ne false (Ne.symm hji)] at hl
   by_cases hki : k' = i
   ·subst hki
    rw [if_pos rfl]
    obtain ⟨e1, e2⟩ := hal ak
    obtain ⟨g, e3, e4⟩ := hg j hj hl aj
    rw [e1, e3]
    intro h
    cases h; omega
   ·rw [if_neg hki]
    rw [getD_set_ne false (Ne.symm hki)] at hl'
    exact hd j k' hj hk' hjk hl hl' aj ak
def headE (md : Region.Mode) (ops : Array Oper) : Bool :=
 Region.noSelect ops && ((List.range ops.size).all fun k => match ops[k]? with
  | none => false
  | some o => (match o.guard with | none => true | some (g, _) => decide (g < ops.size) && Region.waitsFor md ops k g) && (o.after.all fun e => !Region.binds md e || decide (e.on < k)) &&
   ((List.range ops.size).all fun j => (j == k || o.dst.isNone || decide (qcf ops j ≠ o.dst)) &&
    (o.op.operands.all fun x => match x with
     | .tmp t => decide (qcf ops j ≠ some t) || Region.waitsFor md ops k j
     | _ => true)))
theorem headE_ok {k : Nat} {o : Oper} (h : headE md ops = true) (hk : k < ops.size) (ho : ops[k]? = some o) : HeadOK md ops ops.size k o := by
 unfold headE at h
 simp only [Bool.and_eq_true] at h
 have h1 := List.all_eq_true.1 h.2 k (List.mem_range.2 hk)
 rw [ho] at h1
 simp only [Bool.and_eq_true, List.all_eq_true, List.mem_range] at h1
 obtain ⟨⟨g1, g2⟩, g3⟩ := h1
 refine ⟨fun g b hg => by
  rw [hg] at g1
  simpa using g1, fun e he hb => ?_, fun j hj hjk d hd => ?_, fun x hx t ht j hj hd => ?_⟩
 ·have := Array.all_eq_true_iff_forall_mem.1 g2 e he
  rw [hb] at this; simpa using this
 ·have := (g3 j hj).1
  rw [hd] at this
  simp only [Bool.or_eq_true, beq_iff_eq, Option.isNone_some, Bool.false_eq_true, or_false, decide_eq_true_eq] at this
  rcases this with h | h
  ·exact absurd h hjk
  ·exact h
 ·have := Array.all_eq_true_iff_forall_mem.1 (g3 j hj).2 x hx
  subst ht
  simp only [Bool.or_eq_true, decide_eq_true_eq] at this
  rcases this with h | h
  ·exact absurd hd h
  ·exact h
theorem wpAny_of_factsE {Q : Exit → Act → World → Prop} {F : Nat → Value → World → Prop} {AL : Nat → Bool} {w0 : World} {a0 : Act} (hB : headE md ops = true)
  (hF : ∀ i v w1 w2, F i v w1 → Below w1.heap.size w1 w2 → F i v w2)
  (hstep : ∀ i o, i < ops.size → ops[i]? = some o → ∀ (vals : Nat → Value) (w1 : World), Below w0.heap.size w0 w1 → (∀ j, Region.waitsFor md ops i j = true → F j (vals j) w1) →
   StepG P ops o (qat ops (fun _ => true) vals a0 ops.size) w1 (Leaves F AL i w1))
  (hend : ∀ (vals : Nat → Value) (w1 : World), Below w0.heap.size w0 w1 → (∀ i, i < ops.size → F i (vals i) w1) → (∀ i j, i < ops.size → j < ops.size → i ≠ j → AL i = true → AL j = true → vals i ≠ vals j) →
   Q .normal (qat ops (fun _ => true) vals a0 ops.size) w1) :
  ∀ (m : Nat) (listed : Array Bool) (a : Act) (w : World), unl listed ops.size = m → DrawInv md ops ops.size F AL w0 a0 listed a w → wpAny P md ops Q m listed a w := by
 have hsel : Region.noSelect ops = true := by
  unfold headE at hB
  simp only [Bool.and_eq_true] at hB
  exact hB.1
 intro m
 induction m with
 | zero =>
  intro listed a w hm inv
  have hall := unl_zero ops.size hm
  obtain ⟨vals, rfl, hv, _, hd⟩ := inv.vals
  refine ⟨?_, ?_⟩
  ·rw [List.eq_nil_iff_forall_not_mem]
   intro i hi
   obtain ⟨hiu, oi, hoi, _⟩ := mem_ready.1 hi
   have := hall i (Array.getElem?_eq_some_iff.1 hoi).1
   rw [getD_both hiu] at this; cases this
  ·have h1 := hend vals w inv.below (fun i hi => hv i hi (hall i hi)) (fun i j hi hj hij ai aj => hd i j hi hj hij (hall i hi) (hall j hj) ai aj)
   rw [qdc (l' := fun _ => true) (v' := vals) (fun j hj => ⟨hall j hj, fun _ => rfl⟩)]
   exact h1
 | succ m ih =>
  intro listed a w hm inv
  obtain ⟨k, hk, hku, hkl⟩ := unl_first (listed := listed) ops.size (by omega)
  have hks : k < listed.size := by rw [inv.head.size]; omega
  have hkt := getD_in hks hku
  have hready : k ∈ Region.ready md ops listed := by
   rw [mem_ready]
   refine ⟨hkt, ops[k]'(by omega), by rw [Array.getElem?_eq_getElem], fun e he hb => ?_⟩
   exact hkl _ ((headE_ok hB hk (Array.getElem?_eq_getElem (by omega))).early e he hb)
  refine ⟨fun h0 => (by rw [h0] at hready; cases hready), fun i hi => ?_⟩
  obtain ⟨hiu, oi, hoi, hdeps⟩ := mem_ready.1 hi
  have hin : i < ops.size := (Array.getElem?_eq_some_iff.1 hoi).1
  have ok := headE_ok hB hin hoi
  have his : i < listed.size := by rw [inv.head.size]; exact hin
  obtain ⟨ha, hv, _, _⟩ := Classical.choose_spec inv.vals
  have hwl : ∀ j, Region.waitsFor md ops i j = true → listed.getD j false = true := fun j hj => by
   obtain ⟨o', ho', e, he, hb, hon⟩ := Region.waitsFor_spec hj
   have : o' = oi := Option.some.inj (ho'.symm.trans hoi)
   subst this
   rw [← hon]; exact hdeps e he hb
  have hwn : ∀ j, Region.waitsFor md ops i j = true → j < ops.size := fun j hj => by
   obtain ⟨o', ho', e, he, hb, hon⟩ := Region.waitsFor_spec hj
   have : o' = oi := Option.some.inj (ho'.symm.trans hoi)
   subst this
   have := ok.early e he hb; omega
  have hdp : ∀ j, Region.waitsFor md ops i j = true → F j (Classical.choose inv.vals j) w := fun j hj => hv j (hwn j hj) (hwl j hj)
  have hu : unl (listed.setIfInBounds i true) ops.size = m := by have := unl_set his (getD_both hiu) ops.size hin; omega
  have e := execOp_congr oi (ρ := (qat ops (fun j => listed.getD j false) (Classical.choose inv.vals) a0 ops.size).eval) (ρ' := (qat ops (fun _ => true) (Classical.choose inv.vals) a0 ops.size).eval) (fun cs b => Region.noSelect_spec hsel i oi cs b hoi)
   fun x hx => (putsTo_eval ops.size (fun t ht j hj hdj => hwl j (ok.reads x hx t ht j hj hdj))).1
  have e2 := putsTo_wanted (ops := ops) (l := fun j => listed.getD j false) (vals := Classical.choose inv.vals) (a := a0) (o := oi) ops.size (fun g b hg t ht j hj hdj => by
   obtain ⟨hgn, hw⟩ := ok.guard g b hg
   by_cases hjg : j = g
   ·subst hjg; exact hwl _ hw
   ·exfalso
    have okg := headE_ok hB hgn (Array.getElem?_eq_getElem hgn)
    refine okg.dst j hj hjg t ?_ hdj
    unfold qcf at ht
    rw [Array.getElem?_eq_getElem hgn] at ht; exact ht)
  rw [← ha] at e e2
  have st := hstep i oi hin hoi (Classical.choose inv.vals) w inv.below hdp
  refine wpOp_of_stepG hoi e2 e st ?_
  intro v w' hL
  exact ih _ _ _ hu (inv.nextE ok hF hi hin hoi hL)
theorem qbz {id : Nat} {Q : Exit → Act → World → Prop} {a : Act} {w : World} {l : List Oper} {A : (Nat → Value) → Act} (n : Nat) (hn : l.length = n) (hm : P.follows .mixedOrders = true) (F : Nat → Value → World → Prop) (AL : Nat → Bool)
  (hB : headE .any l.toArray = true)
  (hF : ∀ i v w1 w2, F i v w1 → Below w1.heap.size w1 w2 → F i v w2)
  (hA : ∀ vals : Nat → Value, qat l.toArray (fun _ => true) vals a n = A vals)
  (hstep : stepsOK P .any l.toArray [] F AL w A l 0)
  (hend : ∀ (vals : Nat → Value) (w1 : World), Below w.heap.size w w1 → (∀ i, i < n → F i (vals i) w1) → (∀ i j, i < n → j < n → i ≠ j → AL i = true → AL j = true → vals i ≠ vals j) →
   Q .normal (A vals) w1) : (Code.region id l.toArray true).wp P Q a w := by
 subst hn
 refine wp_region_any hm ?_
 have hz : l.toArray.size = l.length := by simp
 have hu : ∀ k, unl (Array.replicate l.toArray.size false) k = k := fun k => by
  induction k with
  | zero => rfl
  | succ k ih => unfold unl; rw [ih, getD_replicate_false]; rfl
 have key := wpAny_of_factsE (P := P) (Q := Q) (F := F) (AL := AL) (w0 := w) (a0 := a) hB hF (fun i o hi ho vals w1 hb hd => by
   have := stepsOK_at l 0 hstep i o (by simpa using ho)
   rw [Nat.zero_add] at this; rw [hz, hA]
   have t := this vals w1 hb hd
   rwa [if_neg (by simp)] at t) (fun vals w1 hb hf hd => by rw [hz, hA]; exact hend vals w1 hb (fun i hi => hf i (by rw [hz]; exact hi)) (fun i j hi hj => hd i j (by rw [hz]; exact hi) (by rw [hz]; exact hj))) l.toArray.size (Array.replicate l.toArray.size false) a { w with drawn := w.drawn + 1 } (hu _)
  ⟨⟨by simp, fun j oj _ hl => (by rw [getD_replicate_false] at hl; cases hl), fun t _ ht => getD_in (by simpa using ht) (getD_replicate_false _ _)⟩,
   (Below.refl w.heap.size w).drew, fun _ => undef, by
    have : ∀ k, qat l.toArray (fun j => (Array.replicate l.toArray.size false).getD j false) (fun _ => undef) a k = a := fun k => by
     induction k with
     | zero => rfl
     | succ k ih => unfold qat; rw [if_neg (by rw [getD_replicate_false]; decide), ih]
    exact (this _).symm, fun j _ hl => (by rw [getD_replicate_false] at hl; cases hl), fun j _ hl => (by rw [getD_replicate_false] at hl; cases hl), fun j _ _ _ _ hl => (by rw [getD_replicate_false] at hl; cases hl)⟩
 exact key
end
theorem ret_t4 {P : Program} {fn : Func} {R : Ending → World → Prop} {a : Act} {w : World} {p q r s : Tmp} (h : fn.results = #[.tmp p, .tmp q, .tmp r, .tmp s]) (hf : a.defers = [])
  (hR : R (.returned (.tuple #[a.tmps.getD p undef, a.tmps.getD q undef, a.tmps.getD r undef, a.tmps.getD s undef])) w) : bodyPost P fn R .ret a w := by
 refine bodyPost_ret (v := .tuple #[a.tmps.getD p undef, a.tmps.getD q undef, a.tmps.getD r undef, a.tmps.getD s undef]) ?_ hf hR
 simp only [results, h]
 simp
def RetXs (X : List Nat) (w : World) (v : Value) (e : Ending) (w' : World) : Prop := e = .returned v ∧ Exc w w' X
theorem enter_m (x y z : Int) (w : World)  :
  Calls Tryz.prog 121 #[.agg #[.int .i64 x, .int .i64 y, .int .i64 z]] w (qcc w (.tuple #[])) := by
 have HB := qHd (Below.refl w.heap.size w)
 go_enter Tryz.func121, Tryz.ntmps121
 go_wp2_with fail
 obtain ⟨w2, hw_3, hb_3, g1, hg_3, Gg1, LO_g1⟩ := qcd HB.out.size (.cells #[.int .i64 x, .int .i64 y, .int .i64 z] 193)
 rw [← hw_3, ← hg_3]
 replace HB := qHd (HB.out.trans (hb_3.mono HB.out.size))
 clear hw_3 hg_3 hb_3
 refine bodyPost_ret (results_none rfl _ _ _) rfl ?_
 exact ⟨rfl, HB.out⟩
theorem walk_a {ge ce gg cg gi ci : Nat} (gs : Nat) (w : World) (h : Md w ge ce gg cg gi ci) :
  Calls Tryz.prog 120 #[.agg #[.string ⟨#[109]⟩, .string ⟨#[103]⟩, .slice (some ⟨ge, 0, none⟩) 2 ce, .slice none 0 0, .slice (some ⟨gg, 0, none⟩) 1 cg, .slice none 0 0, .slice none 0 0, .slice none 0 0], .agg #[.int .i64 0, .int .i64 0, .int .i64 0], .map (some gs), .func (.func 121) #[] #[]] w (qcc w (.bool false)) := by
 have HM := qHd h; have LM := qHd h.lt; clear h
 have HB := qHd (Below.refl w.heap.size w)
 go_enter Tryz.func120, Tryz.ntmps120
 go_wp2_with (with_reducible refine qag 5 ?_)
 obtain ⟨w2, hw_3, hb_3, g1, hg_3, Gg1, LO_g1⟩ := qcd HB.out.size (.cells #[.string ⟨#[109]⟩, .string ⟨#[103]⟩, .slice (some ⟨ge, 0, none⟩) 2 ce, .slice none 0 0, .slice (some ⟨gg, 0, none⟩) 1 cg, .slice none 0 0, .slice none 0 0, .slice none 0 0] 44)
 rw [← hw_3, ← hg_3]
 replace HM := qHd (HM.out.below hb_3)
 replace HB := qHd (HB.out.trans (hb_3.mono HB.out.size))
 clear hw_3 hg_3 hb_3
 refine qad.mk ?_
 go_wp2_with (with_reducible refine qag 12 ?_)
 obtain ⟨w5, hw_6, hb_6, g4, hg_6, Gg4, LO_g4⟩ := qcd HB.out.size (.cells #[.int .i64 0, .int .i64 0, .int .i64 0] 193)
 rw [← hw_6, ← hg_6]
 replace HM := qHd (HM.out.below hb_6)
 replace Gg1 := qHd (qaa Gg1.out hb_6)
 replace HB := qHd (HB.out.trans (hb_6.mono HB.out.size))
 clear hw_6 hg_6 hb_6
 refine qad.mk ?_
 obtain ⟨x7, x8, x9⟩ := row3m Gg4.out
 go_wp2_with (with_reducible refine qac ?_)
 clear x7 x8 x9
 refine qad.mk ?_
 have HK := qHd (enter_m (0) (0) (0) w5)
 (with_reducible refine HK.out.mono ?_); rintro e w10 ⟨rfl, hb⟩; clear HK
 replace HM := qHd (HM.out.below hb)
 replace Gg1 := qHd (qaa Gg1.out hb)
 replace Gg4 := qHd (qaa Gg4.out hb)
 replace HB := qHd (HB.out.trans (hb.mono HB.out.size))
 clear hb
 go_wp2_with fail
 go_ret
 exact ⟨rfl, HB.out⟩
theorem walk_b {ge ce gg cg gi ci : Nat} (gs : Nat) (w : World) (h : Md w ge ce gg cg gi ci) :
  Calls Tryz.prog 120 #[.agg #[.string ⟨#[109]⟩, .string ⟨#[103]⟩, .slice (some ⟨ge, 0, none⟩) 2 ce, .slice none 0 0, .slice (some ⟨gg, 0, none⟩) 1 cg, .slice none 0 0, .slice none 0 0, .slice none 0 0], .agg #[.int .i64 0, .int .i64 0, .int .i64 1], .map (some gs), .func (.func 121) #[] #[]] w (qcc w (.bool false)) := by
 have HM := qHd h; have LM := qHd h.lt; clear h
 have HB := qHd (Below.refl w.heap.size w)
 go_enter Tryz.func120, Tryz.ntmps120
 go_wp2_with (with_reducible refine qag 5 ?_)
 obtain ⟨w2, hw_3, hb_3, g1, hg_3, Gg1, LO_g1⟩ := qcd HB.out.size (.cells #[.string ⟨#[109]⟩, .string ⟨#[103]⟩, .slice (some ⟨ge, 0, none⟩) 2 ce, .slice none 0 0, .slice (some ⟨gg, 0, none⟩) 1 cg, .slice none 0 0, .slice none 0 0, .slice none 0 0] 44)
 rw [← hw_3, ← hg_3]
 replace HM := qHd (HM.out.below hb_3)
 replace HB := qHd (HB.out.trans (hb_3.mono HB.out.size))
 clear hw_3 hg_3 hb_3
 refine qad.mk ?_
 go_wp2_with (with_reducible refine qag 12 ?_)
 obtain ⟨w5, hw_6, hb_6, g4, hg_6, Gg4, LO_g4⟩ := qcd HB.out.size (.cells #[.int .i64 0, .int .i64 0, .int .i64 1] 193)
 rw [← hw_6, ← hg_6]
 replace HM := qHd (HM.out.below hb_6)
 replace Gg1 := qHd (qaa Gg1.out hb_6)
 replace HB := qHd (HB.out.trans (hb_6.mono HB.out.size))
 clear hw_6 hg_6 hb_6
 refine qad.mk ?_
 obtain ⟨x7, x8, x9⟩ := row3m Gg4.out
 go_wp2_with (with_reducible refine qac ?_)
 clear x7 x8 x9
 refine qad.mk ?_
 have HK := qHd (enter_m (0) (0) (1) w5)
 (with_reducible refine HK.out.mono ?_); rintro e w10 ⟨rfl, hb⟩; clear HK
 replace HM := qHd (HM.out.below hb)
 replace Gg1 := qHd (qaa Gg1.out hb)
 replace Gg4 := qHd (qaa Gg4.out hb)
 replace HB := qHd (HB.out.trans (hb.mono HB.out.size))
 clear hb
 go_wp2_with fail
 go_ret
 exact ⟨rfl, HB.out⟩
theorem walk_g {ge ce gg cg gi ci : Nat} (gs : Nat) (w : World) (h : Md w ge ce gg cg gi ci) (hm : qde Tryz.prog 193 3 3 w gs 0 (fun _ => none)) (hl : ge < gs ∧ gg < gs ∧ gi < gs) :
  Calls Tryz.prog 120 #[.agg #[.string ⟨#[109]⟩, .string ⟨#[103]⟩, .slice (some ⟨ge, 0, none⟩) 2 ce, .slice none 0 0, .slice (some ⟨gg, 0, none⟩) 1 cg, .slice none 0 0, .slice none 0 0, .slice none 0 0], .agg #[.int .i64 2, .int .i64 (-1), .int .i64 0], .map (some gs), .func (.func 121) #[] #[]] w (RetXs [gs] w (.bool false)) := by
 have HM := qHd h; have LM := qHd h.lt; clear h
 have Mgs := qHd hm; have LG := qHd hl; clear hm hl
 have HE := qHd (Exc.refl w [gs])
 go_enter Tryz.func120, Tryz.ntmps120
 go_wp2_with (with_reducible refine qag 5 ?_)
 obtain ⟨w2, hw_3, hb_3, g1, hg_3, Gg1, LO_g1⟩ := qcd HE.out.size (.cells #[.string ⟨#[109]⟩, .string ⟨#[103]⟩, .slice (some ⟨ge, 0, none⟩) 2 ce, .slice none 0 0, .slice (some ⟨gg, 0, none⟩) 1 cg, .slice none 0 0, .slice none 0 0, .slice none 0 0] 44)
 rw [← hw_3, ← hg_3]
 replace HM := qHd (HM.out.below hb_3)
 replace Mgs := qHd (qde.below Mgs.out hb_3)
 replace HE := qHd (HE.out.trans (Exc.of_below hb_3))
 clear hw_3 hg_3 hb_3
 refine qad.mk ?_
 go_wp2_with (with_reducible refine qag 12 ?_)
 obtain ⟨w5, hw_6, hb_6, g4, hg_6, Gg4, LO_g4⟩ := qcd HE.out.size (.cells #[.int .i64 2, .int .i64 (-1), .int .i64 0] 193)
 rw [← hw_6, ← hg_6]
 replace HM := qHd (HM.out.below hb_6)
 replace Mgs := qHd (qde.below Mgs.out hb_6)
 replace Gg1 := qHd (qaa Gg1.out hb_6)
 replace HE := qHd (HE.out.trans (Exc.of_below hb_6))
 clear hw_6 hg_6 hb_6
 refine qad.mk ?_
 obtain ⟨x7, x8, x9⟩ := row3m Gg4.out
 go_wp2_with (with_reducible refine wpList_pauseLK ?_)
 clear x7 x8 x9
 refine wpList_lk1K Tryz.ktyTh Mgs.out [2, -1, 0] rfl (by intro x hx; simp only [List.mem_cons, List.not_mem_nil, or_false] at hx; rcases hx with rfl | rfl | rfl <;> exact ⟨by decide, by decide⟩) rfl rfl ?_
 intro c10 hc h1 h2
 obtain rfl : c10 = 0 := h2 (by kernel_rfl)
 clear hc h1 h2
 obtain ⟨x12, x13, x14⟩ := row3m Gg4.out
 go_wp2_with (with_reducible refine qdb ?_)
 clear x12 x13 x14
 refine wpList_muK Tryz.ktyTh Mgs.out [2, -1, 0] (1) rfl (by intro x hx; simp only [List.mem_cons, List.not_mem_nil, or_false] at hx; rcases hx with rfl | rfl | rfl <;> exact ⟨by decide, by decide⟩) ⟨by decide, by decide⟩ (by unfold maxLen; omega) rfl rfl rfl ?_
 intro w11 hmn hgn
 have he_ := (Exc.of_grown (X := [gs]) hgn (fun g h => by cases h; simp))
 have q_ := (And.intro (qHd (HM.out.exc he_ (fun hm => by simp only [List.mem_cons, List.not_mem_nil, or_false] at hm; have h1 := LM.out; have h_gs := LG.out; omega) (fun hm => by simp only [List.mem_cons, List.not_mem_nil, or_false] at hm; have h1 := LM.out; have h_gs := LG.out; omega) (fun hm => by simp only [List.mem_cons, List.not_mem_nil, or_false] at hm; have h1 := LM.out; have h_gs := LG.out; omega))) (And.intro (qHd (he_.heap Gg1.out (fun hm => (fun e => (qdm Mgs.out Gg1.out) e.symm) (List.mem_singleton.1 hm)))) (qHd (he_.heap Gg4.out (fun hm => (fun e => (qdm Mgs.out Gg4.out) e.symm) (List.mem_singleton.1 hm)))))); clear HM Gg1 Gg4; obtain ⟨HM, Gg1, Gg4⟩ := q_
 replace HE := qHd (HE.out.next he_ (fun g hg => by rw [List.mem_singleton.1 hg]; exact .inl (by simp)))
 clear he_
 replace Mgs := qHd hmn
 clear hmn hgn
 obtain ⟨x15, x16, x17⟩ := row3m Gg4.out
 go_wp2_with (with_reducible refine qac ?_)
 clear x15 x16 x17
 refine qad.mk ?_
 have HK := qHd (enter_m (2) (-1) (0) w11)
 (with_reducible refine HK.out.mono ?_); rintro e w18 ⟨rfl, hb⟩; clear HK
 replace HM := qHd (HM.out.below hb)
 replace Mgs := qHd (qde.below Mgs.out hb)
 replace Gg1 := qHd (qaa Gg1.out hb)
 replace Gg4 := qHd (qaa Gg4.out hb)
 replace HE := qHd (HE.out.trans (Exc.of_below hb))
 clear hb
 go_wp2_with (with_reducible refine qax ?_)
 refine qad.mk ?_
 refine qbz (A := ?aaD19) (w := w18) 11 rfl (by kernel_rfl) (Fl [KEq (.agg #[.string ⟨#[109]⟩, .string ⟨#[103]⟩, .slice (some ⟨ge, 0, none⟩) 2 ce, .slice none 0 0, .slice (some ⟨gg, 0, none⟩) 1 cg, .slice none 0 0, .slice none 0 0, .slice none 0 0]), KEq (.pointer (some ⟨g4, 1, none⟩)), KEq (.int .i64 (-1)), KEq (.slice (some ⟨gg, 0, none⟩) 1 cg), KEq (.pointer (some ⟨g4, 2, none⟩)), KEq (.int .i64 0), KEq (.pointer (some ⟨gg, 0, none⟩)), KEq (.pointer (some ⟨gg, 3, none⟩)), KEq (.slice (some ⟨gi, 0, none⟩) 2 ci), KEq (.int .i64 2), KEq (.int .i64 0)]) (fun i => false) (by kernel_rfl) (qdx (qai (kEq _) (qai (kEq _) (qai (kEq _) (qai (kEq _) (qai (kEq _) (qai (kEq _) (qai (kEq _) (qai (kEq _) (qai (kEq _) (qai (kEq _) (qai (kEq _) qdw)))))))))))) ?haD19 ?stD19 ?tlD19
 case haD19 =>
  intro vals
  simp only [qat, qcf, if_true, Act.put, List.setIfInBounds_toArray, List.set_cons_zero, List.set_cons_succ, List.getElem?_toArray, List.getElem?_cons_zero, List.getElem?_cons_succ, Option.bind_some]
  exact rfl
 case stD19 =>
  refine qab rfl rfl ?_ (qab rfl rfl ?_ (qab rfl rfl ?_ (qab rfl rfl ?_ (qab rfl rfl ?_ (qab rfl rfl ?_ (qab rfl rfl ?_ (qab rfl rfl ?_ (qab rfl rfl ?_ (qab rfl rfl ?_ (qab rfl rfl ?_ (qbb)))))))))))
  ·intro vals w1 hb hd
   have e0 : w1.cell? ⟨g1, 0, none⟩ = some (.string ⟨#[109]⟩) := cell_of_row _ _ _ _ _ _ ((qaa Gg1.out hb))
   have e1 : w1.cell? ⟨g1, 1, none⟩ = some (.string ⟨#[103]⟩) := cell_of_row _ _ _ _ _ _ ((qaa Gg1.out hb))
   have e2 : w1.cell? ⟨g1, 2, none⟩ = some (.slice (some ⟨ge, 0, none⟩) 2 ce) := cell_of_row _ _ _ _ _ _ ((qaa Gg1.out hb))
   have e3 : w1.cell? ⟨g1, 3, none⟩ = some (.slice none 0 0) := cell_of_row _ _ _ _ _ _ ((qaa Gg1.out hb))
   have e4 : w1.cell? ⟨g1, 4, none⟩ = some (.slice (some ⟨gg, 0, none⟩) 1 cg) := cell_of_row _ _ _ _ _ _ ((qaa Gg1.out hb))
   have e5 : w1.cell? ⟨g1, 5, none⟩ = some (.slice none 0 0) := cell_of_row _ _ _ _ _ _ ((qaa Gg1.out hb))
   have e6 : w1.cell? ⟨g1, 6, none⟩ = some (.slice none 0 0) := cell_of_row _ _ _ _ _ _ ((qaa Gg1.out hb))
   have e7 : w1.cell? ⟨g1, 7, none⟩ = some (.slice none 0 0) := cell_of_row _ _ _ _ _ _ ((qaa Gg1.out hb))
   refine qSv (.agg #[.string ⟨#[109]⟩, .string ⟨#[103]⟩, .slice (some ⟨ge, 0, none⟩) 2 ce, .slice none 0 0, .slice (some ⟨gg, 0, none⟩) 1 cg, .slice none 0 0, .slice none 0 0, .slice none 0 0]) (by go_simp) (qLk rfl rfl)
  ·intro vals w1 hb hd
   refine qSv (.pointer (some ⟨g4, 1, none⟩)) (by go_simp) (qLk rfl rfl)
  ·intro vals w1 hb hd
   have e1 : w1.cell? ⟨g4, 1, none⟩ = some (.int .i64 (-1)) := cell_of_row _ _ _ _ _ _ ((qaa Gg4.out hb))
   rw [show vals 1 = .pointer (some ⟨g4, 1, none⟩) from hd 1 (by kernel_rfl)]
   refine qSv (.int .i64 (-1)) (by go_simp) (qLk rfl rfl)
  ·intro vals w1 hb hd
   have d0 : KEq (.agg #[.string ⟨#[109]⟩, .string ⟨#[103]⟩, .slice (some ⟨ge, 0, none⟩) 2 ce, .slice none 0 0, .slice (some ⟨gg, 0, none⟩) 1 cg, .slice none 0 0, .slice none 0 0, .slice none 0 0]) (vals 0) w1 := hd 0 (by kernel_rfl)
   have d2 : KEq (.int .i64 (-1)) (vals 2) w1 := hd 2 (by kernel_rfl)
   have HS := qHd (gatesOf_m w1 (HM.out.below hb))
   have z0 : vals 0 = _ := d0
   rw [z0]; clear z0
   have z2 : vals 2 = _ := d2
   rw [z2]; clear z2
   refine qbh (by go_simp; first | done | exact ⟨⟨rfl, rfl⟩, rfl⟩) ?_
   (with_reducible refine HS.out.mono ?_); rintro e w2 ⟨rfl, hb2⟩
   exact ⟨_, rfl, qba hb2 rfl (fun h => by cases h)⟩
  ·intro vals w1 hb hd
   refine qSv (.pointer (some ⟨g4, 2, none⟩)) (by go_simp) (qLk rfl rfl)
  ·intro vals w1 hb hd
   have e2 : w1.cell? ⟨g4, 2, none⟩ = some (.int .i64 0) := cell_of_row _ _ _ _ _ _ ((qaa Gg4.out hb))
   rw [show vals 4 = .pointer (some ⟨g4, 2, none⟩) from hd 4 (by kernel_rfl)]
   refine qSv (.int .i64 0) (by go_simp) (qLk rfl rfl)
  ·intro vals w1 hb hd
   rw [show vals 3 = .slice (some ⟨gg, 0, none⟩) 1 cg from hd 3 (by kernel_rfl)]
   rw [show vals 5 = .int .i64 0 from hd 5 (by kernel_rfl)]
   refine qSv (.pointer (some ⟨gg, 0, none⟩)) (by go_simp) (qLk rfl rfl)
  ·intro vals w1 hb hd
   rw [show vals 6 = .pointer (some ⟨gg, 0, none⟩) from hd 6 (by kernel_rfl)]
   refine qSv (.pointer (some ⟨gg, 3, none⟩)) (by go_simp) (qLk rfl rfl)
  ·intro vals w1 hb hd
   have e3 : w1.cell? ⟨gg, 3, none⟩ = some (.slice (some ⟨gi, 0, none⟩) 2 ci) := (HM.out.below hb).gt 3 _ rfl
   rw [show vals 7 = .pointer (some ⟨gg, 3, none⟩) from hd 7 (by kernel_rfl)]
   refine qSv (.slice (some ⟨gi, 0, none⟩) 2 ci) (by go_simp) (qLk rfl rfl)
  ·intro vals w1 hb hd
   rw [show vals 8 = .slice (some ⟨gi, 0, none⟩) 2 ci from hd 8 (by kernel_rfl)]
   refine qSv (.int .i64 2) (by go_simp) (qLk rfl rfl)
  ·intro vals w1 hb hd
   refine qSv (.int .i64 0) (by go_simp) (qLk rfl rfl)
 case tlD19 =>
  intro vals w20 hb hf hdis
  have z_ : vals 0 = .agg #[.string ⟨#[109]⟩, .string ⟨#[103]⟩, .slice (some ⟨ge, 0, none⟩) 2 ce, .slice none 0 0, .slice (some ⟨gg, 0, none⟩) 1 cg, .slice none 0 0, .slice none 0 0, .slice none 0 0] := hf 0 (by decide)
  try rw [z_]
  clear z_
  have z_ : vals 1 = .pointer (some ⟨g4, 1, none⟩) := hf 1 (by decide)
  try rw [z_]
  clear z_
  have z_ : vals 2 = .int .i64 (-1) := hf 2 (by decide)
  try rw [z_]
  clear z_
  have z_ : vals 3 = .slice (some ⟨gg, 0, none⟩) 1 cg := hf 3 (by decide)
  try rw [z_]
  clear z_
  have z_ : vals 4 = .pointer (some ⟨g4, 2, none⟩) := hf 4 (by decide)
  try rw [z_]
  clear z_
  have z_ : vals 5 = .int .i64 0 := hf 5 (by decide)
  try rw [z_]
  clear z_
  have z_ : vals 6 = .pointer (some ⟨gg, 0, none⟩) := hf 6 (by decide)
  try rw [z_]
  clear z_
  have z_ : vals 7 = .pointer (some ⟨gg, 3, none⟩) := hf 7 (by decide)
  try rw [z_]
  clear z_
  have z_ : vals 8 = .slice (some ⟨gi, 0, none⟩) 2 ci := hf 8 (by decide)
  try rw [z_]
  clear z_
  have z_ : vals 9 = .int .i64 2 := hf 9 (by decide)
  try rw [z_]
  clear z_
  have z_ : vals 10 = .int .i64 0 := hf 10 (by decide)
  try rw [z_]
  clear z_
  clear hf hdis
  replace HM := qHd (HM.out.below hb)
  replace Mgs := qHd (qde.below Mgs.out hb)
  replace Gg1 := qHd (qaa Gg1.out hb)
  replace Gg4 := qHd (qaa Gg4.out hb)
  replace HE := qHd (HE.out.trans (Exc.of_below hb))
  clear hb
  go_wp2_with (with_reducible first | refine qah ?_ | refine qae ?_)
  refine qad.mk ?_
  refine wp_loop_rounds 3 ?_
  rw [rounds_succ]
  have x21 : w20.cell? ⟨gi, 0, none⟩ = some (.string ⟨#[97]⟩) := HM.out.inp.1
  go_wp2_with (with_reducible refine qax ?_)
  clear x21
  refine qad.mk ?_
  refine qbz (A := ?aaD22) (w := w20) 9 rfl (by kernel_rfl) (Fl [KEq (.agg #[.string ⟨#[109]⟩, .string ⟨#[103]⟩, .slice (some ⟨ge, 0, none⟩) 2 ce, .slice none 0 0, .slice (some ⟨gg, 0, none⟩) 1 cg, .slice none 0 0, .slice none 0 0, .slice none 0 0]), KEq (.agg #[.string ⟨#[109]⟩, .string ⟨#[103]⟩, .slice (some ⟨ge, 0, none⟩) 2 ce, .slice none 0 0, .slice (some ⟨gg, 0, none⟩) 1 cg, .slice none 0 0, .slice none 0 0, .slice none 0 0]), KEq (.pointer (some ⟨g4, 1, none⟩)), KEq (.int .i64 (-1)), KEq (.string ⟨#[97]⟩), KEq (.agg #[.int .i64 0, .int .i64 0, .int .i64 0]), KEq (.map (some gs)), KEq (.func (.func 121) #[] #[]), KEq (.bool false)]) (fun i => false) (by kernel_rfl) (qdx (qai (kEq _) (qai (kEq _) (qai (kEq _) (qai (kEq _) (qai (kEq _) (qai (kEq _) (qai (kEq _) (qai (kEq _) (qai (kEq _) qdw)))))))))) ?haD22 ?stD22 ?tlD22
  case haD22 =>
   intro vals
   simp only [qat, qcf, if_true, Act.put, List.setIfInBounds_toArray, List.set_cons_zero, List.set_cons_succ, List.getElem?_toArray, List.getElem?_cons_zero, List.getElem?_cons_succ, Option.bind_some]
   exact rfl
  case stD22 =>
   refine qab rfl rfl ?_ (qab rfl rfl ?_ (qab rfl rfl ?_ (qab rfl rfl ?_ (qab rfl rfl ?_ (qab rfl rfl ?_ (qab rfl rfl ?_ (qab rfl rfl ?_ (qab rfl rfl ?_ (qbb)))))))))
   ·intro vals w1 hb hd
    have e0 : w1.cell? ⟨g1, 0, none⟩ = some (.string ⟨#[109]⟩) := cell_of_row _ _ _ _ _ _ ((qaa Gg1.out hb))
    have e1 : w1.cell? ⟨g1, 1, none⟩ = some (.string ⟨#[103]⟩) := cell_of_row _ _ _ _ _ _ ((qaa Gg1.out hb))
    have e2 : w1.cell? ⟨g1, 2, none⟩ = some (.slice (some ⟨ge, 0, none⟩) 2 ce) := cell_of_row _ _ _ _ _ _ ((qaa Gg1.out hb))
    have e3 : w1.cell? ⟨g1, 3, none⟩ = some (.slice none 0 0) := cell_of_row _ _ _ _ _ _ ((qaa Gg1.out hb))
    have e4 : w1.cell? ⟨g1, 4, none⟩ = some (.slice (some ⟨gg, 0, none⟩) 1 cg) := cell_of_row _ _ _ _ _ _ ((qaa Gg1.out hb))
    have e5 : w1.cell? ⟨g1, 5, none⟩ = some (.slice none 0 0) := cell_of_row _ _ _ _ _ _ ((qaa Gg1.out hb))
    have e6 : w1.cell? ⟨g1, 6, none⟩ = some (.slice none 0 0) := cell_of_row _ _ _ _ _ _ ((qaa Gg1.out hb))
    have e7 : w1.cell? ⟨g1, 7, none⟩ = some (.slice none 0 0) := cell_of_row _ _ _ _ _ _ ((qaa Gg1.out hb))
    refine qSv (.agg #[.string ⟨#[109]⟩, .string ⟨#[103]⟩, .slice (some ⟨ge, 0, none⟩) 2 ce, .slice none 0 0, .slice (some ⟨gg, 0, none⟩) 1 cg, .slice none 0 0, .slice none 0 0, .slice none 0 0]) (by go_simp) (qLk rfl rfl)
   ·intro vals w1 hb hd
    have e0 : w1.cell? ⟨g1, 0, none⟩ = some (.string ⟨#[109]⟩) := cell_of_row _ _ _ _ _ _ ((qaa Gg1.out hb))
    have e1 : w1.cell? ⟨g1, 1, none⟩ = some (.string ⟨#[103]⟩) := cell_of_row _ _ _ _ _ _ ((qaa Gg1.out hb))
    have e2 : w1.cell? ⟨g1, 2, none⟩ = some (.slice (some ⟨ge, 0, none⟩) 2 ce) := cell_of_row _ _ _ _ _ _ ((qaa Gg1.out hb))
    have e3 : w1.cell? ⟨g1, 3, none⟩ = some (.slice none 0 0) := cell_of_row _ _ _ _ _ _ ((qaa Gg1.out hb))
    have e4 : w1.cell? ⟨g1, 4, none⟩ = some (.slice (some ⟨gg, 0, none⟩) 1 cg) := cell_of_row _ _ _ _ _ _ ((qaa Gg1.out hb))
    have e5 : w1.cell? ⟨g1, 5, none⟩ = some (.slice none 0 0) := cell_of_row _ _ _ _ _ _ ((qaa Gg1.out hb))
    have e6 : w1.cell? ⟨g1, 6, none⟩ = some (.slice none 0 0) := cell_of_row _ _ _ _ _ _ ((qaa Gg1.out hb))
    have e7 : w1.cell? ⟨g1, 7, none⟩ = some (.slice none 0 0) := cell_of_row _ _ _ _ _ _ ((qaa Gg1.out hb))
    refine qSv (.agg #[.string ⟨#[109]⟩, .string ⟨#[103]⟩, .slice (some ⟨ge, 0, none⟩) 2 ce, .slice none 0 0, .slice (some ⟨gg, 0, none⟩) 1 cg, .slice none 0 0, .slice none 0 0, .slice none 0 0]) (by go_simp) (qLk rfl rfl)
   ·intro vals w1 hb hd
    refine qSv (.pointer (some ⟨g4, 1, none⟩)) (by go_simp) (qLk rfl rfl)
   ·intro vals w1 hb hd
    have e1 : w1.cell? ⟨g4, 1, none⟩ = some (.int .i64 (-1)) := cell_of_row _ _ _ _ _ _ ((qaa Gg4.out hb))
    rw [show vals 2 = .pointer (some ⟨g4, 1, none⟩) from hd 2 (by kernel_rfl)]
    refine qSv (.int .i64 (-1)) (by go_simp) (qLk rfl rfl)
   ·intro vals w1 hb hd
    refine qSv (.string ⟨#[97]⟩) (by go_simp) (qLk rfl rfl)
   ·intro vals w1 hb hd
    have d1 : KEq (.agg #[.string ⟨#[109]⟩, .string ⟨#[103]⟩, .slice (some ⟨ge, 0, none⟩) 2 ce, .slice none 0 0, .slice (some ⟨gg, 0, none⟩) 1 cg, .slice none 0 0, .slice none 0 0, .slice none 0 0]) (vals 1) w1 := hd 1 (by kernel_rfl)
    have d3 : KEq (.int .i64 (-1)) (vals 3) w1 := hd 3 (by kernel_rfl)
    have d4 : KEq (.string ⟨#[97]⟩) (vals 4) w1 := hd 4 (by kernel_rfl)
    have HS := qHd (resolve_a w1 (HM.out.below hb))
    have z1 : vals 1 = _ := d1
    rw [z1]; clear z1
    have z3 : vals 3 = _ := d3
    rw [z3]; clear z3
    have z4 : vals 4 = _ := d4
    rw [z4]; clear z4
    refine qbh (by go_simp; first | done | exact ⟨⟨rfl, rfl⟩, rfl⟩) ?_
    (with_reducible refine HS.out.mono ?_); rintro e w2 ⟨rfl, hb2⟩
    exact ⟨_, rfl, qba hb2 rfl (fun h => by cases h)⟩
   ·intro vals w1 hb hd
    refine qSv (.map (some gs)) (by go_simp) (qLk rfl rfl)
   ·intro vals w1 hb hd
    refine qSv (.func (.func 121) #[] #[]) (by go_simp) (qLk rfl rfl)
   ·intro vals w1 hb hd
    have d0 : KEq (.agg #[.string ⟨#[109]⟩, .string ⟨#[103]⟩, .slice (some ⟨ge, 0, none⟩) 2 ce, .slice none 0 0, .slice (some ⟨gg, 0, none⟩) 1 cg, .slice none 0 0, .slice none 0 0, .slice none 0 0]) (vals 0) w1 := hd 0 (by kernel_rfl)
    have d5 : KEq (.agg #[.int .i64 0, .int .i64 0, .int .i64 0]) (vals 5) w1 := hd 5 (by kernel_rfl)
    have d6 : KEq (.map (some gs)) (vals 6) w1 := hd 6 (by kernel_rfl)
    have d7 : KEq (.func (.func 121) #[] #[]) (vals 7) w1 := hd 7 (by kernel_rfl)
    have HS := qHd (walk_a gs w1 (HM.out.below hb))
    have z0 : vals 0 = _ := d0
    rw [z0]; clear z0
    have z5 : vals 5 = _ := d5
    rw [z5]; clear z5
    have z6 : vals 6 = _ := d6
    rw [z6]; clear z6
    have z7 : vals 7 = _ := d7
    rw [z7]; clear z7
    refine qbh (by go_simp; first | done | exact ⟨⟨rfl, rfl⟩, rfl⟩) ?_
    (with_reducible refine HS.out.mono ?_); rintro e w2 ⟨rfl, hb2⟩
    exact ⟨_, rfl, qba hb2 rfl (fun h => by cases h)⟩
  case tlD22 =>
   intro vals w23 hb hf hdis
   have z_ : vals 0 = .agg #[.string ⟨#[109]⟩, .string ⟨#[103]⟩, .slice (some ⟨ge, 0, none⟩) 2 ce, .slice none 0 0, .slice (some ⟨gg, 0, none⟩) 1 cg, .slice none 0 0, .slice none 0 0, .slice none 0 0] := hf 0 (by decide)
   try rw [z_]
   clear z_
   have z_ : vals 1 = .agg #[.string ⟨#[109]⟩, .string ⟨#[103]⟩, .slice (some ⟨ge, 0, none⟩) 2 ce, .slice none 0 0, .slice (some ⟨gg, 0, none⟩) 1 cg, .slice none 0 0, .slice none 0 0, .slice none 0 0] := hf 1 (by decide)
   try rw [z_]
   clear z_
   have z_ : vals 2 = .pointer (some ⟨g4, 1, none⟩) := hf 2 (by decide)
   try rw [z_]
   clear z_
   have z_ : vals 3 = .int .i64 (-1) := hf 3 (by decide)
   try rw [z_]
   clear z_
   have z_ : vals 4 = .string ⟨#[97]⟩ := hf 4 (by decide)
   try rw [z_]
   clear z_
   have z_ : vals 5 = .agg #[.int .i64 0, .int .i64 0, .int .i64 0] := hf 5 (by decide)
   try rw [z_]
   clear z_
   have z_ : vals 6 = .map (some gs) := hf 6 (by decide)
   try rw [z_]
   clear z_
   have z_ : vals 7 = .func (.func 121) #[] #[] := hf 7 (by decide)
   try rw [z_]
   clear z_
   have z_ : vals 8 = .bool false := hf 8 (by decide)
   try rw [z_]
   clear z_
   clear hf hdis
   replace HM := qHd (HM.out.below hb)
   replace Mgs := qHd (qde.below Mgs.out hb)
   replace Gg1 := qHd (qaa Gg1.out hb)
   replace Gg4 := qHd (qaa Gg4.out hb)
   replace HE := qHd (HE.out.trans (Exc.of_below hb))
   clear hb
   go_wp2_with (with_reducible first | refine qah ?_ | refine qae ?_)
   refine qad.mk ?_
   rw [rounds_succ]
   have x24 : w23.cell? ⟨gi, 1, none⟩ = some (.string ⟨#[98]⟩) := HM.out.inp.2
   go_wp2_with (with_reducible refine qax ?_)
   clear x24
   refine qad.mk ?_
   refine qbz (A := ?aaD25) (w := w23) 9 rfl (by kernel_rfl) (Fl [KEq (.agg #[.string ⟨#[109]⟩, .string ⟨#[103]⟩, .slice (some ⟨ge, 0, none⟩) 2 ce, .slice none 0 0, .slice (some ⟨gg, 0, none⟩) 1 cg, .slice none 0 0, .slice none 0 0, .slice none 0 0]), KEq (.agg #[.string ⟨#[109]⟩, .string ⟨#[103]⟩, .slice (some ⟨ge, 0, none⟩) 2 ce, .slice none 0 0, .slice (some ⟨gg, 0, none⟩) 1 cg, .slice none 0 0, .slice none 0 0, .slice none 0 0]), KEq (.pointer (some ⟨g4, 1, none⟩)), KEq (.int .i64 (-1)), KEq (.string ⟨#[98]⟩), KEq (.agg #[.int .i64 0, .int .i64 0, .int .i64 1]), KEq (.map (some gs)), KEq (.func (.func 121) #[] #[]), KEq (.bool false)]) (fun i => false) (by kernel_rfl) (qdx (qai (kEq _) (qai (kEq _) (qai (kEq _) (qai (kEq _) (qai (kEq _) (qai (kEq _) (qai (kEq _) (qai (kEq _) (qai (kEq _) qdw)))))))))) ?haD25 ?stD25 ?tlD25
   case haD25 =>
    intro vals
    simp only [qat, qcf, if_true, Act.put, List.setIfInBounds_toArray, List.set_cons_zero, List.set_cons_succ, List.getElem?_toArray, List.getElem?_cons_zero, List.getElem?_cons_succ, Option.bind_some]
    exact rfl
   case stD25 =>
    refine qab rfl rfl ?_ (qab rfl rfl ?_ (qab rfl rfl ?_ (qab rfl rfl ?_ (qab rfl rfl ?_ (qab rfl rfl ?_ (qab rfl rfl ?_ (qab rfl rfl ?_ (qab rfl rfl ?_ (qbb)))))))))
    ·intro vals w1 hb hd
     have e0 : w1.cell? ⟨g1, 0, none⟩ = some (.string ⟨#[109]⟩) := cell_of_row _ _ _ _ _ _ ((qaa Gg1.out hb))
     have e1 : w1.cell? ⟨g1, 1, none⟩ = some (.string ⟨#[103]⟩) := cell_of_row _ _ _ _ _ _ ((qaa Gg1.out hb))
     have e2 : w1.cell? ⟨g1, 2, none⟩ = some (.slice (some ⟨ge, 0, none⟩) 2 ce) := cell_of_row _ _ _ _ _ _ ((qaa Gg1.out hb))
     have e3 : w1.cell? ⟨g1, 3, none⟩ = some (.slice none 0 0) := cell_of_row _ _ _ _ _ _ ((qaa Gg1.out hb))
     have e4 : w1.cell? ⟨g1, 4, none⟩ = some (.slice (some ⟨gg, 0, none⟩) 1 cg) := cell_of_row _ _ _ _ _ _ ((qaa Gg1.out hb))
     have e5 : w1.cell? ⟨g1, 5, none⟩ = some (.slice none 0 0) := cell_of_row _ _ _ _ _ _ ((qaa Gg1.out hb))
     have e6 : w1.cell? ⟨g1, 6, none⟩ = some (.slice none 0 0) := cell_of_row _ _ _ _ _ _ ((qaa Gg1.out hb))
     have e7 : w1.cell? ⟨g1, 7, none⟩ = some (.slice none 0 0) := cell_of_row _ _ _ _ _ _ ((qaa Gg1.out hb))
     refine qSv (.agg #[.string ⟨#[109]⟩, .string ⟨#[103]⟩, .slice (some ⟨ge, 0, none⟩) 2 ce, .slice none 0 0, .slice (some ⟨gg, 0, none⟩) 1 cg, .slice none 0 0, .slice none 0 0, .slice none 0 0]) (by go_simp) (qLk rfl rfl)
    ·intro vals w1 hb hd
     have e0 : w1.cell? ⟨g1, 0, none⟩ = some (.string ⟨#[109]⟩) := cell_of_row _ _ _ _ _ _ ((qaa Gg1.out hb))
     have e1 : w1.cell? ⟨g1, 1, none⟩ = some (.string ⟨#[103]⟩) := cell_of_row _ _ _ _ _ _ ((qaa Gg1.out hb))
     have e2 : w1.cell? ⟨g1, 2, none⟩ = some (.slice (some ⟨ge, 0, none⟩) 2 ce) := cell_of_row _ _ _ _ _ _ ((qaa Gg1.out hb))
     have e3 : w1.cell? ⟨g1, 3, none⟩ = some (.slice none 0 0) := cell_of_row _ _ _ _ _ _ ((qaa Gg1.out hb))
     have e4 : w1.cell? ⟨g1, 4, none⟩ = some (.slice (some ⟨gg, 0, none⟩) 1 cg) := cell_of_row _ _ _ _ _ _ ((qaa Gg1.out hb))
     have e5 : w1.cell? ⟨g1, 5, none⟩ = some (.slice none 0 0) := cell_of_row _ _ _ _ _ _ ((qaa Gg1.out hb))
     have e6 : w1.cell? ⟨g1, 6, none⟩ = some (.slice none 0 0) := cell_of_row _ _ _ _ _ _ ((qaa Gg1.out hb))
     have e7 : w1.cell? ⟨g1, 7, none⟩ = some (.slice none 0 0) := cell_of_row _ _ _ _ _ _ ((qaa Gg1.out hb))
     refine qSv (.agg #[.string ⟨#[109]⟩, .string ⟨#[103]⟩, .slice (some ⟨ge, 0, none⟩) 2 ce, .slice none 0 0, .slice (some ⟨gg, 0, none⟩) 1 cg, .slice none 0 0, .slice none 0 0, .slice none 0 0]) (by go_simp) (qLk rfl rfl)
    ·intro vals w1 hb hd
     refine qSv (.pointer (some ⟨g4, 1, none⟩)) (by go_simp) (qLk rfl rfl)
    ·intro vals w1 hb hd
     have e1 : w1.cell? ⟨g4, 1, none⟩ = some (.int .i64 (-1)) := cell_of_row _ _ _ _ _ _ ((qaa Gg4.out hb))
     rw [show vals 2 = .pointer (some ⟨g4, 1, none⟩) from hd 2 (by kernel_rfl)]
     refine qSv (.int .i64 (-1)) (by go_simp) (qLk rfl rfl)
    ·intro vals w1 hb hd
     refine qSv (.string ⟨#[98]⟩) (by go_simp) (qLk rfl rfl)
    ·intro vals w1 hb hd
     have d1 : KEq (.agg #[.string ⟨#[109]⟩, .string ⟨#[103]⟩, .slice (some ⟨ge, 0, none⟩) 2 ce, .slice none 0 0, .slice (some ⟨gg, 0, none⟩) 1 cg, .slice none 0 0, .slice none 0 0, .slice none 0 0]) (vals 1) w1 := hd 1 (by kernel_rfl)
     have d3 : KEq (.int .i64 (-1)) (vals 3) w1 := hd 3 (by kernel_rfl)
     have d4 : KEq (.string ⟨#[98]⟩) (vals 4) w1 := hd 4 (by kernel_rfl)
     have HS := qHd (resolve_b w1 (HM.out.below hb))
     have z1 : vals 1 = _ := d1
     rw [z1]; clear z1
     have z3 : vals 3 = _ := d3
     rw [z3]; clear z3
     have z4 : vals 4 = _ := d4
     rw [z4]; clear z4
     refine qbh (by go_simp; first | done | exact ⟨⟨rfl, rfl⟩, rfl⟩) ?_
     (with_reducible refine HS.out.mono ?_); rintro e w2 ⟨rfl, hb2⟩
     exact ⟨_, rfl, qba hb2 rfl (fun h => by cases h)⟩
    ·intro vals w1 hb hd
     refine qSv (.map (some gs)) (by go_simp) (qLk rfl rfl)
    ·intro vals w1 hb hd
     refine qSv (.func (.func 121) #[] #[]) (by go_simp) (qLk rfl rfl)
    ·intro vals w1 hb hd
     have d0 : KEq (.agg #[.string ⟨#[109]⟩, .string ⟨#[103]⟩, .slice (some ⟨ge, 0, none⟩) 2 ce, .slice none 0 0, .slice (some ⟨gg, 0, none⟩) 1 cg, .slice none 0 0, .slice none 0 0, .slice none 0 0]) (vals 0) w1 := hd 0 (by kernel_rfl)
     have d5 : KEq (.agg #[.int .i64 0, .int .i64 0, .int .i64 1]) (vals 5) w1 := hd 5 (by kernel_rfl)
     have d6 : KEq (.map (some gs)) (vals 6) w1 := hd 6 (by kernel_rfl)
     have d7 : KEq (.func (.func 121) #[] #[]) (vals 7) w1 := hd 7 (by kernel_rfl)
     have HS := qHd (walk_b gs w1 (HM.out.below hb))
     have z0 : vals 0 = _ := d0
     rw [z0]; clear z0
     have z5 : vals 5 = _ := d5
     rw [z5]; clear z5
     have z6 : vals 6 = _ := d6
     rw [z6]; clear z6
     have z7 : vals 7 = _ := d7
     rw [z7]; clear z7
     refine qbh (by go_simp; first | done | exact ⟨⟨rfl, rfl⟩, rfl⟩) ?_
     (with_reducible refine HS.out.mono ?_); rintro e w2 ⟨rfl, hb2⟩
     exact ⟨_, rfl, qba hb2 rfl (fun h => by cases h)⟩
   case tlD25 =>
    intro vals w26 hb hf hdis
    have z_ : vals 0 = .agg #[.string ⟨#[109]⟩, .string ⟨#[103]⟩, .slice (some ⟨ge, 0, none⟩) 2 ce, .slice none 0 0, .slice (some ⟨gg, 0, none⟩) 1 cg, .slice none 0 0, .slice none 0 0, .slice none 0 0] := hf 0 (by decide)
    try rw [z_]
    clear z_
    have z_ : vals 1 = .agg #[.string ⟨#[109]⟩, .string ⟨#[103]⟩, .slice (some ⟨ge, 0, none⟩) 2 ce, .slice none 0 0, .slice (some ⟨gg, 0, none⟩) 1 cg, .slice none 0 0, .slice none 0 0, .slice none 0 0] := hf 1 (by decide)
    try rw [z_]
    clear z_
    have z_ : vals 2 = .pointer (some ⟨g4, 1, none⟩) := hf 2 (by decide)
    try rw [z_]
    clear z_
    have z_ : vals 3 = .int .i64 (-1) := hf 3 (by decide)
    try rw [z_]
    clear z_
    have z_ : vals 4 = .string ⟨#[98]⟩ := hf 4 (by decide)
    try rw [z_]
    clear z_
    have z_ : vals 5 = .agg #[.int .i64 0, .int .i64 0, .int .i64 1] := hf 5 (by decide)
    try rw [z_]
    clear z_
    have z_ : vals 6 = .map (some gs) := hf 6 (by decide)
    try rw [z_]
    clear z_
    have z_ : vals 7 = .func (.func 121) #[] #[] := hf 7 (by decide)
    try rw [z_]
    clear z_
    have z_ : vals 8 = .bool false := hf 8 (by decide)
    try rw [z_]
    clear z_
    clear hf hdis
    replace HM := qHd (HM.out.below hb)
    replace Mgs := qHd (qde.below Mgs.out hb)
    replace Gg1 := qHd (qaa Gg1.out hb)
    replace Gg4 := qHd (qaa Gg4.out hb)
    replace HE := qHd (HE.out.trans (Exc.of_below hb))
    clear hb
    go_wp2_with (with_reducible first | refine qah ?_ | refine qae ?_)
    refine qad.mk ?_
    rw [rounds_succ]
    obtain ⟨x28, x29, x30⟩ := row3m Gg4.out
    go_wp2_with (with_reducible refine qdb ?_)
    clear x28 x29 x30
    refine wpList_muK Tryz.ktyTh Mgs.out [2, -1, 0] (2) rfl (by intro x hx; simp only [List.mem_cons, List.not_mem_nil, or_false] at hx; rcases hx with rfl | rfl | rfl <;> exact ⟨by decide, by decide⟩) ⟨by decide, by decide⟩ (by unfold maxLen; omega) rfl rfl rfl ?_
    intro w27 hmn hgn
    have he_ := (Exc.of_grown (X := [gs]) hgn (fun g h => by cases h; simp))
    have q_ := (And.intro (qHd (HM.out.exc he_ (fun hm => by simp only [List.mem_cons, List.not_mem_nil, or_false] at hm; have h1 := LM.out; have h_gs := LG.out; omega) (fun hm => by simp only [List.mem_cons, List.not_mem_nil, or_false] at hm; have h1 := LM.out; have h_gs := LG.out; omega) (fun hm => by simp only [List.mem_cons, List.not_mem_nil, or_false] at hm; have h1 := LM.out; have h_gs := LG.out; omega))) (And.intro (qHd (he_.heap Gg1.out (fun hm => (fun e => (qdm Mgs.out Gg1.out) e.symm) (List.mem_singleton.1 hm)))) (qHd (he_.heap Gg4.out (fun hm => (fun e => (qdm Mgs.out Gg4.out) e.symm) (List.mem_singleton.1 hm)))))); clear HM Gg1 Gg4; obtain ⟨HM, Gg1, Gg4⟩ := q_
    replace HE := qHd (HE.out.next he_ (fun g hg => by rw [List.mem_singleton.1 hg]; exact .inl (by simp)))
    clear he_
    replace Mgs := qHd hmn
    clear hmn hgn
    go_wp2_with fail
    go_ret
    exact ⟨rfl, HE.out⟩
theorem cyclic_m {ge ce gg cg gi ci : Nat} (w : World) (h : Md w ge ce gg cg gi ci) :
  Calls Tryz.prog 79 #[.agg #[.string ⟨#[109]⟩, .string ⟨#[103]⟩, .slice (some ⟨ge, 0, none⟩) 2 ce, .slice none 0 0, .slice (some ⟨gg, 0, none⟩) 1 cg, .slice none 0 0, .slice none 0 0, .slice none 0 0]] w (qcc w (.bool false)) := by
 have HM := qHd h; have LM := qHd h.lt; clear h
 have HB := qHd (Below.refl w.heap.size w)
 go_enter Tryz.func79, Tryz.ntmps79
 go_wp2_with (with_reducible refine qag 6 ?_)
 obtain ⟨w2, hw_3, hb_3, g1, hg_3, Gg1, LO_g1⟩ := qcd HB.out.size (.cells #[.string ⟨#[109]⟩, .string ⟨#[103]⟩, .slice (some ⟨ge, 0, none⟩) 2 ce, .slice none 0 0, .slice (some ⟨gg, 0, none⟩) 1 cg, .slice none 0 0, .slice none 0 0, .slice none 0 0] 44)
 rw [← hw_3, ← hg_3]
 replace HM := qHd (HM.out.below hb_3)
 replace HB := qHd (HB.out.trans (hb_3.mono HB.out.size))
 clear hw_3 hg_3 hb_3
 refine qad.mk ?_
 have hmm := @run_makeMap Tryz.prog
 go_wp2_with (with_reducible first | refine qah ?_ | refine qae ?_)
 obtain ⟨w5, hw_6⟩ : ∃ z0, z0 = w2.alloc (.map #[] 0) := ⟨_, rfl⟩
 have hb_6 : Below w2.heap.size w2 w5 := by rw [hw_6]; exact qBA _ _
 obtain ⟨g4, hg_6⟩ : ∃ g, g = w2.heap.size := ⟨_, rfl⟩
 have Mg4 := qHd (show qde Tryz.prog 193 3 3 w5 g4 0 (fun _ => none) by rw [hw_6, hg_6]; exact qde.made _)
 have LO_g4 := qHd (show w.heap.size ≤ g4 by rw [hg_6]; exact HB.out.size)
 rw [← hw_6, ← hg_6]
 replace HM := qHd (HM.out.below hb_6)
 replace Gg1 := qHd (qaa Gg1.out hb_6)
 replace HB := qHd (HB.out.trans (hb_6.mono HB.out.size))
 clear hw_6 hg_6 hb_6 hmm
 refine qad.mk ?_
 refine wp_loop_rounds 2 ?_
 rw [rounds_succ]
 obtain ⟨x7, x8, x9, x10, x11, x12, x13, x14⟩ := qcq Gg1.out
 go_wp2_with (with_reducible refine qac ?_)
 clear x7 x8 x9 x10 x11 x12 x13 x14
 refine qad.mk ?_
 have HK := qHd (gatesOf_m w5 HM.out)
 (with_reducible refine HK.out.mono ?_); rintro e w15 ⟨rfl, hb⟩; clear HK
 replace HM := qHd (HM.out.below hb)
 replace Gg1 := qHd (qaa Gg1.out hb)
 replace Mg4 := qHd (qde.below Mg4.out hb)
 replace HB := qHd (HB.out.trans (hb.mono HB.out.size))
 clear hb
 go_wp2_with (with_reducible first | refine qah ?_ | refine qae ?_)
 refine qad.mk ?_
 refine wp_loop_rounds 2 ?_
 rw [rounds_succ]
 obtain ⟨x16, x17, x18, x19, x20, x21, x22, x23⟩ := qcq Gg1.out
 go_wp2_with (with_reducible refine qac ?_)
 clear x16 x17 x18 x19 x20 x21 x22 x23
 refine qad.mk ?_
 have HK := qHd (walk_g g4 w15 HM.out Mg4.out ⟨Nat.lt_of_lt_of_le LM.out.1 LO_g4.out, Nat.lt_of_lt_of_le LM.out.2.1 LO_g4.out, Nat.lt_of_lt_of_le LM.out.2.2 LO_g4.out⟩)
 (with_reducible refine HK.out.mono ?_); rintro e w24 ⟨rfl, hx⟩; clear HK
 have q_ := (And.intro (qHd (HM.out.exc hx (fun hm => by simp only [List.mem_cons, List.not_mem_nil, or_false] at hm; have h1 := LM.out; have h_g4 := LO_g4.out; omega) (fun hm => by simp only [List.mem_cons, List.not_mem_nil, or_false] at hm; have h1 := LM.out; have h_g4 := LO_g4.out; omega) (fun hm => by simp only [List.mem_cons, List.not_mem_nil, or_false] at hm; have h1 := LM.out; have h_g4 := LO_g4.out; omega))) (qHd (hx.heap Gg1.out (fun hm => (fun e => (qdm Mg4.out Gg1.out) e.symm) (List.mem_singleton.1 hm))))); clear HM Gg1; obtain ⟨HM, Gg1⟩ := q_
 replace HB := qHd (hx.low HB.out HB.out.size (fun g hg => by rw [List.mem_singleton.1 hg]; exact LO_g4.out))
 clear hx Mg4
 go_wp2_with (with_reducible first | refine qah ?_ | refine qae ?_)
 refine qad.mk ?_
 rw [rounds_succ]
 go_wp2_with (with_reducible first | refine qah ?_ | refine qae ?_)
 refine qad.mk ?_
 rw [rounds_succ]
 have x25 : w24.cell? ⟨g1, 5, none⟩ = some (.slice none 0 0) := cell_of_row _ _ _ _ _ _ (Gg1.out)
 go_wp2_with fail
 clear x25
 go_ret
 exact ⟨rfl, HB.out⟩
theorem mcheck_m {ge ce gg cg gi ci : Nat} (w : World) (h : Md w ge ce gg cg gi ci) :
  Calls Tryz.prog 41 #[.agg #[.string ⟨#[109]⟩, .string ⟨#[103]⟩, .slice (some ⟨ge, 0, none⟩) 2 ce, .slice none 0 0, .slice (some ⟨gg, 0, none⟩) 1 cg, .slice none 0 0, .slice none 0 0, .slice none 0 0]] w (qcc w (.nilIface)) := by
 have HM := qHd h; have LM := qHd h.lt; clear h
 have HB := qHd (Below.refl w.heap.size w)
 go_enter Tryz.func41, Tryz.ntmps41
 go_wp2_with (with_reducible refine qag 14 ?_)
 obtain ⟨w2, hw_3, hb_3, g1, hg_3, Gg1, LO_g1⟩ := qcd HB.out.size (.cells #[.string ⟨#[109]⟩, .string ⟨#[103]⟩, .slice (some ⟨ge, 0, none⟩) 2 ce, .slice none 0 0, .slice (some ⟨gg, 0, none⟩) 1 cg, .slice none 0 0, .slice none 0 0, .slice none 0 0] 44)
 rw [← hw_3, ← hg_3]
 replace HM := qHd (HM.out.below hb_3)
 replace HB := qHd (HB.out.trans (hb_3.mono HB.out.size))
 clear hw_3 hg_3 hb_3
 refine qad.mk ?_
 have x4 : w2.cell? ⟨g1, 0, none⟩ = some (.string ⟨#[109]⟩) := cell_of_row _ _ _ _ _ _ (Gg1.out)
 go_wp2_with (with_reducible refine qac ?_)
 clear x4
 refine qad.mk ?_
 have HK := qHd (name_m w2)
 (with_reducible refine HK.out.mono ?_); rintro e w5 ⟨rfl, hb⟩; clear HK
 replace HM := qHd (HM.out.below hb)
 replace Gg1 := qHd (qaa Gg1.out hb)
 replace HB := qHd (HB.out.trans (hb.mono HB.out.size))
 clear hb
 obtain ⟨x6, x7, x8, x9, x10, x11, x12, x13⟩ := qcq Gg1.out
 go_wp2_with (with_reducible refine qac ?_)
 clear x6 x7 x8 x9 x10 x11 x12 x13
 refine qad.mk ?_
 have HK := qHd (checkEvents_m w5 HM.out)
 (with_reducible refine HK.out.mono ?_); rintro e w14 ⟨rfl, hb⟩; clear HK
 replace HM := qHd (HM.out.below hb)
 replace Gg1 := qHd (qaa Gg1.out hb)
 replace HB := qHd (HB.out.trans (hb.mono HB.out.size))
 clear hb
 obtain ⟨x15, x16, x17, x18, x19, x20, x21, x22⟩ := qcq Gg1.out
 go_wp2_with (with_reducible refine qac ?_)
 clear x15 x16 x17 x18 x19 x20 x21 x22
 refine qad.mk ?_
 have HK := qHd (checkPages_m w14 HM.out)
 (with_reducible refine HK.out.mono ?_); rintro e w23 ⟨rfl, hb⟩; clear HK
 replace HM := qHd (HM.out.below hb)
 replace Gg1 := qHd (qaa Gg1.out hb)
 replace HB := qHd (HB.out.trans (hb.mono HB.out.size))
 clear hb
 go_wp2_with (with_reducible first | refine qah ?_ | refine qae ?_)
 refine qad.mk ?_
 refine wp_loop_rounds 2 ?_
 rw [rounds_succ]
 obtain ⟨x24, x25, x26, x27, x28, x29, x30, x31⟩ := qcq Gg1.out
 go_wp2_with (with_reducible refine qac ?_)
 clear x24 x25 x26 x27 x28 x29 x30 x31
 refine qad.mk ?_
 have HK := qHd (checkGates_m w23 HM.out)
 (with_reducible refine HK.out.mono ?_); rintro e w32 ⟨rfl, hb⟩; clear HK
 replace HM := qHd (HM.out.below hb)
 replace Gg1 := qHd (qaa Gg1.out hb)
 replace HB := qHd (HB.out.trans (hb.mono HB.out.size))
 clear hb
 go_wp2_with (with_reducible first | refine qah ?_ | refine qae ?_)
 refine qad.mk ?_
 rw [rounds_succ]
 have x33 : w32.cell? ⟨g1, 5, none⟩ = some (.slice none 0 0) := cell_of_row _ _ _ _ _ _ (Gg1.out)
 go_wp2_with (with_reducible first | refine qah ?_ | refine qae ?_)
 clear x33
 refine qad.mk ?_
 refine wp_loop_rounds 2 ?_
 rw [rounds_succ]
 obtain ⟨x34, x35, x36, x37, x38, x39, x40, x41⟩ := qcq Gg1.out
 go_wp2_with (with_reducible refine qac ?_)
 clear x34 x35 x36 x37 x38 x39 x40 x41
 refine qad.mk ?_
 have HK := qHd (checkInputs_m w32 HM.out)
 (with_reducible refine HK.out.mono ?_); rintro e w42 ⟨rfl, hb⟩; clear HK
 replace HM := qHd (HM.out.below hb)
 replace Gg1 := qHd (qaa Gg1.out hb)
 replace HB := qHd (HB.out.trans (hb.mono HB.out.size))
 clear hb
 go_wp2_with (with_reducible first | refine qah ?_ | refine qae ?_)
 refine qad.mk ?_
 rw [rounds_succ]
 obtain ⟨x43, x44, x45, x46, x47, x48, x49, x50⟩ := qcq Gg1.out
 go_wp2_with (with_reducible refine qac ?_)
 clear x43 x44 x45 x46 x47 x48 x49 x50
 refine qad.mk ?_
 have HK := qHd (isInput_g w42 HM.out)
 (with_reducible refine HK.out.mono ?_); rintro e w51 ⟨rfl, hb⟩; clear HK
 replace HM := qHd (HM.out.below hb)
 replace Gg1 := qHd (qaa Gg1.out hb)
 replace HB := qHd (HB.out.trans (hb.mono HB.out.size))
 clear hb
 obtain ⟨x52, x53, x54, x55, x56, x57, x58, x59⟩ := qcq Gg1.out
 go_wp2_with (with_reducible refine qac ?_)
 clear x52 x53 x54 x55 x56 x57 x58 x59
 refine qad.mk ?_
 have HK := qHd (checkGroups_m w51 HM.out)
 (with_reducible refine HK.out.mono ?_); rintro e w60 ⟨rfl, hb⟩; clear HK
 replace HM := qHd (HM.out.below hb)
 replace Gg1 := qHd (qaa Gg1.out hb)
 replace HB := qHd (HB.out.trans (hb.mono HB.out.size))
 clear hb
 obtain ⟨x61, x62, x63, x64, x65, x66, x67, x68⟩ := qcq Gg1.out
 go_wp2_with (with_reducible refine qac ?_)
 clear x61 x62 x63 x64 x65 x66 x67 x68
 refine qad.mk ?_
 have HK := qHd (checkPhases_m w60 HM.out)
 (with_reducible refine HK.out.mono ?_); rintro e w69 ⟨rfl, hb⟩; clear HK
 replace HM := qHd (HM.out.below hb)
 replace Gg1 := qHd (qaa Gg1.out hb)
 replace HB := qHd (HB.out.trans (hb.mono HB.out.size))
 clear hb
 obtain ⟨x70, x71, x72, x73, x74, x75, x76, x77⟩ := qcq Gg1.out
 go_wp2_with (with_reducible refine qac ?_)
 clear x70 x71 x72 x73 x74 x75 x76 x77
 refine qad.mk ?_
 have HK := qHd (cyclic_m w69 HM.out)
 (with_reducible refine HK.out.mono ?_); rintro e w78 ⟨rfl, hb⟩; clear HK
 replace HM := qHd (HM.out.below hb)
 replace Gg1 := qHd (qaa Gg1.out hb)
 replace HB := qHd (HB.out.trans (hb.mono HB.out.size))
 clear hb
 go_wp2_with fail
 go_ret
 exact ⟨rfl, HB.out⟩
theorem minput_m {ge ce gg cg gi ci : Nat} (w : World) (h : Md w ge ce gg cg gi ci) :
  Calls Tryz.prog 80 #[.agg #[.string ⟨#[109]⟩, .string ⟨#[103]⟩, .slice (some ⟨ge, 0, none⟩) 2 ce, .slice none 0 0, .slice (some ⟨gg, 0, none⟩) 1 cg, .slice none 0 0, .slice none 0 0, .slice none 0 0], .int .i64 (-1), .string ⟨#[103]⟩] w (qcc w (.tuple #[.int .i64 2, .int .i64 (-1), .int .i64 0, .nilIface])) := by
 have HM := qHd h; have LM := qHd h.lt; clear h
 have HB := qHd (Below.refl w.heap.size w)
 go_enter Tryz.func80, Tryz.ntmps80
 go_wp2_with (with_reducible refine qag 12 ?_)
 obtain ⟨w2, hw_3, hb_3, g1, hg_3, Gg1, LO_g1⟩ := qcd HB.out.size (.cells #[.string ⟨#[109]⟩, .string ⟨#[103]⟩, .slice (some ⟨ge, 0, none⟩) 2 ce, .slice none 0 0, .slice (some ⟨gg, 0, none⟩) 1 cg, .slice none 0 0, .slice none 0 0, .slice none 0 0] 44)
 rw [← hw_3, ← hg_3]
 replace HM := qHd (HM.out.below hb_3)
 replace HB := qHd (HB.out.trans (hb_3.mono HB.out.size))
 clear hw_3 hg_3 hb_3
 refine qad.mk ?_
 obtain ⟨x4, x5, x6, x7, x8, x9, x10, x11⟩ := qcq Gg1.out
 go_wp2_with (with_reducible refine qac ?_)
 clear x4 x5 x6 x7 x8 x9 x10 x11
 refine qad.mk ?_
 have HK := qHd (mcheck_m w2 HM.out)
 (with_reducible refine HK.out.mono ?_); rintro e w12 ⟨rfl, hb⟩; clear HK
 replace HM := qHd (HM.out.below hb)
 replace Gg1 := qHd (qaa Gg1.out hb)
 replace HB := qHd (HB.out.trans (hb.mono HB.out.size))
 clear hb
 obtain ⟨x13, x14, x15, x16, x17, x18, x19, x20⟩ := qcq Gg1.out
 go_wp2_with (with_reducible refine qac ?_)
 clear x13 x14 x15 x16 x17 x18 x19 x20
 refine qad.mk ?_
 have HK := qHd (isInput_g w12 HM.out)
 (with_reducible refine HK.out.mono ?_); rintro e w21 ⟨rfl, hb⟩; clear HK
 replace HM := qHd (HM.out.below hb)
 replace Gg1 := qHd (qaa Gg1.out hb)
 replace HB := qHd (HB.out.trans (hb.mono HB.out.size))
 clear hb
 obtain ⟨x22, x23, x24, x25, x26, x27, x28, x29⟩ := qcq Gg1.out
 go_wp2_with (with_reducible refine qac ?_)
 clear x22 x23 x24 x25 x26 x27 x28 x29
 refine qad.mk ?_
 have HK := qHd (resolve_g w21 HM.out)
 (with_reducible refine HK.out.mono ?_); rintro e w30 ⟨rfl, hb⟩; clear HK
 replace HM := qHd (HM.out.below hb)
 replace Gg1 := qHd (qaa Gg1.out hb)
 replace HB := qHd (HB.out.trans (hb.mono HB.out.size))
 clear hb
 go_wp2_with (with_reducible refine qaf 193 ?_)
 obtain ⟨w32, hw_33, hb_33, g31, hg_33, Gg31, LO_g31⟩ := qcd HB.out.size (.cells #[.int .i64 0, .int .i64 0, .int .i64 0] 193)
 rw [← hw_33, ← hg_33]
 replace HM := qHd (HM.out.below hb_33)
 replace Gg1 := qHd (qaa Gg1.out hb_33)
 replace HB := qHd (HB.out.trans (hb_33.mono HB.out.size))
 clear hw_33 hg_33 hb_33
 refine qau g31 [.int .i64 2, .int .i64 (-1), .int .i64 0] Gg31.out rfl rfl rfl (by kernel_rfl) rfl ?_
 intro w34 hx_ hgn
 have q_ := (And.intro (qHd (HM.out.exc hx_ (fun hm => by simp only [List.mem_cons, List.not_mem_nil, or_false] at hm; have h1 := LM.out; have h_g31 := LO_g31.out; omega) (fun hm => by simp only [List.mem_cons, List.not_mem_nil, or_false] at hm; have h1 := LM.out; have h_g31 := LO_g31.out; omega) (fun hm => by simp only [List.mem_cons, List.not_mem_nil, or_false] at hm; have h1 := LM.out; have h_g31 := LO_g31.out; omega))) (qHd (hx_.heap Gg1.out (fun hm => qaw Gg1.out Gg31.out (by simp) (List.mem_singleton.1 hm))))); clear HM Gg1; obtain ⟨HM, Gg1⟩ := q_
 replace HB := qHd (hx_.low HB.out HB.out.size (fun g hg => by rw [List.mem_singleton.1 hg]; exact LO_g31.out))
 replace Gg31 := qHd hgn
 clear hx_ hgn
 go_wp2_with (with_reducible refine qax ?_)
 refine qad.mk ?_
 obtain ⟨x35, x36, x37⟩ := row3m Gg31.out
 go_quiet (fail)
 clear x35 x36 x37
 generalize hW : World.drewN w34 _ = w38
 have hb : Below w34.heap.size w34 w38 := by rw [← hW]; exact qcp (Below.refl _ _) _
 replace HM := qHd (HM.out.below hb)
 replace Gg1 := qHd (qaa Gg1.out hb)
 replace Gg31 := qHd (qaa Gg31.out hb)
 replace HB := qHd (HB.out.trans (hb.mono HB.out.size))
 clear hb hW
 go_wp2_with fail
 refine ret_t4 rfl rfl ?_
 exact ⟨rfl, HB.out⟩
end Go.Proofs.YteadcgmaailjlaaGreatDoor
