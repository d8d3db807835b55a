/-
  What the law leans on, one text behind the other (the base).
  Conditions: each theorem's own.
-/
import Derived.Lib.SmallJoins
import Derived.Carry
import Derived.ShutString
import Derived.OpenShut
import Derived.Test.YteadcgmaailjlaaGreatDoorME8
set_option maxRecDepth 100000
set_option maxHeartbeats 16000000
namespace Go.Proofs.YteadcgmaailjlaaGreatDoor
open Go.RowKit Go.ChangeShapes Go.WideShapes
theorem printGate_m {ge ce gg cg gi ci : Nat} (w : World) (h : Md w ge ce gg cg gi ci) :
  Calls Tryz.prog 87 #[.agg #[.string ⟨#[103]⟩, .int .i64 0, .int .i64 0, .slice (some ⟨gi, 0, none⟩) 2 ci, .bool false, .slice none 0 0, .slice none 0 0]] w (qcc w (.string ⟨#[103, 97, 116, 101, 32, 103, 32, 97, 110, 100, 32, 97, 32, 98, 59]⟩)) := by
 have HM := qHd h; have LM := qHd h.lt; clear h
 have HB := qHd (Below.refl w.heap.size w)
 go_enter Tryz.func87, Tryz.ntmps87
 go_wp2_with (with_reducible refine qax ?_)
 obtain ⟨w2, hw_3, hb_3, g1, hg_3, Gg1, LO_g1⟩ := qcd HB.out.size (.cells #[.string ⟨#[103]⟩, .int .i64 0, .int .i64 0, .slice (some ⟨gi, 0, none⟩) 2 ci, .bool false, .slice none 0 0, .slice none 0 0] 107)
 rw [← hw_3, ← hg_3]
 replace HM := qHd (HM.out.below hb_3)
 replace HB := qHd (HB.out.trans (hb_3.mono HB.out.size))
 clear hw_3 hg_3 hb_3
 refine qad.mk ?_
 refine qbz (A := ?aaD4) (w := w2) 7 rfl (by kernel_rfl) (Fl [KEq (.pointer (some ⟨g1, 0, none⟩)), KEq (.string ⟨#[103]⟩), KEq (.pointer (some ⟨g1, 1, none⟩)), KEq (.int .i64 0), KEq (.string ⟨#[97, 110, 100]⟩), KLst w2.heap.size 3 #[.string ⟨#[103, 97, 116, 101]⟩, .string ⟨#[103]⟩, .string ⟨#[97, 110, 100]⟩] 9, KLst w2.heap.size 3 #[.string ⟨#[103, 97, 116, 101]⟩, .string ⟨#[103]⟩, .string ⟨#[97, 110, 100]⟩] 9]) (fun i => false) (by kernel_rfl) (qdx (qai (kEq _) (qai (kEq _) (qai (kEq _) (qai (kEq _) (qai (kEq _) (qai (kLst _ _ _ _) (qai (kLst _ _ _ _) qdw)))))))) ?haD4 ?stD4 ?tlD4
 case haD4 =>
  intro vals
  simp only [qat, qcf, if_true, Act.put, List.setIfInBounds_toArray, List.set_cons_zero, List.set_cons_succ, List.getElem?_toArray, List.getElem?_cons_zero, List.getElem?_cons_succ, Option.bind_some]
  exact rfl
 case stD4 =>
  refine qab rfl rfl ?_ (qab rfl rfl ?_ (qab rfl rfl ?_ (qab rfl rfl ?_ (qab rfl rfl ?_ (qab rfl rfl ?_ (qab rfl rfl ?_ (qbb)))))))
  ·intro vals w1 hb hd
   refine qSv (.pointer (some ⟨g1, 0, none⟩)) (by go_simp) (qLk rfl rfl)
  ·intro vals w1 hb hd
   have e0 : w1.cell? ⟨g1, 0, none⟩ = some (.string ⟨#[103]⟩) := cell_of_row _ _ _ _ _ _ ((qaa Gg1.out hb))
   rw [show vals 0 = .pointer (some ⟨g1, 0, none⟩) from hd 0 (by kernel_rfl)]
   refine qSv (.string ⟨#[103]⟩) (by go_simp) (qLk rfl rfl)
  ·intro vals w1 hb hd
   refine qSv (.pointer (some ⟨g1, 1, none⟩)) (by go_simp) (qLk rfl rfl)
  ·intro vals w1 hb hd
   have e1 : w1.cell? ⟨g1, 1, none⟩ = some (.int .i64 0) := cell_of_row _ _ _ _ _ _ ((qaa Gg1.out hb))
   rw [show vals 2 = .pointer (some ⟨g1, 1, none⟩) from hd 2 (by kernel_rfl)]
   refine qSv (.int .i64 0) (by go_simp) (qLk rfl rfl)
  ·intro vals w1 hb hd
   have d3 : KEq (.int .i64 0) (vals 3) w1 := hd 3 (by kernel_rfl)
   have HS := qHd (word_0 w1)
   have z3 : vals 3 = _ := d3
   rw [z3]; clear z3
   refine qbh (by go_simp; first | done | exact ⟨⟨rfl, rfl⟩, rfl⟩) ?_
   (with_reducible refine HS.out.mono ?_); rintro e w2 ⟨rfl, hb2⟩
   exact ⟨_, rfl, qba hb2 rfl (fun h => by cases h)⟩
  ·intro vals w1 hb hd
   rw [show vals 1 = .string ⟨#[103]⟩ from hd 1 (by kernel_rfl)]
   rw [show vals 4 = .string ⟨#[97, 110, 100]⟩ from hd 4 (by kernel_rfl)]
   refine qak (v := .slice (some ⟨w1.heap.size, 0, none⟩) 3 3) (w' := w1.alloc (.cells #[.string ⟨#[103, 97, 116, 101]⟩, .string ⟨#[103]⟩, .string ⟨#[97, 110, 100]⟩] 9)) (by go_simp) (qba ((Below.refl _ _).alloc (Nat.le_refl _) _) ⟨_, hb.size, rfl, heap_alloc_new _ _⟩ (fun h => by cases h))
  ·intro vals w1 hb hd
   have d5 : KLst w2.heap.size 3 #[.string ⟨#[103, 97, 116, 101]⟩, .string ⟨#[103]⟩, .string ⟨#[97, 110, 100]⟩] 9 (vals 5) w1 := hd 5 (by kernel_rfl)
   obtain ⟨gx, q1, q2, q3⟩ := d5
   rw [q2]
   refine qak (v := .slice (some ⟨gx, 0, none⟩) 3 3) (w' := w1) (by go_simp) (qba (Below.refl _ _) ⟨gx, q1, rfl, q3⟩ (fun h => by cases h))
 case tlD4 =>
  intro vals w7 hb hf hdis
  have z_ : vals 0 = .pointer (some ⟨g1, 0, none⟩) := hf 0 (by decide)
  try rw [z_]
  clear z_
  have z_ : vals 1 = .string ⟨#[103]⟩ := hf 1 (by decide)
  try rw [z_]
  clear z_
  have z_ : vals 2 = .pointer (some ⟨g1, 1, none⟩) := hf 2 (by decide)
  try rw [z_]
  clear z_
  have z_ : vals 3 = .int .i64 0 := hf 3 (by decide)
  try rw [z_]
  clear z_
  have z_ : vals 4 = .string ⟨#[97, 110, 100]⟩ := hf 4 (by decide)
  try rw [z_]
  clear z_
  obtain ⟨g5, hg_g5, ez_g5, hz_g5⟩ : KLst w2.heap.size 3 #[.string ⟨#[103, 97, 116, 101]⟩, .string ⟨#[103]⟩, .string ⟨#[97, 110, 100]⟩] 9 (vals 5) w7 := hf 5 (by decide)
  try rw [ez_g5]
  clear ez_g5 hg_g5 hz_g5
  obtain ⟨g6, hg_g6, ez_g6, hz_g6⟩ : KLst w2.heap.size 3 #[.string ⟨#[103, 97, 116, 101]⟩, .string ⟨#[103]⟩, .string ⟨#[97, 110, 100]⟩] 9 (vals 6) w7 := hf 6 (by decide)
  try rw [ez_g6]
  clear ez_g6
  clear hf hdis
  have LO_g6 := qHd (show w.heap.size ≤ g6 from Nat.le_trans HB.out.size hg_g6)
  replace HM := qHd (HM.out.below hb)
  replace Gg1 := qHd (qaa Gg1.out hb)
  replace HB := qHd (HB.out.trans (hb.mono HB.out.size))
  have Gg6 := qHd hz_g6; clear hz_g6 hg_g6
  clear hb
  have x8 : w7.cell? ⟨g1, 1, none⟩ = some (.int .i64 0) := cell_of_row _ _ _ _ _ _ (Gg1.out)
  have x9 : w7.cell? ⟨g1, 3, none⟩ = some (.slice (some ⟨gi, 0, none⟩) 2 ci) := cell_of_row _ _ _ _ _ _ (Gg1.out)
  go_wp2_with (with_reducible refine qam ?_)
  clear x8 x9
  have O10 := qHd (own_litS (xs := [.string ⟨#[103, 97, 116, 101]⟩, .string ⟨#[103]⟩, .string ⟨#[97, 110, 100]⟩]) Gg6.out LO_g6.out rfl (by decide) (by intro u hu n; simp only [List.mem_cons, List.not_mem_nil, or_false] at hu; rcases hu with rfl | rfl | rfl <;> exact fun e => by cases e))
  refine wpList_appLk w.heap.size Tryz.strTyK rfl (show noU [.string ⟨#[]⟩] from (by intro u hu n; simp only [List.mem_cons, List.not_mem_nil, or_false] at hu; subst hu; exact fun e => by cases e)) (by decide) (.slice (some ⟨g6, 0, none⟩) 3 3) 3 [.string ⟨#[103, 97, 116, 101]⟩, .string ⟨#[103]⟩, .string ⟨#[97, 110, 100]⟩] [.string ⟨#[97]⟩, .string ⟨#[98]⟩] ⟨gi, 0, none⟩ 2 ci (by decide) rfl rfl O10.out HM.out.news rfl (by intro u hu; simp only [List.mem_cons, List.not_mem_nil, or_false] at hu; rcases hu with rfl | rfl <;> rfl) (by intro u hu n; simp only [List.mem_cons, List.not_mem_nil, or_false] at hu; rcases hu with rfl | rfl <;> exact fun e => by cases e) (by intro u hu n; simp only [List.mem_cons, List.not_mem_nil, or_false] at hu; rcases hu with rfl | rfl | rfl <;> exact fun e => by cases e) (by decide) (by decide) HB.out.size ?_
  intro v_ w11 ho hgr hfr
  obtain ⟨a_, cg12, rfl, hc1, hc2, _⟩ := qaz ho.1
  obtain ⟨g12, rfl, hgB, hglt, _, _, _⟩ := qbt ho.1 rfl (by decide)
  have LO_g12 := qHd hgB
  have NE_g12_g1 := qHd (show g12 ≠ g1 from fun e => hfr g1 (qao Gg1.out) (fun e => by cases e; exact qaw Gg6.out Gg1.out (by simp) rfl) (by rw [e]; rfl))
  have hon := qHd ho; clear ho
  have he_ := (Exc.of_grown (X := [g6]) hgr (fun g h => by cases h; simp))
  have q_ := (And.intro (qHd (HM.out.exc he_ (fun hm => by simp only [List.mem_cons, List.not_mem_nil, or_false] at hm; have h1 := LM.out; have h_g6 := LO_g6.out; omega) (fun hm => by simp only [List.mem_cons, List.not_mem_nil, or_false] at hm; have h1 := LM.out; have h_g6 := LO_g6.out; omega) (fun hm => by simp only [List.mem_cons, List.not_mem_nil, or_false] at hm; have h1 := LM.out; have h_g6 := LO_g6.out; omega))) (qHd (he_.heap Gg1.out (fun hm => qaw Gg1.out Gg6.out (by simp) (List.mem_singleton.1 hm))))); clear HM Gg1; obtain ⟨HM, Gg1⟩ := q_
  replace HB := qHd (he_.low HB.out HB.out.size (fun g hg => by rw [List.mem_singleton.1 hg]; exact LO_g6.out))
  clear he_
  clear hgr hfr hgB hglt hc1 hc2
  have O13 := hon; clear hon O10
  go_wp2_with (with_reducible refine qac ?_)
  refine qad.mk ?_
  have HK := qHd (line_gate g12 cg12 w11 (sts_of_own (xs := [⟨#[103, 97, 116, 101]⟩, ⟨#[103]⟩, ⟨#[97, 110, 100]⟩, ⟨#[97]⟩, ⟨#[98]⟩]) O13.out (by decide)) (own_cap O13.out))
  (with_reducible refine HK.out.mono ?_); rintro e w14 ⟨rfl, hb⟩; clear HK
  replace HM := qHd (HM.out.below hb)
  replace Gg1 := qHd (qaa Gg1.out hb)
  replace O13 := qHd (O13.out.below hb)
  replace HB := qHd (HB.out.trans (hb.mono HB.out.size))
  clear hb
  go_wp2_with fail
  go_ret
  exact ⟨rfl, HB.out⟩
theorem prGate_m {ge ce gg cg gi ci : Nat} (gp : Nat) (w : World) (h : Md w ge ce gg cg gi ci) :
  Calls Tryz.prog 46 #[.pointer (some ⟨gp, 0, none⟩), .agg #[.string ⟨#[103]⟩, .int .i64 0, .int .i64 0, .slice (some ⟨gi, 0, none⟩) 2 ci, .bool false, .slice none 0 0, .slice none 0 0]] w (qcc w (.string ⟨#[103, 97, 116, 101, 32, 103, 32, 97, 110, 100, 32, 97, 32, 98, 59]⟩)) := by
 have HM := qHd h; have LM := qHd h.lt; clear h
 have HB := qHd (Below.refl w.heap.size w)
 go_enter Tryz.func46, Tryz.ntmps46
 go_wp2_with (with_reducible refine qag 6 ?_)
 obtain ⟨w2, hw_3, hb_3, g1, hg_3, Gg1, LO_g1⟩ := qcd HB.out.size (.cells #[.string ⟨#[103]⟩, .int .i64 0, .int .i64 0, .slice (some ⟨gi, 0, none⟩) 2 ci, .bool false, .slice none 0 0, .slice none 0 0] 107)
 rw [← hw_3, ← hg_3]
 replace HM := qHd (HM.out.below hb_3)
 replace HB := qHd (HB.out.trans (hb_3.mono HB.out.size))
 clear hw_3 hg_3 hb_3
 refine qad.mk ?_
 obtain ⟨x4, x5, x6, x7, x8, x9, x10⟩ := row7m Gg1.out
 go_wp2_with (with_reducible refine qac ?_)
 clear x4 x5 x6 x7 x8 x9 x10
 refine qad.mk ?_
 have HK := qHd (printGate_m w2 HM.out)
 (with_reducible refine HK.out.mono ?_); rintro e w11 ⟨rfl, hb⟩; clear HK
 replace HM := qHd (HM.out.below hb)
 replace Gg1 := qHd (qaa Gg1.out hb)
 replace HB := qHd (HB.out.trans (hb.mono HB.out.size))
 clear hb
 go_wp2_with fail
 go_ret
 exact ⟨rfl, HB.out⟩
theorem prEvent_a (gp : Nat) (w : World)  :
  Calls Tryz.prog 45 #[.pointer (some ⟨gp, 0, none⟩), .agg #[.string ⟨#[97]⟩, .bool false, .slice none 0 0, .slice none 0 0, .bool false, .slice none 0 0, .slice none 0 0, .bool false, .slice none 0 0, .slice none 0 0, .int .i64 0]] w (qcc w (.string ⟨#[101, 118, 101, 110, 116, 32, 97, 59]⟩)) := by
 have HB := qHd (Below.refl w.heap.size w)
 go_enter Tryz.func45, Tryz.ntmps45
 go_wp2_with (with_reducible refine qag 9 ?_)
 obtain ⟨w2, hw_3, hb_3, g1, hg_3, Gg1, LO_g1⟩ := qcd HB.out.size (.cells #[.string ⟨#[97]⟩, .bool false, .slice none 0 0, .slice none 0 0, .bool false, .slice none 0 0, .slice none 0 0, .bool false, .slice none 0 0, .slice none 0 0, .int .i64 0] 101)
 rw [← hw_3, ← hg_3]
 replace HB := qHd (HB.out.trans (hb_3.mono HB.out.size))
 clear hw_3 hg_3 hb_3
 refine qad.mk ?_
 have x5 : w2.cell? ⟨g1, 0, none⟩ = some (.string ⟨#[97]⟩) := cell_of_row _ _ _ _ _ _ (Gg1.out)
 go_wp2_with (with_reducible refine qax ?_)
 clear x5
 obtain ⟨w6, hw_7, hb_7, g4, hg_7, Gg4, LO_g4⟩ := qcd HB.out.size (.cells #[.string ⟨#[101, 118, 101, 110, 116]⟩, .string ⟨#[97]⟩] 9)
 rw [← hw_7, ← hg_7]
 replace Gg1 := qHd (qaa Gg1.out hb_7)
 replace HB := qHd (HB.out.trans (hb_7.mono HB.out.size))
 clear hw_7 hg_7 hb_7
 refine qad.mk ?_
 refine qbz (A := ?aaD8) (w := w6) 16 rfl (by kernel_rfl) (Fl [KEq (.pointer (some ⟨g1, 1, none⟩)), KEq (.agg #[.bool false, .slice none 0 0, .slice none 0 0]), KEq (.agg #[.string ⟨#[112]⟩, .bool false, .slice none 0 0, .slice none 0 0]), KEq (.pointer (some ⟨g1, 4, none⟩)), KEq (.agg #[.bool false, .slice none 0 0, .slice none 0 0]), KEq (.agg #[.string ⟨#[102, 97, 105, 108]⟩, .bool false, .slice none 0 0, .slice none 0 0]), KEq (.pointer (some ⟨g1, 7, none⟩)), KEq (.agg #[.bool false, .slice none 0 0, .slice none 0 0]), KEq (.agg #[.string ⟨#[114, 101, 112, 97, 105, 114]⟩, .bool false, .slice none 0 0, .slice none 0 0]), KEq (.pointer (some ⟨g1, 10, none⟩)), KEq (.int .i64 0), KEq (.agg #[.bool false, .slice none 0 0, .slice none 0 0]), KEq (.agg #[.string ⟨#[99, 111, 115, 116]⟩, .bool false, .slice none 0 0, .slice none 0 0]), KLst w6.heap.size 4 #[.string ⟨#[112]⟩, .bool false, .slice none 0 0, .slice none 0 0, .string ⟨#[102, 97, 105, 108]⟩, .bool false, .slice none 0 0, .slice none 0 0, .string ⟨#[114, 101, 112, 97, 105, 114]⟩, .bool false, .slice none 0 0, .slice none 0 0, .string ⟨#[99, 111, 115, 116]⟩, .bool false, .slice none 0 0, .slice none 0 0] 162, KEq (.int .i64 4), KEq (.int .i64 0)]) (fun i => false) (by kernel_rfl) (qdx (qai (kEq _) (qai (kEq _) (qai (kEq _) (qai (kEq _) (qai (kEq _) (qai (kEq _) (qai (kEq _) (qai (kEq _) (qai (kEq _) (qai (kEq _) (qai (kEq _) (qai (kEq _) (qai (kEq _) (qai (kLst _ _ _ _) (qai (kEq _) (qai (kEq _) qdw))))))))))))))))) ?haD8 ?stD8 ?tlD8
 case haD8 =>
  intro vals
  simp only [qat, qcf, if_true, Act.put, List.setIfInBounds_toArray, List.set_cons_zero, List.set_cons_succ, List.getElem?_toArray, List.getElem?_cons_zero, List.getElem?_cons_succ, Option.bind_some]
  exact rfl
 case stD8 =>
  refine qab rfl rfl ?_ (qab rfl rfl ?_ (qab rfl rfl ?_ (qab rfl rfl ?_ (qab rfl rfl ?_ (qab rfl rfl ?_ (qab rfl rfl ?_ (qab rfl rfl ?_ (qab rfl rfl ?_ (qab rfl rfl ?_ (qab rfl rfl ?_ (qab rfl rfl ?_ (qab rfl rfl ?_ (qab rfl rfl ?_ (qab rfl rfl ?_ (qab rfl rfl ?_ (qbb))))))))))))))))
  ·intro vals w1 hb hd
   refine qSv (.pointer (some ⟨g1, 1, none⟩)) (by go_simp) (qLk rfl rfl)
  ·intro vals w1 hb hd
   have e1 : w1.cell? ⟨g1, 1, none⟩ = some (.bool false) := cell_of_row _ _ _ _ _ _ ((qaa Gg1.out hb))
   have e2 : w1.cell? ⟨g1, 2, none⟩ = some (.slice none 0 0) := cell_of_row _ _ _ _ _ _ ((qaa Gg1.out hb))
   have e3 : w1.cell? ⟨g1, 3, none⟩ = some (.slice none 0 0) := cell_of_row _ _ _ _ _ _ ((qaa Gg1.out hb))
   rw [show vals 0 = .pointer (some ⟨g1, 1, none⟩) from hd 0 (by kernel_rfl)]
   refine qSv (.agg #[.bool false, .slice none 0 0, .slice none 0 0]) (by go_simp) (qLk rfl rfl)
  ·intro vals w1 hb hd
   rw [show vals 1 = .agg #[.bool false, .slice none 0 0, .slice none 0 0] from hd 1 (by kernel_rfl)]
   refine qSv (.agg #[.string ⟨#[112]⟩, .bool false, .slice none 0 0, .slice none 0 0]) (by go_simp) (qLk rfl rfl)
  ·intro vals w1 hb hd
   refine qSv (.pointer (some ⟨g1, 4, none⟩)) (by go_simp) (qLk rfl rfl)
  ·intro vals w1 hb hd
   have e4 : w1.cell? ⟨g1, 4, none⟩ = some (.bool false) := cell_of_row _ _ _ _ _ _ ((qaa Gg1.out hb))
   have e5 : w1.cell? ⟨g1, 5, none⟩ = some (.slice none 0 0) := cell_of_row _ _ _ _ _ _ ((qaa Gg1.out hb))
   have e6 : w1.cell? ⟨g1, 6, none⟩ = some (.slice none 0 0) := cell_of_row _ _ _ _ _ _ ((qaa Gg1.out hb))
   rw [show vals 3 = .pointer (some ⟨g1, 4, none⟩) from hd 3 (by kernel_rfl)]
   refine qSv (.agg #[.bool false, .slice none 0 0, .slice none 0 0]) (by go_simp) (qLk rfl rfl)
  ·intro vals w1 hb hd
   rw [show vals 4 = .agg #[.bool false, .slice none 0 0, .slice none 0 0] from hd 4 (by kernel_rfl)]
   refine qSv (.agg #[.string ⟨#[102, 97, 105, 108]⟩, .bool false, .slice none 0 0, .slice none 0 0]) (by go_simp) (qLk rfl rfl)
  ·intro vals w1 hb hd
   refine qSv (.pointer (some ⟨g1, 7, none⟩)) (by go_simp) (qLk rfl rfl)
  ·intro vals w1 hb hd
   have e7 : w1.cell? ⟨g1, 7, none⟩ = some (.bool false) := cell_of_row _ _ _ _ _ _ ((qaa Gg1.out hb))
   have e8 : w1.cell? ⟨g1, 8, none⟩ = some (.slice none 0 0) := cell_of_row _ _ _ _ _ _ ((qaa Gg1.out hb))
   have e9 : w1.cell? ⟨g1, 9, none⟩ = some (.slice none 0 0) := cell_of_row _ _ _ _ _ _ ((qaa Gg1.out hb))
   rw [show vals 6 = .pointer (some ⟨g1, 7, none⟩) from hd 6 (by kernel_rfl)]
   refine qSv (.agg #[.bool false, .slice none 0 0, .slice none 0 0]) (by go_simp) (qLk rfl rfl)
  ·intro vals w1 hb hd
   rw [show vals 7 = .agg #[.bool false, .slice none 0 0, .slice none 0 0] from hd 7 (by kernel_rfl)]
   refine qSv (.agg #[.string ⟨#[114, 101, 112, 97, 105, 114]⟩, .bool false, .slice none 0 0, .slice none 0 0]) (by go_simp) (qLk rfl rfl)
  ·intro vals w1 hb hd
   refine qSv (.pointer (some ⟨g1, 10, none⟩)) (by go_simp) (qLk rfl rfl)
  ·intro vals w1 hb hd
   have e10 : w1.cell? ⟨g1, 10, none⟩ = some (.int .i64 0) := cell_of_row _ _ _ _ _ _ ((qaa Gg1.out hb))
   rw [show vals 9 = .pointer (some ⟨g1, 10, none⟩) from hd 9 (by kernel_rfl)]
   refine qSv (.int .i64 0) (by go_simp) (qLk rfl rfl)
  ·intro vals w1 hb hd
   have d10 : KEq (.int .i64 0) (vals 10) w1 := hd 10 (by kernel_rfl)
   have HS := qHd (rOf_0 w1)
   have z10 : vals 10 = _ := d10
   rw [z10]; clear z10
   refine qbh (by go_simp; first | done | exact ⟨⟨rfl, rfl⟩, rfl⟩) ?_
   (with_reducible refine HS.out.mono ?_); rintro e w2 ⟨rfl, hb2⟩
   exact ⟨_, rfl, qba hb2 rfl (fun h => by cases h)⟩
  ·intro vals w1 hb hd
   rw [show vals 11 = .agg #[.bool false, .slice none 0 0, .slice none 0 0] from hd 11 (by kernel_rfl)]
   refine qSv (.agg #[.string ⟨#[99, 111, 115, 116]⟩, .bool false, .slice none 0 0, .slice none 0 0]) (by go_simp) (qLk rfl rfl)
  ·intro vals w1 hb hd
   rw [show vals 2 = .agg #[.string ⟨#[112]⟩, .bool false, .slice none 0 0, .slice none 0 0] from hd 2 (by kernel_rfl)]
   rw [show vals 5 = .agg #[.string ⟨#[102, 97, 105, 108]⟩, .bool false, .slice none 0 0, .slice none 0 0] from hd 5 (by kernel_rfl)]
   rw [show vals 8 = .agg #[.string ⟨#[114, 101, 112, 97, 105, 114]⟩, .bool false, .slice none 0 0, .slice none 0 0] from hd 8 (by kernel_rfl)]
   rw [show vals 12 = .agg #[.string ⟨#[99, 111, 115, 116]⟩, .bool false, .slice none 0 0, .slice none 0 0] from hd 12 (by kernel_rfl)]
   refine qak (v := .slice (some ⟨w1.heap.size, 0, none⟩) 4 4) (w' := w1.alloc (.cells #[.string ⟨#[112]⟩, .bool false, .slice none 0 0, .slice none 0 0, .string ⟨#[102, 97, 105, 108]⟩, .bool false, .slice none 0 0, .slice none 0 0, .string ⟨#[114, 101, 112, 97, 105, 114]⟩, .bool false, .slice none 0 0, .slice none 0 0, .string ⟨#[99, 111, 115, 116]⟩, .bool false, .slice none 0 0, .slice none 0 0] 162)) (by go_simp) (qba ((Below.refl _ _).alloc (Nat.le_refl _) _) ⟨_, hb.size, rfl, heap_alloc_new _ _⟩ (fun h => by cases h))
  ·intro vals w1 hb hd
   have d13 : KLst w6.heap.size 4 #[.string ⟨#[112]⟩, .bool false, .slice none 0 0, .slice none 0 0, .string ⟨#[102, 97, 105, 108]⟩, .bool false, .slice none 0 0, .slice none 0 0, .string ⟨#[114, 101, 112, 97, 105, 114]⟩, .bool false, .slice none 0 0, .slice none 0 0, .string ⟨#[99, 111, 115, 116]⟩, .bool false, .slice none 0 0, .slice none 0 0] 162 (vals 13) w1 := hd 13 (by kernel_rfl)
   obtain ⟨gx13, hx13, ez13, hz13⟩ := d13; rw [ez13]
   refine qSv (.int .i64 4) (by go_simp) (qLk rfl rfl)
  ·intro vals w1 hb hd
   refine qSv (.int .i64 0) (by go_simp) (qLk rfl rfl)
 case tlD8 =>
  intro vals w10 hb hf hdis
  have z_ : vals 0 = .pointer (some ⟨g1, 1, none⟩) := hf 0 (by decide)
  try rw [z_]
  clear z_
  have z_ : vals 1 = .agg #[.bool false, .slice none 0 0, .slice none 0 0] := hf 1 (by decide)
  try rw [z_]
  clear z_
  have z_ : vals 2 = .agg #[.string ⟨#[112]⟩, .bool false, .slice none 0 0, .slice none 0 0] := hf 2 (by decide)
  try rw [z_]
  clear z_
  have z_ : vals 3 = .pointer (some ⟨g1, 4, none⟩) := hf 3 (by decide)
  try rw [z_]
  clear z_
  have z_ : vals 4 = .agg #[.bool false, .slice none 0 0, .slice none 0 0] := hf 4 (by decide)
  try rw [z_]
  clear z_
  have z_ : vals 5 = .agg #[.string ⟨#[102, 97, 105, 108]⟩, .bool false, .slice none 0 0, .slice none 0 0] := hf 5 (by decide)
  try rw [z_]
  clear z_
  have z_ : vals 6 = .pointer (some ⟨g1, 7, none⟩) := hf 6 (by decide)
  try rw [z_]
  clear z_
  have z_ : vals 7 = .agg #[.bool false, .slice none 0 0, .slice none 0 0] := hf 7 (by decide)
  try rw [z_]
  clear z_
  have z_ : vals 8 = .agg #[.string ⟨#[114, 101, 112, 97, 105, 114]⟩, .bool false, .slice none 0 0, .slice none 0 0] := hf 8 (by decide)
  try rw [z_]
  clear z_
  have z_ : vals 9 = .pointer (some ⟨g1, 10, none⟩) := hf 9 (by decide)
  try rw [z_]
  clear z_
  have z_ : vals 10 = .int .i64 0 := hf 10 (by decide)
  try rw [z_]
  clear z_
  have z_ : vals 11 = .agg #[.bool false, .slice none 0 0, .slice none 0 0] := hf 11 (by decide)
  try rw [z_]
  clear z_
  have z_ : vals 12 = .agg #[.string ⟨#[99, 111, 115, 116]⟩, .bool false, .slice none 0 0, .slice none 0 0] := hf 12 (by decide)
  try rw [z_]
  clear z_
  obtain ⟨g9, hg_g9, ez_g9, hz_g9⟩ : KLst w6.heap.size 4 #[.string ⟨#[112]⟩, .bool false, .slice none 0 0, .slice none 0 0, .string ⟨#[102, 97, 105, 108]⟩, .bool false, .slice none 0 0, .slice none 0 0, .string ⟨#[114, 101, 112, 97, 105, 114]⟩, .bool false, .slice none 0 0, .slice none 0 0, .string ⟨#[99, 111, 115, 116]⟩, .bool false, .slice none 0 0, .slice none 0 0] 162 (vals 13) w10 := hf 13 (by decide)
  try rw [ez_g9]
  clear ez_g9
  have z_ : vals 14 = .int .i64 4 := hf 14 (by decide)
  try rw [z_]
  clear z_
  have z_ : vals 15 = .int .i64 0 := hf 15 (by decide)
  try rw [z_]
  clear z_
  clear hf hdis
  have LO_g9 := qHd (show w.heap.size ≤ g9 from Nat.le_trans HB.out.size hg_g9)
  replace Gg1 := qHd (qaa Gg1.out hb)
  replace Gg4 := qHd (qaa Gg4.out hb)
  replace HB := qHd (HB.out.trans (hb.mono HB.out.size))
  have Gg9 := qHd hz_g9; clear hz_g9 hg_g9
  clear hb
  go_wp2_with (with_reducible first | refine qah ?_ | refine qae ?_)
  refine qad.mk ?_
  refine wp_loop_rounds 5 ?_
  rw [rounds_succ]
  have x12 : w10.cell? ⟨g9, 0, none⟩ = some (.string ⟨#[112]⟩) := cell_of_row _ _ _ _ _ _ (Gg9.out)
  have x13 : w10.cell? ⟨g9, 1, none⟩ = some (.bool false) := cell_of_row _ _ _ _ _ _ (Gg9.out)
  have x14 : w10.cell? ⟨g9, 2, none⟩ = some (.slice none 0 0) := cell_of_row _ _ _ _ _ _ (Gg9.out)
  have x15 : w10.cell? ⟨g9, 3, none⟩ = some (.slice none 0 0) := cell_of_row _ _ _ _ _ _ (Gg9.out)
  go_wp2_with (with_reducible refine qaf 162 ?_)
  clear x12 x13 x14 x15
  obtain ⟨w16, hw_17, hb_17, g11, hg_17, Gg11, LO_g11⟩ := qcd HB.out.size (.cells #[.string ⟨#[]⟩, .bool false, .slice none 0 0, .slice none 0 0] 162)
  rw [← hw_17, ← hg_17]
  have NE_g9_g11 := qHd (show g9 ≠ g11 by have hq := qao Gg9.out; rw [hg_17]; omega)
  replace Gg1 := qHd (qaa Gg1.out hb_17)
  replace Gg4 := qHd (qaa Gg4.out hb_17)
  replace Gg9 := qHd (qaa Gg9.out hb_17)
  replace HB := qHd (HB.out.trans (hb_17.mono HB.out.size))
  clear hw_17 hg_17 hb_17
  refine qau g11 [.string ⟨#[112]⟩, .bool false, .slice none 0 0, .slice none 0 0] Gg11.out rfl rfl rfl (by kernel_rfl) rfl ?_
  intro w18 hx_ hgn
  have q_ := (And.intro (qHd (hx_.heap Gg1.out (fun hm => qaw Gg1.out Gg11.out (by simp) (List.mem_singleton.1 hm)))) (And.intro (qHd (hx_.heap Gg4.out (fun hm => qaw Gg4.out Gg11.out (by simp) (List.mem_singleton.1 hm)))) (qHd (hx_.heap Gg9.out (fun hm => NE_g9_g11.out (List.mem_singleton.1 hm)))))); clear Gg1 Gg4 Gg9; obtain ⟨Gg1, Gg4, Gg9⟩ := q_
  replace HB := qHd (hx_.low HB.out HB.out.size (fun g hg => by rw [List.mem_singleton.1 hg]; exact LO_g11.out))
  replace Gg11 := qHd hgn
  clear hx_ hgn
  obtain ⟨_, x19, x20, x21⟩ := row4m Gg11.out
  go_wp2_with (with_reducible refine qac ?_)
  clear x19 x20 x21
  refine qad.mk ?_
  have HK := qHd (qdz w18)
  (with_reducible refine HK.out.mono ?_); rintro e w22 ⟨rfl, hb⟩; clear HK
  replace Gg1 := qHd (qaa Gg1.out hb)
  replace Gg4 := qHd (qaa Gg4.out hb)
  replace Gg9 := qHd (qaa Gg9.out hb)
  replace Gg11 := qHd (qaa Gg11.out hb)
  replace HB := qHd (HB.out.trans (hb.mono HB.out.size))
  clear hb
  go_wp2_with (with_reducible first | refine qah ?_ | refine qae ?_)
  refine qad.mk ?_
  rw [rounds_succ]
  clear Gg11 LO_g11
  have x24 : w22.cell? ⟨g9, 4, none⟩ = some (.string ⟨#[102, 97, 105, 108]⟩) := cell_of_row _ _ _ _ _ _ (Gg9.out)
  have x25 : w22.cell? ⟨g9, 5, none⟩ = some (.bool false) := cell_of_row _ _ _ _ _ _ (Gg9.out)
  have x26 : w22.cell? ⟨g9, 6, none⟩ = some (.slice none 0 0) := cell_of_row _ _ _ _ _ _ (Gg9.out)
  have x27 : w22.cell? ⟨g9, 7, none⟩ = some (.slice none 0 0) := cell_of_row _ _ _ _ _ _ (Gg9.out)
  go_wp2_with (with_reducible refine qaf 162 ?_)
  clear x24 x25 x26 x27
  obtain ⟨w28, hw_29, hb_29, g23, hg_29, Gg23, LO_g23⟩ := qcd HB.out.size (.cells #[.string ⟨#[]⟩, .bool false, .slice none 0 0, .slice none 0 0] 162)
  rw [← hw_29, ← hg_29]
  have NE_g9_g23 := qHd (show g9 ≠ g23 by have hq := qao Gg9.out; rw [hg_29]; omega)
  replace Gg1 := qHd (qaa Gg1.out hb_29)
  replace Gg4 := qHd (qaa Gg4.out hb_29)
  replace Gg9 := qHd (qaa Gg9.out hb_29)
  replace HB := qHd (HB.out.trans (hb_29.mono HB.out.size))
  clear hw_29 hg_29 hb_29
  refine qau g23 [.string ⟨#[102, 97, 105, 108]⟩, .bool false, .slice none 0 0, .slice none 0 0] Gg23.out rfl rfl rfl (by kernel_rfl) rfl ?_
  intro w30 hx_ hgn
  have q_ := (And.intro (qHd (hx_.heap Gg1.out (fun hm => qaw Gg1.out Gg23.out (by simp) (List.mem_singleton.1 hm)))) (And.intro (qHd (hx_.heap Gg4.out (fun hm => qaw Gg4.out Gg23.out (by simp) (List.mem_singleton.1 hm)))) (qHd (hx_.heap Gg9.out (fun hm => NE_g9_g23.out (List.mem_singleton.1 hm)))))); clear Gg1 Gg4 Gg9; obtain ⟨Gg1, Gg4, Gg9⟩ := q_
  replace HB := qHd (hx_.low HB.out HB.out.size (fun g hg => by rw [List.mem_singleton.1 hg]; exact LO_g23.out))
  replace Gg23 := qHd hgn
  clear hx_ hgn
  obtain ⟨_, x31, x32, x33⟩ := row4m Gg23.out
  go_wp2_with (with_reducible refine qac ?_)
  clear x31 x32 x33
  refine qad.mk ?_
  have HK := qHd (qdz w30)
  (with_reducible refine HK.out.mono ?_); rintro e w34 ⟨rfl, hb⟩; clear HK
  replace Gg1 := qHd (qaa Gg1.out hb)
  replace Gg4 := qHd (qaa Gg4.out hb)
  replace Gg9 := qHd (qaa Gg9.out hb)
  replace Gg23 := qHd (qaa Gg23.out hb)
  replace HB := qHd (HB.out.trans (hb.mono HB.out.size))
  clear hb
  go_wp2_with (with_reducible first | refine qah ?_ | refine qae ?_)
  refine qad.mk ?_
  rw [rounds_succ]
  clear Gg23 LO_g23
  have x36 : w34.cell? ⟨g9, 8, none⟩ = some (.string ⟨#[114, 101, 112, 97, 105, 114]⟩) := cell_of_row _ _ _ _ _ _ (Gg9.out)
  have x37 : w34.cell? ⟨g9, 9, none⟩ = some (.bool false) := cell_of_row _ _ _ _ _ _ (Gg9.out)
  have x38 : w34.cell? ⟨g9, 10, none⟩ = some (.slice none 0 0) := cell_of_row _ _ _ _ _ _ (Gg9.out)
  have x39 : w34.cell? ⟨g9, 11, none⟩ = some (.slice none 0 0) := cell_of_row _ _ _ _ _ _ (Gg9.out)
  go_wp2_with (with_reducible refine qaf 162 ?_)
  clear x36 x37 x38 x39
  obtain ⟨w40, hw_41, hb_41, g35, hg_41, Gg35, LO_g35⟩ := qcd HB.out.size (.cells #[.string ⟨#[]⟩, .bool false, .slice none 0 0, .slice none 0 0] 162)
  rw [← hw_41, ← hg_41]
  have NE_g9_g35 := qHd (show g9 ≠ g35 by have hq := qao Gg9.out; rw [hg_41]; omega)
  replace Gg1 := qHd (qaa Gg1.out hb_41)
  replace Gg4 := qHd (qaa Gg4.out hb_41)
  replace Gg9 := qHd (qaa Gg9.out hb_41)
  replace HB := qHd (HB.out.trans (hb_41.mono HB.out.size))
  clear hw_41 hg_41 hb_41
  refine qau g35 [.string ⟨#[114, 101, 112, 97, 105, 114]⟩, .bool false, .slice none 0 0, .slice none 0 0] Gg35.out rfl rfl rfl (by kernel_rfl) rfl ?_
  intro w42 hx_ hgn
  have q_ := (And.intro (qHd (hx_.heap Gg1.out (fun hm => qaw Gg1.out Gg35.out (by simp) (List.mem_singleton.1 hm)))) (And.intro (qHd (hx_.heap Gg4.out (fun hm => qaw Gg4.out Gg35.out (by simp) (List.mem_singleton.1 hm)))) (qHd (hx_.heap Gg9.out (fun hm => NE_g9_g35.out (List.mem_singleton.1 hm)))))); clear Gg1 Gg4 Gg9; obtain ⟨Gg1, Gg4, Gg9⟩ := q_
  replace HB := qHd (hx_.low HB.out HB.out.size (fun g hg => by rw [List.mem_singleton.1 hg]; exact LO_g35.out))
  replace Gg35 := qHd hgn
  clear hx_ hgn
  obtain ⟨_, x43, x44, x45⟩ := row4m Gg35.out
  go_wp2_with (with_reducible refine qac ?_)
  clear x43 x44 x45
  refine qad.mk ?_
  have HK := qHd (qdz w42)
  (with_reducible refine HK.out.mono ?_); rintro e w46 ⟨rfl, hb⟩; clear HK
  replace Gg1 := qHd (qaa Gg1.out hb)
  replace Gg4 := qHd (qaa Gg4.out hb)
  replace Gg9 := qHd (qaa Gg9.out hb)
  replace Gg35 := qHd (qaa Gg35.out hb)
  replace HB := qHd (HB.out.trans (hb.mono HB.out.size))
  clear hb
  go_wp2_with (with_reducible first | refine qah ?_ | refine qae ?_)
  refine qad.mk ?_
  rw [rounds_succ]
  clear Gg35 LO_g35
  have x48 : w46.cell? ⟨g9, 12, none⟩ = some (.string ⟨#[99, 111, 115, 116]⟩) := cell_of_row _ _ _ _ _ _ (Gg9.out)
  have x49 : w46.cell? ⟨g9, 13, none⟩ = some (.bool false) := cell_of_row _ _ _ _ _ _ (Gg9.out)
  have x50 : w46.cell? ⟨g9, 14, none⟩ = some (.slice none 0 0) := cell_of_row _ _ _ _ _ _ (Gg9.out)
  have x51 : w46.cell? ⟨g9, 15, none⟩ = some (.slice none 0 0) := cell_of_row _ _ _ _ _ _ (Gg9.out)
  go_wp2_with (with_reducible refine qaf 162 ?_)
  clear x48 x49 x50 x51
  obtain ⟨w52, hw_53, hb_53, g47, hg_53, Gg47, LO_g47⟩ := qcd HB.out.size (.cells #[.string ⟨#[]⟩, .bool false, .slice none 0 0, .slice none 0 0] 162)
  rw [← hw_53, ← hg_53]
  have NE_g9_g47 := qHd (show g9 ≠ g47 by have hq := qao Gg9.out; rw [hg_53]; omega)
  replace Gg1 := qHd (qaa Gg1.out hb_53)
  replace Gg4 := qHd (qaa Gg4.out hb_53)
  replace Gg9 := qHd (qaa Gg9.out hb_53)
  replace HB := qHd (HB.out.trans (hb_53.mono HB.out.size))
  clear hw_53 hg_53 hb_53
  refine qau g47 [.string ⟨#[99, 111, 115, 116]⟩, .bool false, .slice none 0 0, .slice none 0 0] Gg47.out rfl rfl rfl (by kernel_rfl) rfl ?_
  intro w54 hx_ hgn
  have q_ := (And.intro (qHd (hx_.heap Gg1.out (fun hm => qaw Gg1.out Gg47.out (by simp) (List.mem_singleton.1 hm)))) (And.intro (qHd (hx_.heap Gg4.out (fun hm => qaw Gg4.out Gg47.out (by simp) (List.mem_singleton.1 hm)))) (qHd (hx_.heap Gg9.out (fun hm => NE_g9_g47.out (List.mem_singleton.1 hm)))))); clear Gg1 Gg4 Gg9; obtain ⟨Gg1, Gg4, Gg9⟩ := q_
  replace HB := qHd (hx_.low HB.out HB.out.size (fun g hg => by rw [List.mem_singleton.1 hg]; exact LO_g47.out))
  replace Gg47 := qHd hgn
  clear hx_ hgn
  obtain ⟨_, x55, x56, x57⟩ := row4m Gg47.out
  go_wp2_with (with_reducible refine qac ?_)
  clear x55 x56 x57
  refine qad.mk ?_
  have HK := qHd (qdz w54)
  (with_reducible refine HK.out.mono ?_); rintro e w58 ⟨rfl, hb⟩; clear HK
  replace Gg1 := qHd (qaa Gg1.out hb)
  replace Gg4 := qHd (qaa Gg4.out hb)
  replace Gg9 := qHd (qaa Gg9.out hb)
  replace Gg47 := qHd (qaa Gg47.out hb)
  replace HB := qHd (HB.out.trans (hb.mono HB.out.size))
  clear hb
  go_wp2_with (with_reducible first | refine qah ?_ | refine qae ?_)
  refine qad.mk ?_
  rw [rounds_succ]
  go_wp2_with (with_reducible refine qac ?_)
  refine qad.mk ?_
  have HK := qHd (line_eva g4 2 w58 (sts_of_row (xs := [⟨#[101, 118, 101, 110, 116]⟩, ⟨#[97]⟩]) Gg4.out) (by decide))
  (with_reducible refine HK.out.mono ?_); rintro e w59 ⟨rfl, hb⟩; clear HK
  replace Gg1 := qHd (qaa Gg1.out hb)
  replace Gg4 := qHd (qaa Gg4.out hb)
  replace Gg9 := qHd (qaa Gg9.out hb)
  replace Gg47 := qHd (qaa Gg47.out hb)
  replace HB := qHd (HB.out.trans (hb.mono HB.out.size))
  clear hb
  go_wp2_with fail
  go_ret
  exact ⟨rfl, HB.out⟩
theorem prEvent_b (gp : Nat) (w : World)  :
  Calls Tryz.prog 45 #[.pointer (some ⟨gp, 0, none⟩), .agg #[.string ⟨#[98]⟩, .bool false, .slice none 0 0, .slice none 0 0, .bool false, .slice none 0 0, .slice none 0 0, .bool false, .slice none 0 0, .slice none 0 0, .int .i64 0]] w (qcc w (.string ⟨#[101, 118, 101, 110, 116, 32, 98, 59]⟩)) := by
 have HB := qHd (Below.refl w.heap.size w)
 go_enter Tryz.func45, Tryz.ntmps45
 go_wp2_with (with_reducible refine qag 9 ?_)
 obtain ⟨w2, hw_3, hb_3, g1, hg_3, Gg1, LO_g1⟩ := qcd HB.out.size (.cells #[.string ⟨#[98]⟩, .bool false, .slice none 0 0, .slice none 0 0, .bool false, .slice none 0 0, .slice none 0 0, .bool false, .slice none 0 0, .slice none 0 0, .int .i64 0] 101)
 rw [← hw_3, ← hg_3]
 replace HB := qHd (HB.out.trans (hb_3.mono HB.out.size))
 clear hw_3 hg_3 hb_3
 refine qad.mk ?_
 have x5 : w2.cell? ⟨g1, 0, none⟩ = some (.string ⟨#[98]⟩) := cell_of_row _ _ _ _ _ _ (Gg1.out)
 go_wp2_with (with_reducible refine qax ?_)
 clear x5
 obtain ⟨w6, hw_7, hb_7, g4, hg_7, Gg4, LO_g4⟩ := qcd HB.out.size (.cells #[.string ⟨#[101, 118, 101, 110, 116]⟩, .string ⟨#[98]⟩] 9)
 rw [← hw_7, ← hg_7]
 replace Gg1 := qHd (qaa Gg1.out hb_7)
 replace HB := qHd (HB.out.trans (hb_7.mono HB.out.size))
 clear hw_7 hg_7 hb_7
 refine qad.mk ?_
 refine qbz (A := ?aaD8) (w := w6) 16 rfl (by kernel_rfl) (Fl [KEq (.pointer (some ⟨g1, 1, none⟩)), KEq (.agg #[.bool false, .slice none 0 0, .slice none 0 0]), KEq (.agg #[.string ⟨#[112]⟩, .bool false, .slice none 0 0, .slice none 0 0]), KEq (.pointer (some ⟨g1, 4, none⟩)), KEq (.agg #[.bool false, .slice none 0 0, .slice none 0 0]), KEq (.agg #[.string ⟨#[102, 97, 105, 108]⟩, .bool false, .slice none 0 0, .slice none 0 0]), KEq (.pointer (some ⟨g1, 7, none⟩)), KEq (.agg #[.bool false, .slice none 0 0, .slice none 0 0]), KEq (.agg #[.string ⟨#[114, 101, 112, 97, 105, 114]⟩, .bool false, .slice none 0 0, .slice none 0 0]), KEq (.pointer (some ⟨g1, 10, none⟩)), KEq (.int .i64 0), KEq (.agg #[.bool false, .slice none 0 0, .slice none 0 0]), KEq (.agg #[.string ⟨#[99, 111, 115, 116]⟩, .bool false, .slice none 0 0, .slice none 0 0]), KLst w6.heap.size 4 #[.string ⟨#[112]⟩, .bool false, .slice none 0 0, .slice none 0 0, .string ⟨#[102, 97, 105, 108]⟩, .bool false, .slice none 0 0, .slice none 0 0, .string ⟨#[114, 101, 112, 97, 105, 114]⟩, .bool false, .slice none 0 0, .slice none 0 0, .string ⟨#[99, 111, 115, 116]⟩, .bool false, .slice none 0 0, .slice none 0 0] 162, KEq (.int .i64 4), KEq (.int .i64 0)]) (fun i => false) (by kernel_rfl) (qdx (qai (kEq _) (qai (kEq _) (qai (kEq _) (qai (kEq _) (qai (kEq _) (qai (kEq _) (qai (kEq _) (qai (kEq _) (qai (kEq _) (qai (kEq _) (qai (kEq _) (qai (kEq _) (qai (kEq _) (qai (kLst _ _ _ _) (qai (kEq _) (qai (kEq _) qdw))))))))))))))))) ?haD8 ?stD8 ?tlD8
 case haD8 =>
  intro vals
  simp only [qat, qcf, if_true, Act.put, List.setIfInBounds_toArray, List.set_cons_zero, List.set_cons_succ, List.getElem?_toArray, List.getElem?_cons_zero, List.getElem?_cons_succ, Option.bind_some]
  exact rfl
 case stD8 =>
  refine qab rfl rfl ?_ (qab rfl rfl ?_ (qab rfl rfl ?_ (qab rfl rfl ?_ (qab rfl rfl ?_ (qab rfl rfl ?_ (qab rfl rfl ?_ (qab rfl rfl ?_ (qab rfl rfl ?_ (qab rfl rfl ?_ (qab rfl rfl ?_ (qab rfl rfl ?_ (qab rfl rfl ?_ (qab rfl rfl ?_ (qab rfl rfl ?_ (qab rfl rfl ?_ (qbb))))))))))))))))
  ·intro vals w1 hb hd
   refine qSv (.pointer (some ⟨g1, 1, none⟩)) (by go_simp) (qLk rfl rfl)
  ·intro vals w1 hb hd
   have e1 : w1.cell? ⟨g1, 1, none⟩ = some (.bool false) := cell_of_row _ _ _ _ _ _ ((qaa Gg1.out hb))
   have e2 : w1.cell? ⟨g1, 2, none⟩ = some (.slice none 0 0) := cell_of_row _ _ _ _ _ _ ((qaa Gg1.out hb))
   have e3 : w1.cell? ⟨g1, 3, none⟩ = some (.slice none 0 0) := cell_of_row _ _ _ _ _ _ ((qaa Gg1.out hb))
   rw [show vals 0 = .pointer (some ⟨g1, 1, none⟩) from hd 0 (by kernel_rfl)]
   refine qSv (.agg #[.bool false, .slice none 0 0, .slice none 0 0]) (by go_simp) (qLk rfl rfl)
  ·intro vals w1 hb hd
   rw [show vals 1 = .agg #[.bool false, .slice none 0 0, .slice none 0 0] from hd 1 (by kernel_rfl)]
   refine qSv (.agg #[.string ⟨#[112]⟩, .bool false, .slice none 0 0, .slice none 0 0]) (by go_simp) (qLk rfl rfl)
  ·intro vals w1 hb hd
   refine qSv (.pointer (some ⟨g1, 4, none⟩)) (by go_simp) (qLk rfl rfl)
  ·intro vals w1 hb hd
   have e4 : w1.cell? ⟨g1, 4, none⟩ = some (.bool false) := cell_of_row _ _ _ _ _ _ ((qaa Gg1.out hb))
   have e5 : w1.cell? ⟨g1, 5, none⟩ = some (.slice none 0 0) := cell_of_row _ _ _ _ _ _ ((qaa Gg1.out hb))
   have e6 : w1.cell? ⟨g1, 6, none⟩ = some (.slice none 0 0) := cell_of_row _ _ _ _ _ _ ((qaa Gg1.out hb))
   rw [show vals 3 = .pointer (some ⟨g1, 4, none⟩) from hd 3 (by kernel_rfl)]
   refine qSv (.agg #[.bool false, .slice none 0 0, .slice none 0 0]) (by go_simp) (qLk rfl rfl)
  ·intro vals w1 hb hd
   rw [show vals 4 = .agg #[.bool false, .slice none 0 0, .slice none 0 0] from hd 4 (by kernel_rfl)]
   refine qSv (.agg #[.string ⟨#[102, 97, 105, 108]⟩, .bool false, .slice none 0 0, .slice none 0 0]) (by go_simp) (qLk rfl rfl)
  ·intro vals w1 hb hd
   refine qSv (.pointer (some ⟨g1, 7, none⟩)) (by go_simp) (qLk rfl rfl)
  ·intro vals w1 hb hd
   have e7 : w1.cell? ⟨g1, 7, none⟩ = some (.bool false) := cell_of_row _ _ _ _ _ _ ((qaa Gg1.out hb))
   have e8 : w1.cell? ⟨g1, 8, none⟩ = some (.slice none 0 0) := cell_of_row _ _ _ _ _ _ ((qaa Gg1.out hb))
   have e9 : w1.cell? ⟨g1, 9, none⟩ = some (.slice none 0 0) := cell_of_row _ _ _ _ _ _ ((qaa Gg1.out hb))
   rw [show vals 6 = .pointer (some ⟨g1, 7, none⟩) from hd 6 (by kernel_rfl)]
   refine qSv (.agg #[.bool false, .slice none 0 0, .slice none 0 0]) (by go_simp) (qLk rfl rfl)
  ·intro vals w1 hb hd
   rw [show vals 7 = .agg #[.bool false, .slice none 0 0, .slice none 0 0] from hd 7 (by kernel_rfl)]
   refine qSv (.agg #[.string ⟨#[114, 101, 112, 97, 105, 114]⟩, .bool false, .slice none 0 0, .slice none 0 0]) (by go_simp) (qLk rfl rfl)
  ·intro vals w1 hb hd
   refine qSv (.pointer (some ⟨g1, 10, none⟩)) (by go_simp) (qLk rfl rfl)
  ·intro vals w1 hb hd
   have e10 : w1.cell? ⟨g1, 10, none⟩ = some (.int .i64 0) := cell_of_row _ _ _ _ _ _ ((qaa Gg1.out hb))
   rw [show vals 9 = .pointer (some ⟨g1, 10, none⟩) from hd 9 (by kernel_rfl)]
   refine qSv (.int .i64 0) (by go_simp) (qLk rfl rfl)
  ·intro vals w1 hb hd
   have d10 : KEq (.int .i64 0) (vals 10) w1 := hd 10 (by kernel_rfl)
   have HS := qHd (rOf_0 w1)
   have z10 : vals 10 = _ := d10
   rw [z10]; clear z10
   refine qbh (by go_simp; first | done | exact ⟨⟨rfl, rfl⟩, rfl⟩) ?_
   (with_reducible refine HS.out.mono ?_); rintro e w2 ⟨rfl, hb2⟩
   exact ⟨_, rfl, qba hb2 rfl (fun h => by cases h)⟩
  ·intro vals w1 hb hd
   rw [show vals 11 = .agg #[.bool false, .slice none 0 0, .slice none 0 0] from hd 11 (by kernel_rfl)]
   refine qSv (.agg #[.string ⟨#[99, 111, 115, 116]⟩, .bool false, .slice none 0 0, .slice none 0 0]) (by go_simp) (qLk rfl rfl)
  ·intro vals w1 hb hd
   rw [show vals 2 = .agg #[.string ⟨#[112]⟩, .bool false, .slice none 0 0, .slice none 0 0] from hd 2 (by kernel_rfl)]
   rw [show vals 5 = .agg #[.string ⟨#[102, 97, 105, 108]⟩, .bool false, .slice none 0 0, .slice none 0 0] from hd 5 (by kernel_rfl)]
   rw [show vals 8 = .agg #[.string ⟨#[114, 101, 112, 97, 105, 114]⟩, .bool false, .slice none 0 0, .slice none 0 0] from hd 8 (by kernel_rfl)]
   rw [show vals 12 = .agg #[.string ⟨#[99, 111, 115, 116]⟩, .bool false, .slice none 0 0, .slice none 0 0] from hd 12 (by kernel_rfl)]
   refine qak (v := .slice (some ⟨w1.heap.size, 0, none⟩) 4 4) (w' := w1.alloc (.cells #[.string ⟨#[112]⟩, .bool false, .slice none 0 0, .slice none 0 0, .string ⟨#[102, 97, 105, 108]⟩, .bool false, .slice none 0 0, .slice none 0 0, .string ⟨#[114, 101, 112, 97, 105, 114]⟩, .bool false, .slice none 0 0, .slice none 0 0, .string ⟨#[99, 111, 115, 116]⟩, .bool false, .slice none 0 0, .slice none 0 0] 162)) (by go_simp) (qba ((Below.refl _ _).alloc (Nat.le_refl _) _) ⟨_, hb.size, rfl, heap_alloc_new _ _⟩ (fun h => by cases h))
  ·intro vals w1 hb hd
   have d13 : KLst w6.heap.size 4 #[.string ⟨#[112]⟩, .bool false, .slice none 0 0, .slice none 0 0, .string ⟨#[102, 97, 105, 108]⟩, .bool false, .slice none 0 0, .slice none 0 0, .string ⟨#[114, 101, 112, 97, 105, 114]⟩, .bool false, .slice none 0 0, .slice none 0 0, .string ⟨#[99, 111, 115, 116]⟩, .bool false, .slice none 0 0, .slice none 0 0] 162 (vals 13) w1 := hd 13 (by kernel_rfl)
   obtain ⟨gx13, hx13, ez13, hz13⟩ := d13; rw [ez13]
   refine qSv (.int .i64 4) (by go_simp) (qLk rfl rfl)
  ·intro vals w1 hb hd
   refine qSv (.int .i64 0) (by go_simp) (qLk rfl rfl)
 case tlD8 =>
  intro vals w10 hb hf hdis
  have z_ : vals 0 = .pointer (some ⟨g1, 1, none⟩) := hf 0 (by decide)
  try rw [z_]
  clear z_
  have z_ : vals 1 = .agg #[.bool false, .slice none 0 0, .slice none 0 0] := hf 1 (by decide)
  try rw [z_]
  clear z_
  have z_ : vals 2 = .agg #[.string ⟨#[112]⟩, .bool false, .slice none 0 0, .slice none 0 0] := hf 2 (by decide)
  try rw [z_]
  clear z_
  have z_ : vals 3 = .pointer (some ⟨g1, 4, none⟩) := hf 3 (by decide)
  try rw [z_]
  clear z_
  have z_ : vals 4 = .agg #[.bool false, .slice none 0 0, .slice none 0 0] := hf 4 (by decide)
  try rw [z_]
  clear z_
  have z_ : vals 5 = .agg #[.string ⟨#[102, 97, 105, 108]⟩, .bool false, .slice none 0 0, .slice none 0 0] := hf 5 (by decide)
  try rw [z_]
  clear z_
  have z_ : vals 6 = .pointer (some ⟨g1, 7, none⟩) := hf 6 (by decide)
  try rw [z_]
  clear z_
  have z_ : vals 7 = .agg #[.bool false, .slice none 0 0, .slice none 0 0] := hf 7 (by decide)
  try rw [z_]
  clear z_
  have z_ : vals 8 = .agg #[.string ⟨#[114, 101, 112, 97, 105, 114]⟩, .bool false, .slice none 0 0, .slice none 0 0] := hf 8 (by decide)
  try rw [z_]
  clear z_
  have z_ : vals 9 = .pointer (some ⟨g1, 10, none⟩) := hf 9 (by decide)
  try rw [z_]
  clear z_
  have z_ : vals 10 = .int .i64 0 := hf 10 (by decide)
  try rw [z_]
  clear z_
  have z_ : vals 11 = .agg #[.bool false, .slice none 0 0, .slice none 0 0] := hf 11 (by decide)
  try rw [z_]
  clear z_
  have z_ : vals 12 = .agg #[.string ⟨#[99, 111, 115, 116]⟩, .bool false, .slice none 0 0, .slice none 0 0] := hf 12 (by decide)
  try rw [z_]
  clear z_
  obtain ⟨g9, hg_g9, ez_g9, hz_g9⟩ : KLst w6.heap.size 4 #[.string ⟨#[112]⟩, .bool false, .slice none 0 0, .slice none 0 0, .string ⟨#[102, 97, 105, 108]⟩, .bool false, .slice none 0 0, .slice none 0 0, .string ⟨#[114, 101, 112, 97, 105, 114]⟩, .bool false, .slice none 0 0, .slice none 0 0, .string ⟨#[99, 111, 115, 116]⟩, .bool false, .slice none 0 0, .slice none 0 0] 162 (vals 13) w10 := hf 13 (by decide)
  try rw [ez_g9]
  clear ez_g9
  have z_ : vals 14 = .int .i64 4 := hf 14 (by decide)
  try rw [z_]
  clear z_
  have z_ : vals 15 = .int .i64 0 := hf 15 (by decide)
  try rw [z_]
  clear z_
  clear hf hdis
  have LO_g9 := qHd (show w.heap.size ≤ g9 from Nat.le_trans HB.out.size hg_g9)
  replace Gg1 := qHd (qaa Gg1.out hb)
  replace Gg4 := qHd (qaa Gg4.out hb)
  replace HB := qHd (HB.out.trans (hb.mono HB.out.size))
  have Gg9 := qHd hz_g9; clear hz_g9 hg_g9
  clear hb
  go_wp2_with (with_reducible first | refine qah ?_ | refine qae ?_)
  refine qad.mk ?_
  refine wp_loop_rounds 5 ?_
  rw [rounds_succ]
  have x12 : w10.cell? ⟨g9, 0, none⟩ = some (.string ⟨#[112]⟩) := cell_of_row _ _ _ _ _ _ (Gg9.out)
  have x13 : w10.cell? ⟨g9, 1, none⟩ = some (.bool false) := cell_of_row _ _ _ _ _ _ (Gg9.out)
  have x14 : w10.cell? ⟨g9, 2, none⟩ = some (.slice none 0 0) := cell_of_row _ _ _ _ _ _ (Gg9.out)
  have x15 : w10.cell? ⟨g9, 3, none⟩ = some (.slice none 0 0) := cell_of_row _ _ _ _ _ _ (Gg9.out)
  go_wp2_with (with_reducible refine qaf 162 ?_)
  clear x12 x13 x14 x15
  obtain ⟨w16, hw_17, hb_17, g11, hg_17, Gg11, LO_g11⟩ := qcd HB.out.size (.cells #[.string ⟨#[]⟩, .bool false, .slice none 0 0, .slice none 0 0] 162)
  rw [← hw_17, ← hg_17]
  have NE_g9_g11 := qHd (show g9 ≠ g11 by have hq := qao Gg9.out; rw [hg_17]; omega)
  replace Gg1 := qHd (qaa Gg1.out hb_17)
  replace Gg4 := qHd (qaa Gg4.out hb_17)
  replace Gg9 := qHd (qaa Gg9.out hb_17)
  replace HB := qHd (HB.out.trans (hb_17.mono HB.out.size))
  clear hw_17 hg_17 hb_17
  refine qau g11 [.string ⟨#[112]⟩, .bool false, .slice none 0 0, .slice none 0 0] Gg11.out rfl rfl rfl (by kernel_rfl) rfl ?_
  intro w18 hx_ hgn
  have q_ := (And.intro (qHd (hx_.heap Gg1.out (fun hm => qaw Gg1.out Gg11.out (by simp) (List.mem_singleton.1 hm)))) (And.intro (qHd (hx_.heap Gg4.out (fun hm => qaw Gg4.out Gg11.out (by simp) (List.mem_singleton.1 hm)))) (qHd (hx_.heap Gg9.out (fun hm => NE_g9_g11.out (List.mem_singleton.1 hm)))))); clear Gg1 Gg4 Gg9; obtain ⟨Gg1, Gg4, Gg9⟩ := q_
  replace HB := qHd (hx_.low HB.out HB.out.size (fun g hg => by rw [List.mem_singleton.1 hg]; exact LO_g11.out))
  replace Gg11 := qHd hgn
  clear hx_ hgn
  obtain ⟨_, x19, x20, x21⟩ := row4m Gg11.out
  go_wp2_with (with_reducible refine qac ?_)
  clear x19 x20 x21
  refine qad.mk ?_
  have HK := qHd (qdz w18)
  (with_reducible refine HK.out.mono ?_); rintro e w22 ⟨rfl, hb⟩; clear HK
  replace Gg1 := qHd (qaa Gg1.out hb)
  replace Gg4 := qHd (qaa Gg4.out hb)
  replace Gg9 := qHd (qaa Gg9.out hb)
  replace Gg11 := qHd (qaa Gg11.out hb)
  replace HB := qHd (HB.out.trans (hb.mono HB.out.size))
  clear hb
  go_wp2_with (with_reducible first | refine qah ?_ | refine qae ?_)
  refine qad.mk ?_
  rw [rounds_succ]
  clear Gg11 LO_g11
  have x24 : w22.cell? ⟨g9, 4, none⟩ = some (.string ⟨#[102, 97, 105, 108]⟩) := cell_of_row _ _ _ _ _ _ (Gg9.out)
  have x25 : w22.cell? ⟨g9, 5, none⟩ = some (.bool false) := cell_of_row _ _ _ _ _ _ (Gg9.out)
  have x26 : w22.cell? ⟨g9, 6, none⟩ = some (.slice none 0 0) := cell_of_row _ _ _ _ _ _ (Gg9.out)
  have x27 : w22.cell? ⟨g9, 7, none⟩ = some (.slice none 0 0) := cell_of_row _ _ _ _ _ _ (Gg9.out)
  go_wp2_with (with_reducible refine qaf 162 ?_)
  clear x24 x25 x26 x27
  obtain ⟨w28, hw_29, hb_29, g23, hg_29, Gg23, LO_g23⟩ := qcd HB.out.size (.cells #[.string ⟨#[]⟩, .bool false, .slice none 0 0, .slice none 0 0] 162)
  rw [← hw_29, ← hg_29]
  have NE_g9_g23 := qHd (show g9 ≠ g23 by have hq := qao Gg9.out; rw [hg_29]; omega)
  replace Gg1 := qHd (qaa Gg1.out hb_29)
  replace Gg4 := qHd (qaa Gg4.out hb_29)
  replace Gg9 := qHd (qaa Gg9.out hb_29)
  replace HB := qHd (HB.out.trans (hb_29.mono HB.out.size))
  clear hw_29 hg_29 hb_29
  refine qau g23 [.string ⟨#[102, 97, 105, 108]⟩, .bool false, .slice none 0 0, .slice none 0 0] Gg23.out rfl rfl rfl (by kernel_rfl) rfl ?_
  intro w30 hx_ hgn
  have q_ := (And.intro (qHd (hx_.heap Gg1.out (fun hm => qaw Gg1.out Gg23.out (by simp) (List.mem_singleton.1 hm)))) (And.intro (qHd (hx_.heap Gg4.out (fun hm => qaw Gg4.out Gg23.out (by simp) (List.mem_singleton.1 hm)))) (qHd (hx_.heap Gg9.out (fun hm => NE_g9_g23.out (List.mem_singleton.1 hm)))))); clear Gg1 Gg4 Gg9; obtain ⟨Gg1, Gg4, Gg9⟩ := q_
  replace HB := qHd (hx_.low HB.out HB.out.size (fun g hg => by rw [List.mem_singleton.1 hg]; exact LO_g23.out))
  replace Gg23 := qHd hgn
  clear hx_ hgn
  obtain ⟨_, x31, x32, x33⟩ := row4m Gg23.out
  go_wp2_with (with_reducible refine qac ?_)
  clear x31 x32 x33
  refine qad.mk ?_
  have HK := qHd (qdz w30)
  (with_reducible refine HK.out.mono ?_); rintro e w34 ⟨rfl, hb⟩; clear HK
  replace Gg1 := qHd (qaa Gg1.out hb)
  replace Gg4 := qHd (qaa Gg4.out hb)
  replace Gg9 := qHd (qaa Gg9.out hb)
  replace Gg23 := qHd (qaa Gg23.out hb)
  replace HB := qHd (HB.out.trans (hb.mono HB.out.size))
  clear hb
  go_wp2_with (with_reducible first | refine qah ?_ | refine qae ?_)
  refine qad.mk ?_
  rw [rounds_succ]
  clear Gg23 LO_g23
  have x36 : w34.cell? ⟨g9, 8, none⟩ = some (.string ⟨#[114, 101, 112, 97, 105, 114]⟩) := cell_of_row _ _ _ _ _ _ (Gg9.out)
  have x37 : w34.cell? ⟨g9, 9, none⟩ = some (.bool false) := cell_of_row _ _ _ _ _ _ (Gg9.out)
  have x38 : w34.cell? ⟨g9, 10, none⟩ = some (.slice none 0 0) := cell_of_row _ _ _ _ _ _ (Gg9.out)
  have x39 : w34.cell? ⟨g9, 11, none⟩ = some (.slice none 0 0) := cell_of_row _ _ _ _ _ _ (Gg9.out)
  go_wp2_with (with_reducible refine qaf 162 ?_)
  clear x36 x37 x38 x39
  obtain ⟨w40, hw_41, hb_41, g35, hg_41, Gg35, LO_g35⟩ := qcd HB.out.size (.cells #[.string ⟨#[]⟩, .bool false, .slice none 0 0, .slice none 0 0] 162)
  rw [← hw_41, ← hg_41]
  have NE_g9_g35 := qHd (show g9 ≠ g35 by have hq := qao Gg9.out; rw [hg_41]; omega)
  replace Gg1 := qHd (qaa Gg1.out hb_41)
  replace Gg4 := qHd (qaa Gg4.out hb_41)
  replace Gg9 := qHd (qaa Gg9.out hb_41)
  replace HB := qHd (HB.out.trans (hb_41.mono HB.out.size))
  clear hw_41 hg_41 hb_41
  refine qau g35 [.string ⟨#[114, 101, 112, 97, 105, 114]⟩, .bool false, .slice none 0 0, .slice none 0 0] Gg35.out rfl rfl rfl (by kernel_rfl) rfl ?_
  intro w42 hx_ hgn
  have q_ := (And.intro (qHd (hx_.heap Gg1.out (fun hm => qaw Gg1.out Gg35.out (by simp) (List.mem_singleton.1 hm)))) (And.intro (qHd (hx_.heap Gg4.out (fun hm => qaw Gg4.out Gg35.out (by simp) (List.mem_singleton.1 hm)))) (qHd (hx_.heap Gg9.out (fun hm => NE_g9_g35.out (List.mem_singleton.1 hm)))))); clear Gg1 Gg4 Gg9; obtain ⟨Gg1, Gg4, Gg9⟩ := q_
  replace HB := qHd (hx_.low HB.out HB.out.size (fun g hg => by rw [List.mem_singleton.1 hg]; exact LO_g35.out))
  replace Gg35 := qHd hgn
  clear hx_ hgn
  obtain ⟨_, x43, x44, x45⟩ := row4m Gg35.out
  go_wp2_with (with_reducible refine qac ?_)
  clear x43 x44 x45
  refine qad.mk ?_
  have HK := qHd (qdz w42)
  (with_reducible refine HK.out.mono ?_); rintro e w46 ⟨rfl, hb⟩; clear HK
  replace Gg1 := qHd (qaa Gg1.out hb)
  replace Gg4 := qHd (qaa Gg4.out hb)
  replace Gg9 := qHd (qaa Gg9.out hb)
  replace Gg35 := qHd (qaa Gg35.out hb)
  replace HB := qHd (HB.out.trans (hb.mono HB.out.size))
  clear hb
  go_wp2_with (with_reducible first | refine qah ?_ | refine qae ?_)
  refine qad.mk ?_
  rw [rounds_succ]
  clear Gg35 LO_g35
  have x48 : w46.cell? ⟨g9, 12, none⟩ = some (.string ⟨#[99, 111, 115, 116]⟩) := cell_of_row _ _ _ _ _ _ (Gg9.out)
  have x49 : w46.cell? ⟨g9, 13, none⟩ = some (.bool false) := cell_of_row _ _ _ _ _ _ (Gg9.out)
  have x50 : w46.cell? ⟨g9, 14, none⟩ = some (.slice none 0 0) := cell_of_row _ _ _ _ _ _ (Gg9.out)
  have x51 : w46.cell? ⟨g9, 15, none⟩ = some (.slice none 0 0) := cell_of_row _ _ _ _ _ _ (Gg9.out)
  go_wp2_with (with_reducible refine qaf 162 ?_)
  clear x48 x49 x50 x51
  obtain ⟨w52, hw_53, hb_53, g47, hg_53, Gg47, LO_g47⟩ := qcd HB.out.size (.cells #[.string ⟨#[]⟩, .bool false, .slice none 0 0, .slice none 0 0] 162)
  rw [← hw_53, ← hg_53]
  have NE_g9_g47 := qHd (show g9 ≠ g47 by have hq := qao Gg9.out; rw [hg_53]; omega)
  replace Gg1 := qHd (qaa Gg1.out hb_53)
  replace Gg4 := qHd (qaa Gg4.out hb_53)
  replace Gg9 := qHd (qaa Gg9.out hb_53)
  replace HB := qHd (HB.out.trans (hb_53.mono HB.out.size))
  clear hw_53 hg_53 hb_53
  refine qau g47 [.string ⟨#[99, 111, 115, 116]⟩, .bool false, .slice none 0 0, .slice none 0 0] Gg47.out rfl rfl rfl (by kernel_rfl) rfl ?_
  intro w54 hx_ hgn
  have q_ := (And.intro (qHd (hx_.heap Gg1.out (fun hm => qaw Gg1.out Gg47.out (by simp) (List.mem_singleton.1 hm)))) (And.intro (qHd (hx_.heap Gg4.out (fun hm => qaw Gg4.out Gg47.out (by simp) (List.mem_singleton.1 hm)))) (qHd (hx_.heap Gg9.out (fun hm => NE_g9_g47.out (List.mem_singleton.1 hm)))))); clear Gg1 Gg4 Gg9; obtain ⟨Gg1, Gg4, Gg9⟩ := q_
  replace HB := qHd (hx_.low HB.out HB.out.size (fun g hg => by rw [List.mem_singleton.1 hg]; exact LO_g47.out))
  replace Gg47 := qHd hgn
  clear hx_ hgn
  obtain ⟨_, x55, x56, x57⟩ := row4m Gg47.out
  go_wp2_with (with_reducible refine qac ?_)
  clear x55 x56 x57
  refine qad.mk ?_
  have HK := qHd (qdz w54)
  (with_reducible refine HK.out.mono ?_); rintro e w58 ⟨rfl, hb⟩; clear HK
  replace Gg1 := qHd (qaa Gg1.out hb)
  replace Gg4 := qHd (qaa Gg4.out hb)
  replace Gg9 := qHd (qaa Gg9.out hb)
  replace Gg47 := qHd (qaa Gg47.out hb)
  replace HB := qHd (HB.out.trans (hb.mono HB.out.size))
  clear hb
  go_wp2_with (with_reducible first | refine qah ?_ | refine qae ?_)
  refine qad.mk ?_
  rw [rounds_succ]
  go_wp2_with (with_reducible refine qac ?_)
  refine qad.mk ?_
  have HK := qHd (line_evb g4 2 w58 (sts_of_row (xs := [⟨#[101, 118, 101, 110, 116]⟩, ⟨#[98]⟩]) Gg4.out) (by decide))
  (with_reducible refine HK.out.mono ?_); rintro e w59 ⟨rfl, hb⟩; clear HK
  replace Gg1 := qHd (qaa Gg1.out hb)
  replace Gg4 := qHd (qaa Gg4.out hb)
  replace Gg9 := qHd (qaa Gg9.out hb)
  replace Gg47 := qHd (qaa Gg47.out hb)
  replace HB := qHd (HB.out.trans (hb.mono HB.out.size))
  clear hb
  go_wp2_with fail
  go_ret
  exact ⟨rfl, HB.out⟩
theorem Tryz.liesPr : liesAt Tryz.prog Tryz.prog.depth 95 (3 / Tryz.prog.cellsOf 95) 0 93 1 = true := by kernel_rfl
def PrAt (B b : Nat) (p : Value) (bs : List Value) (w : World) : Prop :=
 B ≤ b ∧ ∃ v, w.heap[b]? = some (.cells #[p, v, .bool false] 95 (0, 0)) ∧ w.ownsRow B 5 1 v bs.length bs ∧ v.ownBlock ≠ some b
def IsPr (B b : Nat) (bs : List Value) (w : World) : Prop := PrAt B b (.pointer none) bs w ∨ PrAt B b (.pointer (some ⟨b, 0, none⟩)) bs w
section
variable {B b : Nat} {p : Value} {bs : List Value} {w : World}
theorem PrAt.cell0 (h : PrAt B b p bs w) : w.cell? ⟨b, 0, none⟩ = some p := by
 obtain ⟨_, v, hb, _⟩ := h
 simp [World.cell?, hb]
theorem PrAt.shape (h : PrAt B b p bs w) : w.shape? b = some (95, 3) := by
 obtain ⟨_, v, hb, _⟩ := h
 simp [World.shape?, hb]
theorem PrAt.frozen0 (h : PrAt B b p bs w) : w.frozen? ⟨b, 0, none⟩ = false := by
 obtain ⟨_, v, hb, _⟩ := h
 simp [World.frozen?, hb]
theorem PrAt.used (h : PrAt B b p bs w) (q : Value) : PrAt B b q bs (w.setCell ⟨b, 0, none⟩ q) := by
 obtain ⟨hB, v, hb, hown, hne⟩ := h
 refine ⟨hB, v, ?_, ?_, hne⟩
 ·simp [World.setCell, Array.getElem?_modify, hb]
 ·refine hown.kept (row := some b) ⟨rfl, rfl, rfl, by simp [World.setCell], fun k _ hk => Below.heap_setCell _ _ _ _ (fun e => hk (by simp [e]))⟩ ?_
  exact Or.inr hne
theorem PrAt.put {v v' : Value} {bs' : List Value} (hB : B ≤ b) (hb : w.heap[b]? = some (.cells #[p, v, .bool false] 95 (0, 0))) (hown : w.ownsRow B 5 1 v' bs'.length bs') : PrAt B b p bs' (w.setCell ⟨b, 1, none⟩ v') := by
 have hne := Lib.ownBlock_ne hown hb (by decide)
 refine ⟨hB, v', ?_, ?_, hne⟩
 ·simp [World.setCell, Array.getElem?_modify, hb]
 ·exact hown.kept (row := some b) ⟨rfl, rfl, rfl, by simp [World.setCell], fun k _ hk => Below.heap_setCell _ _ _ _ (fun e => hk (by simp [e]))⟩ (Or.inr hne)
theorem PrAt.below {w' : World} (h : PrAt B b p bs w) (hb : Below w.heap.size w w') : PrAt B b p bs w' := by
 obtain ⟨hB, v, hg, hown, hne⟩ := h
 exact ⟨hB, v, qaa hg hb, qci hown hb, hne⟩
theorem IsPr.below {w' : World} (h : IsPr B b bs w) (hb : Below w.heap.size w w') : IsPr B b bs w' := h.imp (fun x => x.below hb) (fun x => x.below hb)
theorem IsPr.at (h : IsPr B b bs w) : ∃ p, PrAt B b p bs w := h.elim (fun x => ⟨_, x⟩) (fun x => ⟨_, x⟩)
end
theorem pcopy_fresh (b : Nat) (w : World) (h0 : w.cell? ⟨b, 0, none⟩ = some (.pointer none)) (hsh : w.shape? b = some (95, 3)) (hfz : w.frozen? ⟨b, 0, none⟩ = false) :
  Calls Tryz.prog 126 #[.pointer (some ⟨b, 0, none⟩)] w fun e w' => e = .returned (.tuple #[]) ∧ w' = w.setCell ⟨b, 0, none⟩ (.pointer (some ⟨b, 0, none⟩)) := by
 obtain ⟨j, hj, hjs⟩ := Option.map_eq_some_iff.1 Tryz.sizeBuilder
 go_enter Tryz.func126, Tryz.ntmps126
 go_wp2
 rw [Lib.run_to_unsafe w ⟨b, 0, none⟩ Tryz.underlying90 Tryz.underlying224 hj (by rw [hjs]; decide) hsh (Nat.zero_lt_succ 2)]
 simp only [Result.andThen]
 rw [Oper.upon_value]
 go_wp2
 rw [run_callFunc_extern Tryz.func157 (by kernel_rfl) (by kernel_rfl) (by kernel_rfl) (e := Extern.AbiNoEscape.same) (by kernel_rfl)]
 rw [Lib.run_noEscape]
 simp only [Result.andThen]
 rw [Oper.upon_value]
 go_wp2
 rw [Lib.run_from_unsafe w ⟨b, 0, none⟩ Tryz.underlying224 Tryz.underlying90 hj hsh Tryz.liesPr]
 simp only [Result.andThen]
 rw [Oper.upon_value]
 go_wp2
 go_end0
 exact ⟨rfl, rfl⟩
theorem pcopy_any (B b : Nat) (bs : List Value) (w : World) (h : IsPr B b bs w) :
  Calls Tryz.prog 126 #[.pointer (some ⟨b, 0, none⟩)] w fun e w' => e = .returned (.tuple #[]) ∧ (PrAt B b (.pointer (some ⟨b, 0, none⟩)) bs w' ∧ Below B w w') := by
 rcases h with h | h
 ·refine (pcopy_fresh b w h.cell0 h.shape h.frozen0).mono ?_
  rintro e w' ⟨rfl, rfl⟩
  exact ⟨rfl, h.used _, (Below.refl B w).setCell (p := ⟨b, 0, none⟩) h.1 _⟩
 ·refine (copyCheck_used b w h.cell0).mono ?_
  rintro e w' ⟨rfl, rfl⟩
  exact ⟨rfl, h, Below.refl B _⟩
theorem pwriteS_any (B b : Nat) (bs : List Value) (s : ByteArray) (w : World) (h : IsPr B b bs w) (hlen : bs.length + s.size ≤ 140737488355328) (hBw : B ≤ w.heap.size) :
  Calls Tryz.prog 82 #[.pointer (some ⟨b, 0, none⟩), .string s] w fun e w' => e = .returned (.tuple #[.int .i64 s.size, .nilIface]) ∧ (PrAt B b (.pointer (some ⟨b, 0, none⟩)) (bs ++ Lib.strCells s) w' ∧ Below B w w') := by
 obtain ⟨i0, hi, hz0, hz1, hz2⟩ := info_parts Tryz.infoByte
 go_enter Tryz.func82, Tryz.ntmps82
 go_wp2_with fail
 (with_reducible refine (pcopy_any B b bs _ h).mono ?_)
 rintro e w1 ⟨rfl, h1, hb1⟩
 obtain ⟨hB, v, hbk, hown, hne⟩ := h1
 have c0 : w1.cell? ⟨b, 0, none⟩ = some (.pointer (some ⟨b, 0, none⟩)) := by rw [Lib.cell_of_heap hbk]; rfl
 have c1 : w1.cell? ⟨b, 1, none⟩ = some v := by rw [Lib.cell_of_heap hbk]; rfl
 go_wp2_with (at_builtin; refine Lib.wpList_append_own_string _ rfl _ _ 91 9 rfl B 5 i0 Tryz.underlying91 Tryz.underlying9 hi hz0 hz1 hz2 _ _ _ rfl hown s rfl ?c3 ?c4 ?c5 ?_)
 case c3 => unfold maxLen; omega
 case c4 => omega
 case c5 => have := hb1.size; omega
 intro v' w2 hown' hgrow _
 have hlt : b < w1.heap.size := qao hbk
 have hb2 : w2.heap[b]? = some (.cells #[.pointer (some ⟨b, 0, none⟩), v, .bool false] 95 (0, 0)) := by
  rw [hgrow.block b hlt (fun e => hne e.symm)]
  exact hbk
 have d0 : w2.cell? ⟨b, 0, none⟩ = some (.pointer (some ⟨b, 0, none⟩)) := by rw [Lib.cell_of_heap hb2]; rfl
 have d1 : w2.cell? ⟨b, 1, none⟩ = some v := by rw [Lib.cell_of_heap hb2]; rfl
 have f1 : w2.frozen? ⟨b, 1, none⟩ = false := Lib.frozen_of_heap hb2 1
 obtain ⟨ao, n', cap, rfl⟩ : ∃ ao n' cap, v' = .slice ao n' cap := by
  rcases hown'.2 with ⟨hv, _⟩ | ⟨g, cap, cur, hv, _⟩
  ·exact ⟨_, _, _, hv⟩
  ·exact ⟨_, _, _, hv⟩
 go_wp2
 go_ret2
 refine ⟨rfl, ?_, ?_⟩
 ·exact PrAt.put hB hb2 (bs' := bs ++ Lib.strCells s) (by simpa [Lib.strCells_length] using hown')
 ·exact (hb1.grown hgrow (by have := hb1.size; omega) (fun k hk => (hown.lt k hk).1)).setCell (p := ⟨b, 1, none⟩) hB _
theorem pwriteB_any (B b : Nat) (bs : List Value) (c : Int) (w : World) (h : IsPr B b bs w) (hlen : bs.length + 1 ≤ 140737488355328) (hBw : B ≤ w.heap.size) :
  Calls Tryz.prog 83 #[.pointer (some ⟨b, 0, none⟩), .int .u8 c] w fun e w' => e = .returned .nilIface ∧ (PrAt B b (.pointer (some ⟨b, 0, none⟩)) (bs ++ [.int .u8 c]) w' ∧ Below B w w') := by
 obtain ⟨i0, hi, hz0, hz1, hz2⟩ := info_parts Tryz.infoByte
 go_enter Tryz.func83, Tryz.ntmps83
 go_wp2_with fail
 (with_reducible refine (pcopy_any B b bs _ h).mono ?_)
 rintro e w1 ⟨rfl, h1, hb1⟩
 obtain ⟨hB, v, hbk, hown, hne⟩ := h1
 have c0 : w1.cell? ⟨b, 0, none⟩ = some (.pointer (some ⟨b, 0, none⟩)) := by rw [Lib.cell_of_heap hbk]; rfl
 have c1 : w1.cell? ⟨b, 1, none⟩ = some v := by rw [Lib.cell_of_heap hbk]; rfl
 go_wp2_with (at_builtin; refine wpList_append_own _ rfl _ _ 91 rfl B 5 i0 (.int .u8 0) 1 1 Tryz.underlying91 hi hz0 hz1 hz2 rfl (by decide) _ _ _ rfl (hown.alloc _) ⟨w1.heap.size, 0, none⟩ 1 1 [.int .u8 c] rfl rfl ?c1 ?c2 ?c3 ?c4 ?c5 ?_)
 case c1 =>
  intro j u hj
  match j, hj with
  | 0, hj => simp at hj; subst hj; simp [Addr.add]
 case c2 => intro u hu; simp at hu; subst hu; rfl
 case c3 => unfold maxLen; omega
 case c4 => omega
 case c5 => have := hb1.size; simp; omega
 intro v' w2 hown' hgrow _
 have hlt : b < w1.heap.size := qao hbk
 have hb2 : w2.heap[b]? = some (.cells #[.pointer (some ⟨b, 0, none⟩), v, .bool false] 95 (0, 0)) := by
  rw [hgrow.block b (by simp; omega) (fun e => hne e.symm), Lib.alloc_old w1 _ b hlt]
  exact hbk
 have d0 : w2.cell? ⟨b, 0, none⟩ = some (.pointer (some ⟨b, 0, none⟩)) := by rw [Lib.cell_of_heap hb2]; rfl
 have d1 : w2.cell? ⟨b, 1, none⟩ = some v := by rw [Lib.cell_of_heap hb2]; rfl
 have f1 : w2.frozen? ⟨b, 1, none⟩ = false := Lib.frozen_of_heap hb2 1
 obtain ⟨g, cap, rfl⟩ : ∃ g cap, v' = .slice (some ⟨g, 0, none⟩) (bs.length + 1) cap := by
  rcases hown'.2 with ⟨_, h0⟩ | ⟨g, cap, cur, hv, _⟩
  ·omega
  ·exact ⟨g, cap, hv⟩
 go_wp2
 go_ret
 refine ⟨rfl, ?_, ?_⟩
 ·exact PrAt.put hB hb2 (bs' := bs ++ [.int .u8 c]) (by simpa using hown')
 ·exact ((hb1.alloc (by have := hb1.size; omega) _).grown hgrow (by have := hb1.size; simp; omega) (fun k hk => (hown.lt k hk).1)).setCell (p := ⟨b, 1, none⟩) hB _
theorem plen_any (B b : Nat) (bs : List Value) (w : World) (h : IsPr B b bs w) :
  Calls Tryz.prog 48 #[.pointer (some ⟨b, 0, none⟩)] w fun e w' => e = .returned (.int .i64 bs.length) ∧ w' = w := by
 obtain ⟨p, hB, v, hbk, hown, hne⟩ := h.at
 obtain ⟨ao, cap, rfl⟩ : ∃ ao cap, v = .slice ao bs.length cap := by
  rcases hown.2 with ⟨hv, h0⟩ | ⟨g, cap, cur, hv, _⟩
  ·exact ⟨none, 0, by rw [hv, h0]⟩
  ·exact ⟨_, _, hv⟩
 have c1 : w.cell? ⟨b, 1, none⟩ = some (.slice ao bs.length cap) := by rw [Lib.cell_of_heap hbk]; rfl
 go_enter Tryz.func48, Tryz.ntmps48
 go_wp2
 go_ret
 exact ⟨rfl, rfl⟩
theorem pstring_any (B b : Nat) (l : List UInt8) (w : World) (h : IsPr B b (Lib.byteCells l) w) (h0 : l ≠ []) :
  Calls Tryz.prog 49 #[.pointer (some ⟨b, 0, none⟩)] w fun e w' => e = .returned (.string ⟨l.toArray⟩) ∧ Below B w w' := by
 obtain ⟨p, hB, v, hbk, hown, hne⟩ := h.at
 have hl0 : l.length ≠ 0 := by simpa using h0
 rw [Lib.byteCells_length] at hown
 obtain ⟨g, cap, cur, rfl, hbg, hg, hnc, hcm, hcs, htake⟩ : ∃ g cap cur, v = .slice (some ⟨g, 0, none⟩) l.length cap ∧ B ≤ g ∧ w.heap[g]? = some (.cells cur 5 (0, 0)) ∧ l.length ≤ cap ∧ cap ≤ maxLen ∧ cur.size = cap * 1 ∧ cur.toList.take (l.length * 1) = Lib.byteCells l := by
  rcases hown.2 with ⟨_, hz⟩ | ⟨g, cap, cur, hv, r⟩
  ·exact absurd hz hl0
  ·exact ⟨g, cap, cur, hv, r⟩
 have c1 : w.drew.cell? ⟨b, 1, none⟩ = some (.slice (some ⟨g, 0, none⟩) l.length cap) := by
  have : w.drew.heap[b]? = some (.cells #[p, .slice (some ⟨g, 0, none⟩) l.length cap, .bool false] 95 (0, 0)) := hbk
  rw [Lib.cell_of_heap this]; rfl
 have mixed : Tryz.prog.follows .mixedOrders = true := by kernel_rfl
 have hSD : (Builtin.unsafeSliceData_ #[91] 166 #[.slice (some ⟨g, 0, none⟩) l.length cap]).run Tryz.prog w.drew = .ok (.pointer (some ⟨g, 0, none⟩)) w.drew :=
  Lib.run_unsafeSliceData_row _ _ _ _ _ _ (by omega)
 have hUS : (Builtin.unsafeString_ #[166, 3] 9 #[.pointer (some ⟨g, 0, none⟩), .int .i64 l.length]).run Tryz.prog w.drew = .ok (.string ⟨l.toArray⟩) (w.drew.freeze ⟨g, 0, none⟩ l.length) := by
  refine Lib.run_unsafeString_row w.drew 166 3 9 5 Tryz.underlying166 (by kernel_rfl) g cur.size (by have hg' : w.drew.heap[g]? = some (.cells cur 5 (0, 0)) := hg; simp [World.shape?, hg']) l h0 (by omega) (by unfold maxLen at hcm; omega) ?_
  intro j x hx
  have := hown.cells (g := g) rfl j (.int .u8 x.toNat) (by simp [Lib.byteCells, hx])
  exact this
 go_enter Tryz.func49, Tryz.ntmps49
 go_wp2
 go_region_o
 all_goals (go_wp2; go_ret; exact ⟨rfl, Lib.below_freeze (Below.drew (Below.refl B w)) (p := ⟨g, 0, none⟩) hbg _⟩)
/-- a line more -/
theorem put_any (B b : Nat) (bs : List Value) (s : ByteArray) (w : World) (h : IsPr B b bs w) (hlen : bs.length + s.size ≤ 140737488355) (hBw : B ≤ w.heap.size) :
  Calls Tryz.prog 43 #[.pointer (some ⟨b, 0, none⟩), .string s] w fun e w' => e = .returned (.tuple #[]) ∧ (IsPr B b (bs ++ Lib.strCells s ++ [.int .u8 10]) w' ∧ Below B w w') := by
 have HK := qHd (pwriteS_any B b bs s w h (by omega) hBw)
 clear h
 go_enter Tryz.func43, Tryz.ntmps43
 go_wp2_with (with_reducible refine qac ?_)
 refine qad.mk ?_
 (with_reducible refine HK.out.mono ?_); rintro e w1 ⟨rfl, h1, hb1⟩; clear HK
 have HK := qHd (pwriteB_any B b (bs ++ Lib.strCells s) 10 w1 (.inr h1) (by rw [List.length_append, Lib.strCells_length]; omega) (Nat.le_trans hBw hb1.size))
 have HB := qHd hb1
 clear h1 hb1
 go_wp2_with (with_reducible refine qac ?_)
 refine qad.mk ?_
 (with_reducible refine HK.out.mono ?_); rintro e w2 ⟨rfl, h2, hb2⟩; clear HK
 have H2 := qHd h2; have HB2 := qHd (HB.out.trans hb2)
 clear h2 hb2
 go_wp2_with fail
 go_end0
 exact ⟨rfl, .inr H2.out, HB2.out⟩
theorem isPr_new {b : Nat} {w : World} (h : w.heap[b]? = some (.cells #[.pointer none, .slice none 0 0, .bool false] 95)) : IsPr b b (Lib.byteCells []) w :=
 .inl ⟨Nat.le_refl _, _, h, (qbx.nil w b _ _).1, fun e => by cases e⟩
theorem isPr_lt {B b : Nat} {bs : List Value} {w : World} (h : IsPr B b bs w) : b < w.heap.size := by
 obtain ⟨p, _, v, hb, _⟩ := h.at
 exact qao hb
theorem isPr_long {B b : Nat} {bs : List Value} {w : World} (h : IsPr B b bs w) : w.cell? ⟨b, 2, none⟩ = some (.bool false) := by
 obtain ⟨p, _, v, hb, _⟩ := h.at
 rw [Lib.cell_of_heap hb]; rfl
theorem PrAt.exc1 {B b g : Nat} {p : Value} {bs : List Value} {w w' : World} {cs : Array Value} {T : TypeId} (h : PrAt B b p bs w) (e : Exc w w' [g]) (hg : w.heap[g]? = some (.cells cs T)) (h1 : T ≠ 5) (h2 : T ≠ 95) : PrAt B b p bs w' := by
 obtain ⟨hB, v, hb, hown, hne⟩ := h
 have hgb : b ≠ g := fun q => by
  rw [← q, hb] at hg
  simp only [Option.some.injEq, Obj.cells.injEq] at hg
  exact h2 hg.2.1.symm
 exact ⟨hB, v, e.heap hb (by simpa using hgb), hown.kept (row := some g) ⟨e.os, e.tape, e.output, e.size, fun k hk hn => e.block k hk (fun hm => hn (by rw [List.mem_singleton.1 hm]))⟩ (Or.inr (Lib.ownBlock_ne hown hg h1)), hne⟩
theorem IsPr.exc1 {B b g : Nat} {bs : List Value} {w w' : World} {cs : Array Value} {T : TypeId} (h : IsPr B b bs w) (e : Exc w w' [g]) (hg : w.heap[g]? = some (.cells cs T)) (h1 : T ≠ 5) (h2 : T ≠ 95) : IsPr B b bs w' :=
 h.imp (fun x => x.exc1 e hg h1 h2) (fun x => x.exc1 e hg h1 h2)
theorem plenN (B b : Nat) (bs : List Value) (z : Int) (w : World) (h : IsPr B b bs w) (hz : (bs.length : Int) = z) :
  Calls Tryz.prog 48 #[.pointer (some ⟨b, 0, none⟩)] w (RetS w (.int .i64 z)) :=
 (plen_any B b bs w h).mono fun e w' q => ⟨by rw [← hz]; exact q.1, q.2.symm⟩
theorem pstringN (B b : Nat) (l : List UInt8) (s : ByteArray) (w : World) (h : IsPr B b (Lib.byteCells l) w) (h0 : l ≠ []) (hs : (⟨l.toArray⟩ : ByteArray) = s) :
  Calls Tryz.prog 49 #[.pointer (some ⟨b, 0, none⟩)] w fun e w' => e = .returned (.string s) ∧ Below B w w' :=
 (pstring_any B b l w h h0).mono fun e w' q => ⟨by rw [← hs]; exact q.1, q.2⟩
theorem Md.lowB {w w' : World} {B ge ce gg cg gi ci : Nat} (h : Md w ge ce gg cg gi ci) (hb : Below B w w') (hl : ge < B ∧ gg < B ∧ gi < B) : Md w' ge ce gg cg gi ci :=
 have lo : ∀ (g k : Nat) (v : Value), g < B → w.cell? ⟨g, k, none⟩ = some v → w'.cell? ⟨g, k, none⟩ = some v := fun g k v hg hv => by
  rw [← hv]; exact World.cell?_of_block (hb.block g hg)
 ⟨fun k v q => lo _ _ _ hl.1 (h.ev k v q), fun k v q => lo _ _ _ hl.2.1 (h.gt k v q), ⟨lo _ _ _ hl.2.2 h.inp.1, lo _ _ _ hl.2.2 h.inp.2⟩, h.cap⟩
theorem ptext_m {ge ce gg cg gi ci : Nat} (w : World) (h : Md w ge ce gg cg gi ci) :
  Calls Tryz.prog 16 #[.agg #[.string ⟨#[109]⟩, .string ⟨#[103]⟩, .slice (some ⟨ge, 0, none⟩) 2 ce, .slice none 0 0, .slice (some ⟨gg, 0, none⟩) 1 cg, .slice none 0 0, .slice none 0 0, .slice none 0 0]] w (qcc w (.tuple #[.string ⟨#[109, 111, 100, 101, 108, 32, 109, 59, 10, 101, 118, 101, 110, 116, 32, 97, 59, 10, 101, 118, 101, 110, 116, 32, 98, 59, 10, 103, 97, 116, 101, 32, 103, 32, 97, 110, 100, 32, 97, 32, 98, 59, 10, 116, 111, 112, 32, 103, 59, 10]⟩, .nilIface])) := by
 have HM := qHd h; have LM := qHd h.lt; clear h
 have HB := qHd (Below.refl w.heap.size w)
 go_enter Tryz.func16, Tryz.ntmps16
 go_wp2_with (with_reducible refine qag 26 ?_)
 obtain ⟨w2, hw_3, hb_3, g1, hg_3, Gg1, LO_g1⟩ := qcd HB.out.size (.cells #[.string ⟨#[109]⟩, .string ⟨#[103]⟩, .slice (some ⟨ge, 0, none⟩) 2 ce, .slice none 0 0, .slice (some ⟨gg, 0, none⟩) 1 cg, .slice none 0 0, .slice none 0 0, .slice none 0 0] 44)
 rw [← hw_3, ← hg_3]
 replace HM := qHd (HM.out.below hb_3)
 replace HB := qHd (HB.out.trans (hb_3.mono HB.out.size))
 clear hw_3 hg_3 hb_3
 refine qad.mk ?_
 obtain ⟨x4, x5, x6, x7, x8, x9, x10, x11⟩ := qcq Gg1.out
 go_wp2_with (with_reducible refine qac ?_)
 clear x4 x5 x6 x7 x8 x9 x10 x11
 refine qad.mk ?_
 have HK := qHd (mcheck_m w2 HM.out)
 (with_reducible refine HK.out.mono ?_); rintro e w12 ⟨rfl, hb⟩; clear HK
 replace HM := qHd (HM.out.below hb)
 replace Gg1 := qHd (qaa Gg1.out hb)
 replace HB := qHd (HB.out.trans (hb.mono HB.out.size))
 clear hb
 go_wp2_with (with_reducible refine qag 35 ?_)
 obtain ⟨w14, hw_15, hb_15, g13, hg_15, Gg13, LO_g13⟩ := qcd HB.out.size (.cells #[.pointer none, .slice none 0 0, .bool false] 95)
 rw [← hw_15, ← hg_15]
 have NEL_g1 := qHd (show g1 < g13 by have hq := qao Gg1.out; rw [hg_15]; omega)
 have LMP := qHd (show ge < g13 ∧ gg < g13 ∧ gi < g13 by have hq := HM.out.lt; rw [hg_15]; omega)
 replace HM := qHd (HM.out.below hb_15)
 replace Gg1 := qHd (qaa Gg1.out hb_15)
 replace HB := qHd (HB.out.trans (hb_15.mono HB.out.size))
 clear hw_15 hg_15 hb_15
 have LT_g1 := qHd (show g1 < g13 by have hq := NEL_g1.out; omega)
 have HP := qHd (isPr_new Gg13.out); clear Gg13
 refine qad.mk ?_
 have x17 : w14.cell? ⟨g1, 0, none⟩ = some (.string ⟨#[109]⟩) := cell_of_row _ _ _ _ _ _ (Gg1.out)
 go_wp2_with (with_reducible refine qac ?_)
 clear x17
 obtain ⟨w18, hw_19, hb_19, g16, hg_19, Gg16, LO_g16⟩ := qcd HB.out.size (.cells #[.string ⟨#[109, 111, 100, 101, 108]⟩, .string ⟨#[109]⟩] 9)
 rw [← hw_19, ← hg_19]
 replace HM := qHd (HM.out.below hb_19)
 replace Gg1 := qHd (qaa Gg1.out hb_19)
 replace HP := qHd (HP.out.below hb_19)
 replace HB := qHd (HB.out.trans (hb_19.mono HB.out.size))
 clear hw_19 hg_19 hb_19
 refine qad.mk ?_
 have HK := qHd (line_model g16 2 w18 (sts_of_row (xs := [⟨#[109, 111, 100, 101, 108]⟩, ⟨#[109]⟩]) Gg16.out) (by decide))
 (with_reducible refine HK.out.mono ?_); rintro e w20 ⟨rfl, hb⟩; clear HK
 replace HM := qHd (HM.out.below hb)
 replace Gg1 := qHd (qaa Gg1.out hb)
 replace HP := qHd (HP.out.below hb)
 replace Gg16 := qHd (qaa Gg16.out hb)
 replace HB := qHd (HB.out.trans (hb.mono HB.out.size))
 clear hb
 go_wp2_with (with_reducible refine qac ?_)
 refine qad.mk ?_
 have HK := qHd (put_any g13 g13 (Lib.byteCells []) ⟨#[109, 111, 100, 101, 108, 32, 109, 59]⟩ w20 HP.out (of_decide_eq_true (by kernel_rfl)) (Nat.le_of_lt (isPr_lt HP.out)))
 (with_reducible refine HK.out.mono ?_); rintro e w21 ⟨rfl, hp, hb⟩; clear HK
 clear HP
 replace HM := qHd (HM.out.lowB hb LMP.out)
 replace Gg1 := qHd ((hb.block g1 LT_g1.out).trans Gg1.out)
 clear Gg16
 replace HB := qHd (HB.out.trans (hb.mono LO_g13.out))
 rw [show Lib.byteCells [] ++ Lib.strCells ⟨#[109, 111, 100, 101, 108, 32, 109, 59]⟩ ++ [.int .u8 10] = Lib.byteCells [109, 111, 100, 101, 108, 32, 109, 59, 10] from by kernel_rfl] at hp
 have HP := qHd hp; clear hp hb
 have x22 : w21.cell? ⟨g1, 2, none⟩ = some (.slice (some ⟨ge, 0, none⟩) 2 ce) := cell_of_row _ _ _ _ _ _ (Gg1.out)
 go_wp2_with (with_reducible first | refine qah ?_ | refine qae ?_)
 clear x22
 refine qad.mk ?_
 refine wp_loop_rounds 3 ?_
 rw [rounds_succ]
 obtain ⟨x24, x25, x26, x27, x28, x29, x30, x31, x32, x33, x34⟩ := HM.out.e0
 go_wp2_with (with_reducible refine qaf 101 ?_)
 clear x24 x25 x26 x27 x28 x29 x30 x31 x32 x33 x34
 obtain ⟨w35, hw_36, hb_36, g23, hg_36, Gg23, LO_g23⟩ := qcd HB.out.size (.cells #[.string ⟨#[]⟩, .bool false, .slice none 0 0, .slice none 0 0, .bool false, .slice none 0 0, .slice none 0 0, .bool false, .slice none 0 0, .slice none 0 0, .int .i64 0] 101)
 rw [← hw_36, ← hg_36]
 replace HM := qHd (HM.out.below hb_36)
 replace Gg1 := qHd (qaa Gg1.out hb_36)
 replace HP := qHd (HP.out.below hb_36)
 replace HB := qHd (HB.out.trans (hb_36.mono HB.out.size))
 clear hw_36 hg_36 hb_36
 refine qau g23 [.string ⟨#[97]⟩, .bool false, .slice none 0 0, .slice none 0 0, .bool false, .slice none 0 0, .slice none 0 0, .bool false, .slice none 0 0, .slice none 0 0, .int .i64 0] Gg23.out rfl rfl rfl (by kernel_rfl) rfl ?_
 intro w37 hx_ hgn
 have q_ := (And.intro (qHd (HM.out.exc hx_ (fun hm => by simp only [List.mem_cons, List.not_mem_nil, or_false] at hm; have h1 := LM.out; have h_g23 := LO_g23.out; omega) (fun hm => by simp only [List.mem_cons, List.not_mem_nil, or_false] at hm; have h1 := LM.out; have h_g23 := LO_g23.out; omega) (fun hm => by simp only [List.mem_cons, List.not_mem_nil, or_false] at hm; have h1 := LM.out; have h_g23 := LO_g23.out; omega))) (And.intro (qHd (hx_.heap Gg1.out (fun hm => qaw Gg1.out Gg23.out (by simp) (List.mem_singleton.1 hm)))) (qHd (HP.out.exc1 hx_ Gg23.out (by decide) (by decide))))); clear HM Gg1 HP; obtain ⟨HM, Gg1, HP⟩ := q_
 replace HB := qHd (hx_.low HB.out HB.out.size (fun g hg => by rw [List.mem_singleton.1 hg]; exact LO_g23.out))
 replace Gg23 := qHd hgn
 clear hx_ hgn
 obtain ⟨x38, x39, x40, x41, x42, x43, x44, x45, x46, x47, x48⟩ := row11m Gg23.out
 go_wp2_with (with_reducible refine qac ?_)
 clear x38 x39 x40 x41 x42 x43 x44 x45 x46 x47 x48
 refine qad.mk ?_
 have HK := qHd (prEvent_a g13 w37)
 (with_reducible refine HK.out.mono ?_); rintro e w49 ⟨rfl, hb⟩; clear HK
 replace HM := qHd (HM.out.below hb)
 replace Gg1 := qHd (qaa Gg1.out hb)
 replace HP := qHd (HP.out.below hb)
 replace Gg23 := qHd (qaa Gg23.out hb)
 replace HB := qHd (HB.out.trans (hb.mono HB.out.size))
 clear hb
 go_wp2_with (with_reducible refine qac ?_)
 refine qad.mk ?_
 have HK := qHd (put_any g13 g13 (Lib.byteCells [109, 111, 100, 101, 108, 32, 109, 59, 10]) ⟨#[101, 118, 101, 110, 116, 32, 97, 59]⟩ w49 HP.out (of_decide_eq_true (by kernel_rfl)) (Nat.le_of_lt (isPr_lt HP.out)))
 (with_reducible refine HK.out.mono ?_); rintro e w50 ⟨rfl, hp, hb⟩; clear HK
 clear HP
 replace HM := qHd (HM.out.lowB hb LMP.out)
 replace Gg1 := qHd ((hb.block g1 LT_g1.out).trans Gg1.out)
 clear Gg23
 replace HB := qHd (HB.out.trans (hb.mono LO_g13.out))
 rw [show Lib.byteCells [109, 111, 100, 101, 108, 32, 109, 59, 10] ++ Lib.strCells ⟨#[101, 118, 101, 110, 116, 32, 97, 59]⟩ ++ [.int .u8 10] = Lib.byteCells [109, 111, 100, 101, 108, 32, 109, 59, 10, 101, 118, 101, 110, 116, 32, 97, 59, 10] from by kernel_rfl] at hp
 have HP := qHd hp; clear hp hb
 go_wp2_with (with_reducible first | refine qah ?_ | refine qae ?_)
 refine qad.mk ?_
 rw [rounds_succ]
 obtain ⟨x52, x53, x54, x55, x56, x57, x58, x59, x60, x61, x62⟩ := HM.out.e1
 go_wp2_with (with_reducible refine qaf 101 ?_)
 clear x52 x53 x54 x55 x56 x57 x58 x59 x60 x61 x62
 obtain ⟨w63, hw_64, hb_64, g51, hg_64, Gg51, LO_g51⟩ := qcd HB.out.size (.cells #[.string ⟨#[]⟩, .bool false, .slice none 0 0, .slice none 0 0, .bool false, .slice none 0 0, .slice none 0 0, .bool false, .slice none 0 0, .slice none 0 0, .int .i64 0] 101)
 rw [← hw_64, ← hg_64]
 replace HM := qHd (HM.out.below hb_64)
 replace Gg1 := qHd (qaa Gg1.out hb_64)
 replace HP := qHd (HP.out.below hb_64)
 replace HB := qHd (HB.out.trans (hb_64.mono HB.out.size))
 clear hw_64 hg_64 hb_64
 refine qau g51 [.string ⟨#[98]⟩, .bool false, .slice none 0 0, .slice none 0 0, .bool false, .slice none 0 0, .slice none 0 0, .bool false, .slice none 0 0, .slice none 0 0, .int .i64 0] Gg51.out rfl rfl rfl (by kernel_rfl) rfl ?_
 intro w65 hx_ hgn
 have q_ := (And.intro (qHd (HM.out.exc hx_ (fun hm => by simp only [List.mem_cons, List.not_mem_nil, or_false] at hm; have h1 := LM.out; have h_g51 := LO_g51.out; omega) (fun hm => by simp only [List.mem_cons, List.not_mem_nil, or_false] at hm; have h1 := LM.out; have h_g51 := LO_g51.out; omega) (fun hm => by simp only [List.mem_cons, List.not_mem_nil, or_false] at hm; have h1 := LM.out; have h_g51 := LO_g51.out; omega))) (And.intro (qHd (hx_.heap Gg1.out (fun hm => qaw Gg1.out Gg51.out (by simp) (List.mem_singleton.1 hm)))) (qHd (HP.out.exc1 hx_ Gg51.out (by decide) (by decide))))); clear HM Gg1 HP; obtain ⟨HM, Gg1, HP⟩ := q_
 replace HB := qHd (hx_.low HB.out HB.out.size (fun g hg => by rw [List.mem_singleton.1 hg]; exact LO_g51.out))
 replace Gg51 := qHd hgn
 clear hx_ hgn
 obtain ⟨x66, x67, x68, x69, x70, x71, x72, x73, x74, x75, x76⟩ := row11m Gg51.out
 go_wp2_with (with_reducible refine qac ?_)
 clear x66 x67 x68 x69 x70 x71 x72 x73 x74 x75 x76
 refine qad.mk ?_
 have HK := qHd (prEvent_b g13 w65)
 (with_reducible refine HK.out.mono ?_); rintro e w77 ⟨rfl, hb⟩; clear HK
 replace HM := qHd (HM.out.below hb)
 replace Gg1 := qHd (qaa Gg1.out hb)
 replace HP := qHd (HP.out.below hb)
 replace Gg51 := qHd (qaa Gg51.out hb)
 replace HB := qHd (HB.out.trans (hb.mono HB.out.size))
 clear hb
 go_wp2_with (with_reducible refine qac ?_)
 refine qad.mk ?_
 have HK := qHd (put_any g13 g13 (Lib.byteCells [109, 111, 100, 101, 108, 32, 109, 59, 10, 101, 118, 101, 110, 116, 32, 97, 59, 10]) ⟨#[101, 118, 101, 110, 116, 32, 98, 59]⟩ w77 HP.out (of_decide_eq_true (by kernel_rfl)) (Nat.le_of_lt (isPr_lt HP.out)))
 (with_reducible refine HK.out.mono ?_); rintro e w78 ⟨rfl, hp, hb⟩; clear HK
 clear HP
 replace HM := qHd (HM.out.lowB hb LMP.out)
 replace Gg1 := qHd ((hb.block g1 LT_g1.out).trans Gg1.out)
 clear Gg51
 replace HB := qHd (HB.out.trans (hb.mono LO_g13.out))
 rw [show Lib.byteCells [109, 111, 100, 101, 108, 32, 109, 59, 10, 101, 118, 101, 110, 116, 32, 97, 59, 10] ++ Lib.strCells ⟨#[101, 118, 101, 110, 116, 32, 98, 59]⟩ ++ [.int .u8 10] = Lib.byteCells [109, 111, 100, 101, 108, 32, 109, 59, 10, 101, 118, 101, 110, 116, 32, 97, 59, 10, 101, 118, 101, 110, 116, 32, 98, 59, 10] from by kernel_rfl] at hp
 have HP := qHd hp; clear hp hb
 go_wp2_with (with_reducible first | refine qah ?_ | refine qae ?_)
 refine qad.mk ?_
 rw [rounds_succ]
 have x79 : w78.cell? ⟨g1, 3, none⟩ = some (.slice none 0 0) := cell_of_row _ _ _ _ _ _ (Gg1.out)
 go_wp2_with (with_reducible first | refine qah ?_ | refine qae ?_)
 clear x79
 refine qad.mk ?_
 refine wp_loop_rounds 1 ?_
 rw [rounds_succ]
 have x80 : w78.cell? ⟨g1, 4, none⟩ = some (.slice (some ⟨gg, 0, none⟩) 1 cg) := cell_of_row _ _ _ _ _ _ (Gg1.out)
 go_wp2_with (with_reducible first | refine qah ?_ | refine qae ?_)
 clear x80
 refine qad.mk ?_
 refine wp_loop_rounds 2 ?_
 rw [rounds_succ]
 obtain ⟨x82, x83, x84, x85, x86, x87, x88⟩ := HM.out.g0
 go_wp2_with (with_reducible refine qaf 107 ?_)
 clear x82 x83 x84 x85 x86 x87 x88
 obtain ⟨w89, hw_90, hb_90, g81, hg_90, Gg81, LO_g81⟩ := qcd HB.out.size (.cells #[.string ⟨#[]⟩, .int .i64 0, .int .i64 0, .slice none 0 0, .bool false, .slice none 0 0, .slice none 0 0] 107)
 rw [← hw_90, ← hg_90]
 replace HM := qHd (HM.out.below hb_90)
 replace Gg1 := qHd (qaa Gg1.out hb_90)
 replace HP := qHd (HP.out.below hb_90)
 replace HB := qHd (HB.out.trans (hb_90.mono HB.out.size))
 clear hw_90 hg_90 hb_90
 refine qau g81 [.string ⟨#[103]⟩, .int .i64 0, .int .i64 0, .slice (some ⟨gi, 0, none⟩) 2 ci, .bool false, .slice none 0 0, .slice none 0 0] Gg81.out rfl rfl rfl (by kernel_rfl) rfl ?_
 intro w91 hx_ hgn
 have q_ := (And.intro (qHd (HM.out.exc hx_ (fun hm => by simp only [List.mem_cons, List.not_mem_nil, or_false] at hm; have h1 := LM.out; have h_g81 := LO_g81.out; omega) (fun hm => by simp only [List.mem_cons, List.not_mem_nil, or_false] at hm; have h1 := LM.out; have h_g81 := LO_g81.out; omega) (fun hm => by simp only [List.mem_cons, List.not_mem_nil, or_false] at hm; have h1 := LM.out; have h_g81 := LO_g81.out; omega))) (And.intro (qHd (hx_.heap Gg1.out (fun hm => qaw Gg1.out Gg81.out (by simp) (List.mem_singleton.1 hm)))) (qHd (HP.out.exc1 hx_ Gg81.out (by decide) (by decide))))); clear HM Gg1 HP; obtain ⟨HM, Gg1, HP⟩ := q_
 replace HB := qHd (hx_.low HB.out HB.out.size (fun g hg => by rw [List.mem_singleton.1 hg]; exact LO_g81.out))
 replace Gg81 := qHd hgn
 clear hx_ hgn
 obtain ⟨x92, x93, x94, x95, x96, x97, x98⟩ := row7m Gg81.out
 go_wp2_with (with_reducible refine qac ?_)
 clear x92 x93 x94 x95 x96 x97 x98
 refine qad.mk ?_
 have HK := qHd (prGate_m g13 w91 HM.out)
 (with_reducible refine HK.out.mono ?_); rintro e w99 ⟨rfl, hb⟩; clear HK
 replace HM := qHd (HM.out.below hb)
 replace Gg1 := qHd (qaa Gg1.out hb)
 replace HP := qHd (HP.out.below hb)
 replace Gg81 := qHd (qaa Gg81.out hb)
 replace HB := qHd (HB.out.trans (hb.mono HB.out.size))
 clear hb
 go_wp2_with (with_reducible refine qac ?_)
 refine qad.mk ?_
 have HK := qHd (put_any g13 g13 (Lib.byteCells [109, 111, 100, 101, 108, 32, 109, 59, 10, 101, 118, 101, 110, 116, 32, 97, 59, 10, 101, 118, 101, 110, 116, 32, 98, 59, 10]) ⟨#[103, 97, 116, 101, 32, 103, 32, 97, 110, 100, 32, 97, 32, 98, 59]⟩ w99 HP.out (of_decide_eq_true (by kernel_rfl)) (Nat.le_of_lt (isPr_lt HP.out)))
 (with_reducible refine HK.out.mono ?_); rintro e w100 ⟨rfl, hp, hb⟩; clear HK
 clear HP
 replace HM := qHd (HM.out.lowB hb LMP.out)
 replace Gg1 := qHd ((hb.block g1 LT_g1.out).trans Gg1.out)
 clear Gg81
 replace HB := qHd (HB.out.trans (hb.mono LO_g13.out))
 rw [show Lib.byteCells [109, 111, 100, 101, 108, 32, 109, 59, 10, 101, 118, 101, 110, 116, 32, 97, 59, 10, 101, 118, 101, 110, 116, 32, 98, 59, 10] ++ Lib.strCells ⟨#[103, 97, 116, 101, 32, 103, 32, 97, 110, 100, 32, 97, 32, 98, 59]⟩ ++ [.int .u8 10] = Lib.byteCells [109, 111, 100, 101, 108, 32, 109, 59, 10, 101, 118, 101, 110, 116, 32, 97, 59, 10, 101, 118, 101, 110, 116, 32, 98, 59, 10, 103, 97, 116, 101, 32, 103, 32, 97, 110, 100, 32, 97, 32, 98, 59, 10] from by kernel_rfl] at hp
 have HP := qHd hp; clear hp hb
 go_wp2_with (with_reducible first | refine qah ?_ | refine qae ?_)
 refine qad.mk ?_
 rw [rounds_succ]
 have x101 : w100.cell? ⟨g1, 5, none⟩ = some (.slice none 0 0) := cell_of_row _ _ _ _ _ _ (Gg1.out)
 go_wp2_with (with_reducible first | refine qah ?_ | refine qae ?_)
 clear x101
 refine qad.mk ?_
 refine wp_loop_rounds 1 ?_
 rw [rounds_succ]
 have x102 : w100.cell? ⟨g1, 6, none⟩ = some (.slice none 0 0) := cell_of_row _ _ _ _ _ _ (Gg1.out)
 go_wp2_with (with_reducible first | refine qah ?_ | refine qae ?_)
 clear x102
 refine qad.mk ?_
 refine wp_loop_rounds 1 ?_
 rw [rounds_succ]
 have x103 : w100.cell? ⟨g1, 7, none⟩ = some (.slice none 0 0) := cell_of_row _ _ _ _ _ _ (Gg1.out)
 go_wp2_with (with_reducible first | refine qah ?_ | refine qae ?_)
 clear x103
 refine qad.mk ?_
 refine wp_loop_rounds 1 ?_
 rw [rounds_succ]
 have x105 : w100.cell? ⟨g1, 1, none⟩ = some (.string ⟨#[103]⟩) := cell_of_row _ _ _ _ _ _ (Gg1.out)
 go_wp2_with (with_reducible refine qac ?_)
 clear x105
 obtain ⟨w106, hw_107, hb_107, g104, hg_107, Gg104, LO_g104⟩ := qcd HB.out.size (.cells #[.string ⟨#[116, 111, 112]⟩, .string ⟨#[103]⟩] 9)
 rw [← hw_107, ← hg_107]
 replace HM := qHd (HM.out.below hb_107)
 replace Gg1 := qHd (qaa Gg1.out hb_107)
 replace HP := qHd (HP.out.below hb_107)
 replace HB := qHd (HB.out.trans (hb_107.mono HB.out.size))
 clear hw_107 hg_107 hb_107
 refine qad.mk ?_
 have HK := qHd (line_top g104 2 w106 (sts_of_row (xs := [⟨#[116, 111, 112]⟩, ⟨#[103]⟩]) Gg104.out) (by decide))
 (with_reducible refine HK.out.mono ?_); rintro e w108 ⟨rfl, hb⟩; clear HK
 replace HM := qHd (HM.out.below hb)
 replace Gg1 := qHd (qaa Gg1.out hb)
 replace HP := qHd (HP.out.below hb)
 replace Gg104 := qHd (qaa Gg104.out hb)
 replace HB := qHd (HB.out.trans (hb.mono HB.out.size))
 clear hb
 go_wp2_with (with_reducible refine qac ?_)
 refine qad.mk ?_
 have HK := qHd (put_any g13 g13 (Lib.byteCells [109, 111, 100, 101, 108, 32, 109, 59, 10, 101, 118, 101, 110, 116, 32, 97, 59, 10, 101, 118, 101, 110, 116, 32, 98, 59, 10, 103, 97, 116, 101, 32, 103, 32, 97, 110, 100, 32, 97, 32, 98, 59, 10]) ⟨#[116, 111, 112, 32, 103, 59]⟩ w108 HP.out (of_decide_eq_true (by kernel_rfl)) (Nat.le_of_lt (isPr_lt HP.out)))
 (with_reducible refine HK.out.mono ?_); rintro e w109 ⟨rfl, hp, hb⟩; clear HK
 clear HP
 replace HM := qHd (HM.out.lowB hb LMP.out)
 replace Gg1 := qHd ((hb.block g1 LT_g1.out).trans Gg1.out)
 clear Gg104
 replace HB := qHd (HB.out.trans (hb.mono LO_g13.out))
 rw [show Lib.byteCells [109, 111, 100, 101, 108, 32, 109, 59, 10, 101, 118, 101, 110, 116, 32, 97, 59, 10, 101, 118, 101, 110, 116, 32, 98, 59, 10, 103, 97, 116, 101, 32, 103, 32, 97, 110, 100, 32, 97, 32, 98, 59, 10] ++ Lib.strCells ⟨#[116, 111, 112, 32, 103, 59]⟩ ++ [.int .u8 10] = Lib.byteCells [109, 111, 100, 101, 108, 32, 109, 59, 10, 101, 118, 101, 110, 116, 32, 97, 59, 10, 101, 118, 101, 110, 116, 32, 98, 59, 10, 103, 97, 116, 101, 32, 103, 32, 97, 110, 100, 32, 97, 32, 98, 59, 10, 116, 111, 112, 32, 103, 59, 10] from by kernel_rfl] at hp
 have HP := qHd hp; clear hp hb
 have x110 : w109.cell? ⟨g13, 2, none⟩ = some (.bool false) := isPr_long HP.out
 go_wp2_with (with_reducible refine qac ?_)
 clear x110
 refine qad.mk ?_
 have HK := qHd (plenN g13 g13 (Lib.byteCells [109, 111, 100, 101, 108, 32, 109, 59, 10, 101, 118, 101, 110, 116, 32, 97, 59, 10, 101, 118, 101, 110, 116, 32, 98, 59, 10, 103, 97, 116, 101, 32, 103, 32, 97, 110, 100, 32, 97, 32, 98, 59, 10, 116, 111, 112, 32, 103, 59, 10]) 50 w109 HP.out (by kernel_rfl))
 (with_reducible refine HK.out.mono ?_); rintro e w_ ⟨rfl, rfl⟩; clear HK
 go_wp2_with (with_reducible refine qac ?_)
 refine qad.mk ?_
 have HK := qHd (pstringN g13 g13 [109, 111, 100, 101, 108, 32, 109, 59, 10, 101, 118, 101, 110, 116, 32, 97, 59, 10, 101, 118, 101, 110, 116, 32, 98, 59, 10, 103, 97, 116, 101, 32, 103, 32, 97, 110, 100, 32, 97, 32, 98, 59, 10, 116, 111, 112, 32, 103, 59, 10] ⟨#[109, 111, 100, 101, 108, 32, 109, 59, 10, 101, 118, 101, 110, 116, 32, 97, 59, 10, 101, 118, 101, 110, 116, 32, 98, 59, 10, 103, 97, 116, 101, 32, 103, 32, 97, 110, 100, 32, 97, 32, 98, 59, 10, 116, 111, 112, 32, 103, 59, 10]⟩ w109 HP.out (by decide) rfl)
 (with_reducible refine HK.out.mono ?_); rintro e w111 ⟨rfl, hb⟩; clear HK
 clear HP
 replace HM := qHd (HM.out.lowB hb LMP.out)
 replace Gg1 := qHd ((hb.block g1 LT_g1.out).trans Gg1.out)
 replace HB := qHd (HB.out.trans (hb.mono LO_g13.out))
 clear hb
 go_wp2_with fail
 go_ret2
 exact ⟨rfl, HB.out⟩
end Go.Proofs.YteadcgmaailjlaaGreatDoor
namespace Go.Proofs.YteadcgmaailjlaaGreatDoor
open Go.RowKit Go.ChangeShapes Go.WideShapes Go.Joins Go.Deep
theorem nodeTys : NodeTys Tryz.prog 3 54 56 :=
 ⟨Tryz.underlying3, by kernel_rfl, Tryz.underlying54, by kernel_rfl, by kernel_rfl, ⟨_, _, _, Tryz.underlying56, rfl, rfl, rfl, rfl, rfl, rfl⟩⟩
theorem open_fm {H : Type} {enc : TypeId × Value → H} {W : World} {v : Value} {d : DataW H} {p : List MemPlace} {base : Nat}
  (hv : Value.okWide Tryz.prog W .any base 24 v) (h : DataW.Trod enc Tryz.prog W 0 (fun _ => true) true 24 v d p) : ∃ f, FmV W v f := by
 obtain ⟨v0, v1, v2, y0, y1, y2, n, rfl, _, _, h0, h1, h2⟩ := Go.Joins.open_agg3 Tryz.underlying24 (by kernel_rfl) (by kernel_rfl) hv h
 have h0' : DataW.trod enc Tryz.prog W 0 (fun _ => true) true n 3 [v0] = some y0 := h0
 have h1' : DataW.trod enc Tryz.prog W 0 (fun _ => true) true n 22 [v1] = some y1 := h1
 have h2' : DataW.trod enc Tryz.prog W 0 (fun _ => true) true n 3 [v2] = some y2 := h2
 obtain ⟨k0, e0, _, w0⟩ := DataW.trod_int Tryz.underlying3 h0'
 obtain ⟨k2, e2, _, w2⟩ := DataW.trod_int Tryz.underlying3 h2'
 obtain ⟨l, hl⟩ := open_nodes nodeTys Tryz.underlying22 h1'
 have e0' : v0 = .int .i64 k0 := by simpa using e0
 have e2' : v2 = .int .i64 k2 := by simpa using e2
 exact ⟨⟨k0, l, k2⟩, v1, by rw [e0', e2'], hl, i64_wf w0, i64_wf w2⟩
end Go.Proofs.YteadcgmaailjlaaGreatDoor
namespace Go.Proofs.YteadcgmaailjlaaGreatDoor
open Go.RowKit Go.ChangeShapes Go.WideShapes
theorem trodAll_below {H : Type} {enc : TypeId × Value → H} {P : Program} (hl : laidOutB P = true) {W W' : World} (hb : Below W.heap.size W W') :
  ∀ (ts : List TypeId) (vs : List Value) (ds : List (DataW H)) (ps : List MemPlace), (ts.all fun t => P.readableRec t && decide (t < P.types.size)) = true →
   DataW.TrodAll enc P W 0 (fun _ => true) true ts vs ds ps → (∀ x ∈ ps, x.block < W.heap.size) → DataW.TrodAll enc P W' 0 (fun b => decide (b < W.heap.size)) true ts vs ds ps := by
 intro ts
 induction ts with
 | nil =>
  intro vs ds ps hr h hlt
  cases vs <;> cases ds <;> first | exact h | exact h.elim
 | cons t ts ih =>
  intro vs ds ps hr h hlt
  simp only [List.all_cons, Bool.and_eq_true, decide_eq_true_eq] at hr
  cases vs with
  | nil => cases ds <;> exact h.elim
  | cons v vs =>
   cases ds with
   | nil => exact h.elim
   | cons d ds =>
    obtain ⟨p, q, h1, h2, rfl⟩ := h
    exact ⟨p, q, Below.trod hl hr.1.1 hr.1.2 h1 hb (fun x hx => hlt x (List.mem_append_left _ hx)),
     ih vs ds q hr.2 h2 (fun x hx => hlt x (List.mem_append_right _ hx)), rfl⟩

theorem law_close {H : Type} {enc : TypeId × Value → H} {P : Program} {f : Func} {s : ChangeSpec} {W W' : World} {args : Array Value} {ds gs : List (DataW H)} {before : List MemPlace} {tb : TypeId}
  (hl : laidOutB P = true) (hrd : (f.params.toList.all fun t => P.readableRec t && decide (t < P.types.size)) = true) (hvars : s.vars = []) (hr : f.resultTypes = #[tb]) (hbool : P.underlying tb = some .bool)
  (hres : (s.fn H (ds ++ gs)).results = [.lit (.bool true)]) (hargs : (s.fn H (ds ++ gs)).args = ds) (hvs : (s.fn H (ds ++ gs)).vars = [])
  (hW : DataW.Whole enc P f.params.toList s.vars false W args.toList ds gs before) (hb : Below W.heap.size W W') :
  s.post enc P f false true false false W args (.bool true) W' := by
 have hlt := hW.lt
 have hW' := hW
 obtain ⟨p, q, hA, hV, rfl, hz, hn⟩ := hW
 rw [hvars] at hV
 obtain ⟨rfl, rfl⟩ := trodVars_none hV
 refine ⟨ds, [], p ++ [], [], p, [], hW', ?_, ?_, ?_, hb.frame _, fun h => by cases h⟩
 ·rw [hres, hr]
  exact ⟨[], [], shut_bool hbool true, rfl, rfl⟩
 ·rw [hargs]
  exact trodAll_below hl hb _ _ _ _ hrd hA (fun x hx => by simpa using hlt x (List.mem_append_left _ hx))
 ·rw [hvs, hvars]; rfl
end Go.Proofs.YteadcgmaailjlaaGreatDoor
