/-
 The fixed example of WholeExpand gives true.
 Conditions: each theorem's own.
-/
import Derived.Test.YteadcgmaailjlaaGreatDoorMEa1
namespace Go.Proofs.YteadcgmaailjlaaGreatDoor
open Go.RowKit Go.ChangeShapes Go.WideShapes

theorem vote_err : qcr voteF = 0 := by kernel_rfl
theorem vote_small : (∀ (j : Nat) (x : Nd) (out : List Nd), voteF.nodes[j]? = some x → JV (voteF.nodes.take j) out → (fun _ out x => x.args.length ≤ 3 ∧ out.length ≤ 64 : List Nd → List Nd → Nd → Prop) (voteF.nodes.take j) out x ∧ out.length < 128)
 | 0, x, out, h, hj => by
  have h0 : out = [] := hj.1 rfl
  cases h; subst h0
  exact ⟨⟨by decide, by decide⟩, by decide⟩
 | j + 1, x, out, h, hj => by simp [voteF] at h
theorem vote_small2 (k : Fm) (h : JV voteF.nodes k.nodes) (j : Nat) (x : Nd) (out : List Nd) (hx : k.nodes[j]? = some x) (hj : JX (k.nodes.take j) out) : (fun _ _ x => x.kind ≠ 5 : List Nd → List Nd → Nd → Prop) (k.nodes.take j) out x ∧ out.length < 128 := by
 obtain ⟨h1, h2⟩ := h.2 ⟨4, 2, [0, 1, 2]⟩ rfl rfl rfl rfl
 refine ⟨h2 x (List.mem_of_getElem? hx), ?_⟩
 rw [hj (fun y hy => h2 y (List.mem_of_mem_take hy)), List.length_take]
 omega
def RetPv (w : World) (e : Ending) (w' : World) : Prop := ∃ (za zt : Int) (oa : Option Addr) (ca : Nat), e = .returned (.tuple #[.agg #[.int .i64 za, .slice oa 4 ca, .int .i64 zt], .nilIface]) ∧ Below w.heap.size w w'
theorem plain_vote (vf : Value) (w : World) (hf : FmV w vf voteF) : Calls Tryz.prog 6 #[vf] w (RetPv w) := by
 refine (explain_anyL vf voteF w hf vote_err).mono ?_
 rintro e w' ⟨vg, g, ec, rfl, hb, hg, hc⟩
 rcases hc with ⟨_, hns⟩ | ⟨rfl, _, k, hv, hx⟩
 ·exact absurd ⟨vote_small, fun k hk => vote_small2 k hk⟩ hns
 ·obtain ⟨h1, h2⟩ := hv.2 ⟨4, 2, [0, 1, 2]⟩ rfl rfl rfl rfl
  have hl : g.nodes.length = 4 := by rw [hx h2, h1]
  obtain ⟨og, ng, cg, Xg, rfl, hn, _, _⟩ := hg
  obtain ⟨ao, c, e1, _, _, _⟩ := hn.shape
  cases e1
  rw [qce, hl]
  exact ⟨_, _, _, _, rfl, hb⟩
set_option maxRecDepth 100000 in
set_option maxHeartbeats 16000000 in
theorem awake27_any  (w : World)  :
  Calls Tryz.prog 4 #[] w (qcc w (.bool true)) := by
 have HB := qHd (Below.refl w.heap.size w)
 go_enter Tryz.func4, Tryz.ntmps4
 go_wp2_with (with_reducible refine qac ?_)
 refine qad.mk ?_
 have HK := qHd (pmodel_m w)
 (with_reducible refine HK.out.mono ?_); rintro e w1 ⟨ge, ce, gg, cg, gi, ci, rfl, hb, hm⟩; clear HK
 replace HB := qHd (HB.out.trans (hb.mono HB.out.size))
 have HM := qHd hm; clear hm hb
 go_wp2_with (with_reducible refine qaf 44 ?_)
 obtain ⟨w3, hw_4, hb_4, g2, hg_4, Gg2, LO_g2⟩ := qcd HB.out.size (.cells #[.string ⟨#[]⟩, .string ⟨#[]⟩, .slice none 0 0, .slice none 0 0, .slice none 0 0, .slice none 0 0, .slice none 0 0, .slice none 0 0] 44)
 rw [← hw_4, ← hg_4]
 have NE_ge_g2 := qHd (show ge ≠ g2 by have hq := HM.out.lt.1; rw [hg_4]; omega)
 have NE_gg_g2 := qHd (show gg ≠ g2 by have hq := HM.out.lt.2.1; rw [hg_4]; omega)
 have NE_gi_g2 := qHd (show gi ≠ g2 by have hq := HM.out.lt.2.2; rw [hg_4]; omega)
 replace HM := qHd (HM.out.below hb_4)
 replace HB := qHd (HB.out.trans (hb_4.mono HB.out.size))
 clear hw_4 hg_4 hb_4
 refine qau g2 [.string ⟨#[109]⟩, .string ⟨#[103]⟩, .slice (some ⟨ge, 0, none⟩) 2 ce, .slice none 0 0, .slice (some ⟨gg, 0, none⟩) 1 cg, .slice none 0 0, .slice none 0 0, .slice none 0 0] Gg2.out rfl rfl rfl (by kernel_rfl) rfl ?_
 intro w5 hx_ hgn
 replace HM := (qHd (HM.out.exc hx_ (fun hm => NE_ge_g2.out (List.mem_singleton.1 hm)) (fun hm => NE_gg_g2.out (List.mem_singleton.1 hm)) (fun hm => NE_gi_g2.out (List.mem_singleton.1 hm))))
 replace HB := qHd (hx_.low HB.out HB.out.size (fun g hg => by rw [List.mem_singleton.1 hg]; exact LO_g2.out))
 replace Gg2 := qHd hgn
 clear hx_ hgn
 obtain ⟨x6, x7, x8, x9, x10, x11, x12, x13⟩ := qcq Gg2.out
 go_wp2_with (with_reducible refine qac ?_)
 clear x6 x7 x8 x9 x10 x11 x12 x13
 refine qad.mk ?_
 have HK := qHd (cstatic_m w5 HM.out)
 (with_reducible refine HK.out.mono ?_); rintro e w14 ⟨gN, cN, rfl, hb⟩; clear HK
 replace HM := qHd (HM.out.below hb)
 replace Gg2 := qHd (qaa Gg2.out hb)
 replace HB := qHd (HB.out.trans (hb.mono HB.out.size))
 clear hb
 go_wp2_with (with_reducible refine qaf 24 ?_)
 obtain ⟨w16, hw_17, hb_17, g15, hg_17, Gg15, LO_g15⟩ := qcd HB.out.size (.cells #[.int .i64 0, .slice none 0 0, .int .i64 0] 24)
 rw [← hw_17, ← hg_17]
 have NE_ge_g15 := qHd (show ge ≠ g15 by have hq := HM.out.lt.1; rw [hg_17]; omega)
 have NE_gg_g15 := qHd (show gg ≠ g15 by have hq := HM.out.lt.2.1; rw [hg_17]; omega)
 have NE_gi_g15 := qHd (show gi ≠ g15 by have hq := HM.out.lt.2.2; rw [hg_17]; omega)
 replace HM := qHd (HM.out.below hb_17)
 replace Gg2 := qHd (qaa Gg2.out hb_17)
 replace HB := qHd (HB.out.trans (hb_17.mono HB.out.size))
 clear hw_17 hg_17 hb_17
 refine qau g15 [.int .i64 2, .slice (some ⟨gN, 0, none⟩) 1 cN, .int .i64 2] Gg15.out rfl rfl rfl (by kernel_rfl) rfl ?_
 intro w18 hx_ hgn
 have q_ := (And.intro (qHd (HM.out.exc hx_ (fun hm => NE_ge_g15.out (List.mem_singleton.1 hm)) (fun hm => NE_gg_g15.out (List.mem_singleton.1 hm)) (fun hm => NE_gi_g15.out (List.mem_singleton.1 hm)))) (qHd (hx_.heap Gg2.out (fun hm => qaw Gg2.out Gg15.out (by simp) (List.mem_singleton.1 hm))))); clear HM Gg2; obtain ⟨HM, Gg2⟩ := q_
 replace HB := qHd (hx_.low HB.out HB.out.size (fun g hg => by rw [List.mem_singleton.1 hg]; exact LO_g15.out))
 replace Gg15 := qHd hgn
 clear hx_ hgn
 obtain ⟨x19, x20, x21, x22, x23, x24, x25, x26⟩ := qcq Gg2.out
 go_wp2_with (with_reducible refine qac ?_)
 clear x19 x20 x21 x22 x23 x24 x25 x26
 refine qad.mk ?_
 have HK := qHd (ptext_m w18 HM.out)
 (with_reducible refine HK.out.mono ?_); rintro e w27 ⟨rfl, hb⟩; clear HK
 replace HM := qHd (HM.out.below hb)
 replace Gg2 := qHd (qaa Gg2.out hb)
 replace Gg15 := qHd (qaa Gg15.out hb)
 replace HB := qHd (HB.out.trans (hb.mono HB.out.size))
 clear hb
 go_wp2_with (with_reducible refine qac ?_)
 refine qad.mk ?_
 have HK := qHd (vote_any w27)
 (with_reducible refine HK.out.mono ?_); rintro e w28 ⟨vf, rfl, hb, hv⟩; clear HK
 replace HM := qHd (HM.out.below hb)
 replace Gg2 := qHd (qaa Gg2.out hb)
 replace Gg15 := qHd (qaa Gg15.out hb)
 replace HB := qHd (HB.out.trans (hb.mono HB.out.size))
 have HVf := qHd hv; clear hv hb
 go_wp2_with (with_reducible refine qac ?_)
 refine qad.mk ?_
 have HK := qHd (plain_vote vf w28 HVf.out)
 (with_reducible refine HK.out.mono ?_); rintro e w29 ⟨za, zt, oa, ca, rfl, hb⟩; clear HK
 clear HVf
 replace HM := qHd (HM.out.below hb)
 replace Gg2 := qHd (qaa Gg2.out hb)
 replace Gg15 := qHd (qaa Gg15.out hb)
 replace HB := qHd (HB.out.trans (hb.mono HB.out.size))
 clear hb
 go_wp2_with (with_reducible refine qaf 24 ?_)
 obtain ⟨w31, hw_32, hb_32, g30, hg_32, Gg30, LO_g30⟩ := qcd HB.out.size (.cells #[.int .i64 0, .slice none 0 0, .int .i64 0] 24)
 rw [← hw_32, ← hg_32]
 have NE_g15_g30 := qHd (show g15 ≠ g30 by have hq := qao Gg15.out; rw [hg_32]; omega)
 have NE_ge_g30 := qHd (show ge ≠ g30 by have hq := HM.out.lt.1; rw [hg_32]; omega)
 have NE_gg_g30 := qHd (show gg ≠ g30 by have hq := HM.out.lt.2.1; rw [hg_32]; omega)
 have NE_gi_g30 := qHd (show gi ≠ g30 by have hq := HM.out.lt.2.2; rw [hg_32]; omega)
 replace HM := qHd (HM.out.below hb_32)
 replace Gg2 := qHd (qaa Gg2.out hb_32)
 replace Gg15 := qHd (qaa Gg15.out hb_32)
 replace HB := qHd (HB.out.trans (hb_32.mono HB.out.size))
 clear hw_32 hg_32 hb_32
 refine qau g30 [.int .i64 za, .slice oa 4 ca, .int .i64 zt] Gg30.out rfl rfl rfl (by kernel_rfl) rfl ?_
 intro w33 hx_ hgn
 have q_ := (And.intro (qHd (HM.out.exc hx_ (fun hm => NE_ge_g30.out (List.mem_singleton.1 hm)) (fun hm => NE_gg_g30.out (List.mem_singleton.1 hm)) (fun hm => NE_gi_g30.out (List.mem_singleton.1 hm)))) (And.intro (qHd (hx_.heap Gg2.out (fun hm => qaw Gg2.out Gg30.out (by simp) (List.mem_singleton.1 hm)))) (qHd (hx_.heap Gg15.out (fun hm => NE_g15_g30.out (List.mem_singleton.1 hm)))))); clear HM Gg2 Gg15; obtain ⟨HM, Gg2, Gg15⟩ := q_
 replace HB := qHd (hx_.low HB.out HB.out.size (fun g hg => by rw [List.mem_singleton.1 hg]; exact LO_g30.out))
 replace Gg30 := qHd hgn
 clear hx_ hgn
 have x34 : w33.cell? ⟨g15, 0, none⟩ = some (.int .i64 2) := cell_of_row _ _ _ _ _ _ (Gg15.out)
 have x35 : w33.cell? ⟨g15, 2, none⟩ = some (.int .i64 2) := cell_of_row _ _ _ _ _ _ (Gg15.out)
 have x36 : w33.cell? ⟨g30, 1, none⟩ = some (.slice oa 4 ca) := cell_of_row _ _ _ _ _ _ (Gg30.out)
 go_wp2_with fail
 clear x34 x35 x36
 go_ret
 exact ⟨rfl, HB.out⟩
end Go.Proofs.YteadcgmaailjlaaGreatDoor
