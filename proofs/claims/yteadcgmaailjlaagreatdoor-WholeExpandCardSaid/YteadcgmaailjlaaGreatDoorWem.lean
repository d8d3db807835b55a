/-
 The law WholeExpand: what all ways to rewrite a formula give.
 Conditions: each theorem's own.
-/
import Derived.Test.YteadcgmaailjlaaGreatDoorMEa1
import Derived.Great.Walk
namespace Go.Proofs.YteadcgmaailjlaaGreatDoor
open Go.RowKit Go.ChangeShapes Go.WideShapes

section
variable {P : Program} {w : World} {ops : Array Oper} {rest : List Oper} {a : Act} {Q : Exit → Act → World → Prop}
theorem wpList_pauseBS {d : Option Tmp} {t tt : TypeId} {len : Nat} {parts : Array (Nat × Operand)} {pos : String} {af : Array Edge}
  (h : qad (wpList P ops Q (⟨d, .buildSlice t len parts, tt, pos, af, none⟩ :: rest) a w)) : wpList P ops Q (⟨d, .buildSlice t len parts, tt, pos, af, none⟩ :: rest) a w := h
theorem wpList_bsFlat {d : Option Tmp} {t e tt : TypeId} {len : Nat} {parts : Array (Nat × Operand)} {pos : String} {af : Array Edge} (vals : List Value)
  (hu : P.underlying t = some (.slice e)) (hsz : (P.info? e).map (·.size) = some 1) (hz : ((P.info? e).bind (·.zero)).isSome = true)
  (hlen : len = vals.length) (hpos : 0 < len) (hsmall : len ≤ 2 ^ 24) (hparts : (parts.map fun (i, x) => (i, a.eval x)).toList = (vals.zipIdx 0).map fun x => (x.2, x.1)) (hv : ∀ v ∈ vals, v.cells = #[v])
  (h : wpList P ops Q rest (a.put d (.slice (some ⟨w.heap.size, 0, none⟩) len len)) (w.alloc (.cells vals.toArray e))) :
  wpList P ops Q (⟨d, .buildSlice t len parts, tt, pos, af, none⟩ :: rest) a w := by
 cases hie : P.info? e with
 | none => simp [hie] at hsz
 | some ie =>
  simp only [hie, Option.map_some, Option.some.injEq, Option.bind_some] at hsz hz
  obtain ⟨z, hzz⟩ := Option.isSome_iff_exists.1 hz
  refine wpList_buildSlice rfl t e len parts rfl _ ie z hu hie hzz (by rw [hsz]; omega) (by rw [hsz]; omega) ?_ h
  rw [hparts, hsz]
  exact Great.fill_flat _ _ hv (by simp [hlen])
end
theorem errV_cells (c : Nat) : (qdi c).cells = #[qdi c] := by
 unfold qdi
 split <;> rfl
theorem errV_4 : qdi 4 = .iface 34 (.int .i64 4) := rfl
set_option maxRecDepth 100000 in
set_option maxHeartbeats 16000000 in
theorem we_law (HA : ∀ w : World, Calls Tryz.prog 4 #[] w (qcc w (.bool true))) (vf : Value) (f : Fm) (w : World) (hf : FmV w vf f) : Calls Tryz.prog 3 #[vf] w (qcc w (.bool true)) := by
 obtain ⟨nv, rfl, hn, hv, ht⟩ := hf
 obtain ⟨ao, c, rfl, hc, hc2, _⟩ := hn.shape
 have hF := (show FmV w _ f from ⟨_, rfl, hn, hv, ht⟩)
 obtain ⟨vz, ns, top⟩ := f
 simp only at hn ht hv hc hF ⊢
 have HF := qHd hF; have HN := qHd hn; have HV64 := qHd hv
 clear hF hn ht hv
 obtain ⟨W, hwB⟩ : ∃ z0, z0 = w.alloc (.cells #[.int .i64 vz, .slice ao ns.length c, .int .i64 top] 24) := ⟨_, rfl⟩
 have hbB : Below w.heap.size w W := by rw [hwB]; exact qBA _ _
 obtain ⟨g1, hgB⟩ : ∃ g, g = w.heap.size := ⟨_, rfl⟩
 have hxB : W.heap[g1]? = some (.cells #[.int .i64 vz, .slice ao ns.length c, .int .i64 top] 24) := by rw [hwB, hgB]; exact heap_alloc_new _ _
 have hsB : W.heap.size = w.heap.size + 1 := by rw [hwB]; simp
 have HBW := qHd hbB; have G1 := qHd hxB
 obtain ⟨x0, x1, x2⟩ := qaq hxB
 rw [hwB, hgB] at x0 x1 x2
 clear hbB hxB hsB
 have AW := qHd HA; clear HA
 have HK := qHd (AW.out W)
 go_enter Tryz.func3, Tryz.ntmps3
 go_wp2_with (with_reducible refine qac ?_)
 rw [← hwB, ← hgB]
 clear hwB hgB x0 x1 x2
 refine qad.mk ?_
 (with_reducible refine HK.out.mono ?_); rintro e wa ⟨rfl, hb1⟩
 have HBa := qHd (HBW.out.trans (hb1.mono HBW.out.size)); have Ga := qHd (qaa G1.out hb1)
 clear hb1 HK HBW G1
 have HK := qHd (ready_any _ ⟨vz, ns, top⟩ wa (HF.out.below HBa.out))
 obtain ⟨x0, x1, x2⟩ := qaq Ga.out
 go_wp2_with (with_reducible refine qac ?_)
 clear x0 x1 x2
 refine qad.mk ?_
 (with_reducible refine HK.out.mono ?_); rintro e W0 ⟨b, rfl, hb1, hr1⟩
 have HB0 := qHd (HBa.out.trans (hb1.mono HBa.out.size)); have G0 := qHd (qaa Ga.out hb1); have RD := qHd hr1
 clear hb1 hr1 HK HBa Ga
 cases b
 ·have HK := qHd (AW.out W0)
  go_wp2_with (with_reducible refine qac ?_)
  refine qad.mk ?_
  (with_reducible refine HK.out.mono ?_); rintro e w2 ⟨rfl, hb2⟩
  have HB2 := qHd (HB0.out.trans (hb2.mono HB0.out.size))
  clear hb2 HK
  go_wp2_with fail
  go_ret
  exact ⟨rfl, HB2.out⟩
 ·have h8 : vz ≤ 8 := (RD.out rfl).1
  have h16 : ns.length ≤ 16 := (RD.out rfl).2.1
  have E0 := qHd (RD.out rfl).2.2
  clear RD
  obtain ⟨x0, x1, x2⟩ := qaq G0.out
  have HK := qHd (explain_anyM _ ⟨vz, ns, top⟩ W0 (HF.out.below HB0.out) E0.out)
  go_wp2_with (with_reducible refine qac ?_)
  clear x0 x1 x2
  refine qad.mk ?_
  (with_reducible refine HK.out.mono ?_); rintro e w1 ⟨vg, y1, e1, rfl, hb, hg, hc⟩
  obtain ⟨o1, n1, c1, X1, rfl, hn8, hv8, ht8⟩ := hg
  have HB := qHd (HB0.out.trans (hb.mono HB0.out.size))
  have G := qHd (qaa G0.out hb)
  have F1 := qHd (show FmV w1 (.agg #[.int .i64 y1.vars, .slice o1 n1 c1, .int .i64 y1.top]) y1 from FmL.fmV ⟨o1, n1, c1, X1, rfl, hn8, hv8, ht8⟩)
  have R1 := qHd (show e1 = 4 ∨ (e1 = 0 ∧ FEq ⟨vz, ns, top⟩ y1) from hc.imp id (fun h => ⟨h.1, h.2.1⟩))
  clear hn8 hv8 ht8 hc HK
  obtain ⟨W1, hwS1⟩ : ∃ z0, z0 = w1.alloc (.cells #[.int .i64 y1.vars, .slice o1 n1 c1, .int .i64 y1.top] 24) := ⟨_, rfl⟩
  have hbS1 : Below w1.heap.size w1 W1 := by rw [hwS1]; exact qBA _ _
  obtain ⟨b1, hgS1⟩ : ∃ g, g = w1.heap.size := ⟨_, rfl⟩
  have hxS1 : W1.heap[b1]? = some (.cells #[.int .i64 y1.vars, .slice o1 n1 c1, .int .i64 y1.top] 24) := by rw [hwS1, hgS1]; exact heap_alloc_new _ _
  have hsS1 : W1.heap.size = w1.heap.size + 1 := by rw [hwS1]; simp
  have HB1 := qHd (HB.out.trans (hbS1.mono HB.out.size)); have G1 := qHd (qaa G.out hbS1); have A1 := qHd hxS1; have F1 := qHd (F1.out.below hbS1)
  clear hbS1 hxS1 hsS1 hb HB G
  go_wp2_with (with_reducible refine qbu 24 ?_)
  rw [← hwS1, ← hgS1]
  clear hwS1 hgS1
  refine qad.mk ?_
  obtain ⟨x0, x1, x2⟩ := qaq G1.out
  have HK := qHd (binary_anyM _ ⟨vz, ns, top⟩ W1 (HF.out.below HB1.out) E0.out)
  go_wp2_with (with_reducible refine qac ?_)
  clear x0 x1 x2
  refine qad.mk ?_
  (with_reducible refine HK.out.mono ?_); rintro e w2 ⟨vg, y2, e2, rfl, hb, hg, hc⟩
  obtain ⟨o2, n2, c2, X2, rfl, hn8, hv8, ht8⟩ := hg
  have HB := qHd (HB1.out.trans (hb.mono HB1.out.size))
  have G := qHd (qaa G1.out hb)
  have F2 := qHd (show FmV w2 (.agg #[.int .i64 y2.vars, .slice o2 n2 c2, .int .i64 y2.top]) y2 from FmL.fmV ⟨o2, n2, c2, X2, rfl, hn8, hv8, ht8⟩)
  have R2 := qHd (show e2 = 4 ∨ (e2 = 0 ∧ FEq ⟨vz, ns, top⟩ y2) from hc.imp id (fun h => ⟨h.1, h.2.1⟩))
  clear hn8 hv8 ht8 hc HK
  obtain ⟨W2, hwS2⟩ : ∃ z0, z0 = w2.alloc (.cells #[.int .i64 y2.vars, .slice o2 n2 c2, .int .i64 y2.top] 24) := ⟨_, rfl⟩
  have hbS2 : Below w2.heap.size w2 W2 := by rw [hwS2]; exact qBA _ _
  obtain ⟨b2, hgS2⟩ : ∃ g, g = w2.heap.size := ⟨_, rfl⟩
  have hxS2 : W2.heap[b2]? = some (.cells #[.int .i64 y2.vars, .slice o2 n2 c2, .int .i64 y2.top] 24) := by rw [hwS2, hgS2]; exact heap_alloc_new _ _
  have hsS2 : W2.heap.size = w2.heap.size + 1 := by rw [hwS2]; simp
  have HB2 := qHd (HB.out.trans (hbS2.mono HB.out.size)); have G2 := qHd (qaa G.out hbS2); have A2 := qHd hxS2; have F2 := qHd (F2.out.below hbS2)
  have A1 := qHd (qaa (qaa A1.out hb) hbS2); have F1 := qHd ((F1.out.below hb).below hbS2)
  clear hbS2 hxS2 hsS2 hb HB G
  go_wp2_with (with_reducible refine qbu 24 ?_)
  rw [← hwS2, ← hgS2]
  clear hwS2 hgS2
  refine qad.mk ?_
  obtain ⟨x0, x1, x2⟩ := qaq G2.out
  have HK := qHd (unshare_any _ ⟨vz, ns, top⟩ W2 (HF.out.below HB2.out) E0.out)
  go_wp2_with (with_reducible refine qac ?_)
  clear x0 x1 x2
  refine qad.mk ?_
  (with_reducible refine HK.out.mono ?_); rintro e w3 ⟨vg, y3, e3, rfl, hb, hg, hc⟩
  obtain ⟨o3, n3, c3, X3, rfl, hn8, hv8, ht8⟩ := hg
  have HB := qHd (HB2.out.trans (hb.mono HB2.out.size))
  have G := qHd (qaa G2.out hb)
  have F3 := qHd (show FmV w3 (.agg #[.int .i64 y3.vars, .slice o3 n3 c3, .int .i64 y3.top]) y3 from FmL.fmV ⟨o3, n3, c3, X3, rfl, hn8, hv8, ht8⟩)
  have R3 := qHd (show e3 = 4 ∨ (e3 = 0 ∧ FEq ⟨vz, ns, top⟩ y3) from hc.imp id (fun h => ⟨h.1, h.2.1⟩))
  clear hn8 hv8 ht8 hc HK
  obtain ⟨W3, hwS3⟩ : ∃ z0, z0 = w3.alloc (.cells #[.int .i64 y3.vars, .slice o3 n3 c3, .int .i64 y3.top] 24) := ⟨_, rfl⟩
  have hbS3 : Below w3.heap.size w3 W3 := by rw [hwS3]; exact qBA _ _
  obtain ⟨b3, hgS3⟩ : ∃ g, g = w3.heap.size := ⟨_, rfl⟩
  have hxS3 : W3.heap[b3]? = some (.cells #[.int .i64 y3.vars, .slice o3 n3 c3, .int .i64 y3.top] 24) := by rw [hwS3, hgS3]; exact heap_alloc_new _ _
  have hsS3 : W3.heap.size = w3.heap.size + 1 := by rw [hwS3]; simp
  have HB3 := qHd (HB.out.trans (hbS3.mono HB.out.size)); have G3 := qHd (qaa G.out hbS3); have A3 := qHd hxS3; have F3 := qHd (F3.out.below hbS3)
  have A1 := qHd (qaa (qaa A1.out hb) hbS3); have F1 := qHd ((F1.out.below hb).below hbS3)
  have A2 := qHd (qaa (qaa A2.out hb) hbS3); have F2 := qHd ((F2.out.below hb).below hbS3)
  clear hbS3 hxS3 hsS3 hb HB G
  go_wp2_with (with_reducible refine qbu 24 ?_)
  rw [← hwS3, ← hgS3]
  clear hwS3 hgS3
  refine qad.mk ?_
  obtain ⟨x0, x1, x2⟩ := qaq G3.out
  have HK := qHd (push_any _ ⟨vz, ns, top⟩ W3 (HF.out.below HB3.out) E0.out (by simp only; omega))
  go_wp2_with (with_reducible refine qac ?_)
  clear x0 x1 x2
  refine qad.mk ?_
  (with_reducible refine HK.out.mono ?_); rintro e w4 ⟨vg, y4, e4, rfl, hb, hg, hc⟩
  obtain ⟨o4, n4, c4, X4, rfl, hn8, hv8, ht8⟩ := hg
  have HB := qHd (HB3.out.trans (hb.mono HB3.out.size))
  have G := qHd (qaa G3.out hb)
  have F4 := qHd (show FmV w4 (.agg #[.int .i64 y4.vars, .slice o4 n4 c4, .int .i64 y4.top]) y4 from FmL.fmV ⟨o4, n4, c4, X4, rfl, hn8, hv8, ht8⟩)
  have R4 := qHd (show e4 = 4 ∨ (e4 = 0 ∧ FEq ⟨vz, ns, top⟩ y4) from hc.imp id (fun h => ⟨h.1, h.2.1⟩))
  clear hn8 hv8 ht8 hc HK
  obtain ⟨W4, hwS4⟩ : ∃ z0, z0 = w4.alloc (.cells #[.int .i64 y4.vars, .slice o4 n4 c4, .int .i64 y4.top] 24) := ⟨_, rfl⟩
  have hbS4 : Below w4.heap.size w4 W4 := by rw [hwS4]; exact qBA _ _
  obtain ⟨b4, hgS4⟩ : ∃ g, g = w4.heap.size := ⟨_, rfl⟩
  have hxS4 : W4.heap[b4]? = some (.cells #[.int .i64 y4.vars, .slice o4 n4 c4, .int .i64 y4.top] 24) := by rw [hwS4, hgS4]; exact heap_alloc_new _ _
  have hsS4 : W4.heap.size = w4.heap.size + 1 := by rw [hwS4]; simp
  have HB4 := qHd (HB.out.trans (hbS4.mono HB.out.size)); have G4 := qHd (qaa G.out hbS4); have A4 := qHd hxS4; have F4 := qHd (F4.out.below hbS4)
  have A1 := qHd (qaa (qaa A1.out hb) hbS4); have F1 := qHd ((F1.out.below hb).below hbS4)
  have A2 := qHd (qaa (qaa A2.out hb) hbS4); have F2 := qHd ((F2.out.below hb).below hbS4)
  have A3 := qHd (qaa (qaa A3.out hb) hbS4); have F3 := qHd ((F3.out.below hb).below hbS4)
  clear hbS4 hxS4 hsS4 hb HB G
  go_wp2_with (with_reducible refine qbu 24 ?_)
  rw [← hwS4, ← hgS4]
  clear hwS4 hgS4
  refine qad.mk ?_
  obtain ⟨x0, x1, x2⟩ := qaq G4.out
  have HK := qHd (fold_any _ ⟨vz, ns, top⟩ W4 (HF.out.below HB4.out) E0.out)
  go_wp2_with (with_reducible refine qac ?_)
  clear x0 x1 x2
  refine qad.mk ?_
  (with_reducible refine HK.out.mono ?_); rintro e w5 ⟨vg, y5, e5, rfl, hb, hg, hc⟩
  obtain ⟨o5, n5, c5, X5, rfl, hn8, hv8, ht8⟩ := hg
  have HB := qHd (HB4.out.trans (hb.mono HB4.out.size))
  have G := qHd (qaa G4.out hb)
  have F5 := qHd (show FmV w5 (.agg #[.int .i64 y5.vars, .slice o5 n5 c5, .int .i64 y5.top]) y5 from FmL.fmV ⟨o5, n5, c5, X5, rfl, hn8, hv8, ht8⟩)
  have R5 := qHd (show e5 = 4 ∨ (e5 = 0 ∧ FEq ⟨vz, ns, top⟩ y5) from hc.imp id (fun h => ⟨h.1, h.2.1⟩))
  clear hn8 hv8 ht8 hc HK
  obtain ⟨W5, hwS5⟩ : ∃ z0, z0 = w5.alloc (.cells #[.int .i64 y5.vars, .slice o5 n5 c5, .int .i64 y5.top] 24) := ⟨_, rfl⟩
  have hbS5 : Below w5.heap.size w5 W5 := by rw [hwS5]; exact qBA _ _
  obtain ⟨b5, hgS5⟩ : ∃ g, g = w5.heap.size := ⟨_, rfl⟩
  have hxS5 : W5.heap[b5]? = some (.cells #[.int .i64 y5.vars, .slice o5 n5 c5, .int .i64 y5.top] 24) := by rw [hwS5, hgS5]; exact heap_alloc_new _ _
  have hsS5 : W5.heap.size = w5.heap.size + 1 := by rw [hwS5]; simp
  have HB5 := qHd (HB.out.trans (hbS5.mono HB.out.size)); have G5 := qHd (qaa G.out hbS5); have A5 := qHd hxS5; have F5 := qHd (F5.out.below hbS5)
  have A1 := qHd (qaa (qaa A1.out hb) hbS5); have F1 := qHd ((F1.out.below hb).below hbS5)
  have A2 := qHd (qaa (qaa A2.out hb) hbS5); have F2 := qHd ((F2.out.below hb).below hbS5)
  have A3 := qHd (qaa (qaa A3.out hb) hbS5); have F3 := qHd ((F3.out.below hb).below hbS5)
  have A4 := qHd (qaa (qaa A4.out hb) hbS5); have F4 := qHd ((F4.out.below hb).below hbS5)
  clear hbS5 hxS5 hsS5 hb HB G
  go_wp2_with (with_reducible refine qbu 24 ?_)
  rw [← hwS5, ← hgS5]
  clear hwS5 hgS5
  refine qad.mk ?_
  obtain ⟨x0, x1, x2⟩ := qaq G5.out
  have HK := qHd (dual_any _ ⟨vz, ns, top⟩ W5 (HF.out.below HB5.out) E0.out)
  go_wp2_with (with_reducible refine qac ?_)
  clear x0 x1 x2
  refine qad.mk ?_
  (with_reducible refine HK.out.mono ?_); rintro e w6 ⟨vg, y6, e6, rfl, hb, hg, hc⟩
  obtain ⟨o6, n6, c6, X6, rfl, hn8, hv8, ht8⟩ := hg
  have HB := qHd (HB5.out.trans (hb.mono HB5.out.size))
  have G := qHd (qaa G5.out hb)
  have F6 := qHd (show FmV w6 (.agg #[.int .i64 y6.vars, .slice o6 n6 c6, .int .i64 y6.top]) y6 from FmL.fmV ⟨o6, n6, c6, X6, rfl, hn8, hv8, ht8⟩)
  have R6 := qHd (show e6 = 4 ∨ (e6 = 0 ∧ DualOf ⟨vz, ns, top⟩ y6) from hc)
  clear hn8 hv8 ht8 hc HK
  obtain ⟨W6, hwS6⟩ : ∃ z0, z0 = w6.alloc (.cells #[.int .i64 y6.vars, .slice o6 n6 c6, .int .i64 y6.top] 24) := ⟨_, rfl⟩
  have hbS6 : Below w6.heap.size w6 W6 := by rw [hwS6]; exact qBA _ _
  obtain ⟨b6, hgS6⟩ : ∃ g, g = w6.heap.size := ⟨_, rfl⟩
  have hxS6 : W6.heap[b6]? = some (.cells #[.int .i64 y6.vars, .slice o6 n6 c6, .int .i64 y6.top] 24) := by rw [hwS6, hgS6]; exact heap_alloc_new _ _
  have hsS6 : W6.heap.size = w6.heap.size + 1 := by rw [hwS6]; simp
  have HB6 := qHd (HB.out.trans (hbS6.mono HB.out.size)); have G6 := qHd (qaa G.out hbS6); have A6 := qHd hxS6; have F6 := qHd (F6.out.below hbS6)
  have A1w := qHd (qaa A1.out hb); have F1w := qHd (F1.out.below hb)
  have A2w := qHd (qaa A2.out hb); have F2w := qHd (F2.out.below hb)
  have A3w := qHd (qaa A3.out hb); have F3w := qHd (F3.out.below hb)
  have A4w := qHd (qaa A4.out hb); have F4w := qHd (F4.out.below hb)
  have A5w := qHd (qaa A5.out hb); have F5w := qHd (F5.out.below hb)
  have Gw := G; have HBw := HB; have HS6b := qHd hbS6; have LB6 := qHd (show w6.heap.size ≤ b6 by rw [hgS6]; exact Nat.le_refl _)
  have A1 := qHd (qaa (qaa A1.out hb) hbS6); have F1 := qHd ((F1.out.below hb).below hbS6)
  have A2 := qHd (qaa (qaa A2.out hb) hbS6); have F2 := qHd ((F2.out.below hb).below hbS6)
  have A3 := qHd (qaa (qaa A3.out hb) hbS6); have F3 := qHd ((F3.out.below hb).below hbS6)
  have A4 := qHd (qaa (qaa A4.out hb) hbS6); have F4 := qHd ((F4.out.below hb).below hbS6)
  have A5 := qHd (qaa (qaa A5.out hb) hbS6); have F5 := qHd ((F5.out.below hb).below hbS6)
  clear hbS6 hxS6 hsS6 hb HB G
  rcases R6.out with h4 | ⟨h0, hd⟩
  ·subst h4
   rw [errV_4]
   go_wp2_with (with_reducible refine wpList_pauseBS ?_)
   rw [← hwS6, ← hgS6, ← errV_4]
   clear hwS6 hgS6
   refine qad.mk ?_
   obtain ⟨WE, hwE⟩ : ∃ z0, z0 = W6.alloc (.cells #[qdi e1, qdi e2, qdi e3, qdi e4, qdi e5, qdi 4] 28) := ⟨_, rfl⟩
   have hbE : Below W6.heap.size W6 WE := by rw [hwE]; exact qBA _ _
   obtain ⟨ge, hgE⟩ : ∃ g, g = W6.heap.size := ⟨_, rfl⟩
   have hxE : WE.heap[ge]? = some (.cells #[qdi e1, qdi e2, qdi e3, qdi e4, qdi e5, qdi 4] 28) := by rw [hwE, hgE]; exact heap_alloc_new _ _
   have hsE : WE.heap.size = W6.heap.size + 1 := by rw [hwE]; simp
   have HBE := qHd (HB6.out.trans (hbE.mono HB6.out.size)); have GE := qHd hxE; have G0E := qHd (qaa G6.out hbE)
   have A1E := qHd (qaa A1.out hbE); have F1E := qHd (F1.out.below hbE)
   have A2E := qHd (qaa A2.out hbE); have F2E := qHd (F2.out.below hbE)
   have A3E := qHd (qaa A3.out hbE); have F3E := qHd (F3.out.below hbE)
   have A4E := qHd (qaa A4.out hbE); have F4E := qHd (F4.out.below hbE)
   have A5E := qHd (qaa A5.out hbE); have F5E := qHd (F5.out.below hbE)
   have A6E := qHd (qaa A6.out hbE); have F6E := qHd (F6.out.below hbE)
   clear hbE hxE hsE
   refine wpList_bsFlat [qdi e1, qdi e2, qdi e3, qdi e4, qdi e5, qdi 4] Tryz.underlying31 (by kernel_rfl) (by kernel_rfl) rfl (by decide) (by decide) (by rw [Array.toList_map]; rfl) (fun v hv => by
    simp only [List.mem_cons, List.not_mem_nil, or_false] at hv
    rcases hv with rfl | rfl | rfl | rfl | rfl | rfl <;> exact errV_cells _) ?_
   rw [← hgE]
   show wpList _ _ _ _ _ (W6.alloc (.cells #[qdi e1, qdi e2, qdi e3, qdi e4, qdi e5, qdi 4] 28))
   rw [← hwE]
   clear hwE hgE
   obtain ⟨x10, x11, x12⟩ := qaq A1E.out
   obtain ⟨x20, x21, x22⟩ := qaq A2E.out
   obtain ⟨x30, x31, x32⟩ := qaq A3E.out
   obtain ⟨x40, x41, x42⟩ := qaq A4E.out
   obtain ⟨x50, x51, x52⟩ := qaq A5E.out
   obtain ⟨x60, x61, x62⟩ := qaq A6E.out
   go_wp2_with (with_reducible refine wpList_pauseBS ?_)
   refine qad.mk ?_
   clear x10 x11 x12 x20 x21 x22 x30 x31 x32 x40 x41 x42 x50 x51 x52 x60 x61 x62
   obtain ⟨WF, hwF⟩ : ∃ z0, z0 = WE.alloc (.cells #[.int .i64 y1.vars, .slice o1 n1 c1, .int .i64 y1.top, .int .i64 y2.vars, .slice o2 n2 c2, .int .i64 y2.top, .int .i64 y3.vars, .slice o3 n3 c3, .int .i64 y3.top, .int .i64 y4.vars, .slice o4 n4 c4, .int .i64 y4.top, .int .i64 y5.vars, .slice o5 n5 c5, .int .i64 y5.top, .int .i64 y6.vars, .slice o6 n6 c6, .int .i64 y6.top] 24) := ⟨_, rfl⟩
   have hbF : Below WE.heap.size WE WF := by rw [hwF]; exact qBA _ _
   obtain ⟨gf, hgF⟩ : ∃ g, g = WE.heap.size := ⟨_, rfl⟩
   have hxF : WF.heap[gf]? = some (.cells #[.int .i64 y1.vars, .slice o1 n1 c1, .int .i64 y1.top, .int .i64 y2.vars, .slice o2 n2 c2, .int .i64 y2.top, .int .i64 y3.vars, .slice o3 n3 c3, .int .i64 y3.top, .int .i64 y4.vars, .slice o4 n4 c4, .int .i64 y4.top, .int .i64 y5.vars, .slice o5 n5 c5, .int .i64 y5.top, .int .i64 y6.vars, .slice o6 n6 c6, .int .i64 y6.top] 24) := by rw [hwF, hgF]; exact heap_alloc_new _ _
   have hsF : WF.heap.size = WE.heap.size + 1 := by rw [hwF]; simp
   have HBF := qHd (HBE.out.trans (hbF.mono HBE.out.size)); have GF := qHd hxF; have GEF := qHd (qaa GE.out hbF); have G0F := qHd (qaa G0E.out hbF)
   have F1F := qHd (F1E.out.below hbF)
   have F2F := qHd (F2E.out.below hbF)
   have F3F := qHd (F3E.out.below hbF)
   have F4F := qHd (F4E.out.below hbF)
   have F5F := qHd (F5E.out.below hbF)
   have F6F := qHd (F6E.out.below hbF)
   clear hbF hxF hsF
   go_wp2_with (with_reducible first | refine qah ?_ | refine qae ?_)
   rw [← hwF, ← hgF]
   clear hwF hgF
   have SIX := qHd (show ∀ q, q < 6 → ∃ (y : Fm) (e : Nat) (o : Option Addr) (n c : Nat), WF.cell? ⟨gf, q * 3, none⟩ = some (.int .i64 y.vars) ∧ WF.cell? ⟨gf, q * 3 + 1, none⟩ = some (.slice o n c) ∧ WF.cell? ⟨gf, q * 3 + 2, none⟩ = some (.int .i64 y.top) ∧ WF.cell? ⟨ge, q, none⟩ = some (qdi e) ∧ FmV WF (.agg #[.int .i64 y.vars, .slice o n c, .int .i64 y.top]) y ∧ (e = 4 ∨ (e = 0 ∧ FEq ⟨vz, ns, top⟩ y)) from fun q hq => match q, hq with
    | 0, _ => ⟨y1, e1, o1, n1, c1, cell_of_row _ _ _ _ _ _ GF.out, cell_of_row _ _ _ _ _ _ GF.out, cell_of_row _ _ _ _ _ _ GF.out, cell_of_row _ _ _ _ _ _ GEF.out, F1F.out, R1.out⟩
    | 1, _ => ⟨y2, e2, o2, n2, c2, cell_of_row _ _ _ _ _ _ GF.out, cell_of_row _ _ _ _ _ _ GF.out, cell_of_row _ _ _ _ _ _ GF.out, cell_of_row _ _ _ _ _ _ GEF.out, F2F.out, R2.out⟩
    | 2, _ => ⟨y3, e3, o3, n3, c3, cell_of_row _ _ _ _ _ _ GF.out, cell_of_row _ _ _ _ _ _ GF.out, cell_of_row _ _ _ _ _ _ GF.out, cell_of_row _ _ _ _ _ _ GEF.out, F3F.out, R3.out⟩
    | 3, _ => ⟨y4, e4, o4, n4, c4, cell_of_row _ _ _ _ _ _ GF.out, cell_of_row _ _ _ _ _ _ GF.out, cell_of_row _ _ _ _ _ _ GF.out, cell_of_row _ _ _ _ _ _ GEF.out, F4F.out, R4.out⟩
    | 4, _ => ⟨y5, e5, o5, n5, c5, cell_of_row _ _ _ _ _ _ GF.out, cell_of_row _ _ _ _ _ _ GF.out, cell_of_row _ _ _ _ _ _ GF.out, cell_of_row _ _ _ _ _ _ GEF.out, F5F.out, R5.out⟩
    | 5, _ => ⟨y6, 4, o6, n6, c6, cell_of_row _ _ _ _ _ _ GF.out, cell_of_row _ _ _ _ _ _ GF.out, cell_of_row _ _ _ _ _ _ GF.out, cell_of_row _ _ _ _ _ _ GEF.out, F6F.out, Or.inl rfl⟩
    | q + 6, hq => absurd hq (by omega))
   clear A1E F1E F1F A1 F1 A2E F2E F2F A2 F2 A3E F3E F3F A3 F3 A4E F4E F4F A4 F4 A5E F5E F5F A5 F5 A6E F6E F6F A6 F6 GE G0E GF GEF
   refine qad.mk ?_
   go_loopw [81] (fun i' wx => ∃ q : Nat, q ≤ 6 ∧ i' = .int .i64 q ∧ Hid (Below WF.heap.size WF wx)) (fun i' _ => 6 - (intOf i').toNat)
   case atStart => exact ⟨0, by omega, rfl, qHd (Below.refl _ _)⟩
   case round =>
    obtain ⟨q, hq, rfl, HBX⟩ := hrel
    obtain ⟨wi, rfl⟩ : ∃ wi : World, wi = wr := ⟨_, rfl⟩
    by_cases hlt : q < 6
    ·obtain ⟨y, ec, oy, ny, cy, c0, c1, c2, ce, hFy, hR⟩ := SIX.out q hlt
     have hltz : (q : Int) < 6 := by omega
     have c0 := qap c0 HBX.out; have c1 := qap c1 HBX.out; have c2 := qap c2 HBX.out; have ce := qap ce HBX.out
     have FY := qHd (hFy.below HBX.out); have RY := qHd hR; clear hFy hR
     obtain ⟨W7, hw7⟩ : ∃ z0, z0 = wi.alloc (.cells #[.int .i64 y.vars, .slice oy ny cy, .int .i64 y.top] 24) := ⟨_, rfl⟩
     have hb7 : Below wi.heap.size wi W7 := by rw [hw7]; exact qBA _ _
     obtain ⟨g7, hg7⟩ : ∃ g, g = wi.heap.size := ⟨_, rfl⟩
     have hx7 : W7.heap[g7]? = some (.cells #[.int .i64 y.vars, .slice oy ny cy, .int .i64 y.top] 24) := by rw [hw7, hg7]; exact heap_alloc_new _ _
     have hs7 : W7.heap.size = wi.heap.size + 1 := by rw [hw7]; simp
     have HB7 := qHd (qcg HBX.out (Nat.le_refl _) hb7); have ce := qap ce hb7; have G7 := qHd hx7; have G07 := qHd (qaa (qaa G0F.out HBX.out) hb7); have FY := qHd (FY.out.below hb7); have HF7 := qHd (HF.out.below (HBF.out.trans (HB7.out.mono HBF.out.size)))
     clear hb7 hx7 hs7
     go_wp2_with (with_reducible refine qbu 28 ?_)
     rw [← hw7, ← hg7]
     clear hw7 hg7 c0 c1 c2
     refine qad.mk ?_
     rcases RY.out with r4 | ⟨r0, hfe⟩
     ·subst r4
      have HK0 := is_any 4 4 4 W7 rfl (by decide)
      rw [errV_4] at ce HK0
      have HK := qHd HK0; clear HK0
      go_wp2_with (with_reducible refine qac ?_)
      clear ce
      refine qad.mk ?_
      (with_reducible refine HK.out.mono ?_); rintro e w8 ⟨rfl, rfl⟩
      go_wp2_with fail
      go_roundw
      case rel => exact ⟨q + 1, by omega, by go_num, HB7⟩
      case measure => simp [intOf]; omega
     ·subst r0
      rw [qce] at ce
      have HK := qHd (equal_any _ _ ⟨vz, ns, top⟩ y W7 HF7.out FY.out E0.out (by simp only; omega) hfe)
      obtain ⟨x0, x1, x2⟩ := qaq G07.out
      obtain ⟨z0, z1, z2⟩ := qaq G7.out
      go_wp2_with (with_reducible refine qac ?_)
      clear ce x0 x1 x2 z0 z1 z2
      refine qad.mk ?_
      (with_reducible refine HK.out.mono ?_); rintro e w8 ⟨rfl, hb8⟩
      have HB8 := qHd (qcg HB7.out (Nat.le_refl _) hb8)
      clear hb8 HK
      go_wp2_with fail
      go_roundw
      case rel => exact ⟨q + 1, by omega, by go_num, HB8⟩
      case measure => simp [intOf]; omega
    ·have hq' : q = 6 := by omega
     subst hq'
     go_wp2_with fail
     go_ret
     exact ⟨rfl, HBF.out.trans (HBX.out.mono HBF.out.size)⟩
  ·subst h0
   rw [qce]
   have HD := qHd hd; clear hd
   go_wp2_with (with_reducible refine qbu 24 ?_)
   rw [← hwS6, ← hgS6]
   clear hwS6 hgS6
   refine qad.mk ?_
   obtain ⟨x0, x1, x2⟩ := qaq A6.out
   have HK := qHd (dual_any _ y6 W6 F6.out HD.out.ok)
   go_wp2_with (with_reducible refine qac ?_)
   clear x0 x1 x2
   refine qad.mk ?_
   (with_reducible refine HK.out.mono ?_); rintro e w7 ⟨vg, y7, e7, rfl, hb, hg, hc⟩
   obtain ⟨o7, n7, c7, X7, rfl, hn8, hv8, ht8⟩ := hg
   have F67 := qHd (show FmL w7 W6.heap.size (.agg #[.int .i64 y7.vars, .slice o7 n7 c7, .int .i64 y7.top]) y7 from ⟨o7, n7, c7, X7, rfl, hn8, hv8, ht8⟩)
   have R7 := qHd (show e7 = 4 ∨ (e7 = 0 ∧ FEq ⟨vz, ns, top⟩ y7) from hc.imp id (fun h => ⟨h.1, HD.out.twice h.2⟩))
   have HB7 := qHd (HB6.out.trans (hb.mono HB6.out.size)); have G67 := qHd (qaa G6.out hb); have A67 := qHd (qaa A6.out hb)
   have HW7 := qHd (HS6b.out.trans (hb.mono HS6b.out.size)); have LT6 := qHd (show b6 < W6.heap.size from qao A6.out)
   clear hn8 hv8 ht8 hc HK hb
   go_wp2_with (with_reducible refine qaf 24 ?_)
   refine qbj b6 0 [.int .i64 y7.vars, .slice o7 n7 c7, .int .i64 y7.top] A67.out rfl rfl (Nat.le_of_ble_eq_true rfl) (by kernel_rfl) rfl ?_
   intro W8 hp
   have HW8 := qHd (qdl hp HW7.out LB6.out)
   have A6 := qHd (show W8.heap[b6]? = some (.cells #[.int .i64 y7.vars, .slice o7 n7 c7, .int .i64 y7.top] 24) by rw [hp]; exact qco A67.out)
   have F6 := qHd ((F67.out.put hp LT6.out).fmV)
   have A1 := qHd (qaa A1w.out HW8.out); have A2 := qHd (qaa A2w.out HW8.out); have A3 := qHd (qaa A3w.out HW8.out); have A4 := qHd (qaa A4w.out HW8.out); have A5 := qHd (qaa A5w.out HW8.out)
   have F1 := qHd (F1w.out.below HW8.out); have F2 := qHd (F2w.out.below HW8.out); have F3 := qHd (F3w.out.below HW8.out); have F4 := qHd (F4w.out.below HW8.out); have F5 := qHd (F5w.out.below HW8.out)
   have G6 := qHd (qaa Gw.out HW8.out); have HB8 := qHd (HBw.out.trans (HW8.out.mono HBw.out.size))
   clear hp
   go_wp2_with (with_reducible refine wpList_pauseBS ?_)
   refine qad.mk ?_
   obtain ⟨WE, hwE⟩ : ∃ z0, z0 = W8.alloc (.cells #[qdi e1, qdi e2, qdi e3, qdi e4, qdi e5, qdi e7] 28) := ⟨_, rfl⟩
   have hbE : Below W8.heap.size W8 WE := by rw [hwE]; exact qBA _ _
   obtain ⟨ge, hgE⟩ : ∃ g, g = W8.heap.size := ⟨_, rfl⟩
   have hxE : WE.heap[ge]? = some (.cells #[qdi e1, qdi e2, qdi e3, qdi e4, qdi e5, qdi e7] 28) := by rw [hwE, hgE]; exact heap_alloc_new _ _
   have hsE : WE.heap.size = W8.heap.size + 1 := by rw [hwE]; simp
   have HBE := qHd (HB8.out.trans (hbE.mono HB8.out.size)); have GE := qHd hxE; have G0E := qHd (qaa G6.out hbE)
   have A1E := qHd (qaa A1.out hbE); have F1E := qHd (F1.out.below hbE)
   have A2E := qHd (qaa A2.out hbE); have F2E := qHd (F2.out.below hbE)
   have A3E := qHd (qaa A3.out hbE); have F3E := qHd (F3.out.below hbE)
   have A4E := qHd (qaa A4.out hbE); have F4E := qHd (F4.out.below hbE)
   have A5E := qHd (qaa A5.out hbE); have F5E := qHd (F5.out.below hbE)
   have A6E := qHd (qaa A6.out hbE); have F6E := qHd (F6.out.below hbE)
   clear hbE hxE hsE
   refine wpList_bsFlat [qdi e1, qdi e2, qdi e3, qdi e4, qdi e5, qdi e7] Tryz.underlying31 (by kernel_rfl) (by kernel_rfl) rfl (by decide) (by decide) (by rw [Array.toList_map]; rfl) (fun v hv => by
    simp only [List.mem_cons, List.not_mem_nil, or_false] at hv
    rcases hv with rfl | rfl | rfl | rfl | rfl | rfl <;> exact errV_cells _) ?_
   rw [← hgE]
   show wpList _ _ _ _ _ (W8.alloc (.cells #[qdi e1, qdi e2, qdi e3, qdi e4, qdi e5, qdi e7] 28))
   rw [← hwE]
   clear hwE hgE
   obtain ⟨x10, x11, x12⟩ := qaq A1E.out
   obtain ⟨x20, x21, x22⟩ := qaq A2E.out
   obtain ⟨x30, x31, x32⟩ := qaq A3E.out
   obtain ⟨x40, x41, x42⟩ := qaq A4E.out
   obtain ⟨x50, x51, x52⟩ := qaq A5E.out
   obtain ⟨x60, x61, x62⟩ := qaq A6E.out
   go_wp2_with (with_reducible refine wpList_pauseBS ?_)
   refine qad.mk ?_
   clear x10 x11 x12 x20 x21 x22 x30 x31 x32 x40 x41 x42 x50 x51 x52 x60 x61 x62
   obtain ⟨WF, hwF⟩ : ∃ z0, z0 = WE.alloc (.cells #[.int .i64 y1.vars, .slice o1 n1 c1, .int .i64 y1.top, .int .i64 y2.vars, .slice o2 n2 c2, .int .i64 y2.top, .int .i64 y3.vars, .slice o3 n3 c3, .int .i64 y3.top, .int .i64 y4.vars, .slice o4 n4 c4, .int .i64 y4.top, .int .i64 y5.vars, .slice o5 n5 c5, .int .i64 y5.top, .int .i64 y7.vars, .slice o7 n7 c7, .int .i64 y7.top] 24) := ⟨_, rfl⟩
   have hbF : Below WE.heap.size WE WF := by rw [hwF]; exact qBA _ _
   obtain ⟨gf, hgF⟩ : ∃ g, g = WE.heap.size := ⟨_, rfl⟩
   have hxF : WF.heap[gf]? = some (.cells #[.int .i64 y1.vars, .slice o1 n1 c1, .int .i64 y1.top, .int .i64 y2.vars, .slice o2 n2 c2, .int .i64 y2.top, .int .i64 y3.vars, .slice o3 n3 c3, .int .i64 y3.top, .int .i64 y4.vars, .slice o4 n4 c4, .int .i64 y4.top, .int .i64 y5.vars, .slice o5 n5 c5, .int .i64 y5.top, .int .i64 y7.vars, .slice o7 n7 c7, .int .i64 y7.top] 24) := by rw [hwF, hgF]; exact heap_alloc_new _ _
   have hsF : WF.heap.size = WE.heap.size + 1 := by rw [hwF]; simp
   have HBF := qHd (HBE.out.trans (hbF.mono HBE.out.size)); have GF := qHd hxF; have GEF := qHd (qaa GE.out hbF); have G0F := qHd (qaa G0E.out hbF)
   have F1F := qHd (F1E.out.below hbF)
   have F2F := qHd (F2E.out.below hbF)
   have F3F := qHd (F3E.out.below hbF)
   have F4F := qHd (F4E.out.below hbF)
   have F5F := qHd (F5E.out.below hbF)
   have F6F := qHd (F6E.out.below hbF)
   clear hbF hxF hsF
   go_wp2_with (with_reducible first | refine qah ?_ | refine qae ?_)
   rw [← hwF, ← hgF]
   clear hwF hgF
   have SIX := qHd (show ∀ q, q < 6 → ∃ (y : Fm) (e : Nat) (o : Option Addr) (n c : Nat), WF.cell? ⟨gf, q * 3, none⟩ = some (.int .i64 y.vars) ∧ WF.cell? ⟨gf, q * 3 + 1, none⟩ = some (.slice o n c) ∧ WF.cell? ⟨gf, q * 3 + 2, none⟩ = some (.int .i64 y.top) ∧ WF.cell? ⟨ge, q, none⟩ = some (qdi e) ∧ FmV WF (.agg #[.int .i64 y.vars, .slice o n c, .int .i64 y.top]) y ∧ (e = 4 ∨ (e = 0 ∧ FEq ⟨vz, ns, top⟩ y)) from fun q hq => match q, hq with
    | 0, _ => ⟨y1, e1, o1, n1, c1, cell_of_row _ _ _ _ _ _ GF.out, cell_of_row _ _ _ _ _ _ GF.out, cell_of_row _ _ _ _ _ _ GF.out, cell_of_row _ _ _ _ _ _ GEF.out, F1F.out, R1.out⟩
    | 1, _ => ⟨y2, e2, o2, n2, c2, cell_of_row _ _ _ _ _ _ GF.out, cell_of_row _ _ _ _ _ _ GF.out, cell_of_row _ _ _ _ _ _ GF.out, cell_of_row _ _ _ _ _ _ GEF.out, F2F.out, R2.out⟩
    | 2, _ => ⟨y3, e3, o3, n3, c3, cell_of_row _ _ _ _ _ _ GF.out, cell_of_row _ _ _ _ _ _ GF.out, cell_of_row _ _ _ _ _ _ GF.out, cell_of_row _ _ _ _ _ _ GEF.out, F3F.out, R3.out⟩
    | 3, _ => ⟨y4, e4, o4, n4, c4, cell_of_row _ _ _ _ _ _ GF.out, cell_of_row _ _ _ _ _ _ GF.out, cell_of_row _ _ _ _ _ _ GF.out, cell_of_row _ _ _ _ _ _ GEF.out, F4F.out, R4.out⟩
    | 4, _ => ⟨y5, e5, o5, n5, c5, cell_of_row _ _ _ _ _ _ GF.out, cell_of_row _ _ _ _ _ _ GF.out, cell_of_row _ _ _ _ _ _ GF.out, cell_of_row _ _ _ _ _ _ GEF.out, F5F.out, R5.out⟩
    | 5, _ => ⟨y7, e7, o7, n7, c7, cell_of_row _ _ _ _ _ _ GF.out, cell_of_row _ _ _ _ _ _ GF.out, cell_of_row _ _ _ _ _ _ GF.out, cell_of_row _ _ _ _ _ _ GEF.out, F6F.out, R7.out⟩
    | q + 6, hq => absurd hq (by omega))
   clear A1E F1E F1F A1 F1 A2E F2E F2F A2 F2 A3E F3E F3F A3 F3 A4E F4E F4F A4 F4 A5E F5E F5F A5 F5 A6E F6E F6F A6 F6 GE G0E GF GEF
   refine qad.mk ?_
   go_loopw [81] (fun i' wx => ∃ q : Nat, q ≤ 6 ∧ i' = .int .i64 q ∧ Hid (Below WF.heap.size WF wx)) (fun i' _ => 6 - (intOf i').toNat)
   case atStart => exact ⟨0, by omega, rfl, qHd (Below.refl _ _)⟩
   case round =>
    obtain ⟨q, hq, rfl, HBX⟩ := hrel
    obtain ⟨wi, rfl⟩ : ∃ wi : World, wi = wr := ⟨_, rfl⟩
    by_cases hlt : q < 6
    ·obtain ⟨y, ec, oy, ny, cy, c0, c1, c2, ce, hFy, hR⟩ := SIX.out q hlt
     have hltz : (q : Int) < 6 := by omega
     have c0 := qap c0 HBX.out; have c1 := qap c1 HBX.out; have c2 := qap c2 HBX.out; have ce := qap ce HBX.out
     have FY := qHd (hFy.below HBX.out); have RY := qHd hR; clear hFy hR
     obtain ⟨W7, hw7⟩ : ∃ z0, z0 = wi.alloc (.cells #[.int .i64 y.vars, .slice oy ny cy, .int .i64 y.top] 24) := ⟨_, rfl⟩
     have hb7 : Below wi.heap.size wi W7 := by rw [hw7]; exact qBA _ _
     obtain ⟨g7, hg7⟩ : ∃ g, g = wi.heap.size := ⟨_, rfl⟩
     have hx7 : W7.heap[g7]? = some (.cells #[.int .i64 y.vars, .slice oy ny cy, .int .i64 y.top] 24) := by rw [hw7, hg7]; exact heap_alloc_new _ _
     have hs7 : W7.heap.size = wi.heap.size + 1 := by rw [hw7]; simp
     have HB7 := qHd (qcg HBX.out (Nat.le_refl _) hb7); have ce := qap ce hb7; have G7 := qHd hx7; have G07 := qHd (qaa (qaa G0F.out HBX.out) hb7); have FY := qHd (FY.out.below hb7); have HF7 := qHd (HF.out.below (HBF.out.trans (HB7.out.mono HBF.out.size)))
     clear hb7 hx7 hs7
     go_wp2_with (with_reducible refine qbu 28 ?_)
     rw [← hw7, ← hg7]
     clear hw7 hg7 c0 c1 c2
     refine qad.mk ?_
     rcases RY.out with r4 | ⟨r0, hfe⟩
     ·subst r4
      have HK0 := is_any 4 4 4 W7 rfl (by decide)
      rw [errV_4] at ce HK0
      have HK := qHd HK0; clear HK0
      go_wp2_with (with_reducible refine qac ?_)
      clear ce
      refine qad.mk ?_
      (with_reducible refine HK.out.mono ?_); rintro e w8 ⟨rfl, rfl⟩
      go_wp2_with fail
      go_roundw
      case rel => exact ⟨q + 1, by omega, by go_num, HB7⟩
      case measure => simp [intOf]; omega
     ·subst r0
      rw [qce] at ce
      have HK := qHd (equal_any _ _ ⟨vz, ns, top⟩ y W7 HF7.out FY.out E0.out (by simp only; omega) hfe)
      obtain ⟨x0, x1, x2⟩ := qaq G07.out
      obtain ⟨z0, z1, z2⟩ := qaq G7.out
      go_wp2_with (with_reducible refine qac ?_)
      clear ce x0 x1 x2 z0 z1 z2
      refine qad.mk ?_
      (with_reducible refine HK.out.mono ?_); rintro e w8 ⟨rfl, hb8⟩
      have HB8 := qHd (qcg HB7.out (Nat.le_refl _) hb8)
      clear hb8 HK
      go_wp2_with fail
      go_roundw
      case rel => exact ⟨q + 1, by omega, by go_num, HB8⟩
      case measure => simp [intOf]; omega
    ·have hq' : q = 6 := by omega
     subst hq'
     go_wp2_with fail
     go_ret
     exact ⟨rfl, HBF.out.trans (HBX.out.mono HBF.out.size)⟩
end Go.Proofs.YteadcgmaailjlaaGreatDoor
