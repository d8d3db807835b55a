/-
  span: common parts: what they hand back.
  Conditions: each theorem's own.
-/
import Derived.Test.YtaefimegiobkmaaGreatDoorMA9
namespace Go.Proofs.YtaefimegiobkmaaGreatDoor
open Go.RowKit Go.ChangeShapes Go.WideShapes

set_option maxRecDepth 100000 in
set_option maxHeartbeats 6400000 in
theorem smeet_1 (va : Value) (a : Rat × Rat) (vb : Value) (b : Rat × Rat) (w : World) (ha : SpIs w va a) (hb : SpIs w vb b) (la1 : rl a.1 ≤ 39000) (la2 : rl a.2 ≤ 39000) (lb1 : rl b.1 ≤ 39000) (lb2 : rl b.2 ≤ 39000) (h : ¬ mx ((a).1) ((b).1) ≤ mn ((a).2) ((b).2)) :
    Calls Tryz.prog 36 #[va, vb] w (RetSpE w (0, 0) (errV 17)) := by
  have HBW := Lib.hid (Below.refl w.heap.size w)
  have kz0 : rl 0 ≤ 1 := by rw [rl_zero]; exact Nat.le_refl _
  obtain ⟨qa, oa, na, ka, pa, ma, ra, qax, oax, nax, kax, pax, max, rax, rfl⟩ := ha.shape
  have hla := ha.rl; have hoa := ha.ok; obtain ⟨hlaa, hlab⟩ := hla
  have hoa := Lib.hid hoa
  obtain ⟨qb, ob, nb, kb, pb, mb, rb, qbx, obx, nbx, kbx, pbx, mbx, rbx, rfl⟩ := hb.shape
  have hlb := hb.rl; have hob := hb.ok; obtain ⟨hlba, hlbb⟩ := hlb
  have hob := Lib.hid hob
  rw [errV_pos (by decide)]
  obtain ⟨n, hn⟩ : ∃ n, n = cq (mx ((a).1) ((b).1)) (mn ((a).2) ((b).2)) := ⟨_, rfl⟩
  have f1 : decide (0 < n) = true := by rw [hn]; exact decide_eq_true ((cq_gt _ _).2 (by grind))
  have HN := Lib.hid hn; clear hn h
  have Fa := Lib.hid ha; clear ha
  have Fb := Lib.hid hb; clear hb
  obtain ⟨w1, hw1⟩ : ∃ w1, w1 = w.alloc (.cells #[.bool qa, .slice oa na ka, .slice pa ma ra, .bool qax, .slice oax nax kax, .slice pax max rax] 26) := ⟨_, rfl⟩
  have hb1 : Below w.heap.size w w1 := by rw [hw1]; exact (Below.refl _ _).alloc (Nat.le_refl _) _
  have hx1 := heap_alloc_new w (.cells #[.bool qa, .slice oa na ka, .slice pa ma ra, .bool qax, .slice oax nax kax, .slice pax max rax] 26)
  obtain ⟨g1, hg1⟩ : ∃ g, g = w.heap.size := ⟨_, rfl⟩
  rw [← hw1, ← hg1] at hx1
  have lw1 : w.heap.size ≤ g1 := by rw [hg1]; exact HBW.out.size
  have HW1 := Lib.hid hw1; have HG1 := Lib.hid hg1; clear hw1 hg1
  have HB1 := Lib.hid (HBW.out.step hb1)
  have Fa := Lib.hid (Fa.out.below hb1)
  have Fb := Lib.hid (Fb.out.below hb1)
  have BX1 := Lib.hid hx1; clear hb1 hx1
  obtain ⟨w2, hw2⟩ : ∃ w2, w2 = w1.alloc (.cells #[.bool qb, .slice ob nb kb, .slice pb mb rb, .bool qbx, .slice obx nbx kbx, .slice pbx mbx rbx] 26) := ⟨_, rfl⟩
  have hb2 : Below w1.heap.size w1 w2 := by rw [hw2]; exact (Below.refl _ _).alloc (Nat.le_refl _) _
  have hx2 := heap_alloc_new w1 (.cells #[.bool qb, .slice ob nb kb, .slice pb mb rb, .bool qbx, .slice obx nbx kbx, .slice pbx mbx rbx] 26)
  obtain ⟨g2, hg2⟩ : ∃ g, g = w1.heap.size := ⟨_, rfl⟩
  rw [← hw2, ← hg2] at hx2
  have lw2 : w.heap.size ≤ g2 := by rw [hg2]; exact HB1.out.size
  have ltBX12 : g1 < g2 := by rw [hg2]; exact below_lt BX1.out
  have hs2 : g2 = w.heap.size + 1 := by rw [hg2, HW1.out]; simp
  have HS2 := Lib.hid hs2; clear hs2
  have HW2 := Lib.hid hw2; have HG2 := Lib.hid hg2; clear hw2 hg2
  have HB2 := Lib.hid (HB1.out.step hb2)
  have Fa := Lib.hid (Fa.out.below hb2)
  have Fb := Lib.hid (Fb.out.below hb2)
  have BX1 := Lib.hid (heap_below BX1.out hb2)
  have BX2 := Lib.hid hx2; clear hb2 hx2
  obtain ⟨w3, hw3⟩ : ∃ w3, w3 = w2.alloc (.cells #[.bool false, .slice none 0 0, .slice none 0 0, .bool false, .slice none 0 0, .slice none 0 0] 26) := ⟨_, rfl⟩
  have hb3 : Below w2.heap.size w2 w3 := by rw [hw3]; exact (Below.refl _ _).alloc (Nat.le_refl _) _
  have hx3 := heap_alloc_new w2 (.cells #[.bool false, .slice none 0 0, .slice none 0 0, .bool false, .slice none 0 0, .slice none 0 0] 26)
  obtain ⟨g3, hg3⟩ : ∃ g, g = w2.heap.size := ⟨_, rfl⟩
  rw [← hw3, ← hg3] at hx3
  have lw3 : w.heap.size ≤ g3 := by rw [hg3]; exact HB2.out.size
  have ltBX13 : g1 < g3 := by rw [hg3]; exact below_lt BX1.out
  have ltBX23 : g2 < g3 := by rw [hg3]; exact below_lt BX2.out
  have hs3 : g3 = w.heap.size + 2 := by rw [hg3, HW2.out, HW1.out]; simp
  have HS3 := Lib.hid hs3; clear hs3
  have HW3 := Lib.hid hw3; have HG3 := Lib.hid hg3; clear hw3 hg3
  have HB3 := Lib.hid (HB2.out.step hb3)
  have Fa := Lib.hid (Fa.out.below hb3)
  have Fb := Lib.hid (Fb.out.below hb3)
  have BX1 := Lib.hid (heap_below BX1.out hb3)
  have BX2 := Lib.hid (heap_below BX2.out hb3)
  have BX3 := Lib.hid hx3; clear hb3 hx3
  go_enter Tryz.func36, Tryz.ntmps36
  go_wp2_with (with_reducible first | refine pauseCall ?_ | refine pauseLoop ?_ | refine pauseDraw ?_ | refine pauseBody ?_ | refine pauseRounds ?_)
  try rw [← HW1.out]
  try rw [← HW2.out]
  try rw [← HW3.out]
  try rw [← HS3.out]
  try rw [← HS2.out]
  try rw [← HG1.out]
  try rw [← HG2.out]
  try rw [← HG3.out]
  refine Pause.mk ?_
  refine wp_region_facts (A := ?aa1) (w := w3) 3 [] (by kernel_rfl) (Fl [KEq (.agg #[.bool qa, .slice oa na ka, .slice pa ma ra, .bool qax, .slice oax nax kax, .slice pax max rax]), KSp (a), KEq (.agg #[.bool qb, .slice ob nb kb, .slice pb mb rb, .bool qbx, .slice obx nbx kbx, .slice pbx mbx rbx])]) (fun i => false) (by kernel_rfl) ?hq1 (monoL (monoC (kEq _) (monoC (kSp _) (monoC (kEq _) monoN)))) ?ha1 ?st1 ?tl1
  case hq1 =>
    intro c a d v w h
    first | (simp only [Exit.then] at h ⊢; exact h) | (simp only [Exit.inBlock, Exit.then] at h ⊢; exact h) | exact h
  case ha1 =>
    intro vals
    simp only [putsTo, dstOf, if_true, Act.put, List.setIfInBounds_toArray, List.set_cons_zero, List.set_cons_succ, List.getElem?_toArray, List.getElem?_cons_zero, List.getElem?_cons_succ, Option.bind_some]
    exact rfl
  case st1 =>
    simp only [List.take_succ_cons, List.take_zero]
    refine stepsOK_cons rfl rfl ?_ (stepsOK_cons rfl rfl ?_ (stepsOK_cons rfl rfl ?_ (stepsOK_nil)))
    · intro vals w1 hb hd
      obtain ⟨e0, e1, e2, e3, e4, e5⟩ := row6 (heap_below BX1.out hb)
      refine stepOK_value (v := .agg #[.bool qa, .slice oa na ka, .slice pa ma ra, .bool qax, .slice oax nax kax, .slice pax max rax]) (w' := w1) (by go_simp) (leaves_mk (Below.refl _ _) rfl (fun h => by cases h))
    · intro vals w1 hb hd
      have d0 : KEq (.agg #[.bool qa, .slice oa na ka, .slice pa ma ra, .bool qax, .slice oax nax kax, .slice pax max rax]) (vals 0) w1 := hd 0 (by kernel_rfl)
      have z0 : vals 0 = _ := d0
      have hs := norm_any _ (a) w1 (Fa.out.below hb)
      have HS := Lib.hid hs; clear hs
      rw [z0]; clear z0
      clear d0 hd
      refine stepOK_call (by go_simp; first | done | exact ⟨⟨rfl, rfl⟩, rfl⟩) ?_
      (with_reducible refine HS.out.mono ?_); rintro e w2 ⟨v, rfl, hb2, hn⟩
      exact ⟨v, rfl, leaves_mk hb2 hn (fun h => by cases h)⟩
    · intro vals w1 hb hd
      obtain ⟨e0, e1, e2, e3, e4, e5⟩ := row6 (heap_below BX2.out hb)
      refine stepOK_value (v := .agg #[.bool qb, .slice ob nb kb, .slice pb mb rb, .bool qbx, .slice obx nbx kbx, .slice pbx mbx rbx]) (w' := w1) (by go_simp) (leaves_mk (Below.refl _ _) rfl (fun h => by cases h))
  case tl1 =>
    intro vals w4 hb4 hf hdis
    simp only [List.drop_succ_cons, List.drop_zero]
    obtain ⟨u1_1, hu1⟩ : ∃ u, u = vals 1 := ⟨_, rfl⟩
    have hn1_1 : IsSp w4 (vals 1) (a) := hf 1 (by decide)
    rw [← hu1] at hn1_1 ⊢; clear hu1
    have z2 : vals 2 = _ := hf 2 (by decide)
    try rw [z2]
    clear z2
    clear hf hdis
    have HB4 := Lib.hid (HB3.out.step hb4)
    have Fa := Lib.hid (Fa.out.below hb4)
    have Fb := Lib.hid (Fb.out.below hb4)
    have BX1 := Lib.hid (heap_below BX1.out hb4)
    have BX2 := Lib.hid (heap_below BX2.out hb4)
    have BX3 := Lib.hid (heap_below BX3.out hb4)
    clear hb4
    have N1_1 := Lib.hid hn1_1; clear hn1_1
    obtain ⟨s2, o2, n2, c2, a2, m2, d2, s2x, o2x, n2x, c2x, a2x, m2x, d2x, rfl⟩ := N1_1.out.shape
    have N1_1l := Lib.hid (isSp_ends N1_1.out).1; have N1_1h := Lib.hid (isSp_ends N1_1.out).2
    skip
    have hs := norm_any _ (b) w4 Fb.out
    have HS := Lib.hid hs; clear hs
    go_wp2_with (with_reducible first | refine pauseCall ?_ | refine pauseLoop ?_ | refine pauseDraw ?_ | refine pauseBody ?_ | refine pauseRounds ?_)
    refine Pause.mk ?_
    (with_reducible refine HS.out.mono ?_); rintro e w5 ⟨v5, rfl, hb5, hn5⟩
    clear HS
    have HB5 := Lib.hid (HB4.out.step hb5)
    have Fa := Lib.hid (Fa.out.below hb5)
    have Fb := Lib.hid (Fb.out.below hb5)
    have N1_1 := Lib.hid (N1_1.out.below hb5)
    have N1_1l := Lib.hid (N1_1l.out.below hb5)
    have N1_1h := Lib.hid (N1_1h.out.below hb5)
    have BX1 := Lib.hid (heap_below BX1.out hb5)
    have BX2 := Lib.hid (heap_below BX2.out hb5)
    have BX3 := Lib.hid (heap_below BX3.out hb5)
    have N5 := Lib.hid hn5; clear hn5
    obtain ⟨s3, o3, n3, c3, a3, m3, d3, s3x, o3x, n3x, c3x, a3x, m3x, d3x, rfl⟩ := N5.out.shape
    have N5l := Lib.hid (isSp_ends N5.out).1; have N5h := Lib.hid (isSp_ends N5.out).2
    clear hb5
    go_wp2_with (with_reducible refine wpList_pauseS ?_)
    refine wpList_stL g1 0 [.bool s2, .slice o2 n2 c2, .slice a2 m2 d2, .bool s2x, .slice o2x n2x c2x, .slice a2x m2x d2x] BX1.out rfl rfl (Nat.le_of_ble_eq_true rfl) (by kernel_rfl) rfl ?_
    intro w6 hp6
    have Fa := Lib.hid (putL_SS hp6 Fa.out BX1.out noW6)
    have Fb := Lib.hid (putL_SS hp6 Fb.out BX1.out noW6)
    have N1_1 := Lib.hid (putL_SI hp6 N1_1.out BX1.out noW6)
    have N1_1l := Lib.hid (putL_I hp6 N1_1l.out BX1.out noW6)
    have N1_1h := Lib.hid (putL_I hp6 N1_1h.out BX1.out noW6)
    have N5 := Lib.hid (putL_SI hp6 N5.out BX1.out noW6)
    have N5l := Lib.hid (putL_I hp6 N5l.out BX1.out noW6)
    have N5h := Lib.hid (putL_I hp6 N5h.out BX1.out noW6)
    have BX2 := Lib.hid (putLx hp6 BX2.out (by omega))
    have BX3 := Lib.hid (putLx hp6 BX3.out (by omega))
    have nx6 : w6.heap[g1]? = some (.cells #[.bool s2, .slice o2 n2 c2, .slice a2 m2 d2, .bool s2x, .slice o2x n2x c2x, .slice a2x m2x d2x] 26) := by rw [hp6]; exact putL_6 BX1.out
    have BX1 := Lib.hid nx6; clear nx6
    have HB6 := Lib.hid (putLb hp6 HB5.out (by omega))
    clear hp6
    go_wp2_with (with_reducible refine wpList_pauseS ?_)
    refine wpList_stL g2 0 [.bool s3, .slice o3 n3 c3, .slice a3 m3 d3, .bool s3x, .slice o3x n3x c3x, .slice a3x m3x d3x] BX2.out rfl rfl (Nat.le_of_ble_eq_true rfl) (by kernel_rfl) rfl ?_
    intro w7 hp7
    have Fa := Lib.hid (putL_SS hp7 Fa.out BX2.out noW6)
    have Fb := Lib.hid (putL_SS hp7 Fb.out BX2.out noW6)
    have N1_1 := Lib.hid (putL_SI hp7 N1_1.out BX2.out noW6)
    have N1_1l := Lib.hid (putL_I hp7 N1_1l.out BX2.out noW6)
    have N1_1h := Lib.hid (putL_I hp7 N1_1h.out BX2.out noW6)
    have N5 := Lib.hid (putL_SI hp7 N5.out BX2.out noW6)
    have N5l := Lib.hid (putL_I hp7 N5l.out BX2.out noW6)
    have N5h := Lib.hid (putL_I hp7 N5h.out BX2.out noW6)
    have BX1 := Lib.hid (putLx hp7 BX1.out (by omega))
    have BX3 := Lib.hid (putLx hp7 BX3.out (by omega))
    have nx7 : w7.heap[g2]? = some (.cells #[.bool s3, .slice o3 n3 c3, .slice a3 m3 d3, .bool s3x, .slice o3x n3x c3x, .slice a3x m3x d3x] 26) := by rw [hp7]; exact putL_6 BX2.out
    have BX2 := Lib.hid nx7; clear nx7
    have HB7 := Lib.hid (putLb hp7 HB6.out (by omega))
    clear hp7
    go_wp2_with (with_reducible first | refine pauseCall ?_ | refine pauseLoop ?_ | refine pauseDraw ?_ | refine pauseBody ?_ | refine pauseRounds ?_)
    refine Pause.mk ?_
    have k4 := rl_mx ((a).1) ((b).1)
    have k5 := rl_mn ((a).2) ((b).2)
    refine wp_region_facts (A := ?aa6) (w := w7) 12 [] (by kernel_rfl) (Fl [KEq (.pointer (some ⟨g1, 0, none⟩)), KEq (.agg #[.bool s2, .slice o2 n2 c2, .slice a2 m2 d2]), KEq (.pointer (some ⟨g2, 0, none⟩)), KEq (.agg #[.bool s3, .slice o3 n3 c3, .slice a3 m3 d3]), KIs (mx ((a).1) ((b).1)), KEq (.pointer (some ⟨g1, 3, none⟩)), KEq (.agg #[.bool s2x, .slice o2x n2x c2x, .slice a2x m2x d2x]), KEq (.pointer (some ⟨g2, 3, none⟩)), KEq (.agg #[.bool s3x, .slice o3x n3x c3x, .slice a3x m3x d3x]), KIs (mn ((a).2) ((b).2)), KNew w7.heap.size #[.bool false, .slice none 0 0, .slice none 0 0] 24, KNew w7.heap.size #[.bool false, .slice none 0 0, .slice none 0 0] 24]) (fun i => i == 10 || i == 11) (by kernel_rfl) ?hq6 (monoL (monoC (kEq _) (monoC (kEq _) (monoC (kEq _) (monoC (kEq _) (monoC (kIs _) (monoC (kEq _) (monoC (kEq _) (monoC (kEq _) (monoC (kEq _) (monoC (kIs _) (monoC (kNew _ _ _) (monoC (kNew _ _ _) monoN))))))))))))) ?ha6 ?st6 ?tl6
    case hq6 =>
      intro c a d v w h
      first | (simp only [Exit.then] at h ⊢; exact h) | (simp only [Exit.inBlock, Exit.then] at h ⊢; exact h) | exact h
    case ha6 =>
      intro vals
      simp only [putsTo, dstOf, if_true, Act.put, List.setIfInBounds_toArray, List.set_cons_zero, List.set_cons_succ, List.getElem?_toArray, List.getElem?_cons_zero, List.getElem?_cons_succ, Option.bind_some]
      exact rfl
    case st6 =>
      simp only [List.take_succ_cons, List.take_zero]
      refine stepsOK_cons rfl rfl ?_ (stepsOK_cons rfl rfl ?_ (stepsOK_cons rfl rfl ?_ (stepsOK_cons rfl rfl ?_ (stepsOK_cons rfl rfl ?_ (stepsOK_cons rfl rfl ?_ (stepsOK_cons rfl rfl ?_ (stepsOK_cons rfl rfl ?_ (stepsOK_cons rfl rfl ?_ (stepsOK_cons rfl rfl ?_ (stepsOK_cons rfl rfl ?_ (stepsOK_cons rfl rfl ?_ (stepsOK_nil))))))))))))
      · intro vals w1 hb hd
        refine stepOK_value (v := (.pointer (some ⟨g1, 0, none⟩))) (w' := w1) (by go_simp) (leaves_mk (Below.refl _ _) rfl (fun h => by cases h))
      · intro vals w1 hb hd
        have d0 : KEq (.pointer (some ⟨g1, 0, none⟩)) (vals 0) w1 := hd 0 (by kernel_rfl)
        rw [show vals 0 = _ from d0]
        obtain ⟨e0, e1, e2, e3, e4, e5⟩ := row6 (heap_below BX1.out hb)
        refine stepOK_value (v := .agg #[.bool s2, .slice o2 n2 c2, .slice a2 m2 d2]) (w' := w1) (by go_simp) (leaves_mk (Below.refl _ _) rfl (fun h => by cases h))
      · intro vals w1 hb hd
        refine stepOK_value (v := (.pointer (some ⟨g2, 0, none⟩))) (w' := w1) (by go_simp) (leaves_mk (Below.refl _ _) rfl (fun h => by cases h))
      · intro vals w1 hb hd
        have d2 : KEq (.pointer (some ⟨g2, 0, none⟩)) (vals 2) w1 := hd 2 (by kernel_rfl)
        rw [show vals 2 = _ from d2]
        obtain ⟨e0, e1, e2, e3, e4, e5⟩ := row6 (heap_below BX2.out hb)
        refine stepOK_value (v := .agg #[.bool s3, .slice o3 n3 c3, .slice a3 m3 d3]) (w' := w1) (by go_simp) (leaves_mk (Below.refl _ _) rfl (fun h => by cases h))
      · intro vals w1 hb hd
        have d1 : KEq (.agg #[.bool s2, .slice o2 n2 c2, .slice a2 m2 d2]) (vals 1) w1 := hd 1 (by kernel_rfl)
        have d3 : KEq (.agg #[.bool s3, .slice o3 n3 c3, .slice a3 m3 d3]) (vals 3) w1 := hd 3 (by kernel_rfl)
        have z1 : vals 1 = _ := d1
        have z3 : vals 3 = _ := d3
        have hs := maxq_any _ ((a).1) _ ((b).1) w1 ((N1_1l.out.below hb).is (by omega)) ((N5l.out.below hb).is (by omega)) (by omega) (by omega)
        have HS := Lib.hid hs; clear hs
        rw [z1]; clear z1
        rw [z3]; clear z3
        clear d1 d3 hd
        refine stepOK_call (by go_simp; first | done | exact ⟨⟨rfl, rfl⟩, rfl⟩) ?_
        (with_reducible refine HS.out.mono ?_); rintro e w2 ⟨v, rfl, hb2, hn⟩
        exact ⟨v, rfl, leaves_mk hb2 hn (fun h => by cases h)⟩
      · intro vals w1 hb hd
        refine stepOK_value (v := (.pointer (some ⟨g1, 3, none⟩))) (w' := w1) (by go_simp) (leaves_mk (Below.refl _ _) rfl (fun h => by cases h))
      · intro vals w1 hb hd
        have d5 : KEq (.pointer (some ⟨g1, 3, none⟩)) (vals 5) w1 := hd 5 (by kernel_rfl)
        rw [show vals 5 = _ from d5]
        obtain ⟨e0, e1, e2, e3, e4, e5⟩ := row6 (heap_below BX1.out hb)
        refine stepOK_value (v := .agg #[.bool s2x, .slice o2x n2x c2x, .slice a2x m2x d2x]) (w' := w1) (by go_simp) (leaves_mk (Below.refl _ _) rfl (fun h => by cases h))
      · intro vals w1 hb hd
        refine stepOK_value (v := (.pointer (some ⟨g2, 3, none⟩))) (w' := w1) (by go_simp) (leaves_mk (Below.refl _ _) rfl (fun h => by cases h))
      · intro vals w1 hb hd
        have d7 : KEq (.pointer (some ⟨g2, 3, none⟩)) (vals 7) w1 := hd 7 (by kernel_rfl)
        rw [show vals 7 = _ from d7]
        obtain ⟨e0, e1, e2, e3, e4, e5⟩ := row6 (heap_below BX2.out hb)
        refine stepOK_value (v := .agg #[.bool s3x, .slice o3x n3x c3x, .slice a3x m3x d3x]) (w' := w1) (by go_simp) (leaves_mk (Below.refl _ _) rfl (fun h => by cases h))
      · intro vals w1 hb hd
        have d6 : KEq (.agg #[.bool s2x, .slice o2x n2x c2x, .slice a2x m2x d2x]) (vals 6) w1 := hd 6 (by kernel_rfl)
        have d8 : KEq (.agg #[.bool s3x, .slice o3x n3x c3x, .slice a3x m3x d3x]) (vals 8) w1 := hd 8 (by kernel_rfl)
        have z6 : vals 6 = _ := d6
        have z8 : vals 8 = _ := d8
        have hs := minq_any _ ((a).2) _ ((b).2) w1 ((N1_1h.out.below hb).is (by omega)) ((N5h.out.below hb).is (by omega)) (by omega) (by omega)
        have HS := Lib.hid hs; clear hs
        rw [z6]; clear z6
        rw [z8]; clear z8
        clear d6 d8 hd
        refine stepOK_call (by go_simp; first | done | exact ⟨⟨rfl, rfl⟩, rfl⟩) ?_
        (with_reducible refine HS.out.mono ?_); rintro e w2 ⟨v, rfl, hb2, hn⟩
        exact ⟨v, rfl, leaves_mk hb2 hn (fun h => by cases h)⟩
      · intro vals w1 hb hd
        refine stepOK_value (v := .pointer (some ⟨w1.heap.size, 0, none⟩)) (w' := w1.alloc (.cells #[.bool false, .slice none 0 0, .slice none 0 0] 24)) (by go_simp) (leaves_mk ((Below.refl _ _).alloc (Nat.le_refl _) _) ⟨_, hb.size, rfl, heap_alloc_new _ _⟩ (fun _ => ⟨rfl, by simp⟩))
      · intro vals w1 hb hd
        refine stepOK_value (v := .pointer (some ⟨w1.heap.size, 0, none⟩)) (w' := w1.alloc (.cells #[.bool false, .slice none 0 0, .slice none 0 0] 24)) (by go_simp) (leaves_mk ((Below.refl _ _).alloc (Nat.le_refl _) _) ⟨_, hb.size, rfl, heap_alloc_new _ _⟩ (fun _ => ⟨rfl, by simp⟩))
    case tl6 =>
      intro vals w8 hb8 hf hdis
      simp only [List.drop_succ_cons, List.drop_zero]
      obtain ⟨u6_4, hu4⟩ : ∃ u, u = vals 4 := ⟨_, rfl⟩
      have hn6_4 : IsR w8 (vals 4) (mx ((a).1) ((b).1)) := hf 4 (by decide)
      rw [← hu4] at hn6_4 ⊢; clear hu4
      obtain ⟨u6_9, hu9⟩ : ∃ u, u = vals 9 := ⟨_, rfl⟩
      have hn6_9 : IsR w8 (vals 9) (mn ((a).2) ((b).2)) := hf 9 (by decide)
      rw [← hu9] at hn6_9 ⊢; clear hu9
      obtain ⟨g6_10, hg6_10, ev10, hz6_10⟩ : KNew w7.heap.size #[.bool false, .slice none 0 0, .slice none 0 0] 24 (vals 10) w8 := hf 10 (by decide)
      have eq10 := ev10
      rw [ev10]; clear ev10
      have lw6_10 : w.heap.size ≤ g6_10 := Nat.le_trans HB7.out.size hg6_10
      have ltBX16_10 : g1 < g6_10 := Nat.lt_of_lt_of_le (below_lt BX1.out) hg6_10
      have ltBX26_10 : g2 < g6_10 := Nat.lt_of_lt_of_le (below_lt BX2.out) hg6_10
      have ltBX36_10 : g3 < g6_10 := Nat.lt_of_lt_of_le (below_lt BX3.out) hg6_10
      obtain ⟨g6_11, hg6_11, ev11, hz6_11⟩ : KNew w7.heap.size #[.bool false, .slice none 0 0, .slice none 0 0] 24 (vals 11) w8 := hf 11 (by decide)
      have ne10_11 : g6_10 ≠ g6_11 := fun e => hdis 10 11 (by decide) (by decide) (by decide) (by decide) (by decide) (by rw [eq10, ev11, e])
      have eq11 := ev11
      rw [ev11]; clear ev11
      have lw6_11 : w.heap.size ≤ g6_11 := Nat.le_trans HB7.out.size hg6_11
      have ltBX16_11 : g1 < g6_11 := Nat.lt_of_lt_of_le (below_lt BX1.out) hg6_11
      have ltBX26_11 : g2 < g6_11 := Nat.lt_of_lt_of_le (below_lt BX2.out) hg6_11
      have ltBX36_11 : g3 < g6_11 := Nat.lt_of_lt_of_le (below_lt BX3.out) hg6_11
      clear hf hdis eq10 eq11
      have HB8 := Lib.hid (HB7.out.step hb8)
      have Fa := Lib.hid (Fa.out.below hb8)
      have Fb := Lib.hid (Fb.out.below hb8)
      have N1_1 := Lib.hid (N1_1.out.below hb8)
      have N1_1l := Lib.hid (N1_1l.out.below hb8)
      have N1_1h := Lib.hid (N1_1h.out.below hb8)
      have N5 := Lib.hid (N5.out.below hb8)
      have N5l := Lib.hid (N5l.out.below hb8)
      have N5h := Lib.hid (N5h.out.below hb8)
      have BX1 := Lib.hid (heap_below BX1.out hb8)
      have BX2 := Lib.hid (heap_below BX2.out hb8)
      have BX3 := Lib.hid (heap_below BX3.out hb8)
      clear hb8
      have BX6_10 := Lib.hid hz6_10; clear hz6_10 hg6_10
      have BX6_11 := Lib.hid hz6_11; clear hz6_11 hg6_11
      have N6_4 := Lib.hid hn6_4; clear hn6_4
      obtain ⟨s7, o7, n7, c7, a7, m7, d7, rfl⟩ := N6_4.out.shape
      have N6_9 := Lib.hid hn6_9; clear hn6_9
      obtain ⟨s8, o8, n8, c8, a8, m8, d8, rfl⟩ := N6_9.out.shape
      skip
      go_wp2_with (with_reducible refine wpList_pauseS ?_)
      refine wpList_stL g6_10 0 [.bool s7, .slice o7 n7 c7, .slice a7 m7 d7] BX6_10.out rfl rfl (Nat.le_of_ble_eq_true rfl) (by kernel_rfl) rfl ?_
      intro w9 hp9
      have Fa := Lib.hid (putL_SS hp9 Fa.out BX6_10.out noW3)
      have Fb := Lib.hid (putL_SS hp9 Fb.out BX6_10.out noW3)
      have N1_1 := Lib.hid (putL_SI hp9 N1_1.out BX6_10.out noW3)
      have N1_1l := Lib.hid (putL_I hp9 N1_1l.out BX6_10.out noW3)
      have N1_1h := Lib.hid (putL_I hp9 N1_1h.out BX6_10.out noW3)
      have N5 := Lib.hid (putL_SI hp9 N5.out BX6_10.out noW3)
      have N5l := Lib.hid (putL_I hp9 N5l.out BX6_10.out noW3)
      have N5h := Lib.hid (putL_I hp9 N5h.out BX6_10.out noW3)
      have N6_4 := Lib.hid (putL_I hp9 N6_4.out BX6_10.out noW3)
      have N6_9 := Lib.hid (putL_I hp9 N6_9.out BX6_10.out noW3)
      have BX1 := Lib.hid (putLx hp9 BX1.out (by omega))
      have BX2 := Lib.hid (putLx hp9 BX2.out (by omega))
      have BX3 := Lib.hid (putLx hp9 BX3.out (by omega))
      have BX6_11 := Lib.hid (putLx hp9 BX6_11.out (by omega))
      have nx9 : w9.heap[g6_10]? = some (.cells #[.bool s7, .slice o7 n7 c7, .slice a7 m7 d7] 24) := by rw [hp9]; exact putL_r BX6_10.out
      have BX6_10 := Lib.hid nx9; clear nx9
      have HB9 := Lib.hid (putLb hp9 HB8.out (by omega))
      clear hp9
      go_wp2_with (with_reducible refine wpList_pauseS ?_)
      refine wpList_stL g6_11 0 [.bool s8, .slice o8 n8 c8, .slice a8 m8 d8] BX6_11.out rfl rfl (Nat.le_of_ble_eq_true rfl) (by kernel_rfl) rfl ?_
      intro w10 hp10
      have Fa := Lib.hid (putL_SS hp10 Fa.out BX6_11.out noW3)
      have Fb := Lib.hid (putL_SS hp10 Fb.out BX6_11.out noW3)
      have N1_1 := Lib.hid (putL_SI hp10 N1_1.out BX6_11.out noW3)
      have N1_1l := Lib.hid (putL_I hp10 N1_1l.out BX6_11.out noW3)
      have N1_1h := Lib.hid (putL_I hp10 N1_1h.out BX6_11.out noW3)
      have N5 := Lib.hid (putL_SI hp10 N5.out BX6_11.out noW3)
      have N5l := Lib.hid (putL_I hp10 N5l.out BX6_11.out noW3)
      have N5h := Lib.hid (putL_I hp10 N5h.out BX6_11.out noW3)
      have N6_4 := Lib.hid (putL_I hp10 N6_4.out BX6_11.out noW3)
      have N6_9 := Lib.hid (putL_I hp10 N6_9.out BX6_11.out noW3)
      have BX1 := Lib.hid (putLx hp10 BX1.out (by omega))
      have BX2 := Lib.hid (putLx hp10 BX2.out (by omega))
      have BX3 := Lib.hid (putLx hp10 BX3.out (by omega))
      have BX6_10 := Lib.hid (putLx hp10 BX6_10.out (by omega))
      have nx10 : w10.heap[g6_11]? = some (.cells #[.bool s8, .slice o8 n8 c8, .slice a8 m8 d8] 24) := by rw [hp10]; exact putL_r BX6_11.out
      have BX6_11 := Lib.hid nx10; clear nx10
      have HB10 := Lib.hid (putLb hp10 HB9.out (by omega))
      clear hp10
      obtain ⟨x9_0, x9_1, x9_2⟩ := row3 BX6_10.out
      obtain ⟨x10_0, x10_1, x10_2⟩ := row3 BX6_11.out
      have hs := cmpq_any _ (mx ((a).1) ((b).1)) _ (mn ((a).2) ((b).2)) w10 (N6_4.out.is (by omega)) (N6_9.out.is (by omega)) (by omega) (by omega)
      rw [← HN.out] at hs
      have HS := Lib.hid hs; clear hs
      go_wp2_with (with_reducible first | refine pauseCall ?_ | refine pauseLoop ?_ | refine pauseDraw ?_ | refine pauseBody ?_ | refine pauseRounds ?_)
      clear x9_0 x9_1 x9_2 x10_0 x10_1 x10_2
      refine Pause.mk ?_
      (with_reducible refine HS.out.mono ?_); rintro e w11 ⟨rfl, hb11⟩
      clear HS
      have HB11 := Lib.hid (HB10.out.step hb11)
      have Fa := Lib.hid (Fa.out.below hb11)
      have Fb := Lib.hid (Fb.out.below hb11)
      have N1_1 := Lib.hid (N1_1.out.below hb11)
      have N1_1l := Lib.hid (N1_1l.out.below hb11)
      have N1_1h := Lib.hid (N1_1h.out.below hb11)
      have N5 := Lib.hid (N5.out.below hb11)
      have N5l := Lib.hid (N5l.out.below hb11)
      have N5h := Lib.hid (N5h.out.below hb11)
      have N6_4 := Lib.hid (N6_4.out.below hb11)
      have N6_9 := Lib.hid (N6_9.out.below hb11)
      have BX1 := Lib.hid (heap_below BX1.out hb11)
      have BX2 := Lib.hid (heap_below BX2.out hb11)
      have BX3 := Lib.hid (heap_below BX3.out hb11)
      have BX6_10 := Lib.hid (heap_below BX6_10.out hb11)
      have BX6_11 := Lib.hid (heap_below BX6_11.out hb11)
      clear hb11
      go_wp2_with (with_reducible refine wpList_pauseS ?_)
      refine wpList_stL g3 0 [.bool false, .slice none 0 0, .slice none 0 0, .bool false, .slice none 0 0, .slice none 0 0] BX3.out rfl rfl (Nat.le_of_ble_eq_true rfl) (by kernel_rfl) rfl ?_
      intro w12 hp12
      have Fa := Lib.hid (putL_SS hp12 Fa.out BX3.out noW6)
      have Fb := Lib.hid (putL_SS hp12 Fb.out BX3.out noW6)
      have N1_1 := Lib.hid (putL_SI hp12 N1_1.out BX3.out noW6)
      have N1_1l := Lib.hid (putL_I hp12 N1_1l.out BX3.out noW6)
      have N1_1h := Lib.hid (putL_I hp12 N1_1h.out BX3.out noW6)
      have N5 := Lib.hid (putL_SI hp12 N5.out BX3.out noW6)
      have N5l := Lib.hid (putL_I hp12 N5l.out BX3.out noW6)
      have N5h := Lib.hid (putL_I hp12 N5h.out BX3.out noW6)
      have N6_4 := Lib.hid (putL_I hp12 N6_4.out BX3.out noW6)
      have N6_9 := Lib.hid (putL_I hp12 N6_9.out BX3.out noW6)
      have BX1 := Lib.hid (putLx hp12 BX1.out (by omega))
      have BX2 := Lib.hid (putLx hp12 BX2.out (by omega))
      have BX6_10 := Lib.hid (putLx hp12 BX6_10.out (by omega))
      have BX6_11 := Lib.hid (putLx hp12 BX6_11.out (by omega))
      have nx12 : w12.heap[g3]? = some (.cells #[.bool false, .slice none 0 0, .slice none 0 0, .bool false, .slice none 0 0, .slice none 0 0] 26) := by rw [hp12]; exact putL_6 BX3.out
      have BX3 := Lib.hid nx12; clear nx12
      have HB12 := Lib.hid (putLb hp12 HB11.out (by omega))
      clear hp12
      obtain ⟨x11_0, x11_1, x11_2, x11_3, x11_4, x11_5⟩ := row6 BX3.out
      go_wp2_with (with_reducible first | refine pauseCall ?_ | refine pauseLoop ?_ | refine pauseDraw ?_ | refine pauseBody ?_ | refine pauseRounds ?_)
      clear x11_0 x11_1 x11_2 x11_3 x11_4 x11_5
      refine Pause.mk ?_
      refine ret_span2 rfl g3 _ _ _ _ _ _ (by first | rfl | exact rfl) BX3.out rfl ?_
      exact ⟨_, rfl, HB12.out, (isSp_zero _)⟩
set_option maxRecDepth 100000 in
set_option maxHeartbeats 6400000 in
theorem smeet_2 (va : Value) (a : Rat × Rat) (vb : Value) (b : Rat × Rat) (w : World) (ha : SpIs w va a) (hb : SpIs w vb b) (la1 : rl a.1 ≤ 39000) (la2 : rl a.2 ≤ 39000) (lb1 : rl b.1 ≤ 39000) (lb2 : rl b.2 ≤ 39000) (h : mx ((a).1) ((b).1) ≤ mn ((a).2) ((b).2)) :
    Calls Tryz.prog 36 #[va, vb] w (RetSpE w (around2 (mx ((a).1) ((b).1)) (mn ((a).2) ((b).2))) (errV 0)) := by
  have HBW := Lib.hid (Below.refl w.heap.size w)
  have kz0 : rl 0 ≤ 1 := by rw [rl_zero]; exact Nat.le_refl _
  obtain ⟨qa, oa, na, ka, pa, ma, ra, qax, oax, nax, kax, pax, max, rax, rfl⟩ := ha.shape
  have hla := ha.rl; have hoa := ha.ok; obtain ⟨hlaa, hlab⟩ := hla
  have hoa := Lib.hid hoa
  obtain ⟨qb, ob, nb, kb, pb, mb, rb, qbx, obx, nbx, kbx, pbx, mbx, rbx, rfl⟩ := hb.shape
  have hlb := hb.rl; have hob := hb.ok; obtain ⟨hlba, hlbb⟩ := hlb
  have hob := Lib.hid hob
  rw [errV_zero]
  obtain ⟨n, hn⟩ : ∃ n, n = cq (mx ((a).1) ((b).1)) (mn ((a).2) ((b).2)) := ⟨_, rfl⟩
  have f1 : decide (0 < n) = false := by rw [hn]; exact decide_eq_false (fun k => by have := (cq_gt _ _).1 k; grind)
  have HN := Lib.hid hn; clear hn h
  have Fa := Lib.hid ha; clear ha
  have Fb := Lib.hid hb; clear hb
  obtain ⟨w1, hw1⟩ : ∃ w1, w1 = w.alloc (.cells #[.bool qa, .slice oa na ka, .slice pa ma ra, .bool qax, .slice oax nax kax, .slice pax max rax] 26) := ⟨_, rfl⟩
  have hb1 : Below w.heap.size w w1 := by rw [hw1]; exact (Below.refl _ _).alloc (Nat.le_refl _) _
  have hx1 := heap_alloc_new w (.cells #[.bool qa, .slice oa na ka, .slice pa ma ra, .bool qax, .slice oax nax kax, .slice pax max rax] 26)
  obtain ⟨g1, hg1⟩ : ∃ g, g = w.heap.size := ⟨_, rfl⟩
  rw [← hw1, ← hg1] at hx1
  have lw1 : w.heap.size ≤ g1 := by rw [hg1]; exact HBW.out.size
  have HW1 := Lib.hid hw1; have HG1 := Lib.hid hg1; clear hw1 hg1
  have HB1 := Lib.hid (HBW.out.step hb1)
  have Fa := Lib.hid (Fa.out.below hb1)
  have Fb := Lib.hid (Fb.out.below hb1)
  have BX1 := Lib.hid hx1; clear hb1 hx1
  obtain ⟨w2, hw2⟩ : ∃ w2, w2 = w1.alloc (.cells #[.bool qb, .slice ob nb kb, .slice pb mb rb, .bool qbx, .slice obx nbx kbx, .slice pbx mbx rbx] 26) := ⟨_, rfl⟩
  have hb2 : Below w1.heap.size w1 w2 := by rw [hw2]; exact (Below.refl _ _).alloc (Nat.le_refl _) _
  have hx2 := heap_alloc_new w1 (.cells #[.bool qb, .slice ob nb kb, .slice pb mb rb, .bool qbx, .slice obx nbx kbx, .slice pbx mbx rbx] 26)
  obtain ⟨g2, hg2⟩ : ∃ g, g = w1.heap.size := ⟨_, rfl⟩
  rw [← hw2, ← hg2] at hx2
  have lw2 : w.heap.size ≤ g2 := by rw [hg2]; exact HB1.out.size
  have ltBX12 : g1 < g2 := by rw [hg2]; exact below_lt BX1.out
  have hs2 : g2 = w.heap.size + 1 := by rw [hg2, HW1.out]; simp
  have HS2 := Lib.hid hs2; clear hs2
  have HW2 := Lib.hid hw2; have HG2 := Lib.hid hg2; clear hw2 hg2
  have HB2 := Lib.hid (HB1.out.step hb2)
  have Fa := Lib.hid (Fa.out.below hb2)
  have Fb := Lib.hid (Fb.out.below hb2)
  have BX1 := Lib.hid (heap_below BX1.out hb2)
  have BX2 := Lib.hid hx2; clear hb2 hx2
  obtain ⟨w3, hw3⟩ : ∃ w3, w3 = w2.alloc (.cells #[.bool false, .slice none 0 0, .slice none 0 0, .bool false, .slice none 0 0, .slice none 0 0] 26) := ⟨_, rfl⟩
  have hb3 : Below w2.heap.size w2 w3 := by rw [hw3]; exact (Below.refl _ _).alloc (Nat.le_refl _) _
  have hx3 := heap_alloc_new w2 (.cells #[.bool false, .slice none 0 0, .slice none 0 0, .bool false, .slice none 0 0, .slice none 0 0] 26)
  obtain ⟨g3, hg3⟩ : ∃ g, g = w2.heap.size := ⟨_, rfl⟩
  rw [← hw3, ← hg3] at hx3
  have lw3 : w.heap.size ≤ g3 := by rw [hg3]; exact HB2.out.size
  have ltBX13 : g1 < g3 := by rw [hg3]; exact below_lt BX1.out
  have ltBX23 : g2 < g3 := by rw [hg3]; exact below_lt BX2.out
  have hs3 : g3 = w.heap.size + 2 := by rw [hg3, HW2.out, HW1.out]; simp
  have HS3 := Lib.hid hs3; clear hs3
  have HW3 := Lib.hid hw3; have HG3 := Lib.hid hg3; clear hw3 hg3
  have HB3 := Lib.hid (HB2.out.step hb3)
  have Fa := Lib.hid (Fa.out.below hb3)
  have Fb := Lib.hid (Fb.out.below hb3)
  have BX1 := Lib.hid (heap_below BX1.out hb3)
  have BX2 := Lib.hid (heap_below BX2.out hb3)
  have BX3 := Lib.hid hx3; clear hb3 hx3
  go_enter Tryz.func36, Tryz.ntmps36
  go_wp2_with (with_reducible first | refine pauseCall ?_ | refine pauseLoop ?_ | refine pauseDraw ?_ | refine pauseBody ?_ | refine pauseRounds ?_)
  try rw [← HW1.out]
  try rw [← HW2.out]
  try rw [← HW3.out]
  try rw [← HS3.out]
  try rw [← HS2.out]
  try rw [← HG1.out]
  try rw [← HG2.out]
  try rw [← HG3.out]
  refine Pause.mk ?_
  refine wp_region_facts (A := ?aa1) (w := w3) 3 [] (by kernel_rfl) (Fl [KEq (.agg #[.bool qa, .slice oa na ka, .slice pa ma ra, .bool qax, .slice oax nax kax, .slice pax max rax]), KSp (a), KEq (.agg #[.bool qb, .slice ob nb kb, .slice pb mb rb, .bool qbx, .slice obx nbx kbx, .slice pbx mbx rbx])]) (fun i => false) (by kernel_rfl) ?hq1 (monoL (monoC (kEq _) (monoC (kSp _) (monoC (kEq _) monoN)))) ?ha1 ?st1 ?tl1
  case hq1 =>
    intro c a d v w h
    first | (simp only [Exit.then] at h ⊢; exact h) | (simp only [Exit.inBlock, Exit.then] at h ⊢; exact h) | exact h
  case ha1 =>
    intro vals
    simp only [putsTo, dstOf, if_true, Act.put, List.setIfInBounds_toArray, List.set_cons_zero, List.set_cons_succ, List.getElem?_toArray, List.getElem?_cons_zero, List.getElem?_cons_succ, Option.bind_some]
    exact rfl
  case st1 =>
    simp only [List.take_succ_cons, List.take_zero]
    refine stepsOK_cons rfl rfl ?_ (stepsOK_cons rfl rfl ?_ (stepsOK_cons rfl rfl ?_ (stepsOK_nil)))
    · intro vals w1 hb hd
      obtain ⟨e0, e1, e2, e3, e4, e5⟩ := row6 (heap_below BX1.out hb)
      refine stepOK_value (v := .agg #[.bool qa, .slice oa na ka, .slice pa ma ra, .bool qax, .slice oax nax kax, .slice pax max rax]) (w' := w1) (by go_simp) (leaves_mk (Below.refl _ _) rfl (fun h => by cases h))
    · intro vals w1 hb hd
      have d0 : KEq (.agg #[.bool qa, .slice oa na ka, .slice pa ma ra, .bool qax, .slice oax nax kax, .slice pax max rax]) (vals 0) w1 := hd 0 (by kernel_rfl)
      have z0 : vals 0 = _ := d0
      have hs := norm_any _ (a) w1 (Fa.out.below hb)
      have HS := Lib.hid hs; clear hs
      rw [z0]; clear z0
      clear d0 hd
      refine stepOK_call (by go_simp; first | done | exact ⟨⟨rfl, rfl⟩, rfl⟩) ?_
      (with_reducible refine HS.out.mono ?_); rintro e w2 ⟨v, rfl, hb2, hn⟩
      exact ⟨v, rfl, leaves_mk hb2 hn (fun h => by cases h)⟩
    · intro vals w1 hb hd
      obtain ⟨e0, e1, e2, e3, e4, e5⟩ := row6 (heap_below BX2.out hb)
      refine stepOK_value (v := .agg #[.bool qb, .slice ob nb kb, .slice pb mb rb, .bool qbx, .slice obx nbx kbx, .slice pbx mbx rbx]) (w' := w1) (by go_simp) (leaves_mk (Below.refl _ _) rfl (fun h => by cases h))
  case tl1 =>
    intro vals w4 hb4 hf hdis
    simp only [List.drop_succ_cons, List.drop_zero]
    obtain ⟨u1_1, hu1⟩ : ∃ u, u = vals 1 := ⟨_, rfl⟩
    have hn1_1 : IsSp w4 (vals 1) (a) := hf 1 (by decide)
    rw [← hu1] at hn1_1 ⊢; clear hu1
    have z2 : vals 2 = _ := hf 2 (by decide)
    try rw [z2]
    clear z2
    clear hf hdis
    have HB4 := Lib.hid (HB3.out.step hb4)
    have Fa := Lib.hid (Fa.out.below hb4)
    have Fb := Lib.hid (Fb.out.below hb4)
    have BX1 := Lib.hid (heap_below BX1.out hb4)
    have BX2 := Lib.hid (heap_below BX2.out hb4)
    have BX3 := Lib.hid (heap_below BX3.out hb4)
    clear hb4
    have N1_1 := Lib.hid hn1_1; clear hn1_1
    obtain ⟨s2, o2, n2, c2, a2, m2, d2, s2x, o2x, n2x, c2x, a2x, m2x, d2x, rfl⟩ := N1_1.out.shape
    have N1_1l := Lib.hid (isSp_ends N1_1.out).1; have N1_1h := Lib.hid (isSp_ends N1_1.out).2
    skip
    have hs := norm_any _ (b) w4 Fb.out
    have HS := Lib.hid hs; clear hs
    go_wp2_with (with_reducible first | refine pauseCall ?_ | refine pauseLoop ?_ | refine pauseDraw ?_ | refine pauseBody ?_ | refine pauseRounds ?_)
    refine Pause.mk ?_
    (with_reducible refine HS.out.mono ?_); rintro e w5 ⟨v5, rfl, hb5, hn5⟩
    clear HS
    have HB5 := Lib.hid (HB4.out.step hb5)
    have Fa := Lib.hid (Fa.out.below hb5)
    have Fb := Lib.hid (Fb.out.below hb5)
    have N1_1 := Lib.hid (N1_1.out.below hb5)
    have N1_1l := Lib.hid (N1_1l.out.below hb5)
    have N1_1h := Lib.hid (N1_1h.out.below hb5)
    have BX1 := Lib.hid (heap_below BX1.out hb5)
    have BX2 := Lib.hid (heap_below BX2.out hb5)
    have BX3 := Lib.hid (heap_below BX3.out hb5)
    have N5 := Lib.hid hn5; clear hn5
    obtain ⟨s3, o3, n3, c3, a3, m3, d3, s3x, o3x, n3x, c3x, a3x, m3x, d3x, rfl⟩ := N5.out.shape
    have N5l := Lib.hid (isSp_ends N5.out).1; have N5h := Lib.hid (isSp_ends N5.out).2
    clear hb5
    go_wp2_with (with_reducible refine wpList_pauseS ?_)
    refine wpList_stL g1 0 [.bool s2, .slice o2 n2 c2, .slice a2 m2 d2, .bool s2x, .slice o2x n2x c2x, .slice a2x m2x d2x] BX1.out rfl rfl (Nat.le_of_ble_eq_true rfl) (by kernel_rfl) rfl ?_
    intro w6 hp6
    have Fa := Lib.hid (putL_SS hp6 Fa.out BX1.out noW6)
    have Fb := Lib.hid (putL_SS hp6 Fb.out BX1.out noW6)
    have N1_1 := Lib.hid (putL_SI hp6 N1_1.out BX1.out noW6)
    have N1_1l := Lib.hid (putL_I hp6 N1_1l.out BX1.out noW6)
    have N1_1h := Lib.hid (putL_I hp6 N1_1h.out BX1.out noW6)
    have N5 := Lib.hid (putL_SI hp6 N5.out BX1.out noW6)
    have N5l := Lib.hid (putL_I hp6 N5l.out BX1.out noW6)
    have N5h := Lib.hid (putL_I hp6 N5h.out BX1.out noW6)
    have BX2 := Lib.hid (putLx hp6 BX2.out (by omega))
    have BX3 := Lib.hid (putLx hp6 BX3.out (by omega))
    have nx6 : w6.heap[g1]? = some (.cells #[.bool s2, .slice o2 n2 c2, .slice a2 m2 d2, .bool s2x, .slice o2x n2x c2x, .slice a2x m2x d2x] 26) := by rw [hp6]; exact putL_6 BX1.out
    have BX1 := Lib.hid nx6; clear nx6
    have HB6 := Lib.hid (putLb hp6 HB5.out (by omega))
    clear hp6
    go_wp2_with (with_reducible refine wpList_pauseS ?_)
    refine wpList_stL g2 0 [.bool s3, .slice o3 n3 c3, .slice a3 m3 d3, .bool s3x, .slice o3x n3x c3x, .slice a3x m3x d3x] BX2.out rfl rfl (Nat.le_of_ble_eq_true rfl) (by kernel_rfl) rfl ?_
    intro w7 hp7
    have Fa := Lib.hid (putL_SS hp7 Fa.out BX2.out noW6)
    have Fb := Lib.hid (putL_SS hp7 Fb.out BX2.out noW6)
    have N1_1 := Lib.hid (putL_SI hp7 N1_1.out BX2.out noW6)
    have N1_1l := Lib.hid (putL_I hp7 N1_1l.out BX2.out noW6)
    have N1_1h := Lib.hid (putL_I hp7 N1_1h.out BX2.out noW6)
    have N5 := Lib.hid (putL_SI hp7 N5.out BX2.out noW6)
    have N5l := Lib.hid (putL_I hp7 N5l.out BX2.out noW6)
    have N5h := Lib.hid (putL_I hp7 N5h.out BX2.out noW6)
    have BX1 := Lib.hid (putLx hp7 BX1.out (by omega))
    have BX3 := Lib.hid (putLx hp7 BX3.out (by omega))
    have nx7 : w7.heap[g2]? = some (.cells #[.bool s3, .slice o3 n3 c3, .slice a3 m3 d3, .bool s3x, .slice o3x n3x c3x, .slice a3x m3x d3x] 26) := by rw [hp7]; exact putL_6 BX2.out
    have BX2 := Lib.hid nx7; clear nx7
    have HB7 := Lib.hid (putLb hp7 HB6.out (by omega))
    clear hp7
    go_wp2_with (with_reducible first | refine pauseCall ?_ | refine pauseLoop ?_ | refine pauseDraw ?_ | refine pauseBody ?_ | refine pauseRounds ?_)
    refine Pause.mk ?_
    have k4 := rl_mx ((a).1) ((b).1)
    have k5 := rl_mn ((a).2) ((b).2)
    refine wp_region_facts (A := ?aa6) (w := w7) 12 [] (by kernel_rfl) (Fl [KEq (.pointer (some ⟨g1, 0, none⟩)), KEq (.agg #[.bool s2, .slice o2 n2 c2, .slice a2 m2 d2]), KEq (.pointer (some ⟨g2, 0, none⟩)), KEq (.agg #[.bool s3, .slice o3 n3 c3, .slice a3 m3 d3]), KIs (mx ((a).1) ((b).1)), KEq (.pointer (some ⟨g1, 3, none⟩)), KEq (.agg #[.bool s2x, .slice o2x n2x c2x, .slice a2x m2x d2x]), KEq (.pointer (some ⟨g2, 3, none⟩)), KEq (.agg #[.bool s3x, .slice o3x n3x c3x, .slice a3x m3x d3x]), KIs (mn ((a).2) ((b).2)), KNew w7.heap.size #[.bool false, .slice none 0 0, .slice none 0 0] 24, KNew w7.heap.size #[.bool false, .slice none 0 0, .slice none 0 0] 24]) (fun i => i == 10 || i == 11) (by kernel_rfl) ?hq6 (monoL (monoC (kEq _) (monoC (kEq _) (monoC (kEq _) (monoC (kEq _) (monoC (kIs _) (monoC (kEq _) (monoC (kEq _) (monoC (kEq _) (monoC (kEq _) (monoC (kIs _) (monoC (kNew _ _ _) (monoC (kNew _ _ _) monoN))))))))))))) ?ha6 ?st6 ?tl6
    case hq6 =>
      intro c a d v w h
      first | (simp only [Exit.then] at h ⊢; exact h) | (simp only [Exit.inBlock, Exit.then] at h ⊢; exact h) | exact h
    case ha6 =>
      intro vals
      simp only [putsTo, dstOf, if_true, Act.put, List.setIfInBounds_toArray, List.set_cons_zero, List.set_cons_succ, List.getElem?_toArray, List.getElem?_cons_zero, List.getElem?_cons_succ, Option.bind_some]
      exact rfl
    case st6 =>
      simp only [List.take_succ_cons, List.take_zero]
      refine stepsOK_cons rfl rfl ?_ (stepsOK_cons rfl rfl ?_ (stepsOK_cons rfl rfl ?_ (stepsOK_cons rfl rfl ?_ (stepsOK_cons rfl rfl ?_ (stepsOK_cons rfl rfl ?_ (stepsOK_cons rfl rfl ?_ (stepsOK_cons rfl rfl ?_ (stepsOK_cons rfl rfl ?_ (stepsOK_cons rfl rfl ?_ (stepsOK_cons rfl rfl ?_ (stepsOK_cons rfl rfl ?_ (stepsOK_nil))))))))))))
      · intro vals w1 hb hd
        refine stepOK_value (v := (.pointer (some ⟨g1, 0, none⟩))) (w' := w1) (by go_simp) (leaves_mk (Below.refl _ _) rfl (fun h => by cases h))
      · intro vals w1 hb hd
        have d0 : KEq (.pointer (some ⟨g1, 0, none⟩)) (vals 0) w1 := hd 0 (by kernel_rfl)
        rw [show vals 0 = _ from d0]
        obtain ⟨e0, e1, e2, e3, e4, e5⟩ := row6 (heap_below BX1.out hb)
        refine stepOK_value (v := .agg #[.bool s2, .slice o2 n2 c2, .slice a2 m2 d2]) (w' := w1) (by go_simp) (leaves_mk (Below.refl _ _) rfl (fun h => by cases h))
      · intro vals w1 hb hd
        refine stepOK_value (v := (.pointer (some ⟨g2, 0, none⟩))) (w' := w1) (by go_simp) (leaves_mk (Below.refl _ _) rfl (fun h => by cases h))
      · intro vals w1 hb hd
        have d2 : KEq (.pointer (some ⟨g2, 0, none⟩)) (vals 2) w1 := hd 2 (by kernel_rfl)
        rw [show vals 2 = _ from d2]
        obtain ⟨e0, e1, e2, e3, e4, e5⟩ := row6 (heap_below BX2.out hb)
        refine stepOK_value (v := .agg #[.bool s3, .slice o3 n3 c3, .slice a3 m3 d3]) (w' := w1) (by go_simp) (leaves_mk (Below.refl _ _) rfl (fun h => by cases h))
      · intro vals w1 hb hd
        have d1 : KEq (.agg #[.bool s2, .slice o2 n2 c2, .slice a2 m2 d2]) (vals 1) w1 := hd 1 (by kernel_rfl)
        have d3 : KEq (.agg #[.bool s3, .slice o3 n3 c3, .slice a3 m3 d3]) (vals 3) w1 := hd 3 (by kernel_rfl)
        have z1 : vals 1 = _ := d1
        have z3 : vals 3 = _ := d3
        have hs := maxq_any _ ((a).1) _ ((b).1) w1 ((N1_1l.out.below hb).is (by omega)) ((N5l.out.below hb).is (by omega)) (by omega) (by omega)
        have HS := Lib.hid hs; clear hs
        rw [z1]; clear z1
        rw [z3]; clear z3
        clear d1 d3 hd
        refine stepOK_call (by go_simp; first | done | exact ⟨⟨rfl, rfl⟩, rfl⟩) ?_
        (with_reducible refine HS.out.mono ?_); rintro e w2 ⟨v, rfl, hb2, hn⟩
        exact ⟨v, rfl, leaves_mk hb2 hn (fun h => by cases h)⟩
      · intro vals w1 hb hd
        refine stepOK_value (v := (.pointer (some ⟨g1, 3, none⟩))) (w' := w1) (by go_simp) (leaves_mk (Below.refl _ _) rfl (fun h => by cases h))
      · intro vals w1 hb hd
        have d5 : KEq (.pointer (some ⟨g1, 3, none⟩)) (vals 5) w1 := hd 5 (by kernel_rfl)
        rw [show vals 5 = _ from d5]
        obtain ⟨e0, e1, e2, e3, e4, e5⟩ := row6 (heap_below BX1.out hb)
        refine stepOK_value (v := .agg #[.bool s2x, .slice o2x n2x c2x, .slice a2x m2x d2x]) (w' := w1) (by go_simp) (leaves_mk (Below.refl _ _) rfl (fun h => by cases h))
      · intro vals w1 hb hd
        refine stepOK_value (v := (.pointer (some ⟨g2, 3, none⟩))) (w' := w1) (by go_simp) (leaves_mk (Below.refl _ _) rfl (fun h => by cases h))
      · intro vals w1 hb hd
        have d7 : KEq (.pointer (some ⟨g2, 3, none⟩)) (vals 7) w1 := hd 7 (by kernel_rfl)
        rw [show vals 7 = _ from d7]
        obtain ⟨e0, e1, e2, e3, e4, e5⟩ := row6 (heap_below BX2.out hb)
        refine stepOK_value (v := .agg #[.bool s3x, .slice o3x n3x c3x, .slice a3x m3x d3x]) (w' := w1) (by go_simp) (leaves_mk (Below.refl _ _) rfl (fun h => by cases h))
      · intro vals w1 hb hd
        have d6 : KEq (.agg #[.bool s2x, .slice o2x n2x c2x, .slice a2x m2x d2x]) (vals 6) w1 := hd 6 (by kernel_rfl)
        have d8 : KEq (.agg #[.bool s3x, .slice o3x n3x c3x, .slice a3x m3x d3x]) (vals 8) w1 := hd 8 (by kernel_rfl)
        have z6 : vals 6 = _ := d6
        have z8 : vals 8 = _ := d8
        have hs := minq_any _ ((a).2) _ ((b).2) w1 ((N1_1h.out.below hb).is (by omega)) ((N5h.out.below hb).is (by omega)) (by omega) (by omega)
        have HS := Lib.hid hs; clear hs
        rw [z6]; clear z6
        rw [z8]; clear z8
        clear d6 d8 hd
        refine stepOK_call (by go_simp; first | done | exact ⟨⟨rfl, rfl⟩, rfl⟩) ?_
        (with_reducible refine HS.out.mono ?_); rintro e w2 ⟨v, rfl, hb2, hn⟩
        exact ⟨v, rfl, leaves_mk hb2 hn (fun h => by cases h)⟩
      · intro vals w1 hb hd
        refine stepOK_value (v := .pointer (some ⟨w1.heap.size, 0, none⟩)) (w' := w1.alloc (.cells #[.bool false, .slice none 0 0, .slice none 0 0] 24)) (by go_simp) (leaves_mk ((Below.refl _ _).alloc (Nat.le_refl _) _) ⟨_, hb.size, rfl, heap_alloc_new _ _⟩ (fun _ => ⟨rfl, by simp⟩))
      · intro vals w1 hb hd
        refine stepOK_value (v := .pointer (some ⟨w1.heap.size, 0, none⟩)) (w' := w1.alloc (.cells #[.bool false, .slice none 0 0, .slice none 0 0] 24)) (by go_simp) (leaves_mk ((Below.refl _ _).alloc (Nat.le_refl _) _) ⟨_, hb.size, rfl, heap_alloc_new _ _⟩ (fun _ => ⟨rfl, by simp⟩))
    case tl6 =>
      intro vals w8 hb8 hf hdis
      simp only [List.drop_succ_cons, List.drop_zero]
      obtain ⟨u6_4, hu4⟩ : ∃ u, u = vals 4 := ⟨_, rfl⟩
      have hn6_4 : IsR w8 (vals 4) (mx ((a).1) ((b).1)) := hf 4 (by decide)
      rw [← hu4] at hn6_4 ⊢; clear hu4
      obtain ⟨u6_9, hu9⟩ : ∃ u, u = vals 9 := ⟨_, rfl⟩
      have hn6_9 : IsR w8 (vals 9) (mn ((a).2) ((b).2)) := hf 9 (by decide)
      rw [← hu9] at hn6_9 ⊢; clear hu9
      obtain ⟨g6_10, hg6_10, ev10, hz6_10⟩ : KNew w7.heap.size #[.bool false, .slice none 0 0, .slice none 0 0] 24 (vals 10) w8 := hf 10 (by decide)
      have eq10 := ev10
      rw [ev10]; clear ev10
      have lw6_10 : w.heap.size ≤ g6_10 := Nat.le_trans HB7.out.size hg6_10
      have ltBX16_10 : g1 < g6_10 := Nat.lt_of_lt_of_le (below_lt BX1.out) hg6_10
      have ltBX26_10 : g2 < g6_10 := Nat.lt_of_lt_of_le (below_lt BX2.out) hg6_10
      have ltBX36_10 : g3 < g6_10 := Nat.lt_of_lt_of_le (below_lt BX3.out) hg6_10
      obtain ⟨g6_11, hg6_11, ev11, hz6_11⟩ : KNew w7.heap.size #[.bool false, .slice none 0 0, .slice none 0 0] 24 (vals 11) w8 := hf 11 (by decide)
      have ne10_11 : g6_10 ≠ g6_11 := fun e => hdis 10 11 (by decide) (by decide) (by decide) (by decide) (by decide) (by rw [eq10, ev11, e])
      have eq11 := ev11
      rw [ev11]; clear ev11
      have lw6_11 : w.heap.size ≤ g6_11 := Nat.le_trans HB7.out.size hg6_11
      have ltBX16_11 : g1 < g6_11 := Nat.lt_of_lt_of_le (below_lt BX1.out) hg6_11
      have ltBX26_11 : g2 < g6_11 := Nat.lt_of_lt_of_le (below_lt BX2.out) hg6_11
      have ltBX36_11 : g3 < g6_11 := Nat.lt_of_lt_of_le (below_lt BX3.out) hg6_11
      clear hf hdis eq10 eq11
      have HB8 := Lib.hid (HB7.out.step hb8)
      have Fa := Lib.hid (Fa.out.below hb8)
      have Fb := Lib.hid (Fb.out.below hb8)
      have N1_1 := Lib.hid (N1_1.out.below hb8)
      have N1_1l := Lib.hid (N1_1l.out.below hb8)
      have N1_1h := Lib.hid (N1_1h.out.below hb8)
      have N5 := Lib.hid (N5.out.below hb8)
      have N5l := Lib.hid (N5l.out.below hb8)
      have N5h := Lib.hid (N5h.out.below hb8)
      have BX1 := Lib.hid (heap_below BX1.out hb8)
      have BX2 := Lib.hid (heap_below BX2.out hb8)
      have BX3 := Lib.hid (heap_below BX3.out hb8)
      clear hb8
      have BX6_10 := Lib.hid hz6_10; clear hz6_10 hg6_10
      have BX6_11 := Lib.hid hz6_11; clear hz6_11 hg6_11
      have N6_4 := Lib.hid hn6_4; clear hn6_4
      obtain ⟨s7, o7, n7, c7, a7, m7, d7, rfl⟩ := N6_4.out.shape
      have N6_9 := Lib.hid hn6_9; clear hn6_9
      obtain ⟨s8, o8, n8, c8, a8, m8, d8, rfl⟩ := N6_9.out.shape
      skip
      go_wp2_with (with_reducible refine wpList_pauseS ?_)
      refine wpList_stL g6_10 0 [.bool s7, .slice o7 n7 c7, .slice a7 m7 d7] BX6_10.out rfl rfl (Nat.le_of_ble_eq_true rfl) (by kernel_rfl) rfl ?_
      intro w9 hp9
      have Fa := Lib.hid (putL_SS hp9 Fa.out BX6_10.out noW3)
      have Fb := Lib.hid (putL_SS hp9 Fb.out BX6_10.out noW3)
      have N1_1 := Lib.hid (putL_SI hp9 N1_1.out BX6_10.out noW3)
      have N1_1l := Lib.hid (putL_I hp9 N1_1l.out BX6_10.out noW3)
      have N1_1h := Lib.hid (putL_I hp9 N1_1h.out BX6_10.out noW3)
      have N5 := Lib.hid (putL_SI hp9 N5.out BX6_10.out noW3)
      have N5l := Lib.hid (putL_I hp9 N5l.out BX6_10.out noW3)
      have N5h := Lib.hid (putL_I hp9 N5h.out BX6_10.out noW3)
      have N6_4 := Lib.hid (putL_I hp9 N6_4.out BX6_10.out noW3)
      have N6_9 := Lib.hid (putL_I hp9 N6_9.out BX6_10.out noW3)
      have BX1 := Lib.hid (putLx hp9 BX1.out (by omega))
      have BX2 := Lib.hid (putLx hp9 BX2.out (by omega))
      have BX3 := Lib.hid (putLx hp9 BX3.out (by omega))
      have BX6_11 := Lib.hid (putLx hp9 BX6_11.out (by omega))
      have nx9 : w9.heap[g6_10]? = some (.cells #[.bool s7, .slice o7 n7 c7, .slice a7 m7 d7] 24) := by rw [hp9]; exact putL_r BX6_10.out
      have BX6_10 := Lib.hid nx9; clear nx9
      have HB9 := Lib.hid (putLb hp9 HB8.out (by omega))
      clear hp9
      go_wp2_with (with_reducible refine wpList_pauseS ?_)
      refine wpList_stL g6_11 0 [.bool s8, .slice o8 n8 c8, .slice a8 m8 d8] BX6_11.out rfl rfl (Nat.le_of_ble_eq_true rfl) (by kernel_rfl) rfl ?_
      intro w10 hp10
      have Fa := Lib.hid (putL_SS hp10 Fa.out BX6_11.out noW3)
      have Fb := Lib.hid (putL_SS hp10 Fb.out BX6_11.out noW3)
      have N1_1 := Lib.hid (putL_SI hp10 N1_1.out BX6_11.out noW3)
      have N1_1l := Lib.hid (putL_I hp10 N1_1l.out BX6_11.out noW3)
      have N1_1h := Lib.hid (putL_I hp10 N1_1h.out BX6_11.out noW3)
      have N5 := Lib.hid (putL_SI hp10 N5.out BX6_11.out noW3)
      have N5l := Lib.hid (putL_I hp10 N5l.out BX6_11.out noW3)
      have N5h := Lib.hid (putL_I hp10 N5h.out BX6_11.out noW3)
      have N6_4 := Lib.hid (putL_I hp10 N6_4.out BX6_11.out noW3)
      have N6_9 := Lib.hid (putL_I hp10 N6_9.out BX6_11.out noW3)
      have BX1 := Lib.hid (putLx hp10 BX1.out (by omega))
      have BX2 := Lib.hid (putLx hp10 BX2.out (by omega))
      have BX3 := Lib.hid (putLx hp10 BX3.out (by omega))
      have BX6_10 := Lib.hid (putLx hp10 BX6_10.out (by omega))
      have nx10 : w10.heap[g6_11]? = some (.cells #[.bool s8, .slice o8 n8 c8, .slice a8 m8 d8] 24) := by rw [hp10]; exact putL_r BX6_11.out
      have BX6_11 := Lib.hid nx10; clear nx10
      have HB10 := Lib.hid (putLb hp10 HB9.out (by omega))
      clear hp10
      obtain ⟨x9_0, x9_1, x9_2⟩ := row3 BX6_10.out
      obtain ⟨x10_0, x10_1, x10_2⟩ := row3 BX6_11.out
      have hs := cmpq_any _ (mx ((a).1) ((b).1)) _ (mn ((a).2) ((b).2)) w10 (N6_4.out.is (by omega)) (N6_9.out.is (by omega)) (by omega) (by omega)
      rw [← HN.out] at hs
      have HS := Lib.hid hs; clear hs
      go_wp2_with (with_reducible first | refine pauseCall ?_ | refine pauseLoop ?_ | refine pauseDraw ?_ | refine pauseBody ?_ | refine pauseRounds ?_)
      clear x9_0 x9_1 x9_2 x10_0 x10_1 x10_2
      refine Pause.mk ?_
      (with_reducible refine HS.out.mono ?_); rintro e w11 ⟨rfl, hb11⟩
      clear HS
      have HB11 := Lib.hid (HB10.out.step hb11)
      have Fa := Lib.hid (Fa.out.below hb11)
      have Fb := Lib.hid (Fb.out.below hb11)
      have N1_1 := Lib.hid (N1_1.out.below hb11)
      have N1_1l := Lib.hid (N1_1l.out.below hb11)
      have N1_1h := Lib.hid (N1_1h.out.below hb11)
      have N5 := Lib.hid (N5.out.below hb11)
      have N5l := Lib.hid (N5l.out.below hb11)
      have N5h := Lib.hid (N5h.out.below hb11)
      have N6_4 := Lib.hid (N6_4.out.below hb11)
      have N6_9 := Lib.hid (N6_9.out.below hb11)
      have BX1 := Lib.hid (heap_below BX1.out hb11)
      have BX2 := Lib.hid (heap_below BX2.out hb11)
      have BX3 := Lib.hid (heap_below BX3.out hb11)
      have BX6_10 := Lib.hid (heap_below BX6_10.out hb11)
      have BX6_11 := Lib.hid (heap_below BX6_11.out hb11)
      clear hb11
      obtain ⟨x11_0, x11_1, x11_2⟩ := row3 BX6_10.out
      obtain ⟨x12_0, x12_1, x12_2⟩ := row3 BX6_11.out
      obtain ⟨w12, hw12⟩ : ∃ w12, w12 = w11.alloc (.cells #[.bool s7, .slice o7 n7 c7, .slice a7 m7 d7, .bool s8, .slice o8 n8 c8, .slice a8 m8 d8] 24) := ⟨_, rfl⟩
      have hb12 : Below w11.heap.size w11 w12 := by rw [hw12]; exact (Below.refl _ _).alloc (Nat.le_refl _) _
      have hx12 := heap_alloc_new w11 (.cells #[.bool s7, .slice o7 n7 c7, .slice a7 m7 d7, .bool s8, .slice o8 n8 c8, .slice a8 m8 d8] 24)
      obtain ⟨g12, hg12⟩ : ∃ g, g = w11.heap.size := ⟨_, rfl⟩
      rw [← hw12, ← hg12] at hx12
      have lw12 : w.heap.size ≤ g12 := by rw [hg12]; exact HB11.out.size
      have ltBX112 : g1 < g12 := by rw [hg12]; exact below_lt BX1.out
      have ltBX212 : g2 < g12 := by rw [hg12]; exact below_lt BX2.out
      have ltBX312 : g3 < g12 := by rw [hg12]; exact below_lt BX3.out
      have ltBX6_1012 : g6_10 < g12 := by rw [hg12]; exact below_lt BX6_10.out
      have ltBX6_1112 : g6_11 < g12 := by rw [hg12]; exact below_lt BX6_11.out
      have HW12 := Lib.hid hw12; have HG12 := Lib.hid hg12; clear hw12 hg12
      have HB12 := Lib.hid (HB11.out.step hb12)
      have Fa := Lib.hid (Fa.out.below hb12)
      have Fb := Lib.hid (Fb.out.below hb12)
      have N1_1 := Lib.hid (N1_1.out.below hb12)
      have N1_1l := Lib.hid (N1_1l.out.below hb12)
      have N1_1h := Lib.hid (N1_1h.out.below hb12)
      have N5 := Lib.hid (N5.out.below hb12)
      have N5l := Lib.hid (N5l.out.below hb12)
      have N5h := Lib.hid (N5h.out.below hb12)
      have N6_4 := Lib.hid (N6_4.out.below hb12)
      have N6_9 := Lib.hid (N6_9.out.below hb12)
      have BX1 := Lib.hid (heap_below BX1.out hb12)
      have BX2 := Lib.hid (heap_below BX2.out hb12)
      have BX3 := Lib.hid (heap_below BX3.out hb12)
      have BX6_10 := Lib.hid (heap_below BX6_10.out hb12)
      have BX6_11 := Lib.hid (heap_below BX6_11.out hb12)
      have BX12 := Lib.hid hx12; clear hb12 hx12
      obtain ⟨k13, k14⟩ := rl_around2 (mx ((a).1) ((b).1)) (mn ((a).2) ((b).2))
      have hs := of2 w12 BX12.out (N6_4.out.is (by omega)) (by omega) (N6_9.out.is (by omega)) (by omega)
      have HS := Lib.hid hs; clear hs
      try rw [HG12.out] at x11_0
      try rw [HG12.out] at x11_1
      try rw [HG12.out] at x11_2
      try rw [HG12.out] at x12_0
      try rw [HG12.out] at x12_1
      try rw [HG12.out] at x12_2
      go_wp2_with (with_reducible first | refine pauseCall ?_ | refine pauseLoop ?_ | refine pauseDraw ?_ | refine pauseBody ?_ | refine pauseRounds ?_)
      try rw [← HW12.out]
      try rw [← HG12.out]
      clear x11_0 x11_1 x11_2 x12_0 x12_1 x12_2
      refine Pause.mk ?_
      (with_reducible refine HS.out.mono ?_); rintro e w13 ⟨v13, rfl, hb13, hn13⟩
      clear HS
      have HB13 := Lib.hid (HB12.out.step hb13)
      have Fa := Lib.hid (Fa.out.below hb13)
      have Fb := Lib.hid (Fb.out.below hb13)
      have N1_1 := Lib.hid (N1_1.out.below hb13)
      have N1_1l := Lib.hid (N1_1l.out.below hb13)
      have N1_1h := Lib.hid (N1_1h.out.below hb13)
      have N5 := Lib.hid (N5.out.below hb13)
      have N5l := Lib.hid (N5l.out.below hb13)
      have N5h := Lib.hid (N5h.out.below hb13)
      have N6_4 := Lib.hid (N6_4.out.below hb13)
      have N6_9 := Lib.hid (N6_9.out.below hb13)
      have BX1 := Lib.hid (heap_below BX1.out hb13)
      have BX2 := Lib.hid (heap_below BX2.out hb13)
      have BX3 := Lib.hid (heap_below BX3.out hb13)
      have BX6_10 := Lib.hid (heap_below BX6_10.out hb13)
      have BX6_11 := Lib.hid (heap_below BX6_11.out hb13)
      have BX12 := Lib.hid (heap_below BX12.out hb13)
      clear BX12
      have N13 := Lib.hid hn13; clear hn13
      obtain ⟨s15, o15, n15, c15, a15, m15, d15, s15x, o15x, n15x, c15x, a15x, m15x, d15x, rfl⟩ := N13.out.shape
      have N13l := Lib.hid (isSp_ends N13.out).1; have N13h := Lib.hid (isSp_ends N13.out).2
      clear hb13
      go_wp2_with (with_reducible refine wpList_pauseS ?_)
      refine wpList_stL g3 0 [.bool s15, .slice o15 n15 c15, .slice a15 m15 d15, .bool s15x, .slice o15x n15x c15x, .slice a15x m15x d15x] BX3.out rfl rfl (Nat.le_of_ble_eq_true rfl) (by kernel_rfl) rfl ?_
      intro w14 hp14
      have Fa := Lib.hid (putL_SS hp14 Fa.out BX3.out noW6)
      have Fb := Lib.hid (putL_SS hp14 Fb.out BX3.out noW6)
      have N1_1 := Lib.hid (putL_SI hp14 N1_1.out BX3.out noW6)
      have N1_1l := Lib.hid (putL_I hp14 N1_1l.out BX3.out noW6)
      have N1_1h := Lib.hid (putL_I hp14 N1_1h.out BX3.out noW6)
      have N5 := Lib.hid (putL_SI hp14 N5.out BX3.out noW6)
      have N5l := Lib.hid (putL_I hp14 N5l.out BX3.out noW6)
      have N5h := Lib.hid (putL_I hp14 N5h.out BX3.out noW6)
      have N6_4 := Lib.hid (putL_I hp14 N6_4.out BX3.out noW6)
      have N6_9 := Lib.hid (putL_I hp14 N6_9.out BX3.out noW6)
      have N13 := Lib.hid (putL_SI hp14 N13.out BX3.out noW6)
      have N13l := Lib.hid (putL_I hp14 N13l.out BX3.out noW6)
      have N13h := Lib.hid (putL_I hp14 N13h.out BX3.out noW6)
      have BX1 := Lib.hid (putLx hp14 BX1.out (by omega))
      have BX2 := Lib.hid (putLx hp14 BX2.out (by omega))
      have BX6_10 := Lib.hid (putLx hp14 BX6_10.out (by omega))
      have BX6_11 := Lib.hid (putLx hp14 BX6_11.out (by omega))
      have nx14 : w14.heap[g3]? = some (.cells #[.bool s15, .slice o15 n15 c15, .slice a15 m15 d15, .bool s15x, .slice o15x n15x c15x, .slice a15x m15x d15x] 26) := by rw [hp14]; exact putL_6 BX3.out
      have BX3 := Lib.hid nx14; clear nx14
      have HB14 := Lib.hid (putLb hp14 HB13.out (by omega))
      clear hp14
      obtain ⟨x16_0, x16_1, x16_2, x16_3, x16_4, x16_5⟩ := row6 BX3.out
      go_wp2_with (with_reducible first | refine pauseCall ?_ | refine pauseLoop ?_ | refine pauseDraw ?_ | refine pauseBody ?_ | refine pauseRounds ?_)
      clear x16_0 x16_1 x16_2 x16_3 x16_4 x16_5
      refine Pause.mk ?_
      refine ret_span2 rfl g3 _ _ _ _ _ _ (by first | rfl | exact rfl) BX3.out rfl ?_
      exact ⟨_, rfl, HB14.out, N13.out⟩
theorem smeet_any (va : Value) (a : Rat × Rat) (vb : Value) (b : Rat × Rat) (w : World) (ha : SpIs w va a) (hb : SpIs w vb b) (la1 : rl a.1 ≤ 39000) (la2 : rl a.2 ≤ 39000) (lb1 : rl b.1 ≤ 39000) (lb2 : rl b.2 ≤ 39000) :
    Calls Tryz.prog 36 #[va, vb] w (RetSpE w (stV a b) (errV (stC a b))) := by
  unfold stV stC
  by_cases h : (sMeet a b).1 ≤ (sMeet a b).2
  · rw [if_pos h, if_pos h]
    have k := smeet_2 va a vb b w ha hb la1 la2 lb1 lb2 h
    rw [show around2 (mx ((a).1) ((b).1)) (mn ((a).2) ((b).2)) = sMeet a b from around2_le h] at k; exact k
  · rw [if_neg h, if_neg h]; exact smeet_1 va a vb b w ha hb la1 la2 lb1 lb2 h
end Go.Proofs.YtaefimegiobkmaaGreatDoor
