/-
  The texts Span4, Span5, Span5d, one behind the other (what the law leans on).
  Conditions: each theorem's own.
-/
import Derived.Test.YtaefimegiobkmaaDoorMA4
/-
  span: sums, complements, products, hulls, widths: what they hand back.
  Conditions: each theorem's own.
-/
namespace Go.Proofs.YtaefimegiobkmaaDoor
open Go.RowKit Go.ChangeShapes Go.WideShapes

set_option maxRecDepth 100000 in
set_option maxHeartbeats 3200000 in
theorem sneg_raw (va : Value) (a : Rat × Rat) (w : World) (ha : SpIs w va a) (la1 : rl a.1 ≤ 39000) (la2 : rl a.2 ≤ 39000) :
    Calls Tryd.prog 11 #[va] w (RetSp w (around2 (-((a).1)) (-((a).2)))) := by
  have HBW := Lib.hid (Below.refl w.heap.size w)
  have kz0 : rl 0 ≤ 1 := by rw [rl_zero]; exact Nat.le_refl _
  obtain ⟨qa, oa, na, ka, pa, ma, ra, qax, oax, nax, kax, pax, max, rax, rfl⟩ := ha.shape
  have hla := ha.rl; have hoa := ha.ok; obtain ⟨hlaa, hlab⟩ := hla
  have hoa := Lib.hid hoa
  have Fa := Lib.hid ha; clear ha
  obtain ⟨w1, hw1⟩ : ∃ w1, w1 = w.alloc (.cells #[.bool qa, .slice oa na ka, .slice pa ma ra, .bool qax, .slice oax nax kax, .slice pax max rax] 26) := ⟨_, rfl⟩
  have hb1 : Below w.heap.size w w1 := by rw [hw1]; exact (Below.refl _ _).alloc (Nat.le_refl _) _
  have hx1 := heap_alloc_new w (.cells #[.bool qa, .slice oa na ka, .slice pa ma ra, .bool qax, .slice oax nax kax, .slice pax max rax] 26)
  obtain ⟨g1, hg1⟩ : ∃ g, g = w.heap.size := ⟨_, rfl⟩
  rw [← hw1, ← hg1] at hx1
  have lw1 : w.heap.size ≤ g1 := by rw [hg1]; exact HBW.out.size
  have HW1 := Lib.hid hw1; have HG1 := Lib.hid hg1; clear hw1 hg1
  have HB1 := Lib.hid (HBW.out.step hb1)
  have Fa := Lib.hid (Fa.out.below hb1)
  have BX1 := Lib.hid hx1; clear hb1 hx1
  obtain ⟨w2, hw2⟩ : ∃ w2, w2 = w1.alloc (.cells #[.bool false, .slice none 0 0, .slice none 0 0, .bool false, .slice none 0 0, .slice none 0 0] 26) := ⟨_, rfl⟩
  have hb2 : Below w1.heap.size w1 w2 := by rw [hw2]; exact (Below.refl _ _).alloc (Nat.le_refl _) _
  have hx2 := heap_alloc_new w1 (.cells #[.bool false, .slice none 0 0, .slice none 0 0, .bool false, .slice none 0 0, .slice none 0 0] 26)
  obtain ⟨g2, hg2⟩ : ∃ g, g = w1.heap.size := ⟨_, rfl⟩
  rw [← hw2, ← hg2] at hx2
  have lw2 : w.heap.size ≤ g2 := by rw [hg2]; exact HB1.out.size
  have ltBX12 : g1 < g2 := by rw [hg2]; exact below_lt BX1.out
  have hs2 : g2 = w.heap.size + 1 := by rw [hg2, HW1.out]; simp
  have HS2 := Lib.hid hs2; clear hs2
  have HW2 := Lib.hid hw2; have HG2 := Lib.hid hg2; clear hw2 hg2
  have HB2 := Lib.hid (HB1.out.step hb2)
  have Fa := Lib.hid (Fa.out.below hb2)
  have BX1 := Lib.hid (heap_below BX1.out hb2)
  have BX2 := Lib.hid hx2; clear hb2 hx2
  go_enter Tryd.func11, Tryd.ntmps11
  obtain ⟨x1_0, x1_1, x1_2, x1_3, x1_4, x1_5⟩ := row6 BX1.out
  have hs := norm_any _ (a) w2 Fa.out
  have HS := Lib.hid hs; clear hs
  try rw [HW2.out] at x1_0
  try rw [HG2.out] at x1_0
  try rw [HW1.out] at x1_0
  try rw [HG1.out] at x1_0
  try rw [HW2.out] at x1_1
  try rw [HG2.out] at x1_1
  try rw [HW1.out] at x1_1
  try rw [HG1.out] at x1_1
  try rw [HW2.out] at x1_2
  try rw [HG2.out] at x1_2
  try rw [HW1.out] at x1_2
  try rw [HG1.out] at x1_2
  try rw [HW2.out] at x1_3
  try rw [HG2.out] at x1_3
  try rw [HW1.out] at x1_3
  try rw [HG1.out] at x1_3
  try rw [HW2.out] at x1_4
  try rw [HG2.out] at x1_4
  try rw [HW1.out] at x1_4
  try rw [HG1.out] at x1_4
  try rw [HW2.out] at x1_5
  try rw [HG2.out] at x1_5
  try rw [HW1.out] at x1_5
  try rw [HG1.out] at x1_5
  go_wp2_with (with_reducible first | refine pauseCall ?_ | refine pauseLoop ?_ | refine pauseDraw ?_ | refine pauseBody ?_ | refine pauseRounds ?_)
  try rw [← HW1.out]
  try rw [← HW2.out]
  try rw [← HS2.out]
  try rw [← HG1.out]
  try rw [← HG2.out]
  clear x1_0 x1_1 x1_2 x1_3 x1_4 x1_5
  refine Pause.mk ?_
  (with_reducible refine HS.out.mono ?_); rintro e w3 ⟨v3, rfl, hb3, hn3⟩
  clear HS
  have HB3 := Lib.hid (HB2.out.step hb3)
  have Fa := Lib.hid (Fa.out.below hb3)
  have BX1 := Lib.hid (heap_below BX1.out hb3)
  have BX2 := Lib.hid (heap_below BX2.out hb3)
  have N3 := Lib.hid hn3; clear hn3
  obtain ⟨s2, o2, n2, c2, a2, m2, d2, s2x, o2x, n2x, c2x, a2x, m2x, d2x, rfl⟩ := N3.out.shape
  have N3l := Lib.hid (isSp_ends N3.out).1; have N3h := Lib.hid (isSp_ends N3.out).2
  clear hb3
  go_wp2_with (with_reducible refine wpList_pauseS ?_)
  refine wpList_stL g1 0 [.bool s2, .slice o2 n2 c2, .slice a2 m2 d2, .bool s2x, .slice o2x n2x c2x, .slice a2x m2x d2x] BX1.out rfl rfl (Nat.le_of_ble_eq_true rfl) (by kernel_rfl) rfl ?_
  intro w4 hp4
  have Fa := Lib.hid (putL_SS hp4 Fa.out BX1.out noW6)
  have N3 := Lib.hid (putL_SI hp4 N3.out BX1.out noW6)
  have N3l := Lib.hid (putL_I hp4 N3l.out BX1.out noW6)
  have N3h := Lib.hid (putL_I hp4 N3h.out BX1.out noW6)
  have BX2 := Lib.hid (putLx hp4 BX2.out (by omega))
  have nx4 : w4.heap[g1]? = some (.cells #[.bool s2, .slice o2 n2 c2, .slice a2 m2 d2, .bool s2x, .slice o2x n2x c2x, .slice a2x m2x d2x] 26) := by rw [hp4]; exact putL_6 BX1.out
  have BX1 := Lib.hid nx4; clear nx4
  have HB4 := Lib.hid (putLb hp4 HB3.out (by omega))
  clear hp4
  go_wp2_with (with_reducible first | refine pauseCall ?_ | refine pauseLoop ?_ | refine pauseDraw ?_ | refine pauseBody ?_ | refine pauseRounds ?_)
  refine Pause.mk ?_
  have k3 := rl_neg ((a).1)
  refine wp_region_facts (A := ?aa4) (w := w4) 5 [] (by kernel_rfl) (Fl [KEq (.pointer (some ⟨g1, 0, none⟩)), KEq (.agg #[.bool s2, .slice o2 n2 c2, .slice a2 m2 d2]), KIs (-((a).1)), KEq (.pointer (some ⟨g1, 3, none⟩)), KEq (.agg #[.bool s2x, .slice o2x n2x c2x, .slice a2x m2x d2x])]) (fun i => false) (by kernel_rfl) ?hq4 (monoL (monoC (kEq _) (monoC (kEq _) (monoC (kIs _) (monoC (kEq _) (monoC (kEq _) monoN)))))) ?ha4 ?st4 ?tl4
  case hq4 =>
    intro c a d v w h
    first | (simp only [Exit.then] at h ⊢; exact h) | (simp only [Exit.inBlock, Exit.then] at h ⊢; exact h) | exact h
  case ha4 =>
    intro vals
    simp only [putsTo, dstOf, if_true, Act.put, List.setIfInBounds_toArray, List.set_cons_zero, List.set_cons_succ, List.getElem?_toArray, List.getElem?_cons_zero, List.getElem?_cons_succ, Option.bind_some]
    exact rfl
  case st4 =>
    simp only [List.take_succ_cons, List.take_zero]
    refine stepsOK_cons rfl rfl ?_ (stepsOK_cons rfl rfl ?_ (stepsOK_cons rfl rfl ?_ (stepsOK_cons rfl rfl ?_ (stepsOK_cons rfl rfl ?_ (stepsOK_nil)))))
    · intro vals w1 hb hd
      refine stepOK_value (v := (.pointer (some ⟨g1, 0, none⟩))) (w' := w1) (by go_simp) (leaves_mk (Below.refl _ _) rfl (fun h => by cases h))
    · intro vals w1 hb hd
      have d0 : KEq (.pointer (some ⟨g1, 0, none⟩)) (vals 0) w1 := hd 0 (by kernel_rfl)
      rw [show vals 0 = _ from d0]
      obtain ⟨e0, e1, e2, e3, e4, e5⟩ := row6 (heap_below BX1.out hb)
      refine stepOK_value (v := .agg #[.bool s2, .slice o2 n2 c2, .slice a2 m2 d2]) (w' := w1) (by go_simp) (leaves_mk (Below.refl _ _) rfl (fun h => by cases h))
    · intro vals w1 hb hd
      have d1 : KEq (.agg #[.bool s2, .slice o2 n2 c2, .slice a2 m2 d2]) (vals 1) w1 := hd 1 (by kernel_rfl)
      have z1 : vals 1 = _ := d1
      have hs := neg_any _ ((a).1) w1 ((N3l.out.below hb).is (by omega))
      have HS := Lib.hid hs; clear hs
      rw [z1]; clear z1
      clear d1 hd
      refine stepOK_call (by go_simp; first | done | exact ⟨⟨rfl, rfl⟩, rfl⟩) ?_
      (with_reducible refine HS.out.mono ?_); rintro e w2 ⟨v, rfl, hb2, hn⟩
      exact ⟨v, rfl, leaves_mk hb2 hn (fun h => by cases h)⟩
    · intro vals w1 hb hd
      refine stepOK_value (v := (.pointer (some ⟨g1, 3, none⟩))) (w' := w1) (by go_simp) (leaves_mk (Below.refl _ _) rfl (fun h => by cases h))
    · intro vals w1 hb hd
      have d3 : KEq (.pointer (some ⟨g1, 3, none⟩)) (vals 3) w1 := hd 3 (by kernel_rfl)
      rw [show vals 3 = _ from d3]
      obtain ⟨e0, e1, e2, e3, e4, e5⟩ := row6 (heap_below BX1.out hb)
      refine stepOK_value (v := .agg #[.bool s2x, .slice o2x n2x c2x, .slice a2x m2x d2x]) (w' := w1) (by go_simp) (leaves_mk (Below.refl _ _) rfl (fun h => by cases h))
  case tl4 =>
    intro vals w5 hb5 hf hdis
    simp only [List.drop_succ_cons, List.drop_zero]
    obtain ⟨u4_2, hu2⟩ : ∃ u, u = vals 2 := ⟨_, rfl⟩
    have hn4_2 : IsR w5 (vals 2) (-((a).1)) := hf 2 (by decide)
    rw [← hu2] at hn4_2 ⊢; clear hu2
    have z4 : vals 4 = _ := hf 4 (by decide)
    try rw [z4]
    clear z4
    clear hf hdis
    have HB5 := Lib.hid (HB4.out.step hb5)
    have Fa := Lib.hid (Fa.out.below hb5)
    have N3 := Lib.hid (N3.out.below hb5)
    have N3l := Lib.hid (N3l.out.below hb5)
    have N3h := Lib.hid (N3h.out.below hb5)
    have BX1 := Lib.hid (heap_below BX1.out hb5)
    have BX2 := Lib.hid (heap_below BX2.out hb5)
    clear hb5
    have N4_2 := Lib.hid hn4_2; clear hn4_2
    obtain ⟨s5, o5, n5, c5, a5, m5, d5, rfl⟩ := N4_2.out.shape
    skip
    have k6 := rl_neg ((a).2)
    have hs := neg_any _ ((a).2) w5 (N3h.out.is (by omega))
    have HS := Lib.hid hs; clear hs
    go_wp2_with (with_reducible first | refine pauseCall ?_ | refine pauseLoop ?_ | refine pauseDraw ?_ | refine pauseBody ?_ | refine pauseRounds ?_)
    refine Pause.mk ?_
    (with_reducible refine HS.out.mono ?_); rintro e w6 ⟨v6, rfl, hb6, hn6⟩
    clear HS
    have HB6 := Lib.hid (HB5.out.step hb6)
    have Fa := Lib.hid (Fa.out.below hb6)
    have N3 := Lib.hid (N3.out.below hb6)
    have N3l := Lib.hid (N3l.out.below hb6)
    have N3h := Lib.hid (N3h.out.below hb6)
    have N4_2 := Lib.hid (N4_2.out.below hb6)
    have BX1 := Lib.hid (heap_below BX1.out hb6)
    have BX2 := Lib.hid (heap_below BX2.out hb6)
    have N6 := Lib.hid hn6; clear hn6
    obtain ⟨s7, o7, n7, c7, a7, m7, d7, rfl⟩ := N6.out.shape
    clear hb6
    obtain ⟨w7, hw7⟩ : ∃ w7, w7 = w6.alloc (.cells #[.bool s5, .slice o5 n5 c5, .slice a5 m5 d5, .bool s7, .slice o7 n7 c7, .slice a7 m7 d7] 24) := ⟨_, rfl⟩
    have hb7 : Below w6.heap.size w6 w7 := by rw [hw7]; exact (Below.refl _ _).alloc (Nat.le_refl _) _
    have hx7 := heap_alloc_new w6 (.cells #[.bool s5, .slice o5 n5 c5, .slice a5 m5 d5, .bool s7, .slice o7 n7 c7, .slice a7 m7 d7] 24)
    obtain ⟨g7, hg7⟩ : ∃ g, g = w6.heap.size := ⟨_, rfl⟩
    rw [← hw7, ← hg7] at hx7
    have lw7 : w.heap.size ≤ g7 := by rw [hg7]; exact HB6.out.size
    have ltBX17 : g1 < g7 := by rw [hg7]; exact below_lt BX1.out
    have ltBX27 : g2 < g7 := by rw [hg7]; exact below_lt BX2.out
    have HW7 := Lib.hid hw7; have HG7 := Lib.hid hg7; clear hw7 hg7
    have HB7 := Lib.hid (HB6.out.step hb7)
    have Fa := Lib.hid (Fa.out.below hb7)
    have N3 := Lib.hid (N3.out.below hb7)
    have N3l := Lib.hid (N3l.out.below hb7)
    have N3h := Lib.hid (N3h.out.below hb7)
    have N4_2 := Lib.hid (N4_2.out.below hb7)
    have N6 := Lib.hid (N6.out.below hb7)
    have BX1 := Lib.hid (heap_below BX1.out hb7)
    have BX2 := Lib.hid (heap_below BX2.out hb7)
    have BX7 := Lib.hid hx7; clear hb7 hx7
    obtain ⟨k8, k9⟩ := rl_around2 (-((a).1)) (-((a).2))
    have hs := of2 w7 BX7.out (N4_2.out.is (by omega)) (by omega) (N6.out.is (by omega)) (by omega)
    have HS := Lib.hid hs; clear hs
    go_wp2_with (with_reducible first | refine pauseCall ?_ | refine pauseLoop ?_ | refine pauseDraw ?_ | refine pauseBody ?_ | refine pauseRounds ?_)
    try rw [← HW7.out]
    try rw [← HG7.out]
    refine Pause.mk ?_
    (with_reducible refine HS.out.mono ?_); rintro e w8 ⟨v8, rfl, hb8, hn8⟩
    clear HS
    have HB8 := Lib.hid (HB7.out.step hb8)
    have Fa := Lib.hid (Fa.out.below hb8)
    have N3 := Lib.hid (N3.out.below hb8)
    have N3l := Lib.hid (N3l.out.below hb8)
    have N3h := Lib.hid (N3h.out.below hb8)
    have N4_2 := Lib.hid (N4_2.out.below hb8)
    have N6 := Lib.hid (N6.out.below hb8)
    have BX1 := Lib.hid (heap_below BX1.out hb8)
    have BX2 := Lib.hid (heap_below BX2.out hb8)
    have BX7 := Lib.hid (heap_below BX7.out hb8)
    clear BX7
    have N8 := Lib.hid hn8; clear hn8
    obtain ⟨s10, o10, n10, c10, a10, m10, d10, s10x, o10x, n10x, c10x, a10x, m10x, d10x, rfl⟩ := N8.out.shape
    have N8l := Lib.hid (isSp_ends N8.out).1; have N8h := Lib.hid (isSp_ends N8.out).2
    clear hb8
    go_wp2_with (with_reducible refine wpList_pauseS ?_)
    refine wpList_stL g2 0 [.bool s10, .slice o10 n10 c10, .slice a10 m10 d10, .bool s10x, .slice o10x n10x c10x, .slice a10x m10x d10x] BX2.out rfl rfl (Nat.le_of_ble_eq_true rfl) (by kernel_rfl) rfl ?_
    intro w9 hp9
    have Fa := Lib.hid (putL_SS hp9 Fa.out BX2.out noW6)
    have N3 := Lib.hid (putL_SI hp9 N3.out BX2.out noW6)
    have N3l := Lib.hid (putL_I hp9 N3l.out BX2.out noW6)
    have N3h := Lib.hid (putL_I hp9 N3h.out BX2.out noW6)
    have N4_2 := Lib.hid (putL_I hp9 N4_2.out BX2.out noW6)
    have N6 := Lib.hid (putL_I hp9 N6.out BX2.out noW6)
    have N8 := Lib.hid (putL_SI hp9 N8.out BX2.out noW6)
    have N8l := Lib.hid (putL_I hp9 N8l.out BX2.out noW6)
    have N8h := Lib.hid (putL_I hp9 N8h.out BX2.out noW6)
    have BX1 := Lib.hid (putLx hp9 BX1.out (by omega))
    have nx9 : w9.heap[g2]? = some (.cells #[.bool s10, .slice o10 n10 c10, .slice a10 m10 d10, .bool s10x, .slice o10x n10x c10x, .slice a10x m10x d10x] 26) := by rw [hp9]; exact putL_6 BX2.out
    have BX2 := Lib.hid nx9; clear nx9
    have HB9 := Lib.hid (putLb hp9 HB8.out (by omega))
    clear hp9
    obtain ⟨x11_0, x11_1, x11_2, x11_3, x11_4, x11_5⟩ := row6 BX2.out
    go_wp2_with (with_reducible first | refine pauseCall ?_ | refine pauseLoop ?_ | refine pauseDraw ?_ | refine pauseBody ?_ | refine pauseRounds ?_)
    clear x11_0 x11_1 x11_2 x11_3 x11_4 x11_5
    refine Pause.mk ?_
    refine ret_span rfl g2 _ _ _ _ _ _ (by first | rfl | exact rfl) BX2.out rfl ?_
    exact ⟨_, rfl, HB9.out, N8.out⟩
theorem sneg_any (va : Value) (a : Rat × Rat) (w : World) (ha : SpIs w va a) (la1 : rl a.1 ≤ 39000) (la2 : rl a.2 ≤ 39000) :
    Calls Tryd.prog 11 #[va] w (RetSp w (sNeg a)) := by
  have h := sneg_raw va a w ha la1 la2
  rw [neg_around ha.ok] at h; exact h
set_option maxRecDepth 100000 in
set_option maxHeartbeats 3200000 in
theorem sadd_raw (va : Value) (a : Rat × Rat) (vb : Value) (b : Rat × Rat) (w : World) (ha : SpIs w va a) (hb : SpIs w vb b) (la1 : rl a.1 ≤ 19000) (la2 : rl a.2 ≤ 19000) (lb1 : rl b.1 ≤ 19000) (lb2 : rl b.2 ≤ 19000) :
    Calls Tryd.prog 14 #[va, vb] w (RetSp w (around2 (((a).1) + ((b).1)) (((a).2) + ((b).2)))) := by
  have HBW := Lib.hid (Below.refl w.heap.size w)
  have kz0 : rl 0 ≤ 1 := by rw [rl_zero]; exact Nat.le_refl _
  obtain ⟨qa, oa, na, ka, pa, ma, ra, qax, oax, nax, kax, pax, max, rax, rfl⟩ := ha.shape
  have hla := ha.rl; have hoa := ha.ok; obtain ⟨hlaa, hlab⟩ := hla
  have hoa := Lib.hid hoa
  obtain ⟨qb, ob, nb, kb, pb, mb, rb, qbx, obx, nbx, kbx, pbx, mbx, rbx, rfl⟩ := hb.shape
  have hlb := hb.rl; have hob := hb.ok; obtain ⟨hlba, hlbb⟩ := hlb
  have hob := Lib.hid hob
  have Fa := Lib.hid ha; clear ha
  have Fb := Lib.hid hb; clear hb
  obtain ⟨w1, hw1⟩ : ∃ w1, w1 = w.alloc (.cells #[.bool qa, .slice oa na ka, .slice pa ma ra, .bool qax, .slice oax nax kax, .slice pax max rax] 26) := ⟨_, rfl⟩
  have hb1 : Below w.heap.size w w1 := by rw [hw1]; exact (Below.refl _ _).alloc (Nat.le_refl _) _
  have hx1 := heap_alloc_new w (.cells #[.bool qa, .slice oa na ka, .slice pa ma ra, .bool qax, .slice oax nax kax, .slice pax max rax] 26)
  obtain ⟨g1, hg1⟩ : ∃ g, g = w.heap.size := ⟨_, rfl⟩
  rw [← hw1, ← hg1] at hx1
  have lw1 : w.heap.size ≤ g1 := by rw [hg1]; exact HBW.out.size
  have HW1 := Lib.hid hw1; have HG1 := Lib.hid hg1; clear hw1 hg1
  have HB1 := Lib.hid (HBW.out.step hb1)
  have Fa := Lib.hid (Fa.out.below hb1)
  have Fb := Lib.hid (Fb.out.below hb1)
  have BX1 := Lib.hid hx1; clear hb1 hx1
  obtain ⟨w2, hw2⟩ : ∃ w2, w2 = w1.alloc (.cells #[.bool qb, .slice ob nb kb, .slice pb mb rb, .bool qbx, .slice obx nbx kbx, .slice pbx mbx rbx] 26) := ⟨_, rfl⟩
  have hb2 : Below w1.heap.size w1 w2 := by rw [hw2]; exact (Below.refl _ _).alloc (Nat.le_refl _) _
  have hx2 := heap_alloc_new w1 (.cells #[.bool qb, .slice ob nb kb, .slice pb mb rb, .bool qbx, .slice obx nbx kbx, .slice pbx mbx rbx] 26)
  obtain ⟨g2, hg2⟩ : ∃ g, g = w1.heap.size := ⟨_, rfl⟩
  rw [← hw2, ← hg2] at hx2
  have lw2 : w.heap.size ≤ g2 := by rw [hg2]; exact HB1.out.size
  have ltBX12 : g1 < g2 := by rw [hg2]; exact below_lt BX1.out
  have hs2 : g2 = w.heap.size + 1 := by rw [hg2, HW1.out]; simp
  have HS2 := Lib.hid hs2; clear hs2
  have HW2 := Lib.hid hw2; have HG2 := Lib.hid hg2; clear hw2 hg2
  have HB2 := Lib.hid (HB1.out.step hb2)
  have Fa := Lib.hid (Fa.out.below hb2)
  have Fb := Lib.hid (Fb.out.below hb2)
  have BX1 := Lib.hid (heap_below BX1.out hb2)
  have BX2 := Lib.hid hx2; clear hb2 hx2
  obtain ⟨w3, hw3⟩ : ∃ w3, w3 = w2.alloc (.cells #[.bool false, .slice none 0 0, .slice none 0 0, .bool false, .slice none 0 0, .slice none 0 0] 26) := ⟨_, rfl⟩
  have hb3 : Below w2.heap.size w2 w3 := by rw [hw3]; exact (Below.refl _ _).alloc (Nat.le_refl _) _
  have hx3 := heap_alloc_new w2 (.cells #[.bool false, .slice none 0 0, .slice none 0 0, .bool false, .slice none 0 0, .slice none 0 0] 26)
  obtain ⟨g3, hg3⟩ : ∃ g, g = w2.heap.size := ⟨_, rfl⟩
  rw [← hw3, ← hg3] at hx3
  have lw3 : w.heap.size ≤ g3 := by rw [hg3]; exact HB2.out.size
  have ltBX13 : g1 < g3 := by rw [hg3]; exact below_lt BX1.out
  have ltBX23 : g2 < g3 := by rw [hg3]; exact below_lt BX2.out
  have hs3 : g3 = w.heap.size + 2 := by rw [hg3, HW2.out, HW1.out]; simp
  have HS3 := Lib.hid hs3; clear hs3
  have HW3 := Lib.hid hw3; have HG3 := Lib.hid hg3; clear hw3 hg3
  have HB3 := Lib.hid (HB2.out.step hb3)
  have Fa := Lib.hid (Fa.out.below hb3)
  have Fb := Lib.hid (Fb.out.below hb3)
  have BX1 := Lib.hid (heap_below BX1.out hb3)
  have BX2 := Lib.hid (heap_below BX2.out hb3)
  have BX3 := Lib.hid hx3; clear hb3 hx3
  go_enter Tryd.func14, Tryd.ntmps14
  go_wp2_with (with_reducible first | refine pauseCall ?_ | refine pauseLoop ?_ | refine pauseDraw ?_ | refine pauseBody ?_ | refine pauseRounds ?_)
  try rw [← HW1.out]
  try rw [← HW2.out]
  try rw [← HW3.out]
  try rw [← HS3.out]
  try rw [← HS2.out]
  try rw [← HG1.out]
  try rw [← HG2.out]
  try rw [← HG3.out]
  refine Pause.mk ?_
  refine wp_region_facts (A := ?aa1) (w := w3) 3 [] (by kernel_rfl) (Fl [KEq (.agg #[.bool qa, .slice oa na ka, .slice pa ma ra, .bool qax, .slice oax nax kax, .slice pax max rax]), KSp (a), KEq (.agg #[.bool qb, .slice ob nb kb, .slice pb mb rb, .bool qbx, .slice obx nbx kbx, .slice pbx mbx rbx])]) (fun i => false) (by kernel_rfl) ?hq1 (monoL (monoC (kEq _) (monoC (kSp _) (monoC (kEq _) monoN)))) ?ha1 ?st1 ?tl1
  case hq1 =>
    intro c a d v w h
    first | (simp only [Exit.then] at h ⊢; exact h) | (simp only [Exit.inBlock, Exit.then] at h ⊢; exact h) | exact h
  case ha1 =>
    intro vals
    simp only [putsTo, dstOf, if_true, Act.put, List.setIfInBounds_toArray, List.set_cons_zero, List.set_cons_succ, List.getElem?_toArray, List.getElem?_cons_zero, List.getElem?_cons_succ, Option.bind_some]
    exact rfl
  case st1 =>
    simp only [List.take_succ_cons, List.take_zero]
    refine stepsOK_cons rfl rfl ?_ (stepsOK_cons rfl rfl ?_ (stepsOK_cons rfl rfl ?_ (stepsOK_nil)))
    · intro vals w1 hb hd
      obtain ⟨e0, e1, e2, e3, e4, e5⟩ := row6 (heap_below BX1.out hb)
      refine stepOK_value (v := .agg #[.bool qa, .slice oa na ka, .slice pa ma ra, .bool qax, .slice oax nax kax, .slice pax max rax]) (w' := w1) (by go_simp) (leaves_mk (Below.refl _ _) rfl (fun h => by cases h))
    · intro vals w1 hb hd
      have d0 : KEq (.agg #[.bool qa, .slice oa na ka, .slice pa ma ra, .bool qax, .slice oax nax kax, .slice pax max rax]) (vals 0) w1 := hd 0 (by kernel_rfl)
      have z0 : vals 0 = _ := d0
      have hs := norm_any _ (a) w1 (Fa.out.below hb)
      have HS := Lib.hid hs; clear hs
      rw [z0]; clear z0
      clear d0 hd
      refine stepOK_call (by go_simp; first | done | exact ⟨⟨rfl, rfl⟩, rfl⟩) ?_
      (with_reducible refine HS.out.mono ?_); rintro e w2 ⟨v, rfl, hb2, hn⟩
      exact ⟨v, rfl, leaves_mk hb2 hn (fun h => by cases h)⟩
    · intro vals w1 hb hd
      obtain ⟨e0, e1, e2, e3, e4, e5⟩ := row6 (heap_below BX2.out hb)
      refine stepOK_value (v := .agg #[.bool qb, .slice ob nb kb, .slice pb mb rb, .bool qbx, .slice obx nbx kbx, .slice pbx mbx rbx]) (w' := w1) (by go_simp) (leaves_mk (Below.refl _ _) rfl (fun h => by cases h))
  case tl1 =>
    intro vals w4 hb4 hf hdis
    simp only [List.drop_succ_cons, List.drop_zero]
    obtain ⟨u1_1, hu1⟩ : ∃ u, u = vals 1 := ⟨_, rfl⟩
    have hn1_1 : IsSp w4 (vals 1) (a) := hf 1 (by decide)
    rw [← hu1] at hn1_1 ⊢; clear hu1
    have z2 : vals 2 = _ := hf 2 (by decide)
    try rw [z2]
    clear z2
    clear hf hdis
    have HB4 := Lib.hid (HB3.out.step hb4)
    have Fa := Lib.hid (Fa.out.below hb4)
    have Fb := Lib.hid (Fb.out.below hb4)
    have BX1 := Lib.hid (heap_below BX1.out hb4)
    have BX2 := Lib.hid (heap_below BX2.out hb4)
    have BX3 := Lib.hid (heap_below BX3.out hb4)
    clear hb4
    have N1_1 := Lib.hid hn1_1; clear hn1_1
    obtain ⟨s2, o2, n2, c2, a2, m2, d2, s2x, o2x, n2x, c2x, a2x, m2x, d2x, rfl⟩ := N1_1.out.shape
    have N1_1l := Lib.hid (isSp_ends N1_1.out).1; have N1_1h := Lib.hid (isSp_ends N1_1.out).2
    skip
    have hs := norm_any _ (b) w4 Fb.out
    have HS := Lib.hid hs; clear hs
    go_wp2_with (with_reducible first | refine pauseCall ?_ | refine pauseLoop ?_ | refine pauseDraw ?_ | refine pauseBody ?_ | refine pauseRounds ?_)
    refine Pause.mk ?_
    (with_reducible refine HS.out.mono ?_); rintro e w5 ⟨v5, rfl, hb5, hn5⟩
    clear HS
    have HB5 := Lib.hid (HB4.out.step hb5)
    have Fa := Lib.hid (Fa.out.below hb5)
    have Fb := Lib.hid (Fb.out.below hb5)
    have N1_1 := Lib.hid (N1_1.out.below hb5)
    have N1_1l := Lib.hid (N1_1l.out.below hb5)
    have N1_1h := Lib.hid (N1_1h.out.below hb5)
    have BX1 := Lib.hid (heap_below BX1.out hb5)
    have BX2 := Lib.hid (heap_below BX2.out hb5)
    have BX3 := Lib.hid (heap_below BX3.out hb5)
    have N5 := Lib.hid hn5; clear hn5
    obtain ⟨s3, o3, n3, c3, a3, m3, d3, s3x, o3x, n3x, c3x, a3x, m3x, d3x, rfl⟩ := N5.out.shape
    have N5l := Lib.hid (isSp_ends N5.out).1; have N5h := Lib.hid (isSp_ends N5.out).2
    clear hb5
    go_wp2_with (with_reducible refine wpList_pauseS ?_)
    refine wpList_stL g1 0 [.bool s2, .slice o2 n2 c2, .slice a2 m2 d2, .bool s2x, .slice o2x n2x c2x, .slice a2x m2x d2x] BX1.out rfl rfl (Nat.le_of_ble_eq_true rfl) (by kernel_rfl) rfl ?_
    intro w6 hp6
    have Fa := Lib.hid (putL_SS hp6 Fa.out BX1.out noW6)
    have Fb := Lib.hid (putL_SS hp6 Fb.out BX1.out noW6)
    have N1_1 := Lib.hid (putL_SI hp6 N1_1.out BX1.out noW6)
    have N1_1l := Lib.hid (putL_I hp6 N1_1l.out BX1.out noW6)
    have N1_1h := Lib.hid (putL_I hp6 N1_1h.out BX1.out noW6)
    have N5 := Lib.hid (putL_SI hp6 N5.out BX1.out noW6)
    have N5l := Lib.hid (putL_I hp6 N5l.out BX1.out noW6)
    have N5h := Lib.hid (putL_I hp6 N5h.out BX1.out noW6)
    have BX2 := Lib.hid (putLx hp6 BX2.out (by omega))
    have BX3 := Lib.hid (putLx hp6 BX3.out (by omega))
    have nx6 : w6.heap[g1]? = some (.cells #[.bool s2, .slice o2 n2 c2, .slice a2 m2 d2, .bool s2x, .slice o2x n2x c2x, .slice a2x m2x d2x] 26) := by rw [hp6]; exact putL_6 BX1.out
    have BX1 := Lib.hid nx6; clear nx6
    have HB6 := Lib.hid (putLb hp6 HB5.out (by omega))
    clear hp6
    go_wp2_with (with_reducible refine wpList_pauseS ?_)
    refine wpList_stL g2 0 [.bool s3, .slice o3 n3 c3, .slice a3 m3 d3, .bool s3x, .slice o3x n3x c3x, .slice a3x m3x d3x] BX2.out rfl rfl (Nat.le_of_ble_eq_true rfl) (by kernel_rfl) rfl ?_
    intro w7 hp7
    have Fa := Lib.hid (putL_SS hp7 Fa.out BX2.out noW6)
    have Fb := Lib.hid (putL_SS hp7 Fb.out BX2.out noW6)
    have N1_1 := Lib.hid (putL_SI hp7 N1_1.out BX2.out noW6)
    have N1_1l := Lib.hid (putL_I hp7 N1_1l.out BX2.out noW6)
    have N1_1h := Lib.hid (putL_I hp7 N1_1h.out BX2.out noW6)
    have N5 := Lib.hid (putL_SI hp7 N5.out BX2.out noW6)
    have N5l := Lib.hid (putL_I hp7 N5l.out BX2.out noW6)
    have N5h := Lib.hid (putL_I hp7 N5h.out BX2.out noW6)
    have BX1 := Lib.hid (putLx hp7 BX1.out (by omega))
    have BX3 := Lib.hid (putLx hp7 BX3.out (by omega))
    have nx7 : w7.heap[g2]? = some (.cells #[.bool s3, .slice o3 n3 c3, .slice a3 m3 d3, .bool s3x, .slice o3x n3x c3x, .slice a3x m3x d3x] 26) := by rw [hp7]; exact putL_6 BX2.out
    have BX2 := Lib.hid nx7; clear nx7
    have HB7 := Lib.hid (putLb hp7 HB6.out (by omega))
    clear hp7
    go_wp2_with (with_reducible first | refine pauseCall ?_ | refine pauseLoop ?_ | refine pauseDraw ?_ | refine pauseBody ?_ | refine pauseRounds ?_)
    refine Pause.mk ?_
    have k4 := rl_add ((a).1) ((b).1)
    refine wp_region_facts (A := ?aa5) (w := w7) 9 [] (by kernel_rfl) (Fl [KEq (.pointer (some ⟨g1, 0, none⟩)), KEq (.agg #[.bool s2, .slice o2 n2 c2, .slice a2 m2 d2]), KEq (.pointer (some ⟨g2, 0, none⟩)), KEq (.agg #[.bool s3, .slice o3 n3 c3, .slice a3 m3 d3]), KIs (((a).1) + ((b).1)), KEq (.pointer (some ⟨g1, 3, none⟩)), KEq (.agg #[.bool s2x, .slice o2x n2x c2x, .slice a2x m2x d2x]), KEq (.pointer (some ⟨g2, 3, none⟩)), KEq (.agg #[.bool s3x, .slice o3x n3x c3x, .slice a3x m3x d3x])]) (fun i => false) (by kernel_rfl) ?hq5 (monoL (monoC (kEq _) (monoC (kEq _) (monoC (kEq _) (monoC (kEq _) (monoC (kIs _) (monoC (kEq _) (monoC (kEq _) (monoC (kEq _) (monoC (kEq _) monoN)))))))))) ?ha5 ?st5 ?tl5
    case hq5 =>
      intro c a d v w h
      first | (simp only [Exit.then] at h ⊢; exact h) | (simp only [Exit.inBlock, Exit.then] at h ⊢; exact h) | exact h
    case ha5 =>
      intro vals
      simp only [putsTo, dstOf, if_true, Act.put, List.setIfInBounds_toArray, List.set_cons_zero, List.set_cons_succ, List.getElem?_toArray, List.getElem?_cons_zero, List.getElem?_cons_succ, Option.bind_some]
      exact rfl
    case st5 =>
      simp only [List.take_succ_cons, List.take_zero]
      refine stepsOK_cons rfl rfl ?_ (stepsOK_cons rfl rfl ?_ (stepsOK_cons rfl rfl ?_ (stepsOK_cons rfl rfl ?_ (stepsOK_cons rfl rfl ?_ (stepsOK_cons rfl rfl ?_ (stepsOK_cons rfl rfl ?_ (stepsOK_cons rfl rfl ?_ (stepsOK_cons rfl rfl ?_ (stepsOK_nil)))))))))
      · intro vals w1 hb hd
        refine stepOK_value (v := (.pointer (some ⟨g1, 0, none⟩))) (w' := w1) (by go_simp) (leaves_mk (Below.refl _ _) rfl (fun h => by cases h))
      · intro vals w1 hb hd
        have d0 : KEq (.pointer (some ⟨g1, 0, none⟩)) (vals 0) w1 := hd 0 (by kernel_rfl)
        rw [show vals 0 = _ from d0]
        obtain ⟨e0, e1, e2, e3, e4, e5⟩ := row6 (heap_below BX1.out hb)
        refine stepOK_value (v := .agg #[.bool s2, .slice o2 n2 c2, .slice a2 m2 d2]) (w' := w1) (by go_simp) (leaves_mk (Below.refl _ _) rfl (fun h => by cases h))
      · intro vals w1 hb hd
        refine stepOK_value (v := (.pointer (some ⟨g2, 0, none⟩))) (w' := w1) (by go_simp) (leaves_mk (Below.refl _ _) rfl (fun h => by cases h))
      · intro vals w1 hb hd
        have d2 : KEq (.pointer (some ⟨g2, 0, none⟩)) (vals 2) w1 := hd 2 (by kernel_rfl)
        rw [show vals 2 = _ from d2]
        obtain ⟨e0, e1, e2, e3, e4, e5⟩ := row6 (heap_below BX2.out hb)
        refine stepOK_value (v := .agg #[.bool s3, .slice o3 n3 c3, .slice a3 m3 d3]) (w' := w1) (by go_simp) (leaves_mk (Below.refl _ _) rfl (fun h => by cases h))
      · intro vals w1 hb hd
        have d1 : KEq (.agg #[.bool s2, .slice o2 n2 c2, .slice a2 m2 d2]) (vals 1) w1 := hd 1 (by kernel_rfl)
        have d3 : KEq (.agg #[.bool s3, .slice o3 n3 c3, .slice a3 m3 d3]) (vals 3) w1 := hd 3 (by kernel_rfl)
        have z1 : vals 1 = _ := d1
        have z3 : vals 3 = _ := d3
        have hs := addq_any _ ((a).1) _ ((b).1) w1 ((N1_1l.out.below hb).is (by omega)) ((N5l.out.below hb).is (by omega))
        have HS := Lib.hid hs; clear hs
        rw [z1]; clear z1
        rw [z3]; clear z3
        clear d1 d3 hd
        refine stepOK_call (by go_simp; first | done | exact ⟨⟨rfl, rfl⟩, rfl⟩) ?_
        (with_reducible refine HS.out.mono ?_); rintro e w2 ⟨v, rfl, hb2, hn⟩
        exact ⟨v, rfl, leaves_mk hb2 hn (fun h => by cases h)⟩
      · intro vals w1 hb hd
        refine stepOK_value (v := (.pointer (some ⟨g1, 3, none⟩))) (w' := w1) (by go_simp) (leaves_mk (Below.refl _ _) rfl (fun h => by cases h))
      · intro vals w1 hb hd
        have d5 : KEq (.pointer (some ⟨g1, 3, none⟩)) (vals 5) w1 := hd 5 (by kernel_rfl)
        rw [show vals 5 = _ from d5]
        obtain ⟨e0, e1, e2, e3, e4, e5⟩ := row6 (heap_below BX1.out hb)
        refine stepOK_value (v := .agg #[.bool s2x, .slice o2x n2x c2x, .slice a2x m2x d2x]) (w' := w1) (by go_simp) (leaves_mk (Below.refl _ _) rfl (fun h => by cases h))
      · intro vals w1 hb hd
        refine stepOK_value (v := (.pointer (some ⟨g2, 3, none⟩))) (w' := w1) (by go_simp) (leaves_mk (Below.refl _ _) rfl (fun h => by cases h))
      · intro vals w1 hb hd
        have d7 : KEq (.pointer (some ⟨g2, 3, none⟩)) (vals 7) w1 := hd 7 (by kernel_rfl)
        rw [show vals 7 = _ from d7]
        obtain ⟨e0, e1, e2, e3, e4, e5⟩ := row6 (heap_below BX2.out hb)
        refine stepOK_value (v := .agg #[.bool s3x, .slice o3x n3x c3x, .slice a3x m3x d3x]) (w' := w1) (by go_simp) (leaves_mk (Below.refl _ _) rfl (fun h => by cases h))
    case tl5 =>
      intro vals w8 hb8 hf hdis
      simp only [List.drop_succ_cons, List.drop_zero]
      obtain ⟨u5_4, hu4⟩ : ∃ u, u = vals 4 := ⟨_, rfl⟩
      have hn5_4 : IsR w8 (vals 4) (((a).1) + ((b).1)) := hf 4 (by decide)
      rw [← hu4] at hn5_4 ⊢; clear hu4
      have z6 : vals 6 = _ := hf 6 (by decide)
      try rw [z6]
      clear z6
      have z8 : vals 8 = _ := hf 8 (by decide)
      try rw [z8]
      clear z8
      clear hf hdis
      have HB8 := Lib.hid (HB7.out.step hb8)
      have Fa := Lib.hid (Fa.out.below hb8)
      have Fb := Lib.hid (Fb.out.below hb8)
      have N1_1 := Lib.hid (N1_1.out.below hb8)
      have N1_1l := Lib.hid (N1_1l.out.below hb8)
      have N1_1h := Lib.hid (N1_1h.out.below hb8)
      have N5 := Lib.hid (N5.out.below hb8)
      have N5l := Lib.hid (N5l.out.below hb8)
      have N5h := Lib.hid (N5h.out.below hb8)
      have BX1 := Lib.hid (heap_below BX1.out hb8)
      have BX2 := Lib.hid (heap_below BX2.out hb8)
      have BX3 := Lib.hid (heap_below BX3.out hb8)
      clear hb8
      have N5_4 := Lib.hid hn5_4; clear hn5_4
      obtain ⟨s6, o6, n6, c6, a6, m6, d6, rfl⟩ := N5_4.out.shape
      skip
      have k7 := rl_add ((a).2) ((b).2)
      have hs := addq_any _ ((a).2) _ ((b).2) w8 (N1_1h.out.is (by omega)) (N5h.out.is (by omega))
      have HS := Lib.hid hs; clear hs
      go_wp2_with (with_reducible first | refine pauseCall ?_ | refine pauseLoop ?_ | refine pauseDraw ?_ | refine pauseBody ?_ | refine pauseRounds ?_)
      refine Pause.mk ?_
      (with_reducible refine HS.out.mono ?_); rintro e w9 ⟨v9, rfl, hb9, hn9⟩
      clear HS
      have HB9 := Lib.hid (HB8.out.step hb9)
      have Fa := Lib.hid (Fa.out.below hb9)
      have Fb := Lib.hid (Fb.out.below hb9)
      have N1_1 := Lib.hid (N1_1.out.below hb9)
      have N1_1l := Lib.hid (N1_1l.out.below hb9)
      have N1_1h := Lib.hid (N1_1h.out.below hb9)
      have N5 := Lib.hid (N5.out.below hb9)
      have N5l := Lib.hid (N5l.out.below hb9)
      have N5h := Lib.hid (N5h.out.below hb9)
      have N5_4 := Lib.hid (N5_4.out.below hb9)
      have BX1 := Lib.hid (heap_below BX1.out hb9)
      have BX2 := Lib.hid (heap_below BX2.out hb9)
      have BX3 := Lib.hid (heap_below BX3.out hb9)
      have N9 := Lib.hid hn9; clear hn9
      obtain ⟨s8, o8, n8, c8, a8, m8, d8, rfl⟩ := N9.out.shape
      clear hb9
      obtain ⟨w10, hw10⟩ : ∃ w10, w10 = w9.alloc (.cells #[.bool s6, .slice o6 n6 c6, .slice a6 m6 d6, .bool s8, .slice o8 n8 c8, .slice a8 m8 d8] 24) := ⟨_, rfl⟩
      have hb10 : Below w9.heap.size w9 w10 := by rw [hw10]; exact (Below.refl _ _).alloc (Nat.le_refl _) _
      have hx10 := heap_alloc_new w9 (.cells #[.bool s6, .slice o6 n6 c6, .slice a6 m6 d6, .bool s8, .slice o8 n8 c8, .slice a8 m8 d8] 24)
      obtain ⟨g10, hg10⟩ : ∃ g, g = w9.heap.size := ⟨_, rfl⟩
      rw [← hw10, ← hg10] at hx10
      have lw10 : w.heap.size ≤ g10 := by rw [hg10]; exact HB9.out.size
      have ltBX110 : g1 < g10 := by rw [hg10]; exact below_lt BX1.out
      have ltBX210 : g2 < g10 := by rw [hg10]; exact below_lt BX2.out
      have ltBX310 : g3 < g10 := by rw [hg10]; exact below_lt BX3.out
      have HW10 := Lib.hid hw10; have HG10 := Lib.hid hg10; clear hw10 hg10
      have HB10 := Lib.hid (HB9.out.step hb10)
      have Fa := Lib.hid (Fa.out.below hb10)
      have Fb := Lib.hid (Fb.out.below hb10)
      have N1_1 := Lib.hid (N1_1.out.below hb10)
      have N1_1l := Lib.hid (N1_1l.out.below hb10)
      have N1_1h := Lib.hid (N1_1h.out.below hb10)
      have N5 := Lib.hid (N5.out.below hb10)
      have N5l := Lib.hid (N5l.out.below hb10)
      have N5h := Lib.hid (N5h.out.below hb10)
      have N5_4 := Lib.hid (N5_4.out.below hb10)
      have N9 := Lib.hid (N9.out.below hb10)
      have BX1 := Lib.hid (heap_below BX1.out hb10)
      have BX2 := Lib.hid (heap_below BX2.out hb10)
      have BX3 := Lib.hid (heap_below BX3.out hb10)
      have BX10 := Lib.hid hx10; clear hb10 hx10
      obtain ⟨k9, k10⟩ := rl_around2 (((a).1) + ((b).1)) (((a).2) + ((b).2))
      have hs := of2 w10 BX10.out (N5_4.out.is (by omega)) (by omega) (N9.out.is (by omega)) (by omega)
      have HS := Lib.hid hs; clear hs
      go_wp2_with (with_reducible first | refine pauseCall ?_ | refine pauseLoop ?_ | refine pauseDraw ?_ | refine pauseBody ?_ | refine pauseRounds ?_)
      try rw [← HW10.out]
      try rw [← HG10.out]
      refine Pause.mk ?_
      (with_reducible refine HS.out.mono ?_); rintro e w11 ⟨v11, rfl, hb11, hn11⟩
      clear HS
      have HB11 := Lib.hid (HB10.out.step hb11)
      have Fa := Lib.hid (Fa.out.below hb11)
      have Fb := Lib.hid (Fb.out.below hb11)
      have N1_1 := Lib.hid (N1_1.out.below hb11)
      have N1_1l := Lib.hid (N1_1l.out.below hb11)
      have N1_1h := Lib.hid (N1_1h.out.below hb11)
      have N5 := Lib.hid (N5.out.below hb11)
      have N5l := Lib.hid (N5l.out.below hb11)
      have N5h := Lib.hid (N5h.out.below hb11)
      have N5_4 := Lib.hid (N5_4.out.below hb11)
      have N9 := Lib.hid (N9.out.below hb11)
      have BX1 := Lib.hid (heap_below BX1.out hb11)
      have BX2 := Lib.hid (heap_below BX2.out hb11)
      have BX3 := Lib.hid (heap_below BX3.out hb11)
      have BX10 := Lib.hid (heap_below BX10.out hb11)
      clear BX10
      have N11 := Lib.hid hn11; clear hn11
      obtain ⟨s11, o11, n11, c11, a11, m11, d11, s11x, o11x, n11x, c11x, a11x, m11x, d11x, rfl⟩ := N11.out.shape
      have N11l := Lib.hid (isSp_ends N11.out).1; have N11h := Lib.hid (isSp_ends N11.out).2
      clear hb11
      go_wp2_with (with_reducible refine wpList_pauseS ?_)
      refine wpList_stL g3 0 [.bool s11, .slice o11 n11 c11, .slice a11 m11 d11, .bool s11x, .slice o11x n11x c11x, .slice a11x m11x d11x] BX3.out rfl rfl (Nat.le_of_ble_eq_true rfl) (by kernel_rfl) rfl ?_
      intro w12 hp12
      have Fa := Lib.hid (putL_SS hp12 Fa.out BX3.out noW6)
      have Fb := Lib.hid (putL_SS hp12 Fb.out BX3.out noW6)
      have N1_1 := Lib.hid (putL_SI hp12 N1_1.out BX3.out noW6)
      have N1_1l := Lib.hid (putL_I hp12 N1_1l.out BX3.out noW6)
      have N1_1h := Lib.hid (putL_I hp12 N1_1h.out BX3.out noW6)
      have N5 := Lib.hid (putL_SI hp12 N5.out BX3.out noW6)
      have N5l := Lib.hid (putL_I hp12 N5l.out BX3.out noW6)
      have N5h := Lib.hid (putL_I hp12 N5h.out BX3.out noW6)
      have N5_4 := Lib.hid (putL_I hp12 N5_4.out BX3.out noW6)
      have N9 := Lib.hid (putL_I hp12 N9.out BX3.out noW6)
      have N11 := Lib.hid (putL_SI hp12 N11.out BX3.out noW6)
      have N11l := Lib.hid (putL_I hp12 N11l.out BX3.out noW6)
      have N11h := Lib.hid (putL_I hp12 N11h.out BX3.out noW6)
      have BX1 := Lib.hid (putLx hp12 BX1.out (by omega))
      have BX2 := Lib.hid (putLx hp12 BX2.out (by omega))
      have nx12 : w12.heap[g3]? = some (.cells #[.bool s11, .slice o11 n11 c11, .slice a11 m11 d11, .bool s11x, .slice o11x n11x c11x, .slice a11x m11x d11x] 26) := by rw [hp12]; exact putL_6 BX3.out
      have BX3 := Lib.hid nx12; clear nx12
      have HB12 := Lib.hid (putLb hp12 HB11.out (by omega))
      clear hp12
      obtain ⟨x12_0, x12_1, x12_2, x12_3, x12_4, x12_5⟩ := row6 BX3.out
      go_wp2_with (with_reducible first | refine pauseCall ?_ | refine pauseLoop ?_ | refine pauseDraw ?_ | refine pauseBody ?_ | refine pauseRounds ?_)
      clear x12_0 x12_1 x12_2 x12_3 x12_4 x12_5
      refine Pause.mk ?_
      refine ret_span rfl g3 _ _ _ _ _ _ (by first | rfl | exact rfl) BX3.out rfl ?_
      exact ⟨_, rfl, HB12.out, N11.out⟩
theorem sadd_any (va : Value) (a : Rat × Rat) (vb : Value) (b : Rat × Rat) (w : World) (ha : SpIs w va a) (hb : SpIs w vb b) (la1 : rl a.1 ≤ 19000) (la2 : rl a.2 ≤ 19000) (lb1 : rl b.1 ≤ 19000) (lb2 : rl b.2 ≤ 19000) :
    Calls Tryd.prog 14 #[va, vb] w (RetSp w (sAdd a b)) := by
  have h := sadd_raw va a vb b w ha hb la1 la2 lb1 lb2
  rw [add_around ha.ok hb.ok] at h; exact h
set_option maxRecDepth 100000 in
set_option maxHeartbeats 3200000 in
theorem ssub_raw (va : Value) (a : Rat × Rat) (vb : Value) (b : Rat × Rat) (w : World) (ha : SpIs w va a) (hb : SpIs w vb b) (la1 : rl a.1 ≤ 18000) (la2 : rl a.2 ≤ 18000) (lb1 : rl b.1 ≤ 18000) (lb2 : rl b.2 ≤ 18000) :
    Calls Tryd.prog 13 #[va, vb] w (RetSp w (sAdd (a) (sNeg (b)))) := by
  have HBW := Lib.hid (Below.refl w.heap.size w)
  have kz0 : rl 0 ≤ 1 := by rw [rl_zero]; exact Nat.le_refl _
  obtain ⟨qa, oa, na, ka, pa, ma, ra, qax, oax, nax, kax, pax, max, rax, rfl⟩ := ha.shape
  have hla := ha.rl; have hoa := ha.ok; obtain ⟨hlaa, hlab⟩ := hla
  have hoa := Lib.hid hoa
  obtain ⟨qb, ob, nb, kb, pb, mb, rb, qbx, obx, nbx, kbx, pbx, mbx, rbx, rfl⟩ := hb.shape
  have hlb := hb.rl; have hob := hb.ok; obtain ⟨hlba, hlbb⟩ := hlb
  have hob := Lib.hid hob
  have Fa := Lib.hid ha; clear ha
  have Fb := Lib.hid hb; clear hb
  obtain ⟨w1, hw1⟩ : ∃ w1, w1 = w.alloc (.cells #[.bool qa, .slice oa na ka, .slice pa ma ra, .bool qax, .slice oax nax kax, .slice pax max rax] 26) := ⟨_, rfl⟩
  have hb1 : Below w.heap.size w w1 := by rw [hw1]; exact (Below.refl _ _).alloc (Nat.le_refl _) _
  have hx1 := heap_alloc_new w (.cells #[.bool qa, .slice oa na ka, .slice pa ma ra, .bool qax, .slice oax nax kax, .slice pax max rax] 26)
  obtain ⟨g1, hg1⟩ : ∃ g, g = w.heap.size := ⟨_, rfl⟩
  rw [← hw1, ← hg1] at hx1
  have lw1 : w.heap.size ≤ g1 := by rw [hg1]; exact HBW.out.size
  have HW1 := Lib.hid hw1; have HG1 := Lib.hid hg1; clear hw1 hg1
  have HB1 := Lib.hid (HBW.out.step hb1)
  have Fa := Lib.hid (Fa.out.below hb1)
  have Fb := Lib.hid (Fb.out.below hb1)
  have BX1 := Lib.hid hx1; clear hb1 hx1
  obtain ⟨w2, hw2⟩ : ∃ w2, w2 = w1.alloc (.cells #[.bool qb, .slice ob nb kb, .slice pb mb rb, .bool qbx, .slice obx nbx kbx, .slice pbx mbx rbx] 26) := ⟨_, rfl⟩
  have hb2 : Below w1.heap.size w1 w2 := by rw [hw2]; exact (Below.refl _ _).alloc (Nat.le_refl _) _
  have hx2 := heap_alloc_new w1 (.cells #[.bool qb, .slice ob nb kb, .slice pb mb rb, .bool qbx, .slice obx nbx kbx, .slice pbx mbx rbx] 26)
  obtain ⟨g2, hg2⟩ : ∃ g, g = w1.heap.size := ⟨_, rfl⟩
  rw [← hw2, ← hg2] at hx2
  have lw2 : w.heap.size ≤ g2 := by rw [hg2]; exact HB1.out.size
  have ltBX12 : g1 < g2 := by rw [hg2]; exact below_lt BX1.out
  have hs2 : g2 = w.heap.size + 1 := by rw [hg2, HW1.out]; simp
  have HS2 := Lib.hid hs2; clear hs2
  have HW2 := Lib.hid hw2; have HG2 := Lib.hid hg2; clear hw2 hg2
  have HB2 := Lib.hid (HB1.out.step hb2)
  have Fa := Lib.hid (Fa.out.below hb2)
  have Fb := Lib.hid (Fb.out.below hb2)
  have BX1 := Lib.hid (heap_below BX1.out hb2)
  have BX2 := Lib.hid hx2; clear hb2 hx2
  obtain ⟨w3, hw3⟩ : ∃ w3, w3 = w2.alloc (.cells #[.bool false, .slice none 0 0, .slice none 0 0, .bool false, .slice none 0 0, .slice none 0 0] 26) := ⟨_, rfl⟩
  have hb3 : Below w2.heap.size w2 w3 := by rw [hw3]; exact (Below.refl _ _).alloc (Nat.le_refl _) _
  have hx3 := heap_alloc_new w2 (.cells #[.bool false, .slice none 0 0, .slice none 0 0, .bool false, .slice none 0 0, .slice none 0 0] 26)
  obtain ⟨g3, hg3⟩ : ∃ g, g = w2.heap.size := ⟨_, rfl⟩
  rw [← hw3, ← hg3] at hx3
  have lw3 : w.heap.size ≤ g3 := by rw [hg3]; exact HB2.out.size
  have ltBX13 : g1 < g3 := by rw [hg3]; exact below_lt BX1.out
  have ltBX23 : g2 < g3 := by rw [hg3]; exact below_lt BX2.out
  have hs3 : g3 = w.heap.size + 2 := by rw [hg3, HW2.out, HW1.out]; simp
  have HS3 := Lib.hid hs3; clear hs3
  have HW3 := Lib.hid hw3; have HG3 := Lib.hid hg3; clear hw3 hg3
  have HB3 := Lib.hid (HB2.out.step hb3)
  have Fa := Lib.hid (Fa.out.below hb3)
  have Fb := Lib.hid (Fb.out.below hb3)
  have BX1 := Lib.hid (heap_below BX1.out hb3)
  have BX2 := Lib.hid (heap_below BX2.out hb3)
  have BX3 := Lib.hid hx3; clear hb3 hx3
  go_enter Tryd.func13, Tryd.ntmps13
  go_wp2_with (with_reducible first | refine pauseCall ?_ | refine pauseLoop ?_ | refine pauseDraw ?_ | refine pauseBody ?_ | refine pauseRounds ?_)
  try rw [← HW1.out]
  try rw [← HW2.out]
  try rw [← HW3.out]
  try rw [← HS3.out]
  try rw [← HS2.out]
  try rw [← HG1.out]
  try rw [← HG2.out]
  try rw [← HG3.out]
  refine Pause.mk ?_
  obtain ⟨k1, k2⟩ := rl_sNeg (b)
  refine wp_region_facts (A := ?aa3) (w := w3) 3 [] (by kernel_rfl) (Fl [KEq (.agg #[.bool qa, .slice oa na ka, .slice pa ma ra, .bool qax, .slice oax nax kax, .slice pax max rax]), KEq (.agg #[.bool qb, .slice ob nb kb, .slice pb mb rb, .bool qbx, .slice obx nbx kbx, .slice pbx mbx rbx]), KSp (sNeg (b))]) (fun i => false) (by kernel_rfl) ?hq3 (monoL (monoC (kEq _) (monoC (kEq _) (monoC (kSp _) monoN)))) ?ha3 ?st3 ?tl3
  case hq3 =>
    intro c a d v w h
    first | (simp only [Exit.then] at h ⊢; exact h) | (simp only [Exit.inBlock, Exit.then] at h ⊢; exact h) | exact h
  case ha3 =>
    intro vals
    simp only [putsTo, dstOf, if_true, Act.put, List.setIfInBounds_toArray, List.set_cons_zero, List.set_cons_succ, List.getElem?_toArray, List.getElem?_cons_zero, List.getElem?_cons_succ, Option.bind_some]
    exact rfl
  case st3 =>
    simp only [List.take_succ_cons, List.take_zero]
    refine stepsOK_cons rfl rfl ?_ (stepsOK_cons rfl rfl ?_ (stepsOK_cons rfl rfl ?_ (stepsOK_nil)))
    · intro vals w1 hb hd
      obtain ⟨e0, e1, e2, e3, e4, e5⟩ := row6 (heap_below BX1.out hb)
      refine stepOK_value (v := .agg #[.bool qa, .slice oa na ka, .slice pa ma ra, .bool qax, .slice oax nax kax, .slice pax max rax]) (w' := w1) (by go_simp) (leaves_mk (Below.refl _ _) rfl (fun h => by cases h))
    · intro vals w1 hb hd
      obtain ⟨e0, e1, e2, e3, e4, e5⟩ := row6 (heap_below BX2.out hb)
      refine stepOK_value (v := .agg #[.bool qb, .slice ob nb kb, .slice pb mb rb, .bool qbx, .slice obx nbx kbx, .slice pbx mbx rbx]) (w' := w1) (by go_simp) (leaves_mk (Below.refl _ _) rfl (fun h => by cases h))
    · intro vals w1 hb hd
      have d1 : KEq (.agg #[.bool qb, .slice ob nb kb, .slice pb mb rb, .bool qbx, .slice obx nbx kbx, .slice pbx mbx rbx]) (vals 1) w1 := hd 1 (by kernel_rfl)
      have z1 : vals 1 = _ := d1
      have hs := sneg_any _ (b) w1 (Fb.out.below hb) (by omega) (by omega)
      have HS := Lib.hid hs; clear hs
      rw [z1]; clear z1
      clear d1 hd
      refine stepOK_call (by go_simp; first | done | exact ⟨⟨rfl, rfl⟩, rfl⟩) ?_
      (with_reducible refine HS.out.mono ?_); rintro e w2 ⟨v, rfl, hb2, hn⟩
      exact ⟨v, rfl, leaves_mk hb2 hn (fun h => by cases h)⟩
  case tl3 =>
    intro vals w4 hb4 hf hdis
    simp only [List.drop_succ_cons, List.drop_zero]
    have z0 : vals 0 = _ := hf 0 (by decide)
    try rw [z0]
    clear z0
    obtain ⟨u3_2, hu2⟩ : ∃ u, u = vals 2 := ⟨_, rfl⟩
    have hn3_2 : IsSp w4 (vals 2) (sNeg (b)) := hf 2 (by decide)
    rw [← hu2] at hn3_2 ⊢; clear hu2
    clear hf hdis
    have HB4 := Lib.hid (HB3.out.step hb4)
    have Fa := Lib.hid (Fa.out.below hb4)
    have Fb := Lib.hid (Fb.out.below hb4)
    have BX1 := Lib.hid (heap_below BX1.out hb4)
    have BX2 := Lib.hid (heap_below BX2.out hb4)
    have BX3 := Lib.hid (heap_below BX3.out hb4)
    clear hb4
    have N3_2 := Lib.hid hn3_2; clear hn3_2
    obtain ⟨s4, o4, n4, c4, a4, m4, d4, s4x, o4x, n4x, c4x, a4x, m4x, d4x, rfl⟩ := N3_2.out.shape
    have N3_2l := Lib.hid (isSp_ends N3_2.out).1; have N3_2h := Lib.hid (isSp_ends N3_2.out).2
    skip
    obtain ⟨k5, k6⟩ := rl_sAdd (a) (sNeg (b))
    have hs := sadd_any _ (a) _ (sNeg (b)) w4 Fa.out (N3_2.out.is (sNeg_ok hob.out) (by omega) (by omega)) (by omega) (by omega) (by omega) (by omega)
    have HS := Lib.hid hs; clear hs
    go_wp2_with (with_reducible first | refine pauseCall ?_ | refine pauseLoop ?_ | refine pauseDraw ?_ | refine pauseBody ?_ | refine pauseRounds ?_)
    refine Pause.mk ?_
    (with_reducible refine HS.out.mono ?_); rintro e w5 ⟨v5, rfl, hb5, hn5⟩
    clear HS
    have HB5 := Lib.hid (HB4.out.step hb5)
    have Fa := Lib.hid (Fa.out.below hb5)
    have Fb := Lib.hid (Fb.out.below hb5)
    have N3_2 := Lib.hid (N3_2.out.below hb5)
    have N3_2l := Lib.hid (N3_2l.out.below hb5)
    have N3_2h := Lib.hid (N3_2h.out.below hb5)
    have BX1 := Lib.hid (heap_below BX1.out hb5)
    have BX2 := Lib.hid (heap_below BX2.out hb5)
    have BX3 := Lib.hid (heap_below BX3.out hb5)
    have N5 := Lib.hid hn5; clear hn5
    obtain ⟨s7, o7, n7, c7, a7, m7, d7, s7x, o7x, n7x, c7x, a7x, m7x, d7x, rfl⟩ := N5.out.shape
    have N5l := Lib.hid (isSp_ends N5.out).1; have N5h := Lib.hid (isSp_ends N5.out).2
    clear hb5
    go_wp2_with (with_reducible refine wpList_pauseS ?_)
    refine wpList_stL g3 0 [.bool s7, .slice o7 n7 c7, .slice a7 m7 d7, .bool s7x, .slice o7x n7x c7x, .slice a7x m7x d7x] BX3.out rfl rfl (Nat.le_of_ble_eq_true rfl) (by kernel_rfl) rfl ?_
    intro w6 hp6
    have Fa := Lib.hid (putL_SS hp6 Fa.out BX3.out noW6)
    have Fb := Lib.hid (putL_SS hp6 Fb.out BX3.out noW6)
    have N3_2 := Lib.hid (putL_SI hp6 N3_2.out BX3.out noW6)
    have N3_2l := Lib.hid (putL_I hp6 N3_2l.out BX3.out noW6)
    have N3_2h := Lib.hid (putL_I hp6 N3_2h.out BX3.out noW6)
    have N5 := Lib.hid (putL_SI hp6 N5.out BX3.out noW6)
    have N5l := Lib.hid (putL_I hp6 N5l.out BX3.out noW6)
    have N5h := Lib.hid (putL_I hp6 N5h.out BX3.out noW6)
    have BX1 := Lib.hid (putLx hp6 BX1.out (by omega))
    have BX2 := Lib.hid (putLx hp6 BX2.out (by omega))
    have nx6 : w6.heap[g3]? = some (.cells #[.bool s7, .slice o7 n7 c7, .slice a7 m7 d7, .bool s7x, .slice o7x n7x c7x, .slice a7x m7x d7x] 26) := by rw [hp6]; exact putL_6 BX3.out
    have BX3 := Lib.hid nx6; clear nx6
    have HB6 := Lib.hid (putLb hp6 HB5.out (by omega))
    clear hp6
    obtain ⟨x8_0, x8_1, x8_2, x8_3, x8_4, x8_5⟩ := row6 BX3.out
    go_wp2_with (with_reducible first | refine pauseCall ?_ | refine pauseLoop ?_ | refine pauseDraw ?_ | refine pauseBody ?_ | refine pauseRounds ?_)
    clear x8_0 x8_1 x8_2 x8_3 x8_4 x8_5
    refine Pause.mk ?_
    refine ret_span rfl g3 _ _ _ _ _ _ (by first | rfl | exact rfl) BX3.out rfl ?_
    exact ⟨_, rfl, HB6.out, N5.out⟩
theorem ssub_any (va : Value) (a : Rat × Rat) (vb : Value) (b : Rat × Rat) (w : World) (ha : SpIs w va a) (hb : SpIs w vb b) (la1 : rl a.1 ≤ 18000) (la2 : rl a.2 ≤ 18000) (lb1 : rl b.1 ≤ 18000) (lb2 : rl b.2 ≤ 18000) :
    Calls Tryd.prog 13 #[va, vb] w (RetSp w (sSub a b)) := by
  have h := ssub_raw va a vb b w ha hb la1 la2 lb1 lb2
  rw [add_neg] at h; exact h
set_option maxRecDepth 100000 in
set_option maxHeartbeats 3200000 in
theorem snot_raw (va : Value) (a : Rat × Rat) (w : World) (ha : SpIs w va a) (la1 : rl a.1 ≤ 17000) (la2 : rl a.2 ≤ 17000) :
    Calls Tryd.prog 12 #[va] w (RetSp w (sSub ((((1 : Int) : Rat), ((1 : Int) : Rat))) (a))) := by
  have HBW := Lib.hid (Below.refl w.heap.size w)
  have kz0 : rl 0 ≤ 1 := by rw [rl_zero]; exact Nat.le_refl _
  obtain ⟨qa, oa, na, ka, pa, ma, ra, qax, oax, nax, kax, pax, max, rax, rfl⟩ := ha.shape
  have hla := ha.rl; have hoa := ha.ok; obtain ⟨hlaa, hlab⟩ := hla
  have hoa := Lib.hid hoa
  have Fa := Lib.hid ha; clear ha
  obtain ⟨w1, hw1⟩ : ∃ w1, w1 = w.alloc (.cells #[.bool qa, .slice oa na ka, .slice pa ma ra, .bool qax, .slice oax nax kax, .slice pax max rax] 26) := ⟨_, rfl⟩
  have hb1 : Below w.heap.size w w1 := by rw [hw1]; exact (Below.refl _ _).alloc (Nat.le_refl _) _
  have hx1 := heap_alloc_new w (.cells #[.bool qa, .slice oa na ka, .slice pa ma ra, .bool qax, .slice oax nax kax, .slice pax max rax] 26)
  obtain ⟨g1, hg1⟩ : ∃ g, g = w.heap.size := ⟨_, rfl⟩
  rw [← hw1, ← hg1] at hx1
  have lw1 : w.heap.size ≤ g1 := by rw [hg1]; exact HBW.out.size
  have HW1 := Lib.hid hw1; have HG1 := Lib.hid hg1; clear hw1 hg1
  have HB1 := Lib.hid (HBW.out.step hb1)
  have Fa := Lib.hid (Fa.out.below hb1)
  have BX1 := Lib.hid hx1; clear hb1 hx1
  obtain ⟨w2, hw2⟩ : ∃ w2, w2 = w1.alloc (.cells #[.bool false, .slice none 0 0, .slice none 0 0, .bool false, .slice none 0 0, .slice none 0 0] 26) := ⟨_, rfl⟩
  have hb2 : Below w1.heap.size w1 w2 := by rw [hw2]; exact (Below.refl _ _).alloc (Nat.le_refl _) _
  have hx2 := heap_alloc_new w1 (.cells #[.bool false, .slice none 0 0, .slice none 0 0, .bool false, .slice none 0 0, .slice none 0 0] 26)
  obtain ⟨g2, hg2⟩ : ∃ g, g = w1.heap.size := ⟨_, rfl⟩
  rw [← hw2, ← hg2] at hx2
  have lw2 : w.heap.size ≤ g2 := by rw [hg2]; exact HB1.out.size
  have ltBX12 : g1 < g2 := by rw [hg2]; exact below_lt BX1.out
  have hs2 : g2 = w.heap.size + 1 := by rw [hg2, HW1.out]; simp
  have HS2 := Lib.hid hs2; clear hs2
  have HW2 := Lib.hid hw2; have HG2 := Lib.hid hg2; clear hw2 hg2
  have HB2 := Lib.hid (HB1.out.step hb2)
  have Fa := Lib.hid (Fa.out.below hb2)
  have BX1 := Lib.hid (heap_below BX1.out hb2)
  have BX2 := Lib.hid hx2; clear hb2 hx2
  go_enter Tryd.func12, Tryd.ntmps12
  go_wp2_with (with_reducible first | refine pauseCall ?_ | refine pauseLoop ?_ | refine pauseDraw ?_ | refine pauseBody ?_ | refine pauseRounds ?_)
  try rw [← HW1.out]
  try rw [← HW2.out]
  try rw [← HS2.out]
  try rw [← HG1.out]
  try rw [← HG2.out]
  refine Pause.mk ?_
  have k1 : rl ((1 : Int) : Rat) ≤ 2 := rl_small (by decide) (by decide)
  obtain ⟨k2, k3⟩ : rl ((((1 : Int) : Rat), ((1 : Int) : Rat)) : Rat × Rat).1 = rl (((1 : Int) : Rat)) ∧ rl ((((1 : Int) : Rat), ((1 : Int) : Rat)) : Rat × Rat).2 = rl (((1 : Int) : Rat)) := ⟨rfl, rfl⟩
  refine wp_region_facts (A := ?aa4) (w := w2) 3 [] (by kernel_rfl) (Fl [KIs (((1 : Int) : Rat)), KSp ((((1 : Int) : Rat), ((1 : Int) : Rat))), KEq (.agg #[.bool qa, .slice oa na ka, .slice pa ma ra, .bool qax, .slice oax nax kax, .slice pax max rax])]) (fun i => false) (by kernel_rfl) ?hq4 (monoL (monoC (kIs _) (monoC (kSp _) (monoC (kEq _) monoN)))) ?ha4 ?st4 ?tl4
  case hq4 =>
    intro c a d v w h
    first | (simp only [Exit.then] at h ⊢; exact h) | (simp only [Exit.inBlock, Exit.then] at h ⊢; exact h) | exact h
  case ha4 =>
    intro vals
    simp only [putsTo, dstOf, if_true, Act.put, List.setIfInBounds_toArray, List.set_cons_zero, List.set_cons_succ, List.getElem?_toArray, List.getElem?_cons_zero, List.getElem?_cons_succ, Option.bind_some]
    exact rfl
  case st4 =>
    simp only [List.take_succ_cons, List.take_zero]
    refine stepsOK_cons rfl rfl ?_ (stepsOK_cons rfl rfl ?_ (stepsOK_cons rfl rfl ?_ (stepsOK_nil)))
    · intro vals w1 hb hd
      have hs := ofq_any 1 w1 (by decide) (by decide)
      have HS := Lib.hid hs; clear hs
      clear hd
      refine stepOK_call (by go_simp; first | done | exact ⟨⟨rfl, rfl⟩, rfl⟩) ?_
      (with_reducible refine HS.out.mono ?_); rintro e w2 ⟨v, rfl, hb2, hn⟩
      exact ⟨v, rfl, leaves_mk hb2 hn (fun h => by cases h)⟩
    · intro vals w1 hb hd
      have d0 : KIs (((1 : Int) : Rat)) (vals 0) w1 := hd 0 (by kernel_rfl)
      have R0 : Hid (IsR w1 (vals 0) (((1 : Int) : Rat))) := Lib.hid d0
      have hs := point_any _ (((1 : Int) : Rat)) w1 (R0.out.is (by omega)) (by omega)
      have HS := Lib.hid hs; clear hs
      clear d0 hd
      refine stepOK_call (by go_simp; first | done | exact ⟨⟨rfl, rfl⟩, rfl⟩) ?_
      (with_reducible refine HS.out.mono ?_); rintro e w2 ⟨v, rfl, hb2, hn⟩
      exact ⟨v, rfl, leaves_mk hb2 hn (fun h => by cases h)⟩
    · intro vals w1 hb hd
      obtain ⟨e0, e1, e2, e3, e4, e5⟩ := row6 (heap_below BX1.out hb)
      refine stepOK_value (v := .agg #[.bool qa, .slice oa na ka, .slice pa ma ra, .bool qax, .slice oax nax kax, .slice pax max rax]) (w' := w1) (by go_simp) (leaves_mk (Below.refl _ _) rfl (fun h => by cases h))
  case tl4 =>
    intro vals w3 hb3 hf hdis
    simp only [List.drop_succ_cons, List.drop_zero]
    obtain ⟨u4_1, hu1⟩ : ∃ u, u = vals 1 := ⟨_, rfl⟩
    have hn4_1 : IsSp w3 (vals 1) ((((1 : Int) : Rat), ((1 : Int) : Rat))) := hf 1 (by decide)
    rw [← hu1] at hn4_1 ⊢; clear hu1
    have z2 : vals 2 = _ := hf 2 (by decide)
    try rw [z2]
    clear z2
    clear hf hdis
    have HB3 := Lib.hid (HB2.out.step hb3)
    have Fa := Lib.hid (Fa.out.below hb3)
    have BX1 := Lib.hid (heap_below BX1.out hb3)
    have BX2 := Lib.hid (heap_below BX2.out hb3)
    clear hb3
    have N4_1 := Lib.hid hn4_1; clear hn4_1
    obtain ⟨s5, o5, n5, c5, a5, m5, d5, s5x, o5x, n5x, c5x, a5x, m5x, d5x, rfl⟩ := N4_1.out.shape
    have N4_1l := Lib.hid (isSp_ends N4_1.out).1; have N4_1h := Lib.hid (isSp_ends N4_1.out).2
    skip
    obtain ⟨k6, k7⟩ := rl_sSub ((((1 : Int) : Rat), ((1 : Int) : Rat))) (a)
    have hs := ssub_any _ ((((1 : Int) : Rat), ((1 : Int) : Rat))) _ (a) w3 (N4_1.out.is Rat.le_refl (by omega) (by omega)) Fa.out (by omega) (by omega) (by omega) (by omega)
    have HS := Lib.hid hs; clear hs
    go_wp2_with (with_reducible first | refine pauseCall ?_ | refine pauseLoop ?_ | refine pauseDraw ?_ | refine pauseBody ?_ | refine pauseRounds ?_)
    refine Pause.mk ?_
    (with_reducible refine HS.out.mono ?_); rintro e w4 ⟨v4, rfl, hb4, hn4⟩
    clear HS
    have HB4 := Lib.hid (HB3.out.step hb4)
    have Fa := Lib.hid (Fa.out.below hb4)
    have N4_1 := Lib.hid (N4_1.out.below hb4)
    have N4_1l := Lib.hid (N4_1l.out.below hb4)
    have N4_1h := Lib.hid (N4_1h.out.below hb4)
    have BX1 := Lib.hid (heap_below BX1.out hb4)
    have BX2 := Lib.hid (heap_below BX2.out hb4)
    have N4 := Lib.hid hn4; clear hn4
    obtain ⟨s8, o8, n8, c8, a8, m8, d8, s8x, o8x, n8x, c8x, a8x, m8x, d8x, rfl⟩ := N4.out.shape
    have N4l := Lib.hid (isSp_ends N4.out).1; have N4h := Lib.hid (isSp_ends N4.out).2
    clear hb4
    go_wp2_with (with_reducible refine wpList_pauseS ?_)
    refine wpList_stL g2 0 [.bool s8, .slice o8 n8 c8, .slice a8 m8 d8, .bool s8x, .slice o8x n8x c8x, .slice a8x m8x d8x] BX2.out rfl rfl (Nat.le_of_ble_eq_true rfl) (by kernel_rfl) rfl ?_
    intro w5 hp5
    have Fa := Lib.hid (putL_SS hp5 Fa.out BX2.out noW6)
    have N4_1 := Lib.hid (putL_SI hp5 N4_1.out BX2.out noW6)
    have N4_1l := Lib.hid (putL_I hp5 N4_1l.out BX2.out noW6)
    have N4_1h := Lib.hid (putL_I hp5 N4_1h.out BX2.out noW6)
    have N4 := Lib.hid (putL_SI hp5 N4.out BX2.out noW6)
    have N4l := Lib.hid (putL_I hp5 N4l.out BX2.out noW6)
    have N4h := Lib.hid (putL_I hp5 N4h.out BX2.out noW6)
    have BX1 := Lib.hid (putLx hp5 BX1.out (by omega))
    have nx5 : w5.heap[g2]? = some (.cells #[.bool s8, .slice o8 n8 c8, .slice a8 m8 d8, .bool s8x, .slice o8x n8x c8x, .slice a8x m8x d8x] 26) := by rw [hp5]; exact putL_6 BX2.out
    have BX2 := Lib.hid nx5; clear nx5
    have HB5 := Lib.hid (putLb hp5 HB4.out (by omega))
    clear hp5
    obtain ⟨x9_0, x9_1, x9_2, x9_3, x9_4, x9_5⟩ := row6 BX2.out
    go_wp2_with (with_reducible first | refine pauseCall ?_ | refine pauseLoop ?_ | refine pauseDraw ?_ | refine pauseBody ?_ | refine pauseRounds ?_)
    clear x9_0 x9_1 x9_2 x9_3 x9_4 x9_5
    refine Pause.mk ?_
    refine ret_span rfl g2 _ _ _ _ _ _ (by first | rfl | exact rfl) BX2.out rfl ?_
    exact ⟨_, rfl, HB5.out, N4.out⟩
theorem snot_any (va : Value) (a : Rat × Rat) (w : World) (ha : SpIs w va a) (la1 : rl a.1 ≤ 17000) (la2 : rl a.2 ≤ 17000) :
    Calls Tryd.prog 12 #[va] w (RetSp w (sNot a)) := by
  have h := snot_raw va a w ha la1 la2
  rw [one_sub] at h; exact h
set_option maxRecDepth 100000 in
set_option maxHeartbeats 6400000 in
theorem smul_raw (va : Value) (a : Rat × Rat) (vb : Value) (b : Rat × Rat) (w : World) (ha : SpIs w va a) (hb : SpIs w vb b) (la1 : rl a.1 ≤ 19000) (la2 : rl a.2 ≤ 19000) (lb1 : rl b.1 ≤ 19000) (lb2 : rl b.2 ≤ 19000) :
    Calls Tryd.prog 25 #[va, vb] w (RetSp w (around4 (((a).1) * ((b).1)) (((a).1) * ((b).2)) (((a).2) * ((b).1)) (((a).2) * ((b).2)))) := by
  have HBW := Lib.hid (Below.refl w.heap.size w)
  have kz0 : rl 0 ≤ 1 := by rw [rl_zero]; exact Nat.le_refl _
  obtain ⟨qa, oa, na, ka, pa, ma, ra, qax, oax, nax, kax, pax, max, rax, rfl⟩ := ha.shape
  have hla := ha.rl; have hoa := ha.ok; obtain ⟨hlaa, hlab⟩ := hla
  have hoa := Lib.hid hoa
  obtain ⟨qb, ob, nb, kb, pb, mb, rb, qbx, obx, nbx, kbx, pbx, mbx, rbx, rfl⟩ := hb.shape
  have hlb := hb.rl; have hob := hb.ok; obtain ⟨hlba, hlbb⟩ := hlb
  have hob := Lib.hid hob
  have Fa := Lib.hid ha; clear ha
  have Fb := Lib.hid hb; clear hb
  obtain ⟨w1, hw1⟩ : ∃ w1, w1 = w.alloc (.cells #[.bool qa, .slice oa na ka, .slice pa ma ra, .bool qax, .slice oax nax kax, .slice pax max rax] 26) := ⟨_, rfl⟩
  have hb1 : Below w.heap.size w w1 := by rw [hw1]; exact (Below.refl _ _).alloc (Nat.le_refl _) _
  have hx1 := heap_alloc_new w (.cells #[.bool qa, .slice oa na ka, .slice pa ma ra, .bool qax, .slice oax nax kax, .slice pax max rax] 26)
  obtain ⟨g1, hg1⟩ : ∃ g, g = w.heap.size := ⟨_, rfl⟩
  rw [← hw1, ← hg1] at hx1
  have lw1 : w.heap.size ≤ g1 := by rw [hg1]; exact HBW.out.size
  have HW1 := Lib.hid hw1; have HG1 := Lib.hid hg1; clear hw1 hg1
  have HB1 := Lib.hid (HBW.out.step hb1)
  have Fa := Lib.hid (Fa.out.below hb1)
  have Fb := Lib.hid (Fb.out.below hb1)
  have BX1 := Lib.hid hx1; clear hb1 hx1
  obtain ⟨w2, hw2⟩ : ∃ w2, w2 = w1.alloc (.cells #[.bool qb, .slice ob nb kb, .slice pb mb rb, .bool qbx, .slice obx nbx kbx, .slice pbx mbx rbx] 26) := ⟨_, rfl⟩
  have hb2 : Below w1.heap.size w1 w2 := by rw [hw2]; exact (Below.refl _ _).alloc (Nat.le_refl _) _
  have hx2 := heap_alloc_new w1 (.cells #[.bool qb, .slice ob nb kb, .slice pb mb rb, .bool qbx, .slice obx nbx kbx, .slice pbx mbx rbx] 26)
  obtain ⟨g2, hg2⟩ : ∃ g, g = w1.heap.size := ⟨_, rfl⟩
  rw [← hw2, ← hg2] at hx2
  have lw2 : w.heap.size ≤ g2 := by rw [hg2]; exact HB1.out.size
  have ltBX12 : g1 < g2 := by rw [hg2]; exact below_lt BX1.out
  have hs2 : g2 = w.heap.size + 1 := by rw [hg2, HW1.out]; simp
  have HS2 := Lib.hid hs2; clear hs2
  have HW2 := Lib.hid hw2; have HG2 := Lib.hid hg2; clear hw2 hg2
  have HB2 := Lib.hid (HB1.out.step hb2)
  have Fa := Lib.hid (Fa.out.below hb2)
  have Fb := Lib.hid (Fb.out.below hb2)
  have BX1 := Lib.hid (heap_below BX1.out hb2)
  have BX2 := Lib.hid hx2; clear hb2 hx2
  obtain ⟨w3, hw3⟩ : ∃ w3, w3 = w2.alloc (.cells #[.bool false, .slice none 0 0, .slice none 0 0, .bool false, .slice none 0 0, .slice none 0 0] 26) := ⟨_, rfl⟩
  have hb3 : Below w2.heap.size w2 w3 := by rw [hw3]; exact (Below.refl _ _).alloc (Nat.le_refl _) _
  have hx3 := heap_alloc_new w2 (.cells #[.bool false, .slice none 0 0, .slice none 0 0, .bool false, .slice none 0 0, .slice none 0 0] 26)
  obtain ⟨g3, hg3⟩ : ∃ g, g = w2.heap.size := ⟨_, rfl⟩
  rw [← hw3, ← hg3] at hx3
  have lw3 : w.heap.size ≤ g3 := by rw [hg3]; exact HB2.out.size
  have ltBX13 : g1 < g3 := by rw [hg3]; exact below_lt BX1.out
  have ltBX23 : g2 < g3 := by rw [hg3]; exact below_lt BX2.out
  have hs3 : g3 = w.heap.size + 2 := by rw [hg3, HW2.out, HW1.out]; simp
  have HS3 := Lib.hid hs3; clear hs3
  have HW3 := Lib.hid hw3; have HG3 := Lib.hid hg3; clear hw3 hg3
  have HB3 := Lib.hid (HB2.out.step hb3)
  have Fa := Lib.hid (Fa.out.below hb3)
  have Fb := Lib.hid (Fb.out.below hb3)
  have BX1 := Lib.hid (heap_below BX1.out hb3)
  have BX2 := Lib.hid (heap_below BX2.out hb3)
  have BX3 := Lib.hid hx3; clear hb3 hx3
  go_enter Tryd.func25, Tryd.ntmps25
  go_wp2_with (with_reducible first | refine pauseCall ?_ | refine pauseLoop ?_ | refine pauseDraw ?_ | refine pauseBody ?_ | refine pauseRounds ?_)
  try rw [← HW1.out]
  try rw [← HW2.out]
  try rw [← HW3.out]
  try rw [← HS3.out]
  try rw [← HS2.out]
  try rw [← HG1.out]
  try rw [← HG2.out]
  try rw [← HG3.out]
  refine Pause.mk ?_
  refine wp_region_facts (A := ?aa1) (w := w3) 3 [] (by kernel_rfl) (Fl [KEq (.agg #[.bool qa, .slice oa na ka, .slice pa ma ra, .bool qax, .slice oax nax kax, .slice pax max rax]), KSp (a), KEq (.agg #[.bool qb, .slice ob nb kb, .slice pb mb rb, .bool qbx, .slice obx nbx kbx, .slice pbx mbx rbx])]) (fun i => false) (by kernel_rfl) ?hq1 (monoL (monoC (kEq _) (monoC (kSp _) (monoC (kEq _) monoN)))) ?ha1 ?st1 ?tl1
  case hq1 =>
    intro c a d v w h
    first | (simp only [Exit.then] at h ⊢; exact h) | (simp only [Exit.inBlock, Exit.then] at h ⊢; exact h) | exact h
  case ha1 =>
    intro vals
    simp only [putsTo, dstOf, if_true, Act.put, List.setIfInBounds_toArray, List.set_cons_zero, List.set_cons_succ, List.getElem?_toArray, List.getElem?_cons_zero, List.getElem?_cons_succ, Option.bind_some]
    exact rfl
  case st1 =>
    simp only [List.take_succ_cons, List.take_zero]
    refine stepsOK_cons rfl rfl ?_ (stepsOK_cons rfl rfl ?_ (stepsOK_cons rfl rfl ?_ (stepsOK_nil)))
    · intro vals w1 hb hd
      obtain ⟨e0, e1, e2, e3, e4, e5⟩ := row6 (heap_below BX1.out hb)
      refine stepOK_value (v := .agg #[.bool qa, .slice oa na ka, .slice pa ma ra, .bool qax, .slice oax nax kax, .slice pax max rax]) (w' := w1) (by go_simp) (leaves_mk (Below.refl _ _) rfl (fun h => by cases h))
    · intro vals w1 hb hd
      have d0 : KEq (.agg #[.bool qa, .slice oa na ka, .slice pa ma ra, .bool qax, .slice oax nax kax, .slice pax max rax]) (vals 0) w1 := hd 0 (by kernel_rfl)
      have z0 : vals 0 = _ := d0
      have hs := norm_any _ (a) w1 (Fa.out.below hb)
      have HS := Lib.hid hs; clear hs
      rw [z0]; clear z0
      clear d0 hd
      refine stepOK_call (by go_simp; first | done | exact ⟨⟨rfl, rfl⟩, rfl⟩) ?_
      (with_reducible refine HS.out.mono ?_); rintro e w2 ⟨v, rfl, hb2, hn⟩
      exact ⟨v, rfl, leaves_mk hb2 hn (fun h => by cases h)⟩
    · intro vals w1 hb hd
      obtain ⟨e0, e1, e2, e3, e4, e5⟩ := row6 (heap_below BX2.out hb)
      refine stepOK_value (v := .agg #[.bool qb, .slice ob nb kb, .slice pb mb rb, .bool qbx, .slice obx nbx kbx, .slice pbx mbx rbx]) (w' := w1) (by go_simp) (leaves_mk (Below.refl _ _) rfl (fun h => by cases h))
  case tl1 =>
    intro vals w4 hb4 hf hdis
    simp only [List.drop_succ_cons, List.drop_zero]
    obtain ⟨u1_1, hu1⟩ : ∃ u, u = vals 1 := ⟨_, rfl⟩
    have hn1_1 : IsSp w4 (vals 1) (a) := hf 1 (by decide)
    rw [← hu1] at hn1_1 ⊢; clear hu1
    have z2 : vals 2 = _ := hf 2 (by decide)
    try rw [z2]
    clear z2
    clear hf hdis
    have HB4 := Lib.hid (HB3.out.step hb4)
    have Fa := Lib.hid (Fa.out.below hb4)
    have Fb := Lib.hid (Fb.out.below hb4)
    have BX1 := Lib.hid (heap_below BX1.out hb4)
    have BX2 := Lib.hid (heap_below BX2.out hb4)
    have BX3 := Lib.hid (heap_below BX3.out hb4)
    clear hb4
    have N1_1 := Lib.hid hn1_1; clear hn1_1
    obtain ⟨s2, o2, n2, c2, a2, m2, d2, s2x, o2x, n2x, c2x, a2x, m2x, d2x, rfl⟩ := N1_1.out.shape
    have N1_1l := Lib.hid (isSp_ends N1_1.out).1; have N1_1h := Lib.hid (isSp_ends N1_1.out).2
    skip
    have hs := norm_any _ (b) w4 Fb.out
    have HS := Lib.hid hs; clear hs
    go_wp2_with (with_reducible first | refine pauseCall ?_ | refine pauseLoop ?_ | refine pauseDraw ?_ | refine pauseBody ?_ | refine pauseRounds ?_)
    refine Pause.mk ?_
    (with_reducible refine HS.out.mono ?_); rintro e w5 ⟨v5, rfl, hb5, hn5⟩
    clear HS
    have HB5 := Lib.hid (HB4.out.step hb5)
    have Fa := Lib.hid (Fa.out.below hb5)
    have Fb := Lib.hid (Fb.out.below hb5)
    have N1_1 := Lib.hid (N1_1.out.below hb5)
    have N1_1l := Lib.hid (N1_1l.out.below hb5)
    have N1_1h := Lib.hid (N1_1h.out.below hb5)
    have BX1 := Lib.hid (heap_below BX1.out hb5)
    have BX2 := Lib.hid (heap_below BX2.out hb5)
    have BX3 := Lib.hid (heap_below BX3.out hb5)
    have N5 := Lib.hid hn5; clear hn5
    obtain ⟨s3, o3, n3, c3, a3, m3, d3, s3x, o3x, n3x, c3x, a3x, m3x, d3x, rfl⟩ := N5.out.shape
    have N5l := Lib.hid (isSp_ends N5.out).1; have N5h := Lib.hid (isSp_ends N5.out).2
    clear hb5
    go_wp2_with (with_reducible refine wpList_pauseS ?_)
    refine wpList_stL g1 0 [.bool s2, .slice o2 n2 c2, .slice a2 m2 d2, .bool s2x, .slice o2x n2x c2x, .slice a2x m2x d2x] BX1.out rfl rfl (Nat.le_of_ble_eq_true rfl) (by kernel_rfl) rfl ?_
    intro w6 hp6
    have Fa := Lib.hid (putL_SS hp6 Fa.out BX1.out noW6)
    have Fb := Lib.hid (putL_SS hp6 Fb.out BX1.out noW6)
    have N1_1 := Lib.hid (putL_SI hp6 N1_1.out BX1.out noW6)
    have N1_1l := Lib.hid (putL_I hp6 N1_1l.out BX1.out noW6)
    have N1_1h := Lib.hid (putL_I hp6 N1_1h.out BX1.out noW6)
    have N5 := Lib.hid (putL_SI hp6 N5.out BX1.out noW6)
    have N5l := Lib.hid (putL_I hp6 N5l.out BX1.out noW6)
    have N5h := Lib.hid (putL_I hp6 N5h.out BX1.out noW6)
    have BX2 := Lib.hid (putLx hp6 BX2.out (by omega))
    have BX3 := Lib.hid (putLx hp6 BX3.out (by omega))
    have nx6 : w6.heap[g1]? = some (.cells #[.bool s2, .slice o2 n2 c2, .slice a2 m2 d2, .bool s2x, .slice o2x n2x c2x, .slice a2x m2x d2x] 26) := by rw [hp6]; exact putL_6 BX1.out
    have BX1 := Lib.hid nx6; clear nx6
    have HB6 := Lib.hid (putLb hp6 HB5.out (by omega))
    clear hp6
    go_wp2_with (with_reducible refine wpList_pauseS ?_)
    refine wpList_stL g2 0 [.bool s3, .slice o3 n3 c3, .slice a3 m3 d3, .bool s3x, .slice o3x n3x c3x, .slice a3x m3x d3x] BX2.out rfl rfl (Nat.le_of_ble_eq_true rfl) (by kernel_rfl) rfl ?_
    intro w7 hp7
    have Fa := Lib.hid (putL_SS hp7 Fa.out BX2.out noW6)
    have Fb := Lib.hid (putL_SS hp7 Fb.out BX2.out noW6)
    have N1_1 := Lib.hid (putL_SI hp7 N1_1.out BX2.out noW6)
    have N1_1l := Lib.hid (putL_I hp7 N1_1l.out BX2.out noW6)
    have N1_1h := Lib.hid (putL_I hp7 N1_1h.out BX2.out noW6)
    have N5 := Lib.hid (putL_SI hp7 N5.out BX2.out noW6)
    have N5l := Lib.hid (putL_I hp7 N5l.out BX2.out noW6)
    have N5h := Lib.hid (putL_I hp7 N5h.out BX2.out noW6)
    have BX1 := Lib.hid (putLx hp7 BX1.out (by omega))
    have BX3 := Lib.hid (putLx hp7 BX3.out (by omega))
    have nx7 : w7.heap[g2]? = some (.cells #[.bool s3, .slice o3 n3 c3, .slice a3 m3 d3, .bool s3x, .slice o3x n3x c3x, .slice a3x m3x d3x] 26) := by rw [hp7]; exact putL_6 BX2.out
    have BX2 := Lib.hid nx7; clear nx7
    have HB7 := Lib.hid (putLb hp7 HB6.out (by omega))
    clear hp7
    go_wp2_with (with_reducible first | refine pauseCall ?_ | refine pauseLoop ?_ | refine pauseDraw ?_ | refine pauseBody ?_ | refine pauseRounds ?_)
    refine Pause.mk ?_
    have k4 := rl_mul ((a).1) ((b).1)
    have k5 := rl_mul ((a).1) ((b).2)
    have k6 := rl_mul ((a).2) ((b).1)
    refine wp_region_facts (A := ?aa7) (w := w7) 19 [] (by kernel_rfl) (Fl [KEq (.pointer (some ⟨g1, 0, none⟩)), KEq (.agg #[.bool s2, .slice o2 n2 c2, .slice a2 m2 d2]), KEq (.pointer (some ⟨g2, 0, none⟩)), KEq (.agg #[.bool s3, .slice o3 n3 c3, .slice a3 m3 d3]), KIs (((a).1) * ((b).1)), KEq (.pointer (some ⟨g1, 0, none⟩)), KEq (.agg #[.bool s2, .slice o2 n2 c2, .slice a2 m2 d2]), KEq (.pointer (some ⟨g2, 3, none⟩)), KEq (.agg #[.bool s3x, .slice o3x n3x c3x, .slice a3x m3x d3x]), KIs (((a).1) * ((b).2)), KEq (.pointer (some ⟨g1, 3, none⟩)), KEq (.agg #[.bool s2x, .slice o2x n2x c2x, .slice a2x m2x d2x]), KEq (.pointer (some ⟨g2, 0, none⟩)), KEq (.agg #[.bool s3, .slice o3 n3 c3, .slice a3 m3 d3]), KIs (((a).2) * ((b).1)), KEq (.pointer (some ⟨g1, 3, none⟩)), KEq (.agg #[.bool s2x, .slice o2x n2x c2x, .slice a2x m2x d2x]), KEq (.pointer (some ⟨g2, 3, none⟩)), KEq (.agg #[.bool s3x, .slice o3x n3x c3x, .slice a3x m3x d3x])]) (fun i => false) (by kernel_rfl) ?hq7 (monoL (monoC (kEq _) (monoC (kEq _) (monoC (kEq _) (monoC (kEq _) (monoC (kIs _) (monoC (kEq _) (monoC (kEq _) (monoC (kEq _) (monoC (kEq _) (monoC (kIs _) (monoC (kEq _) (monoC (kEq _) (monoC (kEq _) (monoC (kEq _) (monoC (kIs _) (monoC (kEq _) (monoC (kEq _) (monoC (kEq _) (monoC (kEq _) monoN)))))))))))))))))))) ?ha7 ?st7 ?tl7
    case hq7 =>
      intro c a d v w h
      first | (simp only [Exit.then] at h ⊢; exact h) | (simp only [Exit.inBlock, Exit.then] at h ⊢; exact h) | exact h
    case ha7 =>
      intro vals
      simp only [putsTo, dstOf, if_true, Act.put, List.setIfInBounds_toArray, List.set_cons_zero, List.set_cons_succ, List.getElem?_toArray, List.getElem?_cons_zero, List.getElem?_cons_succ, Option.bind_some]
      exact rfl
    case st7 =>
      simp only [List.take_succ_cons, List.take_zero]
      refine stepsOK_cons rfl rfl ?_ (stepsOK_cons rfl rfl ?_ (stepsOK_cons rfl rfl ?_ (stepsOK_cons rfl rfl ?_ (stepsOK_cons rfl rfl ?_ (stepsOK_cons rfl rfl ?_ (stepsOK_cons rfl rfl ?_ (stepsOK_cons rfl rfl ?_ (stepsOK_cons rfl rfl ?_ (stepsOK_cons rfl rfl ?_ (stepsOK_cons rfl rfl ?_ (stepsOK_cons rfl rfl ?_ (stepsOK_cons rfl rfl ?_ (stepsOK_cons rfl rfl ?_ (stepsOK_cons rfl rfl ?_ (stepsOK_cons rfl rfl ?_ (stepsOK_cons rfl rfl ?_ (stepsOK_cons rfl rfl ?_ (stepsOK_cons rfl rfl ?_ (stepsOK_nil)))))))))))))))))))
      · intro vals w1 hb hd
        refine stepOK_value (v := (.pointer (some ⟨g1, 0, none⟩))) (w' := w1) (by go_simp) (leaves_mk (Below.refl _ _) rfl (fun h => by cases h))
      · intro vals w1 hb hd
        have d0 : KEq (.pointer (some ⟨g1, 0, none⟩)) (vals 0) w1 := hd 0 (by kernel_rfl)
        rw [show vals 0 = _ from d0]
        obtain ⟨e0, e1, e2, e3, e4, e5⟩ := row6 (heap_below BX1.out hb)
        refine stepOK_value (v := .agg #[.bool s2, .slice o2 n2 c2, .slice a2 m2 d2]) (w' := w1) (by go_simp) (leaves_mk (Below.refl _ _) rfl (fun h => by cases h))
      · intro vals w1 hb hd
        refine stepOK_value (v := (.pointer (some ⟨g2, 0, none⟩))) (w' := w1) (by go_simp) (leaves_mk (Below.refl _ _) rfl (fun h => by cases h))
      · intro vals w1 hb hd
        have d2 : KEq (.pointer (some ⟨g2, 0, none⟩)) (vals 2) w1 := hd 2 (by kernel_rfl)
        rw [show vals 2 = _ from d2]
        obtain ⟨e0, e1, e2, e3, e4, e5⟩ := row6 (heap_below BX2.out hb)
        refine stepOK_value (v := .agg #[.bool s3, .slice o3 n3 c3, .slice a3 m3 d3]) (w' := w1) (by go_simp) (leaves_mk (Below.refl _ _) rfl (fun h => by cases h))
      · intro vals w1 hb hd
        have d1 : KEq (.agg #[.bool s2, .slice o2 n2 c2, .slice a2 m2 d2]) (vals 1) w1 := hd 1 (by kernel_rfl)
        have d3 : KEq (.agg #[.bool s3, .slice o3 n3 c3, .slice a3 m3 d3]) (vals 3) w1 := hd 3 (by kernel_rfl)
        have z1 : vals 1 = _ := d1
        have z3 : vals 3 = _ := d3
        have hs := mulq_any _ ((a).1) _ ((b).1) w1 ((N1_1l.out.below hb).is (by omega)) ((N5l.out.below hb).is (by omega))
        have HS := Lib.hid hs; clear hs
        rw [z1]; clear z1
        rw [z3]; clear z3
        clear d1 d3 hd
        refine stepOK_call (by go_simp; first | done | exact ⟨⟨rfl, rfl⟩, rfl⟩) ?_
        (with_reducible refine HS.out.mono ?_); rintro e w2 ⟨v, rfl, hb2, hn⟩
        exact ⟨v, rfl, leaves_mk hb2 hn (fun h => by cases h)⟩
      · intro vals w1 hb hd
        refine stepOK_value (v := (.pointer (some ⟨g1, 0, none⟩))) (w' := w1) (by go_simp) (leaves_mk (Below.refl _ _) rfl (fun h => by cases h))
      · intro vals w1 hb hd
        have d5 : KEq (.pointer (some ⟨g1, 0, none⟩)) (vals 5) w1 := hd 5 (by kernel_rfl)
        rw [show vals 5 = _ from d5]
        obtain ⟨e0, e1, e2, e3, e4, e5⟩ := row6 (heap_below BX1.out hb)
        refine stepOK_value (v := .agg #[.bool s2, .slice o2 n2 c2, .slice a2 m2 d2]) (w' := w1) (by go_simp) (leaves_mk (Below.refl _ _) rfl (fun h => by cases h))
      · intro vals w1 hb hd
        refine stepOK_value (v := (.pointer (some ⟨g2, 3, none⟩))) (w' := w1) (by go_simp) (leaves_mk (Below.refl _ _) rfl (fun h => by cases h))
      · intro vals w1 hb hd
        have d7 : KEq (.pointer (some ⟨g2, 3, none⟩)) (vals 7) w1 := hd 7 (by kernel_rfl)
        rw [show vals 7 = _ from d7]
        obtain ⟨e0, e1, e2, e3, e4, e5⟩ := row6 (heap_below BX2.out hb)
        refine stepOK_value (v := .agg #[.bool s3x, .slice o3x n3x c3x, .slice a3x m3x d3x]) (w' := w1) (by go_simp) (leaves_mk (Below.refl _ _) rfl (fun h => by cases h))
      · intro vals w1 hb hd
        have d6 : KEq (.agg #[.bool s2, .slice o2 n2 c2, .slice a2 m2 d2]) (vals 6) w1 := hd 6 (by kernel_rfl)
        have d8 : KEq (.agg #[.bool s3x, .slice o3x n3x c3x, .slice a3x m3x d3x]) (vals 8) w1 := hd 8 (by kernel_rfl)
        have z6 : vals 6 = _ := d6
        have z8 : vals 8 = _ := d8
        have hs := mulq_any _ ((a).1) _ ((b).2) w1 ((N1_1l.out.below hb).is (by omega)) ((N5h.out.below hb).is (by omega))
        have HS := Lib.hid hs; clear hs
        rw [z6]; clear z6
        rw [z8]; clear z8
        clear d6 d8 hd
        refine stepOK_call (by go_simp; first | done | exact ⟨⟨rfl, rfl⟩, rfl⟩) ?_
        (with_reducible refine HS.out.mono ?_); rintro e w2 ⟨v, rfl, hb2, hn⟩
        exact ⟨v, rfl, leaves_mk hb2 hn (fun h => by cases h)⟩
      · intro vals w1 hb hd
        refine stepOK_value (v := (.pointer (some ⟨g1, 3, none⟩))) (w' := w1) (by go_simp) (leaves_mk (Below.refl _ _) rfl (fun h => by cases h))
      · intro vals w1 hb hd
        have d10 : KEq (.pointer (some ⟨g1, 3, none⟩)) (vals 10) w1 := hd 10 (by kernel_rfl)
        rw [show vals 10 = _ from d10]
        obtain ⟨e0, e1, e2, e3, e4, e5⟩ := row6 (heap_below BX1.out hb)
        refine stepOK_value (v := .agg #[.bool s2x, .slice o2x n2x c2x, .slice a2x m2x d2x]) (w' := w1) (by go_simp) (leaves_mk (Below.refl _ _) rfl (fun h => by cases h))
      · intro vals w1 hb hd
        refine stepOK_value (v := (.pointer (some ⟨g2, 0, none⟩))) (w' := w1) (by go_simp) (leaves_mk (Below.refl _ _) rfl (fun h => by cases h))
      · intro vals w1 hb hd
        have d12 : KEq (.pointer (some ⟨g2, 0, none⟩)) (vals 12) w1 := hd 12 (by kernel_rfl)
        rw [show vals 12 = _ from d12]
        obtain ⟨e0, e1, e2, e3, e4, e5⟩ := row6 (heap_below BX2.out hb)
        refine stepOK_value (v := .agg #[.bool s3, .slice o3 n3 c3, .slice a3 m3 d3]) (w' := w1) (by go_simp) (leaves_mk (Below.refl _ _) rfl (fun h => by cases h))
      · intro vals w1 hb hd
        have d11 : KEq (.agg #[.bool s2x, .slice o2x n2x c2x, .slice a2x m2x d2x]) (vals 11) w1 := hd 11 (by kernel_rfl)
        have d13 : KEq (.agg #[.bool s3, .slice o3 n3 c3, .slice a3 m3 d3]) (vals 13) w1 := hd 13 (by kernel_rfl)
        have z11 : vals 11 = _ := d11
        have z13 : vals 13 = _ := d13
        have hs := mulq_any _ ((a).2) _ ((b).1) w1 ((N1_1h.out.below hb).is (by omega)) ((N5l.out.below hb).is (by omega))
        have HS := Lib.hid hs; clear hs
        rw [z11]; clear z11
        rw [z13]; clear z13
        clear d11 d13 hd
        refine stepOK_call (by go_simp; first | done | exact ⟨⟨rfl, rfl⟩, rfl⟩) ?_
        (with_reducible refine HS.out.mono ?_); rintro e w2 ⟨v, rfl, hb2, hn⟩
        exact ⟨v, rfl, leaves_mk hb2 hn (fun h => by cases h)⟩
      · intro vals w1 hb hd
        refine stepOK_value (v := (.pointer (some ⟨g1, 3, none⟩))) (w' := w1) (by go_simp) (leaves_mk (Below.refl _ _) rfl (fun h => by cases h))
      · intro vals w1 hb hd
        have d15 : KEq (.pointer (some ⟨g1, 3, none⟩)) (vals 15) w1 := hd 15 (by kernel_rfl)
        rw [show vals 15 = _ from d15]
        obtain ⟨e0, e1, e2, e3, e4, e5⟩ := row6 (heap_below BX1.out hb)
        refine stepOK_value (v := .agg #[.bool s2x, .slice o2x n2x c2x, .slice a2x m2x d2x]) (w' := w1) (by go_simp) (leaves_mk (Below.refl _ _) rfl (fun h => by cases h))
      · intro vals w1 hb hd
        refine stepOK_value (v := (.pointer (some ⟨g2, 3, none⟩))) (w' := w1) (by go_simp) (leaves_mk (Below.refl _ _) rfl (fun h => by cases h))
      · intro vals w1 hb hd
        have d17 : KEq (.pointer (some ⟨g2, 3, none⟩)) (vals 17) w1 := hd 17 (by kernel_rfl)
        rw [show vals 17 = _ from d17]
        obtain ⟨e0, e1, e2, e3, e4, e5⟩ := row6 (heap_below BX2.out hb)
        refine stepOK_value (v := .agg #[.bool s3x, .slice o3x n3x c3x, .slice a3x m3x d3x]) (w' := w1) (by go_simp) (leaves_mk (Below.refl _ _) rfl (fun h => by cases h))
    case tl7 =>
      intro vals w8 hb8 hf hdis
      simp only [List.drop_succ_cons, List.drop_zero]
      obtain ⟨u7_4, hu4⟩ : ∃ u, u = vals 4 := ⟨_, rfl⟩
      have hn7_4 : IsR w8 (vals 4) (((a).1) * ((b).1)) := hf 4 (by decide)
      rw [← hu4] at hn7_4 ⊢; clear hu4
      obtain ⟨u7_9, hu9⟩ : ∃ u, u = vals 9 := ⟨_, rfl⟩
      have hn7_9 : IsR w8 (vals 9) (((a).1) * ((b).2)) := hf 9 (by decide)
      rw [← hu9] at hn7_9 ⊢; clear hu9
      obtain ⟨u7_14, hu14⟩ : ∃ u, u = vals 14 := ⟨_, rfl⟩
      have hn7_14 : IsR w8 (vals 14) (((a).2) * ((b).1)) := hf 14 (by decide)
      rw [← hu14] at hn7_14 ⊢; clear hu14
      have z16 : vals 16 = _ := hf 16 (by decide)
      try rw [z16]
      clear z16
      have z18 : vals 18 = _ := hf 18 (by decide)
      try rw [z18]
      clear z18
      clear hf hdis
      have HB8 := Lib.hid (HB7.out.step hb8)
      have Fa := Lib.hid (Fa.out.below hb8)
      have Fb := Lib.hid (Fb.out.below hb8)
      have N1_1 := Lib.hid (N1_1.out.below hb8)
      have N1_1l := Lib.hid (N1_1l.out.below hb8)
      have N1_1h := Lib.hid (N1_1h.out.below hb8)
      have N5 := Lib.hid (N5.out.below hb8)
      have N5l := Lib.hid (N5l.out.below hb8)
      have N5h := Lib.hid (N5h.out.below hb8)
      have BX1 := Lib.hid (heap_below BX1.out hb8)
      have BX2 := Lib.hid (heap_below BX2.out hb8)
      have BX3 := Lib.hid (heap_below BX3.out hb8)
      clear hb8
      have N7_4 := Lib.hid hn7_4; clear hn7_4
      obtain ⟨s8, o8, n8, c8, a8, m8, d8, rfl⟩ := N7_4.out.shape
      have N7_9 := Lib.hid hn7_9; clear hn7_9
      obtain ⟨s9, o9, n9, c9, a9, m9, d9, rfl⟩ := N7_9.out.shape
      have N7_14 := Lib.hid hn7_14; clear hn7_14
      obtain ⟨s10, o10, n10, c10, a10, m10, d10, rfl⟩ := N7_14.out.shape
      skip
      have k11 := rl_mul ((a).2) ((b).2)
      have hs := mulq_any _ ((a).2) _ ((b).2) w8 (N1_1h.out.is (by omega)) (N5h.out.is (by omega))
      have HS := Lib.hid hs; clear hs
      go_wp2_with (with_reducible first | refine pauseCall ?_ | refine pauseLoop ?_ | refine pauseDraw ?_ | refine pauseBody ?_ | refine pauseRounds ?_)
      refine Pause.mk ?_
      (with_reducible refine HS.out.mono ?_); rintro e w9 ⟨v9, rfl, hb9, hn9⟩
      clear HS
      have HB9 := Lib.hid (HB8.out.step hb9)
      have Fa := Lib.hid (Fa.out.below hb9)
      have Fb := Lib.hid (Fb.out.below hb9)
      have N1_1 := Lib.hid (N1_1.out.below hb9)
      have N1_1l := Lib.hid (N1_1l.out.below hb9)
      have N1_1h := Lib.hid (N1_1h.out.below hb9)
      have N5 := Lib.hid (N5.out.below hb9)
      have N5l := Lib.hid (N5l.out.below hb9)
      have N5h := Lib.hid (N5h.out.below hb9)
      have N7_4 := Lib.hid (N7_4.out.below hb9)
      have N7_9 := Lib.hid (N7_9.out.below hb9)
      have N7_14 := Lib.hid (N7_14.out.below hb9)
      have BX1 := Lib.hid (heap_below BX1.out hb9)
      have BX2 := Lib.hid (heap_below BX2.out hb9)
      have BX3 := Lib.hid (heap_below BX3.out hb9)
      have N9 := Lib.hid hn9; clear hn9
      obtain ⟨s12, o12, n12, c12, a12, m12, d12, rfl⟩ := N9.out.shape
      clear hb9
      obtain ⟨w10, hw10⟩ : ∃ w10, w10 = w9.alloc (.cells #[.bool s8, .slice o8 n8 c8, .slice a8 m8 d8, .bool s9, .slice o9 n9 c9, .slice a9 m9 d9, .bool s10, .slice o10 n10 c10, .slice a10 m10 d10, .bool s12, .slice o12 n12 c12, .slice a12 m12 d12] 24) := ⟨_, rfl⟩
      have hb10 : Below w9.heap.size w9 w10 := by rw [hw10]; exact (Below.refl _ _).alloc (Nat.le_refl _) _
      have hx10 := heap_alloc_new w9 (.cells #[.bool s8, .slice o8 n8 c8, .slice a8 m8 d8, .bool s9, .slice o9 n9 c9, .slice a9 m9 d9, .bool s10, .slice o10 n10 c10, .slice a10 m10 d10, .bool s12, .slice o12 n12 c12, .slice a12 m12 d12] 24)
      obtain ⟨g10, hg10⟩ : ∃ g, g = w9.heap.size := ⟨_, rfl⟩
      rw [← hw10, ← hg10] at hx10
      have lw10 : w.heap.size ≤ g10 := by rw [hg10]; exact HB9.out.size
      have ltBX110 : g1 < g10 := by rw [hg10]; exact below_lt BX1.out
      have ltBX210 : g2 < g10 := by rw [hg10]; exact below_lt BX2.out
      have ltBX310 : g3 < g10 := by rw [hg10]; exact below_lt BX3.out
      have HW10 := Lib.hid hw10; have HG10 := Lib.hid hg10; clear hw10 hg10
      have HB10 := Lib.hid (HB9.out.step hb10)
      have Fa := Lib.hid (Fa.out.below hb10)
      have Fb := Lib.hid (Fb.out.below hb10)
      have N1_1 := Lib.hid (N1_1.out.below hb10)
      have N1_1l := Lib.hid (N1_1l.out.below hb10)
      have N1_1h := Lib.hid (N1_1h.out.below hb10)
      have N5 := Lib.hid (N5.out.below hb10)
      have N5l := Lib.hid (N5l.out.below hb10)
      have N5h := Lib.hid (N5h.out.below hb10)
      have N7_4 := Lib.hid (N7_4.out.below hb10)
      have N7_9 := Lib.hid (N7_9.out.below hb10)
      have N7_14 := Lib.hid (N7_14.out.below hb10)
      have N9 := Lib.hid (N9.out.below hb10)
      have BX1 := Lib.hid (heap_below BX1.out hb10)
      have BX2 := Lib.hid (heap_below BX2.out hb10)
      have BX3 := Lib.hid (heap_below BX3.out hb10)
      have BX10 := Lib.hid hx10; clear hb10 hx10
      obtain ⟨k13, k14⟩ := rl_around4 (((a).1) * ((b).1)) (((a).1) * ((b).2)) (((a).2) * ((b).1)) (((a).2) * ((b).2))
      have hs := of4 w10 BX10.out (N7_4.out.is (by omega)) (by omega) (N7_9.out.is (by omega)) (by omega) (N7_14.out.is (by omega)) (by omega) (N9.out.is (by omega)) (by omega)
      have HS := Lib.hid hs; clear hs
      go_wp2_with (with_reducible first | refine pauseCall ?_ | refine pauseLoop ?_ | refine pauseDraw ?_ | refine pauseBody ?_ | refine pauseRounds ?_)
      try rw [← HW10.out]
      try rw [← HG10.out]
      refine Pause.mk ?_
      (with_reducible refine HS.out.mono ?_); rintro e w11 ⟨v11, rfl, hb11, hn11⟩
      clear HS
      have HB11 := Lib.hid (HB10.out.step hb11)
      have Fa := Lib.hid (Fa.out.below hb11)
      have Fb := Lib.hid (Fb.out.below hb11)
      have N1_1 := Lib.hid (N1_1.out.below hb11)
      have N1_1l := Lib.hid (N1_1l.out.below hb11)
      have N1_1h := Lib.hid (N1_1h.out.below hb11)
      have N5 := Lib.hid (N5.out.below hb11)
      have N5l := Lib.hid (N5l.out.below hb11)
      have N5h := Lib.hid (N5h.out.below hb11)
      have N7_4 := Lib.hid (N7_4.out.below hb11)
      have N7_9 := Lib.hid (N7_9.out.below hb11)
      have N7_14 := Lib.hid (N7_14.out.below hb11)
      have N9 := Lib.hid (N9.out.below hb11)
      have BX1 := Lib.hid (heap_below BX1.out hb11)
      have BX2 := Lib.hid (heap_below BX2.out hb11)
      have BX3 := Lib.hid (heap_below BX3.out hb11)
      have BX10 := Lib.hid (heap_below BX10.out hb11)
      clear BX10
      have N11 := Lib.hid hn11; clear hn11
      obtain ⟨s15, o15, n15, c15, a15, m15, d15, s15x, o15x, n15x, c15x, a15x, m15x, d15x, rfl⟩ := N11.out.shape
      have N11l := Lib.hid (isSp_ends N11.out).1; have N11h := Lib.hid (isSp_ends N11.out).2
      clear hb11
      go_wp2_with (with_reducible refine wpList_pauseS ?_)
      refine wpList_stL g3 0 [.bool s15, .slice o15 n15 c15, .slice a15 m15 d15, .bool s15x, .slice o15x n15x c15x, .slice a15x m15x d15x] BX3.out rfl rfl (Nat.le_of_ble_eq_true rfl) (by kernel_rfl) rfl ?_
      intro w12 hp12
      have Fa := Lib.hid (putL_SS hp12 Fa.out BX3.out noW6)
      have Fb := Lib.hid (putL_SS hp12 Fb.out BX3.out noW6)
      have N1_1 := Lib.hid (putL_SI hp12 N1_1.out BX3.out noW6)
      have N1_1l := Lib.hid (putL_I hp12 N1_1l.out BX3.out noW6)
      have N1_1h := Lib.hid (putL_I hp12 N1_1h.out BX3.out noW6)
      have N5 := Lib.hid (putL_SI hp12 N5.out BX3.out noW6)
      have N5l := Lib.hid (putL_I hp12 N5l.out BX3.out noW6)
      have N5h := Lib.hid (putL_I hp12 N5h.out BX3.out noW6)
      have N7_4 := Lib.hid (putL_I hp12 N7_4.out BX3.out noW6)
      have N7_9 := Lib.hid (putL_I hp12 N7_9.out BX3.out noW6)
      have N7_14 := Lib.hid (putL_I hp12 N7_14.out BX3.out noW6)
      have N9 := Lib.hid (putL_I hp12 N9.out BX3.out noW6)
      have N11 := Lib.hid (putL_SI hp12 N11.out BX3.out noW6)
      have N11l := Lib.hid (putL_I hp12 N11l.out BX3.out noW6)
      have N11h := Lib.hid (putL_I hp12 N11h.out BX3.out noW6)
      have BX1 := Lib.hid (putLx hp12 BX1.out (by omega))
      have BX2 := Lib.hid (putLx hp12 BX2.out (by omega))
      have nx12 : w12.heap[g3]? = some (.cells #[.bool s15, .slice o15 n15 c15, .slice a15 m15 d15, .bool s15x, .slice o15x n15x c15x, .slice a15x m15x d15x] 26) := by rw [hp12]; exact putL_6 BX3.out
      have BX3 := Lib.hid nx12; clear nx12
      have HB12 := Lib.hid (putLb hp12 HB11.out (by omega))
      clear hp12
      obtain ⟨x16_0, x16_1, x16_2, x16_3, x16_4, x16_5⟩ := row6 BX3.out
      go_wp2_with (with_reducible first | refine pauseCall ?_ | refine pauseLoop ?_ | refine pauseDraw ?_ | refine pauseBody ?_ | refine pauseRounds ?_)
      clear x16_0 x16_1 x16_2 x16_3 x16_4 x16_5
      refine Pause.mk ?_
      refine ret_span rfl g3 _ _ _ _ _ _ (by first | rfl | exact rfl) BX3.out rfl ?_
      exact ⟨_, rfl, HB12.out, N11.out⟩
theorem smul_any (va : Value) (a : Rat × Rat) (vb : Value) (b : Rat × Rat) (w : World) (ha : SpIs w va a) (hb : SpIs w vb b) (la1 : rl a.1 ≤ 19000) (la2 : rl a.2 ≤ 19000) (lb1 : rl b.1 ≤ 19000) (lb2 : rl b.2 ≤ 19000) :
    Calls Tryd.prog 25 #[va, vb] w (RetSp w (sMul a b)) := smul_raw va a vb b w ha hb la1 la2 lb1 lb2
set_option maxRecDepth 100000 in
set_option maxHeartbeats 3200000 in
theorem shull_raw (va : Value) (a : Rat × Rat) (vb : Value) (b : Rat × Rat) (w : World) (ha : SpIs w va a) (hb : SpIs w vb b) (la1 : rl a.1 ≤ 39000) (la2 : rl a.2 ≤ 39000) (lb1 : rl b.1 ≤ 39000) (lb2 : rl b.2 ≤ 39000) :
    Calls Tryd.prog 18 #[va, vb] w (RetSp w (around4 ((a).1) ((a).2) ((b).1) ((b).2))) := by
  have HBW := Lib.hid (Below.refl w.heap.size w)
  have kz0 : rl 0 ≤ 1 := by rw [rl_zero]; exact Nat.le_refl _
  obtain ⟨qa, oa, na, ka, pa, ma, ra, qax, oax, nax, kax, pax, max, rax, rfl⟩ := ha.shape
  have hla := ha.rl; have hoa := ha.ok; obtain ⟨hlaa, hlab⟩ := hla
  have hoa := Lib.hid hoa
  obtain ⟨qb, ob, nb, kb, pb, mb, rb, qbx, obx, nbx, kbx, pbx, mbx, rbx, rfl⟩ := hb.shape
  have hlb := hb.rl; have hob := hb.ok; obtain ⟨hlba, hlbb⟩ := hlb
  have hob := Lib.hid hob
  have Fa := Lib.hid ha; clear ha
  have Fb := Lib.hid hb; clear hb
  obtain ⟨w1, hw1⟩ : ∃ w1, w1 = w.alloc (.cells #[.bool qa, .slice oa na ka, .slice pa ma ra, .bool qax, .slice oax nax kax, .slice pax max rax] 26) := ⟨_, rfl⟩
  have hb1 : Below w.heap.size w w1 := by rw [hw1]; exact (Below.refl _ _).alloc (Nat.le_refl _) _
  have hx1 := heap_alloc_new w (.cells #[.bool qa, .slice oa na ka, .slice pa ma ra, .bool qax, .slice oax nax kax, .slice pax max rax] 26)
  obtain ⟨g1, hg1⟩ : ∃ g, g = w.heap.size := ⟨_, rfl⟩
  rw [← hw1, ← hg1] at hx1
  have lw1 : w.heap.size ≤ g1 := by rw [hg1]; exact HBW.out.size
  have HW1 := Lib.hid hw1; have HG1 := Lib.hid hg1; clear hw1 hg1
  have HB1 := Lib.hid (HBW.out.step hb1)
  have Fa := Lib.hid (Fa.out.below hb1)
  have Fb := Lib.hid (Fb.out.below hb1)
  have BX1 := Lib.hid hx1; clear hb1 hx1
  obtain ⟨w2, hw2⟩ : ∃ w2, w2 = w1.alloc (.cells #[.bool qb, .slice ob nb kb, .slice pb mb rb, .bool qbx, .slice obx nbx kbx, .slice pbx mbx rbx] 26) := ⟨_, rfl⟩
  have hb2 : Below w1.heap.size w1 w2 := by rw [hw2]; exact (Below.refl _ _).alloc (Nat.le_refl _) _
  have hx2 := heap_alloc_new w1 (.cells #[.bool qb, .slice ob nb kb, .slice pb mb rb, .bool qbx, .slice obx nbx kbx, .slice pbx mbx rbx] 26)
  obtain ⟨g2, hg2⟩ : ∃ g, g = w1.heap.size := ⟨_, rfl⟩
  rw [← hw2, ← hg2] at hx2
  have lw2 : w.heap.size ≤ g2 := by rw [hg2]; exact HB1.out.size
  have ltBX12 : g1 < g2 := by rw [hg2]; exact below_lt BX1.out
  have hs2 : g2 = w.heap.size + 1 := by rw [hg2, HW1.out]; simp
  have HS2 := Lib.hid hs2; clear hs2
  have HW2 := Lib.hid hw2; have HG2 := Lib.hid hg2; clear hw2 hg2
  have HB2 := Lib.hid (HB1.out.step hb2)
  have Fa := Lib.hid (Fa.out.below hb2)
  have Fb := Lib.hid (Fb.out.below hb2)
  have BX1 := Lib.hid (heap_below BX1.out hb2)
  have BX2 := Lib.hid hx2; clear hb2 hx2
  obtain ⟨w3, hw3⟩ : ∃ w3, w3 = w2.alloc (.cells #[.bool false, .slice none 0 0, .slice none 0 0, .bool false, .slice none 0 0, .slice none 0 0] 26) := ⟨_, rfl⟩
  have hb3 : Below w2.heap.size w2 w3 := by rw [hw3]; exact (Below.refl _ _).alloc (Nat.le_refl _) _
  have hx3 := heap_alloc_new w2 (.cells #[.bool false, .slice none 0 0, .slice none 0 0, .bool false, .slice none 0 0, .slice none 0 0] 26)
  obtain ⟨g3, hg3⟩ : ∃ g, g = w2.heap.size := ⟨_, rfl⟩
  rw [← hw3, ← hg3] at hx3
  have lw3 : w.heap.size ≤ g3 := by rw [hg3]; exact HB2.out.size
  have ltBX13 : g1 < g3 := by rw [hg3]; exact below_lt BX1.out
  have ltBX23 : g2 < g3 := by rw [hg3]; exact below_lt BX2.out
  have hs3 : g3 = w.heap.size + 2 := by rw [hg3, HW2.out, HW1.out]; simp
  have HS3 := Lib.hid hs3; clear hs3
  have HW3 := Lib.hid hw3; have HG3 := Lib.hid hg3; clear hw3 hg3
  have HB3 := Lib.hid (HB2.out.step hb3)
  have Fa := Lib.hid (Fa.out.below hb3)
  have Fb := Lib.hid (Fb.out.below hb3)
  have BX1 := Lib.hid (heap_below BX1.out hb3)
  have BX2 := Lib.hid (heap_below BX2.out hb3)
  have BX3 := Lib.hid hx3; clear hb3 hx3
  go_enter Tryd.func18, Tryd.ntmps18
  go_wp2_with (with_reducible first | refine pauseCall ?_ | refine pauseLoop ?_ | refine pauseDraw ?_ | refine pauseBody ?_ | refine pauseRounds ?_)
  try rw [← HW1.out]
  try rw [← HW2.out]
  try rw [← HW3.out]
  try rw [← HS3.out]
  try rw [← HS2.out]
  try rw [← HG1.out]
  try rw [← HG2.out]
  try rw [← HG3.out]
  refine Pause.mk ?_
  refine wp_region_facts (A := ?aa1) (w := w3) 3 [] (by kernel_rfl) (Fl [KEq (.agg #[.bool qa, .slice oa na ka, .slice pa ma ra, .bool qax, .slice oax nax kax, .slice pax max rax]), KSp (a), KEq (.agg #[.bool qb, .slice ob nb kb, .slice pb mb rb, .bool qbx, .slice obx nbx kbx, .slice pbx mbx rbx])]) (fun i => false) (by kernel_rfl) ?hq1 (monoL (monoC (kEq _) (monoC (kSp _) (monoC (kEq _) monoN)))) ?ha1 ?st1 ?tl1
  case hq1 =>
    intro c a d v w h
    first | (simp only [Exit.then] at h ⊢; exact h) | (simp only [Exit.inBlock, Exit.then] at h ⊢; exact h) | exact h
  case ha1 =>
    intro vals
    simp only [putsTo, dstOf, if_true, Act.put, List.setIfInBounds_toArray, List.set_cons_zero, List.set_cons_succ, List.getElem?_toArray, List.getElem?_cons_zero, List.getElem?_cons_succ, Option.bind_some]
    exact rfl
  case st1 =>
    simp only [List.take_succ_cons, List.take_zero]
    refine stepsOK_cons rfl rfl ?_ (stepsOK_cons rfl rfl ?_ (stepsOK_cons rfl rfl ?_ (stepsOK_nil)))
    · intro vals w1 hb hd
      obtain ⟨e0, e1, e2, e3, e4, e5⟩ := row6 (heap_below BX1.out hb)
      refine stepOK_value (v := .agg #[.bool qa, .slice oa na ka, .slice pa ma ra, .bool qax, .slice oax nax kax, .slice pax max rax]) (w' := w1) (by go_simp) (leaves_mk (Below.refl _ _) rfl (fun h => by cases h))
    · intro vals w1 hb hd
      have d0 : KEq (.agg #[.bool qa, .slice oa na ka, .slice pa ma ra, .bool qax, .slice oax nax kax, .slice pax max rax]) (vals 0) w1 := hd 0 (by kernel_rfl)
      have z0 : vals 0 = _ := d0
      have hs := norm_any _ (a) w1 (Fa.out.below hb)
      have HS := Lib.hid hs; clear hs
      rw [z0]; clear z0
      clear d0 hd
      refine stepOK_call (by go_simp; first | done | exact ⟨⟨rfl, rfl⟩, rfl⟩) ?_
      (with_reducible refine HS.out.mono ?_); rintro e w2 ⟨v, rfl, hb2, hn⟩
      exact ⟨v, rfl, leaves_mk hb2 hn (fun h => by cases h)⟩
    · intro vals w1 hb hd
      obtain ⟨e0, e1, e2, e3, e4, e5⟩ := row6 (heap_below BX2.out hb)
      refine stepOK_value (v := .agg #[.bool qb, .slice ob nb kb, .slice pb mb rb, .bool qbx, .slice obx nbx kbx, .slice pbx mbx rbx]) (w' := w1) (by go_simp) (leaves_mk (Below.refl _ _) rfl (fun h => by cases h))
  case tl1 =>
    intro vals w4 hb4 hf hdis
    simp only [List.drop_succ_cons, List.drop_zero]
    obtain ⟨u1_1, hu1⟩ : ∃ u, u = vals 1 := ⟨_, rfl⟩
    have hn1_1 : IsSp w4 (vals 1) (a) := hf 1 (by decide)
    rw [← hu1] at hn1_1 ⊢; clear hu1
    have z2 : vals 2 = _ := hf 2 (by decide)
    try rw [z2]
    clear z2
    clear hf hdis
    have HB4 := Lib.hid (HB3.out.step hb4)
    have Fa := Lib.hid (Fa.out.below hb4)
    have Fb := Lib.hid (Fb.out.below hb4)
    have BX1 := Lib.hid (heap_below BX1.out hb4)
    have BX2 := Lib.hid (heap_below BX2.out hb4)
    have BX3 := Lib.hid (heap_below BX3.out hb4)
    clear hb4
    have N1_1 := Lib.hid hn1_1; clear hn1_1
    obtain ⟨s2, o2, n2, c2, a2, m2, d2, s2x, o2x, n2x, c2x, a2x, m2x, d2x, rfl⟩ := N1_1.out.shape
    have N1_1l := Lib.hid (isSp_ends N1_1.out).1; have N1_1h := Lib.hid (isSp_ends N1_1.out).2
    skip
    have hs := norm_any _ (b) w4 Fb.out
    have HS := Lib.hid hs; clear hs
    go_wp2_with (with_reducible first | refine pauseCall ?_ | refine pauseLoop ?_ | refine pauseDraw ?_ | refine pauseBody ?_ | refine pauseRounds ?_)
    refine Pause.mk ?_
    (with_reducible refine HS.out.mono ?_); rintro e w5 ⟨v5, rfl, hb5, hn5⟩
    clear HS
    have HB5 := Lib.hid (HB4.out.step hb5)
    have Fa := Lib.hid (Fa.out.below hb5)
    have Fb := Lib.hid (Fb.out.below hb5)
    have N1_1 := Lib.hid (N1_1.out.below hb5)
    have N1_1l := Lib.hid (N1_1l.out.below hb5)
    have N1_1h := Lib.hid (N1_1h.out.below hb5)
    have BX1 := Lib.hid (heap_below BX1.out hb5)
    have BX2 := Lib.hid (heap_below BX2.out hb5)
    have BX3 := Lib.hid (heap_below BX3.out hb5)
    have N5 := Lib.hid hn5; clear hn5
    obtain ⟨s3, o3, n3, c3, a3, m3, d3, s3x, o3x, n3x, c3x, a3x, m3x, d3x, rfl⟩ := N5.out.shape
    have N5l := Lib.hid (isSp_ends N5.out).1; have N5h := Lib.hid (isSp_ends N5.out).2
    clear hb5
    go_wp2_with (with_reducible refine wpList_pauseS ?_)
    refine wpList_stL g1 0 [.bool s2, .slice o2 n2 c2, .slice a2 m2 d2, .bool s2x, .slice o2x n2x c2x, .slice a2x m2x d2x] BX1.out rfl rfl (Nat.le_of_ble_eq_true rfl) (by kernel_rfl) rfl ?_
    intro w6 hp6
    have Fa := Lib.hid (putL_SS hp6 Fa.out BX1.out noW6)
    have Fb := Lib.hid (putL_SS hp6 Fb.out BX1.out noW6)
    have N1_1 := Lib.hid (putL_SI hp6 N1_1.out BX1.out noW6)
    have N1_1l := Lib.hid (putL_I hp6 N1_1l.out BX1.out noW6)
    have N1_1h := Lib.hid (putL_I hp6 N1_1h.out BX1.out noW6)
    have N5 := Lib.hid (putL_SI hp6 N5.out BX1.out noW6)
    have N5l := Lib.hid (putL_I hp6 N5l.out BX1.out noW6)
    have N5h := Lib.hid (putL_I hp6 N5h.out BX1.out noW6)
    have BX2 := Lib.hid (putLx hp6 BX2.out (by omega))
    have BX3 := Lib.hid (putLx hp6 BX3.out (by omega))
    have nx6 : w6.heap[g1]? = some (.cells #[.bool s2, .slice o2 n2 c2, .slice a2 m2 d2, .bool s2x, .slice o2x n2x c2x, .slice a2x m2x d2x] 26) := by rw [hp6]; exact putL_6 BX1.out
    have BX1 := Lib.hid nx6; clear nx6
    have HB6 := Lib.hid (putLb hp6 HB5.out (by omega))
    clear hp6
    go_wp2_with (with_reducible refine wpList_pauseS ?_)
    refine wpList_stL g2 0 [.bool s3, .slice o3 n3 c3, .slice a3 m3 d3, .bool s3x, .slice o3x n3x c3x, .slice a3x m3x d3x] BX2.out rfl rfl (Nat.le_of_ble_eq_true rfl) (by kernel_rfl) rfl ?_
    intro w7 hp7
    have Fa := Lib.hid (putL_SS hp7 Fa.out BX2.out noW6)
    have Fb := Lib.hid (putL_SS hp7 Fb.out BX2.out noW6)
    have N1_1 := Lib.hid (putL_SI hp7 N1_1.out BX2.out noW6)
    have N1_1l := Lib.hid (putL_I hp7 N1_1l.out BX2.out noW6)
    have N1_1h := Lib.hid (putL_I hp7 N1_1h.out BX2.out noW6)
    have N5 := Lib.hid (putL_SI hp7 N5.out BX2.out noW6)
    have N5l := Lib.hid (putL_I hp7 N5l.out BX2.out noW6)
    have N5h := Lib.hid (putL_I hp7 N5h.out BX2.out noW6)
    have BX1 := Lib.hid (putLx hp7 BX1.out (by omega))
    have BX3 := Lib.hid (putLx hp7 BX3.out (by omega))
    have nx7 : w7.heap[g2]? = some (.cells #[.bool s3, .slice o3 n3 c3, .slice a3 m3 d3, .bool s3x, .slice o3x n3x c3x, .slice a3x m3x d3x] 26) := by rw [hp7]; exact putL_6 BX2.out
    have BX2 := Lib.hid nx7; clear nx7
    have HB7 := Lib.hid (putLb hp7 HB6.out (by omega))
    clear hp7
    obtain ⟨x4_0, x4_1, x4_2, x4_3, x4_4, x4_5⟩ := row6 BX1.out
    obtain ⟨x5_0, x5_1, x5_2, x5_3, x5_4, x5_5⟩ := row6 BX1.out
    obtain ⟨x6_0, x6_1, x6_2, x6_3, x6_4, x6_5⟩ := row6 BX2.out
    obtain ⟨x7_0, x7_1, x7_2, x7_3, x7_4, x7_5⟩ := row6 BX2.out
    obtain ⟨w8, hw8⟩ : ∃ w8, w8 = w7.alloc (.cells #[.bool s2, .slice o2 n2 c2, .slice a2 m2 d2, .bool s2x, .slice o2x n2x c2x, .slice a2x m2x d2x, .bool s3, .slice o3 n3 c3, .slice a3 m3 d3, .bool s3x, .slice o3x n3x c3x, .slice a3x m3x d3x] 24) := ⟨_, rfl⟩
    have hb8 : Below w7.heap.size w7 w8 := by rw [hw8]; exact (Below.refl _ _).alloc (Nat.le_refl _) _
    have hx8 := heap_alloc_new w7 (.cells #[.bool s2, .slice o2 n2 c2, .slice a2 m2 d2, .bool s2x, .slice o2x n2x c2x, .slice a2x m2x d2x, .bool s3, .slice o3 n3 c3, .slice a3 m3 d3, .bool s3x, .slice o3x n3x c3x, .slice a3x m3x d3x] 24)
    obtain ⟨g8, hg8⟩ : ∃ g, g = w7.heap.size := ⟨_, rfl⟩
    rw [← hw8, ← hg8] at hx8
    have lw8 : w.heap.size ≤ g8 := by rw [hg8]; exact HB7.out.size
    have ltBX18 : g1 < g8 := by rw [hg8]; exact below_lt BX1.out
    have ltBX28 : g2 < g8 := by rw [hg8]; exact below_lt BX2.out
    have ltBX38 : g3 < g8 := by rw [hg8]; exact below_lt BX3.out
    have HW8 := Lib.hid hw8; have HG8 := Lib.hid hg8; clear hw8 hg8
    have HB8 := Lib.hid (HB7.out.step hb8)
    have Fa := Lib.hid (Fa.out.below hb8)
    have Fb := Lib.hid (Fb.out.below hb8)
    have N1_1 := Lib.hid (N1_1.out.below hb8)
    have N1_1l := Lib.hid (N1_1l.out.below hb8)
    have N1_1h := Lib.hid (N1_1h.out.below hb8)
    have N5 := Lib.hid (N5.out.below hb8)
    have N5l := Lib.hid (N5l.out.below hb8)
    have N5h := Lib.hid (N5h.out.below hb8)
    have BX1 := Lib.hid (heap_below BX1.out hb8)
    have BX2 := Lib.hid (heap_below BX2.out hb8)
    have BX3 := Lib.hid (heap_below BX3.out hb8)
    have BX8 := Lib.hid hx8; clear hb8 hx8
    obtain ⟨k8, k9⟩ := rl_around4 ((a).1) ((a).2) ((b).1) ((b).2)
    have hs := of4 w8 BX8.out (N1_1l.out.is (by omega)) (by omega) (N1_1h.out.is (by omega)) (by omega) (N5l.out.is (by omega)) (by omega) (N5h.out.is (by omega)) (by omega)
    have HS := Lib.hid hs; clear hs
    try rw [HG8.out] at x4_0
    try rw [HG8.out] at x4_1
    try rw [HG8.out] at x4_2
    try rw [HG8.out] at x4_3
    try rw [HG8.out] at x4_4
    try rw [HG8.out] at x4_5
    try rw [HG8.out] at x5_0
    try rw [HG8.out] at x5_1
    try rw [HG8.out] at x5_2
    try rw [HG8.out] at x5_3
    try rw [HG8.out] at x5_4
    try rw [HG8.out] at x5_5
    try rw [HG8.out] at x6_0
    try rw [HG8.out] at x6_1
    try rw [HG8.out] at x6_2
    try rw [HG8.out] at x6_3
    try rw [HG8.out] at x6_4
    try rw [HG8.out] at x6_5
    try rw [HG8.out] at x7_0
    try rw [HG8.out] at x7_1
    try rw [HG8.out] at x7_2
    try rw [HG8.out] at x7_3
    try rw [HG8.out] at x7_4
    try rw [HG8.out] at x7_5
    go_wp2_with (with_reducible first | refine pauseCall ?_ | refine pauseLoop ?_ | refine pauseDraw ?_ | refine pauseBody ?_ | refine pauseRounds ?_)
    try rw [← HW8.out]
    try rw [← HG8.out]
    clear x4_0 x4_1 x4_2 x4_3 x4_4 x4_5 x5_0 x5_1 x5_2 x5_3 x5_4 x5_5 x6_0 x6_1 x6_2 x6_3 x6_4 x6_5 x7_0 x7_1 x7_2 x7_3 x7_4 x7_5
    refine Pause.mk ?_
    (with_reducible refine HS.out.mono ?_); rintro e w9 ⟨v9, rfl, hb9, hn9⟩
    clear HS
    have HB9 := Lib.hid (HB8.out.step hb9)
    have Fa := Lib.hid (Fa.out.below hb9)
    have Fb := Lib.hid (Fb.out.below hb9)
    have N1_1 := Lib.hid (N1_1.out.below hb9)
    have N1_1l := Lib.hid (N1_1l.out.below hb9)
    have N1_1h := Lib.hid (N1_1h.out.below hb9)
    have N5 := Lib.hid (N5.out.below hb9)
    have N5l := Lib.hid (N5l.out.below hb9)
    have N5h := Lib.hid (N5h.out.below hb9)
    have BX1 := Lib.hid (heap_below BX1.out hb9)
    have BX2 := Lib.hid (heap_below BX2.out hb9)
    have BX3 := Lib.hid (heap_below BX3.out hb9)
    have BX8 := Lib.hid (heap_below BX8.out hb9)
    clear BX8
    have N9 := Lib.hid hn9; clear hn9
    obtain ⟨s10, o10, n10, c10, a10, m10, d10, s10x, o10x, n10x, c10x, a10x, m10x, d10x, rfl⟩ := N9.out.shape
    have N9l := Lib.hid (isSp_ends N9.out).1; have N9h := Lib.hid (isSp_ends N9.out).2
    clear hb9
    go_wp2_with (with_reducible refine wpList_pauseS ?_)
    refine wpList_stL g3 0 [.bool s10, .slice o10 n10 c10, .slice a10 m10 d10, .bool s10x, .slice o10x n10x c10x, .slice a10x m10x d10x] BX3.out rfl rfl (Nat.le_of_ble_eq_true rfl) (by kernel_rfl) rfl ?_
    intro w10 hp10
    have Fa := Lib.hid (putL_SS hp10 Fa.out BX3.out noW6)
    have Fb := Lib.hid (putL_SS hp10 Fb.out BX3.out noW6)
    have N1_1 := Lib.hid (putL_SI hp10 N1_1.out BX3.out noW6)
    have N1_1l := Lib.hid (putL_I hp10 N1_1l.out BX3.out noW6)
    have N1_1h := Lib.hid (putL_I hp10 N1_1h.out BX3.out noW6)
    have N5 := Lib.hid (putL_SI hp10 N5.out BX3.out noW6)
    have N5l := Lib.hid (putL_I hp10 N5l.out BX3.out noW6)
    have N5h := Lib.hid (putL_I hp10 N5h.out BX3.out noW6)
    have N9 := Lib.hid (putL_SI hp10 N9.out BX3.out noW6)
    have N9l := Lib.hid (putL_I hp10 N9l.out BX3.out noW6)
    have N9h := Lib.hid (putL_I hp10 N9h.out BX3.out noW6)
    have BX1 := Lib.hid (putLx hp10 BX1.out (by omega))
    have BX2 := Lib.hid (putLx hp10 BX2.out (by omega))
    have nx10 : w10.heap[g3]? = some (.cells #[.bool s10, .slice o10 n10 c10, .slice a10 m10 d10, .bool s10x, .slice o10x n10x c10x, .slice a10x m10x d10x] 26) := by rw [hp10]; exact putL_6 BX3.out
    have BX3 := Lib.hid nx10; clear nx10
    have HB10 := Lib.hid (putLb hp10 HB9.out (by omega))
    clear hp10
    obtain ⟨x11_0, x11_1, x11_2, x11_3, x11_4, x11_5⟩ := row6 BX3.out
    go_wp2_with (with_reducible first | refine pauseCall ?_ | refine pauseLoop ?_ | refine pauseDraw ?_ | refine pauseBody ?_ | refine pauseRounds ?_)
    clear x11_0 x11_1 x11_2 x11_3 x11_4 x11_5
    refine Pause.mk ?_
    refine ret_span rfl g3 _ _ _ _ _ _ (by first | rfl | exact rfl) BX3.out rfl ?_
    exact ⟨_, rfl, HB10.out, N9.out⟩
theorem shull_any (va : Value) (a : Rat × Rat) (vb : Value) (b : Rat × Rat) (w : World) (ha : SpIs w va a) (hb : SpIs w vb b) (la1 : rl a.1 ≤ 39000) (la2 : rl a.2 ≤ 39000) (lb1 : rl b.1 ≤ 39000) (lb2 : rl b.2 ≤ 39000) :
    Calls Tryd.prog 18 #[va, vb] w (RetSp w (sHull a b)) := shull_raw va a vb b w ha hb la1 la2 lb1 lb2
set_option maxRecDepth 100000 in
set_option maxHeartbeats 3200000 in
theorem swidth_raw (va : Value) (a : Rat × Rat) (w : World) (ha : SpIs w va a) (la1 : rl a.1 ≤ 19000) (la2 : rl a.2 ≤ 19000) :
    Calls Tryd.prog 16 #[va] w (RetR w (((a).2) - ((a).1))) := by
  have HBW := Lib.hid (Below.refl w.heap.size w)
  have kz0 : rl 0 ≤ 1 := by rw [rl_zero]; exact Nat.le_refl _
  obtain ⟨qa, oa, na, ka, pa, ma, ra, qax, oax, nax, kax, pax, max, rax, rfl⟩ := ha.shape
  have hla := ha.rl; have hoa := ha.ok; obtain ⟨hlaa, hlab⟩ := hla
  have hoa := Lib.hid hoa
  have Fa := Lib.hid ha; clear ha
  obtain ⟨w1, hw1⟩ : ∃ w1, w1 = w.alloc (.cells #[.bool qa, .slice oa na ka, .slice pa ma ra, .bool qax, .slice oax nax kax, .slice pax max rax] 26) := ⟨_, rfl⟩
  have hb1 : Below w.heap.size w w1 := by rw [hw1]; exact (Below.refl _ _).alloc (Nat.le_refl _) _
  have hx1 := heap_alloc_new w (.cells #[.bool qa, .slice oa na ka, .slice pa ma ra, .bool qax, .slice oax nax kax, .slice pax max rax] 26)
  obtain ⟨g1, hg1⟩ : ∃ g, g = w.heap.size := ⟨_, rfl⟩
  rw [← hw1, ← hg1] at hx1
  have lw1 : w.heap.size ≤ g1 := by rw [hg1]; exact HBW.out.size
  have HW1 := Lib.hid hw1; have HG1 := Lib.hid hg1; clear hw1 hg1
  have HB1 := Lib.hid (HBW.out.step hb1)
  have Fa := Lib.hid (Fa.out.below hb1)
  have BX1 := Lib.hid hx1; clear hb1 hx1
  obtain ⟨w2, hw2⟩ : ∃ w2, w2 = w1.alloc (.cells #[.bool false, .slice none 0 0, .slice none 0 0] 24) := ⟨_, rfl⟩
  have hb2 : Below w1.heap.size w1 w2 := by rw [hw2]; exact (Below.refl _ _).alloc (Nat.le_refl _) _
  have hx2 := heap_alloc_new w1 (.cells #[.bool false, .slice none 0 0, .slice none 0 0] 24)
  obtain ⟨g2, hg2⟩ : ∃ g, g = w1.heap.size := ⟨_, rfl⟩
  rw [← hw2, ← hg2] at hx2
  have lw2 : w.heap.size ≤ g2 := by rw [hg2]; exact HB1.out.size
  have ltBX12 : g1 < g2 := by rw [hg2]; exact below_lt BX1.out
  have hs2 : g2 = w.heap.size + 1 := by rw [hg2, HW1.out]; simp
  have HS2 := Lib.hid hs2; clear hs2
  have HW2 := Lib.hid hw2; have HG2 := Lib.hid hg2; clear hw2 hg2
  have HB2 := Lib.hid (HB1.out.step hb2)
  have Fa := Lib.hid (Fa.out.below hb2)
  have BX1 := Lib.hid (heap_below BX1.out hb2)
  have BX2 := Lib.hid hx2; clear hb2 hx2
  go_enter Tryd.func16, Tryd.ntmps16
  obtain ⟨x1_0, x1_1, x1_2, x1_3, x1_4, x1_5⟩ := row6 BX1.out
  have hs := norm_any _ (a) w2 Fa.out
  have HS := Lib.hid hs; clear hs
  try rw [HW2.out] at x1_0
  try rw [HG2.out] at x1_0
  try rw [HW1.out] at x1_0
  try rw [HG1.out] at x1_0
  try rw [HW2.out] at x1_1
  try rw [HG2.out] at x1_1
  try rw [HW1.out] at x1_1
  try rw [HG1.out] at x1_1
  try rw [HW2.out] at x1_2
  try rw [HG2.out] at x1_2
  try rw [HW1.out] at x1_2
  try rw [HG1.out] at x1_2
  try rw [HW2.out] at x1_3
  try rw [HG2.out] at x1_3
  try rw [HW1.out] at x1_3
  try rw [HG1.out] at x1_3
  try rw [HW2.out] at x1_4
  try rw [HG2.out] at x1_4
  try rw [HW1.out] at x1_4
  try rw [HG1.out] at x1_4
  try rw [HW2.out] at x1_5
  try rw [HG2.out] at x1_5
  try rw [HW1.out] at x1_5
  try rw [HG1.out] at x1_5
  go_wp2_with (with_reducible first | refine pauseCall ?_ | refine pauseLoop ?_ | refine pauseDraw ?_ | refine pauseBody ?_ | refine pauseRounds ?_)
  try rw [← HW1.out]
  try rw [← HW2.out]
  try rw [← HS2.out]
  try rw [← HG1.out]
  try rw [← HG2.out]
  clear x1_0 x1_1 x1_2 x1_3 x1_4 x1_5
  refine Pause.mk ?_
  (with_reducible refine HS.out.mono ?_); rintro e w3 ⟨v3, rfl, hb3, hn3⟩
  clear HS
  have HB3 := Lib.hid (HB2.out.step hb3)
  have Fa := Lib.hid (Fa.out.below hb3)
  have BX1 := Lib.hid (heap_below BX1.out hb3)
  have BX2 := Lib.hid (heap_below BX2.out hb3)
  have N3 := Lib.hid hn3; clear hn3
  obtain ⟨s2, o2, n2, c2, a2, m2, d2, s2x, o2x, n2x, c2x, a2x, m2x, d2x, rfl⟩ := N3.out.shape
  have N3l := Lib.hid (isSp_ends N3.out).1; have N3h := Lib.hid (isSp_ends N3.out).2
  clear hb3
  go_wp2_with (with_reducible refine wpList_pauseS ?_)
  refine wpList_stL g1 0 [.bool s2, .slice o2 n2 c2, .slice a2 m2 d2, .bool s2x, .slice o2x n2x c2x, .slice a2x m2x d2x] BX1.out rfl rfl (Nat.le_of_ble_eq_true rfl) (by kernel_rfl) rfl ?_
  intro w4 hp4
  have Fa := Lib.hid (putL_SS hp4 Fa.out BX1.out noW6)
  have N3 := Lib.hid (putL_SI hp4 N3.out BX1.out noW6)
  have N3l := Lib.hid (putL_I hp4 N3l.out BX1.out noW6)
  have N3h := Lib.hid (putL_I hp4 N3h.out BX1.out noW6)
  have BX2 := Lib.hid (putLx hp4 BX2.out (by omega))
  have nx4 : w4.heap[g1]? = some (.cells #[.bool s2, .slice o2 n2 c2, .slice a2 m2 d2, .bool s2x, .slice o2x n2x c2x, .slice a2x m2x d2x] 26) := by rw [hp4]; exact putL_6 BX1.out
  have BX1 := Lib.hid nx4; clear nx4
  have HB4 := Lib.hid (putLb hp4 HB3.out (by omega))
  clear hp4
  obtain ⟨x3_0, x3_1, x3_2, x3_3, x3_4, x3_5⟩ := row6 BX1.out
  obtain ⟨x4_0, x4_1, x4_2, x4_3, x4_4, x4_5⟩ := row6 BX1.out
  have k5 := rl_sub ((a).2) ((a).1)
  have hs := subq_any _ ((a).2) _ ((a).1) w4 (N3h.out.is (by omega)) (N3l.out.is (by omega))
  have HS := Lib.hid hs; clear hs
  go_wp2_with (with_reducible first | refine pauseCall ?_ | refine pauseLoop ?_ | refine pauseDraw ?_ | refine pauseBody ?_ | refine pauseRounds ?_)
  clear x3_0 x3_1 x3_2 x3_3 x3_4 x3_5 x4_0 x4_1 x4_2 x4_3 x4_4 x4_5
  refine Pause.mk ?_
  (with_reducible refine HS.out.mono ?_); rintro e w5 ⟨v5, rfl, hb5, hn5⟩
  clear HS
  have HB5 := Lib.hid (HB4.out.step hb5)
  have Fa := Lib.hid (Fa.out.below hb5)
  have N3 := Lib.hid (N3.out.below hb5)
  have N3l := Lib.hid (N3l.out.below hb5)
  have N3h := Lib.hid (N3h.out.below hb5)
  have BX1 := Lib.hid (heap_below BX1.out hb5)
  have BX2 := Lib.hid (heap_below BX2.out hb5)
  have N5 := Lib.hid hn5; clear hn5
  obtain ⟨s6, o6, n6, c6, a6, m6, d6, rfl⟩ := N5.out.shape
  clear hb5
  go_wp2_with (with_reducible refine wpList_pauseS ?_)
  refine wpList_stL g2 0 [.bool s6, .slice o6 n6 c6, .slice a6 m6 d6] BX2.out rfl rfl (Nat.le_of_ble_eq_true rfl) (by kernel_rfl) rfl ?_
  intro w6 hp6
  have Fa := Lib.hid (putL_SS hp6 Fa.out BX2.out noW3)
  have N3 := Lib.hid (putL_SI hp6 N3.out BX2.out noW3)
  have N3l := Lib.hid (putL_I hp6 N3l.out BX2.out noW3)
  have N3h := Lib.hid (putL_I hp6 N3h.out BX2.out noW3)
  have N5 := Lib.hid (putL_I hp6 N5.out BX2.out noW3)
  have BX1 := Lib.hid (putLx hp6 BX1.out (by omega))
  have nx6 : w6.heap[g2]? = some (.cells #[.bool s6, .slice o6 n6 c6, .slice a6 m6 d6] 24) := by rw [hp6]; exact putL_r BX2.out
  have BX2 := Lib.hid nx6; clear nx6
  have HB6 := Lib.hid (putLb hp6 HB5.out (by omega))
  clear hp6
  obtain ⟨x7_0, x7_1, x7_2⟩ := row3 BX2.out
  go_wp2_with (with_reducible first | refine pauseCall ?_ | refine pauseLoop ?_ | refine pauseDraw ?_ | refine pauseBody ?_ | refine pauseRounds ?_)
  clear x7_0 x7_1 x7_2
  refine Pause.mk ?_
  refine ret_rat rfl g2 _ _ _ (by first | rfl | exact rfl) BX2.out rfl ?_
  exact ⟨_, rfl, HB6.out, N5.out⟩
theorem swidth_any (va : Value) (a : Rat × Rat) (w : World) (ha : SpIs w va a) (la1 : rl a.1 ≤ 19000) (la2 : rl a.2 ≤ 19000) :
    Calls Tryd.prog 16 #[va] w (RetR w (a.2 - a.1)) := swidth_raw va a w ha la1 la2
end Go.Proofs.YtaefimegiobkmaaDoor
/-
  span: what lies in what: what they hand back.
  Conditions: each theorem's own.
-/
namespace Go.Proofs.YtaefimegiobkmaaDoor
open Go.RowKit Go.ChangeShapes Go.WideShapes

set_option maxRecDepth 100000 in
set_option maxHeartbeats 3200000 in
theorem contains_1 (va : Value) (a : Rat × Rat) (vx : Value) (x : Rat) (w : World) (ha : SpIs w va a) (hx : RatIs w vx x) (la1 : rl a.1 ≤ 39000) (la2 : rl a.2 ≤ 39000) (lx : rl x ≤ 39000) (h : a.1 ≤ x) :
    Calls Tryd.prog 23 #[va, vx] w (RetV w (.bool (decide (inS a x)))) := by
  have HBW := Lib.hid (Below.refl w.heap.size w)
  have kz0 : rl 0 ≤ 1 := by rw [rl_zero]; exact Nat.le_refl _
  obtain ⟨qa, oa, na, ka, pa, ma, ra, qax, oax, nax, kax, pax, max, rax, rfl⟩ := ha.shape
  have hla := ha.rl; have hoa := ha.ok; obtain ⟨hlaa, hlab⟩ := hla
  have hoa := Lib.hid hoa
  obtain ⟨sx, ox, nx, cx, ax, mx, dx, rfl⟩ := hx.shape
  have hlx := hx.rl
  obtain ⟨n1, hn1⟩ : ∃ n, n = cq ((a).1) (x) := ⟨_, rfl⟩
  obtain ⟨n2, hn2⟩ : ∃ n, n = cq (x) ((a).2) := ⟨_, rfl⟩
  have f1 : decide (n1 ≤ 0) = true := by rw [hn1]; exact decide_eq_true ((cq_le _ _).2 h)
  rw [show decide (inS a x) = decide (n2 ≤ 0) from by rw [decide_eq_decide, hn2, cq_le]; exact ⟨fun k => k.2, fun k => ⟨h, k⟩⟩]
  have HN1 := Lib.hid hn1; have HN2 := Lib.hid hn2; clear hn1 hn2 h
  have Fa := Lib.hid ha; clear ha
  have Fx := Lib.hid hx; clear hx
  obtain ⟨w1, hw1⟩ : ∃ w1, w1 = w.alloc (.cells #[.bool qa, .slice oa na ka, .slice pa ma ra, .bool qax, .slice oax nax kax, .slice pax max rax] 26) := ⟨_, rfl⟩
  have hb1 : Below w.heap.size w w1 := by rw [hw1]; exact (Below.refl _ _).alloc (Nat.le_refl _) _
  have hx1 := heap_alloc_new w (.cells #[.bool qa, .slice oa na ka, .slice pa ma ra, .bool qax, .slice oax nax kax, .slice pax max rax] 26)
  obtain ⟨g1, hg1⟩ : ∃ g, g = w.heap.size := ⟨_, rfl⟩
  rw [← hw1, ← hg1] at hx1
  have lw1 : w.heap.size ≤ g1 := by rw [hg1]; exact HBW.out.size
  have HW1 := Lib.hid hw1; have HG1 := Lib.hid hg1; clear hw1 hg1
  have HB1 := Lib.hid (HBW.out.step hb1)
  have Fa := Lib.hid (Fa.out.below hb1)
  have Fx := Lib.hid (Fx.out.below hb1)
  have BX1 := Lib.hid hx1; clear hb1 hx1
  obtain ⟨w2, hw2⟩ : ∃ w2, w2 = w1.alloc (.cells #[.bool sx, .slice ox nx cx, .slice ax mx dx] 24) := ⟨_, rfl⟩
  have hb2 : Below w1.heap.size w1 w2 := by rw [hw2]; exact (Below.refl _ _).alloc (Nat.le_refl _) _
  have hx2 := heap_alloc_new w1 (.cells #[.bool sx, .slice ox nx cx, .slice ax mx dx] 24)
  obtain ⟨g2, hg2⟩ : ∃ g, g = w1.heap.size := ⟨_, rfl⟩
  rw [← hw2, ← hg2] at hx2
  have lw2 : w.heap.size ≤ g2 := by rw [hg2]; exact HB1.out.size
  have ltBX12 : g1 < g2 := by rw [hg2]; exact below_lt BX1.out
  have hs2 : g2 = w.heap.size + 1 := by rw [hg2, HW1.out]; simp
  have HS2 := Lib.hid hs2; clear hs2
  have HW2 := Lib.hid hw2; have HG2 := Lib.hid hg2; clear hw2 hg2
  have HB2 := Lib.hid (HB1.out.step hb2)
  have Fa := Lib.hid (Fa.out.below hb2)
  have Fx := Lib.hid (Fx.out.below hb2)
  have BX1 := Lib.hid (heap_below BX1.out hb2)
  have BX2 := Lib.hid hx2; clear hb2 hx2
  go_enter Tryd.func23, Tryd.ntmps23
  obtain ⟨x1_0, x1_1, x1_2, x1_3, x1_4, x1_5⟩ := row6 BX1.out
  have hs := norm_any _ (a) w2 Fa.out
  have HS := Lib.hid hs; clear hs
  try rw [HW2.out] at x1_0
  try rw [HG2.out] at x1_0
  try rw [HW1.out] at x1_0
  try rw [HG1.out] at x1_0
  try rw [HW2.out] at x1_1
  try rw [HG2.out] at x1_1
  try rw [HW1.out] at x1_1
  try rw [HG1.out] at x1_1
  try rw [HW2.out] at x1_2
  try rw [HG2.out] at x1_2
  try rw [HW1.out] at x1_2
  try rw [HG1.out] at x1_2
  try rw [HW2.out] at x1_3
  try rw [HG2.out] at x1_3
  try rw [HW1.out] at x1_3
  try rw [HG1.out] at x1_3
  try rw [HW2.out] at x1_4
  try rw [HG2.out] at x1_4
  try rw [HW1.out] at x1_4
  try rw [HG1.out] at x1_4
  try rw [HW2.out] at x1_5
  try rw [HG2.out] at x1_5
  try rw [HW1.out] at x1_5
  try rw [HG1.out] at x1_5
  go_wp2_with (with_reducible first | refine pauseCall ?_ | refine pauseLoop ?_ | refine pauseDraw ?_ | refine pauseBody ?_ | refine pauseRounds ?_)
  try rw [← HW1.out]
  try rw [← HW2.out]
  try rw [← HS2.out]
  try rw [← HG1.out]
  try rw [← HG2.out]
  clear x1_0 x1_1 x1_2 x1_3 x1_4 x1_5
  refine Pause.mk ?_
  (with_reducible refine HS.out.mono ?_); rintro e w3 ⟨v3, rfl, hb3, hn3⟩
  clear HS
  have HB3 := Lib.hid (HB2.out.step hb3)
  have Fa := Lib.hid (Fa.out.below hb3)
  have Fx := Lib.hid (Fx.out.below hb3)
  have BX1 := Lib.hid (heap_below BX1.out hb3)
  have BX2 := Lib.hid (heap_below BX2.out hb3)
  have N3 := Lib.hid hn3; clear hn3
  obtain ⟨s2, o2, n2, c2, a2, m2, d2, s2x, o2x, n2x, c2x, a2x, m2x, d2x, rfl⟩ := N3.out.shape
  have N3l := Lib.hid (isSp_ends N3.out).1; have N3h := Lib.hid (isSp_ends N3.out).2
  clear hb3
  go_wp2_with (with_reducible refine wpList_pauseS ?_)
  refine wpList_stL g1 0 [.bool s2, .slice o2 n2 c2, .slice a2 m2 d2, .bool s2x, .slice o2x n2x c2x, .slice a2x m2x d2x] BX1.out rfl rfl (Nat.le_of_ble_eq_true rfl) (by kernel_rfl) rfl ?_
  intro w4 hp4
  have Fa := Lib.hid (putL_SS hp4 Fa.out BX1.out noW6)
  have Fx := Lib.hid (putL_R hp4 Fx.out BX1.out noW6)
  have N3 := Lib.hid (putL_SI hp4 N3.out BX1.out noW6)
  have N3l := Lib.hid (putL_I hp4 N3l.out BX1.out noW6)
  have N3h := Lib.hid (putL_I hp4 N3h.out BX1.out noW6)
  have BX2 := Lib.hid (putLx hp4 BX2.out (by omega))
  have nx4 : w4.heap[g1]? = some (.cells #[.bool s2, .slice o2 n2 c2, .slice a2 m2 d2, .bool s2x, .slice o2x n2x c2x, .slice a2x m2x d2x] 26) := by rw [hp4]; exact putL_6 BX1.out
  have BX1 := Lib.hid nx4; clear nx4
  have HB4 := Lib.hid (putLb hp4 HB3.out (by omega))
  clear hp4
  obtain ⟨x3_0, x3_1, x3_2, x3_3, x3_4, x3_5⟩ := row6 BX1.out
  obtain ⟨x4_0, x4_1, x4_2⟩ := row3 BX2.out
  have hs := cmpq_any _ ((a).1) _ (x) w4 (N3l.out.is (by omega)) Fx.out (by omega) (by omega)
  rw [← HN1.out] at hs
  have HS := Lib.hid hs; clear hs
  go_wp2_with (with_reducible first | refine pauseCall ?_ | refine pauseLoop ?_ | refine pauseDraw ?_ | refine pauseBody ?_ | refine pauseRounds ?_)
  clear x3_0 x3_1 x3_2 x3_3 x3_4 x3_5 x4_0 x4_1 x4_2
  refine Pause.mk ?_
  (with_reducible refine HS.out.mono ?_); rintro e w5 ⟨rfl, hb5⟩
  clear HS
  have HB5 := Lib.hid (HB4.out.step hb5)
  have Fa := Lib.hid (Fa.out.below hb5)
  have Fx := Lib.hid (Fx.out.below hb5)
  have N3 := Lib.hid (N3.out.below hb5)
  have N3l := Lib.hid (N3l.out.below hb5)
  have N3h := Lib.hid (N3h.out.below hb5)
  have BX1 := Lib.hid (heap_below BX1.out hb5)
  have BX2 := Lib.hid (heap_below BX2.out hb5)
  clear hb5
  obtain ⟨x5_0, x5_1, x5_2⟩ := row3 BX2.out
  obtain ⟨x6_0, x6_1, x6_2, x6_3, x6_4, x6_5⟩ := row6 BX1.out
  have hs := cmpq_any _ (x) _ ((a).2) w5 Fx.out (N3h.out.is (by omega)) (by omega) (by omega)
  rw [← HN2.out] at hs
  have HS := Lib.hid hs; clear hs
  go_wp2_with (with_reducible first | refine pauseCall ?_ | refine pauseLoop ?_ | refine pauseDraw ?_ | refine pauseBody ?_ | refine pauseRounds ?_)
  clear x5_0 x5_1 x5_2 x6_0 x6_1 x6_2 x6_3 x6_4 x6_5
  refine Pause.mk ?_
  (with_reducible refine HS.out.mono ?_); rintro e w6 ⟨rfl, hb6⟩
  clear HS
  have HB6 := Lib.hid (HB5.out.step hb6)
  have Fa := Lib.hid (Fa.out.below hb6)
  have Fx := Lib.hid (Fx.out.below hb6)
  have N3 := Lib.hid (N3.out.below hb6)
  have N3l := Lib.hid (N3l.out.below hb6)
  have N3h := Lib.hid (N3h.out.below hb6)
  have BX1 := Lib.hid (heap_below BX1.out hb6)
  have BX2 := Lib.hid (heap_below BX2.out hb6)
  clear hb6
  go_wp2_with (with_reducible first | refine pauseCall ?_ | refine pauseLoop ?_ | refine pauseDraw ?_ | refine pauseBody ?_ | refine pauseRounds ?_)
  refine Pause.mk ?_
  go_ret
  exact ⟨by first | rfl | (simp; done), HB6.out⟩
set_option maxRecDepth 100000 in
set_option maxHeartbeats 3200000 in
theorem contains_2 (va : Value) (a : Rat × Rat) (vx : Value) (x : Rat) (w : World) (ha : SpIs w va a) (hx : RatIs w vx x) (la1 : rl a.1 ≤ 39000) (la2 : rl a.2 ≤ 39000) (lx : rl x ≤ 39000) (h : ¬ a.1 ≤ x) :
    Calls Tryd.prog 23 #[va, vx] w (RetV w (.bool (decide (inS a x)))) := by
  have HBW := Lib.hid (Below.refl w.heap.size w)
  have kz0 : rl 0 ≤ 1 := by rw [rl_zero]; exact Nat.le_refl _
  obtain ⟨qa, oa, na, ka, pa, ma, ra, qax, oax, nax, kax, pax, max, rax, rfl⟩ := ha.shape
  have hla := ha.rl; have hoa := ha.ok; obtain ⟨hlaa, hlab⟩ := hla
  have hoa := Lib.hid hoa
  obtain ⟨sx, ox, nx, cx, ax, mx, dx, rfl⟩ := hx.shape
  have hlx := hx.rl
  obtain ⟨n1, hn1⟩ : ∃ n, n = cq ((a).1) (x) := ⟨_, rfl⟩
  obtain ⟨n2, hn2⟩ : ∃ n, n = cq (x) ((a).2) := ⟨_, rfl⟩
  have f1 : decide (n1 ≤ 0) = false := by rw [hn1]; exact decide_eq_false (fun k => h ((cq_le _ _).1 k))
  rw [show decide (inS a x) = false from decide_eq_false (fun k => h k.1)]
  have HN1 := Lib.hid hn1; have HN2 := Lib.hid hn2; clear hn1 hn2 h
  have Fa := Lib.hid ha; clear ha
  have Fx := Lib.hid hx; clear hx
  obtain ⟨w1, hw1⟩ : ∃ w1, w1 = w.alloc (.cells #[.bool qa, .slice oa na ka, .slice pa ma ra, .bool qax, .slice oax nax kax, .slice pax max rax] 26) := ⟨_, rfl⟩
  have hb1 : Below w.heap.size w w1 := by rw [hw1]; exact (Below.refl _ _).alloc (Nat.le_refl _) _
  have hx1 := heap_alloc_new w (.cells #[.bool qa, .slice oa na ka, .slice pa ma ra, .bool qax, .slice oax nax kax, .slice pax max rax] 26)
  obtain ⟨g1, hg1⟩ : ∃ g, g = w.heap.size := ⟨_, rfl⟩
  rw [← hw1, ← hg1] at hx1
  have lw1 : w.heap.size ≤ g1 := by rw [hg1]; exact HBW.out.size
  have HW1 := Lib.hid hw1; have HG1 := Lib.hid hg1; clear hw1 hg1
  have HB1 := Lib.hid (HBW.out.step hb1)
  have Fa := Lib.hid (Fa.out.below hb1)
  have Fx := Lib.hid (Fx.out.below hb1)
  have BX1 := Lib.hid hx1; clear hb1 hx1
  obtain ⟨w2, hw2⟩ : ∃ w2, w2 = w1.alloc (.cells #[.bool sx, .slice ox nx cx, .slice ax mx dx] 24) := ⟨_, rfl⟩
  have hb2 : Below w1.heap.size w1 w2 := by rw [hw2]; exact (Below.refl _ _).alloc (Nat.le_refl _) _
  have hx2 := heap_alloc_new w1 (.cells #[.bool sx, .slice ox nx cx, .slice ax mx dx] 24)
  obtain ⟨g2, hg2⟩ : ∃ g, g = w1.heap.size := ⟨_, rfl⟩
  rw [← hw2, ← hg2] at hx2
  have lw2 : w.heap.size ≤ g2 := by rw [hg2]; exact HB1.out.size
  have ltBX12 : g1 < g2 := by rw [hg2]; exact below_lt BX1.out
  have hs2 : g2 = w.heap.size + 1 := by rw [hg2, HW1.out]; simp
  have HS2 := Lib.hid hs2; clear hs2
  have HW2 := Lib.hid hw2; have HG2 := Lib.hid hg2; clear hw2 hg2
  have HB2 := Lib.hid (HB1.out.step hb2)
  have Fa := Lib.hid (Fa.out.below hb2)
  have Fx := Lib.hid (Fx.out.below hb2)
  have BX1 := Lib.hid (heap_below BX1.out hb2)
  have BX2 := Lib.hid hx2; clear hb2 hx2
  go_enter Tryd.func23, Tryd.ntmps23
  obtain ⟨x1_0, x1_1, x1_2, x1_3, x1_4, x1_5⟩ := row6 BX1.out
  have hs := norm_any _ (a) w2 Fa.out
  have HS := Lib.hid hs; clear hs
  try rw [HW2.out] at x1_0
  try rw [HG2.out] at x1_0
  try rw [HW1.out] at x1_0
  try rw [HG1.out] at x1_0
  try rw [HW2.out] at x1_1
  try rw [HG2.out] at x1_1
  try rw [HW1.out] at x1_1
  try rw [HG1.out] at x1_1
  try rw [HW2.out] at x1_2
  try rw [HG2.out] at x1_2
  try rw [HW1.out] at x1_2
  try rw [HG1.out] at x1_2
  try rw [HW2.out] at x1_3
  try rw [HG2.out] at x1_3
  try rw [HW1.out] at x1_3
  try rw [HG1.out] at x1_3
  try rw [HW2.out] at x1_4
  try rw [HG2.out] at x1_4
  try rw [HW1.out] at x1_4
  try rw [HG1.out] at x1_4
  try rw [HW2.out] at x1_5
  try rw [HG2.out] at x1_5
  try rw [HW1.out] at x1_5
  try rw [HG1.out] at x1_5
  go_wp2_with (with_reducible first | refine pauseCall ?_ | refine pauseLoop ?_ | refine pauseDraw ?_ | refine pauseBody ?_ | refine pauseRounds ?_)
  try rw [← HW1.out]
  try rw [← HW2.out]
  try rw [← HS2.out]
  try rw [← HG1.out]
  try rw [← HG2.out]
  clear x1_0 x1_1 x1_2 x1_3 x1_4 x1_5
  refine Pause.mk ?_
  (with_reducible refine HS.out.mono ?_); rintro e w3 ⟨v3, rfl, hb3, hn3⟩
  clear HS
  have HB3 := Lib.hid (HB2.out.step hb3)
  have Fa := Lib.hid (Fa.out.below hb3)
  have Fx := Lib.hid (Fx.out.below hb3)
  have BX1 := Lib.hid (heap_below BX1.out hb3)
  have BX2 := Lib.hid (heap_below BX2.out hb3)
  have N3 := Lib.hid hn3; clear hn3
  obtain ⟨s2, o2, n2, c2, a2, m2, d2, s2x, o2x, n2x, c2x, a2x, m2x, d2x, rfl⟩ := N3.out.shape
  have N3l := Lib.hid (isSp_ends N3.out).1; have N3h := Lib.hid (isSp_ends N3.out).2
  clear hb3
  go_wp2_with (with_reducible refine wpList_pauseS ?_)
  refine wpList_stL g1 0 [.bool s2, .slice o2 n2 c2, .slice a2 m2 d2, .bool s2x, .slice o2x n2x c2x, .slice a2x m2x d2x] BX1.out rfl rfl (Nat.le_of_ble_eq_true rfl) (by kernel_rfl) rfl ?_
  intro w4 hp4
  have Fa := Lib.hid (putL_SS hp4 Fa.out BX1.out noW6)
  have Fx := Lib.hid (putL_R hp4 Fx.out BX1.out noW6)
  have N3 := Lib.hid (putL_SI hp4 N3.out BX1.out noW6)
  have N3l := Lib.hid (putL_I hp4 N3l.out BX1.out noW6)
  have N3h := Lib.hid (putL_I hp4 N3h.out BX1.out noW6)
  have BX2 := Lib.hid (putLx hp4 BX2.out (by omega))
  have nx4 : w4.heap[g1]? = some (.cells #[.bool s2, .slice o2 n2 c2, .slice a2 m2 d2, .bool s2x, .slice o2x n2x c2x, .slice a2x m2x d2x] 26) := by rw [hp4]; exact putL_6 BX1.out
  have BX1 := Lib.hid nx4; clear nx4
  have HB4 := Lib.hid (putLb hp4 HB3.out (by omega))
  clear hp4
  obtain ⟨x3_0, x3_1, x3_2, x3_3, x3_4, x3_5⟩ := row6 BX1.out
  obtain ⟨x4_0, x4_1, x4_2⟩ := row3 BX2.out
  have hs := cmpq_any _ ((a).1) _ (x) w4 (N3l.out.is (by omega)) Fx.out (by omega) (by omega)
  rw [← HN1.out] at hs
  have HS := Lib.hid hs; clear hs
  go_wp2_with (with_reducible first | refine pauseCall ?_ | refine pauseLoop ?_ | refine pauseDraw ?_ | refine pauseBody ?_ | refine pauseRounds ?_)
  clear x3_0 x3_1 x3_2 x3_3 x3_4 x3_5 x4_0 x4_1 x4_2
  refine Pause.mk ?_
  (with_reducible refine HS.out.mono ?_); rintro e w5 ⟨rfl, hb5⟩
  clear HS
  have HB5 := Lib.hid (HB4.out.step hb5)
  have Fa := Lib.hid (Fa.out.below hb5)
  have Fx := Lib.hid (Fx.out.below hb5)
  have N3 := Lib.hid (N3.out.below hb5)
  have N3l := Lib.hid (N3l.out.below hb5)
  have N3h := Lib.hid (N3h.out.below hb5)
  have BX1 := Lib.hid (heap_below BX1.out hb5)
  have BX2 := Lib.hid (heap_below BX2.out hb5)
  clear hb5
  go_wp2_with (with_reducible first | refine pauseCall ?_ | refine pauseLoop ?_ | refine pauseDraw ?_ | refine pauseBody ?_ | refine pauseRounds ?_)
  refine Pause.mk ?_
  go_ret
  exact ⟨by first | rfl | (simp; done), HB5.out⟩
theorem contains_any (va : Value) (a : Rat × Rat) (vx : Value) (x : Rat) (w : World) (ha : SpIs w va a) (hx : RatIs w vx x) (la1 : rl a.1 ≤ 39000) (la2 : rl a.2 ≤ 39000) (lx : rl x ≤ 39000) :
    Calls Tryd.prog 23 #[va, vx] w (RetV w (.bool (decide (inS a x)))) := by
  by_cases h : a.1 ≤ x
  · exact contains_1 va a vx x w ha hx la1 la2 lx h
  · exact contains_2 va a vx x w ha hx la1 la2 lx h
set_option maxRecDepth 100000 in
set_option maxHeartbeats 3200000 in
theorem inside_1 (va : Value) (a : Rat × Rat) (vb : Value) (b : Rat × Rat) (w : World) (ha : SpIs w va a) (hb : SpIs w vb b) (la1 : rl a.1 ≤ 39000) (la2 : rl a.2 ≤ 39000) (lb1 : rl b.1 ≤ 39000) (lb2 : rl b.2 ≤ 39000) (h : inS b a.1) :
    Calls Tryd.prog 19 #[va, vb] w (RetV w (.bool (decide (subS a b)))) := by
  have HBW := Lib.hid (Below.refl w.heap.size w)
  have kz0 : rl 0 ≤ 1 := by rw [rl_zero]; exact Nat.le_refl _
  obtain ⟨qa, oa, na, ka, pa, ma, ra, qax, oax, nax, kax, pax, max, rax, rfl⟩ := ha.shape
  have hla := ha.rl; have hoa := ha.ok; obtain ⟨hlaa, hlab⟩ := hla
  have hoa := Lib.hid hoa
  obtain ⟨qb, ob, nb, kb, pb, mb, rb, qbx, obx, nbx, kbx, pbx, mbx, rbx, rfl⟩ := hb.shape
  have hlb := hb.rl; have hob := hb.ok; obtain ⟨hlba, hlbb⟩ := hlb
  have hob := Lib.hid hob
  rw [show decide (subS a b) = decide (inS (b) ((a).2)) from by rw [decide_eq_decide]; exact ⟨fun k => k.2, fun k => ⟨h, k⟩⟩]
  have HI := Lib.hid (decide_eq_true h); clear h
  have Fa := Lib.hid ha; clear ha
  have Fb := Lib.hid hb; clear hb
  obtain ⟨w1, hw1⟩ : ∃ w1, w1 = w.alloc (.cells #[.bool qa, .slice oa na ka, .slice pa ma ra, .bool qax, .slice oax nax kax, .slice pax max rax] 26) := ⟨_, rfl⟩
  have hb1 : Below w.heap.size w w1 := by rw [hw1]; exact (Below.refl _ _).alloc (Nat.le_refl _) _
  have hx1 := heap_alloc_new w (.cells #[.bool qa, .slice oa na ka, .slice pa ma ra, .bool qax, .slice oax nax kax, .slice pax max rax] 26)
  obtain ⟨g1, hg1⟩ : ∃ g, g = w.heap.size := ⟨_, rfl⟩
  rw [← hw1, ← hg1] at hx1
  have lw1 : w.heap.size ≤ g1 := by rw [hg1]; exact HBW.out.size
  have HW1 := Lib.hid hw1; have HG1 := Lib.hid hg1; clear hw1 hg1
  have HB1 := Lib.hid (HBW.out.step hb1)
  have Fa := Lib.hid (Fa.out.below hb1)
  have Fb := Lib.hid (Fb.out.below hb1)
  have BX1 := Lib.hid hx1; clear hb1 hx1
  obtain ⟨w2, hw2⟩ : ∃ w2, w2 = w1.alloc (.cells #[.bool qb, .slice ob nb kb, .slice pb mb rb, .bool qbx, .slice obx nbx kbx, .slice pbx mbx rbx] 26) := ⟨_, rfl⟩
  have hb2 : Below w1.heap.size w1 w2 := by rw [hw2]; exact (Below.refl _ _).alloc (Nat.le_refl _) _
  have hx2 := heap_alloc_new w1 (.cells #[.bool qb, .slice ob nb kb, .slice pb mb rb, .bool qbx, .slice obx nbx kbx, .slice pbx mbx rbx] 26)
  obtain ⟨g2, hg2⟩ : ∃ g, g = w1.heap.size := ⟨_, rfl⟩
  rw [← hw2, ← hg2] at hx2
  have lw2 : w.heap.size ≤ g2 := by rw [hg2]; exact HB1.out.size
  have ltBX12 : g1 < g2 := by rw [hg2]; exact below_lt BX1.out
  have hs2 : g2 = w.heap.size + 1 := by rw [hg2, HW1.out]; simp
  have HS2 := Lib.hid hs2; clear hs2
  have HW2 := Lib.hid hw2; have HG2 := Lib.hid hg2; clear hw2 hg2
  have HB2 := Lib.hid (HB1.out.step hb2)
  have Fa := Lib.hid (Fa.out.below hb2)
  have Fb := Lib.hid (Fb.out.below hb2)
  have BX1 := Lib.hid (heap_below BX1.out hb2)
  have BX2 := Lib.hid hx2; clear hb2 hx2
  go_enter Tryd.func19, Tryd.ntmps19
  obtain ⟨x1_0, x1_1, x1_2, x1_3, x1_4, x1_5⟩ := row6 BX1.out
  have hs := norm_any _ (a) w2 Fa.out
  have HS := Lib.hid hs; clear hs
  try rw [HW2.out] at x1_0
  try rw [HG2.out] at x1_0
  try rw [HW1.out] at x1_0
  try rw [HG1.out] at x1_0
  try rw [HW2.out] at x1_1
  try rw [HG2.out] at x1_1
  try rw [HW1.out] at x1_1
  try rw [HG1.out] at x1_1
  try rw [HW2.out] at x1_2
  try rw [HG2.out] at x1_2
  try rw [HW1.out] at x1_2
  try rw [HG1.out] at x1_2
  try rw [HW2.out] at x1_3
  try rw [HG2.out] at x1_3
  try rw [HW1.out] at x1_3
  try rw [HG1.out] at x1_3
  try rw [HW2.out] at x1_4
  try rw [HG2.out] at x1_4
  try rw [HW1.out] at x1_4
  try rw [HG1.out] at x1_4
  try rw [HW2.out] at x1_5
  try rw [HG2.out] at x1_5
  try rw [HW1.out] at x1_5
  try rw [HG1.out] at x1_5
  go_wp2_with (with_reducible first | refine pauseCall ?_ | refine pauseLoop ?_ | refine pauseDraw ?_ | refine pauseBody ?_ | refine pauseRounds ?_)
  try rw [← HW1.out]
  try rw [← HW2.out]
  try rw [← HS2.out]
  try rw [← HG1.out]
  try rw [← HG2.out]
  clear x1_0 x1_1 x1_2 x1_3 x1_4 x1_5
  refine Pause.mk ?_
  (with_reducible refine HS.out.mono ?_); rintro e w3 ⟨v3, rfl, hb3, hn3⟩
  clear HS
  have HB3 := Lib.hid (HB2.out.step hb3)
  have Fa := Lib.hid (Fa.out.below hb3)
  have Fb := Lib.hid (Fb.out.below hb3)
  have BX1 := Lib.hid (heap_below BX1.out hb3)
  have BX2 := Lib.hid (heap_below BX2.out hb3)
  have N3 := Lib.hid hn3; clear hn3
  obtain ⟨s2, o2, n2, c2, a2, m2, d2, s2x, o2x, n2x, c2x, a2x, m2x, d2x, rfl⟩ := N3.out.shape
  have N3l := Lib.hid (isSp_ends N3.out).1; have N3h := Lib.hid (isSp_ends N3.out).2
  clear hb3
  go_wp2_with (with_reducible refine wpList_pauseS ?_)
  refine wpList_stL g1 0 [.bool s2, .slice o2 n2 c2, .slice a2 m2 d2, .bool s2x, .slice o2x n2x c2x, .slice a2x m2x d2x] BX1.out rfl rfl (Nat.le_of_ble_eq_true rfl) (by kernel_rfl) rfl ?_
  intro w4 hp4
  have Fa := Lib.hid (putL_SS hp4 Fa.out BX1.out noW6)
  have Fb := Lib.hid (putL_SS hp4 Fb.out BX1.out noW6)
  have N3 := Lib.hid (putL_SI hp4 N3.out BX1.out noW6)
  have N3l := Lib.hid (putL_I hp4 N3l.out BX1.out noW6)
  have N3h := Lib.hid (putL_I hp4 N3h.out BX1.out noW6)
  have BX2 := Lib.hid (putLx hp4 BX2.out (by omega))
  have nx4 : w4.heap[g1]? = some (.cells #[.bool s2, .slice o2 n2 c2, .slice a2 m2 d2, .bool s2x, .slice o2x n2x c2x, .slice a2x m2x d2x] 26) := by rw [hp4]; exact putL_6 BX1.out
  have BX1 := Lib.hid nx4; clear nx4
  have HB4 := Lib.hid (putLb hp4 HB3.out (by omega))
  clear hp4
  obtain ⟨x3_0, x3_1, x3_2, x3_3, x3_4, x3_5⟩ := row6 BX2.out
  obtain ⟨x4_0, x4_1, x4_2, x4_3, x4_4, x4_5⟩ := row6 BX1.out
  have hs := contains_any _ (b) _ ((a).1) w4 Fb.out (N3l.out.is (by omega)) (by omega) (by omega) (by omega)
  rw [HI.out] at hs
  have HS := Lib.hid hs; clear hs
  go_wp2_with (with_reducible first | refine pauseCall ?_ | refine pauseLoop ?_ | refine pauseDraw ?_ | refine pauseBody ?_ | refine pauseRounds ?_)
  clear x3_0 x3_1 x3_2 x3_3 x3_4 x3_5 x4_0 x4_1 x4_2 x4_3 x4_4 x4_5
  refine Pause.mk ?_
  (with_reducible refine HS.out.mono ?_); rintro e w5 ⟨rfl, hb5⟩
  clear HS
  have HB5 := Lib.hid (HB4.out.step hb5)
  have Fa := Lib.hid (Fa.out.below hb5)
  have Fb := Lib.hid (Fb.out.below hb5)
  have N3 := Lib.hid (N3.out.below hb5)
  have N3l := Lib.hid (N3l.out.below hb5)
  have N3h := Lib.hid (N3h.out.below hb5)
  have BX1 := Lib.hid (heap_below BX1.out hb5)
  have BX2 := Lib.hid (heap_below BX2.out hb5)
  clear hb5
  obtain ⟨x5_0, x5_1, x5_2, x5_3, x5_4, x5_5⟩ := row6 BX2.out
  obtain ⟨x6_0, x6_1, x6_2, x6_3, x6_4, x6_5⟩ := row6 BX1.out
  have hs := contains_any _ (b) _ ((a).2) w5 Fb.out (N3h.out.is (by omega)) (by omega) (by omega) (by omega)
  have HS := Lib.hid hs; clear hs
  go_wp2_with (with_reducible first | refine pauseCall ?_ | refine pauseLoop ?_ | refine pauseDraw ?_ | refine pauseBody ?_ | refine pauseRounds ?_)
  clear x5_0 x5_1 x5_2 x5_3 x5_4 x5_5 x6_0 x6_1 x6_2 x6_3 x6_4 x6_5
  refine Pause.mk ?_
  (with_reducible refine HS.out.mono ?_); rintro e w6 ⟨rfl, hb6⟩
  clear HS
  have HB6 := Lib.hid (HB5.out.step hb6)
  have Fa := Lib.hid (Fa.out.below hb6)
  have Fb := Lib.hid (Fb.out.below hb6)
  have N3 := Lib.hid (N3.out.below hb6)
  have N3l := Lib.hid (N3l.out.below hb6)
  have N3h := Lib.hid (N3h.out.below hb6)
  have BX1 := Lib.hid (heap_below BX1.out hb6)
  have BX2 := Lib.hid (heap_below BX2.out hb6)
  clear hb6
  go_wp2_with (with_reducible first | refine pauseCall ?_ | refine pauseLoop ?_ | refine pauseDraw ?_ | refine pauseBody ?_ | refine pauseRounds ?_)
  refine Pause.mk ?_
  go_ret
  exact ⟨by first | rfl | (simp; done), HB6.out⟩
set_option maxRecDepth 100000 in
set_option maxHeartbeats 3200000 in
theorem inside_2 (va : Value) (a : Rat × Rat) (vb : Value) (b : Rat × Rat) (w : World) (ha : SpIs w va a) (hb : SpIs w vb b) (la1 : rl a.1 ≤ 39000) (la2 : rl a.2 ≤ 39000) (lb1 : rl b.1 ≤ 39000) (lb2 : rl b.2 ≤ 39000) (h : ¬ inS b a.1) :
    Calls Tryd.prog 19 #[va, vb] w (RetV w (.bool (decide (subS a b)))) := by
  have HBW := Lib.hid (Below.refl w.heap.size w)
  have kz0 : rl 0 ≤ 1 := by rw [rl_zero]; exact Nat.le_refl _
  obtain ⟨qa, oa, na, ka, pa, ma, ra, qax, oax, nax, kax, pax, max, rax, rfl⟩ := ha.shape
  have hla := ha.rl; have hoa := ha.ok; obtain ⟨hlaa, hlab⟩ := hla
  have hoa := Lib.hid hoa
  obtain ⟨qb, ob, nb, kb, pb, mb, rb, qbx, obx, nbx, kbx, pbx, mbx, rbx, rfl⟩ := hb.shape
  have hlb := hb.rl; have hob := hb.ok; obtain ⟨hlba, hlbb⟩ := hlb
  have hob := Lib.hid hob
  rw [show decide (subS a b) = false from decide_eq_false (fun k => h k.1)]
  have HI := Lib.hid (decide_eq_false h); clear h
  have Fa := Lib.hid ha; clear ha
  have Fb := Lib.hid hb; clear hb
  obtain ⟨w1, hw1⟩ : ∃ w1, w1 = w.alloc (.cells #[.bool qa, .slice oa na ka, .slice pa ma ra, .bool qax, .slice oax nax kax, .slice pax max rax] 26) := ⟨_, rfl⟩
  have hb1 : Below w.heap.size w w1 := by rw [hw1]; exact (Below.refl _ _).alloc (Nat.le_refl _) _
  have hx1 := heap_alloc_new w (.cells #[.bool qa, .slice oa na ka, .slice pa ma ra, .bool qax, .slice oax nax kax, .slice pax max rax] 26)
  obtain ⟨g1, hg1⟩ : ∃ g, g = w.heap.size := ⟨_, rfl⟩
  rw [← hw1, ← hg1] at hx1
  have lw1 : w.heap.size ≤ g1 := by rw [hg1]; exact HBW.out.size
  have HW1 := Lib.hid hw1; have HG1 := Lib.hid hg1; clear hw1 hg1
  have HB1 := Lib.hid (HBW.out.step hb1)
  have Fa := Lib.hid (Fa.out.below hb1)
  have Fb := Lib.hid (Fb.out.below hb1)
  have BX1 := Lib.hid hx1; clear hb1 hx1
  obtain ⟨w2, hw2⟩ : ∃ w2, w2 = w1.alloc (.cells #[.bool qb, .slice ob nb kb, .slice pb mb rb, .bool qbx, .slice obx nbx kbx, .slice pbx mbx rbx] 26) := ⟨_, rfl⟩
  have hb2 : Below w1.heap.size w1 w2 := by rw [hw2]; exact (Below.refl _ _).alloc (Nat.le_refl _) _
  have hx2 := heap_alloc_new w1 (.cells #[.bool qb, .slice ob nb kb, .slice pb mb rb, .bool qbx, .slice obx nbx kbx, .slice pbx mbx rbx] 26)
  obtain ⟨g2, hg2⟩ : ∃ g, g = w1.heap.size := ⟨_, rfl⟩
  rw [← hw2, ← hg2] at hx2
  have lw2 : w.heap.size ≤ g2 := by rw [hg2]; exact HB1.out.size
  have ltBX12 : g1 < g2 := by rw [hg2]; exact below_lt BX1.out
  have hs2 : g2 = w.heap.size + 1 := by rw [hg2, HW1.out]; simp
  have HS2 := Lib.hid hs2; clear hs2
  have HW2 := Lib.hid hw2; have HG2 := Lib.hid hg2; clear hw2 hg2
  have HB2 := Lib.hid (HB1.out.step hb2)
  have Fa := Lib.hid (Fa.out.below hb2)
  have Fb := Lib.hid (Fb.out.below hb2)
  have BX1 := Lib.hid (heap_below BX1.out hb2)
  have BX2 := Lib.hid hx2; clear hb2 hx2
  go_enter Tryd.func19, Tryd.ntmps19
  obtain ⟨x1_0, x1_1, x1_2, x1_3, x1_4, x1_5⟩ := row6 BX1.out
  have hs := norm_any _ (a) w2 Fa.out
  have HS := Lib.hid hs; clear hs
  try rw [HW2.out] at x1_0
  try rw [HG2.out] at x1_0
  try rw [HW1.out] at x1_0
  try rw [HG1.out] at x1_0
  try rw [HW2.out] at x1_1
  try rw [HG2.out] at x1_1
  try rw [HW1.out] at x1_1
  try rw [HG1.out] at x1_1
  try rw [HW2.out] at x1_2
  try rw [HG2.out] at x1_2
  try rw [HW1.out] at x1_2
  try rw [HG1.out] at x1_2
  try rw [HW2.out] at x1_3
  try rw [HG2.out] at x1_3
  try rw [HW1.out] at x1_3
  try rw [HG1.out] at x1_3
  try rw [HW2.out] at x1_4
  try rw [HG2.out] at x1_4
  try rw [HW1.out] at x1_4
  try rw [HG1.out] at x1_4
  try rw [HW2.out] at x1_5
  try rw [HG2.out] at x1_5
  try rw [HW1.out] at x1_5
  try rw [HG1.out] at x1_5
  go_wp2_with (with_reducible first | refine pauseCall ?_ | refine pauseLoop ?_ | refine pauseDraw ?_ | refine pauseBody ?_ | refine pauseRounds ?_)
  try rw [← HW1.out]
  try rw [← HW2.out]
  try rw [← HS2.out]
  try rw [← HG1.out]
  try rw [← HG2.out]
  clear x1_0 x1_1 x1_2 x1_3 x1_4 x1_5
  refine Pause.mk ?_
  (with_reducible refine HS.out.mono ?_); rintro e w3 ⟨v3, rfl, hb3, hn3⟩
  clear HS
  have HB3 := Lib.hid (HB2.out.step hb3)
  have Fa := Lib.hid (Fa.out.below hb3)
  have Fb := Lib.hid (Fb.out.below hb3)
  have BX1 := Lib.hid (heap_below BX1.out hb3)
  have BX2 := Lib.hid (heap_below BX2.out hb3)
  have N3 := Lib.hid hn3; clear hn3
  obtain ⟨s2, o2, n2, c2, a2, m2, d2, s2x, o2x, n2x, c2x, a2x, m2x, d2x, rfl⟩ := N3.out.shape
  have N3l := Lib.hid (isSp_ends N3.out).1; have N3h := Lib.hid (isSp_ends N3.out).2
  clear hb3
  go_wp2_with (with_reducible refine wpList_pauseS ?_)
  refine wpList_stL g1 0 [.bool s2, .slice o2 n2 c2, .slice a2 m2 d2, .bool s2x, .slice o2x n2x c2x, .slice a2x m2x d2x] BX1.out rfl rfl (Nat.le_of_ble_eq_true rfl) (by kernel_rfl) rfl ?_
  intro w4 hp4
  have Fa := Lib.hid (putL_SS hp4 Fa.out BX1.out noW6)
  have Fb := Lib.hid (putL_SS hp4 Fb.out BX1.out noW6)
  have N3 := Lib.hid (putL_SI hp4 N3.out BX1.out noW6)
  have N3l := Lib.hid (putL_I hp4 N3l.out BX1.out noW6)
  have N3h := Lib.hid (putL_I hp4 N3h.out BX1.out noW6)
  have BX2 := Lib.hid (putLx hp4 BX2.out (by omega))
  have nx4 : w4.heap[g1]? = some (.cells #[.bool s2, .slice o2 n2 c2, .slice a2 m2 d2, .bool s2x, .slice o2x n2x c2x, .slice a2x m2x d2x] 26) := by rw [hp4]; exact putL_6 BX1.out
  have BX1 := Lib.hid nx4; clear nx4
  have HB4 := Lib.hid (putLb hp4 HB3.out (by omega))
  clear hp4
  obtain ⟨x3_0, x3_1, x3_2, x3_3, x3_4, x3_5⟩ := row6 BX2.out
  obtain ⟨x4_0, x4_1, x4_2, x4_3, x4_4, x4_5⟩ := row6 BX1.out
  have hs := contains_any _ (b) _ ((a).1) w4 Fb.out (N3l.out.is (by omega)) (by omega) (by omega) (by omega)
  rw [HI.out] at hs
  have HS := Lib.hid hs; clear hs
  go_wp2_with (with_reducible first | refine pauseCall ?_ | refine pauseLoop ?_ | refine pauseDraw ?_ | refine pauseBody ?_ | refine pauseRounds ?_)
  clear x3_0 x3_1 x3_2 x3_3 x3_4 x3_5 x4_0 x4_1 x4_2 x4_3 x4_4 x4_5
  refine Pause.mk ?_
  (with_reducible refine HS.out.mono ?_); rintro e w5 ⟨rfl, hb5⟩
  clear HS
  have HB5 := Lib.hid (HB4.out.step hb5)
  have Fa := Lib.hid (Fa.out.below hb5)
  have Fb := Lib.hid (Fb.out.below hb5)
  have N3 := Lib.hid (N3.out.below hb5)
  have N3l := Lib.hid (N3l.out.below hb5)
  have N3h := Lib.hid (N3h.out.below hb5)
  have BX1 := Lib.hid (heap_below BX1.out hb5)
  have BX2 := Lib.hid (heap_below BX2.out hb5)
  clear hb5
  go_wp2_with (with_reducible first | refine pauseCall ?_ | refine pauseLoop ?_ | refine pauseDraw ?_ | refine pauseBody ?_ | refine pauseRounds ?_)
  refine Pause.mk ?_
  go_ret
  exact ⟨by first | rfl | (simp; done), HB5.out⟩
theorem inside_any (va : Value) (a : Rat × Rat) (vb : Value) (b : Rat × Rat) (w : World) (ha : SpIs w va a) (hb : SpIs w vb b) (la1 : rl a.1 ≤ 39000) (la2 : rl a.2 ≤ 39000) (lb1 : rl b.1 ≤ 39000) (lb2 : rl b.2 ≤ 39000) :
    Calls Tryd.prog 19 #[va, vb] w (RetV w (.bool (decide (subS a b)))) := by
  by_cases h : inS b a.1
  · exact inside_1 va a vb b w ha hb la1 la2 lb1 lb2 h
  · exact inside_2 va a vb b w ha hb la1 la2 lb1 lb2 h
end Go.Proofs.YtaefimegiobkmaaDoor
/-
  span: quotients: what they hand back.
  Conditions: each theorem's own.
-/
namespace Go.Proofs.YtaefimegiobkmaaDoor
open Go.RowKit Go.ChangeShapes Go.WideShapes

set_option maxRecDepth 100000 in
set_option maxHeartbeats 6400000 in
theorem sdiv_1 (va : Value) (a : Rat × Rat) (vb : Value) (b : Rat × Rat) (w : World) (ha : SpIs w va a) (hb : SpIs w vb b) (la1 : rl a.1 ≤ 9000) (la2 : rl a.2 ≤ 9000) (lb1 : rl b.1 ≤ 9000) (lb2 : rl b.2 ≤ 9000) (h : inS b 0) :
    Calls Tryd.prog 28 #[va, vb] w (RetSpE w (0, 0) (errV 8)) := by
  have HBW := Lib.hid (Below.refl w.heap.size w)
  have kz0 : rl 0 ≤ 1 := by rw [rl_zero]; exact Nat.le_refl _
  obtain ⟨qa, oa, na, ka, pa, ma, ra, qax, oax, nax, kax, pax, max, rax, rfl⟩ := ha.shape
  have hla := ha.rl; have hoa := ha.ok; obtain ⟨hlaa, hlab⟩ := hla
  have hoa := Lib.hid hoa
  obtain ⟨qb, ob, nb, kb, pb, mb, rb, qbx, obx, nbx, kbx, pbx, mbx, rbx, rfl⟩ := hb.shape
  have hlb := hb.rl; have hob := hb.ok; obtain ⟨hlba, hlbb⟩ := hlb
  have hob := Lib.hid hob
  rw [errV_pos (by decide)]
  have HI := Lib.hid (decide_eq_true h); clear h
  have Fa := Lib.hid ha; clear ha
  have Fb := Lib.hid hb; clear hb
  obtain ⟨w1, hw1⟩ : ∃ w1, w1 = w.alloc (.cells #[.bool qa, .slice oa na ka, .slice pa ma ra, .bool qax, .slice oax nax kax, .slice pax max rax] 26) := ⟨_, rfl⟩
  have hb1 : Below w.heap.size w w1 := by rw [hw1]; exact (Below.refl _ _).alloc (Nat.le_refl _) _
  have hx1 := heap_alloc_new w (.cells #[.bool qa, .slice oa na ka, .slice pa ma ra, .bool qax, .slice oax nax kax, .slice pax max rax] 26)
  obtain ⟨g1, hg1⟩ : ∃ g, g = w.heap.size := ⟨_, rfl⟩
  rw [← hw1, ← hg1] at hx1
  have lw1 : w.heap.size ≤ g1 := by rw [hg1]; exact HBW.out.size
  have HW1 := Lib.hid hw1; have HG1 := Lib.hid hg1; clear hw1 hg1
  have HB1 := Lib.hid (HBW.out.step hb1)
  have Fa := Lib.hid (Fa.out.below hb1)
  have Fb := Lib.hid (Fb.out.below hb1)
  have BX1 := Lib.hid hx1; clear hb1 hx1
  obtain ⟨w2, hw2⟩ : ∃ w2, w2 = w1.alloc (.cells #[.bool qb, .slice ob nb kb, .slice pb mb rb, .bool qbx, .slice obx nbx kbx, .slice pbx mbx rbx] 26) := ⟨_, rfl⟩
  have hb2 : Below w1.heap.size w1 w2 := by rw [hw2]; exact (Below.refl _ _).alloc (Nat.le_refl _) _
  have hx2 := heap_alloc_new w1 (.cells #[.bool qb, .slice ob nb kb, .slice pb mb rb, .bool qbx, .slice obx nbx kbx, .slice pbx mbx rbx] 26)
  obtain ⟨g2, hg2⟩ : ∃ g, g = w1.heap.size := ⟨_, rfl⟩
  rw [← hw2, ← hg2] at hx2
  have lw2 : w.heap.size ≤ g2 := by rw [hg2]; exact HB1.out.size
  have ltBX12 : g1 < g2 := by rw [hg2]; exact below_lt BX1.out
  have hs2 : g2 = w.heap.size + 1 := by rw [hg2, HW1.out]; simp
  have HS2 := Lib.hid hs2; clear hs2
  have HW2 := Lib.hid hw2; have HG2 := Lib.hid hg2; clear hw2 hg2
  have HB2 := Lib.hid (HB1.out.step hb2)
  have Fa := Lib.hid (Fa.out.below hb2)
  have Fb := Lib.hid (Fb.out.below hb2)
  have BX1 := Lib.hid (heap_below BX1.out hb2)
  have BX2 := Lib.hid hx2; clear hb2 hx2
  obtain ⟨w3, hw3⟩ : ∃ w3, w3 = w2.alloc (.cells #[.bool false, .slice none 0 0, .slice none 0 0, .bool false, .slice none 0 0, .slice none 0 0] 26) := ⟨_, rfl⟩
  have hb3 : Below w2.heap.size w2 w3 := by rw [hw3]; exact (Below.refl _ _).alloc (Nat.le_refl _) _
  have hx3 := heap_alloc_new w2 (.cells #[.bool false, .slice none 0 0, .slice none 0 0, .bool false, .slice none 0 0, .slice none 0 0] 26)
  obtain ⟨g3, hg3⟩ : ∃ g, g = w2.heap.size := ⟨_, rfl⟩
  rw [← hw3, ← hg3] at hx3
  have lw3 : w.heap.size ≤ g3 := by rw [hg3]; exact HB2.out.size
  have ltBX13 : g1 < g3 := by rw [hg3]; exact below_lt BX1.out
  have ltBX23 : g2 < g3 := by rw [hg3]; exact below_lt BX2.out
  have hs3 : g3 = w.heap.size + 2 := by rw [hg3, HW2.out, HW1.out]; simp
  have HS3 := Lib.hid hs3; clear hs3
  have HW3 := Lib.hid hw3; have HG3 := Lib.hid hg3; clear hw3 hg3
  have HB3 := Lib.hid (HB2.out.step hb3)
  have Fa := Lib.hid (Fa.out.below hb3)
  have Fb := Lib.hid (Fb.out.below hb3)
  have BX1 := Lib.hid (heap_below BX1.out hb3)
  have BX2 := Lib.hid (heap_below BX2.out hb3)
  have BX3 := Lib.hid hx3; clear hb3 hx3
  go_enter Tryd.func28, Tryd.ntmps28
  obtain ⟨x1_0, x1_1, x1_2, x1_3, x1_4, x1_5⟩ := row6 BX2.out
  have hs := norm_any _ (b) w3 Fb.out
  have HS := Lib.hid hs; clear hs
  try rw [HW3.out] at x1_0
  try rw [HG3.out] at x1_0
  try rw [HW2.out] at x1_0
  try rw [HG2.out] at x1_0
  try rw [HW1.out] at x1_0
  try rw [HG1.out] at x1_0
  try rw [HW3.out] at x1_1
  try rw [HG3.out] at x1_1
  try rw [HW2.out] at x1_1
  try rw [HG2.out] at x1_1
  try rw [HW1.out] at x1_1
  try rw [HG1.out] at x1_1
  try rw [HW3.out] at x1_2
  try rw [HG3.out] at x1_2
  try rw [HW2.out] at x1_2
  try rw [HG2.out] at x1_2
  try rw [HW1.out] at x1_2
  try rw [HG1.out] at x1_2
  try rw [HW3.out] at x1_3
  try rw [HG3.out] at x1_3
  try rw [HW2.out] at x1_3
  try rw [HG2.out] at x1_3
  try rw [HW1.out] at x1_3
  try rw [HG1.out] at x1_3
  try rw [HW3.out] at x1_4
  try rw [HG3.out] at x1_4
  try rw [HW2.out] at x1_4
  try rw [HG2.out] at x1_4
  try rw [HW1.out] at x1_4
  try rw [HG1.out] at x1_4
  try rw [HW3.out] at x1_5
  try rw [HG3.out] at x1_5
  try rw [HW2.out] at x1_5
  try rw [HG2.out] at x1_5
  try rw [HW1.out] at x1_5
  try rw [HG1.out] at x1_5
  go_wp2_with (with_reducible first | refine pauseCall ?_ | refine pauseLoop ?_ | refine pauseDraw ?_ | refine pauseBody ?_ | refine pauseRounds ?_)
  try rw [← HW1.out]
  try rw [← HW2.out]
  try rw [← HW3.out]
  try rw [← HS3.out]
  try rw [← HS2.out]
  try rw [← HG1.out]
  try rw [← HG2.out]
  try rw [← HG3.out]
  clear x1_0 x1_1 x1_2 x1_3 x1_4 x1_5
  refine Pause.mk ?_
  (with_reducible refine HS.out.mono ?_); rintro e w4 ⟨v4, rfl, hb4, hn4⟩
  clear HS
  have HB4 := Lib.hid (HB3.out.step hb4)
  have Fa := Lib.hid (Fa.out.below hb4)
  have Fb := Lib.hid (Fb.out.below hb4)
  have BX1 := Lib.hid (heap_below BX1.out hb4)
  have BX2 := Lib.hid (heap_below BX2.out hb4)
  have BX3 := Lib.hid (heap_below BX3.out hb4)
  have N4 := Lib.hid hn4; clear hn4
  obtain ⟨s2, o2, n2, c2, a2, m2, d2, s2x, o2x, n2x, c2x, a2x, m2x, d2x, rfl⟩ := N4.out.shape
  have N4l := Lib.hid (isSp_ends N4.out).1; have N4h := Lib.hid (isSp_ends N4.out).2
  clear hb4
  go_wp2_with (with_reducible refine wpList_pauseS ?_)
  refine wpList_stL g2 0 [.bool s2, .slice o2 n2 c2, .slice a2 m2 d2, .bool s2x, .slice o2x n2x c2x, .slice a2x m2x d2x] BX2.out rfl rfl (Nat.le_of_ble_eq_true rfl) (by kernel_rfl) rfl ?_
  intro w5 hp5
  have Fa := Lib.hid (putL_SS hp5 Fa.out BX2.out noW6)
  have Fb := Lib.hid (putL_SS hp5 Fb.out BX2.out noW6)
  have N4 := Lib.hid (putL_SI hp5 N4.out BX2.out noW6)
  have N4l := Lib.hid (putL_I hp5 N4l.out BX2.out noW6)
  have N4h := Lib.hid (putL_I hp5 N4h.out BX2.out noW6)
  have BX1 := Lib.hid (putLx hp5 BX1.out (by omega))
  have BX3 := Lib.hid (putLx hp5 BX3.out (by omega))
  have nx5 : w5.heap[g2]? = some (.cells #[.bool s2, .slice o2 n2 c2, .slice a2 m2 d2, .bool s2x, .slice o2x n2x c2x, .slice a2x m2x d2x] 26) := by rw [hp5]; exact putL_6 BX2.out
  have BX2 := Lib.hid nx5; clear nx5
  have HB5 := Lib.hid (putLb hp5 HB4.out (by omega))
  clear hp5
  obtain ⟨x3_0, x3_1, x3_2, x3_3, x3_4, x3_5⟩ := row6 BX2.out
  have hs := contains_any _ (b) _ (0) w5 (N4.out.is hob.out (by omega) (by omega)) ((isR_zero _).is (by rw [rl_zero]; decide)) (by omega) (by omega) (by omega)
  rw [HI.out] at hs
  have HS := Lib.hid hs; clear hs
  go_wp2_with (with_reducible first | refine pauseCall ?_ | refine pauseLoop ?_ | refine pauseDraw ?_ | refine pauseBody ?_ | refine pauseRounds ?_)
  clear x3_0 x3_1 x3_2 x3_3 x3_4 x3_5
  refine Pause.mk ?_
  (with_reducible refine HS.out.mono ?_); rintro e w6 ⟨rfl, hb6⟩
  clear HS
  have HB6 := Lib.hid (HB5.out.step hb6)
  have Fa := Lib.hid (Fa.out.below hb6)
  have Fb := Lib.hid (Fb.out.below hb6)
  have N4 := Lib.hid (N4.out.below hb6)
  have N4l := Lib.hid (N4l.out.below hb6)
  have N4h := Lib.hid (N4h.out.below hb6)
  have BX1 := Lib.hid (heap_below BX1.out hb6)
  have BX2 := Lib.hid (heap_below BX2.out hb6)
  have BX3 := Lib.hid (heap_below BX3.out hb6)
  clear hb6
  go_wp2_with (with_reducible refine wpList_pauseS ?_)
  refine wpList_stL g3 0 [.bool false, .slice none 0 0, .slice none 0 0, .bool false, .slice none 0 0, .slice none 0 0] BX3.out rfl rfl (Nat.le_of_ble_eq_true rfl) (by kernel_rfl) rfl ?_
  intro w7 hp7
  have Fa := Lib.hid (putL_SS hp7 Fa.out BX3.out noW6)
  have Fb := Lib.hid (putL_SS hp7 Fb.out BX3.out noW6)
  have N4 := Lib.hid (putL_SI hp7 N4.out BX3.out noW6)
  have N4l := Lib.hid (putL_I hp7 N4l.out BX3.out noW6)
  have N4h := Lib.hid (putL_I hp7 N4h.out BX3.out noW6)
  have BX1 := Lib.hid (putLx hp7 BX1.out (by omega))
  have BX2 := Lib.hid (putLx hp7 BX2.out (by omega))
  have nx7 : w7.heap[g3]? = some (.cells #[.bool false, .slice none 0 0, .slice none 0 0, .bool false, .slice none 0 0, .slice none 0 0] 26) := by rw [hp7]; exact putL_6 BX3.out
  have BX3 := Lib.hid nx7; clear nx7
  have HB7 := Lib.hid (putLb hp7 HB6.out (by omega))
  clear hp7
  obtain ⟨x4_0, x4_1, x4_2, x4_3, x4_4, x4_5⟩ := row6 BX3.out
  go_wp2_with (with_reducible first | refine pauseCall ?_ | refine pauseLoop ?_ | refine pauseDraw ?_ | refine pauseBody ?_ | refine pauseRounds ?_)
  clear x4_0 x4_1 x4_2 x4_3 x4_4 x4_5
  refine Pause.mk ?_
  refine ret_span2 rfl g3 _ _ _ _ _ _ (by first | rfl | exact rfl) BX3.out rfl ?_
  exact ⟨_, rfl, HB7.out, (isSp_zero _)⟩
set_option maxRecDepth 100000 in
set_option maxHeartbeats 6400000 in
theorem sdiv_2 (va : Value) (a : Rat × Rat) (vb : Value) (b : Rat × Rat) (w : World) (ha : SpIs w va a) (hb : SpIs w vb b) (la1 : rl a.1 ≤ 9000) (la2 : rl a.2 ≤ 9000) (lb1 : rl b.1 ≤ 9000) (lb2 : rl b.2 ≤ 9000) (h : ¬ inS b 0) :
    Calls Tryd.prog 28 #[va, vb] w (RetSpE w (sDiv a b) (errV 0)) := by
  have HBW := Lib.hid (Below.refl w.heap.size w)
  have kz0 : rl 0 ≤ 1 := by rw [rl_zero]; exact Nat.le_refl _
  obtain ⟨qa, oa, na, ka, pa, ma, ra, qax, oax, nax, kax, pax, max, rax, rfl⟩ := ha.shape
  have hla := ha.rl; have hoa := ha.ok; obtain ⟨hlaa, hlab⟩ := hla
  have hoa := Lib.hid hoa
  obtain ⟨qb, ob, nb, kb, pb, mb, rb, qbx, obx, nbx, kbx, pbx, mbx, rbx, rfl⟩ := hb.shape
  have hlb := hb.rl; have hob := hb.ok; obtain ⟨hlba, hlbb⟩ := hlb
  have hob := Lib.hid hob
  rw [errV_zero]
  obtain ⟨z1, z2⟩ := inS_zero_ends hb.ok h
  have HD1 := Lib.hid (show dc b.1 = 0 from if_neg z1); have HD2 := Lib.hid (show dc b.2 = 0 from if_neg z2)
  have HI := Lib.hid (decide_eq_false h); clear h z1 z2
  have Fa := Lib.hid ha; clear ha
  have Fb := Lib.hid hb; clear hb
  obtain ⟨w1, hw1⟩ : ∃ w1, w1 = w.alloc (.cells #[.bool qa, .slice oa na ka, .slice pa ma ra, .bool qax, .slice oax nax kax, .slice pax max rax] 26) := ⟨_, rfl⟩
  have hb1 : Below w.heap.size w w1 := by rw [hw1]; exact (Below.refl _ _).alloc (Nat.le_refl _) _
  have hx1 := heap_alloc_new w (.cells #[.bool qa, .slice oa na ka, .slice pa ma ra, .bool qax, .slice oax nax kax, .slice pax max rax] 26)
  obtain ⟨g1, hg1⟩ : ∃ g, g = w.heap.size := ⟨_, rfl⟩
  rw [← hw1, ← hg1] at hx1
  have lw1 : w.heap.size ≤ g1 := by rw [hg1]; exact HBW.out.size
  have HW1 := Lib.hid hw1; have HG1 := Lib.hid hg1; clear hw1 hg1
  have HB1 := Lib.hid (HBW.out.step hb1)
  have Fa := Lib.hid (Fa.out.below hb1)
  have Fb := Lib.hid (Fb.out.below hb1)
  have BX1 := Lib.hid hx1; clear hb1 hx1
  obtain ⟨w2, hw2⟩ : ∃ w2, w2 = w1.alloc (.cells #[.bool qb, .slice ob nb kb, .slice pb mb rb, .bool qbx, .slice obx nbx kbx, .slice pbx mbx rbx] 26) := ⟨_, rfl⟩
  have hb2 : Below w1.heap.size w1 w2 := by rw [hw2]; exact (Below.refl _ _).alloc (Nat.le_refl _) _
  have hx2 := heap_alloc_new w1 (.cells #[.bool qb, .slice ob nb kb, .slice pb mb rb, .bool qbx, .slice obx nbx kbx, .slice pbx mbx rbx] 26)
  obtain ⟨g2, hg2⟩ : ∃ g, g = w1.heap.size := ⟨_, rfl⟩
  rw [← hw2, ← hg2] at hx2
  have lw2 : w.heap.size ≤ g2 := by rw [hg2]; exact HB1.out.size
  have ltBX12 : g1 < g2 := by rw [hg2]; exact below_lt BX1.out
  have hs2 : g2 = w.heap.size + 1 := by rw [hg2, HW1.out]; simp
  have HS2 := Lib.hid hs2; clear hs2
  have HW2 := Lib.hid hw2; have HG2 := Lib.hid hg2; clear hw2 hg2
  have HB2 := Lib.hid (HB1.out.step hb2)
  have Fa := Lib.hid (Fa.out.below hb2)
  have Fb := Lib.hid (Fb.out.below hb2)
  have BX1 := Lib.hid (heap_below BX1.out hb2)
  have BX2 := Lib.hid hx2; clear hb2 hx2
  obtain ⟨w3, hw3⟩ : ∃ w3, w3 = w2.alloc (.cells #[.bool false, .slice none 0 0, .slice none 0 0, .bool false, .slice none 0 0, .slice none 0 0] 26) := ⟨_, rfl⟩
  have hb3 : Below w2.heap.size w2 w3 := by rw [hw3]; exact (Below.refl _ _).alloc (Nat.le_refl _) _
  have hx3 := heap_alloc_new w2 (.cells #[.bool false, .slice none 0 0, .slice none 0 0, .bool false, .slice none 0 0, .slice none 0 0] 26)
  obtain ⟨g3, hg3⟩ : ∃ g, g = w2.heap.size := ⟨_, rfl⟩
  rw [← hw3, ← hg3] at hx3
  have lw3 : w.heap.size ≤ g3 := by rw [hg3]; exact HB2.out.size
  have ltBX13 : g1 < g3 := by rw [hg3]; exact below_lt BX1.out
  have ltBX23 : g2 < g3 := by rw [hg3]; exact below_lt BX2.out
  have hs3 : g3 = w.heap.size + 2 := by rw [hg3, HW2.out, HW1.out]; simp
  have HS3 := Lib.hid hs3; clear hs3
  have HW3 := Lib.hid hw3; have HG3 := Lib.hid hg3; clear hw3 hg3
  have HB3 := Lib.hid (HB2.out.step hb3)
  have Fa := Lib.hid (Fa.out.below hb3)
  have Fb := Lib.hid (Fb.out.below hb3)
  have BX1 := Lib.hid (heap_below BX1.out hb3)
  have BX2 := Lib.hid (heap_below BX2.out hb3)
  have BX3 := Lib.hid hx3; clear hb3 hx3
  go_enter Tryd.func28, Tryd.ntmps28
  obtain ⟨x1_0, x1_1, x1_2, x1_3, x1_4, x1_5⟩ := row6 BX2.out
  have hs := norm_any _ (b) w3 Fb.out
  have HS := Lib.hid hs; clear hs
  try rw [HW3.out] at x1_0
  try rw [HG3.out] at x1_0
  try rw [HW2.out] at x1_0
  try rw [HG2.out] at x1_0
  try rw [HW1.out] at x1_0
  try rw [HG1.out] at x1_0
  try rw [HW3.out] at x1_1
  try rw [HG3.out] at x1_1
  try rw [HW2.out] at x1_1
  try rw [HG2.out] at x1_1
  try rw [HW1.out] at x1_1
  try rw [HG1.out] at x1_1
  try rw [HW3.out] at x1_2
  try rw [HG3.out] at x1_2
  try rw [HW2.out] at x1_2
  try rw [HG2.out] at x1_2
  try rw [HW1.out] at x1_2
  try rw [HG1.out] at x1_2
  try rw [HW3.out] at x1_3
  try rw [HG3.out] at x1_3
  try rw [HW2.out] at x1_3
  try rw [HG2.out] at x1_3
  try rw [HW1.out] at x1_3
  try rw [HG1.out] at x1_3
  try rw [HW3.out] at x1_4
  try rw [HG3.out] at x1_4
  try rw [HW2.out] at x1_4
  try rw [HG2.out] at x1_4
  try rw [HW1.out] at x1_4
  try rw [HG1.out] at x1_4
  try rw [HW3.out] at x1_5
  try rw [HG3.out] at x1_5
  try rw [HW2.out] at x1_5
  try rw [HG2.out] at x1_5
  try rw [HW1.out] at x1_5
  try rw [HG1.out] at x1_5
  go_wp2_with (with_reducible first | refine pauseCall ?_ | refine pauseLoop ?_ | refine pauseDraw ?_ | refine pauseBody ?_ | refine pauseRounds ?_)
  try rw [← HW1.out]
  try rw [← HW2.out]
  try rw [← HW3.out]
  try rw [← HS3.out]
  try rw [← HS2.out]
  try rw [← HG1.out]
  try rw [← HG2.out]
  try rw [← HG3.out]
  clear x1_0 x1_1 x1_2 x1_3 x1_4 x1_5
  refine Pause.mk ?_
  (with_reducible refine HS.out.mono ?_); rintro e w4 ⟨v4, rfl, hb4, hn4⟩
  clear HS
  have HB4 := Lib.hid (HB3.out.step hb4)
  have Fa := Lib.hid (Fa.out.below hb4)
  have Fb := Lib.hid (Fb.out.below hb4)
  have BX1 := Lib.hid (heap_below BX1.out hb4)
  have BX2 := Lib.hid (heap_below BX2.out hb4)
  have BX3 := Lib.hid (heap_below BX3.out hb4)
  have N4 := Lib.hid hn4; clear hn4
  obtain ⟨s2, o2, n2, c2, a2, m2, d2, s2x, o2x, n2x, c2x, a2x, m2x, d2x, rfl⟩ := N4.out.shape
  have N4l := Lib.hid (isSp_ends N4.out).1; have N4h := Lib.hid (isSp_ends N4.out).2
  clear hb4
  go_wp2_with (with_reducible refine wpList_pauseS ?_)
  refine wpList_stL g2 0 [.bool s2, .slice o2 n2 c2, .slice a2 m2 d2, .bool s2x, .slice o2x n2x c2x, .slice a2x m2x d2x] BX2.out rfl rfl (Nat.le_of_ble_eq_true rfl) (by kernel_rfl) rfl ?_
  intro w5 hp5
  have Fa := Lib.hid (putL_SS hp5 Fa.out BX2.out noW6)
  have Fb := Lib.hid (putL_SS hp5 Fb.out BX2.out noW6)
  have N4 := Lib.hid (putL_SI hp5 N4.out BX2.out noW6)
  have N4l := Lib.hid (putL_I hp5 N4l.out BX2.out noW6)
  have N4h := Lib.hid (putL_I hp5 N4h.out BX2.out noW6)
  have BX1 := Lib.hid (putLx hp5 BX1.out (by omega))
  have BX3 := Lib.hid (putLx hp5 BX3.out (by omega))
  have nx5 : w5.heap[g2]? = some (.cells #[.bool s2, .slice o2 n2 c2, .slice a2 m2 d2, .bool s2x, .slice o2x n2x c2x, .slice a2x m2x d2x] 26) := by rw [hp5]; exact putL_6 BX2.out
  have BX2 := Lib.hid nx5; clear nx5
  have HB5 := Lib.hid (putLb hp5 HB4.out (by omega))
  clear hp5
  obtain ⟨x3_0, x3_1, x3_2, x3_3, x3_4, x3_5⟩ := row6 BX2.out
  have hs := contains_any _ (b) _ (0) w5 (N4.out.is hob.out (by omega) (by omega)) ((isR_zero _).is (by rw [rl_zero]; decide)) (by omega) (by omega) (by omega)
  rw [HI.out] at hs
  have HS := Lib.hid hs; clear hs
  go_wp2_with (with_reducible first | refine pauseCall ?_ | refine pauseLoop ?_ | refine pauseDraw ?_ | refine pauseBody ?_ | refine pauseRounds ?_)
  clear x3_0 x3_1 x3_2 x3_3 x3_4 x3_5
  refine Pause.mk ?_
  (with_reducible refine HS.out.mono ?_); rintro e w6 ⟨rfl, hb6⟩
  clear HS
  have HB6 := Lib.hid (HB5.out.step hb6)
  have Fa := Lib.hid (Fa.out.below hb6)
  have Fb := Lib.hid (Fb.out.below hb6)
  have N4 := Lib.hid (N4.out.below hb6)
  have N4l := Lib.hid (N4l.out.below hb6)
  have N4h := Lib.hid (N4h.out.below hb6)
  have BX1 := Lib.hid (heap_below BX1.out hb6)
  have BX2 := Lib.hid (heap_below BX2.out hb6)
  have BX3 := Lib.hid (heap_below BX3.out hb6)
  clear hb6
  have k4 : rl ((1 : Int) : Rat) ≤ 2 := rl_small (by decide) (by decide)
  have hs := ofq_any 1 w6 (by decide) (by decide)
  have HS := Lib.hid hs; clear hs
  go_wp2_with (with_reducible first | refine pauseCall ?_ | refine pauseLoop ?_ | refine pauseDraw ?_ | refine pauseBody ?_ | refine pauseRounds ?_)
  refine Pause.mk ?_
  (with_reducible refine HS.out.mono ?_); rintro e w7 ⟨v7, rfl, hb7, hn7⟩
  clear HS
  have HB7 := Lib.hid (HB6.out.step hb7)
  have Fa := Lib.hid (Fa.out.below hb7)
  have Fb := Lib.hid (Fb.out.below hb7)
  have N4 := Lib.hid (N4.out.below hb7)
  have N4l := Lib.hid (N4l.out.below hb7)
  have N4h := Lib.hid (N4h.out.below hb7)
  have BX1 := Lib.hid (heap_below BX1.out hb7)
  have BX2 := Lib.hid (heap_below BX2.out hb7)
  have BX3 := Lib.hid (heap_below BX3.out hb7)
  have N7 := Lib.hid hn7; clear hn7
  obtain ⟨s5, o5, n5, c5, a5, m5, d5, rfl⟩ := N7.out.shape
  clear hb7
  obtain ⟨w8, hw8⟩ : ∃ w8, w8 = w7.alloc (.cells #[.bool s5, .slice o5 n5 c5, .slice a5 m5 d5] 24) := ⟨_, rfl⟩
  have hb8 : Below w7.heap.size w7 w8 := by rw [hw8]; exact (Below.refl _ _).alloc (Nat.le_refl _) _
  have hx8 := heap_alloc_new w7 (.cells #[.bool s5, .slice o5 n5 c5, .slice a5 m5 d5] 24)
  obtain ⟨g8, hg8⟩ : ∃ g, g = w7.heap.size := ⟨_, rfl⟩
  rw [← hw8, ← hg8] at hx8
  have lw8 : w.heap.size ≤ g8 := by rw [hg8]; exact HB7.out.size
  have ltBX18 : g1 < g8 := by rw [hg8]; exact below_lt BX1.out
  have ltBX28 : g2 < g8 := by rw [hg8]; exact below_lt BX2.out
  have ltBX38 : g3 < g8 := by rw [hg8]; exact below_lt BX3.out
  have HW8 := Lib.hid hw8; have HG8 := Lib.hid hg8; clear hw8 hg8
  have HB8 := Lib.hid (HB7.out.step hb8)
  have Fa := Lib.hid (Fa.out.below hb8)
  have Fb := Lib.hid (Fb.out.below hb8)
  have N4 := Lib.hid (N4.out.below hb8)
  have N4l := Lib.hid (N4l.out.below hb8)
  have N4h := Lib.hid (N4h.out.below hb8)
  have N7 := Lib.hid (N7.out.below hb8)
  have BX1 := Lib.hid (heap_below BX1.out hb8)
  have BX2 := Lib.hid (heap_below BX2.out hb8)
  have BX3 := Lib.hid (heap_below BX3.out hb8)
  have BX8 := Lib.hid hx8; clear hb8 hx8
  obtain ⟨x6_0, x6_1, x6_2⟩ := row3 BX8.out
  obtain ⟨x7_0, x7_1, x7_2, x7_3, x7_4, x7_5⟩ := row6 BX2.out
  have k8 := rl_div' (((1 : Int) : Rat)) ((b).1)
  have hs := divq_any _ (((1 : Int) : Rat)) _ ((b).1) w8 (N7.out.is (by omega)) (N4l.out.is (by omega))
  rw [HD1.out, errV_zero] at hs
  have HS := Lib.hid hs; clear hs
  try rw [HW8.out] at x6_0
  try rw [HG8.out] at x6_0
  try rw [HW8.out] at x6_1
  try rw [HG8.out] at x6_1
  try rw [HW8.out] at x6_2
  try rw [HG8.out] at x6_2
  try rw [HW8.out] at x7_0
  try rw [HG8.out] at x7_0
  try rw [HW8.out] at x7_1
  try rw [HG8.out] at x7_1
  try rw [HW8.out] at x7_2
  try rw [HG8.out] at x7_2
  try rw [HW8.out] at x7_3
  try rw [HG8.out] at x7_3
  try rw [HW8.out] at x7_4
  try rw [HG8.out] at x7_4
  try rw [HW8.out] at x7_5
  try rw [HG8.out] at x7_5
  go_wp2_with (with_reducible first | refine pauseCall ?_ | refine pauseLoop ?_ | refine pauseDraw ?_ | refine pauseBody ?_ | refine pauseRounds ?_)
  try rw [← HW8.out]
  try rw [← HG8.out]
  clear x6_0 x6_1 x6_2 x7_0 x7_1 x7_2 x7_3 x7_4 x7_5
  refine Pause.mk ?_
  (with_reducible refine HS.out.mono ?_); rintro e w9 ⟨v9, rfl, hb9, hn9⟩
  clear HS
  have HB9 := Lib.hid (HB8.out.step hb9)
  have Fa := Lib.hid (Fa.out.below hb9)
  have Fb := Lib.hid (Fb.out.below hb9)
  have N4 := Lib.hid (N4.out.below hb9)
  have N4l := Lib.hid (N4l.out.below hb9)
  have N4h := Lib.hid (N4h.out.below hb9)
  have N7 := Lib.hid (N7.out.below hb9)
  have BX1 := Lib.hid (heap_below BX1.out hb9)
  have BX2 := Lib.hid (heap_below BX2.out hb9)
  have BX3 := Lib.hid (heap_below BX3.out hb9)
  have BX8 := Lib.hid (heap_below BX8.out hb9)
  have N9 := Lib.hid hn9; clear hn9
  obtain ⟨s9, o9, n9, c9, a9, m9, d9, rfl⟩ := N9.out.shape
  clear hb9
  obtain ⟨w10, hw10⟩ : ∃ w10, w10 = w9.alloc (.cells #[.bool s9, .slice o9 n9 c9, .slice a9 m9 d9] 24) := ⟨_, rfl⟩
  have hb10 : Below w9.heap.size w9 w10 := by rw [hw10]; exact (Below.refl _ _).alloc (Nat.le_refl _) _
  have hx10 := heap_alloc_new w9 (.cells #[.bool s9, .slice o9 n9 c9, .slice a9 m9 d9] 24)
  obtain ⟨g10, hg10⟩ : ∃ g, g = w9.heap.size := ⟨_, rfl⟩
  rw [← hw10, ← hg10] at hx10
  have lw10 : w.heap.size ≤ g10 := by rw [hg10]; exact HB9.out.size
  have ltBX110 : g1 < g10 := by rw [hg10]; exact below_lt BX1.out
  have ltBX210 : g2 < g10 := by rw [hg10]; exact below_lt BX2.out
  have ltBX310 : g3 < g10 := by rw [hg10]; exact below_lt BX3.out
  have ltBX810 : g8 < g10 := by rw [hg10]; exact below_lt BX8.out
  have HW10 := Lib.hid hw10; have HG10 := Lib.hid hg10; clear hw10 hg10
  have HB10 := Lib.hid (HB9.out.step hb10)
  have Fa := Lib.hid (Fa.out.below hb10)
  have Fb := Lib.hid (Fb.out.below hb10)
  have N4 := Lib.hid (N4.out.below hb10)
  have N4l := Lib.hid (N4l.out.below hb10)
  have N4h := Lib.hid (N4h.out.below hb10)
  have N7 := Lib.hid (N7.out.below hb10)
  have N9 := Lib.hid (N9.out.below hb10)
  have BX1 := Lib.hid (heap_below BX1.out hb10)
  have BX2 := Lib.hid (heap_below BX2.out hb10)
  have BX3 := Lib.hid (heap_below BX3.out hb10)
  have BX8 := Lib.hid (heap_below BX8.out hb10)
  have BX10 := Lib.hid hx10; clear hb10 hx10
  obtain ⟨x10_0, x10_1, x10_2⟩ := row3 BX8.out
  obtain ⟨x11_0, x11_1, x11_2, x11_3, x11_4, x11_5⟩ := row6 BX2.out
  have k12 := rl_div' (((1 : Int) : Rat)) ((b).2)
  have hs := divq_any _ (((1 : Int) : Rat)) _ ((b).2) w10 (N7.out.is (by omega)) (N4h.out.is (by omega))
  rw [HD2.out, errV_zero] at hs
  have HS := Lib.hid hs; clear hs
  try rw [HW10.out] at x10_0
  try rw [HG10.out] at x10_0
  try rw [HW10.out] at x10_1
  try rw [HG10.out] at x10_1
  try rw [HW10.out] at x10_2
  try rw [HG10.out] at x10_2
  try rw [HW10.out] at x11_0
  try rw [HG10.out] at x11_0
  try rw [HW10.out] at x11_1
  try rw [HG10.out] at x11_1
  try rw [HW10.out] at x11_2
  try rw [HG10.out] at x11_2
  try rw [HW10.out] at x11_3
  try rw [HG10.out] at x11_3
  try rw [HW10.out] at x11_4
  try rw [HG10.out] at x11_4
  try rw [HW10.out] at x11_5
  try rw [HG10.out] at x11_5
  go_wp2_with (with_reducible first | refine pauseCall ?_ | refine pauseLoop ?_ | refine pauseDraw ?_ | refine pauseBody ?_ | refine pauseRounds ?_)
  try rw [← HW10.out]
  try rw [← HG10.out]
  clear x10_0 x10_1 x10_2 x11_0 x11_1 x11_2 x11_3 x11_4 x11_5
  refine Pause.mk ?_
  (with_reducible refine HS.out.mono ?_); rintro e w11 ⟨v11, rfl, hb11, hn11⟩
  clear HS
  have HB11 := Lib.hid (HB10.out.step hb11)
  have Fa := Lib.hid (Fa.out.below hb11)
  have Fb := Lib.hid (Fb.out.below hb11)
  have N4 := Lib.hid (N4.out.below hb11)
  have N4l := Lib.hid (N4l.out.below hb11)
  have N4h := Lib.hid (N4h.out.below hb11)
  have N7 := Lib.hid (N7.out.below hb11)
  have N9 := Lib.hid (N9.out.below hb11)
  have BX1 := Lib.hid (heap_below BX1.out hb11)
  have BX2 := Lib.hid (heap_below BX2.out hb11)
  have BX3 := Lib.hid (heap_below BX3.out hb11)
  have BX8 := Lib.hid (heap_below BX8.out hb11)
  have BX10 := Lib.hid (heap_below BX10.out hb11)
  have N11 := Lib.hid hn11; clear hn11
  obtain ⟨s13, o13, n13, c13, a13, m13, d13, rfl⟩ := N11.out.shape
  clear hb11
  obtain ⟨w12, hw12⟩ : ∃ w12, w12 = w11.alloc (.cells #[.bool s13, .slice o13 n13 c13, .slice a13 m13 d13] 24) := ⟨_, rfl⟩
  have hb12 : Below w11.heap.size w11 w12 := by rw [hw12]; exact (Below.refl _ _).alloc (Nat.le_refl _) _
  have hx12 := heap_alloc_new w11 (.cells #[.bool s13, .slice o13 n13 c13, .slice a13 m13 d13] 24)
  obtain ⟨g12, hg12⟩ : ∃ g, g = w11.heap.size := ⟨_, rfl⟩
  rw [← hw12, ← hg12] at hx12
  have lw12 : w.heap.size ≤ g12 := by rw [hg12]; exact HB11.out.size
  have ltBX112 : g1 < g12 := by rw [hg12]; exact below_lt BX1.out
  have ltBX212 : g2 < g12 := by rw [hg12]; exact below_lt BX2.out
  have ltBX312 : g3 < g12 := by rw [hg12]; exact below_lt BX3.out
  have ltBX812 : g8 < g12 := by rw [hg12]; exact below_lt BX8.out
  have ltBX1012 : g10 < g12 := by rw [hg12]; exact below_lt BX10.out
  have HW12 := Lib.hid hw12; have HG12 := Lib.hid hg12; clear hw12 hg12
  have HB12 := Lib.hid (HB11.out.step hb12)
  have Fa := Lib.hid (Fa.out.below hb12)
  have Fb := Lib.hid (Fb.out.below hb12)
  have N4 := Lib.hid (N4.out.below hb12)
  have N4l := Lib.hid (N4l.out.below hb12)
  have N4h := Lib.hid (N4h.out.below hb12)
  have N7 := Lib.hid (N7.out.below hb12)
  have N9 := Lib.hid (N9.out.below hb12)
  have N11 := Lib.hid (N11.out.below hb12)
  have BX1 := Lib.hid (heap_below BX1.out hb12)
  have BX2 := Lib.hid (heap_below BX2.out hb12)
  have BX3 := Lib.hid (heap_below BX3.out hb12)
  have BX8 := Lib.hid (heap_below BX8.out hb12)
  have BX10 := Lib.hid (heap_below BX10.out hb12)
  have BX12 := Lib.hid hx12; clear hb12 hx12
  go_wp2_with (with_reducible first | refine pauseCall ?_ | refine pauseLoop ?_ | refine pauseDraw ?_ | refine pauseBody ?_ | refine pauseRounds ?_)
  try rw [← HW12.out]
  try rw [← HG12.out]
  refine Pause.mk ?_
  obtain ⟨k14, k15⟩ := rl_around2 ((((1 : Int) : Rat)) / ((b).1)) ((((1 : Int) : Rat)) / ((b).2))
  refine wp_region_facts (A := ?aa16) (w := w12) 5 [] (by kernel_rfl) (Fl [KEq (.agg #[.bool qa, .slice oa na ka, .slice pa ma ra, .bool qax, .slice oax nax kax, .slice pax max rax]), KEq (.agg #[.bool s9, .slice o9 n9 c9, .slice a9 m9 d9]), KEq (.agg #[.bool s13, .slice o13 n13 c13, .slice a13 m13 d13]), KLst w12.heap.size 2 #[.bool s9, .slice o9 n9 c9, .slice a9 m9 d9, .bool s13, .slice o13 n13 c13, .slice a13 m13 d13] 24, KSp (around2 ((((1 : Int) : Rat)) / ((b).1)) ((((1 : Int) : Rat)) / ((b).2)))]) (fun i => false) (by kernel_rfl) ?hq16 (monoL (monoC (kEq _) (monoC (kEq _) (monoC (kEq _) (monoC (kLst _ _ _ _) (monoC (kSp _) monoN)))))) ?ha16 ?st16 ?tl16
  case hq16 =>
    intro c a d v w h
    first | (simp only [Exit.then] at h ⊢; exact h) | (simp only [Exit.inBlock, Exit.then] at h ⊢; exact h) | exact h
  case ha16 =>
    intro vals
    simp only [putsTo, dstOf, if_true, Act.put, List.setIfInBounds_toArray, List.set_cons_zero, List.set_cons_succ, List.getElem?_toArray, List.getElem?_cons_zero, List.getElem?_cons_succ, Option.bind_some]
    exact rfl
  case st16 =>
    simp only [List.take_succ_cons, List.take_zero]
    refine stepsOK_cons rfl rfl ?_ (stepsOK_cons rfl rfl ?_ (stepsOK_cons rfl rfl ?_ (stepsOK_cons rfl rfl ?_ (stepsOK_cons rfl rfl ?_ (stepsOK_nil)))))
    · intro vals w1 hb hd
      obtain ⟨e0, e1, e2, e3, e4, e5⟩ := row6 (heap_below BX1.out hb)
      refine stepOK_value (v := .agg #[.bool qa, .slice oa na ka, .slice pa ma ra, .bool qax, .slice oax nax kax, .slice pax max rax]) (w' := w1) (by go_simp) (leaves_mk (Below.refl _ _) rfl (fun h => by cases h))
    · intro vals w1 hb hd
      obtain ⟨e0, e1, e2⟩ := row3 (heap_below BX10.out hb)
      refine stepOK_value (v := .agg #[.bool s9, .slice o9 n9 c9, .slice a9 m9 d9]) (w' := w1) (by go_simp) (leaves_mk (Below.refl _ _) rfl (fun h => by cases h))
    · intro vals w1 hb hd
      obtain ⟨e0, e1, e2⟩ := row3 (heap_below BX12.out hb)
      refine stepOK_value (v := .agg #[.bool s13, .slice o13 n13 c13, .slice a13 m13 d13]) (w' := w1) (by go_simp) (leaves_mk (Below.refl _ _) rfl (fun h => by cases h))
    · intro vals w1 hb hd
      have d1 : KEq (.agg #[.bool s9, .slice o9 n9 c9, .slice a9 m9 d9]) (vals 1) w1 := hd 1 (by kernel_rfl)
      have d2 : KEq (.agg #[.bool s13, .slice o13 n13 c13, .slice a13 m13 d13]) (vals 2) w1 := hd 2 (by kernel_rfl)
      rw [show vals 1 = _ from d1]
      rw [show vals 2 = _ from d2]
      refine stepOK_value (v := .slice (some ⟨w1.heap.size, 0, none⟩) 2 2) (w' := w1.alloc (.cells #[.bool s9, .slice o9 n9 c9, .slice a9 m9 d9, .bool s13, .slice o13 n13 c13, .slice a13 m13 d13] 24)) (by go_simp) (leaves_mk ((Below.refl _ _).alloc (Nat.le_refl _) _) ⟨_, hb.size, rfl, heap_alloc_new _ _⟩ (fun h => by cases h))
    · intro vals w1 hb hd
      have d3 : KLst w12.heap.size 2 #[.bool s9, .slice o9 n9 c9, .slice a9 m9 d9, .bool s13, .slice o13 n13 c13, .slice a13 m13 d13] 24 (vals 3) w1 := hd 3 (by kernel_rfl)
      obtain ⟨gL3, _, hvL3, hzL3⟩ := d3
      rw [hvL3]; clear hvL3
      have hs := of2 w1 hzL3 ((N9.out.below hb).is (by omega)) (by omega) ((N11.out.below hb).is (by omega)) (by omega)
      have HS := Lib.hid hs; clear hs
      clear hd
      refine stepOK_call (by go_simp; first | done | exact ⟨⟨rfl, rfl⟩, rfl⟩) ?_
      (with_reducible refine HS.out.mono ?_); rintro e w2 ⟨v, rfl, hb2, hn⟩
      exact ⟨v, rfl, leaves_mk hb2 hn (fun h => by cases h)⟩
  case tl16 =>
    intro vals w13 hb13 hf hdis
    simp only [List.drop_succ_cons, List.drop_zero]
    have z0 : vals 0 = _ := hf 0 (by decide)
    try rw [z0]
    clear z0
    obtain ⟨u16_4, hu4⟩ : ∃ u, u = vals 4 := ⟨_, rfl⟩
    have hn16_4 : IsSp w13 (vals 4) (around2 ((((1 : Int) : Rat)) / ((b).1)) ((((1 : Int) : Rat)) / ((b).2))) := hf 4 (by decide)
    rw [← hu4] at hn16_4 ⊢; clear hu4
    clear hf hdis
    have HB13 := Lib.hid (HB12.out.step hb13)
    have Fa := Lib.hid (Fa.out.below hb13)
    have Fb := Lib.hid (Fb.out.below hb13)
    have N4 := Lib.hid (N4.out.below hb13)
    have N4l := Lib.hid (N4l.out.below hb13)
    have N4h := Lib.hid (N4h.out.below hb13)
    have N7 := Lib.hid (N7.out.below hb13)
    have N9 := Lib.hid (N9.out.below hb13)
    have N11 := Lib.hid (N11.out.below hb13)
    have BX1 := Lib.hid (heap_below BX1.out hb13)
    have BX2 := Lib.hid (heap_below BX2.out hb13)
    have BX3 := Lib.hid (heap_below BX3.out hb13)
    have BX8 := Lib.hid (heap_below BX8.out hb13)
    have BX10 := Lib.hid (heap_below BX10.out hb13)
    have BX12 := Lib.hid (heap_below BX12.out hb13)
    clear hb13
    have N16_4 := Lib.hid hn16_4; clear hn16_4
    obtain ⟨s17, o17, n17, c17, a17, m17, d17, s17x, o17x, n17x, c17x, a17x, m17x, d17x, rfl⟩ := N16_4.out.shape
    have N16_4l := Lib.hid (isSp_ends N16_4.out).1; have N16_4h := Lib.hid (isSp_ends N16_4.out).2
    skip
    obtain ⟨k18, k19⟩ := rl_sMul (a) (around2 ((((1 : Int) : Rat)) / ((b).1)) ((((1 : Int) : Rat)) / ((b).2)))
    have hs := smul_any _ (a) _ (around2 ((((1 : Int) : Rat)) / ((b).1)) ((((1 : Int) : Rat)) / ((b).2))) w13 Fa.out (N16_4.out.is (around2_ok _ _) (by omega) (by omega)) (by omega) (by omega) (by omega) (by omega)
    have HS := Lib.hid hs; clear hs
    go_wp2_with (with_reducible first | refine pauseCall ?_ | refine pauseLoop ?_ | refine pauseDraw ?_ | refine pauseBody ?_ | refine pauseRounds ?_)
    refine Pause.mk ?_
    (with_reducible refine HS.out.mono ?_); rintro e w14 ⟨v14, rfl, hb14, hn14⟩
    clear HS
    have HB14 := Lib.hid (HB13.out.step hb14)
    have Fa := Lib.hid (Fa.out.below hb14)
    have Fb := Lib.hid (Fb.out.below hb14)
    have N4 := Lib.hid (N4.out.below hb14)
    have N4l := Lib.hid (N4l.out.below hb14)
    have N4h := Lib.hid (N4h.out.below hb14)
    have N7 := Lib.hid (N7.out.below hb14)
    have N9 := Lib.hid (N9.out.below hb14)
    have N11 := Lib.hid (N11.out.below hb14)
    have N16_4 := Lib.hid (N16_4.out.below hb14)
    have N16_4l := Lib.hid (N16_4l.out.below hb14)
    have N16_4h := Lib.hid (N16_4h.out.below hb14)
    have BX1 := Lib.hid (heap_below BX1.out hb14)
    have BX2 := Lib.hid (heap_below BX2.out hb14)
    have BX3 := Lib.hid (heap_below BX3.out hb14)
    have BX8 := Lib.hid (heap_below BX8.out hb14)
    have BX10 := Lib.hid (heap_below BX10.out hb14)
    have BX12 := Lib.hid (heap_below BX12.out hb14)
    have N14 := Lib.hid hn14; clear hn14
    obtain ⟨s20, o20, n20, c20, a20, m20, d20, s20x, o20x, n20x, c20x, a20x, m20x, d20x, rfl⟩ := N14.out.shape
    have N14l := Lib.hid (isSp_ends N14.out).1; have N14h := Lib.hid (isSp_ends N14.out).2
    clear hb14
    go_wp2_with (with_reducible refine wpList_pauseS ?_)
    refine wpList_stL g3 0 [.bool s20, .slice o20 n20 c20, .slice a20 m20 d20, .bool s20x, .slice o20x n20x c20x, .slice a20x m20x d20x] BX3.out rfl rfl (Nat.le_of_ble_eq_true rfl) (by kernel_rfl) rfl ?_
    intro w15 hp15
    have Fa := Lib.hid (putL_SS hp15 Fa.out BX3.out noW6)
    have Fb := Lib.hid (putL_SS hp15 Fb.out BX3.out noW6)
    have N4 := Lib.hid (putL_SI hp15 N4.out BX3.out noW6)
    have N4l := Lib.hid (putL_I hp15 N4l.out BX3.out noW6)
    have N4h := Lib.hid (putL_I hp15 N4h.out BX3.out noW6)
    have N7 := Lib.hid (putL_I hp15 N7.out BX3.out noW6)
    have N9 := Lib.hid (putL_I hp15 N9.out BX3.out noW6)
    have N11 := Lib.hid (putL_I hp15 N11.out BX3.out noW6)
    have N16_4 := Lib.hid (putL_SI hp15 N16_4.out BX3.out noW6)
    have N16_4l := Lib.hid (putL_I hp15 N16_4l.out BX3.out noW6)
    have N16_4h := Lib.hid (putL_I hp15 N16_4h.out BX3.out noW6)
    have N14 := Lib.hid (putL_SI hp15 N14.out BX3.out noW6)
    have N14l := Lib.hid (putL_I hp15 N14l.out BX3.out noW6)
    have N14h := Lib.hid (putL_I hp15 N14h.out BX3.out noW6)
    have BX1 := Lib.hid (putLx hp15 BX1.out (by omega))
    have BX2 := Lib.hid (putLx hp15 BX2.out (by omega))
    have BX8 := Lib.hid (putLx hp15 BX8.out (by omega))
    have BX10 := Lib.hid (putLx hp15 BX10.out (by omega))
    have BX12 := Lib.hid (putLx hp15 BX12.out (by omega))
    have nx15 : w15.heap[g3]? = some (.cells #[.bool s20, .slice o20 n20 c20, .slice a20 m20 d20, .bool s20x, .slice o20x n20x c20x, .slice a20x m20x d20x] 26) := by rw [hp15]; exact putL_6 BX3.out
    have BX3 := Lib.hid nx15; clear nx15
    have HB15 := Lib.hid (putLb hp15 HB14.out (by omega))
    clear hp15
    obtain ⟨x21_0, x21_1, x21_2, x21_3, x21_4, x21_5⟩ := row6 BX3.out
    go_wp2_with (with_reducible first | refine pauseCall ?_ | refine pauseLoop ?_ | refine pauseDraw ?_ | refine pauseBody ?_ | refine pauseRounds ?_)
    clear x21_0 x21_1 x21_2 x21_3 x21_4 x21_5
    refine Pause.mk ?_
    refine ret_span2 rfl g3 _ _ _ _ _ _ (by first | rfl | exact rfl) BX3.out rfl ?_
    exact ⟨_, rfl, HB15.out, N14.out⟩
theorem sdiv_any (va : Value) (a : Rat × Rat) (vb : Value) (b : Rat × Rat) (w : World) (ha : SpIs w va a) (hb : SpIs w vb b) (la1 : rl a.1 ≤ 9000) (la2 : rl a.2 ≤ 9000) (lb1 : rl b.1 ≤ 9000) (lb2 : rl b.2 ≤ 9000) :
    Calls Tryd.prog 28 #[va, vb] w (RetSpE w (sdV a b) (errV (sdC b))) := by
  unfold sdV sdC
  by_cases h : inS b 0
  · rw [if_pos h, if_pos h]; exact sdiv_1 va a vb b w ha hb la1 la2 lb1 lb2 h
  · rw [if_neg h, if_neg h]; exact sdiv_2 va a vb b w ha hb la1 la2 lb1 lb2 h
end Go.Proofs.YtaefimegiobkmaaDoor
