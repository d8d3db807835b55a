/-
  The texts Span5c, OpenR, OpenS, Close, one behind the other (what the law leans on).
  Conditions: each theorem's own.
-/
import Derived.Lib.SmallJoins
import Derived.Carry
import Derived.ShutString
import Derived.OpenShut
import Derived.Test.YtaefimegiobkmaaGreatDoorMA8
/-
  span: the part in 0..1: what they hand back.
  Conditions: each theorem's own.
-/
namespace Go.Proofs.YtaefimegiobkmaaGreatDoor
open Go.RowKit Go.ChangeShapes Go.WideShapes

set_option maxRecDepth 100000 in
set_option maxHeartbeats 3200000 in
theorem clip1_raw (vx : Value) (x : Rat) (w : World) (hx : RatIs w vx x) (lx : rl x ≤ 39000) :
    Calls Tryz.prog 66 #[vx] w (RetR w (mx (0) (mn (x) (((1 : Int) : Rat))))) := by
  have HBW := Lib.hid (Below.refl w.heap.size w)
  have kz0 : rl 0 ≤ 1 := by rw [rl_zero]; exact Nat.le_refl _
  obtain ⟨sx, ox, nx, cx, ax, mx, dx, rfl⟩ := hx.shape
  have hlx := hx.rl
  have Fx := Lib.hid hx; clear hx
  obtain ⟨w1, hw1⟩ : ∃ w1, w1 = w.alloc (.cells #[.bool sx, .slice ox nx cx, .slice ax mx dx] 24) := ⟨_, rfl⟩
  have hb1 : Below w.heap.size w w1 := by rw [hw1]; exact (Below.refl _ _).alloc (Nat.le_refl _) _
  have hx1 := heap_alloc_new w (.cells #[.bool sx, .slice ox nx cx, .slice ax mx dx] 24)
  obtain ⟨g1, hg1⟩ : ∃ g, g = w.heap.size := ⟨_, rfl⟩
  rw [← hw1, ← hg1] at hx1
  have lw1 : w.heap.size ≤ g1 := by rw [hg1]; exact HBW.out.size
  have HW1 := Lib.hid hw1; have HG1 := Lib.hid hg1; clear hw1 hg1
  have HB1 := Lib.hid (HBW.out.step hb1)
  have Fx := Lib.hid (Fx.out.below hb1)
  have BX1 := Lib.hid hx1; clear hb1 hx1
  obtain ⟨w2, hw2⟩ : ∃ w2, w2 = w1.alloc (.cells #[.bool false, .slice none 0 0, .slice none 0 0] 24) := ⟨_, rfl⟩
  have hb2 : Below w1.heap.size w1 w2 := by rw [hw2]; exact (Below.refl _ _).alloc (Nat.le_refl _) _
  have hx2 := heap_alloc_new w1 (.cells #[.bool false, .slice none 0 0, .slice none 0 0] 24)
  obtain ⟨g2, hg2⟩ : ∃ g, g = w1.heap.size := ⟨_, rfl⟩
  rw [← hw2, ← hg2] at hx2
  have lw2 : w.heap.size ≤ g2 := by rw [hg2]; exact HB1.out.size
  have ltBX12 : g1 < g2 := by rw [hg2]; exact below_lt BX1.out
  have hs2 : g2 = w.heap.size + 1 := by rw [hg2, HW1.out]; simp
  have HS2 := Lib.hid hs2; clear hs2
  have HW2 := Lib.hid hw2; have HG2 := Lib.hid hg2; clear hw2 hg2
  have HB2 := Lib.hid (HB1.out.step hb2)
  have Fx := Lib.hid (Fx.out.below hb2)
  have BX1 := Lib.hid (heap_below BX1.out hb2)
  have BX2 := Lib.hid hx2; clear hb2 hx2
  go_enter Tryz.func66, Tryz.ntmps66
  go_wp2_with (with_reducible first | refine pauseCall ?_ | refine pauseLoop ?_ | refine pauseDraw ?_ | refine pauseBody ?_ | refine pauseRounds ?_)
  try rw [← HW1.out]
  try rw [← HW2.out]
  try rw [← HS2.out]
  try rw [← HG1.out]
  try rw [← HG2.out]
  refine Pause.mk ?_
  have k1 : rl ((1 : Int) : Rat) ≤ 2 := rl_small (by decide) (by decide)
  refine wp_region_facts (A := ?aa2) (w := w2) 3 [0] (by kernel_rfl) (Fl [KEq (.agg #[.bool false, .slice none 0 0, .slice none 0 0]), KEq (.agg #[.bool sx, .slice ox nx cx, .slice ax mx dx]), KIs (((1 : Int) : Rat))]) (fun i => false) (by kernel_rfl) ?hq2 (monoL (monoC (kEq _) (monoC (kEq _) (monoC (kIs _) monoN)))) ?ha2 ?st2 ?tl2
  case hq2 =>
    intro c a d v w h
    first | (simp only [Exit.then] at h ⊢; exact h) | (simp only [Exit.inBlock, Exit.then] at h ⊢; exact h) | exact h
  case ha2 =>
    intro vals
    simp only [putsTo, dstOf, if_true, Act.put, List.setIfInBounds_toArray, List.set_cons_zero, List.set_cons_succ, List.getElem?_toArray, List.getElem?_cons_zero, List.getElem?_cons_succ, Option.bind_some]
    exact rfl
  case st2 =>
    simp only [List.take_succ_cons, List.take_zero]
    refine stepsOK_pure rfl ?_ (stepsOK_cons rfl rfl ?_ (stepsOK_cons rfl rfl ?_ (stepsOK_nil)))
    · intro vals w1 hb hd
      refine stepPure_value (v := (.agg #[.bool false, .slice none 0 0, .slice none 0 0])) (fun w => by go_simp) (leaves_mk (Below.refl _ _) rfl (fun h => by cases h))
    · intro vals w1 hb hd
      obtain ⟨e0, e1, e2⟩ := row3 (heap_below BX1.out hb)
      refine stepOK_value (v := .agg #[.bool sx, .slice ox nx cx, .slice ax mx dx]) (w' := w1) (by go_simp) (leaves_mk (Below.refl _ _) rfl (fun h => by cases h))
    · intro vals w1 hb hd
      have hs := ofq_any 1 w1 (by decide) (by decide)
      have HS := Lib.hid hs; clear hs
      clear hd
      refine stepOK_call (by go_simp; first | done | exact ⟨⟨rfl, rfl⟩, rfl⟩) ?_
      (with_reducible refine HS.out.mono ?_); rintro e w2 ⟨v, rfl, hb2, hn⟩
      exact ⟨v, rfl, leaves_mk hb2 hn (fun h => by cases h)⟩
  case tl2 =>
    intro vals w3 hb3 hf hdis
    simp only [List.drop_succ_cons, List.drop_zero]
    have z0 : vals 0 = _ := hf 0 (by decide)
    try rw [z0]
    clear z0
    have z1 : vals 1 = _ := hf 1 (by decide)
    try rw [z1]
    clear z1
    obtain ⟨u2_2, hu2⟩ : ∃ u, u = vals 2 := ⟨_, rfl⟩
    have hn2_2 : IsR w3 (vals 2) (((1 : Int) : Rat)) := hf 2 (by decide)
    rw [← hu2] at hn2_2 ⊢; clear hu2
    clear hf hdis
    have HB3 := Lib.hid (HB2.out.step hb3)
    have Fx := Lib.hid (Fx.out.below hb3)
    have BX1 := Lib.hid (heap_below BX1.out hb3)
    have BX2 := Lib.hid (heap_below BX2.out hb3)
    clear hb3
    have N2_2 := Lib.hid hn2_2; clear hn2_2
    obtain ⟨s3, o3, n3, c3, a3, m3, d3, rfl⟩ := N2_2.out.shape
    skip
    have k4 := rl_mn (x) (((1 : Int) : Rat))
    have hs := minq_any _ (x) _ (((1 : Int) : Rat)) w3 Fx.out (N2_2.out.is (by omega)) (by omega) (by omega)
    have HS := Lib.hid hs; clear hs
    go_wp2_with (with_reducible first | refine pauseCall ?_ | refine pauseLoop ?_ | refine pauseDraw ?_ | refine pauseBody ?_ | refine pauseRounds ?_)
    refine Pause.mk ?_
    (with_reducible refine HS.out.mono ?_); rintro e w4 ⟨v4, rfl, hb4, hn4⟩
    clear HS
    have HB4 := Lib.hid (HB3.out.step hb4)
    have Fx := Lib.hid (Fx.out.below hb4)
    have N2_2 := Lib.hid (N2_2.out.below hb4)
    have BX1 := Lib.hid (heap_below BX1.out hb4)
    have BX2 := Lib.hid (heap_below BX2.out hb4)
    have N4 := Lib.hid hn4; clear hn4
    obtain ⟨s5, o5, n5, c5, a5, m5, d5, rfl⟩ := N4.out.shape
    clear hb4
    have k6 := rl_mx (0) (mn (x) (((1 : Int) : Rat)))
    have hs := maxq_any _ (0) _ (mn (x) (((1 : Int) : Rat))) w4 ((isR_zero _).is (by rw [rl_zero]; decide)) (N4.out.is (by omega)) (by omega) (by omega)
    have HS := Lib.hid hs; clear hs
    go_wp2_with (with_reducible first | refine pauseCall ?_ | refine pauseLoop ?_ | refine pauseDraw ?_ | refine pauseBody ?_ | refine pauseRounds ?_)
    refine Pause.mk ?_
    (with_reducible refine HS.out.mono ?_); rintro e w5 ⟨v5, rfl, hb5, hn5⟩
    clear HS
    have HB5 := Lib.hid (HB4.out.step hb5)
    have Fx := Lib.hid (Fx.out.below hb5)
    have N2_2 := Lib.hid (N2_2.out.below hb5)
    have N4 := Lib.hid (N4.out.below hb5)
    have BX1 := Lib.hid (heap_below BX1.out hb5)
    have BX2 := Lib.hid (heap_below BX2.out hb5)
    have N5 := Lib.hid hn5; clear hn5
    obtain ⟨s7, o7, n7, c7, a7, m7, d7, rfl⟩ := N5.out.shape
    clear hb5
    go_wp2_with (with_reducible refine wpList_pauseS ?_)
    refine wpList_stL g2 0 [.bool s7, .slice o7 n7 c7, .slice a7 m7 d7] BX2.out rfl rfl (Nat.le_of_ble_eq_true rfl) (by kernel_rfl) rfl ?_
    intro w6 hp6
    have Fx := Lib.hid (putL_R hp6 Fx.out BX2.out noW3)
    have N2_2 := Lib.hid (putL_I hp6 N2_2.out BX2.out noW3)
    have N4 := Lib.hid (putL_I hp6 N4.out BX2.out noW3)
    have N5 := Lib.hid (putL_I hp6 N5.out BX2.out noW3)
    have BX1 := Lib.hid (putLx hp6 BX1.out (by omega))
    have nx6 : w6.heap[g2]? = some (.cells #[.bool s7, .slice o7 n7 c7, .slice a7 m7 d7] 24) := by rw [hp6]; exact putL_r BX2.out
    have BX2 := Lib.hid nx6; clear nx6
    have HB6 := Lib.hid (putLb hp6 HB5.out (by omega))
    clear hp6
    obtain ⟨x8_0, x8_1, x8_2⟩ := row3 BX2.out
    go_wp2_with (with_reducible first | refine pauseCall ?_ | refine pauseLoop ?_ | refine pauseDraw ?_ | refine pauseBody ?_ | refine pauseRounds ?_)
    clear x8_0 x8_1 x8_2
    refine Pause.mk ?_
    refine ret_rat rfl g2 _ _ _ (by first | rfl | exact rfl) BX2.out rfl ?_
    exact ⟨_, rfl, HB6.out, N5.out⟩
theorem clip1_any (vx : Value) (x : Rat) (w : World) (hx : RatIs w vx x) (lx : rl x ≤ 39000) : Calls Tryz.prog 66 #[vx] w (RetR w (clip x)) := clip1_raw vx x w hx lx
set_option maxRecDepth 100000 in
set_option maxHeartbeats 3200000 in
theorem sclip_raw (va : Value) (a : Rat × Rat) (w : World) (ha : SpIs w va a) (la1 : rl a.1 ≤ 38000) (la2 : rl a.2 ≤ 38000) :
    Calls Tryz.prog 34 #[va] w (RetSp w (around2 (clip ((a).1)) (clip ((a).2)))) := by
  have HBW := Lib.hid (Below.refl w.heap.size w)
  have kz0 : rl 0 ≤ 1 := by rw [rl_zero]; exact Nat.le_refl _
  obtain ⟨qa, oa, na, ka, pa, ma, ra, qax, oax, nax, kax, pax, max, rax, rfl⟩ := ha.shape
  have hla := ha.rl; have hoa := ha.ok; obtain ⟨hlaa, hlab⟩ := hla
  have hoa := Lib.hid hoa
  have Fa := Lib.hid ha; clear ha
  obtain ⟨w1, hw1⟩ : ∃ w1, w1 = w.alloc (.cells #[.bool qa, .slice oa na ka, .slice pa ma ra, .bool qax, .slice oax nax kax, .slice pax max rax] 26) := ⟨_, rfl⟩
  have hb1 : Below w.heap.size w w1 := by rw [hw1]; exact (Below.refl _ _).alloc (Nat.le_refl _) _
  have hx1 := heap_alloc_new w (.cells #[.bool qa, .slice oa na ka, .slice pa ma ra, .bool qax, .slice oax nax kax, .slice pax max rax] 26)
  obtain ⟨g1, hg1⟩ : ∃ g, g = w.heap.size := ⟨_, rfl⟩
  rw [← hw1, ← hg1] at hx1
  have lw1 : w.heap.size ≤ g1 := by rw [hg1]; exact HBW.out.size
  have HW1 := Lib.hid hw1; have HG1 := Lib.hid hg1; clear hw1 hg1
  have HB1 := Lib.hid (HBW.out.step hb1)
  have Fa := Lib.hid (Fa.out.below hb1)
  have BX1 := Lib.hid hx1; clear hb1 hx1
  obtain ⟨w2, hw2⟩ : ∃ w2, w2 = w1.alloc (.cells #[.bool false, .slice none 0 0, .slice none 0 0, .bool false, .slice none 0 0, .slice none 0 0] 26) := ⟨_, rfl⟩
  have hb2 : Below w1.heap.size w1 w2 := by rw [hw2]; exact (Below.refl _ _).alloc (Nat.le_refl _) _
  have hx2 := heap_alloc_new w1 (.cells #[.bool false, .slice none 0 0, .slice none 0 0, .bool false, .slice none 0 0, .slice none 0 0] 26)
  obtain ⟨g2, hg2⟩ : ∃ g, g = w1.heap.size := ⟨_, rfl⟩
  rw [← hw2, ← hg2] at hx2
  have lw2 : w.heap.size ≤ g2 := by rw [hg2]; exact HB1.out.size
  have ltBX12 : g1 < g2 := by rw [hg2]; exact below_lt BX1.out
  have hs2 : g2 = w.heap.size + 1 := by rw [hg2, HW1.out]; simp
  have HS2 := Lib.hid hs2; clear hs2
  have HW2 := Lib.hid hw2; have HG2 := Lib.hid hg2; clear hw2 hg2
  have HB2 := Lib.hid (HB1.out.step hb2)
  have Fa := Lib.hid (Fa.out.below hb2)
  have BX1 := Lib.hid (heap_below BX1.out hb2)
  have BX2 := Lib.hid hx2; clear hb2 hx2
  go_enter Tryz.func34, Tryz.ntmps34
  obtain ⟨x1_0, x1_1, x1_2, x1_3, x1_4, x1_5⟩ := row6 BX1.out
  have hs := norm_any _ (a) w2 Fa.out
  have HS := Lib.hid hs; clear hs
  try rw [HW2.out] at x1_0
  try rw [HG2.out] at x1_0
  try rw [HW1.out] at x1_0
  try rw [HG1.out] at x1_0
  try rw [HW2.out] at x1_1
  try rw [HG2.out] at x1_1
  try rw [HW1.out] at x1_1
  try rw [HG1.out] at x1_1
  try rw [HW2.out] at x1_2
  try rw [HG2.out] at x1_2
  try rw [HW1.out] at x1_2
  try rw [HG1.out] at x1_2
  try rw [HW2.out] at x1_3
  try rw [HG2.out] at x1_3
  try rw [HW1.out] at x1_3
  try rw [HG1.out] at x1_3
  try rw [HW2.out] at x1_4
  try rw [HG2.out] at x1_4
  try rw [HW1.out] at x1_4
  try rw [HG1.out] at x1_4
  try rw [HW2.out] at x1_5
  try rw [HG2.out] at x1_5
  try rw [HW1.out] at x1_5
  try rw [HG1.out] at x1_5
  go_wp2_with (with_reducible first | refine pauseCall ?_ | refine pauseLoop ?_ | refine pauseDraw ?_ | refine pauseBody ?_ | refine pauseRounds ?_)
  try rw [← HW1.out]
  try rw [← HW2.out]
  try rw [← HS2.out]
  try rw [← HG1.out]
  try rw [← HG2.out]
  clear x1_0 x1_1 x1_2 x1_3 x1_4 x1_5
  refine Pause.mk ?_
  (with_reducible refine HS.out.mono ?_); rintro e w3 ⟨v3, rfl, hb3, hn3⟩
  clear HS
  have HB3 := Lib.hid (HB2.out.step hb3)
  have Fa := Lib.hid (Fa.out.below hb3)
  have BX1 := Lib.hid (heap_below BX1.out hb3)
  have BX2 := Lib.hid (heap_below BX2.out hb3)
  have N3 := Lib.hid hn3; clear hn3
  obtain ⟨s2, o2, n2, c2, a2, m2, d2, s2x, o2x, n2x, c2x, a2x, m2x, d2x, rfl⟩ := N3.out.shape
  have N3l := Lib.hid (isSp_ends N3.out).1; have N3h := Lib.hid (isSp_ends N3.out).2
  clear hb3
  go_wp2_with (with_reducible refine wpList_pauseS ?_)
  refine wpList_stL g1 0 [.bool s2, .slice o2 n2 c2, .slice a2 m2 d2, .bool s2x, .slice o2x n2x c2x, .slice a2x m2x d2x] BX1.out rfl rfl (Nat.le_of_ble_eq_true rfl) (by kernel_rfl) rfl ?_
  intro w4 hp4
  have Fa := Lib.hid (putL_SS hp4 Fa.out BX1.out noW6)
  have N3 := Lib.hid (putL_SI hp4 N3.out BX1.out noW6)
  have N3l := Lib.hid (putL_I hp4 N3l.out BX1.out noW6)
  have N3h := Lib.hid (putL_I hp4 N3h.out BX1.out noW6)
  have BX2 := Lib.hid (putLx hp4 BX2.out (by omega))
  have nx4 : w4.heap[g1]? = some (.cells #[.bool s2, .slice o2 n2 c2, .slice a2 m2 d2, .bool s2x, .slice o2x n2x c2x, .slice a2x m2x d2x] 26) := by rw [hp4]; exact putL_6 BX1.out
  have BX1 := Lib.hid nx4; clear nx4
  have HB4 := Lib.hid (putLb hp4 HB3.out (by omega))
  clear hp4
  go_wp2_with (with_reducible first | refine pauseCall ?_ | refine pauseLoop ?_ | refine pauseDraw ?_ | refine pauseBody ?_ | refine pauseRounds ?_)
  refine Pause.mk ?_
  have k3 := rl_clip ((a).1)
  refine wp_region_facts (A := ?aa4) (w := w4) 7 [] (by kernel_rfl) (Fl [KEq (.func (.func 66) #[] #[]), KEq (.pointer (some ⟨g1, 0, none⟩)), KEq (.agg #[.bool s2, .slice o2 n2 c2, .slice a2 m2 d2]), KIs (clip ((a).1)), KEq (.func (.func 66) #[] #[]), KEq (.pointer (some ⟨g1, 3, none⟩)), KEq (.agg #[.bool s2x, .slice o2x n2x c2x, .slice a2x m2x d2x])]) (fun i => false) (by kernel_rfl) ?hq4 (monoL (monoC (kEq _) (monoC (kEq _) (monoC (kEq _) (monoC (kIs _) (monoC (kEq _) (monoC (kEq _) (monoC (kEq _) monoN)))))))) ?ha4 ?st4 ?tl4
  case hq4 =>
    intro c a d v w h
    first | (simp only [Exit.then] at h ⊢; exact h) | (simp only [Exit.inBlock, Exit.then] at h ⊢; exact h) | exact h
  case ha4 =>
    intro vals
    simp only [putsTo, dstOf, if_true, Act.put, List.setIfInBounds_toArray, List.set_cons_zero, List.set_cons_succ, List.getElem?_toArray, List.getElem?_cons_zero, List.getElem?_cons_succ, Option.bind_some]
    exact rfl
  case st4 =>
    simp only [List.take_succ_cons, List.take_zero]
    refine stepsOK_cons rfl rfl ?_ (stepsOK_cons rfl rfl ?_ (stepsOK_cons rfl rfl ?_ (stepsOK_cons rfl rfl ?_ (stepsOK_cons rfl rfl ?_ (stepsOK_cons rfl rfl ?_ (stepsOK_cons rfl rfl ?_ (stepsOK_nil)))))))
    · intro vals w1 hb hd
      refine stepOK_value (v := (.func (.func 66) #[] #[])) (w' := w1) (by go_simp) (leaves_mk (Below.refl _ _) rfl (fun h => by cases h))
    · intro vals w1 hb hd
      refine stepOK_value (v := (.pointer (some ⟨g1, 0, none⟩))) (w' := w1) (by go_simp) (leaves_mk (Below.refl _ _) rfl (fun h => by cases h))
    · intro vals w1 hb hd
      have d1 : KEq (.pointer (some ⟨g1, 0, none⟩)) (vals 1) w1 := hd 1 (by kernel_rfl)
      rw [show vals 1 = _ from d1]
      obtain ⟨e0, e1, e2, e3, e4, e5⟩ := row6 (heap_below BX1.out hb)
      refine stepOK_value (v := .agg #[.bool s2, .slice o2 n2 c2, .slice a2 m2 d2]) (w' := w1) (by go_simp) (leaves_mk (Below.refl _ _) rfl (fun h => by cases h))
    · intro vals w1 hb hd
      have d0 : KEq (.func (.func 66) #[] #[]) (vals 0) w1 := hd 0 (by kernel_rfl)
      have d2 : KEq (.agg #[.bool s2, .slice o2 n2 c2, .slice a2 m2 d2]) (vals 2) w1 := hd 2 (by kernel_rfl)
      have z0 : vals 0 = _ := d0
      have z2 : vals 2 = _ := d2
      have hs := clip1_any _ ((a).1) w1 ((N3l.out.below hb).is (by omega)) (by omega)
      have HS := Lib.hid hs; clear hs
      rw [z0]; clear z0
      rw [z2]; clear z2
      clear d0 d2 hd
      refine stepOK_call (by go_simp; first | done | exact ⟨⟨rfl, rfl⟩, rfl⟩) ?_
      (with_reducible refine HS.out.mono ?_); rintro e w2 ⟨v, rfl, hb2, hn⟩
      exact ⟨v, rfl, leaves_mk hb2 hn (fun h => by cases h)⟩
    · intro vals w1 hb hd
      refine stepOK_value (v := (.func (.func 66) #[] #[])) (w' := w1) (by go_simp) (leaves_mk (Below.refl _ _) rfl (fun h => by cases h))
    · intro vals w1 hb hd
      refine stepOK_value (v := (.pointer (some ⟨g1, 3, none⟩))) (w' := w1) (by go_simp) (leaves_mk (Below.refl _ _) rfl (fun h => by cases h))
    · intro vals w1 hb hd
      have d5 : KEq (.pointer (some ⟨g1, 3, none⟩)) (vals 5) w1 := hd 5 (by kernel_rfl)
      rw [show vals 5 = _ from d5]
      obtain ⟨e0, e1, e2, e3, e4, e5⟩ := row6 (heap_below BX1.out hb)
      refine stepOK_value (v := .agg #[.bool s2x, .slice o2x n2x c2x, .slice a2x m2x d2x]) (w' := w1) (by go_simp) (leaves_mk (Below.refl _ _) rfl (fun h => by cases h))
  case tl4 =>
    intro vals w5 hb5 hf hdis
    simp only [List.drop_succ_cons, List.drop_zero]
    obtain ⟨u4_3, hu3⟩ : ∃ u, u = vals 3 := ⟨_, rfl⟩
    have hn4_3 : IsR w5 (vals 3) (clip ((a).1)) := hf 3 (by decide)
    rw [← hu3] at hn4_3 ⊢; clear hu3
    have z4 : vals 4 = _ := hf 4 (by decide)
    try rw [z4]
    clear z4
    have z6 : vals 6 = _ := hf 6 (by decide)
    try rw [z6]
    clear z6
    clear hf hdis
    have HB5 := Lib.hid (HB4.out.step hb5)
    have Fa := Lib.hid (Fa.out.below hb5)
    have N3 := Lib.hid (N3.out.below hb5)
    have N3l := Lib.hid (N3l.out.below hb5)
    have N3h := Lib.hid (N3h.out.below hb5)
    have BX1 := Lib.hid (heap_below BX1.out hb5)
    have BX2 := Lib.hid (heap_below BX2.out hb5)
    clear hb5
    have N4_3 := Lib.hid hn4_3; clear hn4_3
    obtain ⟨s5, o5, n5, c5, a5, m5, d5, rfl⟩ := N4_3.out.shape
    skip
    have k6 := rl_clip ((a).2)
    have hs := clip1_any _ ((a).2) w5 (N3h.out.is (by omega)) (by omega)
    have HS := Lib.hid hs; clear hs
    go_wp2_with (with_reducible first | refine pauseCall ?_ | refine pauseLoop ?_ | refine pauseDraw ?_ | refine pauseBody ?_ | refine pauseRounds ?_)
    refine Pause.mk ?_
    (with_reducible refine HS.out.mono ?_); rintro e w6 ⟨v6, rfl, hb6, hn6⟩
    clear HS
    have HB6 := Lib.hid (HB5.out.step hb6)
    have Fa := Lib.hid (Fa.out.below hb6)
    have N3 := Lib.hid (N3.out.below hb6)
    have N3l := Lib.hid (N3l.out.below hb6)
    have N3h := Lib.hid (N3h.out.below hb6)
    have N4_3 := Lib.hid (N4_3.out.below hb6)
    have BX1 := Lib.hid (heap_below BX1.out hb6)
    have BX2 := Lib.hid (heap_below BX2.out hb6)
    have N6 := Lib.hid hn6; clear hn6
    obtain ⟨s7, o7, n7, c7, a7, m7, d7, rfl⟩ := N6.out.shape
    clear hb6
    obtain ⟨w7, hw7⟩ : ∃ w7, w7 = w6.alloc (.cells #[.bool s5, .slice o5 n5 c5, .slice a5 m5 d5, .bool s7, .slice o7 n7 c7, .slice a7 m7 d7] 24) := ⟨_, rfl⟩
    have hb7 : Below w6.heap.size w6 w7 := by rw [hw7]; exact (Below.refl _ _).alloc (Nat.le_refl _) _
    have hx7 := heap_alloc_new w6 (.cells #[.bool s5, .slice o5 n5 c5, .slice a5 m5 d5, .bool s7, .slice o7 n7 c7, .slice a7 m7 d7] 24)
    obtain ⟨g7, hg7⟩ : ∃ g, g = w6.heap.size := ⟨_, rfl⟩
    rw [← hw7, ← hg7] at hx7
    have lw7 : w.heap.size ≤ g7 := by rw [hg7]; exact HB6.out.size
    have ltBX17 : g1 < g7 := by rw [hg7]; exact below_lt BX1.out
    have ltBX27 : g2 < g7 := by rw [hg7]; exact below_lt BX2.out
    have HW7 := Lib.hid hw7; have HG7 := Lib.hid hg7; clear hw7 hg7
    have HB7 := Lib.hid (HB6.out.step hb7)
    have Fa := Lib.hid (Fa.out.below hb7)
    have N3 := Lib.hid (N3.out.below hb7)
    have N3l := Lib.hid (N3l.out.below hb7)
    have N3h := Lib.hid (N3h.out.below hb7)
    have N4_3 := Lib.hid (N4_3.out.below hb7)
    have N6 := Lib.hid (N6.out.below hb7)
    have BX1 := Lib.hid (heap_below BX1.out hb7)
    have BX2 := Lib.hid (heap_below BX2.out hb7)
    have BX7 := Lib.hid hx7; clear hb7 hx7
    obtain ⟨k8, k9⟩ := rl_around2 (clip ((a).1)) (clip ((a).2))
    have hs := of2 w7 BX7.out (N4_3.out.is (by omega)) (by omega) (N6.out.is (by omega)) (by omega)
    have HS := Lib.hid hs; clear hs
    go_wp2_with (with_reducible first | refine pauseCall ?_ | refine pauseLoop ?_ | refine pauseDraw ?_ | refine pauseBody ?_ | refine pauseRounds ?_)
    try rw [← HW7.out]
    try rw [← HG7.out]
    refine Pause.mk ?_
    (with_reducible refine HS.out.mono ?_); rintro e w8 ⟨v8, rfl, hb8, hn8⟩
    clear HS
    have HB8 := Lib.hid (HB7.out.step hb8)
    have Fa := Lib.hid (Fa.out.below hb8)
    have N3 := Lib.hid (N3.out.below hb8)
    have N3l := Lib.hid (N3l.out.below hb8)
    have N3h := Lib.hid (N3h.out.below hb8)
    have N4_3 := Lib.hid (N4_3.out.below hb8)
    have N6 := Lib.hid (N6.out.below hb8)
    have BX1 := Lib.hid (heap_below BX1.out hb8)
    have BX2 := Lib.hid (heap_below BX2.out hb8)
    have BX7 := Lib.hid (heap_below BX7.out hb8)
    clear BX7
    have N8 := Lib.hid hn8; clear hn8
    obtain ⟨s10, o10, n10, c10, a10, m10, d10, s10x, o10x, n10x, c10x, a10x, m10x, d10x, rfl⟩ := N8.out.shape
    have N8l := Lib.hid (isSp_ends N8.out).1; have N8h := Lib.hid (isSp_ends N8.out).2
    clear hb8
    go_wp2_with (with_reducible refine wpList_pauseS ?_)
    refine wpList_stL g2 0 [.bool s10, .slice o10 n10 c10, .slice a10 m10 d10, .bool s10x, .slice o10x n10x c10x, .slice a10x m10x d10x] BX2.out rfl rfl (Nat.le_of_ble_eq_true rfl) (by kernel_rfl) rfl ?_
    intro w9 hp9
    have Fa := Lib.hid (putL_SS hp9 Fa.out BX2.out noW6)
    have N3 := Lib.hid (putL_SI hp9 N3.out BX2.out noW6)
    have N3l := Lib.hid (putL_I hp9 N3l.out BX2.out noW6)
    have N3h := Lib.hid (putL_I hp9 N3h.out BX2.out noW6)
    have N4_3 := Lib.hid (putL_I hp9 N4_3.out BX2.out noW6)
    have N6 := Lib.hid (putL_I hp9 N6.out BX2.out noW6)
    have N8 := Lib.hid (putL_SI hp9 N8.out BX2.out noW6)
    have N8l := Lib.hid (putL_I hp9 N8l.out BX2.out noW6)
    have N8h := Lib.hid (putL_I hp9 N8h.out BX2.out noW6)
    have BX1 := Lib.hid (putLx hp9 BX1.out (by omega))
    have nx9 : w9.heap[g2]? = some (.cells #[.bool s10, .slice o10 n10 c10, .slice a10 m10 d10, .bool s10x, .slice o10x n10x c10x, .slice a10x m10x d10x] 26) := by rw [hp9]; exact putL_6 BX2.out
    have BX2 := Lib.hid nx9; clear nx9
    have HB9 := Lib.hid (putLb hp9 HB8.out (by omega))
    clear hp9
    obtain ⟨x11_0, x11_1, x11_2, x11_3, x11_4, x11_5⟩ := row6 BX2.out
    go_wp2_with (with_reducible first | refine pauseCall ?_ | refine pauseLoop ?_ | refine pauseDraw ?_ | refine pauseBody ?_ | refine pauseRounds ?_)
    clear x11_0 x11_1 x11_2 x11_3 x11_4 x11_5
    refine Pause.mk ?_
    refine ret_span rfl g2 _ _ _ _ _ _ (by first | rfl | exact rfl) BX2.out rfl ?_
    exact ⟨_, rfl, HB9.out, N8.out⟩
theorem sclip_any (va : Value) (a : Rat × Rat) (w : World) (ha : SpIs w va a) (la1 : rl a.1 ≤ 38000) (la2 : rl a.2 ≤ 38000) :
    Calls Tryz.prog 34 #[va] w (RetSp w (sClip a)) := by
  have h := sclip_raw va a w ha la1 la2
  rw [clip_around ha.ok] at h; exact h
end Go.Proofs.YtaefimegiobkmaaGreatDoor
/-
  Arguments that are fractions.
  Conditions: none beyond each theorem's own.
-/
namespace Go.Proofs.YtaefimegiobkmaaGreatDoor
open Go.RowKit Go.ChangeShapes Go.WideShapes

/-- a field that is a slice of words -/
theorem open_words_cell {H : Type} {enc : TypeId × Value → H} {P : Program} {W : World} {t e : TypeId} {v : Value} {x : DataW H × List MemPlace} {fuel : Nat} (ht : P.underlying t = some (.slice e)) (he : P.underlying e = some (.int .u32)) (hc : P.cellsOf e = 1)
    (hf : DataW.trod enc P W 0 (fun _ => true) true fuel t [v] = some x) : ∃ l : List Nat, Num W v l := by
  rcases open_ints ht he hc hf with ⟨hcs, hx⟩ | ⟨a, len', cap', zs, hcs, _, hl, hm, hz, hx, hcell, hwz⟩
  · have hcs' : v = .slice none 0 0 := by simpa using hcs
    rw [hcs']; exact ⟨[], Num.nil W⟩
  · have hcs' : v = .slice (some a) len' cap' := by simpa using hcs
    rw [hcs']
    have hz' : len' ≤ zs.length := by rw [hz]; simp; exact hl
    have hgd : ∀ j, j < len' → gd ((zs.take len').map Int.toNat) j = (zs.getD j 0).toNat := fun j hj => by
      simp [gd, List.getD_eq_getElem?_getD, hj, show j < zs.length by omega]
    have hwf : ∀ j, j < zs.length → 0 ≤ zs.getD j 0 ∧ zs.getD j 0 < 4294967296 := fun j hj => by
      have hmem : zs.getD j 0 ∈ zs := by rw [List.getD_eq_getElem?_getD, List.getElem?_eq_getElem hj]; exact List.getElem_mem hj
      have := hwz _ hmem
      simp only [Lit.wf, Bool.and_eq_true, decide_eq_true_eq] at this
      have h1 : IntKind.u32.min = 0 := by decide
      have h2 : IntKind.u32.max = 4294967296 - 1 := by decide
      rw [h1, h2] at this; omega
    have hlen : ((zs.take len').map Int.toNat).length = len' := by rw [List.length_map, List.length_take]; omega
    refine ⟨(zs.take len').map Int.toNat, some a, cap', by rw [hlen], by omega, by unfold maxLen at hm; omega, by simp, ?_, ?_⟩
    · intro b off s hs
      obtain rfl : a = ⟨b, off, s⟩ := Option.some.inj hs
      have h0 : 0 < len' → b < W.heap.size ∧ s = none := fun h0 => by
        have := hcell 0 (by omega)
        have e0 : (⟨b, off, s⟩ : Addr).add 0 = ⟨b, off, s⟩ := by simp [Addr.add]
        rw [e0] at this
        refine ⟨World.block_lt_of_cell? W _ this, ?_⟩
        cases s with
        | none => rfl
        | some x =>
          unfold World.cell? at this
          split at this <;> simp at this
      refine ⟨fun hh => h0 (by omega), fun j hj => ?_⟩
      rw [hlen] at hj
      obtain ⟨_, rfl⟩ := h0 (by omega)
      have := hcell j (by omega)
      have e2 : (⟨b, off, none⟩ : Addr).add j = ⟨b, off + j, none⟩ := by unfold Addr.add; split <;> simp_all
      rw [e2] at this
      rw [this, hgd j hj]
      have := hwf j (by omega)
      congr 2; omega
    · intro j
      by_cases hj : j < len'
      · rw [hgd j hj]; have := hwf j (by omega); omega
      · rw [gd_over _ _ (by omega)]; omega

set_option maxRecDepth 100000 in
set_option maxHeartbeats 1600000 in
theorem open_rat {H : Type} {enc : TypeId × Value → H} {W : World} {v : Value} {d : DataW H} {p : List MemPlace} {base : Nat}
    (hv : Value.okWide Tryz.prog W .any base 24 v) (h : DataW.Trod enc Tryz.prog W 0 (fun _ => true) true 24 v d p) : ∃ s a b, RatV W v s a b := by
  obtain ⟨v0, v1, v2, y0, y1, y2, n, rfl, _, _, h0, h1, h2⟩ := Go.Joins.open_agg3 Tryz.underlying24 (by kernel_rfl) (by kernel_rfl) hv h
  obtain ⟨b', k0, _⟩ := DataW.trod_bool Tryz.underlying4 h0
  have e0 : v0 = .bool b' := by simpa using k0
  obtain ⟨a, ha⟩ := open_words_cell Tryz.underlying22 Tryz.underlying76 (by kernel_rfl) h1
  obtain ⟨b, hb⟩ := open_words_cell Tryz.underlying22 Tryz.underlying76 (by kernel_rfl) h2
  exact ⟨b', a, b, v1, v2, by rw [e0], ha, hb⟩
end Go.Proofs.YtaefimegiobkmaaGreatDoor
/-
  Arguments that are intervals.
  Conditions: none beyond each theorem's own.
-/
namespace Go.Proofs.YtaefimegiobkmaaGreatDoor
open Go.RowKit Go.ChangeShapes Go.WideShapes Go.Joins Go.Deep

theorem array6 {α : Type} {cs : Array α} (h : cs.size = 6) : ∃ c0 c1 c2 c3 c4 c5, cs = #[c0, c1, c2, c3, c4, c5] := by
  obtain ⟨l⟩ := cs
  match l, h with
  | [c0, c1, c2, c3, c4, c5], _ => exact ⟨c0, c1, c2, c3, c4, c5, rfl⟩
set_option maxRecDepth 100000 in
set_option maxHeartbeats 1600000 in
theorem open_ratc {H : Type} {enc : TypeId × Value → H} {W : World} {c0 c1 c2 : Value} {x : DataW H × List MemPlace} {fuel : Nat}
    (h : DataW.trod enc Tryz.prog W 0 (fun _ => true) true fuel 24 [c0, c1, c2] = some x) : ∃ s a b, RatV W (.agg #[c0, c1, c2]) s a b := by
  obtain ⟨y0, y1, y2, n, hx, _, h0, h1, h2⟩ := trod_struct3 Tryz.underlying24 h
  have h0' : DataW.trod enc Tryz.prog W 0 (fun _ => true) true n 4 [c0] = some y0 := h0
  have h1' : DataW.trod enc Tryz.prog W 0 (fun _ => true) true n 22 [c1] = some y1 := h1
  have h2' : DataW.trod enc Tryz.prog W 0 (fun _ => true) true n 22 [c2] = some y2 := h2
  obtain ⟨b', k0, _⟩ := DataW.trod_bool Tryz.underlying4 h0'
  have e0 : c0 = .bool b' := by simpa using k0
  obtain ⟨a, ha⟩ := open_words_cell Tryz.underlying22 Tryz.underlying76 (by kernel_rfl) h1'
  obtain ⟨b, hb⟩ := open_words_cell Tryz.underlying22 Tryz.underlying76 (by kernel_rfl) h2'
  exact ⟨b', a, b, c1, c2, by rw [e0], ha, hb⟩
set_option maxRecDepth 100000 in
set_option maxHeartbeats 1600000 in
theorem open_span {H : Type} {enc : TypeId × Value → H} {W : World} {v : Value} {d : DataW H} {p : List MemPlace} {base : Nat}
    (hv : Value.okWide Tryz.prog W .any base 26 v) (h : DataW.Trod enc Tryz.prog W 0 (fun _ => true) true 26 v d p) : ∃ s a b t c d, SpV W v s a b t c d := by
  obtain ⟨cs, rfl, hsz⟩ := okWide_struct Tryz.underlying26 hv
  obtain ⟨c0, c1, c2, c3, c4, c5, rfl⟩ := array6 (hsz.trans (by kernel_rfl))
  obtain ⟨fuel, hf⟩ := h
  obtain ⟨y0, y1, n, hx, _, h0, h1⟩ := trod_struct2 Tryz.underlying26 hf
  have h0' : DataW.trod enc Tryz.prog W 0 (fun _ => true) true n 24 [c0, c1, c2] = some y0 := h0
  have h1' : DataW.trod enc Tryz.prog W 0 (fun _ => true) true n 24 [c3, c4, c5] = some y1 := h1
  obtain ⟨s, a, b, k0⟩ := open_ratc h0'
  obtain ⟨t, c, d, k1⟩ := open_ratc h1'
  exact ⟨s, a, b, t, c, d, c0, c1, c2, c3, c4, c5, rfl, k0, k1⟩
end Go.Proofs.YtaefimegiobkmaaGreatDoor
/-
  The last step of a law's proof: true was handed back and nothing that was there has changed, so the row's claim holds.
  Conditions: each theorem's own.
-/
namespace Go.Proofs.YtaefimegiobkmaaGreatDoor
open Go.RowKit Go.ChangeShapes Go.WideShapes

theorem trodAll_below {H : Type} {enc : TypeId × Value → H} {P : Program} (hl : laidOutB P = true) {W W' : World} (hb : Below W.heap.size W W') :
    ∀ (ts : List TypeId) (vs : List Value) (ds : List (DataW H)) (ps : List MemPlace), (ts.all fun t => P.readableRec t && decide (t < P.types.size)) = true →
      DataW.TrodAll enc P W 0 (fun _ => true) true ts vs ds ps → (∀ x ∈ ps, x.block < W.heap.size) → DataW.TrodAll enc P W' 0 (fun b => decide (b < W.heap.size)) true ts vs ds ps := by
  intro ts
  induction ts with
  | nil =>
    intro vs ds ps hr h hlt
    cases vs <;> cases ds <;> first | exact h | exact h.elim
  | cons t ts ih =>
    intro vs ds ps hr h hlt
    simp only [List.all_cons, Bool.and_eq_true, decide_eq_true_eq] at hr
    cases vs with
    | nil => cases ds <;> exact h.elim
    | cons v vs =>
      cases ds with
      | nil => exact h.elim
      | cons d ds =>
        obtain ⟨p, q, h1, h2, rfl⟩ := h
        exact ⟨p, q, Below.trod hl hr.1.1 hr.1.2 h1 hb (fun x hx => hlt x (List.mem_append_left _ hx)),
          ih vs ds q hr.2 h2 (fun x hx => hlt x (List.mem_append_right _ hx)), rfl⟩

theorem law_close {H : Type} {enc : TypeId × Value → H} {P : Program} {f : Func} {s : ChangeSpec} {W W' : World} {args : Array Value} {ds gs : List (DataW H)} {before : List MemPlace} {tb : TypeId}
    (hl : laidOutB P = true) (hrd : (f.params.toList.all fun t => P.readableRec t && decide (t < P.types.size)) = true) (hvars : s.vars = []) (hr : f.resultTypes = #[tb]) (hbool : P.underlying tb = some .bool)
    (hres : (s.fn H (ds ++ gs)).results = [.lit (.bool true)]) (hargs : (s.fn H (ds ++ gs)).args = ds) (hvs : (s.fn H (ds ++ gs)).vars = [])
    (hW : DataW.Whole enc P f.params.toList s.vars false W args.toList ds gs before) (hb : Below W.heap.size W W') :
    s.post enc P f false true false false W args (.bool true) W' := by
  have hlt := hW.lt
  have hW' := hW
  obtain ⟨p, q, hA, hV, rfl, hz, hn⟩ := hW
  rw [hvars] at hV
  obtain ⟨rfl, rfl⟩ := trodVars_none hV
  refine ⟨ds, [], p ++ [], [], p, [], hW', ?_, ?_, ?_, hb.frame _, fun h => by cases h⟩
  · rw [hres, hr]
    exact ⟨[], [], shut_bool hbool true, rfl, rfl⟩
  · rw [hargs]
    exact trodAll_below hl hb _ _ _ _ hrd hA (fun x hx => by simpa using hlt x (List.mem_append_left _ hx))
  · rw [hvs, hvars]; rfl
end Go.Proofs.YtaefimegiobkmaaGreatDoor
