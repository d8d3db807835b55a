/-
  The walk of the law ProofDeeper.
  Conditions: each theorem's own.
-/
import Derived.Test.YthhgfhdmfhnklaaGreatDoorMWb2
namespace Go.Proofs.YthhgfhdmfhnklaaGreatDoor
open Go.RowKit Go.ChangeShapes Go.WideShapes

set_option maxRecDepth 100000 in
set_option maxHeartbeats 8000000 in
theorem proofdeeper_any (vf v : Value) (f : Fm) (L : List Rv) (K : Int) (w : World) (hf : FmV w vf f) (hl : RvsV w v L) (hK : 0 ≤ K ∧ K < 256) :
    Calls Tryz.prog 5 #[vf, v, .int .u8 K] w (RetV w (.bool true)) := by
  obtain ⟨nv, rfl, hn, hv, htp⟩ := hf
  obtain ⟨ao, c, rfl, hc, hc2, _⟩ := hn.shape
  have HF := Lib.hid (show FmV w _ f from ⟨_, rfl, hn, hv, htp⟩)
  have HL := Lib.hid hl
  obtain ⟨W, hW⟩ : ∃ W, W = w.alloc (.cells #[.int .i64 f.vars, .slice ao f.nodes.length c, .int .i64 f.top] 24) := ⟨_, rfl⟩
  have hbW : Below w.heap.size w W := by rw [hW]; exact (Below.refl _ _).alloc (Nat.le_refl _) _
  have hg1 : W.heap[w.heap.size]? = some (.cells #[.int .i64 f.vars, .slice ao f.nodes.length c, .int .i64 f.top] 24) := by rw [hW]; exact heap_alloc_new w _
  obtain ⟨g1, hG1⟩ : ∃ g, g = w.heap.size := ⟨_, rfl⟩
  rw [← hG1] at hg1
  have HBW := Lib.hid hbW; have G1 := Lib.hid hg1
  obtain ⟨x0, x1, x2⟩ := row3 hg1
  rw [hW, hG1] at x0 x1 x2
  clear hbW hg1 hn hv htp hl
  have HK := Lib.hid (valid41_any _ _ f L W (HF.out.below HBW.out) (HL.out.below HBW.out))
  obtain ⟨vb, hvb⟩ : ∃ vb, validB f L = vb := ⟨_, rfl⟩
  rw [hvb] at HK
  go_enter Tryz.func5, Tryz.ntmps5
  go_wp2_with (with_reducible refine pauseCall ?_)
  rw [← hW, ← hG1]; clear hW hG1 x0 x1 x2
  refine Pause.mk ?_
  (with_reducible refine HK.out.mono ?_); rintro e w1 ⟨rfl, hb1⟩
  have HB := Lib.hid (HBW.out.trans (hb1.mono HBW.out.size))
  have X1 := Lib.hid (heap_below G1.out hb1)
  clear hb1 HK HBW G1
  cases vb
  · clear hvb
    go_wp2_with (with_reducible refine pauseCall ?_)
    refine Pause.mk ?_
    (with_reducible refine (awake41_any w1).mono ?_); rintro e w2 ⟨rfl, hb2⟩
    have HB2 := Lib.hid (HB.out.trans (hb2.mono HB.out.size))
    clear hb2
    go_wp2_with fail
    go_ret
    exact ⟨rfl, HB2.out⟩
  have VP := Lib.hid (validB_parts hvb)
  clear hvb
  have SM := Lib.hid (VP.out.rl3 HL.out)
  obtain ⟨al, cl, rfl, hcl, hcl2, _⟩ := HL.out.shape
  go_wp2_with (with_reducible refine pauseCall ?_)
  refine Pause.mk ?_
  (with_reducible refine (awake41_any w1).mono ?_); rintro e w2 ⟨rfl, hb2⟩
  have HF := Lib.hid (HF.out.below HB.out); have HL := Lib.hid (HL.out.below HB.out)
  have HB := Lib.hid (HB.out.trans (hb2.mono HB.out.size))
  have HF := Lib.hid (HF.out.below hb2)
  have HL := Lib.hid (HL.out.below hb2)
  have X1 := Lib.hid (heap_below X1.out hb2)
  clear hb2
  obtain ⟨hK0, hK1⟩ := hK
  obtain ⟨n, hn⟩ : ∃ n : Nat, (n : Int) = K.tmod 9 := ⟨(K.tmod 9).toNat, by rw [Int.tmod_eq_emod_of_nonneg hK0]; omega⟩
  have h9 : n ≤ 8 := by rw [Int.tmod_eq_emod_of_nonneg hK0] at hn; omega
  have hn' : K.tmod 9 = (n : Int) := hn.symm
  clear hn
  have M0 := Lib.hid (mk_ok VP.out.fe (n : Int) n rfl (by omega))
  have M1 := Lib.hid (mk_ok VP.out.fe ((n : Int) + 1) (n + 1) (by omega) (by omega))
  have S0 := Lib.hid (VP.out.sErr n); have S1 := Lib.hid (VP.out.sErr (n + 1))
  have F0 := Lib.hid (VP.out.few n); have F1 := Lib.hid (VP.out.few (n + 1))
  have R0 := Lib.hid (bnd_rl S0.out SM.out F0.out); have R1 := Lib.hid (bnd_rl S1.out SM.out F1.out)
  have DS := Lib.hid (deeper_sub VP.out n)
  have HK := Lib.hid (make_f _ f (n : Int) w2 HF.out (by unfold I64; omega) (fun _ => VP.out.v8))
  rw [M0.out.1, M0.out.2] at HK
  obtain ⟨l0_0, l0_1, l0_2⟩ := row3 X1.out
  try rw [hw2] at l0_0
  try rw [hB2] at l0_0
  try rw [hw2] at l0_1
  try rw [hB2] at l0_1
  try rw [hw2] at l0_2
  try rw [hB2] at l0_2
  go_wp2_with (with_reducible refine pauseCall ?_)
  clear l0_0 l0_1 l0_2
  refine Pause.mk ?_
  (with_reducible refine HK.out.mono ?_); rintro e w3 ⟨v3, rfl, hb3, ht3⟩
  rw [errV_zero]
  have HB := Lib.hid (HB.out.trans (hb3.mono HB.out.size))
  have HF := Lib.hid (HF.out.below hb3)
  have HL := Lib.hid (HL.out.below hb3)
  have X1 := Lib.hid (heap_below X1.out hb3)
  obtain ⟨tv3, tr3, ta3, tn3, tc3, rfl⟩ := ht3.shape
  have HT3 := Lib.hid ht3
  clear hb3 ht3 HK
  obtain ⟨w4, hw4⟩ : ∃ x, x = w3.alloc (.cells #[.int .i64 tv3, .slice ta3 tn3 tc3, .int .i64 tr3] 27) := ⟨_, rfl⟩
  have hb4 : Below w3.heap.size w3 w4 := by rw [hw4]; exact (Below.refl _ _).alloc (Nat.le_refl _) _
  have hx4 : w4.heap[w3.heap.size]? = some (.cells #[.int .i64 tv3, .slice ta3 tn3 tc3, .int .i64 tr3] 27) := by rw [hw4]; exact heap_alloc_new _ _
  obtain ⟨b4, hB4⟩ : ∃ b, b = w3.heap.size := ⟨_, rfl⟩
  rw [← hB4] at hx4
  have HB := Lib.hid (HB.out.trans (hb4.mono HB.out.size))
  have HF := Lib.hid (HF.out.below hb4)
  have HL := Lib.hid (HL.out.below hb4)
  have HT3 := Lib.hid (HT3.out.below hb4)
  have X1 := Lib.hid (heap_below X1.out hb4)
  have X3 := Lib.hid hx4
  clear hb4 hx4
  have HK := Lib.hid (make_f _ f ((n : Int) + 1) w4 HF.out (by unfold I64; omega) (fun _ => VP.out.v8))
  rw [M1.out.1, M1.out.2] at HK
  obtain ⟨l0_0, l0_1, l0_2⟩ := row3 X1.out
  try rw [hw4] at l0_0
  try rw [hB4] at l0_0
  try rw [hw4] at l0_1
  try rw [hB4] at l0_1
  try rw [hw4] at l0_2
  try rw [hB4] at l0_2
  obtain ⟨l1_0, l1_1, l1_2⟩ := row3 X3.out
  try rw [hw4] at l1_0
  try rw [hB4] at l1_0
  try rw [hw4] at l1_1
  try rw [hB4] at l1_1
  try rw [hw4] at l1_2
  try rw [hB4] at l1_2
  go_wp2_with (with_reducible refine pauseCall ?_)
  rw [← hw4, ← hB4]
  clear hw4 hB4
  clear l0_0 l0_1 l0_2 l1_0 l1_1 l1_2
  refine Pause.mk ?_
  (with_reducible refine HK.out.mono ?_); rintro e w5 ⟨v5, rfl, hb5, ht5⟩
  rw [errV_zero]
  have HB := Lib.hid (HB.out.trans (hb5.mono HB.out.size))
  have HF := Lib.hid (HF.out.below hb5)
  have HL := Lib.hid (HL.out.below hb5)
  have HT3 := Lib.hid (HT3.out.below hb5)
  have X1 := Lib.hid (heap_below X1.out hb5)
  have X3 := Lib.hid (heap_below X3.out hb5)
  obtain ⟨tv5, tr5, ta5, tn5, tc5, rfl⟩ := ht5.shape
  have HT5 := Lib.hid ht5
  clear hb5 ht5 HK hn' hK0 hK1
  obtain ⟨w6, hw6⟩ : ∃ x, x = w5.alloc (.cells #[.int .i64 tv5, .slice ta5 tn5 tc5, .int .i64 tr5] 27) := ⟨_, rfl⟩
  have hb6 : Below w5.heap.size w5 w6 := by rw [hw6]; exact (Below.refl _ _).alloc (Nat.le_refl _) _
  have hx6 : w6.heap[w5.heap.size]? = some (.cells #[.int .i64 tv5, .slice ta5 tn5 tc5, .int .i64 tr5] 27) := by rw [hw6]; exact heap_alloc_new _ _
  obtain ⟨b6, hB6⟩ : ∃ b, b = w5.heap.size := ⟨_, rfl⟩
  rw [← hB6] at hx6
  have HB := Lib.hid (HB.out.trans (hb6.mono HB.out.size))
  have HF := Lib.hid (HF.out.below hb6)
  have HL := Lib.hid (HL.out.below hb6)
  have HT3 := Lib.hid (HT3.out.below hb6)
  have HT5 := Lib.hid (HT5.out.below hb6)
  have X1 := Lib.hid (heap_below X1.out hb6)
  have X3 := Lib.hid (heap_below X3.out hb6)
  have X5 := Lib.hid hx6
  clear hb6 hx6
  have HK := Lib.hid (bounds_any _ _ _ f _ L w6 HF.out HT3.out HL.out SM.out (fun _ => F0.out) 0 S0.out)
  obtain ⟨l0_0, l0_1, l0_2⟩ := row3 X1.out
  try rw [hw6] at l0_0
  try rw [hB6] at l0_0
  try rw [hw6] at l0_1
  try rw [hB6] at l0_1
  try rw [hw6] at l0_2
  try rw [hB6] at l0_2
  obtain ⟨l1_0, l1_1, l1_2⟩ := row3 X3.out
  try rw [hw6] at l1_0
  try rw [hB6] at l1_0
  try rw [hw6] at l1_1
  try rw [hB6] at l1_1
  try rw [hw6] at l1_2
  try rw [hB6] at l1_2
  obtain ⟨l2_0, l2_1, l2_2⟩ := row3 X5.out
  try rw [hw6] at l2_0
  try rw [hB6] at l2_0
  try rw [hw6] at l2_1
  try rw [hB6] at l2_1
  try rw [hw6] at l2_2
  try rw [hB6] at l2_2
  go_wp2_with (with_reducible refine pauseCall ?_)
  rw [← hw6, ← hB6]
  clear hw6 hB6
  clear l0_0 l0_1 l0_2 l1_0 l1_1 l1_2 l2_0 l2_1 l2_2
  refine Pause.mk ?_
  (with_reducible refine HK.out.mono ?_); rintro e w7 ⟨v7, rfl, hb7, hn7⟩
  rw [errV_zero]
  have HB := Lib.hid (HB.out.trans (hb7.mono HB.out.size))
  have HF := Lib.hid (HF.out.below hb7)
  have HL := Lib.hid (HL.out.below hb7)
  have HT5 := Lib.hid (HT5.out.below hb7)
  have X1 := Lib.hid (heap_below X1.out hb7)
  have X3 := Lib.hid (heap_below X3.out hb7)
  have X5 := Lib.hid (heap_below X5.out hb7)
  obtain ⟨s7, o7, n7, c7, a7, m7, d7, s7x, o7x, n7x, c7x, a7x, m7x, d7x, rfl⟩ := hn7.shape
  have IB7 := Lib.hid hn7
  clear hb7 hn7 HK
  obtain ⟨w8, hw8⟩ : ∃ x, x = w7.alloc (.cells #[.bool s7, .slice o7 n7 c7, .slice a7 m7 d7, .bool s7x, .slice o7x n7x c7x, .slice a7x m7x d7x] 56) := ⟨_, rfl⟩
  have hb8 : Below w7.heap.size w7 w8 := by rw [hw8]; exact (Below.refl _ _).alloc (Nat.le_refl _) _
  have hx8 : w8.heap[w7.heap.size]? = some (.cells #[.bool s7, .slice o7 n7 c7, .slice a7 m7 d7, .bool s7x, .slice o7x n7x c7x, .slice a7x m7x d7x] 56) := by rw [hw8]; exact heap_alloc_new _ _
  obtain ⟨b8, hB8⟩ : ∃ b, b = w7.heap.size := ⟨_, rfl⟩
  rw [← hB8] at hx8
  have HB := Lib.hid (HB.out.trans (hb8.mono HB.out.size))
  have HF := Lib.hid (HF.out.below hb8)
  have HL := Lib.hid (HL.out.below hb8)
  have HT5 := Lib.hid (HT5.out.below hb8)
  have IB7 := Lib.hid (IB7.out.below hb8)
  have X1 := Lib.hid (heap_below X1.out hb8)
  have X3 := Lib.hid (heap_below X3.out hb8)
  have X5 := Lib.hid (heap_below X5.out hb8)
  have X7 := Lib.hid hx8
  clear hb8 hx8
  have HK := Lib.hid (bounds_any _ _ _ f _ L w8 HF.out HT5.out HL.out SM.out (fun _ => F1.out) 0 S1.out)
  obtain ⟨l0_0, l0_1, l0_2⟩ := row3 X1.out
  try rw [hw8] at l0_0
  try rw [hB8] at l0_0
  try rw [hw8] at l0_1
  try rw [hB8] at l0_1
  try rw [hw8] at l0_2
  try rw [hB8] at l0_2
  obtain ⟨l1_0, l1_1, l1_2⟩ := row3 X5.out
  try rw [hw8] at l1_0
  try rw [hB8] at l1_0
  try rw [hw8] at l1_1
  try rw [hB8] at l1_1
  try rw [hw8] at l1_2
  try rw [hB8] at l1_2
  obtain ⟨l2_0, l2_1, l2_2, l2_3, l2_4, l2_5⟩ := row6 X7.out
  try rw [hw8] at l2_0
  try rw [hB8] at l2_0
  try rw [hw8] at l2_1
  try rw [hB8] at l2_1
  try rw [hw8] at l2_2
  try rw [hB8] at l2_2
  try rw [hw8] at l2_3
  try rw [hB8] at l2_3
  try rw [hw8] at l2_4
  try rw [hB8] at l2_4
  try rw [hw8] at l2_5
  try rw [hB8] at l2_5
  go_wp2_with (with_reducible refine pauseCall ?_)
  rw [← hw8, ← hB8]
  clear hw8 hB8
  clear l0_0 l0_1 l0_2 l1_0 l1_1 l1_2 l2_0 l2_1 l2_2 l2_3 l2_4 l2_5
  refine Pause.mk ?_
  (with_reducible refine HK.out.mono ?_); rintro e w9 ⟨v9, rfl, hb9, hn9⟩
  rw [errV_zero]
  have HB := Lib.hid (HB.out.trans (hb9.mono HB.out.size))
  have IB7 := Lib.hid (IB7.out.below hb9)
  have X7 := Lib.hid (heap_below X7.out hb9)
  obtain ⟨s9, o9, n9, c9, a9, m9, d9, s9x, o9x, n9x, c9x, a9x, m9x, d9x, rfl⟩ := hn9.shape
  have IB9 := Lib.hid hn9
  clear hb9 hn9 HK HF HL
  obtain ⟨w10, hw10⟩ : ∃ x, x = w9.alloc (.cells #[.bool s9, .slice o9 n9 c9, .slice a9 m9 d9, .bool s9x, .slice o9x n9x c9x, .slice a9x m9x d9x] 56) := ⟨_, rfl⟩
  have hb10 : Below w9.heap.size w9 w10 := by rw [hw10]; exact (Below.refl _ _).alloc (Nat.le_refl _) _
  have hx10 : w10.heap[w9.heap.size]? = some (.cells #[.bool s9, .slice o9 n9 c9, .slice a9 m9 d9, .bool s9x, .slice o9x n9x c9x, .slice a9x m9x d9x] 56) := by rw [hw10]; exact heap_alloc_new _ _
  obtain ⟨b10, hB10⟩ : ∃ b, b = w9.heap.size := ⟨_, rfl⟩
  rw [← hB10] at hx10
  have HB := Lib.hid (HB.out.trans (hb10.mono HB.out.size))
  have IB7 := Lib.hid (IB7.out.below hb10)
  have IB9 := Lib.hid (IB9.out.below hb10)
  have X7 := Lib.hid (heap_below X7.out hb10)
  have X9 := Lib.hid hx10
  clear hb10 hx10
  have HK := Lib.hid (inside_any _ _ _ _ w10 (IB9.out.is (bnd_le S1.out) (by have := R1.out.1; omega) (by have := R1.out.2; omega)) (IB7.out.is (bnd_le S0.out) (by have := R0.out.1; omega) (by have := R0.out.2; omega)) R1.out.1 R1.out.2 R0.out.1 R0.out.2)
  rw [decide_eq_true DS.out] at HK
  obtain ⟨l0_0, l0_1, l0_2, l0_3, l0_4, l0_5⟩ := row6 X7.out
  try rw [hw10] at l0_0
  try rw [hB10] at l0_0
  try rw [hw10] at l0_1
  try rw [hB10] at l0_1
  try rw [hw10] at l0_2
  try rw [hB10] at l0_2
  try rw [hw10] at l0_3
  try rw [hB10] at l0_3
  try rw [hw10] at l0_4
  try rw [hB10] at l0_4
  try rw [hw10] at l0_5
  try rw [hB10] at l0_5
  obtain ⟨l1_0, l1_1, l1_2, l1_3, l1_4, l1_5⟩ := row6 X9.out
  try rw [hw10] at l1_0
  try rw [hB10] at l1_0
  try rw [hw10] at l1_1
  try rw [hB10] at l1_1
  try rw [hw10] at l1_2
  try rw [hB10] at l1_2
  try rw [hw10] at l1_3
  try rw [hB10] at l1_3
  try rw [hw10] at l1_4
  try rw [hB10] at l1_4
  try rw [hw10] at l1_5
  try rw [hB10] at l1_5
  go_wp2_with (with_reducible refine pauseCall ?_)
  rw [← hw10, ← hB10]
  clear hw10 hB10
  clear l0_0 l0_1 l0_2 l0_3 l0_4 l0_5 l1_0 l1_1 l1_2 l1_3 l1_4 l1_5
  refine Pause.mk ?_
  (with_reducible refine HK.out.mono ?_); rintro e w11 ⟨rfl, hb11⟩
  have HB := Lib.hid (HB.out.trans (hb11.mono HB.out.size))
  clear hb11 HK
  go_wp2_with fail
  go_ret
  exact ⟨rfl, HB.out⟩
end Go.Proofs.YthhgfhdmfhnklaaGreatDoor
