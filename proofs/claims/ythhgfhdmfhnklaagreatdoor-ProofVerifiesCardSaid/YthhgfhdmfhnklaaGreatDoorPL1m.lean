/-
  The walk of the law ProofVerifies.
  Conditions: each theorem's own.
-/
import Derived.Test.YthhgfhdmfhnklaaGreatDoorMWa1
namespace Go.Proofs.YthhgfhdmfhnklaaGreatDoor
open Go.RowKit Go.ChangeShapes Go.WideShapes

theorem verV_lt (f : Fm) (t : Tr) : (verV f t).2.2 < 1000 := by
  unfold verV
  split
  · show (0 : Nat) < 1000; decide
  · show cErr f t < 1000
    unfold cErr
    split
    · have := fmErr_lt f; omega
    · have := trErr_lt f.vars t 0 0; omega
set_option maxRecDepth 100000 in
set_option maxHeartbeats 4000000 in
theorem proofverifies_any (vf x : Value) (f : Fm) (t : Tr) (w : World) (hf : FmV w vf f) (ht : TrV w x t) :
    Calls Tryz.prog 3 #[vf, x] w (RetV w (.bool true)) := by
  obtain ⟨nv, rfl, hn, hv, htp⟩ := hf
  obtain ⟨ao, c, rfl, hc, hc2, _⟩ := hn.shape
  have HF := Lib.hid (show FmV w _ f from ⟨_, rfl, hn, hv, htp⟩)
  have HT := Lib.hid ht
  obtain ⟨tv, tr, ta, tn, tc, rfl⟩ := ht.shape
  obtain ⟨W, hW⟩ : ∃ W, W = (w.alloc (.cells #[.int .i64 f.vars, .slice ao f.nodes.length c, .int .i64 f.top] 24)).alloc (.cells #[.int .i64 tv, .slice ta tn tc, .int .i64 tr] 27) := ⟨_, rfl⟩
  have hbW : Below w.heap.size w W := by rw [hW]; exact ((Below.refl _ _).alloc (Nat.le_refl _) _).alloc (by simp) _
  have hg1 : W.heap[w.heap.size]? = some (.cells #[.int .i64 f.vars, .slice ao f.nodes.length c, .int .i64 f.top] 24) := by rw [hW]; exact heap_alloc2_old w _ _
  have hg2 : W.heap[w.heap.size + 1]? = some (.cells #[.int .i64 tv, .slice ta tn tc, .int .i64 tr] 27) := by rw [hW]; exact heap_alloc2_new w _ _
  obtain ⟨g1, hG1⟩ : ∃ g, g = w.heap.size := ⟨_, rfl⟩
  obtain ⟨g2, hG2⟩ : ∃ g, g = w.heap.size + 1 := ⟨_, rfl⟩
  rw [← hG1] at hg1; rw [← hG2] at hg2
  have HBW := Lib.hid hbW; have G1 := Lib.hid hg1; have G2 := Lib.hid hg2
  obtain ⟨x0, x1, x2⟩ := row3 hg1
  obtain ⟨y0, y1, y2⟩ := row3 hg2
  rw [hW, hG1] at x0 x1 x2
  rw [hW, hG2] at y0 y1 y2
  clear hbW hg1 hg2 hn hv htp ht
  have HK := Lib.hid (light_any _ _ f t W (HF.out.below HBW.out) (HT.out.below HBW.out))
  obtain ⟨lb, hlb⟩ : ∃ lb, lightB f t = lb := ⟨_, rfl⟩
  rw [hlb] at HK
  go_enter Tryz.func3, Tryz.ntmps3
  go_wp2_with (with_reducible refine pauseCall ?_)
  rw [← hW, ← hG2, ← hG1]; clear hW hG1 hG2 x0 x1 x2 y0 y1 y2
  refine Pause.mk ?_
  (with_reducible refine HK.out.mono ?_); rintro e w1 ⟨rfl, hb1⟩
  have HB1 := Lib.hid (HBW.out.trans (hb1.mono HBW.out.size))
  have G1 := Lib.hid (heap_below G1.out hb1); have G2 := Lib.hid (heap_below G2.out hb1)
  clear hb1 HK
  have HL := Lib.hid hlb; clear hlb
  cases lb
  · go_wp2_with (with_reducible refine pauseCall ?_)
    refine Pause.mk ?_
    (with_reducible refine (awake41_any w1).mono ?_); rintro e w2 ⟨rfl, hb2⟩
    have HB2 := Lib.hid (HB1.out.trans (hb2.mono HB1.out.size))
    clear hb2
    go_wp2_with fail
    go_ret
    exact ⟨rfl, HB2.out⟩
  go_wp2_with (with_reducible refine pauseCall ?_)
  refine Pause.mk ?_
  (with_reducible refine (awake41_any w1).mono ?_); rintro e w2 ⟨rfl, hb2⟩
  have HB2 := Lib.hid (HB1.out.trans (hb2.mono HB1.out.size))
  have G1 := Lib.hid (heap_below G1.out hb2); have G2 := Lib.hid (heap_below G2.out hb2)
  clear hb2
  obtain ⟨x0, x1, x2⟩ := row3 G1.out
  obtain ⟨y0, y1, y2⟩ := row3 G2.out
  have HK := Lib.hid (pverify_any _ _ f t w2 (HF.out.below HB2.out) (HT.out.below HB2.out))
  have hlt := verV_lt f t
  obtain ⟨q, hq⟩ : ∃ q, verV f t = q := ⟨_, rfl⟩
  obtain ⟨ok, i, ec⟩ := q
  rw [hq] at HK hlt
  have HQ := Lib.hid hq; clear hq
  simp only at hlt
  go_wp2_with (with_reducible refine pauseCall ?_)
  clear x0 x1 x2 y0 y1 y2
  refine Pause.mk ?_
  (with_reducible refine HK.out.mono ?_); rintro e w3 ⟨rfl, hb3⟩
  have HB3 := Lib.hid (HB2.out.trans (hb3.mono HB2.out.size))
  have G1 := Lib.hid (heap_below G1.out hb3); have G2 := Lib.hid (heap_below G2.out hb3)
  clear hb3 HK
  obtain ⟨x0, x1, x2⟩ := row3 G1.out
  obtain ⟨y0, y1, y2⟩ := row3 G2.out
  have HK := Lib.hid (rverify_any _ _ f t w3 (HF.out.below HB3.out) (HT.out.below HB3.out))
  rw [HQ.out] at HK
  go_wp2_with (with_reducible refine pauseCall ?_)
  clear x0 x1 x2 y0 y1 y2
  refine Pause.mk ?_
  (with_reducible refine HK.out.mono ?_); rintro e w4 ⟨rfl, hb4⟩
  have HB4 := Lib.hid (HB3.out.trans (hb4.mono HB3.out.size))
  clear hb4 HK
  go_wp2_with (with_reducible refine pauseCall ?_)
  refine Pause.mk ?_
  (with_reducible refine (num_any ec w4 hlt).mono ?_); rintro e w5 ⟨rfl, rfl⟩
  cases ok
  · go_wp2_with fail
    go_ret
    exact ⟨rfl, HB4.out⟩
  · go_wp2_with fail
    go_ret
    exact ⟨rfl, HB4.out⟩
end Go.Proofs.YthhgfhdmfhnklaaGreatDoor
