/-
  What the law leans on, one text behind the other (the rest).
  Conditions: each theorem's own.
-/
import Derived.Test.YthhgfhdmfhnklaaGreatDoorMVd2
set_option maxRecDepth 100000
set_option maxHeartbeats 16000000
namespace Go.Proofs.YthhgfhdmfhnklaaGreatDoor
open Go.RowKit Go.ChangeShapes Go.WideShapes
theorem pswap_n (vars : Int) (by_ : Tr) (hft : FlatT by_) : ∀ (N : Nat) (t : Tr), SizeOf.sizeOf t < N → ∀ (above : Nat) (k : Int) (x y : Value) (w : World), qej vars t above → qei t ≤ 4096 → -8192 ≤ k - (qei t : Int) → k ≤ 8192 → TrV w x t → TrH w y by_ →
  Calls Tryz.prog 95 #[x, .int .i64 k, y] w (RetHw w (qbo by_ t k).1 (qbo by_ t k).2) := by
 have HFT := qHd hft; clear hft
 intro N
 induction N with
 | zero => intro t h; omega
 | succ N ih =>
  intro t hN above k x y w hok hsz hk1 hk2 ht hy
  obtain ⟨yv, yr, ya, yn, yc, rfl⟩ := hy.tr.shape
  match t, hok, hN, hsz, hk1, ht with
  | .mk v [] r, hok, _, _, _, ht =>
   simp only [qej] at hok
   subst hok
   obtain ⟨ao, c, rfl, hks, hc1, hc2, hiv, hir⟩ := ht.open
   have hao : ao = none → c = 0 := by obtain ⟨a', c', e, _, _, h3, _⟩ := hks; cases e; exact h3
   simp only [List.length_nil] at hks hc1 ⊢
   obtain ⟨wa, hwa⟩ : ∃ x, x = w.alloc (.cells #[.int .i64 0, .slice ao 0 c, .int .i64 r] 27) := ⟨_, rfl⟩
   obtain ⟨wb, hwb⟩ : ∃ x, x = wa.alloc (.cells #[.int .i64 yv, .slice ya yn yc, .int .i64 yr] 27) := ⟨_, rfl⟩
   obtain ⟨W, hW⟩ : ∃ x, x = wb.alloc (.cells #[.int .i64 0, .slice none 0 0, .int .i64 0] 27) := ⟨_, rfl⟩
   have ba : Below w.heap.size w wa := by rw [hwa]; exact qBA _ _
   have bb : Below wa.heap.size wa wb := by rw [hwb]; exact qBA _ _
   have bW : Below wb.heap.size wb W := by rw [hW]; exact qBA _ _
   have sa : wa.heap.size = w.heap.size + 1 := by rw [hwa]; exact Array.size_push (xs := w.heap) _
   have sb : wb.heap.size = w.heap.size + 1 + 1 := by rw [← sa, hwb]; exact Array.size_push (xs := wa.heap) _
   have hg3 : W.heap[w.heap.size]? = some (.cells #[.int .i64 0, .slice ao 0 c, .int .i64 r] 27) := qaa (qaa (by rw [hwa]; exact heap_alloc_new w _) bb) bW
   have hg5 : W.heap[w.heap.size + 1]? = some (.cells #[.int .i64 yv, .slice ya yn yc, .int .i64 yr] 27) := qaa (by rw [← sa, hwb]; exact heap_alloc_new wa _) bW
   have hg6 : W.heap[w.heap.size + 1 + 1]? = some (.cells #[.int .i64 0, .slice none 0 0, .int .i64 0] 27) := by rw [← sb, hW]; exact heap_alloc_new wb _
   have HB := qHd (ba.trans ((bb.mono ba.size).trans (bW.mono (Nat.le_trans ba.size bb.size))))
   obtain ⟨g3, hG3⟩ : ∃ g, g = w.heap.size := ⟨_, rfl⟩
   obtain ⟨g5, hG5⟩ : ∃ g, g = w.heap.size + 1 := ⟨_, rfl⟩
   obtain ⟨g6, hG6⟩ : ∃ g, g = w.heap.size + 1 + 1 := ⟨_, rfl⟩
   rw [← hG3] at hg3; rw [← hG5] at hg5; rw [← hG6] at hg6
   have l6 : w.heap.size ≤ g6 := by omega
   have G3 := qHd hg3; have G5 := qHd hg5; have G6 := qHd hg6
   have HY := qHd (hy.keep (qcb HB.out))
   obtain ⟨x0, x1, x2⟩ := qay hg3
   obtain ⟨y0, y1, y2⟩ := qay hg5
   rw [hW, hwb, hwa, hG3] at x0 x1 x2
   rw [hW, hwb, hwa, hG5] at y0 y1 y2
   clear ba bb bW sa sb hg3 hg5 hg6
   by_cases hk0 : k = 0
   ·subst hk0
    have R := qHd (show qbo by_ (.mk 0 [] r) 0 = (by_, 1) by simp [qbo])
    go_enter Tryz.func95, Tryz.ntmps95
    have HK := qHd (copied_any _ by_ HFT.out W HY.out.tr)
    go_wp2_with (with_reducible refine qad ?_)
    rw [← hwa, ← hwb, ← hW, ← hG6, ← hG5, ← hG3]
    clear hwa hwb hW hG6 hG5 hG3 x0 x1 x2 y0 y1 y2
    refine qap.mk ?_
    (with_reducible refine HK.out.mono ?_); rintro e w2 ⟨v2, rfl, hb2, ht2⟩
    have HB := qHd (HB.out.trans (hb2.mono HB.out.size)); have G6 := qHd (qaa G6.out hb2)
    obtain ⟨zv, zr, za, zn, zc, rfl⟩ := ht2.tr.shape
    go_wp2_with (with_reducible refine qaf ?_)
    refine qan g6 0 [.int .i64 zv, .slice za zn zc, .int .i64 zr] G6.out rfl rfl (Nat.le_of_ble_eq_true rfl) (by kernel_rfl) rfl ?_
    intro wz hpz
    have GZ := qHd (show wz.heap[g6]? = some (.cells #[.int .i64 zv, .slice za zn zc, .int .i64 zr] 27) by rw [hpz]; exact qbd G6.out)
    have HBz := qHd (qbl hpz HB.out l6)
    have KZ := qes hpz G6.out (by simp)
    clear hpz
    go_wp2_with (with_reducible first | refine qad ?_ | refine qai ?_ | refine qaj ?_ | refine qak ?_ | refine qag ?_)
    refine qcl rfl g6 #[.int .i64 zv, .slice za zn zc, .int .i64 zr] rfl GZ.out Tryz.underlying27 rfl (by kernel_rfl) rfl ?_
    rw [R.out]; exact ⟨_, rfl, ht2.keep KZ, HBz.out⟩
   ·have R := qHd (show qbo by_ (.mk 0 [] r) k = (.mk 0 [] r, 1) by simp [qbo, hk0])
    go_enter Tryz.func95, Tryz.ntmps95
    go_wp2_with (with_reducible refine qaf ?_)
    rw [← hwa, ← hwb, ← hW, ← hG6, ← hG5, ← hG3]
    clear hwa hwb hW hG6 hG5 hG3 x0 x1 x2 y0 y1 y2
    refine qan g6 0 [.int .i64 0, .slice none 0 0, .int .i64 r] G6.out rfl rfl (Nat.le_of_ble_eq_true rfl) (by kernel_rfl) rfl ?_
    intro wz hpz
    have GZ := qHd (show wz.heap[g6]? = some (.cells #[.int .i64 0, .slice none 0 0, .int .i64 r] 27) by rw [hpz]; exact qbd G6.out)
    have HBz := qHd (qbl hpz HB.out l6)
    have KZ := qes hpz G6.out (by simp)
    clear hpz
    go_wp2_with (with_reducible first | refine qad ?_ | refine qai ?_ | refine qaj ?_ | refine qak ?_ | refine qag ?_)
    refine qcl rfl g6 #[.int .i64 0, .slice none 0 0, .int .i64 r] rfl GZ.out Tryz.underlying27 rfl (by kernel_rfl) rfl ?_
    rw [R.out]; exact ⟨_, rfl, fun w2 _ => TrV.leaf w2 hir, HBz.out⟩
  | .mk v [a, b] r, hok, hN, hsz, hk1, ht =>
   simp only [qej] at hok
   obtain ⟨q0, q1, q2, rfl, hoa, hob⟩ := hok
   obtain ⟨ao, c, rfl, hks, hc1, hc2, hiv, _⟩ := ht.open
   simp only [List.length_cons, List.length_nil] at hks hc1 ⊢
   obtain ⟨bk, ok, rfl, hbk, hjk, hat⟩ := hks.at (by decide); clear hjk hks ht
   obtain ⟨kva, kra, kaa, kna, kca, ca0, ca1, ca2, hTVa⟩ := (hat 0 a rfl).val
   obtain ⟨kvb, krb, kab, knb, kcb, cb0, cb1, cb2, hTVb⟩ := (hat 1 b rfl).val
   simp only [Nat.zero_mul, Nat.add_zero, Nat.one_mul] at ca0 ca1 ca2 cb0 cb1 cb2
   have HSA := qHd (show SizeOf.sizeOf a < N by have := qcj (v := v) (r := 0) (ks := [a, b]) (k := a) (by simp); omega)
   have HSB := qHd (show SizeOf.sizeOf b < N by have := qcj (v := v) (r := 0) (ks := [a, b]) (k := b) (by simp); omega)
   have KA := qHd (And.intro ca0 (And.intro ca1 ca2)); have KB := qHd (And.intro cb0 (And.intro cb1 cb2))
   have HTA := qHd hTVa; have HTB := qHd hTVb; have HOA := qHd hoa; have HOB := qHd hob
   have hsz' : 1 + qei a + qei b ≤ 4096 := by simpa [qei] using hsz
   have hk1' : -8192 ≤ k - ((1 + qei a + qei b : Nat) : Int) := by simpa [qei] using hk1
   have hca := trSwap_cnt by_ a k
   have hla := (qdf a).2
   obtain ⟨k2, hk2'⟩ : ∃ k2, k2 = k - ((qbo by_ a k).2 : Int) := ⟨_, rfl⟩
   have hcb := trSwap_cnt by_ b k2
   have hlb := (qdf b).2
   have R0 : qbo by_ (.mk v [a, b] 0) k = (.mk v [(qbo by_ a k).1, (qbo by_ b k2).1] 0, (qbo by_ a k).2 + (qbo by_ b k2).2) := by rw [hk2']; rfl
   have IHA0 := fun (w1 : World) (h : TrV w1 (.agg #[.int .i64 kva, .slice kaa kna kca, .int .i64 kra]) a) (h2 : TrH w1 (.agg #[.int .i64 yv, .slice ya yn yc, .int .i64 yr]) by_) => ih a HSA.out _ k _ _ w1 HOA.out (by omega) (by omega) hk2 h h2
   have IHB0 := fun (w1 : World) (h : TrV w1 (.agg #[.int .i64 kvb, .slice kab knb kcb, .int .i64 krb]) b) (h2 : TrH w1 (.agg #[.int .i64 yv, .slice ya yn yc, .int .i64 yr]) by_) => ih b HSB.out _ k2 _ _ w1 HOB.out (by omega) (by rw [hk2', hca]; omega) (by rw [hk2', hca]; omega) h h2
   obtain ⟨sA, hsA⟩ : ∃ z, z = (qbo by_ a k).1 := ⟨_, rfl⟩
   obtain ⟨na, hna⟩ : ∃ z, z = (qbo by_ a k).2 := ⟨_, rfl⟩
   obtain ⟨sB, hsB⟩ : ∃ z, z = (qbo by_ b k2).1 := ⟨_, rfl⟩
   obtain ⟨nb, hnb⟩ : ∃ z, z = (qbo by_ b k2).2 := ⟨_, rfl⟩
   rw [← hsA, ← hna, ← hsB, ← hnb] at R0
   rw [← hsA, ← hna] at IHA0
   rw [← hsB, ← hnb] at IHB0
   rw [← hna] at hca hk2'
   rw [← hnb] at hcb
   have R := qHd R0
   have hna4 : na ≤ 4096 := by omega
   have hnb4 : nb ≤ 4096 := by omega
   have DK := qHd (show IntKind.wrap .i64 (k - (na : Int)) = k2 by rw [hk2', wrap_any ⟨by omega, by omega⟩])
   have IHA := qHd (fun w1 (hbl : Below w.heap.size w w1) => IHA0 w1 (HTA.out.below hbl) (hy.keep (qcb hbl)))
   have IHB := qHd (fun w1 (hbl : Below w.heap.size w w1) => IHB0 w1 (HTB.out.below hbl) (hy.keep (qcb hbl)))
   clear ca0 ca1 ca2 cb0 cb1 cb2 hat hTVa hTVb hoa hob q0 q1 q2 hsA hna hsB hnb R0 IHA0 IHB0 hca hcb hla hlb hk1 hk1' hk2' hsz hsz' hN
   obtain ⟨wa, hwa⟩ : ∃ x, x = w.alloc (.cells #[.int .i64 v, .slice (some ⟨bk, ok, none⟩) 2 c, .int .i64 0] 27) := ⟨_, rfl⟩
   obtain ⟨wb, hwb⟩ : ∃ x, x = wa.alloc (.cells #[.int .i64 yv, .slice ya yn yc, .int .i64 yr] 27) := ⟨_, rfl⟩
   obtain ⟨W, hW⟩ : ∃ x, x = wb.alloc (.cells #[.int .i64 0, .slice none 0 0, .int .i64 0] 27) := ⟨_, rfl⟩
   have ba : Below w.heap.size w wa := by rw [hwa]; exact qBA _ _
   have bb : Below wa.heap.size wa wb := by rw [hwb]; exact qBA _ _
   have bW : Below wb.heap.size wb W := by rw [hW]; exact qBA _ _
   have sa : wa.heap.size = w.heap.size + 1 := by rw [hwa]; exact Array.size_push (xs := w.heap) _
   have sb : wb.heap.size = w.heap.size + 1 + 1 := by rw [← sa, hwb]; exact Array.size_push (xs := wa.heap) _
   have hg3 : W.heap[w.heap.size]? = some (.cells #[.int .i64 v, .slice (some ⟨bk, ok, none⟩) 2 c, .int .i64 0] 27) := qaa (qaa (by rw [hwa]; exact heap_alloc_new w _) bb) bW
   have hg5 : W.heap[w.heap.size + 1]? = some (.cells #[.int .i64 yv, .slice ya yn yc, .int .i64 yr] 27) := qaa (by rw [← sa, hwb]; exact heap_alloc_new wa _) bW
   have hg6 : W.heap[w.heap.size + 1 + 1]? = some (.cells #[.int .i64 0, .slice none 0 0, .int .i64 0] 27) := by rw [← sb, hW]; exact heap_alloc_new wb _
   have HB := qHd (ba.trans ((bb.mono ba.size).trans (bW.mono (Nat.le_trans ba.size bb.size))))
   obtain ⟨g3, hG3⟩ : ∃ g, g = w.heap.size := ⟨_, rfl⟩
   obtain ⟨g5, hG5⟩ : ∃ g, g = w.heap.size + 1 := ⟨_, rfl⟩
   obtain ⟨g6, hG6⟩ : ∃ g, g = w.heap.size + 1 + 1 := ⟨_, rfl⟩
   rw [← hG3] at hg3; rw [← hG5] at hg5; rw [← hG6] at hg6
   have l6 : w.heap.size ≤ g6 := by omega
   have G3 := qHd hg3; have G5 := qHd hg5; have G6 := qHd hg6
   have HY := qHd (hy.keep (qcb HB.out))
   obtain ⟨x0, x1, x2⟩ := qay hg3
   obtain ⟨y0, y1, y2⟩ := qay hg5
   rw [hW, hwb, hwa, hG3] at x0 x1 x2
   rw [hW, hwb, hwa, hG5] at y0 y1 y2
   clear ba bb bW sa sb hg3 hg5 hg6
   go_enter Tryz.func95, Tryz.ntmps95
   go_wp2_with (with_reducible first | refine qad ?_ | refine qai ?_ | refine qaj ?_ | refine qak ?_ | refine qag ?_)
   rw [← hwa, ← hwb, ← hW, ← hG6, ← hG5, ← hG3]
   clear hwa hwb hW hG6 hG5 hG3 x0 x1 x2 y0 y1 y2
   refine qap.mk ?_
   refine qao (A := ?aaWa) (w := W) 11 [9] (by kernel_rfl) (Fl [KEq (.pointer (some ⟨g3, 1, none⟩)), KEq (.slice (some ⟨bk, ok, none⟩) 2 c), KEq (.pointer (some ⟨bk, ok, none⟩)), KEq (.agg #[.int .i64 kva, .slice kaa kna kca, .int .i64 kra]), KEq (.int .i64 k), KEq (.agg #[.int .i64 yv, .slice ya yn yc, .int .i64 yr]), KHl sA na, KHl sA na, KHt sA, KEq (.int .i64 (na : Nat)), KNew W.heap.size #[.int .i64 0, .slice none 0 0, .int .i64 0] 27]) (fun i => i == 10) (by kernel_rfl) ?hqWa (qcw (qae (kEq _) (qae (kEq _) (qae (kEq _) (qae (kEq _) (qae (kEq _) (qae (kEq _) (qae (kHl _ _) (qae (kHl _ _) (qae (kHt _) (qae (kEq _) (qae (kNew _ _ _) qcv)))))))))))) ?haWa ?stWa ?tlWa
   case hqWa =>
    intro c a d v w h
    first | (simp only [Exit.then] at h ⊢; exact h) | (simp only [Exit.inBlock, Exit.then] at h ⊢; exact h) | exact h
   case haWa =>
    intro vals
    simp only [qba, qcd, if_true, Act.put, List.setIfInBounds_toArray, List.set_cons_zero, List.set_cons_succ, List.getElem?_toArray, List.getElem?_cons_zero, List.getElem?_cons_succ, Option.bind_some]
    exact rfl
   case stWa =>
    simp only [List.take_succ_cons, List.take_zero]
    refine qab rfl rfl ?_ (qab rfl rfl ?_ (qab rfl rfl ?_ (qab rfl rfl ?_ (qab rfl rfl ?_ (qab rfl rfl ?_ (qab rfl rfl ?_ (qab rfl rfl ?_ (qab rfl rfl ?_ (qct rfl ?_ (qab rfl rfl ?_ (qav)))))))))))
    ·intro vals w1 hb hd
     refine qSv (.pointer (some ⟨g3, 1, none⟩)) (by go_simp) (qLk rfl rfl)
    ·intro vals w1 hb hd
     obtain ⟨e0, e1, e2⟩ := qay (qaa G3.out hb)
     rw [show vals 0 = .pointer (some ⟨g3, 1, none⟩) from hd 0 (by kernel_rfl)]
     refine qSv (.slice (some ⟨bk, ok, none⟩) 2 c) (by go_simp) (qLk rfl rfl)
    ·intro vals w1 hb hd
     rw [show vals 1 = .slice (some ⟨bk, ok, none⟩) 2 c from hd 1 (by kernel_rfl)]
     refine qSv (.pointer (some ⟨bk, ok, none⟩)) (by go_simp) (qLk rfl rfl)
    ·intro vals w1 hb hd
     have hbx := HB.out.trans (hb.mono HB.out.size)
     have k0 := (hbx.cell (p := ⟨bk, _, none⟩) hbk).trans KA.out.1
     have k1 := (hbx.cell (p := ⟨bk, _, none⟩) hbk).trans KA.out.2.1
     have k2 := (hbx.cell (p := ⟨bk, _, none⟩) hbk).trans KA.out.2.2
     rw [show vals 2 = .pointer (some ⟨bk, ok, none⟩) from hd 2 (by kernel_rfl)]
     refine qSv (.agg #[.int .i64 kva, .slice kaa kna kca, .int .i64 kra]) (by go_simp) (qLk rfl rfl)
    ·intro vals w1 hb hd
     refine qSv (.int .i64 k) (by go_simp) (qLk rfl rfl)
    ·intro vals w1 hb hd
     obtain ⟨e0, e1, e2⟩ := qay (qaa G5.out hb)
     refine qSv (.agg #[.int .i64 yv, .slice ya yn yc, .int .i64 yr]) (by go_simp) (qLk rfl rfl)
    ·intro vals w1 hb hd
     have d3 : KEq (.agg #[.int .i64 kva, .slice kaa kna kca, .int .i64 kra]) (vals 3) w1 := hd 3 (by kernel_rfl)
     have d4 : KEq (.int .i64 k) (vals 4) w1 := hd 4 (by kernel_rfl)
     have d5 : KEq (.agg #[.int .i64 yv, .slice ya yn yc, .int .i64 yr]) (vals 5) w1 := hd 5 (by kernel_rfl)
     have HS := qHd (IHA.out w1 (HB.out.trans (hb.mono HB.out.size)))
     have z3 : vals 3 = _ := d3
     rw [z3]; clear z3
     have z4 : vals 4 = _ := d4
     rw [z4]; clear z4
     have z5 : vals 5 = _ := d5
     rw [z5]; clear z5
     refine qat (by go_simp; first | done | exact ⟨⟨rfl, rfl⟩, rfl⟩) ?_
     (with_reducible refine HS.out.mono ?_); rintro e w2 ⟨v, rfl, hv, hb2⟩
     exact ⟨_, rfl, qar hb2 ⟨v, rfl, hv⟩ (fun h => by cases h)⟩
    ·intro vals w1 hb hd
     have d6 : KHl sA na (vals 6) w1 := hd 6 (by kernel_rfl)
     obtain ⟨v, ev, hv⟩ := d6
     rw [ev]
     refine qaq (v := .tuple #[v, .int .i64 (na : Nat)]) (w' := w1) (by go_simp) (qar (Below.refl _ _) ⟨v, rfl, hv⟩ (fun h => by cases h))
    ·intro vals w1 hb hd
     have d7 : KHl sA na (vals 7) w1 := hd 7 (by kernel_rfl)
     obtain ⟨v, ev, hv⟩ := d7
     rw [ev]
     refine qaq (v := v) (w' := w1) (by go_simp) (qar (Below.refl _ _) hv (fun h => by cases h))
    ·intro vals w1 hb hd
     have d7 : KHl sA na (vals 7) w1 := hd 7 (by kernel_rfl)
     obtain ⟨v, ev, hv⟩ := d7
     rw [ev]
     refine qbv (v := .int .i64 (na : Nat)) (fun w => by go_simp) (qLk rfl rfl)
    ·intro vals w1 hb hd
     refine qaq (v := .pointer (some ⟨w1.heap.size, 0, none⟩)) (w' := w1.alloc (.cells #[.int .i64 0, .slice none 0 0, .int .i64 0] 27)) (by go_simp) (qar ((Below.refl _ _).alloc (Nat.le_refl _) _) ⟨_, hb.size, rfl, heap_alloc_new _ _⟩ (fun _ => ⟨rfl, by simp⟩))
   case tlWa =>
    intro vals w5 hb5 hf5 hdis
    simp only [List.drop_succ_cons, List.drop_zero]
    have z1 : vals 9 = _ := hf5 9 (by decide)
    obtain ⟨gA, hgA, ev, hzA⟩ : KNew W.heap.size #[.int .i64 0, .slice none 0 0, .int .i64 0] 27 (vals 10) w5 := hf5 10 (by decide)
    have hta : TrH w5 (vals 8) sA := hf5 8 (by decide)
    rw [z1, ev]
    obtain ⟨va, hva⟩ : ∃ u, u = vals 8 := ⟨_, rfl⟩
    rw [← hva] at hta ⊢
    clear z1 ev hf5 hdis hva
    obtain ⟨av, ar, aa, an, ac, rfl⟩ := hta.tr.shape
    go_wp2_with (with_reducible refine qaf ?_)
    refine qan gA 0 [.int .i64 av, .slice aa an ac, .int .i64 ar] hzA rfl rfl (Nat.le_of_ble_eq_true rfl) (by kernel_rfl) rfl ?_
    intro w6 hp6
    have n3A : g3 ≠ gA := by have := qaw G3.out; omega
    have n5A : g5 ≠ gA := by have := qaw G5.out; omega
    have n6A : g6 ≠ gA := by have := qaw G6.out; omega
    have hs4 := HB.out.size
    have KA6 := keepH_trans (qcb hb5) (qes hp6 hzA (by simp))
    have HY := qHd (HY.out.keep KA6)
    have G3 := qHd (qbr hp6 (qaa G3.out hb5) n3A); have G5 := qHd (qbr hp6 (qaa G5.out hb5) n5A); have G6 := qHd (qbr hp6 (qaa G6.out hb5) n6A)
    have BA := qHd (show w6.heap[gA]? = some (.cells #[.int .i64 av, .slice aa an ac, .int .i64 ar] 27) by rw [hp6]; exact qbd hzA)
    have HB := qHd (qbl hp6 (HB.out.trans (hb5.mono HB.out.size)) (by omega))
    have TA := qHd (hta.keep (qes hp6 hzA (by simp)))
    clear hp6 hb5 hzA hta KA6
    have IHB := qHd (fun w1 (hbl : Below w.heap.size w w1) => IHB.out w1 hbl)
    go_wp2_with (with_reducible first | refine qad ?_ | refine qai ?_ | refine qaj ?_ | refine qak ?_ | refine qag ?_)
    refine qap.mk ?_
    refine qao (A := ?aaWb) (w := w6) 13 [11] (by kernel_rfl) (Fl [KEq (.pointer (some ⟨g3, 1, none⟩)), KEq (.slice (some ⟨bk, ok, none⟩) 2 c), KEq (.pointer (some ⟨bk, ok + 3, none⟩)), KEq (.agg #[.int .i64 kvb, .slice kab knb kcb, .int .i64 krb]), KEq (.int .i64 k), KEq (.int .i64 (na : Nat)), KEq (.int .i64 k2), KEq (.agg #[.int .i64 yv, .slice ya yn yc, .int .i64 yr]), KHl sB nb, KHl sB nb, KHt sB, KEq (.int .i64 (nb : Nat)), KNew w6.heap.size #[.int .i64 0, .slice none 0 0, .int .i64 0] 27]) (fun i => i == 12) (by kernel_rfl) ?hqWb (qcw (qae (kEq _) (qae (kEq _) (qae (kEq _) (qae (kEq _) (qae (kEq _) (qae (kEq _) (qae (kEq _) (qae (kEq _) (qae (kHl _ _) (qae (kHl _ _) (qae (kHt _) (qae (kEq _) (qae (kNew _ _ _) qcv)))))))))))))) ?haWb ?stWb ?tlWb
    case hqWb =>
     intro c a d v w h
     first | (simp only [Exit.then] at h ⊢; exact h) | (simp only [Exit.inBlock, Exit.then] at h ⊢; exact h) | exact h
    case haWb =>
     intro vals
     simp only [qba, qcd, if_true, Act.put, List.setIfInBounds_toArray, List.set_cons_zero, List.set_cons_succ, List.getElem?_toArray, List.getElem?_cons_zero, List.getElem?_cons_succ, Option.bind_some]
     exact rfl
    case stWb =>
     simp only [List.take_succ_cons, List.take_zero]
     refine qab rfl rfl ?_ (qab rfl rfl ?_ (qab rfl rfl ?_ (qab rfl rfl ?_ (qab rfl rfl ?_ (qab rfl rfl ?_ (qab rfl rfl ?_ (qab rfl rfl ?_ (qab rfl rfl ?_ (qab rfl rfl ?_ (qab rfl rfl ?_ (qct rfl ?_ (qab rfl rfl ?_ (qav)))))))))))))
     ·intro vals w1 hb hd
      refine qSv (.pointer (some ⟨g3, 1, none⟩)) (by go_simp) (qLk rfl rfl)
     ·intro vals w1 hb hd
      obtain ⟨e0, e1, e2⟩ := qay (qaa G3.out hb)
      rw [show vals 0 = .pointer (some ⟨g3, 1, none⟩) from hd 0 (by kernel_rfl)]
      refine qSv (.slice (some ⟨bk, ok, none⟩) 2 c) (by go_simp) (qLk rfl rfl)
     ·intro vals w1 hb hd
      rw [show vals 1 = .slice (some ⟨bk, ok, none⟩) 2 c from hd 1 (by kernel_rfl)]
      refine qSv (.pointer (some ⟨bk, ok + 3, none⟩)) (by go_simp) (qLk rfl rfl)
     ·intro vals w1 hb hd
      have hbx := HB.out.trans (hb.mono HB.out.size)
      have k0 := (hbx.cell (p := ⟨bk, _, none⟩) hbk).trans KB.out.1
      have k1 := (hbx.cell (p := ⟨bk, _, none⟩) hbk).trans KB.out.2.1
      have k2 := (hbx.cell (p := ⟨bk, _, none⟩) hbk).trans KB.out.2.2
      rw [show vals 2 = .pointer (some ⟨bk, ok + 3, none⟩) from hd 2 (by kernel_rfl)]
      refine qSv (.agg #[.int .i64 kvb, .slice kab knb kcb, .int .i64 krb]) (by go_simp) (qLk rfl rfl)
     ·intro vals w1 hb hd
      refine qSv (.int .i64 k) (by go_simp) (qLk rfl rfl)
     ·intro vals w1 hb hd
      refine qSv (.int .i64 (na : Nat)) (by go_simp) (qLk rfl rfl)
     ·intro vals w1 hb hd
      rw [show vals 4 = .int .i64 k from hd 4 (by kernel_rfl)]
      rw [show vals 5 = .int .i64 (na : Nat) from hd 5 (by kernel_rfl)]
      refine qSv (.int .i64 k2) (by go_simp; first | done | exact DK.out) (qLk rfl rfl)
     ·intro vals w1 hb hd
      obtain ⟨e0, e1, e2⟩ := qay (qaa G5.out hb)
      refine qSv (.agg #[.int .i64 yv, .slice ya yn yc, .int .i64 yr]) (by go_simp) (qLk rfl rfl)
     ·intro vals w1 hb hd
      have d3 : KEq (.agg #[.int .i64 kvb, .slice kab knb kcb, .int .i64 krb]) (vals 3) w1 := hd 3 (by kernel_rfl)
      have d6 : KEq (.int .i64 k2) (vals 6) w1 := hd 6 (by kernel_rfl)
      have d7 : KEq (.agg #[.int .i64 yv, .slice ya yn yc, .int .i64 yr]) (vals 7) w1 := hd 7 (by kernel_rfl)
      have HS := qHd (IHB.out w1 (HB.out.trans (hb.mono HB.out.size)))
      have z3 : vals 3 = _ := d3
      rw [z3]; clear z3
      have z6 : vals 6 = _ := d6
      rw [z6]; clear z6
      have z7 : vals 7 = _ := d7
      rw [z7]; clear z7
      refine qat (by go_simp; first | done | exact ⟨⟨rfl, rfl⟩, rfl⟩) ?_
      (with_reducible refine HS.out.mono ?_); rintro e w2 ⟨v, rfl, hv, hb2⟩
      exact ⟨_, rfl, qar hb2 ⟨v, rfl, hv⟩ (fun h => by cases h)⟩
     ·intro vals w1 hb hd
      have d8 : KHl sB nb (vals 8) w1 := hd 8 (by kernel_rfl)
      obtain ⟨v, ev, hv⟩ := d8
      rw [ev]
      refine qaq (v := .tuple #[v, .int .i64 (nb : Nat)]) (w' := w1) (by go_simp) (qar (Below.refl _ _) ⟨v, rfl, hv⟩ (fun h => by cases h))
     ·intro vals w1 hb hd
      have d9 : KHl sB nb (vals 9) w1 := hd 9 (by kernel_rfl)
      obtain ⟨v, ev, hv⟩ := d9
      rw [ev]
      refine qaq (v := v) (w' := w1) (by go_simp) (qar (Below.refl _ _) hv (fun h => by cases h))
     ·intro vals w1 hb hd
      have d9 : KHl sB nb (vals 9) w1 := hd 9 (by kernel_rfl)
      obtain ⟨v, ev, hv⟩ := d9
      rw [ev]
      refine qbv (v := .int .i64 (nb : Nat)) (fun w => by go_simp) (qLk rfl rfl)
     ·intro vals w1 hb hd
      refine qaq (v := .pointer (some ⟨w1.heap.size, 0, none⟩)) (w' := w1.alloc (.cells #[.int .i64 0, .slice none 0 0, .int .i64 0] 27)) (by go_simp) (qar ((Below.refl _ _).alloc (Nat.le_refl _) _) ⟨_, hb.size, rfl, heap_alloc_new _ _⟩ (fun _ => ⟨rfl, by simp⟩))
    case tlWb =>
     intro vals w7 hb7 hf7 hdis
     simp only [List.drop_succ_cons, List.drop_zero]
     have z1 : vals 11 = _ := hf7 11 (by decide)
     obtain ⟨gC, hgC, ev, hzC⟩ : KNew w6.heap.size #[.int .i64 0, .slice none 0 0, .int .i64 0] 27 (vals 12) w7 := hf7 12 (by decide)
     have htb : TrH w7 (vals 10) sB := hf7 10 (by decide)
     rw [z1, ev]
     obtain ⟨vb, hvb⟩ : ∃ u, u = vals 10 := ⟨_, rfl⟩
     rw [← hvb] at htb ⊢
     clear z1 ev hf7 hdis hvb
     obtain ⟨bv, br, ba, bn, bc, rfl⟩ := htb.tr.shape
     go_wp2_with (with_reducible refine qaf ?_)
     refine qan gC 0 [.int .i64 bv, .slice ba bn bc, .int .i64 br] hzC rfl rfl (Nat.le_of_ble_eq_true rfl) (by kernel_rfl) rfl ?_
     intro w8 hp8
     have n3C : g3 ≠ gC := by have := qaw G3.out; omega
     have n6C : g6 ≠ gC := by have := qaw G6.out; omega
     have nAC : gA ≠ gC := by have := qaw BA.out; omega
     have hs6 := HB.out.size
     have TA := qHd ((TA.out.keep (qcb hb7)).keep (qes hp8 hzC (by simp))); have TB := qHd (htb.keep (qes hp8 hzC (by simp)))
     have G3 := qHd (qbr hp8 (qaa G3.out hb7) n3C); have G6 := qHd (qbr hp8 (qaa G6.out hb7) n6C); have BA := qHd (qbr hp8 (qaa BA.out hb7) nAC)
     have BC := qHd (show w8.heap[gC]? = some (.cells #[.int .i64 bv, .slice ba bn bc, .int .i64 br] 27) by rw [hp8]; exact qbd hzC)
     have HB := qHd (qbl hp8 (HB.out.trans (hb7.mono HB.out.size)) (by omega))
     clear hp8 hb7 hzC htb
     obtain ⟨w9, hw9, hb9, g9, hG9, hg9⟩ := qBx5 w8 (.cells #[.int .i64 av, .slice aa an ac, .int .i64 ar, .int .i64 bv, .slice ba bn bc, .int .i64 br] 27)
     have n96 : g9 ≠ g6 := by have := qaw G6.out; omega
     obtain ⟨a0, a1, a2⟩ := qay BA.out
     obtain ⟨c0, c1, c2⟩ := qay BC.out
     obtain ⟨x0, x1, x2⟩ := qay G3.out
     go_wp2_with (with_reducible refine qaf ?_)
     rw [← hw9, ← hG9]
     clear hw9 hG9 a0 a1 a2 c0 c1 c2 x0 x1 x2
     refine qan g6 0 [.int .i64 v, .slice (some ⟨g9, 0, none⟩) 2 2, .int .i64 0] (qaa G6.out hb9) rfl rfl (Nat.le_of_ble_eq_true rfl) (by kernel_rfl) rfl ?_
     intro wz hpz
     have GZ := qHd (show wz.heap[g6]? = some (.cells #[.int .i64 v, .slice (some ⟨g9, 0, none⟩) 2 2, .int .i64 0] 27) by rw [hpz]; exact qbd (qaa G6.out hb9))
     have G9z := qHd (qbr hpz hg9 n96)
     have KZ := keepH_trans (qcb hb9) (qes hpz (qaa G6.out hb9) (by simp)); have TAz := qHd (TA.out.keep KZ); have TBz := qHd (TB.out.keep KZ); clear KZ
     have HBz := qHd (qbl hpz (HB.out.trans (hb9.mono HB.out.size)) l6)
     clear hpz hg9 hb9
     go_wp2_with (with_reducible first | refine qad ?_ | refine qai ?_ | refine qaj ?_ | refine qak ?_ | refine qag ?_)
     refine qcl rfl g6 #[.int .i64 v, .slice (some ⟨g9, 0, none⟩) 2 2, .int .i64 0] rfl GZ.out Tryz.underlying27 rfl (by kernel_rfl) rfl ?_
     rw [R.out]
     exact ⟨_, rfl, fun w2 h2 => trV_node (by rw [h2 g9 _ G9z.out (by simp)]; exact G9z.out) (TAz.out w2 h2) (TBz.out w2 h2) hiv ⟨by decide, by decide⟩, HBz.out⟩
  | .mk v [a] r, hok, _, _, _, _ => simp only [qej] at hok
  | .mk v (_ :: _ :: _ :: _) r, hok, _, _, _, _ => simp only [qej] at hok
def RetMkH (w : World) (t : Tr) (er : Nat) (e : Ending) (w' : World) : Prop := ∃ v, e = .returned (.tuple #[v, errV er]) ∧ Below w.heap.size w w' ∧ TrH w' v t
theorem pSwap_any (x y : Value) (t by_ : Tr) (hft : FlatT by_) (vars k : Int) (w : World) (ht : TrV w x t) (hy : TrH w y by_) (hv : 0 ≤ vars ∧ vars ≤ 24) (hk : I64 k) :
  Calls Tryz.prog 54 #[x, .int .i64 vars, .int .i64 k, y] w (RetMkH w (swpV vars t k by_).1 (swpV vars t k by_).2) := by
 have HT := qHd ht; have HV := qHd hv; have HFT := qHd hft
 unfold I64 at hk
 obtain ⟨tv, tr, ta, tn, tc, rfl⟩ := ht.shape
 obtain ⟨yv, yr, ya, yn, yc, rfl⟩ := hy.tr.shape
 obtain ⟨wa, hwa⟩ : ∃ x, x = w.alloc (.cells #[.int .i64 tv, .slice ta tn tc, .int .i64 tr] 27) := ⟨_, rfl⟩
 obtain ⟨wb, hwb⟩ : ∃ x, x = wa.alloc (.cells #[.int .i64 yv, .slice ya yn yc, .int .i64 yr] 27) := ⟨_, rfl⟩
 obtain ⟨W, hW⟩ : ∃ x, x = wb.alloc (.cells #[.int .i64 0, .slice none 0 0, .int .i64 0] 27) := ⟨_, rfl⟩
 have ba : Below w.heap.size w wa := by rw [hwa]; exact qBA _ _
 have bb : Below wa.heap.size wa wb := by rw [hwb]; exact qBA _ _
 have bW : Below wb.heap.size wb W := by rw [hW]; exact qBA _ _
 have sa : wa.heap.size = w.heap.size + 1 := by rw [hwa]; exact Array.size_push (xs := w.heap) _
 have sb : wb.heap.size = w.heap.size + 1 + 1 := by rw [← sa, hwb]; exact Array.size_push (xs := wa.heap) _
 have hg4 : W.heap[w.heap.size]? = some (.cells #[.int .i64 tv, .slice ta tn tc, .int .i64 tr] 27) := qaa (qaa (by rw [hwa]; exact heap_alloc_new w _) bb) bW
 have hg7 : W.heap[w.heap.size + 1]? = some (.cells #[.int .i64 yv, .slice ya yn yc, .int .i64 yr] 27) := qaa (by rw [← sa, hwb]; exact heap_alloc_new wa _) bW
 have hg8 : W.heap[w.heap.size + 1 + 1]? = some (.cells #[.int .i64 0, .slice none 0 0, .int .i64 0] 27) := by rw [← sb, hW]; exact heap_alloc_new wb _
 have HB := qHd (ba.trans ((bb.mono ba.size).trans (bW.mono (Nat.le_trans ba.size bb.size))))
 obtain ⟨g4, hG4⟩ : ∃ g, g = w.heap.size := ⟨_, rfl⟩
 obtain ⟨g7, hG7⟩ : ∃ g, g = w.heap.size + 1 := ⟨_, rfl⟩
 obtain ⟨g8, hG8⟩ : ∃ g, g = w.heap.size + 1 + 1 := ⟨_, rfl⟩
 rw [← hG4] at hg4; rw [← hG7] at hg7; rw [← hG8] at hg8
 have l8 : w.heap.size ≤ g8 := by omega
 have G4 := qHd hg4; have G7 := qHd hg7; have G8 := qHd hg8; have HY := qHd hy
 obtain ⟨x0, x1, x2⟩ := qay hg4
 rw [hW, hwb, hwa, hG4] at x0 x1 x2
 have HK := qHd (scheck_any _ t vars W (HT.out.below HB.out) HV.out)
 obtain ⟨ec, hec⟩ : ∃ ec, (qbh vars t 0 0).2 = ec := ⟨_, rfl⟩
 rw [hec] at HK
 have HE := qHd hec
 clear ba bb bW sa sb hg4 hg7 hg8 ht hv hec hy hft
 go_enter Tryz.func54, Tryz.ntmps54
 go_wp2_with (with_reducible refine qad ?_)
 rw [← hwa, ← hwb, ← hW, ← hG8, ← hG7, ← hG4]
 clear hwa hwb hW hG8 hG7 hG4 x0 x1 x2
 refine qap.mk ?_
 (with_reducible refine HK.out.mono ?_); rintro e w0 ⟨rfl, hb0⟩
 have HB := qHd (HB.out.trans (hb0.mono HB.out.size)); have G4 := qHd (qaa G4.out hb0); have G7 := qHd (qaa G7.out hb0); have G8 := qHd (qaa G8.out hb0)
 clear hb0 HK
 by_cases h0 : ec = 0
 ·subst h0
  obtain ⟨m, hm⟩ : ∃ m, qbh vars t 0 0 = (m, 0) := ⟨(qbh vars t 0 0).1, Prod.ext rfl HE.out⟩
  obtain ⟨k1, k2, k3⟩ := qfh t 0 0 m hm
  have hlv := (qdf t).2
  have hdp := (qdf t).1
  have KK := qHd (And.intro k1 (show qei t ≤ 4096 by omega))
  have hl4 : qdo t ≤ 4096 := by omega
  have HK := qHd (size_n vars _ t (Nat.lt_succ_self _) 0 _ w0 k1 (by omega) (HT.out.below HB.out))
  obtain ⟨lv, hlve⟩ : ∃ lv, lv = qdo t := ⟨_, rfl⟩
  rw [← hlve] at hl4 HK
  have HLV := qHd hlve
  obtain ⟨sz, hsze⟩ : ∃ z, z = qei t := ⟨_, rfl⟩
  obtain ⟨dp, hdpe⟩ : ∃ z, z = trDep t := ⟨_, rfl⟩
  rw [← hsze, ← hdpe] at HK
  clear hm k1 k2 k3 hlv hlve hsze hdpe hdp
  rw [qbi]
  obtain ⟨x0, x1, x2⟩ := qay G4.out
  go_wp2_with (with_reducible refine qad ?_)
  clear x0 x1 x2
  refine qap.mk ?_
  (with_reducible refine HK.out.mono ?_); rintro e w1 ⟨rfl, hb1⟩
  have HB := qHd (HB.out.trans (hb1.mono HB.out.size)); have G4 := qHd (qaa G4.out hb1); have G7 := qHd (qaa G7.out hb1); have G8 := qHd (qaa G8.out hb1)
  clear hb1 HK
  by_cases hn : k < 0
  ·have R := qHd (show swpV vars t k by_ = (.mk 0 [] 0, 10) by unfold swpV; rw [if_neg (fun h => h HE.out), if_pos (.inl hn)])
   go_wp2_with (with_reducible refine qaf ?_)
   refine qan g8 0 [.int .i64 0, .slice none 0 0, .int .i64 0] G8.out rfl rfl (Nat.le_of_ble_eq_true rfl) (by kernel_rfl) rfl ?_
   intro wz hpz
   have GZ := qHd (show wz.heap[g8]? = some (.cells #[.int .i64 0, .slice none 0 0, .int .i64 0] 27) by rw [hpz]; exact qbd G8.out)
   have HBz := qHd (qbl hpz HB.out l8)
   clear hpz
   go_wp2_with (with_reducible first | refine qad ?_ | refine qai ?_ | refine qaj ?_ | refine qak ?_ | refine qag ?_)
   refine qcl rfl g8 #[.int .i64 0, .slice none 0 0, .int .i64 0] rfl GZ.out Tryz.underlying27 rfl (by kernel_rfl) rfl ?_
   exact ⟨_, by rw [R.out]; rfl, HBz.out, by rw [R.out]; exact fun w2 _ => TrV.leaf w2 ⟨by decide, by decide⟩⟩
  by_cases hl : (lv : Int) ≤ k
  ·have R := qHd (show swpV vars t k by_ = (.mk 0 [] 0, 10) by unfold swpV; rw [if_neg (fun h => h HE.out), if_pos (.inr (by rw [← HLV.out]; exact hl))])
   go_wp2_with (with_reducible refine qaf ?_)
   refine qan g8 0 [.int .i64 0, .slice none 0 0, .int .i64 0] G8.out rfl rfl (Nat.le_of_ble_eq_true rfl) (by kernel_rfl) rfl ?_
   intro wz hpz
   have GZ := qHd (show wz.heap[g8]? = some (.cells #[.int .i64 0, .slice none 0 0, .int .i64 0] 27) by rw [hpz]; exact qbd G8.out)
   have HBz := qHd (qbl hpz HB.out l8)
   clear hpz
   go_wp2_with (with_reducible first | refine qad ?_ | refine qai ?_ | refine qaj ?_ | refine qak ?_ | refine qag ?_)
   refine qcl rfl g8 #[.int .i64 0, .slice none 0 0, .int .i64 0] rfl GZ.out Tryz.underlying27 rfl (by kernel_rfl) rfl ?_
   exact ⟨_, by rw [R.out]; rfl, HBz.out, by rw [R.out]; exact fun w2 _ => TrV.leaf w2 ⟨by decide, by decide⟩⟩
  obtain ⟨sT, hsT⟩ : ∃ z, z = (qbo by_ t k).1 := ⟨_, rfl⟩
  have E1 := qHd (show swpV vars t k by_ = if (qbh vars sT 0 0).2 ≠ 0 then (.mk 0 [] 0, (qbh vars sT 0 0).2) else (sT, 0) by
   unfold swpV; rw [if_neg (fun h => h HE.out), if_neg (by rw [← HLV.out]; omega), hsT])
  have HK := qHd (pswap_n vars by_ HFT.out _ t (Nat.lt_succ_self _) 0 k _ _ w1 KK.out.1 KK.out.2 (by have := KK.out.2; omega) (by omega) (HT.out.below HB.out) (HY.out.keep (qcb HB.out)))
  rw [← hsT] at HK
  clear hsT
  obtain ⟨sc, hsc⟩ : ∃ z, z = (qbo by_ t k).2 := ⟨_, rfl⟩
  rw [← hsc] at HK
  clear hsc
  obtain ⟨x0, x1, x2⟩ := qay G4.out
  obtain ⟨y0, y1, y2⟩ := qay G7.out
  go_wp2_with (with_reducible refine qad ?_)
  clear x0 x1 x2 y0 y1 y2
  refine qap.mk ?_
  (with_reducible refine HK.out.mono ?_); rintro e w2 ⟨v2, rfl, hs2, hb2⟩
  obtain ⟨sv, sr, sa, sn, sx, rfl⟩ := hs2.tr.shape
  have HB := qHd (HB.out.trans (hb2.mono HB.out.size)); have G8 := qHd (qaa G8.out hb2)
  obtain ⟨w3, hw3, hb3, g14, hG14, hg14⟩ := qBx5 w2 (.cells #[.int .i64 sv, .slice sa sn sx, .int .i64 sr] 27)
  have HS := qHd (hs2.keep (qcb hb3))
  have HB := qHd (HB.out.trans (hb3.mono HB.out.size)); have G8 := qHd (qaa G8.out hb3); have G14 := qHd hg14
  obtain ⟨x0, x1, x2⟩ := qay hg14
  rw [hw3, hG14] at x0 x1 x2
  have HK := qHd (scheck_any _ sT vars w3 HS.out.tr HV.out)
  obtain ⟨e2, he2⟩ : ∃ e2, (qbh vars sT 0 0).2 = e2 := ⟨_, rfl⟩
  rw [he2] at HK E1
  clear hb2 hs2 hb3 hg14 he2
  go_wp2_with (with_reducible refine qad ?_)
  rw [← hw3, ← hG14]
  clear hw3 hG14 x0 x1 x2
  refine qap.mk ?_
  (with_reducible refine HK.out.mono ?_); rintro e w4 ⟨rfl, hb4⟩
  have HB := qHd (HB.out.trans (hb4.mono HB.out.size)); have G8 := qHd (qaa G8.out hb4); have G14 := qHd (qaa G14.out hb4)
  have HS := qHd (HS.out.keep (qcb hb4))
  clear hb4 HK
  by_cases h2 : e2 = 0
  ·subst h2
   have R := qHd (E1.out.trans (if_neg (fun h => h rfl)))
   rw [qbi]
   obtain ⟨x0, x1, x2⟩ := qay G14.out
   go_wp2_with (with_reducible refine qaf ?_)
   clear x0 x1 x2
   refine qan g8 0 [.int .i64 sv, .slice sa sn sx, .int .i64 sr] G8.out rfl rfl (Nat.le_of_ble_eq_true rfl) (by kernel_rfl) rfl ?_
   intro wz hpz
   have GZ := qHd (show wz.heap[g8]? = some (.cells #[.int .i64 sv, .slice sa sn sx, .int .i64 sr] 27) by rw [hpz]; exact qbd G8.out)
   have HBz := qHd (qbl hpz HB.out l8)
   have HSz := qHd (HS.out.keep (qes hpz G8.out (by simp)))
   clear hpz
   go_wp2_with (with_reducible first | refine qad ?_ | refine qai ?_ | refine qaj ?_ | refine qak ?_ | refine qag ?_)
   refine qcl rfl g8 #[.int .i64 sv, .slice sa sn sx, .int .i64 sr] rfl GZ.out Tryz.underlying27 rfl (by kernel_rfl) rfl ?_
   exact ⟨_, by rw [R.out]; rfl, HBz.out, by rw [R.out]; exact HSz.out⟩
  ·have R := qHd (E1.out.trans (if_pos h2))
   rw [qbz h2]
   go_wp2_with (with_reducible refine qaf ?_)
   refine qan g8 0 [.int .i64 0, .slice none 0 0, .int .i64 0] G8.out rfl rfl (Nat.le_of_ble_eq_true rfl) (by kernel_rfl) rfl ?_
   intro wz hpz
   have GZ := qHd (show wz.heap[g8]? = some (.cells #[.int .i64 0, .slice none 0 0, .int .i64 0] 27) by rw [hpz]; exact qbd G8.out)
   have HBz := qHd (qbl hpz HB.out l8)
   clear hpz
   go_wp2_with (with_reducible first | refine qad ?_ | refine qai ?_ | refine qaj ?_ | refine qak ?_ | refine qag ?_)
   refine qcl rfl g8 #[.int .i64 0, .slice none 0 0, .int .i64 0] rfl GZ.out Tryz.underlying27 rfl (by kernel_rfl) rfl ?_
   exact ⟨_, by rw [R.out, qbz h2]; rfl, HBz.out, by rw [R.out]; exact fun w2 _ => TrV.leaf w2 ⟨by decide, by decide⟩⟩
 ·have R := qHd (show swpV vars t k by_ = (.mk 0 [] 0, ec) by unfold swpV; rw [HE.out, if_pos h0])
  rw [qbz h0]
  go_wp2_with (with_reducible refine qaf ?_)
  refine qan g8 0 [.int .i64 0, .slice none 0 0, .int .i64 0] G8.out rfl rfl (Nat.le_of_ble_eq_true rfl) (by kernel_rfl) rfl ?_
  intro wz hpz
  have GZ := qHd (show wz.heap[g8]? = some (.cells #[.int .i64 0, .slice none 0 0, .int .i64 0] 27) by rw [hpz]; exact qbd G8.out)
  have HBz := qHd (qbl hpz HB.out l8)
  clear hpz
  go_wp2_with (with_reducible first | refine qad ?_ | refine qai ?_ | refine qaj ?_ | refine qak ?_ | refine qag ?_)
  refine qcl rfl g8 #[.int .i64 0, .slice none 0 0, .int .i64 0] rfl GZ.out Tryz.underlying27 rfl (by kernel_rfl) rfl ?_
  exact ⟨_, by rw [R.out, qbz h0]; rfl, HBz.out, by rw [R.out]; exact fun w2 _ => TrV.leaf w2 ⟨by decide, by decide⟩⟩
theorem prefine_any (vf x v : Value) (f : Fm) (t : Tr) (L : List Rv) (w : World) (hf : FmV w vf f) (ht : TrV w x t) (hp : RvsV w v L) (hsm : ∀ r ∈ L, r.a.length ≤ 3 ∧ r.b.length ≤ 3 ∧ rl r.q ≤ 3) (hlv : cErr f t = 0 → (qah t 0 0).length ≤ 300) (er : Nat) (her : sErr f t L = er) :
  Calls Tryz.prog 23 #[vf, v, x] w (RetMkH w (rfV f t L).1 (rfV f t L).2) := by
 have HER := qHd her; have HSM := qHd hsm; have HLVB := qHd hlv
 obtain ⟨ap, cp, rfl, hcp, hcp2, _⟩ := hp.shape
 obtain ⟨nv, rfl, hn, hv, htp⟩ := hf
 obtain ⟨ao, c, rfl, hc, hc2, _⟩ := hn.shape
 have HF := qHd (show FmV w _ f from ⟨_, rfl, hn, hv, htp⟩)
 have HT := qHd ht; have HP := qHd hp
 obtain ⟨tv, tr, ta, tn, tc, rfl⟩ := ht.shape
 obtain ⟨W0, hW0⟩ : ∃ W, W = (w.alloc (.cells #[.int .i64 f.vars, .slice ao f.nodes.length c, .int .i64 f.top] 24)).alloc (.cells #[.int .i64 tv, .slice ta tn tc, .int .i64 tr] 27) := ⟨_, rfl⟩
 obtain ⟨W, hW⟩ : ∃ W, W = W0.alloc (.cells #[.int .i64 0, .slice none 0 0, .int .i64 0] 27) := ⟨_, rfl⟩
 have hb0 : Below w.heap.size w W0 := by rw [hW0]; exact ((Below.refl _ _).alloc (Nat.le_refl _) _).alloc (by simp) _
 have hb1 : Below W0.heap.size W0 W := by rw [hW]; exact qBA _ _
 have hs0 : W0.heap.size = w.heap.size + 1 + 1 := by rw [hW0]; simp
 have hg3 : W.heap[w.heap.size]? = some (.cells #[.int .i64 f.vars, .slice ao f.nodes.length c, .int .i64 f.top] 24) := qaa (by rw [hW0]; exact heap_alloc2_old w _ _) hb1
 have hg5 : W.heap[w.heap.size + 1]? = some (.cells #[.int .i64 tv, .slice ta tn tc, .int .i64 tr] 27) := qaa (by rw [hW0]; exact heap_alloc2_new w _ _) hb1
 have hg6 : W.heap[w.heap.size + 1 + 1]? = some (.cells #[.int .i64 0, .slice none 0 0, .int .i64 0] 27) := by rw [hW, ← hs0]; exact heap_alloc_new W0 _
 rw [hW0] at hW
 obtain ⟨g3, hG3⟩ : ∃ g, g = w.heap.size := ⟨_, rfl⟩
 obtain ⟨g5, hG5⟩ : ∃ g, g = w.heap.size + 1 := ⟨_, rfl⟩
 obtain ⟨g6, hG6⟩ : ∃ g, g = w.heap.size + 1 + 1 := ⟨_, rfl⟩
 rw [← hG3] at hg3; rw [← hG5] at hg5; rw [← hG6] at hg6
 have l6 : w.heap.size ≤ g6 := by omega
 have n36 : g3 ≠ g6 := by omega
 have n56 : g5 ≠ g6 := by omega
 have HBW := qHd (hb0.trans (hb1.mono hb0.size)); have G6 := qHd hg6; have G3 := qHd hg3; have G5 := qHd hg5
 obtain ⟨x0, x1, x2⟩ := qay hg3
 obtain ⟨y0, y1, y2⟩ := qay hg5
 rw [hW, hG3] at x0 x1 x2
 rw [hW, hG5] at y0 y1 y2
 have HK := qHd (sums_any _ _ _ f t L W (HF.out.below HBW.out) (HT.out.below HBW.out) (HP.out.below HBW.out) hsm hlv er her)
 clear hb0 hb1 hs0 hg3 hg5 hg6 hW0 hn hv htp ht hp hsm hlv her
 go_enter Tryz.func23, Tryz.ntmps23
 go_wp2_with (with_reducible refine qad ?_)
 rw [← hW, ← hG6, ← hG5, ← hG3]; clear hW hG3 hG5 hG6 x0 x1 x2 y0 y1 y2
 refine qap.mk ?_
 (with_reducible refine HK.out.mono ?_); rintro e w1 ⟨s0, s1, s2, o0, a0, o1, a1, o2, a2, n0, c0, m0, d0, n1, c1, m1, d1, n2, c2, m2, d2, vl, rfl, hb1, hr⟩
 obtain ⟨wa, hwa, hba, g8, hG8, hga⟩ := qBx5 w1 (.cells #[.bool false, .slice none 0 0, .slice none 0 0, .bool false, .slice none 0 0, .slice none 0 0, .bool false, .slice none 0 0, .slice none 0 0] 105)
 go_wp2_with (with_reducible refine qaf ?_)
 rw [← hwa, ← hG8]
 refine qan g8 0 [.bool s0, .slice o0 n0 c0, .slice a0 m0 d0, .bool s1, .slice o1 n1 c1, .slice a1 m1 d1, .bool s2, .slice o2 n2 c2, .slice a2 m2 d2] hga rfl rfl (Nat.le_of_ble_eq_true rfl) (by kernel_rfl) rfl ?_
 intro w2 hp2
 have ne68 : g6 ≠ g8 := by have := qaw G6.out; have := hb1.size; omega
 have l8 : w.heap.size ≤ g8 := by have := (HBW.out.trans (hb1.mono HBW.out.size)).size; omega
 have hb12 := hb1.trans (hba.mono hb1.size)
 have HBc := qHd (qbl hp2 (HBW.out.trans (hb12.mono HBW.out.size)) l8); have G6 := qHd (qbr hp2 (qaa G6.out hb12) ne68)
 have G8 := qHd (show w2.heap[g8]? = some (.cells #[.bool s0, .slice o0 n0 c0, .slice a0 m0 d0, .bool s1, .slice o1 n1 c1, .slice a1 m1 d1, .bool s2, .slice o2 n2 c2, .slice a2 m2 d2] 105) by rw [hp2]; exact putL_99 hga)
 have HR := qHd (show er = 0 → IsR w2 (.agg #[.bool s0, .slice o0 n0 c0, .slice a0 m0 d0]) (sumF (L.map Rv.q) 0 (qah t 0 0) 0) ∧ IsR w2 (.agg #[.bool s1, .slice o1 n1 c1, .slice a1 m1 d1]) (sumF (L.map Rv.q) 1 (qah t 0 0) 0) ∧ LfsV w2 vl (qah t 0 0) from fun h => ⟨qbq hp2 ((hr h).1.below hba) hga noW9, qbq hp2 ((hr h).2.1.below hba) hga noW9, putL_lfs hp2 ((hr h).2.2.2.below hba) hga noI9⟩)
 have n38 : g3 ≠ g8 := by have := qaw G3.out; have := hb1.size; omega
 have n58 : g5 ≠ g8 := by have := qaw G5.out; have := hb1.size; omega
 have G3 := qHd (qbr hp2 (qaa G3.out hb12) n38); have G5 := qHd (qbr hp2 (qaa G5.out hb12) n58)
 clear hwa hG8 hp2 hba hga hb1 hb12 hr HK
 by_cases h0 : er = 0
 case neg =>
  have R := qHd (rfV_bad HER.out h0)
  rw [qbz h0]
  go_wp2_with (with_reducible refine qaf ?_)
  refine qan g6 0 [.int .i64 0, .slice none 0 0, .int .i64 0] G6.out rfl rfl (Nat.le_of_ble_eq_true rfl) (by kernel_rfl) rfl ?_
  intro wz hpz
  have GZ := qHd (show wz.heap[g6]? = some (.cells #[.int .i64 0, .slice none 0 0, .int .i64 0] 27) by rw [hpz]; exact qbd G6.out)
  have HBz := qHd (qbl hpz HBc.out l6)
  clear hpz
  go_wp2_with (with_reducible first | refine qad ?_ | refine qai ?_ | refine qaj ?_ | refine qak ?_ | refine qag ?_)
  refine qcl rfl g6 #[.int .i64 0, .slice none 0 0, .int .i64 0] rfl GZ.out Tryz.underlying27 rfl (by kernel_rfl) rfl ?_
  exact ⟨_, by rw [R.out, qbz h0]; rfl, HBz.out, by rw [R.out]; exact fun w2 _ => TrV.leaf w2 ⟨by decide, by decide⟩⟩
 subst h0
 rw [qbi]
 obtain ⟨k1, k2, k3, k4⟩ := qex HER.out
 have h24 := (qbe (qds k1).1).2.1
 have h24' : L.length ≤ 24 := by omega
 have p0 := (qbe (qds k1).1).1
 have HVL := qHd (show f.vars.toNat = L.length by omega)
 have HRV := qHd (fun r hr => (show RvOK 3 r from ⟨k3 r hr, (HSM.out r hr).1, (HSM.out r hr).2.1, (HSM.out r hr).2.2⟩))
 have HFM := qHd (qds k1).1; have HOC := qHd (qdy k1); have HVV := qHd (And.intro p0 h24)
 have H300 := qHd (HLVB.out k1)
 have HLS := qHd (HR.out rfl).2.2
 clear k1 k2 k3 k4 h24 p0 HR
 obtain ⟨ls, hls⟩ : ∃ ls, ls = qah t 0 0 := ⟨_, rfl⟩
 have RN := qHd (show qfe (L.map Rv.q) ls 0 none = none → rfV f t L = (.mk 0 [] 0, 17) from fun h => rfV_none HER.out (by rw [← hls]; exact h))
 have RS := qHd (show ∀ (r : Nat × Rat) (z : Lf), qfe (L.map Rv.q) ls 0 none = some r → ls[r.1]? = some z → rfV f t L = swpV f.vars t (r.1 : Nat) (grT f 1 z.yes z.no) from fun r z h hz => rfV_some HER.out (by rw [← hls]; exact h) (by rw [← hls]; exact hz))
 rw [← hls] at HLS H300 HOC
 obtain ⟨av, cv, rfl, hcv, hcv2, _⟩ := HLS.out.shape
 have h300 := H300.out
 clear hls HER
 obtain ⟨w3, hw3, hb3, gm, hGm, hgm⟩ := qBx5 w2 (.cells #[.bool false, .slice none 0 0, .slice none 0 0] 54)
 have lm : w2.heap.size ≤ gm := by omega
 have B3 := qHd hb3; have GM := qHd hgm
 clear hb3 hgm
 go_wp2_with (with_reducible first | refine qad ?_ | refine qai ?_ | refine qaj ?_ | refine qak ?_ | refine qag ?_)
 rw [← hw3, ← hGm]
 clear hw3 hGm
 refine qap.mk ?_
 go_loopw [33, 11] (fun i' a' wx => ∃ (q : Nat) (acc : Option (Nat × Rat)) (so : Bool) (oo ao2 : Option Addr) (no co mo do_ : Nat), q ≤ ls.length ∧ i' = .int .i64 q ∧ a' = .int .i64 (atI acc) ∧ Hid (Below w2.heap.size w2 wx) ∧ Hid (wx.heap[gm]? = some (.cells #[.bool so, .slice oo no co, .slice ao2 mo do_] 54)) ∧
  Hid (∀ p, acc = some p → IsR wx (.agg #[.bool so, .slice oo no co, .slice ao2 mo do_]) p.2) ∧ Hid (qfe (L.map Rv.q) ls 0 none = qfe (L.map Rv.q) (ls.drop q) q acc) ∧ Hid (accOK (L.map Rv.q) ls acc)) (fun i' _ _ => ls.length - (intOf i').toNat)
 case atStart => exact ⟨0, none, false, none, none, 0, 0, 0, 0, Nat.zero_le _, rfl, rfl, B3, GM, qHd (fun p h => by cases h), qHd rfl, qHd (accOK_none _ _)⟩
 case round =>
  obtain ⟨q, acc, so, oo, ao2, no, co, mo, do_, hq, rfl, rfl, BX, GM, IM, PK, AK⟩ := hrel
  obtain ⟨wo, rfl⟩ : ∃ wo : World, wo = wr := ⟨_, rfl⟩
  by_cases hlt : q < ls.length
  ·obtain ⟨z, hz⟩ : ∃ z, ls[q]? = some z := ⟨ls[q], List.getElem?_eq_getElem hlt⟩
   obtain ⟨bl, ol, rfl, hbl, hjk, hat⟩ := HLS.out.at (by omega); clear hjk
   obtain ⟨c0, c1, c2⟩ := hat q z hz
   have c0 := (BX.out.cell (p := ⟨bl, _, none⟩) hbl).trans c0
   have c1 := (BX.out.cell (p := ⟨bl, _, none⟩) hbl).trans c1
   have c2 := (BX.out.cell (p := ⟨bl, _, none⟩) hbl).trans c2
   have HZ := qHd hz; have HAT := qHd hat
   have PD := qHd (PK.out.trans (pickL_drop (ps := L.map Rv.q) (acc := acc) hz))
   have HC := qHd (okC_lt (HOC.out z (List.mem_of_getElem? hz)))
   clear hat hz
   obtain ⟨xy, xn, xr⟩ := z
   simp only at c0 c1 c2 HC
   have hltz : (q : Int) < (ls.length : Int) := by omega
   obtain ⟨w4, hw4, hb4, g9, hg9, hx4⟩ := qBx5 wo (.cells #[.int .i64 (xy : Nat), .int .i64 (xn : Nat), .int .i64 xr] 48)
   obtain ⟨z0, z1, z2⟩ := qay hx4
   rw [hw4, hg9] at z0 z1 z2
   have BX4 := qHd (BX.out.trans (hb4.mono BX.out.size)); have GM := qHd (qaa GM.out hb4)
   have IM := qHd (fun p hp => (IM.out p hp).below hb4)
   clear hb4 hx4
   by_cases hr2 : xr = 2
   ·subst hr2
    obtain ⟨wx, hwx⟩ : ∃ u, u = wt (L.map Rv.q) xy xn := ⟨_, rfl⟩
    have LWX := qHd (show rl wx ≤ 121 by rw [hwx]; exact rl_wt24 h24' (fun z hz => (HRV.out z hz).lq) xy xn)
    have HK := qHd (weight_any _ L xy xn 3 w4 (HP.out.below (HBc.out.trans (BX4.out.mono HBc.out.size))) HRV.out h24' (by rw [← HVL.out]; exact HC.out.1) (by rw [← HVL.out]; exact HC.out.2.1) HC.out.2.2 (by decide))
    rw [← hwx] at HK
    have WXE := qHd hwx
    clear hwx
    go_wp2_with (with_reducible refine qad ?_)
    rw [← hw4, ← hg9]
    clear hw4 hg9 c0 c1 c2 z0 z1 z2
    refine qap.mk ?_
    (with_reducible refine HK.out.mono ?_); rintro e w5 ⟨v5, rfl, hb5, hn5⟩
    obtain ⟨sw, ow, nw, cw, aw, mw, dw, rfl⟩ := hn5.shape
    obtain ⟨w6, hw6, hb6, g15, hg15, hx6⟩ := qBx5 w5 (.cells #[.bool sw, .slice ow nw cw, .slice aw mw dw] 54)
    have IW := qHd (hn5.below hb6)
    have hb56 := hb5.trans (hb6.mono hb5.size)
    have BX := qHd (BX4.out.trans (hb56.mono BX4.out.size)); have GM := qHd (qaa GM.out hb56); have G15 := qHd hx6
    have IM := qHd (fun p hp => (IM.out p hp).below hb56)
    clear hb5 hn5 HK hb6 hx6 hb56 BX4
    cases acc with
    | none =>
     rw [show atI none = -1 from rfl]
     have NB := qHd (PD.out.trans (congrArg (qfe (L.map Rv.q) (ls.drop (q + 1)) (q + 1)) (pickS_first rfl)))
     simp only [← WXE.out] at NB
     go_wp2_with (with_reducible first | refine qad ?_ | refine qai ?_ | refine qaj ?_ | refine qak ?_ | refine qag ?_)
     rw [← hw6, ← hg15]
     clear hw6 hg15
     refine qap.mk ?_
     refine qao (A := ?aaTKA) (w := w6) 3 [] (by kernel_rfl) (Fl [KEq (.int .i64 (q : Nat)), KEq (.agg #[.bool sw, .slice ow nw cw, .slice aw mw dw]), KEq (.int .i64 (q : Nat))]) (fun i => false) (by kernel_rfl) ?hqTKA (qcw (qae (kEq _) (qae (kEq _) (qae (kEq _) qcv)))) ?haTKA ?stTKA ?tlTKA
     case hqTKA =>
      intro c a d v w h
      first | (simp only [Exit.then] at h ⊢; exact h) | (simp only [Exit.inBlock, Exit.then] at h ⊢; exact h) | exact h
     case haTKA =>
      intro vals
      simp only [qba, qcd, if_true, Act.put, List.setIfInBounds_toArray, List.set_cons_zero, List.set_cons_succ, List.getElem?_toArray, List.getElem?_cons_zero, List.getElem?_cons_succ, Option.bind_some]
      exact rfl
     case stTKA =>
      simp only [List.take_succ_cons, List.take_zero]
      refine qab rfl rfl ?_ (qab rfl rfl ?_ (qab rfl rfl ?_ (qav)))
      ·intro vals w1 hb hd
       refine qSv (.int .i64 (q : Nat)) (by go_simp) (qLk rfl rfl)
      ·intro vals w1 hb hd
       obtain ⟨e0, e1, e2⟩ := qay (qaa G15.out hb)
       refine qSv (.agg #[.bool sw, .slice ow nw cw, .slice aw mw dw]) (by go_simp) (qLk rfl rfl)
      ·intro vals w1 hb hd
       rw [show vals 0 = .int .i64 (q : Nat) from hd 0 (by kernel_rfl)]
       refine qSv (.int .i64 (q : Nat)) (by go_simp) (qLk rfl rfl)
     case tlTKA =>
      intro vals w7 hb7 hf7 hdis
      simp only [List.drop_succ_cons, List.drop_zero]
      have z0 : vals 0 = _ := hf7 0 (by decide)
      have z1 : vals 1 = _ := hf7 1 (by decide)
      have z2 : vals 2 = _ := hf7 2 (by decide)
      rw [z1, z2]
      try rw [z0]
      clear z0 z1 z2 hf7 hdis
      have GM := qHd (qaa GM.out hb7); have BX := qHd (BX.out.trans (hb7.mono BX.out.size)); have IW := qHd (IW.out.below hb7)
      go_wp2_with (with_reducible refine qaf ?_)
      refine qan gm 0 [.bool sw, .slice ow nw cw, .slice aw mw dw] GM.out rfl rfl (Nat.le_of_ble_eq_true rfl) (by kernel_rfl) rfl ?_
      intro wz hpz
      have GZ := qHd (show wz.heap[gm]? = some (.cells #[.bool sw, .slice ow nw cw, .slice aw mw dw] 54) by rw [hpz]; exact qbd GM.out)
      have BZ := qHd (qbl hpz BX.out lm)
      have IZ := qHd (qbq hpz IW.out GM.out noW3)
      clear hpz hb7
      go_wp2_with fail
      go_roundw
      case rel => exact ⟨q + 1, some (q, wx), sw, ow, aw, nw, cw, mw, dw, by omega, by go_num, by first | rfl | go_num, BZ, GZ, qHd (fun p hp => by cases hp; exact IZ.out), NB, qHd (by rw [WXE.out]; exact accOK_at HZ.out)⟩
      case measure => simp [intOf]; omega
    | some p =>
     obtain ⟨j, m⟩ := p
     rw [show atI (some (j, m)) = ((j : Nat) : Int) from rfl]
     obtain ⟨z2, hz2, hm⟩ := AK.out _ rfl
     have LM := qHd (show rl m ≤ 121 by
      have : m = wt (L.map Rv.q) z2.yes z2.no := hm
      rw [this]; exact rl_wt24 h24' (fun z hz => (HRV.out z hz).lq) _ _)
     have IMM := qHd (show IsR w6 _ m from IM.out _ rfl)
     have hj0 : ¬ ((j : Nat) : Int) < 0 := by omega
     clear hz2 hm
     have HK := qHd (qfi _ wx _ m w6 (IW.out.is (by have := LWX.out; omega)) (IMM.out.is (by have := LM.out; omega)) (by have := LWX.out; omega) (by have := LM.out; omega))
     obtain ⟨l0, l1, l2⟩ := qay G15.out
     obtain ⟨k0, k1, k2⟩ := qay GM.out
     rw [hw6, hg15] at l0 l1 l2
     rw [hw6] at k0 k1 k2
     go_wp2_with (with_reducible refine qad ?_)
     rw [← hw6, ← hg15]
     clear hw6 hg15 l0 l1 l2 k0 k1 k2
     refine qap.mk ?_
     (with_reducible refine HK.out.mono ?_); rintro e w7 ⟨rfl, hb7⟩
     have GM := qHd (qaa GM.out hb7); have G15 := qHd (qaa G15.out hb7); have BX := qHd (BX.out.trans (hb7.mono BX.out.size)); have IW := qHd (IW.out.below hb7); have IMM := qHd (IMM.out.below hb7)
     clear hb7 HK IM
     by_cases hlw : m < wx
     ·have hcq : 0 < cq wx m := (cq_gt _ _).2 hlw
      have NB := qHd (PD.out.trans (congrArg (qfe (L.map Rv.q) (ls.drop (q + 1)) (q + 1)) ((pickS_more rfl).trans (if_pos (by rw [← WXE.out]; exact hlw)))))
      simp only [← WXE.out] at NB
      obtain ⟨w6, rfl⟩ : ∃ w6, w6 = w7 := ⟨_, rfl⟩
      go_wp2_with (with_reducible first | refine qad ?_ | refine qai ?_ | refine qaj ?_ | refine qak ?_ | refine qag ?_)
      clear hcq
      refine qap.mk ?_
      refine qao (A := ?aaTKB) (w := w6) 3 [] (by kernel_rfl) (Fl [KEq (.int .i64 (q : Nat)), KEq (.agg #[.bool sw, .slice ow nw cw, .slice aw mw dw]), KEq (.int .i64 (q : Nat))]) (fun i => false) (by kernel_rfl) ?hqTKB (qcw (qae (kEq _) (qae (kEq _) (qae (kEq _) qcv)))) ?haTKB ?stTKB ?tlTKB
      case hqTKB =>
       intro c a d v w h
       first | (simp only [Exit.then] at h ⊢; exact h) | (simp only [Exit.inBlock, Exit.then] at h ⊢; exact h) | exact h
      case haTKB =>
       intro vals
       simp only [qba, qcd, if_true, Act.put, List.setIfInBounds_toArray, List.set_cons_zero, List.set_cons_succ, List.getElem?_toArray, List.getElem?_cons_zero, List.getElem?_cons_succ, Option.bind_some]
       exact rfl
      case stTKB =>
       simp only [List.take_succ_cons, List.take_zero]
       refine qab rfl rfl ?_ (qab rfl rfl ?_ (qab rfl rfl ?_ (qav)))
       ·intro vals w1 hb hd
        refine qSv (.int .i64 (q : Nat)) (by go_simp) (qLk rfl rfl)
       ·intro vals w1 hb hd
        obtain ⟨e0, e1, e2⟩ := qay (qaa G15.out hb)
        refine qSv (.agg #[.bool sw, .slice ow nw cw, .slice aw mw dw]) (by go_simp) (qLk rfl rfl)
       ·intro vals w1 hb hd
        rw [show vals 0 = .int .i64 (q : Nat) from hd 0 (by kernel_rfl)]
        refine qSv (.int .i64 (q : Nat)) (by go_simp) (qLk rfl rfl)
      case tlTKB =>
       intro vals w7 hb7 hf7 hdis
       simp only [List.drop_succ_cons, List.drop_zero]
       have z0 : vals 0 = _ := hf7 0 (by decide)
       have z1 : vals 1 = _ := hf7 1 (by decide)
       have z2 : vals 2 = _ := hf7 2 (by decide)
       rw [z1, z2]
       try rw [z0]
       clear z0 z1 z2 hf7 hdis
       have GM := qHd (qaa GM.out hb7); have BX := qHd (BX.out.trans (hb7.mono BX.out.size)); have IW := qHd (IW.out.below hb7)
       go_wp2_with (with_reducible refine qaf ?_)
       refine qan gm 0 [.bool sw, .slice ow nw cw, .slice aw mw dw] GM.out rfl rfl (Nat.le_of_ble_eq_true rfl) (by kernel_rfl) rfl ?_
       intro wz hpz
       have GZ := qHd (show wz.heap[gm]? = some (.cells #[.bool sw, .slice ow nw cw, .slice aw mw dw] 54) by rw [hpz]; exact qbd GM.out)
       have BZ := qHd (qbl hpz BX.out lm)
       have IZ := qHd (qbq hpz IW.out GM.out noW3)
       clear hpz hb7
       go_wp2_with fail
       go_roundw
       case rel => exact ⟨q + 1, some (q, wx), sw, ow, aw, nw, cw, mw, dw, by omega, by go_num, by first | rfl | go_num, BZ, GZ, qHd (fun p hp => by cases hp; exact IZ.out), NB, qHd (by rw [WXE.out]; exact accOK_at HZ.out)⟩
       case measure => simp [intOf]; omega
     ·have hcq : ¬ 0 < cq wx m := fun h => hlw ((cq_gt _ _).1 h)
      have NB := qHd (PD.out.trans (congrArg (qfe (L.map Rv.q) (ls.drop (q + 1)) (q + 1)) ((pickS_more rfl).trans (if_neg (by rw [← WXE.out]; exact hlw)))))
      go_wp2_with fail
      go_roundw
      case rel => exact ⟨q + 1, some (j, m), so, oo, ao2, no, co, mo, do_, by omega, by go_num, by first | rfl | go_num, BX, GM, qHd (fun p hp => by cases hp; exact IMM.out), NB, AK⟩
      case measure => simp [intOf]; omega
   ·have hr2z : (xr != 2) = true := bne_iff_ne.2 hr2
    have NB := qHd (PD.out.trans (congrArg (qfe (L.map Rv.q) (ls.drop (q + 1)) (q + 1)) (pickS_no (by exact hr2))))
    go_wp2_with fail
    rw [← hw4]
    go_roundw
    case rel => exact ⟨q + 1, acc, so, oo, ao2, no, co, mo, do_, by omega, by go_num, by first | rfl | go_num, BX4, GM, IM, NB, AK⟩
    case measure => simp [intOf]; omega
  ·have hq' : q = ls.length := by omega
   subst hq'
   have PE : qfe (L.map Rv.q) ls 0 none = acc := by rw [PK.out, List.drop_length]; rfl
   have G3 := qHd (qaa G3.out BX.out); have G5 := qHd (qaa G5.out BX.out); have G6 := qHd (qaa G6.out BX.out)
   have HBc := qHd (HBc.out.trans (BX.out.mono HBc.out.size))
   cases acc with
   | none =>
    have R := qHd (RN.out PE)
    clear PE
    rw [show atI none = -1 from rfl]
    go_wp2_with (with_reducible refine qaf ?_)
    refine qan g6 0 [.int .i64 0, .slice none 0 0, .int .i64 0] G6.out rfl rfl (Nat.le_of_ble_eq_true rfl) (by kernel_rfl) rfl ?_
    intro wz hpz
    have GZ := qHd (show wz.heap[g6]? = some (.cells #[.int .i64 0, .slice none 0 0, .int .i64 0] 27) by rw [hpz]; exact qbd G6.out)
    have HBz := qHd (qbl hpz HBc.out l6)
    clear hpz
    go_wp2_with (with_reducible first | refine qad ?_ | refine qai ?_ | refine qaj ?_ | refine qak ?_ | refine qag ?_)
    refine qcl rfl g6 #[.int .i64 0, .slice none 0 0, .int .i64 0] rfl GZ.out Tryz.underlying27 rfl (by kernel_rfl) rfl ?_
    exact ⟨_, by rw [R.out]; rfl, HBz.out, by rw [R.out]; exact fun w2 _ => TrV.leaf w2 ⟨by decide, by decide⟩⟩
   | some p =>
    obtain ⟨z2, hz2, hm⟩ := AK.out _ rfl
    have R := qHd (RS.out p z2 PE hz2)
    obtain ⟨j, m⟩ := p
    rw [show atI (some (j, m)) = ((j : Nat) : Int) from rfl]
    simp only at hz2 R
    have hjl : j < ls.length := (List.getElem?_eq_some_iff.1 hz2).1
    have hjz : (j : Int) < (ls.length : Int) := by omega
    have hj0 : ¬ ((j : Nat) : Int) < 0 := by omega
    obtain ⟨bl, ol, rfl, hbl, hjk, hat⟩ := HLS.out.at (by omega); clear hjk
    obtain ⟨c0, c1, c2⟩ := hat j z2 hz2
    have c0 := (BX.out.cell (p := ⟨bl, _, none⟩) hbl).trans c0
    have c1 := (BX.out.cell (p := ⟨bl, _, none⟩) hbl).trans c1
    have c2 := (BX.out.cell (p := ⟨bl, _, none⟩) hbl).trans c2
    have HO := qHd (HOC.out z2 (List.mem_of_getElem? hz2))
    obtain ⟨jy, jn, jr⟩ := z2
    simp only at c0 c1 c2 HO R
    clear hz2 hm hat PE PK AK
    obtain ⟨w4, hw4, hb4, hg7⟩ := qBx3 wo (.cells #[.int .i64 f.vars, .slice ao f.nodes.length c, .int .i64 f.top, .int .i64 1, .int .i64 0] 99)
    have hlb : bl < wo.heap.size := Nat.lt_of_lt_of_le hbl BX.out.size
    have d0 := (hb4.cell (p := ⟨bl, _, none⟩) hlb).trans c0
    have d1 := (hb4.cell (p := ⟨bl, _, none⟩) hlb).trans c1
    have d2 := (hb4.cell (p := ⟨bl, _, none⟩) hlb).trans c2
    rw [hw4] at d0 d1 d2
    obtain ⟨g7, hG7⟩ : ∃ g, g = wo.heap.size := ⟨_, rfl⟩
    rw [← hG7] at hg7
    have n37 : g3 ≠ g7 := by have := qaw G3.out; omega
    have n57 : g5 ≠ g7 := by have := qaw G5.out; omega
    have n67 : g6 ≠ g7 := by have := qaw G6.out; omega
    have l7 : w.heap.size ≤ g7 := by have := HBc.out.size; omega
    have HB4 := qHd (HBc.out.trans (hb4.mono HBc.out.size))
    have HFL := qHd (flat_grow f HFM.out jy jn)
    have hk := grow_any f HFM.out ao c 1 (by decide) w HF.out 1 jy jn 0 0 g7 w4 HB4.out l7 hg7 (by omega) HO.out (by have := grN1_le f jy jn; omega)
    obtain ⟨gt, hgt⟩ : ∃ z, z = grT f 1 jy jn := ⟨_, rfl⟩
    obtain ⟨gn, hgn⟩ : ∃ z, z = 0 + grN f 1 jy jn := ⟨_, rfl⟩
    rw [← hgt] at R HFL
    rw [← hgt, ← hgn, show ((0 : Nat) : Int) = 0 from rfl] at hk
    have HK := qHd hk
    obtain ⟨x0, x1, x2⟩ := qay G3.out
    have G3 := qHd (qaa G3.out hb4); have G5 := qHd (qaa G5.out hb4); have G6 := qHd (qaa G6.out hb4)
    clear hk hgt hgn hb4 hg7
    go_wp2_with (with_reducible refine qad ?_)
    rw [← hw4, ← hG7]
    clear hw4 hG7 x0 x1 x2 c0 c1 c2 d0 d1 d2
    refine qap.mk ?_
    (with_reducible refine HK.out.mono ?_); rintro e w5 ⟨va, rfl, hta, gb5, hg5⟩
    obtain ⟨yv, yr, ya, yn, yc, rfl⟩ := hta.tr.shape
    have HB5 := qHd (gb_low HB4.out gb5 HB4.out.size l7); have G3 := qHd (qga gb5 G3.out n37); have G5 := qHd (qga gb5 G5.out n57); have G6 := qHd (qga gb5 G6.out n67)
    obtain ⟨w6, hw6, hb6, g18, hG18, hg18⟩ := qBx5 w5 (.cells #[.int .i64 yv, .slice ya yn yc, .int .i64 yr] 27)
    have TA := qHd (hta.keep (qbu hb6)).toH
    have HB6 := qHd (HB5.out.trans (hb6.mono HB5.out.size))
    obtain ⟨x0, x1, x2⟩ := qay (qaa G3.out hb6)
    obtain ⟨y0, y1, y2⟩ := qay (qaa G5.out hb6)
    obtain ⟨u0, u1, u2⟩ := qay hg18
    rw [hw6] at x0 x1 x2 y0 y1 y2
    rw [hw6, hG18] at u0 u1 u2
    have G6 := qHd (qaa G6.out hb6)
    have HK := qHd (pSwap_any _ _ t gt HFL.out f.vars (j : Nat) w6 (HT.out.below HB6.out) TA.out HVV.out (by unfold I64; omega))
    rw [← R.out] at HK
    clear gb5 hg5 hta hb6 hg18
    go_wp2_with (with_reducible refine qad ?_)
    rw [← hw6, ← hG18]
    clear hw6 hG18 x0 x1 x2 y0 y1 y2 u0 u1 u2
    refine qap.mk ?_
    (with_reducible refine HK.out.mono ?_); rintro e w7 ⟨v7, rfl, hb7, ht7⟩
    obtain ⟨sv, sr, sa, sn, sc, rfl⟩ := ht7.tr.shape
    have HBc := qHd (HB6.out.trans (hb7.mono HB6.out.size)); have G6 := qHd (qaa G6.out hb7); have HS7 := qHd ht7
    clear hb7 ht7 HK
    go_wp2_with (with_reducible refine qaf ?_)
    refine qan g6 0 [.int .i64 sv, .slice sa sn sc, .int .i64 sr] G6.out rfl rfl (Nat.le_of_ble_eq_true rfl) (by kernel_rfl) rfl ?_
    intro wz hpz
    have GZ := qHd (show wz.heap[g6]? = some (.cells #[.int .i64 sv, .slice sa sn sc, .int .i64 sr] 27) by rw [hpz]; exact qbd G6.out)
    have HBz := qHd (qbl hpz HBc.out l6)
    have HSZ := qHd (HS7.out.keep (qes hpz G6.out (by simp)))
    clear hpz
    go_wp2_with (with_reducible first | refine qad ?_ | refine qai ?_ | refine qaj ?_ | refine qak ?_ | refine qag ?_)
    refine qcl rfl g6 #[.int .i64 sv, .slice sa sn sc, .int .i64 sr] rfl GZ.out Tryz.underlying27 rfl (by kernel_rfl) rfl ?_
    exact ⟨_, rfl, HBz.out, HSZ.out⟩
structure GoodT (f : Fm) (t : Tr) : Prop where
 ok : qej f.vars t 0
 ex : ∀ x ∈ qah t 0 0, x.reason = (qco f x.yes x.no : Int)
theorem GoodT.hold {f : Fm} {t : Tr} (h : GoodT f t) : holdL f (qah t 0 0) := fun x hx => .inr (h.ex x hx)
theorem grT_exact {f : Fm} : ∀ d y n, ∀ x ∈ qah (grT f d y n) y n, x.reason = (qco f x.yes x.no : Int)
 | 0, y, n => by
  simp only [grT]; rw [qer]
  intro x hx; rw [List.mem_singleton] at hx; subst hx; rfl
 | d + 1, y, n => by
  simp only [grT]
  split
  ·rw [qer]
   intro x hx; rw [List.mem_singleton] at hx; subst hx; rfl
  ·simp only [qah, Int.toNat_natCast]
   intro x hx
   rcases List.mem_append.1 hx with h | h
   ·exact grT_exact d y _ x h
   ·exact grT_exact d _ n x h
theorem GoodT.grown {f : Fm} (h : qcc f = 0) (h8 : f.vars ≤ 8) (d : Nat) : GoodT f (grT f d 0 0) :=
 ⟨(qfh _ _ _ _ (grT_err h d 0 0 0 0 (fun i => by simp) (by have := grN_cap h h8 d; omega))).1, grT_exact d 0 0⟩
theorem GoodT.size {f : Fm} {t : Tr} (h : GoodT f t) (h6 : f.vars ≤ 6) : qei t ≤ 127 ∧ pot f.vars.toNat (qah t 0 0) ≤ 63 := by
 obtain ⟨h1, h2⟩ := tr_small t 0 0 0 h.ok (fun i => by simp)
 have h3 := opens_le 0 0 f.vars.toNat
 have h4 : 2 ^ (qdb 0 0 f.vars.toNat + 1) ≤ 2 ^ 7 := Nat.pow_le_pow_right (by decide) (by omega)
 have h5 : 2 ^ qdb 0 0 f.vars.toNat ≤ 2 ^ 6 := Nat.pow_le_pow_right (by decide) (by omega)
 have e7 : 2 ^ 7 = 128 := by decide
 have e6 : 2 ^ 6 = 64 := by decide
 omega
theorem GoodT.err {f : Fm} {t : Tr} (h : GoodT f t) (h6 : f.vars ≤ 6) : qbh f.vars t 0 0 = (qei t, 0) := by
 have := trOK_err t 0 0 h.ok (by have := (h.size h6).1; omega)
 rwa [Nat.zero_add] at this
theorem GoodT.cErr {f : Fm} {t : Tr} {L : List Rv} (h : GoodT f t) (h6 : f.vars ≤ 6) (hv : qgd f L) : cErr f t = 0 := by
 rw [cErr_t hv.fe, h.err h6]
theorem GoodT.few {f : Fm} {t : Tr} (h : GoodT f t) (h6 : f.vars ≤ 6) : (qah t 0 0).length ≤ 300 := by
 have h1 := (h.size h6).1
 have h2 := (qdf t).2
 rw [qdn]; omega
theorem GoodT.sErr {f : Fm} {t : Tr} {L : List Rv} (h : GoodT f t) (h6 : f.vars ≤ 6) (hv : qgd f L) : sErr f t L = 0 :=
 sErr_of (h.cErr h6 hv) hv.len hv.pr (by rw [(qez _ _).2 h.hold]; decide)
theorem qgd.chq {f : Fm} {L : List Rv} (h : qgd f L) (hsm : ∀ r ∈ L, r.a.length ≤ 3 ∧ r.b.length ≤ 3 ∧ rl r.q ≤ 3) : rl (qek f (L.map Rv.q)) ≤ 39000 := by
 rw [chance_eq h.ps.1]
 have h8 := h.v8
 have hlen := h.len
 have h1 := rl_sumS (g := fun s => if topS f s then wt (L.map Rv.q) s (qdd f.vars.toNat s) else 0) (k := 41) (fun s => by
  show rl (if topS f s then wt (L.map Rv.q) s (qdd f.vars.toNat s) else 0) ≤ 41
  split
  ·have := rl_wtL (k := 3) (L.map Rv.q) 0 s (qdd f.vars.toNat s) (fun p hp => by obtain ⟨r, hr, rfl⟩ := List.mem_map.1 hp; exact (hsm r hr).2.2)
   rw [List.length_map] at this
   show rl (wtL _ 0 _ _) ≤ 41
   have h3 : L.length * (3 + 2) ≤ 8 * 5 := Nat.mul_le_mul_right 5 (by omega)
   omega
  ·rw [qeo]; decide) (2 ^ f.vars.toNat)
 have h2 := Nat.pow_le_pow_right (n := 2) (by decide) (show f.vars.toNat ≤ 8 by omega)
 have e : 2 ^ 8 = 256 := by decide
 have h4 : 2 ^ f.vars.toNat * (41 + 1) ≤ 256 * 42 := Nat.mul_le_mul_right 42 (by omega)
 omega
theorem narrow_step {f : Fm} {t : Tr} {L : List Rv} (hv : qgd f L) (h6 : f.vars ≤ 6) (h : GoodT f t) :
  (rfV f t L = (.mk 0 [] 0, 17) ∧ valC f t L = (qek f (L.map Rv.q), 0)) ∨
  ∃ u, rfV f t L = (u, 0) ∧ GoodT f u ∧ pot f.vars.toNat (qah u 0 0) < pot f.vars.toNat (qah t 0 0) ∧ subS (bndV f u L) (bndV f t L) := by
 have hs := h.sErr h6 hv
 cases hp : qfe (L.map Rv.q) (qah t 0 0) 0 none with
 | none =>
  left
  have hc := pickL_none _ 0 hp
  obtain ⟨e1, e2⟩ := bnd_exact hv hs hc
  refine ⟨rfV_none hs hp, ?_⟩
  unfold valC
  rw [if_neg (fun k => k hs), if_neg, e1]
  intro k
  obtain ⟨x, hx, hk⟩ := List.any_eq_true.1 k
  exact hc x hx (of_decide_eq_true hk)
 | some r =>
  right
  obtain ⟨x, hx, hr, _⟩ := pickL_ok (qah t 0 0) (qah t 0 0) 0 none r rfl (fun q hq => by cases hq) hp
  obtain ⟨l1, l2, hl, hi⟩ := list_at hx
  have hv2 : qco f x.yes x.no = 2 := by
   have := h.ex x (List.mem_of_getElem? hx)
   rw [hr] at this; omega
  obtain ⟨k1, k2, k3, k4⟩ := refine_ok hv.fe h.ok h.hold hl hr hv2
  have gu : GoodT f (qbo (grT f 1 x.yes x.no) t l1.length).1 := ⟨k2, fun z hz => by
   rw [k1] at hz
   rcases List.mem_append.1 hz with q | q
   ·exact h.ex z (by rw [hl]; exact List.mem_append_left _ q)
   rcases List.mem_append.1 q with q | q
   ·exact grT_exact 1 _ _ z q
   ·exact h.ex z (by rw [hl]; exact List.mem_append_right _ (List.mem_cons_of_mem _ q))⟩
  have s2 := gu.sErr h6 hv
  refine ⟨_, ?_, gu, k4, ?_⟩
  ·have hlt : l1.length < qdo t := by
    rw [← qdn t 0 0, hl, List.length_append, List.length_cons]; omega
   rw [rfV_some hs hp hx, ← hi]
   unfold swpV
   rw [if_neg (by rw [h.err h6]; exact fun k => k rfl), if_neg (by omega), if_neg (by rw [gu.err h6]; exact fun k => k rfl)]
  ·have e1 := bnd_le s2
   have e0 := bnd_le hs
   rw [bnd_eq s2] at e1
   rw [bnd_eq hs] at e0
   rw [bnd_eq s2, bnd_eq hs]
   have k1' := refine_sum hv.ps.2 1 (by decide) l1 l2 (qah (grT f 1 x.yes x.no) x.yes x.no) x hr
   have k0' := refine_sum hv.ps.2 0 (by decide) l1 l2 (qah (grT f 1 x.yes x.no) x.yes x.no) x hr
   rw [← hl, ← k1] at k1' k0'
   simp only at e1 e0
   unfold subS inS
   simp only
   refine ⟨⟨k1', ?_⟩, ?_, ?_⟩ <;> grind
theorem range_row {w : World} {g : Nat} {cs : Array Value} {T : TypeId} (h : w.heap[g]? = some (.cells cs T)) : w.rangeAt g 0 cs.toList := by
 intro j v hv
 rw [Nat.zero_add, cell_of_row w g j cs T (0, 0) h]
 simpa using hv
theorem wpOp_at {P : Program} {ops : Array Oper} {Q : Exit → Act → World → Prop} {i : Nat} {K : Act → World → Prop} {a : Act} {w : World} {o : Oper} (hi : ops[i]? = some o) (hg : o.guard = none) (h : o.wp P a w K Q) : wpOp P ops Q i K a w := by
 unfold wpOp
 simp only [hi]
 rw [if_pos (by simp [Region.wanted, hg])]
 exact .inl h
section
variable {P : Program} {id : Nat} {d0 d1 x y p q : Tmp} {A B t2 t3 : TypeId} {pos : String} {Q : Exit → Act → World → Prop} {a : Act} {w : World}
abbrev qfr (d0 d1 x y p q : Tmp) (A B t2 t3 : TypeId) (pos : String) : Array Oper := #[
 ⟨some d0, .load A (.tmp x), A, pos, #[], none⟩,
 ⟨some d1, .load B (.tmp y), B, pos, #[⟨2, .gcOnly .lateStores⟩], none⟩,
 ⟨none, .store A (.tmp p) (.tmp d0), t2, pos, #[⟨0, .data⟩, ⟨0, .phase⟩, ⟨1, .textOnly .lateStores⟩], none⟩,
 ⟨none, .store B (.tmp q) (.tmp d1), t3, pos, #[⟨1, .data⟩, ⟨2, .chain⟩, ⟨0, .phase⟩, ⟨1, .phase⟩, ⟨2, .phase⟩], none⟩]
theorem wp_two (hm : P.follows .mixedOrders = true) (gx gy gp gq : Nat) (cx cy cp cq : Array Value) (Tx Ty Tp Tq : TypeId) (dA dB : TypeDesc)
    (h01 : d0 ≠ d1) (hx1 : x ≠ d1) (hy0 : y ≠ d0) (hp0 : p ≠ d0) (hp1 : p ≠ d1) (hq0 : q ≠ d0) (hq1 : q ≠ d1) (b0 : d0 < a.tmps.size) (b1 : d1 < a.tmps.size)
    (ex : a.eval (.tmp x) = .pointer (some ⟨gx, 0, none⟩)) (ey : a.eval (.tmp y) = .pointer (some ⟨gy, 0, none⟩)) (ep : a.eval (.tmp p) = .pointer (some ⟨gp, 0, none⟩)) (eq : a.eval (.tmp q) = .pointer (some ⟨gq, 0, none⟩))
    (hgx : w.heap[gx]? = some (.cells cx Tx)) (hgy : w.heap[gy]? = some (.cells cy Ty)) (hgp : w.heap[gp]? = some (.cells cp Tp)) (hgq : w.heap[gq]? = some (.cells cq Tq))
    (nyp : gy ≠ gp) (npq : gq ≠ gp) (uA : P.underlying A = some dA) (rA : dA.isRow = true) (uB : P.underlying B = some dB) (rB : dB.isRow = true)
    (iA : (P.info? A).map (·.size) = some cx.size) (iB : (P.info? B).map (·.size) = some cy.size) (sp : cp.size = cx.size) (sq : cq.size = cy.size)
    (oA : cx.toList.all (fun v => v.oneCell') = true) (oB : cy.toList.all (fun v => v.oneCell') = true)
    (hK : ∀ w1, w1 = qel (qel { w with drawn := w.drawn + 1 } gp 0 cx.toList) gq 0 cy.toList → Q .normal ((a.put (some d0) (.agg cx)).put (some d1) (.agg cy)) w1) :
    (Code.region id (qfr d0 d1 x y p q A B t2 t3 pos) true).wp P Q a w := by
  obtain ⟨W, hW⟩ : ∃ W : World, W = { w with drawn := w.drawn + 1 } := ⟨_, rfl⟩
  have hgx : W.heap[gx]? = some (.cells cx Tx) := by rw [hW]; exact hgx
  have hgy : W.heap[gy]? = some (.cells cy Ty) := by rw [hW]; exact hgy
  have hgp : W.heap[gp]? = some (.cells cp Tp) := by rw [hW]; exact hgp
  have hgq : W.heap[gq]? = some (.cells cq Tq) := by rw [hW]; exact hgq
  rw [← hW] at hK
  refine wp_region_any hm ?_
  rw [← hW]
  clear hW
  have ev : ∀ (a : Act) (d t : Tmp) (v : Value), t ≠ d → (a.put (some d) v).eval (.tmp t) = a.eval (.tmp t) := fun a d t v h => Act.eval_put (fun d' hd hx => by cases hd; cases hx; exact h rfl)
  have es : ∀ (a : Act) (d : Tmp) (v : Value), d < a.tmps.size → (a.put (some d) v).eval (.tmp d) = v := fun a d v h => by
    simp [Act.put, Act.eval, h]
  have sz : ∀ (a : Act) (d : Tmp) (v : Value), (a.put (some d) v).tmps.size = a.tmps.size := fun a d v => by simp [Act.put]
  have cm : (a.put (some d1) (.agg cy)).put (some d0) (.agg cx) = (a.put (some d0) (.agg cx)).put (some d1) (.agg cy) := by
    simp only [Act.put]
    rw [Array.setIfInBounds_comm _ _ h01.symm]
  have hcx : cx.toList.toArray = cx := by simp
  have hcy : cy.toList.toArray = cy := by simp
  have oA : cx.all (·.oneCell') = true := by rw [← hcx]; exact all_oneCell_toArray (fun v hv => List.all_eq_true.1 oA v hv)
  have oB : cy.all (·.oneCell') = true := by rw [← hcy]; exact all_oneCell_toArray (fun v hv => List.all_eq_true.1 oB v hv)
  obtain ⟨W1, hW1⟩ : ∃ W1, W1 = qel W gp 0 cx.toList := ⟨_, rfl⟩
  have hgy1 : W1.heap[gy]? = some (.cells cy Ty) := qbr hW1 hgy nyp
  have hgq1 : W1.heap[gq]? = some (.cells cq Tq) := qbr hW1 hgq npq
  -- the operations, one by one
  have L0 : ∀ (a' : Act) (K : Act → World → Prop), a'.eval (.tmp x) = .pointer (some ⟨gx, 0, none⟩) → K (a'.put (some d0) (.agg cx)) W → wpOp P (qfr d0 d1 x y p q A B t2 t3 pos) Q 0 K a' W := fun a' K he hk => by
    refine wpOp_at rfl rfl ?_
    refine wp_load_mid A (.tmp x) rfl gx 0 he cx.toList dA (range_row hgx) uA rA (by simpa using iA) ?_
    rw [hcx]; exact hk
  have L1 : ∀ (a' : Act) (V : World) (K : Act → World → Prop), a'.eval (.tmp y) = .pointer (some ⟨gy, 0, none⟩) → V.heap[gy]? = some (.cells cy Ty) → K (a'.put (some d1) (.agg cy)) V → wpOp P (qfr d0 d1 x y p q A B t2 t3 pos) Q 1 K a' V := fun a' V K he hv hk => by
    refine wpOp_at rfl rfl ?_
    refine wp_load_mid B (.tmp y) rfl gy 0 he cy.toList dB (range_row hv) uB rB (by simpa using iB) ?_
    rw [hcy]; exact hk
  have L2 : ∀ (a' : Act) (K : Act → World → Prop), a'.eval (.tmp p) = .pointer (some ⟨gp, 0, none⟩) → a'.eval (.tmp d0) = .agg cx → K a' W1 → wpOp P (qfr d0 d1 x y p q A B t2 t3 pos) Q 2 K a' W := fun a' K he hv hk => by
    refine wpOp_at rfl rfl ?_
    refine wp_store_mid A (.tmp p) (.tmp d0) rfl gp 0 cx he hv (there_row hgp (by omega)) iA oA ?_
    rw [putL_eq, ← hW1]; exact hk
  have L3 : ∀ (a' : Act) (K : Act → World → Prop), a'.eval (.tmp q) = .pointer (some ⟨gq, 0, none⟩) → a'.eval (.tmp d1) = .agg cy → K a' (qel W1 gq 0 cy.toList) → wpOp P (qfr d0 d1 x y p q A B t2 t3 pos) Q 3 K a' W1 := fun a' K he hv hk => by
    refine wpOp_at rfl rfl ?_
    refine wp_store_mid B (.tmp q) (.tmp d1) rfl gq 0 cy he hv (there_row hgq1 (by omega)) iB oB ?_
    rw [putL_eq]; exact hk
  have fin : wpAny P .any (qfr d0 d1 x y p q A B t2 t3 pos) Q 0 #[true, true, true, true] ((a.put (some d0) (.agg cx)).put (some d1) (.agg cy)) (qel W1 gq 0 cy.toList) := ⟨rfl, hK _ (by rw [hW1])⟩
  have l3 : wpAny P .any (qfr d0 d1 x y p q A B t2 t3 pos) Q 1 #[true, true, true, false] ((a.put (some d0) (.agg cx)).put (some d1) (.agg cy)) W1 := by
    refine ⟨fun h => (by have e : Region.ready .any (qfr d0 d1 x y p q A B t2 t3 pos) #[true, true, true, false] = [3] := by kernel_rfl
                         rw [e] at h; cases h), fun i hi => ?_⟩
    have e : Region.ready .any (qfr d0 d1 x y p q A B t2 t3 pos) #[true, true, true, false] = [3] := by kernel_rfl
    rw [e, List.mem_singleton] at hi
    subst hi
    exact L3 _ _ (by rw [ev _ _ _ _ hq1, ev _ _ _ _ hq0]; exact eq) (by rw [es]; rw [sz]; exact b1) fin
  have l2 : wpAny P .any (qfr d0 d1 x y p q A B t2 t3 pos) Q 2 #[true, true, false, false] ((a.put (some d0) (.agg cx)).put (some d1) (.agg cy)) W := by
    have e : Region.ready .any (qfr d0 d1 x y p q A B t2 t3 pos) #[true, true, false, false] = [2] := by kernel_rfl
    refine ⟨fun h => (by rw [e] at h; cases h), fun i hi => ?_⟩
    rw [e, List.mem_singleton] at hi
    subst hi
    exact L2 _ _ (by rw [ev _ _ _ _ hp1, ev _ _ _ _ hp0]; exact ep) (by rw [ev _ _ _ _ h01, es]; exact b0) l3
  show wpAny P .any (qfr d0 d1 x y p q A B t2 t3 pos) Q 4 #[false, false, false, false] a W
  have e : Region.ready .any (qfr d0 d1 x y p q A B t2 t3 pos) #[false, false, false, false] = [0, 1] := by kernel_rfl
  refine ⟨fun h => (by rw [e] at h; cases h), fun i hi => ?_⟩
  rw [e] at hi
  simp only [List.mem_cons, List.not_mem_nil, or_false] at hi
  rcases hi with rfl | rfl
  · refine L0 _ _ ex ?_
    show wpAny P .any (qfr d0 d1 x y p q A B t2 t3 pos) Q 3 #[true, false, false, false] _ W
    have e : Region.ready .any (qfr d0 d1 x y p q A B t2 t3 pos) #[true, false, false, false] = [1, 2] := by kernel_rfl
    refine ⟨fun h => (by rw [e] at h; cases h), fun i hi => ?_⟩
    rw [e] at hi
    simp only [List.mem_cons, List.not_mem_nil, or_false] at hi
    rcases hi with rfl | rfl
    · exact L1 _ _ _ (by rw [ev _ _ _ _ hy0]; exact ey) hgy l2
    · refine L2 _ _ (by rw [ev _ _ _ _ hp0]; exact ep) (by rw [es]; exact b0) ?_
      show wpAny P .any (qfr d0 d1 x y p q A B t2 t3 pos) Q 2 #[true, false, true, false] _ W1
      have e : Region.ready .any (qfr d0 d1 x y p q A B t2 t3 pos) #[true, false, true, false] = [1] := by kernel_rfl
      refine ⟨fun h => (by rw [e] at h; cases h), fun i hi => ?_⟩
      rw [e, List.mem_singleton] at hi
      subst hi
      exact L1 _ _ _ (by rw [ev _ _ _ _ hy0]; exact ey) hgy1 l3
  · refine L1 _ _ _ ey hgy ?_
    show wpAny P .any (qfr d0 d1 x y p q A B t2 t3 pos) Q 3 #[false, true, false, false] _ W
    have e : Region.ready .any (qfr d0 d1 x y p q A B t2 t3 pos) #[false, true, false, false] = [0] := by kernel_rfl
    refine ⟨fun h => (by rw [e] at h; cases h), fun i hi => ?_⟩
    rw [e, List.mem_singleton] at hi
    subst hi
    refine L0 _ _ (by rw [ev _ _ _ _ hx1]; exact ex) ?_
    rw [cm]
    exact l2
end
end Go.Proofs.YthhgfhdmfhnklaaGreatDoor
