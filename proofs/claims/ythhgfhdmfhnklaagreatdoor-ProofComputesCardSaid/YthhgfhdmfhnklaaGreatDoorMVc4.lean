/-
  What the law leans on, one text behind the other (the rest).
  Conditions: each theorem's own.
-/
import Derived.Test.YthhgfhdmfhnklaaGreatDoorMVc3
set_option maxRecDepth 100000
set_option maxHeartbeats 16000000
namespace Go.Proofs.YthhgfhdmfhnklaaGreatDoor
open Go.RowKit Go.ChangeShapes Go.WideShapes
theorem rrefine_any (vf x v : Value) (f : Fm) (t : Tr) (L : List Rv) (w : World) (hf : FmV w vf f) (ht : TrV w x t) (hp : RvsV w v L) (hsm : ∀ r ∈ L, r.a.length ≤ 3 ∧ r.b.length ≤ 3 ∧ rl r.q ≤ 3) (hlv : cErr f t = 0 → (qah t 0 0).length ≤ 300) (er : Nat) (her : sErr f t L = er) :
  Calls Tryz.prog 26 #[vf, v, x] w (RetMkN w (rfV f t L).1 (rfV f t L).2) := by
 have HSM3 := qHd (fun r hr => And.intro (hsm r hr).1 (hsm r hr).2.1)
 have HSM := qHd hsm; have HLVB := qHd hlv
 have HL := qHd hp; have HER := qHd her
 clear hp hsm hlv her
 obtain ⟨nv, rfl, hn, hv, htp⟩ := hf
 obtain ⟨ao, c, rfl, hc, hc2, _⟩ := hn.shape
 have HF := qHd (show FmV w _ f from ⟨_, rfl, hn, hv, htp⟩)
 have HT := qHd ht
 obtain ⟨tv, tr, ta, tn, tc, rfl⟩ := ht.shape
 obtain ⟨al, cl, rfl, hcl, hcl2, _⟩ := HL.out.shape
 obtain ⟨wa, hwa⟩ : ∃ x, x = w.alloc (.cells #[.int .i64 f.vars, .slice ao f.nodes.length c, .int .i64 f.top] 24) := ⟨_, rfl⟩
 obtain ⟨wb, hwb⟩ : ∃ x, x = wa.alloc (.cells #[.int .i64 tv, .slice ta tn tc, .int .i64 tr] 27) := ⟨_, rfl⟩
 obtain ⟨W, hW⟩ : ∃ x, x = wb.alloc (.cells #[.int .i64 0, .slice none 0 0, .int .i64 0] 27) := ⟨_, rfl⟩
 have ba : Below w.heap.size w wa := by rw [hwa]; exact qBA _ _
 have bb : Below wa.heap.size wa wb := by rw [hwb]; exact qBA _ _
 have bW : Below wb.heap.size wb W := by rw [hW]; exact qBA _ _
 have sa : wa.heap.size = w.heap.size + 1 := by rw [hwa]; exact Array.size_push (xs := w.heap) _
 have sb : wb.heap.size = w.heap.size + 1 + 1 := by rw [← sa, hwb]; exact Array.size_push (xs := wa.heap) _
 have hg3 : W.heap[w.heap.size]? = some (.cells #[.int .i64 f.vars, .slice ao f.nodes.length c, .int .i64 f.top] 24) := qaa (qaa (by rw [hwa]; exact heap_alloc_new w _) bb) bW
 have hg5 : W.heap[w.heap.size + 1]? = some (.cells #[.int .i64 tv, .slice ta tn tc, .int .i64 tr] 27) := qaa (by rw [← sa, hwb]; exact heap_alloc_new wa _) bW
 have hg6 : W.heap[w.heap.size + 1 + 1]? = some (.cells #[.int .i64 0, .slice none 0 0, .int .i64 0] 27) := by rw [← sb, hW]; exact heap_alloc_new wb _
 have HB := qHd (ba.trans ((bb.mono ba.size).trans (bW.mono (Nat.le_trans ba.size bb.size))))
 obtain ⟨g3, hG3⟩ : ∃ g, g = w.heap.size := ⟨_, rfl⟩
 obtain ⟨g5, hG5⟩ : ∃ g, g = w.heap.size + 1 := ⟨_, rfl⟩
 obtain ⟨g6, hG6⟩ : ∃ g, g = w.heap.size + 1 + 1 := ⟨_, rfl⟩
 rw [← hG3] at hg3; rw [← hG5] at hg5; rw [← hG6] at hg6
 have l6 : w.heap.size ≤ g6 := by omega
 have G6 := qHd hg6; have G3 := qHd hg3; have G5 := qHd hg5
 obtain ⟨x0, x1, x2⟩ := qay hg3
 obtain ⟨y0, y1, y2⟩ := qay hg5
 rw [hW, hwb, hwa, hG3] at x0 x1 x2
 rw [hW, hwb, hwa, hG5] at y0 y1 y2
 have HK := qHd (rgiven_any _ _ _ f L t W (HF.out.below HB.out) (HL.out.below HB.out) (HT.out.below HB.out) HSM3.out er HER.out)
 clear ba bb bW sa sb hg3 hg5 hg6 hn hv htp ht
 have n36 : g3 ≠ g6 := by omega
 have n56 : g5 ≠ g6 := by omega
 go_enter Tryz.func26, Tryz.ntmps26
 go_wp2_with (with_reducible refine qad ?_)
 rw [← hwa, ← hwb, ← hW, ← hG6, ← hG5, ← hG3]
 clear hwa hwb hW hG6 hG5 hG3 x0 x1 x2 y0 y1 y2
 refine qap.mk ?_
 (with_reducible refine HK.out.mono ?_); rintro e w1 ⟨v1, rfl, hb1, hl1⟩
 have HL := qHd (HL.out.below HB.out); have HF := qHd (HF.out.below HB.out); have HT := qHd (HT.out.below HB.out)
 have HB := qHd (HB.out.trans (hb1.mono HB.out.size))
 have HL := qHd (HL.out.below hb1)
 have G6 := qHd (qaa G6.out hb1)
 have HF := qHd (HF.out.below hb1); have HT := qHd (HT.out.below hb1)
 have G3 := qHd (qaa G3.out hb1); have G5 := qHd (qaa G5.out hb1)
 clear hb1 HK
 by_cases h0 : er = 0
 case neg =>
  have h0z : ¬ ((er : Nat) : Int) = 0 := by omega
  have R := qHd (rfV_bad HER.out h0)
  go_wp2_with (with_reducible refine qaf ?_)
  refine qan g6 0 [.int .i64 0, .slice none 0 0, .int .i64 0] G6.out rfl rfl (Nat.le_of_ble_eq_true rfl) (by kernel_rfl) rfl ?_
  intro wz hpz
  have GZ := qHd (show wz.heap[g6]? = some (.cells #[.int .i64 0, .slice none 0 0, .int .i64 0] 27) by rw [hpz]; exact qbd G6.out)
  have HBz := qHd (qbl hpz HB.out l6)
  clear hpz
  go_wp2_with (with_reducible first | refine qad ?_ | refine qai ?_ | refine qaj ?_ | refine qak ?_ | refine qag ?_)
  refine qcl rfl g6 #[.int .i64 0, .slice none 0 0, .int .i64 0] rfl GZ.out Tryz.underlying27 rfl (by kernel_rfl) rfl ?_
  exact ⟨_, by rw [R.out]; rfl, HBz.out, by rw [R.out]; exact TrV.leaf _ ⟨by decide, by decide⟩⟩
 subst h0
 obtain ⟨k1, k2, k3, k4⟩ := qex HER.out
 have HLS := qHd (show LfsV w1 v1 (qah t 0 0) from hl1 (by first | rfl | trivial))
 clear hl1
 have h24 := (qbe (qds k1).1).2.1
 have h24' : L.length ≤ 24 := by omega
 have p0 := (qbe (qds k1).1).1
 have HRV := qHd (fun r hr => (show RvOK 3 r from ⟨k3 r hr, (HSM.out r hr).1, (HSM.out r hr).2.1, (HSM.out r hr).2.2⟩))
 have HCU := qHd (fun (x : Lf) (hx : x ∈ qah t 0 0) => (show x.yes < 16777216 ∧ x.no < 16777216 ∧ x.yes &&& x.no = 0 from by
  have hc := okC_cube (qdy k1 x hx) p0 h24
  exact ⟨hc.small.1, hc.small.2, (okC_lt (qdy k1 x hx)).2.2⟩))
 have H300 := qHd (HLVB.out k1)
 have HFM := qHd (qds k1).1; have HOC := qHd (qdy k1); have HVV := qHd (And.intro p0 h24)
 clear k1 k2 k3 k4 h24 p0
 obtain ⟨ls, hls⟩ : ∃ ls, ls = qah t 0 0 := ⟨_, rfl⟩
 have RN := qHd (show qfe (L.map Rv.q) ls 0 none = none → rfV f t L = (.mk 0 [] 0, 17) from fun h => rfV_none HER.out (by rw [← hls]; exact h))
 have RS := qHd (show ∀ (r : Nat × Rat) (z : Lf), qfe (L.map Rv.q) ls 0 none = some r → ls[r.1]? = some z → rfV f t L = swpV f.vars t (r.1 : Nat) (grT f 1 z.yes z.no) from fun r z h hz => rfV_some HER.out (by rw [← hls]; exact h) (by rw [← hls]; exact hz))
 rw [← hls] at HLS HCU H300 HOC
 obtain ⟨av, cv, rfl, hcv, hcv2, _⟩ := HLS.out.shape
 have h300 := H300.out
 clear hls HER
 go_wp2_with (with_reducible first | refine qad ?_ | refine qai ?_ | refine qaj ?_ | refine qak ?_ | refine qag ?_)
 refine qap.mk ?_
 go_loopw [28, 10] (fun i' a' wx => ∃ (q : Nat) (acc : Option (Nat × Rat)), q ≤ ls.length ∧ i' = .int .i64 q ∧ a' = .int .i64 (atI acc) ∧ Hid (Below w1.heap.size w1 wx) ∧ Hid (qfe (L.map Rv.q) ls 0 none = qfe (L.map Rv.q) (ls.drop q) q acc) ∧ Hid (accOK (L.map Rv.q) ls acc)) (fun i' _ _ => ls.length - (intOf i').toNat)
 case atStart => exact ⟨0, none, Nat.zero_le _, rfl, rfl, qHd (Below.refl _ _), qHd rfl, qHd (accOK_none _ _)⟩
 case round =>
  obtain ⟨q, acc, hq, rfl, rfl, BX, PK, AK⟩ := hrel
  obtain ⟨wo, rfl⟩ : ∃ wo : World, wo = wr := ⟨_, rfl⟩
  have HB := qHd (HB.out.trans (BX.out.mono HB.out.size)); have G6 := qHd (qaa G6.out BX.out)
  by_cases hlt : q < ls.length
  ·obtain ⟨z, hz⟩ : ∃ z, ls[q]? = some z := ⟨ls[q], List.getElem?_eq_getElem hlt⟩
   obtain ⟨bl, ol, rfl, hbl, hjk, hat⟩ := HLS.out.at (by omega); clear hjk
   obtain ⟨c0, c1, c2⟩ := hat q z hz
   have c0 := (BX.out.cell (p := ⟨bl, _, none⟩) hbl).trans c0
   have c1 := (BX.out.cell (p := ⟨bl, _, none⟩) hbl).trans c1
   have c2 := (BX.out.cell (p := ⟨bl, _, none⟩) hbl).trans c2
   have HZ := qHd hz; have HAT := qHd hat
   have PD := qHd (PK.out.trans (pickL_drop (ps := L.map Rv.q) (acc := acc) hz))
   have HC := qHd (HCU.out z (List.mem_of_getElem? hz))
   clear hat hz
   obtain ⟨xy, xn, xr⟩ := z
   simp only at c0 c1 c2 HC
   have hltz : (q : Int) < (ls.length : Int) := by omega
   obtain ⟨w4, hw4, hb4, g9, hg9, hx4⟩ := qBx5 wo (.cells #[.int .i64 (xy : Nat), .int .i64 (xn : Nat), .int .i64 xr] 48)
   have HB4 := qHd (HB.out.trans (hb4.mono HB.out.size)); have BX4 := qHd (BX.out.trans (hb4.mono BX.out.size)); have G64 := qHd (qaa G6.out hb4); have G9 := qHd hx4
   have HP4 := qHd (HL.out.below BX4.out)
   clear hb4 hx4
   go_wp2_with (with_reducible first | refine qad ?_ | refine qai ?_ | refine qaj ?_ | refine qak ?_ | refine qag ?_)
   rw [← hw4, ← hg9]
   clear hw4 hg9 c0 c1 c2
   refine qap.mk ?_
   by_cases hr2 : xr = 2
   ·subst hr2
    cases acc with
    | none =>
     rw [show atI none = -1 from rfl]
     have NB := qHd (PD.out.trans (congrArg (qfe (L.map Rv.q) (ls.drop (q + 1)) (q + 1)) (pickS_first rfl)))
     refine qao (A := ?aaA) (w := w4) 21 [] (by kernel_rfl) (Fl [KEq (.pointer (some ⟨g9, 2, none⟩)), KEq (.int .i64 2), KEq (.bool true), KEq (.bool true), KEq (.int .i64 (-1)), KEq (.bool true), KEq (.bool true), qfa, qfa, qfa, qfa, qfa, qfa, qfa, qfa, qfa, qfa, qfa, qfa, KEq undef, KEq (.bool true)]) (fun i => false) (by kernel_rfl) ?hqA (qcw (qae (kEq _) (qae (kEq _) (qae (kEq _) (qae (kEq _) (qae (kEq _) (qae (kEq _) (qae (kEq _) (qae (qfc) (qae (qfc) (qae (qfc) (qae (qfc) (qae (qfc) (qae (qfc) (qae (qfc) (qae (qfc) (qae (qfc) (qae (qfc) (qae (qfc) (qae (qfc) (qae (kEq _) (qae (kEq _) qcv)))))))))))))))))))))) ?haA ?stA ?tlA
     case hqA =>
      intro c a d v w h
      first | (simp only [Exit.then] at h ⊢; exact h) | (simp only [Exit.inBlock, Exit.then] at h ⊢; exact h) | exact h
     case haA =>
      intro vals
      simp only [qba, qcd, if_true, Act.put, List.setIfInBounds_toArray, List.set_cons_zero, List.set_cons_succ, List.getElem?_toArray, List.getElem?_cons_zero, List.getElem?_cons_succ, Option.bind_some]
      exact rfl
     case stA =>
      simp only [List.take_succ_cons, List.take_zero]
      refine qab rfl rfl ?_ (qab rfl rfl ?_ (qab rfl rfl ?_ (qab rfl rfl ?_ (qac rfl ?_ (qac rfl ?_ (qac rfl ?_ (qac rfl ?_ (qac rfl ?_ (qac rfl ?_ (qac rfl ?_ (qac rfl ?_ (qac rfl ?_ (qac rfl ?_ (qac rfl ?_ (qac rfl ?_ (qac rfl ?_ (qac rfl ?_ (qac rfl ?_ (qac rfl ?_ (qac rfl ?_ (qav)))))))))))))))))))))
      ·intro vals w1 hb hd
       refine qSv (.pointer (some ⟨g9, 2, none⟩)) (by go_simp) (qLk rfl rfl)
      ·intro vals w1 hb hd
       obtain ⟨e0, e1, e2⟩ := qay (qaa G9.out hb)
       rw [show vals 0 = .pointer (some ⟨g9, 2, none⟩) from hd 0 (by kernel_rfl)]
       refine qSv (.int .i64 2) (by go_simp) (qLk rfl rfl)
      ·intro vals w1 hb hd
       rw [show vals 1 = .int .i64 2 from hd 1 (by kernel_rfl)]
       refine qSv (.bool true) (by go_simp) (qLk rfl rfl)
      ·intro vals w1 hb hd
       rw [show vals 2 = .bool true from hd 2 (by kernel_rfl)]
       refine qSv (.bool true) (by go_simp) (qLk rfl rfl)
      ·intro vals w1 hb hd
       refine qam (qal rfl rfl (congrArg some (show KEq (.bool true) (vals 3) w1 from hd 3 (by kernel_rfl))) rfl) ?_
       refine qSv (.int .i64 (-1)) (by go_simp) (qLk rfl rfl)
      ·intro vals w1 hb hd
       refine qam (qal rfl rfl (congrArg some (show KEq (.bool true) (vals 3) w1 from hd 3 (by kernel_rfl))) rfl) ?_
       rw [show vals 4 = .int .i64 (-1) from hd 4 (by kernel_rfl)]
       refine qSv (.bool true) (by go_simp) (qLk rfl rfl)
      ·intro vals w1 hb hd
       refine qam (qal rfl rfl (congrArg some (show KEq (.bool true) (vals 3) w1 from hd 3 (by kernel_rfl))) rfl) ?_
       rw [show vals 5 = .bool true from hd 5 (by kernel_rfl)]
       refine qSv (.bool true) (by go_simp) (qLk rfl rfl)
      ·exact fun vals w1 _ hd => qau (qas rfl rfl (congrArg some (show KEq (.bool true) (vals 6) w1 from hd 6 (by kernel_rfl))) rfl) (qLk trivial rfl)
      ·exact fun vals w1 _ hd => qau (qas rfl rfl (congrArg some (show KEq (.bool true) (vals 6) w1 from hd 6 (by kernel_rfl))) rfl) (qLk trivial rfl)
      ·exact fun vals w1 _ hd => qau (qas rfl rfl (congrArg some (show KEq (.bool true) (vals 6) w1 from hd 6 (by kernel_rfl))) rfl) (qLk trivial rfl)
      ·exact fun vals w1 _ hd => qau (qas rfl rfl (congrArg some (show KEq (.bool true) (vals 6) w1 from hd 6 (by kernel_rfl))) rfl) (qLk trivial rfl)
      ·exact fun vals w1 _ hd => qau (qas rfl rfl (congrArg some (show KEq (.bool true) (vals 6) w1 from hd 6 (by kernel_rfl))) rfl) (qLk trivial rfl)
      ·exact fun vals w1 _ hd => qau (qas rfl rfl (congrArg some (show KEq (.bool true) (vals 6) w1 from hd 6 (by kernel_rfl))) rfl) (qLk trivial rfl)
      ·exact fun vals w1 _ hd => qau (qas rfl rfl (congrArg some (show KEq (.bool true) (vals 6) w1 from hd 6 (by kernel_rfl))) rfl) (qLk trivial rfl)
      ·exact fun vals w1 _ hd => qau (qas rfl rfl (congrArg some (show KEq (.bool true) (vals 6) w1 from hd 6 (by kernel_rfl))) rfl) (qLk trivial rfl)
      ·exact fun vals w1 _ hd => qau (qas rfl rfl (congrArg some (show KEq (.bool true) (vals 6) w1 from hd 6 (by kernel_rfl))) rfl) (qLk trivial rfl)
      ·exact fun vals w1 _ hd => qau (qas rfl rfl (congrArg some (show KEq (.bool true) (vals 6) w1 from hd 6 (by kernel_rfl))) rfl) (qLk trivial rfl)
      ·exact fun vals w1 _ hd => qau (qas rfl rfl (congrArg some (show KEq (.bool true) (vals 6) w1 from hd 6 (by kernel_rfl))) rfl) (qLk trivial rfl)
      ·exact fun vals w1 _ hd => qau (qas rfl rfl (congrArg some (show KEq (.bool true) (vals 6) w1 from hd 6 (by kernel_rfl))) rfl) (qLk trivial rfl)
      ·exact fun vals w1 _ hd => qau (qas rfl rfl (congrArg some (show KEq (.bool true) (vals 6) w1 from hd 6 (by kernel_rfl))) rfl) (qLk rfl rfl)
      ·intro vals w1 hb hd
       refine qam (qal rfl rfl (congrArg some (show KEq (.bool true) (vals 3) w1 from hd 3 (by kernel_rfl))) rfl) ?_
       rw [show vals 6 = .bool true from hd 6 (by kernel_rfl)]
       refine qSv (.bool true) (by go_simp) (qLk rfl rfl)
     case tlA =>
      intro vals w5 hb5 hf hdis
      simp only [List.drop_succ_cons, List.drop_zero]
      have z3 : vals 3 = _ := hf 3 (by decide)
      rw [z3]; clear z3
      have z20 : vals 20 = _ := hf 20 (by decide)
      rw [z20]; clear z20
      clear hf hdis
      have BX5 := qHd (BX4.out.trans (hb5.mono BX4.out.size))
      have HB5 := qHd (HB4.out.trans (hb5.mono HB4.out.size))
      have G65 := qHd (qaa G64.out hb5)
      clear hb5
      go_wp2_with fail
      go_roundw
      case rel => exact ⟨q + 1, some (q, wt (L.map Rv.q) xy xn), by omega, by go_num, by first | rfl | go_num, BX5, NB, qHd (accOK_at HZ.out)⟩
      case measure => simp [intOf]; omega
    | some p =>
     obtain ⟨j, m⟩ := p
     rw [show atI (some (j, m)) = ((j : Nat) : Int) from rfl]
     obtain ⟨z2, hz2, hm⟩ := AK.out _ rfl
     have hjl : j < ls.length := (List.getElem?_eq_some_iff.1 hz2).1
     have hjz : (j : Int) < (ls.length : Int) := by omega
     have CJ := qHd (HAT.out j z2 hz2); have HJ := qHd (HCU.out z2 (List.mem_of_getElem? hz2))
     obtain ⟨jy, jn, jr⟩ := z2
     simp only at CJ HJ hm
     obtain ⟨wx, hwx⟩ : ∃ u, u = wt (L.map Rv.q) xy xn := ⟨_, rfl⟩
     obtain ⟨wj, hwj⟩ : ∃ u, u = wt (L.map Rv.q) jy jn := ⟨_, rfl⟩
     have WXE := qHd hwx; have WJE := qHd hwj
     have LWX := qHd (show rl wx ≤ 121 by rw [hwx]; exact rl_wt24 h24' (fun z hz => (HRV.out z hz).lq) xy xn)
     have LWJ := qHd (show rl wj ≤ 121 by rw [hwj]; exact rl_wt24 h24' (fun z hz => (HRV.out z hz).lq) jy jn)
     have hmw : m = wj := by rw [hm, hwj]
     have HMW := qHd hmw
     clear hz2 hm hwx hwj hmw
     by_cases hlw : m < wx
     ·have DV := qHd (show 0 < cq wx wj from (cq_gt _ _).2 (by rw [← HMW.out]; exact hlw))
      have NB := qHd (PD.out.trans (congrArg (qfe (L.map Rv.q) (ls.drop (q + 1)) (q + 1)) ((pickS_more rfl).trans (if_pos (by rw [← WXE.out]; exact hlw)))))
      refine qao (A := ?aaB1) (w := w4) 21 [] (by kernel_rfl) (Fl [KEq (.pointer (some ⟨g9, 2, none⟩)), KEq (.int .i64 2), KEq (.bool true), KEq (.bool true), KEq (.int .i64 (j : Nat)), KEq (.bool false), KEq (.bool false), KEq (.pointer (some ⟨g9, 0, none⟩)), KEq (.agg #[.int .i64 (xy : Nat), .int .i64 (xn : Nat)]), KEq (.slice al L.length cl), KIs wx, KEq (.slice (some ⟨bl, ol, none⟩) ls.length cv), KEq (.int .i64 (j : Nat)), KEq (.pointer (some ⟨bl, ol + j * 3, none⟩)), KEq (.pointer (some ⟨bl, ol + j * 3, none⟩)), KEq (.agg #[.int .i64 (jy : Nat), .int .i64 (jn : Nat)]), KEq (.slice al L.length cl), KIs wj, KEq (.int .i64 (cq wx wj)), KEq (.bool true), KEq (.bool true)]) (fun i => false) (by kernel_rfl) ?hqB1 (qcw (qae (kEq _) (qae (kEq _) (qae (kEq _) (qae (kEq _) (qae (kEq _) (qae (kEq _) (qae (kEq _) (qae (kEq _) (qae (kEq _) (qae (kEq _) (qae (kIs _) (qae (kEq _) (qae (kEq _) (qae (kEq _) (qae (kEq _) (qae (kEq _) (qae (kEq _) (qae (kIs _) (qae (kEq _) (qae (kEq _) (qae (kEq _) qcv)))))))))))))))))))))) ?haB1 ?stB1 ?tlB1
      case hqB1 =>
       intro c a d v w h
       first | (simp only [Exit.then] at h ⊢; exact h) | (simp only [Exit.inBlock, Exit.then] at h ⊢; exact h) | exact h
      case haB1 =>
       intro vals
       simp only [qba, qcd, if_true, Act.put, List.setIfInBounds_toArray, List.set_cons_zero, List.set_cons_succ, List.getElem?_toArray, List.getElem?_cons_zero, List.getElem?_cons_succ, Option.bind_some]
       exact rfl
      case stB1 =>
       simp only [List.take_succ_cons, List.take_zero]
       refine qab rfl rfl ?_ (qab rfl rfl ?_ (qab rfl rfl ?_ (qab rfl rfl ?_ (qac rfl ?_ (qac rfl ?_ (qac rfl ?_ (qac rfl ?_ (qac rfl ?_ (qac rfl ?_ (qac rfl ?_ (qac rfl ?_ (qac rfl ?_ (qac rfl ?_ (qac rfl ?_ (qac rfl ?_ (qac rfl ?_ (qac rfl ?_ (qac rfl ?_ (qac rfl ?_ (qac rfl ?_ (qav)))))))))))))))))))))
       ·intro vals w1 hb hd
        refine qSv (.pointer (some ⟨g9, 2, none⟩)) (by go_simp) (qLk rfl rfl)
       ·intro vals w1 hb hd
        obtain ⟨e0, e1, e2⟩ := qay (qaa G9.out hb)
        rw [show vals 0 = .pointer (some ⟨g9, 2, none⟩) from hd 0 (by kernel_rfl)]
        refine qSv (.int .i64 2) (by go_simp) (qLk rfl rfl)
       ·intro vals w1 hb hd
        rw [show vals 1 = .int .i64 2 from hd 1 (by kernel_rfl)]
        refine qSv (.bool true) (by go_simp) (qLk rfl rfl)
       ·intro vals w1 hb hd
        rw [show vals 2 = .bool true from hd 2 (by kernel_rfl)]
        refine qSv (.bool true) (by go_simp) (qLk rfl rfl)
       ·intro vals w1 hb hd
        refine qam (qal rfl rfl (congrArg some (show KEq (.bool true) (vals 3) w1 from hd 3 (by kernel_rfl))) rfl) ?_
        refine qSv (.int .i64 (j : Nat)) (by go_simp) (qLk rfl rfl)
       ·intro vals w1 hb hd
        refine qam (qal rfl rfl (congrArg some (show KEq (.bool true) (vals 3) w1 from hd 3 (by kernel_rfl))) rfl) ?_
        rw [show vals 4 = .int .i64 (j : Nat) from hd 4 (by kernel_rfl)]
        refine qSv (.bool false) (by go_simp; first | done | exact DV.out | exact Int.not_lt.1 DV.out | exact decide_eq_false DV.out | omega | (simp only [decide_eq_true_eq, decide_eq_false_iff_not]; omega) | (simp; omega)) (qLk rfl rfl)
       ·intro vals w1 hb hd
        refine qam (qal rfl rfl (congrArg some (show KEq (.bool true) (vals 3) w1 from hd 3 (by kernel_rfl))) rfl) ?_
        rw [show vals 5 = .bool false from hd 5 (by kernel_rfl)]
        refine qSv (.bool false) (by go_simp) (qLk rfl rfl)
       ·intro vals w1 hb hd
        refine qam (qal rfl rfl (congrArg some (show KEq (.bool false) (vals 6) w1 from hd 6 (by kernel_rfl))) rfl) ?_
        refine qSv (.pointer (some ⟨g9, 0, none⟩)) (by go_simp) (qLk rfl rfl)
       ·intro vals w1 hb hd
        refine qam (qal rfl rfl (congrArg some (show KEq (.bool false) (vals 6) w1 from hd 6 (by kernel_rfl))) rfl) ?_
        obtain ⟨e0, e1, e2⟩ := qay (qaa G9.out hb)
        rw [show vals 7 = .pointer (some ⟨g9, 0, none⟩) from hd 7 (by kernel_rfl)]
        refine qSv (.agg #[.int .i64 (xy : Nat), .int .i64 (xn : Nat)]) (by go_simp) (qLk rfl rfl)
       ·intro vals w1 hb hd
        refine qam (qal rfl rfl (congrArg some (show KEq (.bool false) (vals 6) w1 from hd 6 (by kernel_rfl))) rfl) ?_
        refine qSv (.slice al L.length cl) (by go_simp) (qLk rfl rfl)
       ·intro vals w1 hb hd
        refine qam (qal rfl rfl (congrArg some (show KEq (.bool false) (vals 6) w1 from hd 6 (by kernel_rfl))) rfl) ?_
        have d8 : KEq (.agg #[.int .i64 (xy : Nat), .int .i64 (xn : Nat)]) (vals 8) w1 := hd 8 (by kernel_rfl)
        have d9 : KEq (.slice al L.length cl) (vals 9) w1 := hd 9 (by kernel_rfl)
        have HS := qHd (rweight_any _ L xy xn 3 w1 (HP4.out.below hb) HRV.out h24' HC.out.1 HC.out.2.1 HC.out.2.2 (by decide))
        have z8 : vals 8 = _ := d8
        rw [z8]; clear z8
        have z9 : vals 9 = _ := d9
        rw [z9]; clear z9
        refine qat (by go_simp; first | done | exact ⟨⟨rfl, rfl⟩, rfl⟩) ?_
        (with_reducible refine HS.out.mono ?_); rintro e w2 ⟨v, rfl, hb2, hn⟩
        exact ⟨v, rfl, qar hb2 (by rw [WXE.out]; exact hn) (fun h => by cases h)⟩
       ·intro vals w1 hb hd
        refine qam (qal rfl rfl (congrArg some (show KEq (.bool false) (vals 6) w1 from hd 6 (by kernel_rfl))) rfl) ?_
        refine qSv (.slice (some ⟨bl, ol, none⟩) ls.length cv) (by go_simp) (qLk rfl rfl)
       ·intro vals w1 hb hd
        refine qam (qal rfl rfl (congrArg some (show KEq (.bool false) (vals 6) w1 from hd 6 (by kernel_rfl))) rfl) ?_
        refine qSv (.int .i64 (j : Nat)) (by go_simp) (qLk rfl rfl)
       ·intro vals w1 hb hd
        refine qam (qal rfl rfl (congrArg some (show KEq (.bool false) (vals 6) w1 from hd 6 (by kernel_rfl))) rfl) ?_
        rw [show vals 11 = .slice (some ⟨bl, ol, none⟩) ls.length cv from hd 11 (by kernel_rfl)]
        rw [show vals 12 = .int .i64 (j : Nat) from hd 12 (by kernel_rfl)]
        refine qSv (.pointer (some ⟨bl, ol + j * 3, none⟩)) (by go_simp) (qLk rfl rfl)
       ·intro vals w1 hb hd
        refine qam (qal rfl rfl (congrArg some (show KEq (.bool false) (vals 6) w1 from hd 6 (by kernel_rfl))) rfl) ?_
        rw [show vals 13 = .pointer (some ⟨bl, ol + j * 3, none⟩) from hd 13 (by kernel_rfl)]
        refine qSv (.pointer (some ⟨bl, ol + j * 3, none⟩)) (by go_simp) (qLk rfl rfl)
       ·intro vals w1 hb hd
        refine qam (qal rfl rfl (congrArg some (show KEq (.bool false) (vals 6) w1 from hd 6 (by kernel_rfl))) rfl) ?_
        have hbx := BX4.out.trans (hb.mono BX4.out.size)
        have k0 := (hbx.cell (p := ⟨bl, _, none⟩) hbl).trans CJ.out.1
        have k1 := (hbx.cell (p := ⟨bl, _, none⟩) hbl).trans CJ.out.2.1
        have k2 := (hbx.cell (p := ⟨bl, _, none⟩) hbl).trans CJ.out.2.2
        rw [show vals 14 = .pointer (some ⟨bl, ol + j * 3, none⟩) from hd 14 (by kernel_rfl)]
        refine qSv (.agg #[.int .i64 (jy : Nat), .int .i64 (jn : Nat)]) (by go_simp) (qLk rfl rfl)
       ·intro vals w1 hb hd
        refine qam (qal rfl rfl (congrArg some (show KEq (.bool false) (vals 6) w1 from hd 6 (by kernel_rfl))) rfl) ?_
        refine qSv (.slice al L.length cl) (by go_simp) (qLk rfl rfl)
       ·intro vals w1 hb hd
        refine qam (qal rfl rfl (congrArg some (show KEq (.bool false) (vals 6) w1 from hd 6 (by kernel_rfl))) rfl) ?_
        have d15 : KEq (.agg #[.int .i64 (jy : Nat), .int .i64 (jn : Nat)]) (vals 15) w1 := hd 15 (by kernel_rfl)
        have d16 : KEq (.slice al L.length cl) (vals 16) w1 := hd 16 (by kernel_rfl)
        have HS := qHd (rweight_any _ L jy jn 3 w1 (HP4.out.below hb) HRV.out h24' HJ.out.1 HJ.out.2.1 HJ.out.2.2 (by decide))
        have z15 : vals 15 = _ := d15
        rw [z15]; clear z15
        have z16 : vals 16 = _ := d16
        rw [z16]; clear z16
        refine qat (by go_simp; first | done | exact ⟨⟨rfl, rfl⟩, rfl⟩) ?_
        (with_reducible refine HS.out.mono ?_); rintro e w2 ⟨v, rfl, hb2, hn⟩
        exact ⟨v, rfl, qar hb2 (by rw [WJE.out]; exact hn) (fun h => by cases h)⟩
       ·intro vals w1 hb hd
        refine qam (qal rfl rfl (congrArg some (show KEq (.bool false) (vals 6) w1 from hd 6 (by kernel_rfl))) rfl) ?_
        have d10 : KIs wx (vals 10) w1 := hd 10 (by kernel_rfl)
        have d17 : KIs wj (vals 17) w1 := hd 17 (by kernel_rfl)
        have HS := qHd (rcmpq_any (vals 10) wx (vals 17) wj w1 (IsR.is d10 (by have := LWX.out; omega)) (IsR.is d17 (by have := LWJ.out; omega)) (by have := LWX.out; omega) (by have := LWJ.out; omega))
        refine qat (by go_simp; first | done | exact ⟨⟨rfl, rfl⟩, rfl⟩) ?_
        (with_reducible refine HS.out.mono ?_); rintro e w2 ⟨rfl, hb2⟩
        exact ⟨_, rfl, qar hb2 rfl (fun h => by cases h)⟩
       ·intro vals w1 hb hd
        refine qam (qal rfl rfl (congrArg some (show KEq (.bool false) (vals 6) w1 from hd 6 (by kernel_rfl))) rfl) ?_
        rw [show vals 18 = .int .i64 (cq wx wj) from hd 18 (by kernel_rfl)]
        refine qSv (.bool true) (by go_simp; first | done | exact DV.out | exact Int.not_lt.1 DV.out | exact decide_eq_false DV.out | omega | (simp only [decide_eq_true_eq, decide_eq_false_iff_not]; omega) | (simp; omega)) (qLk rfl rfl)
       ·intro vals w1 hb hd
        refine qam (qal rfl rfl (congrArg some (show KEq (.bool true) (vals 3) w1 from hd 3 (by kernel_rfl))) rfl) ?_
        rw [show vals 6 = .bool false from hd 6 (by kernel_rfl)]
        rw [show vals 19 = .bool true from hd 19 (by kernel_rfl)]
        refine qSv (.bool true) (by go_simp) (qLk rfl rfl)
      case tlB1 =>
       intro vals w5 hb5 hf hdis
       simp only [List.drop_succ_cons, List.drop_zero]
       have z3 : vals 3 = _ := hf 3 (by decide)
       rw [z3]; clear z3
       have z20 : vals 20 = _ := hf 20 (by decide)
       rw [z20]; clear z20
       clear hf hdis
       have BX5 := qHd (BX4.out.trans (hb5.mono BX4.out.size))
       have HB5 := qHd (HB4.out.trans (hb5.mono HB4.out.size))
       have G65 := qHd (qaa G64.out hb5)
       clear hb5
       go_wp2_with fail
       go_roundw
       case rel => exact ⟨q + 1, some (q, wt (L.map Rv.q) xy xn), by omega, by go_num, by first | rfl | go_num, BX5, NB, qHd (accOK_at HZ.out)⟩
       case measure => simp [intOf]; omega
     ·have DV := qHd (show ¬ 0 < cq wx wj from fun h => hlw (by rw [HMW.out]; exact (cq_gt _ _).1 h))
      have NB := qHd (PD.out.trans (congrArg (qfe (L.map Rv.q) (ls.drop (q + 1)) (q + 1)) ((pickS_more rfl).trans (if_neg (by rw [← WXE.out]; exact hlw)))))
      refine qao (A := ?aaB2) (w := w4) 21 [] (by kernel_rfl) (Fl [KEq (.pointer (some ⟨g9, 2, none⟩)), KEq (.int .i64 2), KEq (.bool true), KEq (.bool true), KEq (.int .i64 (j : Nat)), KEq (.bool false), KEq (.bool false), KEq (.pointer (some ⟨g9, 0, none⟩)), KEq (.agg #[.int .i64 (xy : Nat), .int .i64 (xn : Nat)]), KEq (.slice al L.length cl), KIs wx, KEq (.slice (some ⟨bl, ol, none⟩) ls.length cv), KEq (.int .i64 (j : Nat)), KEq (.pointer (some ⟨bl, ol + j * 3, none⟩)), KEq (.pointer (some ⟨bl, ol + j * 3, none⟩)), KEq (.agg #[.int .i64 (jy : Nat), .int .i64 (jn : Nat)]), KEq (.slice al L.length cl), KIs wj, KEq (.int .i64 (cq wx wj)), KEq (.bool false), KEq (.bool false)]) (fun i => false) (by kernel_rfl) ?hqB2 (qcw (qae (kEq _) (qae (kEq _) (qae (kEq _) (qae (kEq _) (qae (kEq _) (qae (kEq _) (qae (kEq _) (qae (kEq _) (qae (kEq _) (qae (kEq _) (qae (kIs _) (qae (kEq _) (qae (kEq _) (qae (kEq _) (qae (kEq _) (qae (kEq _) (qae (kEq _) (qae (kIs _) (qae (kEq _) (qae (kEq _) (qae (kEq _) qcv)))))))))))))))))))))) ?haB2 ?stB2 ?tlB2
      case hqB2 =>
       intro c a d v w h
       first | (simp only [Exit.then] at h ⊢; exact h) | (simp only [Exit.inBlock, Exit.then] at h ⊢; exact h) | exact h
      case haB2 =>
       intro vals
       simp only [qba, qcd, if_true, Act.put, List.setIfInBounds_toArray, List.set_cons_zero, List.set_cons_succ, List.getElem?_toArray, List.getElem?_cons_zero, List.getElem?_cons_succ, Option.bind_some]
       exact rfl
      case stB2 =>
       simp only [List.take_succ_cons, List.take_zero]
       refine qab rfl rfl ?_ (qab rfl rfl ?_ (qab rfl rfl ?_ (qab rfl rfl ?_ (qac rfl ?_ (qac rfl ?_ (qac rfl ?_ (qac rfl ?_ (qac rfl ?_ (qac rfl ?_ (qac rfl ?_ (qac rfl ?_ (qac rfl ?_ (qac rfl ?_ (qac rfl ?_ (qac rfl ?_ (qac rfl ?_ (qac rfl ?_ (qac rfl ?_ (qac rfl ?_ (qac rfl ?_ (qav)))))))))))))))))))))
       ·intro vals w1 hb hd
        refine qSv (.pointer (some ⟨g9, 2, none⟩)) (by go_simp) (qLk rfl rfl)
       ·intro vals w1 hb hd
        obtain ⟨e0, e1, e2⟩ := qay (qaa G9.out hb)
        rw [show vals 0 = .pointer (some ⟨g9, 2, none⟩) from hd 0 (by kernel_rfl)]
        refine qSv (.int .i64 2) (by go_simp) (qLk rfl rfl)
       ·intro vals w1 hb hd
        rw [show vals 1 = .int .i64 2 from hd 1 (by kernel_rfl)]
        refine qSv (.bool true) (by go_simp) (qLk rfl rfl)
       ·intro vals w1 hb hd
        rw [show vals 2 = .bool true from hd 2 (by kernel_rfl)]
        refine qSv (.bool true) (by go_simp) (qLk rfl rfl)
       ·intro vals w1 hb hd
        refine qam (qal rfl rfl (congrArg some (show KEq (.bool true) (vals 3) w1 from hd 3 (by kernel_rfl))) rfl) ?_
        refine qSv (.int .i64 (j : Nat)) (by go_simp) (qLk rfl rfl)
       ·intro vals w1 hb hd
        refine qam (qal rfl rfl (congrArg some (show KEq (.bool true) (vals 3) w1 from hd 3 (by kernel_rfl))) rfl) ?_
        rw [show vals 4 = .int .i64 (j : Nat) from hd 4 (by kernel_rfl)]
        refine qSv (.bool false) (by go_simp; first | done | exact DV.out | exact Int.not_lt.1 DV.out | exact decide_eq_false DV.out | omega | (simp only [decide_eq_true_eq, decide_eq_false_iff_not]; omega) | (simp; omega)) (qLk rfl rfl)
       ·intro vals w1 hb hd
        refine qam (qal rfl rfl (congrArg some (show KEq (.bool true) (vals 3) w1 from hd 3 (by kernel_rfl))) rfl) ?_
        rw [show vals 5 = .bool false from hd 5 (by kernel_rfl)]
        refine qSv (.bool false) (by go_simp) (qLk rfl rfl)
       ·intro vals w1 hb hd
        refine qam (qal rfl rfl (congrArg some (show KEq (.bool false) (vals 6) w1 from hd 6 (by kernel_rfl))) rfl) ?_
        refine qSv (.pointer (some ⟨g9, 0, none⟩)) (by go_simp) (qLk rfl rfl)
       ·intro vals w1 hb hd
        refine qam (qal rfl rfl (congrArg some (show KEq (.bool false) (vals 6) w1 from hd 6 (by kernel_rfl))) rfl) ?_
        obtain ⟨e0, e1, e2⟩ := qay (qaa G9.out hb)
        rw [show vals 7 = .pointer (some ⟨g9, 0, none⟩) from hd 7 (by kernel_rfl)]
        refine qSv (.agg #[.int .i64 (xy : Nat), .int .i64 (xn : Nat)]) (by go_simp) (qLk rfl rfl)
       ·intro vals w1 hb hd
        refine qam (qal rfl rfl (congrArg some (show KEq (.bool false) (vals 6) w1 from hd 6 (by kernel_rfl))) rfl) ?_
        refine qSv (.slice al L.length cl) (by go_simp) (qLk rfl rfl)
       ·intro vals w1 hb hd
        refine qam (qal rfl rfl (congrArg some (show KEq (.bool false) (vals 6) w1 from hd 6 (by kernel_rfl))) rfl) ?_
        have d8 : KEq (.agg #[.int .i64 (xy : Nat), .int .i64 (xn : Nat)]) (vals 8) w1 := hd 8 (by kernel_rfl)
        have d9 : KEq (.slice al L.length cl) (vals 9) w1 := hd 9 (by kernel_rfl)
        have HS := qHd (rweight_any _ L xy xn 3 w1 (HP4.out.below hb) HRV.out h24' HC.out.1 HC.out.2.1 HC.out.2.2 (by decide))
        have z8 : vals 8 = _ := d8
        rw [z8]; clear z8
        have z9 : vals 9 = _ := d9
        rw [z9]; clear z9
        refine qat (by go_simp; first | done | exact ⟨⟨rfl, rfl⟩, rfl⟩) ?_
        (with_reducible refine HS.out.mono ?_); rintro e w2 ⟨v, rfl, hb2, hn⟩
        exact ⟨v, rfl, qar hb2 (by rw [WXE.out]; exact hn) (fun h => by cases h)⟩
       ·intro vals w1 hb hd
        refine qam (qal rfl rfl (congrArg some (show KEq (.bool false) (vals 6) w1 from hd 6 (by kernel_rfl))) rfl) ?_
        refine qSv (.slice (some ⟨bl, ol, none⟩) ls.length cv) (by go_simp) (qLk rfl rfl)
       ·intro vals w1 hb hd
        refine qam (qal rfl rfl (congrArg some (show KEq (.bool false) (vals 6) w1 from hd 6 (by kernel_rfl))) rfl) ?_
        refine qSv (.int .i64 (j : Nat)) (by go_simp) (qLk rfl rfl)
       ·intro vals w1 hb hd
        refine qam (qal rfl rfl (congrArg some (show KEq (.bool false) (vals 6) w1 from hd 6 (by kernel_rfl))) rfl) ?_
        rw [show vals 11 = .slice (some ⟨bl, ol, none⟩) ls.length cv from hd 11 (by kernel_rfl)]
        rw [show vals 12 = .int .i64 (j : Nat) from hd 12 (by kernel_rfl)]
        refine qSv (.pointer (some ⟨bl, ol + j * 3, none⟩)) (by go_simp) (qLk rfl rfl)
       ·intro vals w1 hb hd
        refine qam (qal rfl rfl (congrArg some (show KEq (.bool false) (vals 6) w1 from hd 6 (by kernel_rfl))) rfl) ?_
        rw [show vals 13 = .pointer (some ⟨bl, ol + j * 3, none⟩) from hd 13 (by kernel_rfl)]
        refine qSv (.pointer (some ⟨bl, ol + j * 3, none⟩)) (by go_simp) (qLk rfl rfl)
       ·intro vals w1 hb hd
        refine qam (qal rfl rfl (congrArg some (show KEq (.bool false) (vals 6) w1 from hd 6 (by kernel_rfl))) rfl) ?_
        have hbx := BX4.out.trans (hb.mono BX4.out.size)
        have k0 := (hbx.cell (p := ⟨bl, _, none⟩) hbl).trans CJ.out.1
        have k1 := (hbx.cell (p := ⟨bl, _, none⟩) hbl).trans CJ.out.2.1
        have k2 := (hbx.cell (p := ⟨bl, _, none⟩) hbl).trans CJ.out.2.2
        rw [show vals 14 = .pointer (some ⟨bl, ol + j * 3, none⟩) from hd 14 (by kernel_rfl)]
        refine qSv (.agg #[.int .i64 (jy : Nat), .int .i64 (jn : Nat)]) (by go_simp) (qLk rfl rfl)
       ·intro vals w1 hb hd
        refine qam (qal rfl rfl (congrArg some (show KEq (.bool false) (vals 6) w1 from hd 6 (by kernel_rfl))) rfl) ?_
        refine qSv (.slice al L.length cl) (by go_simp) (qLk rfl rfl)
       ·intro vals w1 hb hd
        refine qam (qal rfl rfl (congrArg some (show KEq (.bool false) (vals 6) w1 from hd 6 (by kernel_rfl))) rfl) ?_
        have d15 : KEq (.agg #[.int .i64 (jy : Nat), .int .i64 (jn : Nat)]) (vals 15) w1 := hd 15 (by kernel_rfl)
        have d16 : KEq (.slice al L.length cl) (vals 16) w1 := hd 16 (by kernel_rfl)
        have HS := qHd (rweight_any _ L jy jn 3 w1 (HP4.out.below hb) HRV.out h24' HJ.out.1 HJ.out.2.1 HJ.out.2.2 (by decide))
        have z15 : vals 15 = _ := d15
        rw [z15]; clear z15
        have z16 : vals 16 = _ := d16
        rw [z16]; clear z16
        refine qat (by go_simp; first | done | exact ⟨⟨rfl, rfl⟩, rfl⟩) ?_
        (with_reducible refine HS.out.mono ?_); rintro e w2 ⟨v, rfl, hb2, hn⟩
        exact ⟨v, rfl, qar hb2 (by rw [WJE.out]; exact hn) (fun h => by cases h)⟩
       ·intro vals w1 hb hd
        refine qam (qal rfl rfl (congrArg some (show KEq (.bool false) (vals 6) w1 from hd 6 (by kernel_rfl))) rfl) ?_
        have d10 : KIs wx (vals 10) w1 := hd 10 (by kernel_rfl)
        have d17 : KIs wj (vals 17) w1 := hd 17 (by kernel_rfl)
        have HS := qHd (rcmpq_any (vals 10) wx (vals 17) wj w1 (IsR.is d10 (by have := LWX.out; omega)) (IsR.is d17 (by have := LWJ.out; omega)) (by have := LWX.out; omega) (by have := LWJ.out; omega))
        refine qat (by go_simp; first | done | exact ⟨⟨rfl, rfl⟩, rfl⟩) ?_
        (with_reducible refine HS.out.mono ?_); rintro e w2 ⟨rfl, hb2⟩
        exact ⟨_, rfl, qar hb2 rfl (fun h => by cases h)⟩
       ·intro vals w1 hb hd
        refine qam (qal rfl rfl (congrArg some (show KEq (.bool false) (vals 6) w1 from hd 6 (by kernel_rfl))) rfl) ?_
        rw [show vals 18 = .int .i64 (cq wx wj) from hd 18 (by kernel_rfl)]
        refine qSv (.bool false) (by go_simp; first | done | exact DV.out | exact Int.not_lt.1 DV.out | exact decide_eq_false DV.out | omega | (simp only [decide_eq_true_eq, decide_eq_false_iff_not]; omega) | (simp; omega)) (qLk rfl rfl)
       ·intro vals w1 hb hd
        refine qam (qal rfl rfl (congrArg some (show KEq (.bool true) (vals 3) w1 from hd 3 (by kernel_rfl))) rfl) ?_
        rw [show vals 6 = .bool false from hd 6 (by kernel_rfl)]
        rw [show vals 19 = .bool false from hd 19 (by kernel_rfl)]
        refine qSv (.bool false) (by go_simp) (qLk rfl rfl)
      case tlB2 =>
       intro vals w5 hb5 hf hdis
       simp only [List.drop_succ_cons, List.drop_zero]
       have z3 : vals 3 = _ := hf 3 (by decide)
       rw [z3]; clear z3
       have z20 : vals 20 = _ := hf 20 (by decide)
       rw [z20]; clear z20
       clear hf hdis
       have BX5 := qHd (BX4.out.trans (hb5.mono BX4.out.size))
       have HB5 := qHd (HB4.out.trans (hb5.mono HB4.out.size))
       have G65 := qHd (qaa G64.out hb5)
       clear hb5
       go_wp2_with fail
       go_roundw
       case rel => exact ⟨q + 1, some (j, m), by omega, by go_num, by first | rfl | go_num, BX5, NB, AK⟩
       case measure => simp [intOf]; omega
   ·have DV := qHd (show (xr == 2) = false by rw [beq_eq_false_iff_ne]; exact hr2)
    have NB := qHd (PD.out.trans (congrArg (qfe (L.map Rv.q) (ls.drop (q + 1)) (q + 1)) (pickS_no (by exact hr2))))
    refine qao (A := ?aaN) (w := w4) 21 [] (by kernel_rfl) (Fl [KEq (.pointer (some ⟨g9, 2, none⟩)), KEq (.int .i64 xr), KEq (.bool false), KEq (.bool false), qfa, qfa, KEq undef, qfa, qfa, qfa, qfa, qfa, qfa, qfa, qfa, qfa, qfa, qfa, qfa, qfa, qfa]) (fun i => false) (by kernel_rfl) ?hqN (qcw (qae (kEq _) (qae (kEq _) (qae (kEq _) (qae (kEq _) (qae (qfc) (qae (qfc) (qae (kEq _) (qae (qfc) (qae (qfc) (qae (qfc) (qae (qfc) (qae (qfc) (qae (qfc) (qae (qfc) (qae (qfc) (qae (qfc) (qae (qfc) (qae (qfc) (qae (qfc) (qae (qfc) (qae (qfc) qcv)))))))))))))))))))))) ?haN ?stN ?tlN
    case hqN =>
     intro c a d v w h
     first | (simp only [Exit.then] at h ⊢; exact h) | (simp only [Exit.inBlock, Exit.then] at h ⊢; exact h) | exact h
    case haN =>
     intro vals
     simp only [qba, qcd, if_true, Act.put, List.setIfInBounds_toArray, List.set_cons_zero, List.set_cons_succ, List.getElem?_toArray, List.getElem?_cons_zero, List.getElem?_cons_succ, Option.bind_some]
     exact rfl
    case stN =>
     simp only [List.take_succ_cons, List.take_zero]
     refine qab rfl rfl ?_ (qab rfl rfl ?_ (qab rfl rfl ?_ (qab rfl rfl ?_ (qac rfl ?_ (qac rfl ?_ (qac rfl ?_ (qac rfl ?_ (qac rfl ?_ (qac rfl ?_ (qac rfl ?_ (qac rfl ?_ (qac rfl ?_ (qac rfl ?_ (qac rfl ?_ (qac rfl ?_ (qac rfl ?_ (qac rfl ?_ (qac rfl ?_ (qac rfl ?_ (qac rfl ?_ (qav)))))))))))))))))))))
     ·intro vals w1 hb hd
      refine qSv (.pointer (some ⟨g9, 2, none⟩)) (by go_simp) (qLk rfl rfl)
     ·intro vals w1 hb hd
      obtain ⟨e0, e1, e2⟩ := qay (qaa G9.out hb)
      rw [show vals 0 = .pointer (some ⟨g9, 2, none⟩) from hd 0 (by kernel_rfl)]
      refine qSv (.int .i64 xr) (by go_simp) (qLk rfl rfl)
     ·intro vals w1 hb hd
      rw [show vals 1 = .int .i64 xr from hd 1 (by kernel_rfl)]
      refine qSv (.bool false) (by go_simp; first | done | exact DV.out | exact Int.not_lt.1 DV.out | exact decide_eq_false DV.out | omega | (simp only [decide_eq_true_eq, decide_eq_false_iff_not]; omega) | (simp; omega)) (qLk rfl rfl)
     ·intro vals w1 hb hd
      rw [show vals 2 = .bool false from hd 2 (by kernel_rfl)]
      refine qSv (.bool false) (by go_simp) (qLk rfl rfl)
     ·exact fun vals w1 _ hd => qau (qas rfl rfl (congrArg some (show KEq (.bool false) (vals 3) w1 from hd 3 (by kernel_rfl))) rfl) (qLk trivial rfl)
     ·exact fun vals w1 _ hd => qau (qas rfl rfl (congrArg some (show KEq (.bool false) (vals 3) w1 from hd 3 (by kernel_rfl))) rfl) (qLk trivial rfl)
     ·exact fun vals w1 _ hd => qau (qas rfl rfl (congrArg some (show KEq (.bool false) (vals 3) w1 from hd 3 (by kernel_rfl))) rfl) (qLk rfl rfl)
     ·exact fun vals w1 _ hd => qau (qbc rfl rfl (congrArg some (show KEq (undef) (vals 6) w1 from hd 6 (by kernel_rfl)))) (qLk trivial rfl)
     ·exact fun vals w1 _ hd => qau (qbc rfl rfl (congrArg some (show KEq (undef) (vals 6) w1 from hd 6 (by kernel_rfl)))) (qLk trivial rfl)
     ·exact fun vals w1 _ hd => qau (qbc rfl rfl (congrArg some (show KEq (undef) (vals 6) w1 from hd 6 (by kernel_rfl)))) (qLk trivial rfl)
     ·exact fun vals w1 _ hd => qau (qbc rfl rfl (congrArg some (show KEq (undef) (vals 6) w1 from hd 6 (by kernel_rfl)))) (qLk trivial rfl)
     ·exact fun vals w1 _ hd => qau (qbc rfl rfl (congrArg some (show KEq (undef) (vals 6) w1 from hd 6 (by kernel_rfl)))) (qLk trivial rfl)
     ·exact fun vals w1 _ hd => qau (qbc rfl rfl (congrArg some (show KEq (undef) (vals 6) w1 from hd 6 (by kernel_rfl)))) (qLk trivial rfl)
     ·exact fun vals w1 _ hd => qau (qbc rfl rfl (congrArg some (show KEq (undef) (vals 6) w1 from hd 6 (by kernel_rfl)))) (qLk trivial rfl)
     ·exact fun vals w1 _ hd => qau (qbc rfl rfl (congrArg some (show KEq (undef) (vals 6) w1 from hd 6 (by kernel_rfl)))) (qLk trivial rfl)
     ·exact fun vals w1 _ hd => qau (qbc rfl rfl (congrArg some (show KEq (undef) (vals 6) w1 from hd 6 (by kernel_rfl)))) (qLk trivial rfl)
     ·exact fun vals w1 _ hd => qau (qbc rfl rfl (congrArg some (show KEq (undef) (vals 6) w1 from hd 6 (by kernel_rfl)))) (qLk trivial rfl)
     ·exact fun vals w1 _ hd => qau (qbc rfl rfl (congrArg some (show KEq (undef) (vals 6) w1 from hd 6 (by kernel_rfl)))) (qLk trivial rfl)
     ·exact fun vals w1 _ hd => qau (qbc rfl rfl (congrArg some (show KEq (undef) (vals 6) w1 from hd 6 (by kernel_rfl)))) (qLk trivial rfl)
     ·exact fun vals w1 _ hd => qau (qbc rfl rfl (congrArg some (show KEq (undef) (vals 6) w1 from hd 6 (by kernel_rfl)))) (qLk trivial rfl)
     ·exact fun vals w1 _ hd => qau (qas rfl rfl (congrArg some (show KEq (.bool false) (vals 3) w1 from hd 3 (by kernel_rfl))) rfl) (qLk trivial rfl)
    case tlN =>
     intro vals w5 hb5 hf hdis
     simp only [List.drop_succ_cons, List.drop_zero]
     have z3 : vals 3 = _ := hf 3 (by decide)
     rw [z3]; clear z3
     clear hf hdis
     have BX5 := qHd (BX4.out.trans (hb5.mono BX4.out.size))
     have HB5 := qHd (HB4.out.trans (hb5.mono HB4.out.size))
     have G65 := qHd (qaa G64.out hb5)
     clear hb5
     go_wp2_with fail
     go_roundw
     case rel => exact ⟨q + 1, acc, by omega, by go_num, by first | rfl | go_num, BX5, NB, AK⟩
     case measure => simp [intOf]; omega
  ·have hq' : q = ls.length := by omega
   subst hq'
   have PE : qfe (L.map Rv.q) ls 0 none = acc := by rw [PK.out, List.drop_length]; rfl
   have G3 := qHd (qaa G3.out BX.out); have G5 := qHd (qaa G5.out BX.out)
   cases acc with
   | none =>
    have R := qHd (RN.out PE)
    clear PE
    rw [show atI none = -1 from rfl]
    go_wp2_with (with_reducible refine qaf ?_)
    refine qan g6 0 [.int .i64 0, .slice none 0 0, .int .i64 0] G6.out rfl rfl (Nat.le_of_ble_eq_true rfl) (by kernel_rfl) rfl ?_
    intro wz hpz
    have GZ := qHd (show wz.heap[g6]? = some (.cells #[.int .i64 0, .slice none 0 0, .int .i64 0] 27) by rw [hpz]; exact qbd G6.out)
    have HBz := qHd (qbl hpz HB.out l6)
    clear hpz
    go_wp2_with (with_reducible first | refine qad ?_ | refine qai ?_ | refine qaj ?_ | refine qak ?_ | refine qag ?_)
    refine qcl rfl g6 #[.int .i64 0, .slice none 0 0, .int .i64 0] rfl GZ.out Tryz.underlying27 rfl (by kernel_rfl) rfl ?_
    exact ⟨_, by rw [R.out]; rfl, HBz.out, by rw [R.out]; exact TrV.leaf _ ⟨by decide, by decide⟩⟩
   | some p =>
    obtain ⟨z2, hz2, hm⟩ := AK.out _ rfl
    have R := qHd (RS.out p z2 PE hz2)
    obtain ⟨j, m⟩ := p
    rw [show atI (some (j, m)) = (j : Nat) from rfl]
    simp only at hz2 R
    have hjl : j < ls.length := (List.getElem?_eq_some_iff.1 hz2).1
    have hjz : (j : Int) < (ls.length : Int) := by omega
    obtain ⟨bl, ol, rfl, hbl, hjk, hat⟩ := HLS.out.at (by omega); clear hjk
    have CJ := qHd (hat j z2 hz2)
    have HO := qHd (HOC.out z2 (List.mem_of_getElem? hz2))
    obtain ⟨jy, jn, jr⟩ := z2
    simp only at CJ HO R
    clear hz2 hm hat PE PK AK
    obtain ⟨gt, hgt⟩ : ∃ z, z = grT f 1 jy jn := ⟨_, rfl⟩
    obtain ⟨lf, hlf⟩ : ∃ z, z = 4096 - grN f 1 jy jn := ⟨_, rfl⟩
    rw [← hgt] at R
    have GC := qHd (show ∀ (w1 : World), Below wo.heap.size wo w1 → Calls Tryz.prog 45 #[.agg #[.int .i64 f.vars, .slice ao f.nodes.length c, .int .i64 f.top], .agg #[.int .i64 (jy : Nat), .int .i64 (jn : Nat)], .int .i64 1, .int .i64 4096] w1 (RetGw w1 gt lf) from fun w1 hbl => by
     rw [hgt, hlf]; exact rgrow_any f HFM.out ao c 1 jy jn 4096 w1 (by decide) ((HF.out.below BX.out).below hbl) HO.out (by have := grN1_le f jy jn; omega) (Nat.le_refl _))
    clear hgt hlf
    go_wp2_with (with_reducible first | refine qad ?_ | refine qai ?_ | refine qaj ?_ | refine qak ?_ | refine qag ?_)
    refine qap.mk ?_
    refine qao (A := ?aaGR) (w := wo) 11 [9] (by kernel_rfl) (Fl [KEq (.agg #[.int .i64 f.vars, .slice ao f.nodes.length c, .int .i64 f.top]), KEq (.slice (some ⟨bl, ol, none⟩) ls.length cv), KEq (.int .i64 (j : Nat)), KEq (.pointer (some ⟨bl, ol + j * 3, none⟩)), KEq (.pointer (some ⟨bl, ol + j * 3, none⟩)), KEq (.agg #[.int .i64 (jy : Nat), .int .i64 (jn : Nat)]), KGl gt lf, KGl gt lf, KGt gt, KEq (.int .i64 (lf : Nat)), KNew wo.heap.size #[.int .i64 0, .slice none 0 0, .int .i64 0] 27]) (fun i => i == 10) (by kernel_rfl) ?hqGR (qcw (qae (kEq _) (qae (kEq _) (qae (kEq _) (qae (kEq _) (qae (kEq _) (qae (kEq _) (qae (kGl _ _) (qae (kGl _ _) (qae (kGt _) (qae (kEq _) (qae (kNew _ _ _) qcv)))))))))))) ?haGR ?stGR ?tlGR
    case hqGR =>
     intro c a d v w h
     first | (simp only [Exit.then] at h ⊢; exact h) | (simp only [Exit.inBlock, Exit.then] at h ⊢; exact h) | exact h
    case haGR =>
     intro vals
     simp only [qba, qcd, if_true, Act.put, List.setIfInBounds_toArray, List.set_cons_zero, List.set_cons_succ, List.getElem?_toArray, List.getElem?_cons_zero, List.getElem?_cons_succ, Option.bind_some]
     exact rfl
    case stGR =>
     simp only [List.take_succ_cons, List.take_zero]
     refine qab rfl rfl ?_ (qab rfl rfl ?_ (qab rfl rfl ?_ (qab rfl rfl ?_ (qab rfl rfl ?_ (qab rfl rfl ?_ (qab rfl rfl ?_ (qab rfl rfl ?_ (qab rfl rfl ?_ (qct rfl ?_ (qab rfl rfl ?_ (qav)))))))))))
     ·intro vals w1 hb hd
      obtain ⟨e0, e1, e2⟩ := qay (qaa G3.out hb)
      refine qSv (.agg #[.int .i64 f.vars, .slice ao f.nodes.length c, .int .i64 f.top]) (by go_simp) (qLk rfl rfl)
     ·intro vals w1 hb hd
      refine qSv (.slice (some ⟨bl, ol, none⟩) ls.length cv) (by go_simp) (qLk rfl rfl)
     ·intro vals w1 hb hd
      refine qSv (.int .i64 (j : Nat)) (by go_simp) (qLk rfl rfl)
     ·intro vals w1 hb hd
      rw [show vals 1 = .slice (some ⟨bl, ol, none⟩) ls.length cv from hd 1 (by kernel_rfl)]
      rw [show vals 2 = .int .i64 (j : Nat) from hd 2 (by kernel_rfl)]
      refine qSv (.pointer (some ⟨bl, ol + j * 3, none⟩)) (by go_simp) (qLk rfl rfl)
     ·intro vals w1 hb hd
      rw [show vals 3 = .pointer (some ⟨bl, ol + j * 3, none⟩) from hd 3 (by kernel_rfl)]
      refine qSv (.pointer (some ⟨bl, ol + j * 3, none⟩)) (by go_simp) (qLk rfl rfl)
     ·intro vals w1 hb hd
      have hbx := BX.out.trans (hb.mono BX.out.size)
      have k0 := (hbx.cell (p := ⟨bl, _, none⟩) hbl).trans CJ.out.1
      have k1 := (hbx.cell (p := ⟨bl, _, none⟩) hbl).trans CJ.out.2.1
      have k2 := (hbx.cell (p := ⟨bl, _, none⟩) hbl).trans CJ.out.2.2
      rw [show vals 4 = .pointer (some ⟨bl, ol + j * 3, none⟩) from hd 4 (by kernel_rfl)]
      refine qSv (.agg #[.int .i64 (jy : Nat), .int .i64 (jn : Nat)]) (by go_simp) (qLk rfl rfl)
     ·intro vals w1 hb hd
      have d0 : KEq (.agg #[.int .i64 f.vars, .slice ao f.nodes.length c, .int .i64 f.top]) (vals 0) w1 := hd 0 (by kernel_rfl)
      have d5 : KEq (.agg #[.int .i64 (jy : Nat), .int .i64 (jn : Nat)]) (vals 5) w1 := hd 5 (by kernel_rfl)
      have HS := qHd (GC.out w1 hb)
      have z0 : vals 0 = _ := d0
      rw [z0]; clear z0
      have z5 : vals 5 = _ := d5
      rw [z5]; clear z5
      refine qat (by go_simp; first | done | exact ⟨⟨rfl, rfl⟩, rfl⟩) ?_
      (with_reducible refine HS.out.mono ?_); rintro e w2 ⟨v, rfl, hv, hb2⟩
      exact ⟨_, rfl, qar hb2 ⟨v, rfl, hv⟩ (fun h => by cases h)⟩
     ·intro vals w1 hb hd
      have d6 : KGl gt lf (vals 6) w1 := hd 6 (by kernel_rfl)
      obtain ⟨v, ev, hv⟩ := d6
      rw [ev]
      refine qaq (v := .tuple #[v, .int .i64 (lf : Nat)]) (w' := w1) (by go_simp) (qar (Below.refl _ _) ⟨v, rfl, hv⟩ (fun h => by cases h))
     ·intro vals w1 hb hd
      have d7 : KGl gt lf (vals 7) w1 := hd 7 (by kernel_rfl)
      obtain ⟨v, ev, hv⟩ := d7
      rw [ev]
      refine qaq (v := v) (w' := w1) (by go_simp) (qar (Below.refl _ _) hv (fun h => by cases h))
     ·intro vals w1 hb hd
      have d7 : KGl gt lf (vals 7) w1 := hd 7 (by kernel_rfl)
      obtain ⟨v, ev, hv⟩ := d7
      rw [ev]
      refine qbv (v := .int .i64 (lf : Nat)) (fun w => by go_simp) (qLk rfl rfl)
     ·intro vals w1 hb hd
      refine qaq (v := .pointer (some ⟨w1.heap.size, 0, none⟩)) (w' := w1.alloc (.cells #[.int .i64 0, .slice none 0 0, .int .i64 0] 27)) (by go_simp) (qar ((Below.refl _ _).alloc (Nat.le_refl _) _) ⟨_, hb.size, rfl, heap_alloc_new _ _⟩ (fun _ => ⟨rfl, by simp⟩))
    case tlGR =>
     intro vals w5 hb5 hf5 hdis
     simp only [List.drop_succ_cons, List.drop_zero]
     have z9 : vals 9 = _ := hf5 9 (by decide)
     obtain ⟨gA, hgA, ev, hzA⟩ : KNew wo.heap.size #[.int .i64 0, .slice none 0 0, .int .i64 0] 27 (vals 10) w5 := hf5 10 (by decide)
     have hta : TrG w5 (vals 8) gt := hf5 8 (by decide)
     rw [z9, ev]
     obtain ⟨va, hva⟩ : ∃ u, u = vals 8 := ⟨_, rfl⟩
     rw [← hva] at hta ⊢
     clear z9 ev hf5 hdis hva
     obtain ⟨yv, yr, ya, yn, yc, rfl⟩ := hta.tr.shape
     go_wp2_with (with_reducible refine qaf ?_)
     refine qan gA 0 [.int .i64 yv, .slice ya yn yc, .int .i64 yr] hzA rfl rfl (Nat.le_of_ble_eq_true rfl) (by kernel_rfl) rfl ?_
     intro w6 hp6
     have n3A : g3 ≠ gA := by have := qaw G3.out; omega
     have n5A : g5 ≠ gA := by have := qaw G5.out; omega
     have n6A : g6 ≠ gA := by have := qaw G6.out; omega
     have hs4 := HB.out.size
     have G3 := qHd (qbr hp6 (qaa G3.out hb5) n3A); have G5 := qHd (qbr hp6 (qaa G5.out hb5) n5A); have G6 := qHd (qbr hp6 (qaa G6.out hb5) n6A)
     have BA := qHd (show w6.heap[gA]? = some (.cells #[.int .i64 yv, .slice ya yn yc, .int .i64 yr] 27) by rw [hp6]; exact qbd hzA)
     have HB := qHd (qbl hp6 (HB.out.trans (hb5.mono HB.out.size)) (by omega))
     have BO6 := qbl hp6 hb5 hgA
     have TA := qHd (hta.keep (qch hp6 hzA (by simp)))
     have HT6 := qHd ((HT.out.below BX.out).below BO6)
     clear hp6 hb5 hzA hta BO6
     have HK := qHd (rSwap_any _ _ t gt f.vars (j : Nat) w6 HT6.out TA.out HVV.out (by unfold I64; omega))
     rw [← R.out] at HK
     obtain ⟨x0, x1, x2⟩ := qay G3.out
     obtain ⟨y0, y1, y2⟩ := qay G5.out
     obtain ⟨u0, u1, u2⟩ := qay BA.out
     go_wp2_with (with_reducible refine qad ?_)
     clear x0 x1 x2 y0 y1 y2 u0 u1 u2
     refine qap.mk ?_
     (with_reducible refine HK.out.mono ?_); rintro e w7 ⟨v7, rfl, hb7, ht7⟩
     obtain ⟨sv, sr, sa, sn, sc, rfl⟩ := ht7.tr.shape
     have HB := qHd (HB.out.trans (hb7.mono HB.out.size)); have G6 := qHd (qaa G6.out hb7); have HS7 := qHd ht7
     clear hb7 ht7 HK
     go_wp2_with (with_reducible refine qaf ?_)
     refine qan g6 0 [.int .i64 sv, .slice sa sn sc, .int .i64 sr] G6.out rfl rfl (Nat.le_of_ble_eq_true rfl) (by kernel_rfl) rfl ?_
     intro wz hpz
     have GZ := qHd (show wz.heap[g6]? = some (.cells #[.int .i64 sv, .slice sa sn sc, .int .i64 sr] 27) by rw [hpz]; exact qbd G6.out)
     have HBz := qHd (qbl hpz HB.out l6)
     have HSZ := qHd (HS7.out.keep (qch hpz G6.out (by simp)))
     clear hpz
     go_wp2_with (with_reducible first | refine qad ?_ | refine qai ?_ | refine qaj ?_ | refine qak ?_ | refine qag ?_)
     refine qcl rfl g6 #[.int .i64 sv, .slice sa sn sc, .int .i64 sr] rfl GZ.out Tryz.underlying27 rfl (by kernel_rfl) rfl ?_
     exact ⟨_, rfl, HBz.out, HSZ.out.tr⟩
end Go.Proofs.YthhgfhdmfhnklaaGreatDoor
