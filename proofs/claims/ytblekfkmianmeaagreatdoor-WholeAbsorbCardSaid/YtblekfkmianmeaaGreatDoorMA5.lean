/-
  What the law leans on, one text behind the other (the base).
  Conditions: each theorem's own.
-/
import Derived.Test.YtblekfkmianmeaaGreatDoorMA4
set_option maxRecDepth 100000
set_option maxHeartbeats 16000000
namespace Go.Proofs.YtblekfkmianmeaaGreatDoor
open Go.RowKit Go.ChangeShapes Go.WideShapes
theorem putL_3q {w : World} {g : Nat} {x0 x1 x2 y0 y1 y2 : Value} {T : TypeId} (h : w.heap[g]? = some (.cells #[x0, x1, x2] T)) : (putL w g 0 [y0, y1, y2]).heap[g]? = some (.cells #[y0, y1, y2] T) := by
 simp [putL, World.setCell, Array.getElem?_modify, h]
def RetMax (w : World) (n : Nat) (x : Nat → Rat) (e : Ending) (w' : World) : Prop := ∃ j, j < n ∧ (∀ t, t < n → x t ≤ x j) ∧ RetR w (x j) e w'
theorem cq_pos {p q : Rat} (h : q < p) : cq p q = 1 := by
 unfold cq
 rw [if_neg (by grind), if_neg (by grind)]
theorem cq_nonpos {p q : Rat} (h : ¬ q < p) : cq p q ≤ 0 := (cq_le p q).2 (by grind)
theorem maxF_any (g c n B : Nat) (x : Nat → Rat) (w : World) (hv : FrL w B (.slice (some ⟨g, 0, none⟩) n c) n x) (h0 : 0 < n) (hl : n ≤ 1000) (hc : n ≤ c ∧ c ≤ 9223372036854775807) (hx : ∀ j, j < n → rl (x j) ≤ 40000) :
  Calls Tryz.prog 21 #[.slice (some ⟨g, 0, none⟩) n c, .func (.func 13) #[] #[]] w (RetMax w n x) := by
 have hgl := (hv.lt (g := g) rfl).2
 have LXX := qHd hx; have HV0 := qHd hv; clear hx hv
 have hn1 : ¬ ((n : Int) < 1) := by omega
 obtain ⟨W, hW⟩ : ∃ z0, z0 = w.alloc (.cells #[.bool false, .slice none 0 0, .slice none 0 0] 37) := ⟨_, rfl⟩
 have b_W : Below w.heap.size w W := by rw [hW]; exact qBA _ _
 have s_W : W.heap.size = w.heap.size + 1 := by rw [hW]; exact Array.size_push (xs := w.heap) _
 have hg_g4 : W.heap[w.heap.size]? = some (.cells #[.bool false, .slice none 0 0, .slice none 0 0] 37) := (by rw [hW]; exact heap_alloc_new w _)
 have HBW := qHd (show Below w.heap.size w W from b_W)
 obtain ⟨g4, hg4⟩ : ∃ g, g = w.heap.size := ⟨_, rfl⟩
 rw [← hg4] at hg_g4
 have l_g4 : w.heap.size ≤ g4 ∧ g4 < W.heap.size := by rw [s_W]; omega
 have G_g4 := qHd hg_g4
 obtain ⟨s0, o0, n0, c0, a0, m0, d0, x0, x1, x2, hI0⟩ := (HV0.out.below HBW.out).at h0
 rw [Nat.zero_mul] at x0 x1 x2
 obtain ⟨w5, hw5, hb5, hx5⟩ := qBx3 W (.cells #[.bool s0, .slice o0 n0 c0, .slice a0 m0 d0] 37)
 obtain ⟨g5, hg5⟩ : ∃ g, g = W.heap.size := ⟨_, rfl⟩
 have hsW : W.heap.size = w.heap.size + 1 := s_W
 have ne4 : g4 ≠ g5 := by omega
 have ls5 : w.heap.size ≤ g5 := by omega
 rw [← hg5] at hx5
 have y0 := x0; have y1 := x1; have y2 := x2
 rw [hW] at y0 y1 y2
 clear x0 x1 x2 hg_g4 b_W
 go_enter Tryz.func21, Tryz.ntmps21
 go_wp2_with (with_reducible first | refine qah ?_ | refine qae ?_)
 rw [← hW]
 try rw [← hw5]
 rw [show w.heap.size + 1 = g5 by omega, ← hg4]
 clear hW hw5 hg4 y0 y1 y2 hsW s_W hg5
 refine qal.mk ?_
 have HV := qHd ((HV0.out.below HBW.out).below hb5); have G5 := qHd hx5; have IB := qHd (hI0.below hb5)
 have HB := qHd (HBW.out.trans (hb5.mono HBW.out.size))
 have G4 := qHd (qab G_g4.out hb5)
 clear hb5 hx5 hI0 G_g4 HV0
 go_loopw [6] (fun i' wx => ∃ (i j : Nat) (sb : Bool) (ob : Option Addr) (nb cb : Nat) (ab : Option Addr) (mb db : Nat), i ≤ n ∧ 0 < i ∧ j < n ∧ i' = .int .i64 i ∧ Hid (FrL wx B (.slice (some ⟨g, 0, none⟩) n c) n x) ∧ Hid (wx.heap[g5]? = some (.cells #[.bool sb, .slice ob nb cb, .slice ab mb db] 37)) ∧ Hid (IsR wx (.agg #[.bool sb, .slice ob nb cb, .slice ab mb db]) (x j)) ∧ Hid (wx.heap[g4]? = some (.cells #[.bool false, .slice none 0 0, .slice none 0 0] 37)) ∧ Hid (Below w.heap.size w wx) ∧ Hid (∀ t, t < i → x t ≤ x j)) (fun i' _ => n - (intOf i').toNat)
 case atStart => exact ⟨1, 0, s0, o0, n0, c0, a0, m0, d0, h0, by omega, h0, rfl, HV, G5, IB, G4, HB, qHd (fun t ht => by rw [show t = 0 by omega]; exact Rat.le_refl)⟩
 case round =>
  obtain ⟨i, j, sb, ob, nb, cb, ab, mb, db, hi, hi0, hj, rfl, HV, G5, IB, G4, HB, MX⟩ := hrel
  obtain ⟨wo, rfl⟩ : ∃ wo : World, wo = wr := ⟨_, rfl⟩
  by_cases hlt : i < n
  ·have hltz : (i : Int) < (n : Int) := by omega
   obtain ⟨sx, ox, nx, cx, ax, mx, dx, x0, x1, x2, hIx⟩ := HV.out.at hlt
   have LX := qHd (LXX.out i hlt); have LB := qHd (LXX.out j hj)
   obtain ⟨xi, hxi⟩ : ∃ z0, z0 = x i := ⟨_, rfl⟩
   obtain ⟨xb, hxb⟩ : ∃ z0, z0 = x j := ⟨_, rfl⟩
   rw [← hxi] at LX hIx
   rw [← hxb] at LB IB
   have HXI := qHd hxi; have HXB := qHd hxb
   have IX := qHd hIx; have CX := qHd (And.intro x0 (And.intro x1 x2))
   clear hxi hxb hIx x0 x1 x2
   go_wp2_with (with_reducible first | refine qag ?_ | refine qah ?_ | refine qbb ?_ | refine qbc ?_ | refine qae ?_)
   refine qal.mk ?_
   refine qaj (A := ?aaMF) (w := wo) 7 [] (by kernel_rfl) (Fl [KEq (.func (.func 13) #[] #[]), KEq (.slice (some ⟨g, 0, none⟩) n c), KEq (.int .i64 (i : Nat)), KEq (.pointer (some ⟨g, i * 3, none⟩)), KEq (.agg #[.bool sx, .slice ox nx cx, .slice ax mx dx]), KEq (.agg #[.bool sb, .slice ob nb cb, .slice ab mb db]), KEq (.int .i64 (cq xi xb))]) (fun i => false) (by kernel_rfl) ?hqMF (qdk (qad (kEq _) (qad (kEq _) (qad (kEq _) (qad (kEq _) (qad (kEq _) (qad (kEq _) (qad (kEq _) qdj)))))))) ?haMF ?stMF ?tlMF
   case hqMF =>
    intro c a d v w h
    first | (simp only [Exit.then] at h ⊢; exact h) | (simp only [Exit.inBlock, Exit.then] at h ⊢; exact h) | exact h
   case haMF =>
    intro vals
    simp only [qat, qby, if_true, Act.put, List.setIfInBounds_toArray, List.set_cons_zero, List.set_cons_succ, List.getElem?_toArray, List.getElem?_cons_zero, List.getElem?_cons_succ, Option.bind_some]
    exact rfl
   case stMF =>
    simp only [List.take_succ_cons, List.take_zero]
    refine qaa rfl rfl ?_ (qaa rfl rfl ?_ (qaa rfl rfl ?_ (qaa rfl rfl ?_ (qaa rfl rfl ?_ (qaa rfl rfl ?_ (qaa rfl rfl ?_ (qau)))))))
    ·intro vals w1 hb hd
     refine qSv (.func (.func 13) #[] #[]) (by go_simp) (qLk rfl rfl)
    ·intro vals w1 hb hd
     refine qSv (.slice (some ⟨g, 0, none⟩) n c) (by go_simp) (qLk rfl rfl)
    ·intro vals w1 hb hd
     refine qSv (.int .i64 (i : Nat)) (by go_simp) (qLk rfl rfl)
    ·intro vals w1 hb hd
     rw [show vals 1 = .slice (some ⟨g, 0, none⟩) n c from hd 1 (by kernel_rfl)]
     rw [show vals 2 = .int .i64 (i : Nat) from hd 2 (by kernel_rfl)]
     refine qSv (.pointer (some ⟨g, i * 3, none⟩)) (by go_simp) (qLk rfl rfl)
    ·intro vals w1 hb hd
     obtain ⟨e0, e1, e2⟩ := qax CX.out hb
     rw [show vals 3 = .pointer (some ⟨g, i * 3, none⟩) from hd 3 (by kernel_rfl)]
     refine qSv (.agg #[.bool sx, .slice ox nx cx, .slice ax mx dx]) (by go_simp) (qLk rfl rfl)
    ·intro vals w1 hb hd
     obtain ⟨e0, e1, e2⟩ := row3 (qab G5.out hb)
     refine qSv (.agg #[.bool sb, .slice ob nb cb, .slice ab mb db]) (by go_simp) (qLk rfl rfl)
    ·intro vals w1 hb hd
     have d0 : KEq (.func (.func 13) #[] #[]) (vals 0) w1 := hd 0 (by kernel_rfl)
     have d4 : KEq (.agg #[.bool sx, .slice ox nx cx, .slice ax mx dx]) (vals 4) w1 := hd 4 (by kernel_rfl)
     have d5 : KEq (.agg #[.bool sb, .slice ob nb cb, .slice ab mb db]) (vals 5) w1 := hd 5 (by kernel_rfl)
     have HS2 := qHd (cmpq_any _ xi _ xb w1 ((IX.out.below hb).is (Nat.le_trans LX.out (by decide))) ((IB.out.below hb).is (Nat.le_trans LB.out (by decide))) LX.out LB.out)
     rw [show vals 0 = _ from d0, show vals 4 = _ from d4, show vals 5 = _ from d5]
     refine qar (by go_simp; first | done | exact ⟨⟨rfl, rfl⟩, rfl⟩) ?_
     (with_reducible refine HS2.out.mono ?_); rintro e w2 ⟨rfl, hb2⟩
     exact ⟨_, rfl, qai hb2 rfl (fun h => by cases h)⟩
   case tlMF =>
    intro vals w3 hb3 hf hdis
    simp only [List.drop_succ_cons, List.drop_zero]
    have z6 : vals 6 = _ := hf 6 (by decide)
    rw [z6]
    clear z6 hf hdis
    have HV := qHd (HV.out.below hb3); have G5 := qHd (qab G5.out hb3); have IB := qHd (IB.out.below hb3); have G4 := qHd (qab G4.out hb3)
    have HB := qHd (HB.out.trans (hb3.mono HB.out.size)); have IX := qHd (IX.out.below hb3); have CX := qHd (qax CX.out hb3)
    clear hb3
    by_cases hgt : xb < xi
    ·rw [cq_pos hgt]
     have MX2 := qHd (show ∀ t, t < i + 1 → x t ≤ x i from fun t ht => by
      by_cases e : t = i
      ·rw [e]; exact Rat.le_refl
      ·have h1 := MX.out t (by omega)
       rw [← HXB.out] at h1
       rw [← HXI.out]
       exact Rat.le_trans h1 (Rat.le_of_lt hgt))
     obtain ⟨x0, x1, x2⟩ := CX.out
     go_wp2_with (with_reducible refine qan ?_)
     refine qba g5 0 [.bool sx, .slice ox nx cx, .slice ax mx dx] G5.out rfl rfl (Nat.le_of_ble_eq_true rfl) (by kernel_rfl) rfl ?_
     intro wz hpz
     have GZ := qHd (show wz.heap[g5]? = some (.cells #[.bool sx, .slice ox nx cx, .slice ax mx dx] 37) by rw [hpz]; exact putL_3q G5.out)
     have hSt : Stp wo wo none := Stp.refl _ _
     have gr : w3.grownBy wz (some g5) := ⟨by rw [hpz]; exact (putL_os _ _ _ _).1, by rw [hpz]; exact (putL_os _ _ _ _).2.1, by rw [hpz]; exact (putL_os _ _ _ _).2.2, by rw [hpz, putL_size]; exact Nat.le_refl _, fun k _ hk => by rw [hpz, putL_ne (fun e => hk (by rw [e]))]⟩
     have st : Stp w3 wz (some g5) := ⟨gr, fun b q k h => by
      by_cases e : b = g5
      ·subst e
       rw [cell_of_row w3 b q _ _ _ G5.out] at h
       exact absurd h (noW3 _ _)
      ·rw [← h]; unfold World.cell?
       rw [gr.block b (World.block_lt_of_cell? w3 _ h) (fun e2 => e (Option.some.inj e2))]⟩
     have HV := qHd (HV.out.stp st (fun q hq e => by cases e; have h2 : g = g5 := Option.some.inj hq; omega))
     have G4 := qHd (st.heap G4.out (fun e => by have h2 : g5 = g4 := Option.some.inj e; omega))
     have HB := qHd (st.low HB.out HB.out.size ls5)
     have IZ := qHd (show IsR wz (.agg #[.bool sx, .slice ox nx cx, .slice ax mx dx]) (x i) by rw [← HXI.out]; exact st.I IX.out)
     clear hpz gr st hSt x0 x1 x2
     go_wp2_with fail
     go_roundw
     case rel => exact ⟨i + 1, i, sx, ox, nx, cx, ax, mx, dx, by omega, by omega, hlt, by go_num, HV, GZ, IZ, G4, HB, MX2⟩
     case measure => simp [intOf]; omega
    ·have hle := cq_nonpos hgt
     have MX2 := qHd (show ∀ t, t < i + 1 → x t ≤ x j from fun t ht => by
      by_cases e : t = i
      ·rw [e, ← HXI.out, ← HXB.out]; grind
      ·exact MX.out t (by omega))
     obtain ⟨cv, hcv⟩ : ∃ cv, cv = cq xi xb := ⟨_, rfl⟩
     rw [← hcv] at hle ⊢
     have IZ := qHd (show IsR w3 (.agg #[.bool sb, .slice ob nb cb, .slice ab mb db]) (x j) by rw [← HXB.out]; exact IB.out)
     clear hcv hgt CX
     go_wp2_with fail
     go_roundw
     case rel => exact ⟨i + 1, j, sb, ob, nb, cb, ab, mb, db, by omega, by omega, hj, by go_num, HV, G5, IZ, G4, HB, MX2⟩
     case measure => simp [intOf]; omega
  ·have hi' : i = n := by omega
   subst hi'
   obtain ⟨x0, x1, x2⟩ := row3 G5.out
   go_wp2_with (with_reducible refine qan ?_)
   clear x0 x1 x2
   refine qba g4 0 [.bool sb, .slice ob nb cb, .slice ab mb db] G4.out rfl rfl (Nat.le_of_ble_eq_true rfl) (by kernel_rfl) rfl ?_
   intro wz hpz
   have GZ := qHd (show wz.heap[g4]? = some (.cells #[.bool sb, .slice ob nb cb, .slice ab mb db] 37) by rw [hpz]; exact putL_3q G4.out)
   have HBZ := qHd (putLb hpz HB.out l_g4.1)
   have IZ := qHd (putL_I hpz IB.out G4.out noW3)
   clear hpz
   go_wp2_with (with_reducible first | refine qag ?_ | refine qah ?_ | refine qbb ?_ | refine qbc ?_ | refine qae ?_)
   refine ret_rat rfl g4 _ _ _ rfl GZ.out rfl ?_
   exact ⟨j, hj, MX.out, _, rfl, HBZ.out, IZ.out⟩
def RetFast (w : World) (n : Nat) (ms : List Mv) (e : Ending) (w' : World) : Prop := ∃ f, qcj n ms f ∧ RetRE w f .nilIface e w'
theorem fastest_any (vc : Value) (n s0 : Nat) (ms : List Mv) (dn : List Bool) (w : World) (hc : ChI w vc n s0 ms dn) (hg : GCh n s0 ms dn) :
  Calls Tryz.prog 8 #[vc] w (RetFast w n ms) := by
 have HC := qHd hc
 obtain ⟨mo, mc, bo, bc, rfl, hM, hB, hmc, hbc⟩ := hc
 have HG := qHd hg
 have hn10 := hg.n10
 have hn0 := hg.n0
 have hl60 := hg.sm.len
 have HDL := qHd hg.dl
 clear hg
 clear hM hB
 obtain ⟨Wb0, hWb0⟩ : ∃ z0, z0 = w.alloc (.cells #[.int .i64 n, .int .i64 s0, .slice mo ms.length mc, .slice bo dn.length bc] 25) := ⟨_, rfl⟩
 have b_Wb0 : Below w.heap.size w Wb0 := by rw [hWb0]; exact qBA _ _
 have s_Wb0 : Wb0.heap.size = w.heap.size + 1 := by rw [hWb0]; exact Array.size_push (xs := w.heap) _
 obtain ⟨W, hW⟩ : ∃ z0, z0 = Wb0.alloc (.cells #[.bool false, .slice none 0 0, .slice none 0 0] 37) := ⟨_, rfl⟩
 have b_W : Below Wb0.heap.size Wb0 W := by rw [hW]; exact qBA _ _
 have s_W : W.heap.size = w.heap.size + 1 + 1 := by rw [hW]; rw [← s_Wb0]; exact Array.size_push (xs := Wb0.heap) _
 have hg_gc : W.heap[w.heap.size]? = some (.cells #[.int .i64 n, .int .i64 s0, .slice mo ms.length mc, .slice bo dn.length bc] 25) := (qab (by rw [hWb0]; exact heap_alloc_new w _) b_W)
 have hg_g2 : W.heap[w.heap.size + 1]? = some (.cells #[.bool false, .slice none 0 0, .slice none 0 0] 37) := (by rw [← s_Wb0]; rw [hW]; exact heap_alloc_new Wb0 _)
 have HBW := qHd (show Below w.heap.size w W from (b_Wb0.trans (b_W.mono (by rw [s_Wb0]; omega))))
 obtain ⟨gc, hgc⟩ : ∃ g, g = w.heap.size := ⟨_, rfl⟩
 rw [← hgc] at hg_gc
 have l_gc : w.heap.size ≤ gc ∧ gc < W.heap.size := by rw [s_W]; omega
 obtain ⟨g2, hg2⟩ : ∃ g, g = w.heap.size + 1 := ⟨_, rfl⟩
 rw [← hg2] at hg_g2
 have l_g2 : w.heap.size ≤ g2 ∧ g2 < W.heap.size := by rw [s_W]; omega
 have G_gc := qHd hg_gc
 have G_g2 := qHd hg_g2
 obtain ⟨gcx0, gcx1, gcx2, gcx3⟩ := qbn hg_gc
 rw [hW, hWb0, hgc] at gcx0 gcx1 gcx2 gcx3
 have HK := qHd (cexit_any _ n s0 ms dn W (HC.out.below HBW.out) HG.out)
 clear hg_gc hg_g2 b_Wb0 b_W s_Wb0 s_W
 go_enter Tryz.func8, Tryz.ntmps8
 go_wp2_with (with_reducible refine qag ?_)
 rw [← hWb0, ← hW, ← hg2, ← hgc]
 clear hWb0 hW hgc hg2
 clear gcx0 gcx1 gcx2 gcx3
 refine qal.mk ?_
 (with_reducible refine HK.out.mono ?_); rintro e w1 ⟨v, rfl, hb1, hF⟩
 have HB := qHd hb1
 have G2 := qHd (qab G_g2.out hb1)
 obtain ⟨g, c, rfl, hcc, hcc2, hgB, hgl⟩ := hF.addr hn0
 have HK := qHd (maxF_any g c n _ (qbt ms) w1 hF hn0 (by omega) ⟨hcc, hcc2⟩ (fun j _ => Nat.le_trans (exit_rl' HG.out.sm j) (by decide)))
 clear hb1 hF
 go_wp2_with (with_reducible refine qag ?_)
 refine qal.mk ?_
 (with_reducible refine HK.out.mono ?_); rintro e w2 ⟨j, hj, hmx, v2, rfl, hb2, hn2⟩
 obtain ⟨sx, ox, nx, cx, ax, mx, dx, rfl⟩ := hn2.shape
 have HB2 := qHd (HBW.out.trans ((HB.out.mono HBW.out.size).trans (hb2.mono (Nat.le_trans HBW.out.size HB.out.size))))
 have G2 := qHd (qab G2.out hb2)
 have IX := qHd hn2; have MX := qHd hmx
 clear hb2 hn2 hmx HK
 go_wp2_with (with_reducible refine qan ?_)
 refine qba g2 0 [.bool sx, .slice ox nx cx, .slice ax mx dx] G2.out rfl rfl (Nat.le_of_ble_eq_true rfl) (by kernel_rfl) rfl ?_
 intro wz hpz
 have GZ := qHd (show wz.heap[g2]? = some (.cells #[.bool sx, .slice ox nx cx, .slice ax mx dx] 37) by rw [hpz]; exact putL_3q G2.out)
 have HBZ := qHd (putLb hpz HB2.out l_g2.1)
 have IZ := qHd (putL_I hpz IX.out G2.out noW3)
 clear hpz
 go_wp2_with (with_reducible first | refine qag ?_ | refine qah ?_ | refine qbb ?_ | refine qbc ?_ | refine qae ?_)
 refine ret_rat2 rfl g2 _ _ _ rfl GZ.out rfl ?_
 exact ⟨qbt ms j, ⟨⟨j, hj, rfl⟩, MX.out⟩, _, rfl, HBZ.out, IZ.out⟩
theorem ret_rateok {n : Nat} {ms : List Mv} {f g : Rat} (h : qcj n ms f) (k : qcj n ms g) : f = g := by
 obtain ⟨i, hi, rfl⟩ := h.is
 obtain ⟨j, hj, rfl⟩ := k.is
 have h1 := h.most j hj
 have h2 := k.most i hi
 grind
theorem cq_neg0 {p q : Rat} (h : q ≤ p) : 0 ≤ cq p q := (cq_ge p q).2 h
theorem tcheck54 (vc vq : Value) (n s0 : Nat) (ms : List Mv) (dn : List Bool) (f : Rat) (w : World) (hc : ChI w vc n s0 ms dn) (hg : GCh n s0 ms dn) (hf : qcj n ms f) (hq : IsR w vq (f + 1)) :
  Calls Tryz.prog 74 #[vc, vq] w (RetV w .nilIface) := by
 have HC := qHd hc
 obtain ⟨mo, mc, bo, bc, rfl, hM, hB, hmc, hbc⟩ := hc
 have HG := qHd hg
 have hn10 := hg.n10
 have hn0 := hg.n0
 have hl60 := hg.sm.len
 have HDL := qHd hg.dl
 clear hg
 clear hM hB
 have HF := qHd hf
 have LQ := qHd (hf.rl1 HG.out.sm)
 have LF := qHd (hf.rl HG.out.sm)
 have NN := qHd (hf.nonneg HG.out.sm)
 obtain ⟨sq, oq, nq, cq, aq, mq, dq, rfl⟩ := hq.shape
 have IQ := qHd hq; clear hq hf
 obtain ⟨q, hq⟩ : ∃ q, q = f + 1 := ⟨_, rfl⟩
 rw [← hq] at IQ LQ
 have HQ := qHd hq; clear hq
 obtain ⟨Wb0, hWb0⟩ : ∃ z0, z0 = w.alloc (.cells #[.int .i64 n, .int .i64 s0, .slice mo ms.length mc, .slice bo dn.length bc] 25) := ⟨_, rfl⟩
 have b_Wb0 : Below w.heap.size w Wb0 := by rw [hWb0]; exact qBA _ _
 have s_Wb0 : Wb0.heap.size = w.heap.size + 1 := by rw [hWb0]; exact Array.size_push (xs := w.heap) _
 obtain ⟨W, hW⟩ : ∃ z0, z0 = Wb0.alloc (.cells #[.bool sq, .slice oq nq cq, .slice aq mq dq] 37) := ⟨_, rfl⟩
 have b_W : Below Wb0.heap.size Wb0 W := by rw [hW]; exact qBA _ _
 have s_W : W.heap.size = w.heap.size + 1 + 1 := by rw [hW]; rw [← s_Wb0]; exact Array.size_push (xs := Wb0.heap) _
 have hg_gc : W.heap[w.heap.size]? = some (.cells #[.int .i64 n, .int .i64 s0, .slice mo ms.length mc, .slice bo dn.length bc] 25) := (qab (by rw [hWb0]; exact heap_alloc_new w _) b_W)
 have hg_gq : W.heap[w.heap.size + 1]? = some (.cells #[.bool sq, .slice oq nq cq, .slice aq mq dq] 37) := (by rw [← s_Wb0]; rw [hW]; exact heap_alloc_new Wb0 _)
 have HBW := qHd (show Below w.heap.size w W from (b_Wb0.trans (b_W.mono (by rw [s_Wb0]; omega))))
 obtain ⟨gc, hgc⟩ : ∃ g, g = w.heap.size := ⟨_, rfl⟩
 rw [← hgc] at hg_gc
 have l_gc : w.heap.size ≤ gc ∧ gc < W.heap.size := by rw [s_W]; omega
 obtain ⟨gq, hgq⟩ : ∃ g, g = w.heap.size + 1 := ⟨_, rfl⟩
 rw [← hgq] at hg_gq
 have l_gq : w.heap.size ≤ gq ∧ gq < W.heap.size := by rw [s_W]; omega
 have G_gc := qHd hg_gc
 have G_gq := qHd hg_gq
 obtain ⟨gcx0, gcx1, gcx2, gcx3⟩ := qbn hg_gc
 rw [hW, hWb0, hgc] at gcx0 gcx1 gcx2 gcx3
 obtain ⟨gqx0, gqx1, gqx2⟩ := row3 hg_gq
 rw [hW, hWb0, hgq] at gqx0 gqx1 gqx2
 clear hg_gc hg_gq b_Wb0 b_W s_Wb0 s_W
 have IQ := qHd (IQ.out.below HBW.out)
 have HK := qHd (fastest_any _ n s0 ms dn W (HC.out.below HBW.out) HG.out)
 go_enter Tryz.func74, Tryz.ntmps74
 go_wp2_with (with_reducible refine qag ?_)
 rw [← hWb0, ← hW, ← hgq, ← hgc]
 clear hWb0 hW hgc hgq
 clear gcx0 gcx1 gcx2 gcx3 gqx0 gqx1 gqx2
 refine qal.mk ?_
 (with_reducible refine HK.out.mono ?_); rintro e w1 ⟨f2, hf2, v2, rfl, hb1, hn1⟩
 have hff := ret_rateok hf2 HF.out
 subst hff
 obtain ⟨sx, ox, nx, cx, ax, mx, dx, rfl⟩ := hn1.shape
 obtain ⟨w2, hw2, hb2, gx, hgx, hx2⟩ := qBx5 w1 (.cells #[.bool sx, .slice ox nx cx, .slice ax mx dx] 37)
 have HB := qHd (hb1.trans (hb2.mono hb1.size))
 have IQ := qHd (IQ.out.below (hb1.trans (hb2.mono hb1.size))); have IX := qHd (hn1.below hb2); have G_gx := qHd hx2
 obtain ⟨gqx0, gqx1, gqx2⟩ := row3 (qab G_gq.out HB.out)
 rw [hw2] at gqx0 gqx1 gqx2
 have hs := valid_any _ (ng q) (wd (nn q)) (wd (Go.Proofs.YtblekfkmianmeaaGreatDoor.dn q)) w2 IQ.out (Nat.le_trans (rl_n q) (Nat.le_trans LQ.out (by decide))) (Nat.le_trans (dn_len q) (Nat.le_trans LQ.out (by decide)))
 rw [show decide (Vld (ng q) (wd (nn q)) (wd (Go.Proofs.YtblekfkmianmeaaGreatDoor.dn q))) = true from decide_eq_true (vld_self q).1] at hs
 have HK := qHd hs; clear hs
 clear hb1 hn1 hx2 hb2
 go_wp2_with (with_reducible refine qag ?_)
 rw [← hw2, ← hgx]
 clear hw2 hgx gqx0 gqx1 gqx2
 refine qal.mk ?_
 (with_reducible refine HK.out.mono ?_); rintro e w3 ⟨rfl, hb3⟩
 have HB := qHd (qac HB.out (Nat.le_refl _) hb3); have IQ := qHd (IQ.out.below hb3); have IX := qHd (IX.out.below hb3); have G_gx := qHd (qab G_gx.out hb3)
 clear hb3 HK
 have hs := sign_any _ q w3 (IQ.out.is (Nat.le_trans LQ.out (by decide)))
 rw [sg_pos1 (show 0 < q by rw [HQ.out]; have := NN.out; grind)] at hs
 have HK := qHd hs; clear hs
 obtain ⟨gqx0, gqx1, gqx2⟩ := row3 (qab G_gq.out HB.out)
 go_wp2_with (with_reducible refine qag ?_)
 clear gqx0 gqx1 gqx2
 refine qal.mk ?_
 (with_reducible refine HK.out.mono ?_); rintro e w4 ⟨rfl, hb4⟩
 have HB := qHd (qac HB.out (Nat.le_refl _) hb4); have IQ := qHd (IQ.out.below hb4); have IX := qHd (IX.out.below hb4); have G_gx := qHd (qab G_gx.out hb4)
 clear hb4 HK
 have HK := qHd (cmpq_any _ q _ f2 w4 (IQ.out.is (Nat.le_trans LQ.out (by decide))) (IX.out.is (Nat.le_trans LF.out (by decide))) (Nat.le_trans LQ.out (by decide)) (Nat.le_trans LF.out (by decide)))
 obtain ⟨gqx0, gqx1, gqx2⟩ := row3 (qab G_gq.out HB.out)
 obtain ⟨gxx0, gxx1, gxx2⟩ := row3 G_gx.out
 go_wp2_with (with_reducible refine qag ?_)
 clear gqx0 gqx1 gqx2 gxx0 gxx1 gxx2
 refine qal.mk ?_
 (with_reducible refine HK.out.mono ?_); rintro e w5 ⟨rfl, hb5⟩
 have HB := qHd (qac HB.out (Nat.le_refl _) hb5)
 have hge := cq_neg0 (show f2 ≤ q by rw [HQ.out]; grind)
 obtain ⟨cv, hcv⟩ : ∃ cv, cv = Go.Proofs.YtblekfkmianmeaaGreatDoor.cq q f2 := ⟨_, rfl⟩
 rw [← hcv] at hge ⊢
 clear hb5 HK hcv
 go_wp2_with fail
 go_ret
 exact ⟨rfl, HBW.out.trans (HB.out.mono HBW.out.size)⟩
theorem start_any (vc : Value) (n s0 : Nat) (ms : List Mv) (dn : List Bool) (w : World) (hc : ChI w vc n s0 ms dn) (hg : GCh n s0 ms dn) :
  Calls Tryz.prog 75 #[vc] w (RetFrE w n (fun i => if i = s0 then 1 else 0)) := by
 have HC := qHd hc
 obtain ⟨mo, mc, bo, bc, rfl, hM, hB, hmc, hbc⟩ := hc
 have HG := qHd hg
 have hn10 := hg.n10
 have hn0 := hg.n0
 have hl60 := hg.sm.len
 have HDL := qHd hg.dl
 clear hg
 clear hM hB
 have hs0n := HG.out.ok.st
 have HS0 := qHd (show ((s0 : Nat) : Int) < (n : Int) by omega)
 obtain ⟨W, hW⟩ : ∃ z0, z0 = w.alloc (.cells #[.int .i64 n, .int .i64 s0, .slice mo ms.length mc, .slice bo dn.length bc] 25) := ⟨_, rfl⟩
 have b_W : Below w.heap.size w W := by rw [hW]; exact qBA _ _
 have s_W : W.heap.size = w.heap.size + 1 := by rw [hW]; exact Array.size_push (xs := w.heap) _
 have hg_gc : W.heap[w.heap.size]? = some (.cells #[.int .i64 n, .int .i64 s0, .slice mo ms.length mc, .slice bo dn.length bc] 25) := (by rw [hW]; exact heap_alloc_new w _)
 have HBW := qHd (show Below w.heap.size w W from b_W)
 obtain ⟨gc, hgc⟩ : ∃ g, g = w.heap.size := ⟨_, rfl⟩
 rw [← hgc] at hg_gc
 have l_gc : w.heap.size ≤ gc ∧ gc < W.heap.size := by rw [s_W]; omega
 have G_gc := qHd hg_gc
 obtain ⟨gcx0, gcx1, gcx2, gcx3⟩ := qbn hg_gc
 rw [hW, hgc] at gcx0 gcx1 gcx2 gcx3
 clear hg_gc b_W s_W
 have HK := qHd (ccheck_any _ n s0 ms dn W (HC.out.below HBW.out) HG.out)
 go_enter Tryz.func75, Tryz.ntmps75
 go_wp2_with (with_reducible refine qag ?_)
 rw [← hW, ← hgc]
 clear hW hgc
 clear gcx0 gcx1 gcx2 gcx3
 refine qal.mk ?_
 (with_reducible refine HK.out.mono ?_); rintro e w1 ⟨rfl, hb1⟩
 have HB1 := qHd hb1; clear hb1 HK
 obtain ⟨gcx0, gcx1, gcx2, gcx3⟩ := qbn (qab G_gc.out HB1.out)
 go_wp2_with (with_reducible refine qaw ?_)
 clear gcx0 gcx1 gcx2 gcx3
 refine qbj Tryz.ratTy n rfl rfl (by omega) (by decide) (by decide) ?_
 intro w2 hw2 ho2
 have hb2 : Below w1.heap.size w1 w2 := by rw [hw2]; exact qBA _ _
 have hF := madeF ho2 hw2
 obtain ⟨g3, hG3⟩ : ∃ g, g = w1.heap.size := ⟨_, rfl⟩
 have l3 : W.heap.size ≤ g3 := by have := HB1.out.size; omega
 rw [← hG3] at hF ⊢
 have HF := qHd (hF.base l3); have HB := qHd (qac HB1.out (Nat.le_refl _) hb2)
 clear hF hb2 ho2 hw2 hG3
 go_wp2_with (with_reducible first | refine qag ?_ | refine qah ?_ | refine qbb ?_ | refine qbc ?_ | refine qae ?_)
 refine qal.mk ?_
 refine qaj (A := ?aaST) (w := w2) 5 [] (by kernel_rfl) (Fl [KEq (.slice (some ⟨g3, 0, none⟩) n n), KEq (.pointer (some ⟨gc, 1, none⟩)), KEq (.int .i64 (s0 : Nat)), KIs (1), KEq (.pointer (some ⟨g3, s0 * 3, none⟩))]) (fun i => false) (by kernel_rfl) ?hqST (qdk (qad (kEq _) (qad (kEq _) (qad (kEq _) (qad (kIs _) (qad (kEq _) qdj)))))) ?haST ?stST ?tlST
 case hqST =>
  intro c a d v w h
  first | (simp only [Exit.then] at h ⊢; exact h) | (simp only [Exit.inBlock, Exit.then] at h ⊢; exact h) | exact h
 case haST =>
  intro vals
  simp only [qat, qby, if_true, Act.put, List.setIfInBounds_toArray, List.set_cons_zero, List.set_cons_succ, List.getElem?_toArray, List.getElem?_cons_zero, List.getElem?_cons_succ, Option.bind_some]
  exact rfl
 case stST =>
  simp only [List.take_succ_cons, List.take_zero]
  refine qaa rfl rfl ?_ (qaa rfl rfl ?_ (qaa rfl rfl ?_ (qaa rfl rfl ?_ (qaa rfl rfl ?_ (qau)))))
  ·intro vals w1 hb hd
   refine qSv (.slice (some ⟨g3, 0, none⟩) n n) (by go_simp) (qLk rfl rfl)
  ·intro vals w1 hb hd
   refine qSv (.pointer (some ⟨gc, 1, none⟩)) (by go_simp) (qLk rfl rfl)
  ·intro vals w1 hb hd
   obtain ⟨gcx0, gcx1, gcx2, gcx3⟩ := qbn (qab G_gc.out (HB.out.step hb))
   rw [show vals 1 = .pointer (some ⟨gc, 1, none⟩) from hd 1 (by kernel_rfl)]
   refine qSv (.int .i64 (s0 : Nat)) (by go_simp) (qLk rfl rfl)
  ·intro vals w1 hb hd
   have hs := ofq_any 1 w1 (by decide) (by decide)
   rw [show (((1 : Int) : Rat)) = 1 from rfl] at hs
   have HS2 := qHd hs; clear hs
   refine qar (by go_simp; first | done | exact ⟨⟨rfl, rfl⟩, rfl⟩) ?_
   (with_reducible refine HS2.out.mono ?_); rintro e w2 ⟨v, rfl, hb2, hn⟩
   exact ⟨v, rfl, qai hb2 hn (fun h => by cases h)⟩
  ·intro vals w1 hb hd
   have hs0z := HS0.out
   rw [show vals 0 = .slice (some ⟨g3, 0, none⟩) n n from hd 0 (by kernel_rfl)]
   rw [show vals 2 = .int .i64 (s0 : Nat) from hd 2 (by kernel_rfl)]
   refine qSv (.pointer (some ⟨g3, s0 * 3, none⟩)) (by go_simp) (qLk rfl rfl)
 case tlST =>
  intro vals w4 hb4 hf hdis
  simp only [List.drop_succ_cons, List.drop_zero]
  have z4 : vals 4 = _ := hf 4 (by decide)
  have hn : IsR w4 (vals 3) 1 := hf 3 (by decide)
  rw [z4]
  obtain ⟨r, hr⟩ : ∃ r, r = vals 3 := ⟨_, rfl⟩
  rw [← hr] at hn ⊢
  clear z4 hf hdis hr
  obtain ⟨sz, oz, nz, cz, az, mz, dz, rfl⟩ := hn.shape
  have HF := qHd (HF.out.below hb4); have HB := qHd (qac HB.out (Nat.le_refl _) hb4)
  have IZ := qHd hn
  clear hb4 hn
  obtain ⟨cs, hcs, hsz⟩ := qbe HF.out
  go_wp2_with (with_reducible refine qan ?_)
  refine qba g3 (s0 * 3) [.bool sz, .slice oz nz cz, .slice az mz dz] hcs rfl rfl (by simp only [List.length_cons, List.length_nil]; omega) (by kernel_rfl) rfl ?_
  intro wz hpz
  obtain ⟨hX, hSt⟩ := HF.out.put hs0n IZ.out hpz
  have HF := qHd (show FrL wz W.heap.size (.slice (some ⟨g3, 0, none⟩) n n) n (fun i => if i = s0 then 1 else 0) from hX)
  have HB := qHd (hSt.low HB.out HB.out.size l3)
  clear hX hSt hpz hcs hsz IZ
  go_wp2_with fail
  go_ret2
  exact ⟨_, rfl, HBW.out.trans (HB.out.mono HBW.out.size), HF.out.base HBW.out.size⟩
section
variable {P : Program} {ops : Array Oper} {md : Region.Mode}
def StepSk (P : Program) (o : Oper) (a : Act) (w : World) (R : Value → World → Prop) : Prop := o.guard = none ∧ ∃ w', (execOp a.eval o).run P w = .ok .skip w' ∧ R undef w'
def StepH (P : Program) (ops : Array Oper) (o : Oper) (a : Act) (w : World) (R : Value → World → Prop) : Prop := StepG P ops o a w R ∨ StepSk P o a w R
theorem wpOp_of_stepH {o : Oper} {a a' : Act} {w : World} {i : Nat} {R : Value → World → Prop} {Q : Exit → Act → World → Prop} {K : Act → World → Prop} (hi : ops[i]? = some o)
  (hg : Region.wanted o (yielded ops a.tmps) = Region.wanted o (yielded ops a'.tmps))
  (he : execOp a.eval o = execOp a'.eval o) (h : StepH P ops o a' w R) (hK : ∀ v w', R v w' → K (a.put o.dst v) w') : wpOp P ops Q i K a w := by
 rcases h with h | ⟨hgn, w', hr, hR⟩
 ·exact wpOp_of_stepG hi hg he h hK
 ·unfold wpOp
  simp only [hi]
  rw [if_pos (by simp [Region.wanted, hgn])]
  left
  unfold Oper.wp
  rw [he, hr]
  simp only [Oper.upon]
  exact hK _ _ hR
theorem wpAny_of_factsH {n : Nat} {fl : List Nat} {Q : Exit → Act → World → Prop} {F : Nat → Value → World → Prop} {AL : Nat → Bool} {Ac : Bool → World → Prop} {sp : Nat} {a0 : Act} (hB : headB md ops fl n = true)
  (hQ : ∀ c (a : Act) (d : Tmp) v w, Q (.panic c) (a.put (some d) v) w → Q (.panic c) a w)
  (hstep : ∀ i o, i < n → ops[i]? = some o → ∀ (vals : Nat → Value) (w1 : World) (b : Bool), (i = sp ∨ Region.waitsFor md ops sp i = true → b = false) → Ac b w1 → (∀ j, Region.waitsFor md ops i j = true → F j (vals j) w1) →
   if fl.contains i then StepPure P o (qat ops (fun _ => true) vals a0 n) (fun v => LeavesG F AL Ac sp i b w1 v w1) else StepH P ops o (qat ops (fun _ => true) vals a0 n) w1 (LeavesG F AL Ac sp i b w1))
  (hsp : sp < n) (hend : ∀ (vals : Nat → Value) (w1 : World), Ac true w1 → (∀ i, i < n → F i (vals i) w1) → (∀ i j, i < n → j < n → i ≠ j → AL i = true → AL j = true → vals i ≠ vals j) →
   wpList P ops Q (ops.toList.drop n) (qat ops (fun _ => true) vals a0 n) w1) :
  ∀ (m : Nat) (listed : Array Bool) (a : Act) (w : World), unl listed n = m → DrawInvG md ops n F AL Ac sp a0 listed a w → wpAny P md ops Q (m + (ops.size - n)) listed a w := by
 have hB' := hB
 unfold headB at hB'
 simp only [Bool.and_eq_true, decide_eq_true_eq] at hB'
 obtain ⟨⟨⟨⟨⟨hsel, hn⟩, ⟨hs, hfb⟩, hfn⟩, hc⟩, _⟩, hseq⟩ := hB'
 intro m
 induction m with
 | zero =>
  intro listed a w hm inv
  have hall := unl_zero n hm
  obtain ⟨vals, rfl, hv, _, hd⟩ := inv.vals
  have hl : listed = (Array.range ops.size).map fun i => decide (i < n) := by
   apply Array.ext
   ·simp [inv.head.size]
   ·intro j h1 h2
    simp only [Array.getElem_map, Array.getElem_range]
    by_cases hj : j < n
    ·have := hall j hj
     simp [h1] at this; rw [this, decide_eq_true hj]
    ·have hjs : j < ops.size := by rw [← inv.head.size]; exact h1
     have := inv.head.tail j (by omega) hjs
     simp [h1] at this; rw [this, decide_eq_false hj]
  have hend' := hend vals w (by have := inv.acc; rwa [hall sp hsp] at this) (fun i hi => hv i hi (hall i hi)) (fun i j hi hj hij ai aj => hd i j hi hj hij (hall i hi) (hall j hj) ai aj)
  rw [putsTo_congr (l' := fun _ => true) (v' := vals) (fun j hj => ⟨hall j hj, fun _ => rfl⟩)]
  rw [Nat.zero_add]
  have hlen : (ops.toList.drop n).length = ops.size - n := by simp
  have := wpAny_of_seq (P := P) (md := md) (Q' := Q) (ops.toList.drop n) n listed (qat ops (fun _ => true) vals a0 n) w (fun j => by simp [List.getElem?_drop]) (by rw [hlen, hl]; exact hseq) hend'
  rwa [hlen] at this
 | succ m ih =>
  intro listed a w hm inv
  have step : ∀ i oi, i ∈ Region.ready md ops listed → i < n → ops[i]? = some oi →
    (execOp a.eval oi = execOp (qat ops (fun _ => true) (Classical.choose inv.vals) a0 n).eval oi ∧ Region.wanted oi (yielded ops a.tmps) = Region.wanted oi (yielded ops (qat ops (fun _ => true) (Classical.choose inv.vals) a0 n).tmps)) ∧ (∀ j, Region.waitsFor md ops i j = true → F j (Classical.choose inv.vals j) w) ∧ unl (listed.setIfInBounds i true) n = m := by
   intro i oi hi hin hoi
   obtain ⟨ha, hv, _, _⟩ := Classical.choose_spec inv.vals
   obtain ⟨hiu, oi', hoi', hdeps⟩ := mem_ready.1 hi
   have : oi' = oi := Option.some.inj (hoi'.symm.trans hoi)
   subst this
   have ok := headB_ok hB hin hoi
   have his : i < listed.size := by rw [inv.head.size]; exact (Array.getElem?_eq_some_iff.1 hoi).1
   have hwl : ∀ j, Region.waitsFor md ops i j = true → listed.getD j false = true := fun j hj => by
    obtain ⟨o', ho', e, he, hb, hon⟩ := Region.waitsFor_spec hj
    have : o' = oi' := Option.some.inj (ho'.symm.trans hoi)
    subst this
    rw [← hon]; exact hdeps e he hb
   have hwn : ∀ j, Region.waitsFor md ops i j = true → j < n := fun j hj => by
    obtain ⟨o', ho', e, he, hb, hon⟩ := Region.waitsFor_spec hj
    have : o' = oi' := Option.some.inj (ho'.symm.trans hoi)
    subst this
    have := ok.early e he hb; omega
   refine ⟨?_, fun j hj => hv j (hwn j hj) (hwl j hj), by have := unl_set his (getD_both hiu) n hin; omega⟩
   have e := execOp_congr oi' (ρ := (qat ops (fun j => listed.getD j false) (Classical.choose inv.vals) a0 n).eval) (ρ' := (qat ops (fun _ => true) (Classical.choose inv.vals) a0 n).eval) (fun cs b => Region.noSelect_spec hsel i oi' cs b hoi)
    fun x hx => (putsTo_eval n (fun t ht j hj hdj => hwl j (ok.reads x hx t ht j hj hdj))).1
   have e2 := putsTo_wanted (ops := ops) (l := fun j => listed.getD j false) (vals := Classical.choose inv.vals) (a := a0) (o := oi') n (fun g b hg t ht j hj hdj => by
    obtain ⟨hgn, hw⟩ := ok.guard g b hg
    by_cases hjg : j = g
    ·subst hjg; exact hwl _ hw
    ·exfalso
     have hgs : g < ops.size := by omega
     have okg := headB_ok hB hgn (Array.getElem?_eq_getElem hgs)
     refine okg.dst j hj hjg t ?_ hdj
     unfold qby at ht
     rw [Array.getElem?_eq_getElem hgs] at ht; exact ht)
   rw [← ha] at e e2; exact ⟨e, e2⟩
  obtain ⟨k, hk, hku, hkl⟩ := unl_first (listed := listed) n (by omega)
  have hks : k < listed.size := by rw [inv.head.size]; omega
  have hkt := getD_in hks hku
  have hready : k ∈ Region.ready md ops listed := by
   rw [mem_ready]
   refine ⟨hkt, ops[k]'(by omega), by rw [Array.getElem?_eq_getElem], fun e he hb => ?_⟩
   exact hkl _ ((headB_ok hB hk (Array.getElem?_eq_getElem (by omega))).early e he hb)
  rw [show m + 1 + (ops.size - n) = (m + (ops.size - n)) + 1 by omega]
  by_cases hfl : ∃ i, i < n ∧ i ∈ Region.ready md ops listed ∧ fl.contains i = true
  ·obtain ⟨i, hin, hi, hif⟩ := hfl
   obtain ⟨_, oi, hoi, _⟩ := mem_ready.1 hi
   obtain ⟨he, hdp, hu⟩ := step i oi hi hin hoi
   have st := hstep i oi hin hoi (Classical.choose inv.vals) w (listed.getD sp false) (fun e => by
    rcases e with e | e
    ·subst e; exact getD_both (mem_ready.1 hi).1
    ·obtain ⟨os, hos, ed, hed, hbd, hon⟩ := Region.waitsFor_spec e
     cases hl : listed.getD sp false with
     | false => rfl
     | true =>
      have := inv.head.closed sp os hos hl ed hed hbd
      rw [hon, getD_both (mem_ready.1 hi).1] at this; cases this) inv.acc hdp
   rw [if_pos hif] at st
   obtain ⟨v, hv, hL⟩ := st
   have hfi := List.all_eq_true.1 hfb i (by simpa using hif)
   rw [hoi] at hfi
   simp only [Bool.and_eq_true] at hfi
   obtain ⟨hgn, hfi⟩ := hfi
   have hgn : oi.guard = none := by simpa using hgn
   refine wpAny_first hoi (Region.noSelect_spec hsel) (fun c a w h => by
    cases hd : oi.dst with
    | none => rw [hd] at h; exact h
    | some d => rw [hd] at h; exact hQ c a d v w h) _ listed a w ?_ hi (.inl ⟨by simp [Region.wanted, hgn], fun w' => by rw [he.1]; exact hv w'⟩) (ih _ _ _ hu (inv.next hB hi hin hoi hL))
   intro j oj hj hji hun hno
   have h1 := List.all_eq_true.1 hfi j (List.mem_range.2 (Array.getElem?_eq_some_iff.1 hj).1)
   rw [hj] at h1
   simp only [Bool.or_eq_true, beq_iff_eq, hji, false_or] at h1
   rcases h1 with (h1 | h1) | h1
   ·obtain ⟨o', ho', e, he, hb, hon⟩ := Region.waitsFor_spec h1
    have : o' = oj := Option.some.inj (ho'.symm.trans hj)
    subst this
    exact absurd hon (hno e he hb)
   ·obtain ⟨o', ho', e, he, hb, hon⟩ := Region.waitsFor_spec h1
    obtain ⟨_, o2, ho2, hall⟩ := mem_ready.1 hi
    have : o' = o2 := Option.some.inj (ho'.symm.trans ho2)
    subst this
    have := hall e he hb
    rw [hon, getD_both hun] at this; cases this
   ·exact h1
  ·have hkf : fl.contains k = false := by
    cases h : fl.contains k with
    | false => rfl
    | true => exact absurd ⟨k, hk, hready, h⟩ hfl
   refine ⟨fun h0 => (by rw [h0] at hready; cases hready), fun i hi => ?_⟩
   have hin : i < n := by
    rcases Nat.lt_or_ge i n with h | h
    ·exact h
    ·exact absurd hi (tail_waitsF hs hc hn inv.head _ k rfl hk hkf hkt i h)
   obtain ⟨_, oi, hoi, _⟩ := mem_ready.1 hi
   obtain ⟨he, hdp, hu⟩ := step i oi hi hin hoi
   have st := hstep i oi hin hoi (Classical.choose inv.vals) w (listed.getD sp false) (fun e => by
    rcases e with e | e
    ·subst e; exact getD_both (mem_ready.1 hi).1
    ·obtain ⟨os, hos, ed, hed, hbd, hon⟩ := Region.waitsFor_spec e
     cases hl : listed.getD sp false with
     | false => rfl
     | true =>
      have := inv.head.closed sp os hos hl ed hed hbd
      rw [hon, getD_both (mem_ready.1 hi).1] at this; cases this) inv.acc hdp
   rw [if_neg (fun h => hfl ⟨i, hin, hi, h⟩)] at st
   refine wpOp_of_stepH hoi he.2 he.1 st ?_
   intro v w' hL
   exact ih _ _ _ hu (inv.next hB hi hin hoi hL)

def stepsOKH (P : Program) (md : Region.Mode) (ops : Array Oper) (fl : List Nat) (F : Nat → Value → World → Prop) (AL : Nat → Bool) (Ac : Bool → World → Prop) (sp : Nat) (A : (Nat → Value) → Act) : List Oper → Nat → Prop
 | [], _ => True
 | o :: l, i => (∀ (vals : Nat → Value) (w1 : World) (b : Bool), (i = sp ∨ Region.waitsFor md ops sp i = true → b = false) → Ac b w1 → (∀ j, Region.waitsFor md ops i j = true → F j (vals j) w1) →
   if fl.contains i then StepPure P o (A vals) (fun v => LeavesG F AL Ac sp i b w1 v w1) else StepH P ops o (A vals) w1 (LeavesG F AL Ac sp i b w1)) ∧
  stepsOKH P md ops fl F AL Ac sp A l (i + 1)
theorem stepsOKH_at {fl : List Nat} {F : Nat → Value → World → Prop} {AL : Nat → Bool} {Ac : Bool → World → Prop} {sp : Nat} {A : (Nat → Value) → Act} : ∀ (l : List Oper) (i : Nat), stepsOKH P md ops fl F AL Ac sp A l i → ∀ k o, l[k]? = some o →
  ∀ (vals : Nat → Value) (w1 : World) (b : Bool), (i + k = sp ∨ Region.waitsFor md ops sp (i + k) = true → b = false) → Ac b w1 → (∀ j, Region.waitsFor md ops (i + k) j = true → F j (vals j) w1) →
   if fl.contains (i + k) then StepPure P o (A vals) (fun v => LeavesG F AL Ac sp (i + k) b w1 v w1) else StepH P ops o (A vals) w1 (LeavesG F AL Ac sp (i + k) b w1)
 | [], _, _, k, o, h => by simp at h
 | x :: l, i, hs, 0, o, h => by
  simp at h; subst h
  exact hs.1
 | x :: l, i, hs, k + 1, o, h => by
  have := stepsOKH_at l (i + 1) hs.2 k o (by simpa using h)
  rw [show i + 1 + k = i + (k + 1) by omega] at this
  exact this
theorem wp_region_factsH {id : Nat} {Q : Exit → Act → World → Prop} {a : Act} {w : World} {l : List Oper} {A : (Nat → Value) → Act} (n : Nat) (fl : List Nat) (hm : P.follows .mixedOrders = true) (F : Nat → Value → World → Prop) (AL : Nat → Bool) (Ac : Bool → World → Prop) (sp : Nat) (hsp : sp < n) (h0 : Ac false { w with drawn := w.drawn + 1 })
  (hB : headB .any l.toArray fl n = true)
  (hQ : ∀ c (a : Act) (d : Tmp) v w, Q (.panic c) (a.put (some d) v) w → Q (.panic c) a w)
  (hA : ∀ vals : Nat → Value, qat l.toArray (fun _ => true) vals a n = A vals)
  (hstep : stepsOKH P .any l.toArray fl F AL Ac sp A (l.take n) 0)
  (hend : ∀ (vals : Nat → Value) (w1 : World), Ac true w1 → (∀ i, i < n → F i (vals i) w1) → (∀ i j, i < n → j < n → i ≠ j → AL i = true → AL j = true → vals i ≠ vals j) →
   wpList P l.toArray Q (l.drop n) (A vals) w1) : (Code.region id l.toArray true).wp P Q a w := by
 refine wp_region_any hm ?_
 have hB' := hB
 unfold headB at hB'
 simp only [Bool.and_eq_true, decide_eq_true_eq] at hB'
 have hn : n < l.toArray.size := hB'.1.1.1.1.2
 have hu : ∀ k, unl (Array.replicate l.toArray.size false) k = k := fun k => by
  induction k with
  | zero => rfl
  | succ k ih => unfold unl; rw [ih, getD_replicate_false]; rfl
 have key := wpAny_of_factsH (P := P) (Q := Q) (F := F) (AL := AL) (Ac := Ac) (sp := sp) (a0 := a) hB hQ (fun i o hi ho vals w1 b hs hb hd => by
   have := stepsOKH_at (l.take n) 0 hstep i o (by
    rw [List.getElem?_take, if_pos hi]; simpa using ho)
   rw [Nat.zero_add] at this; rw [hA]; exact this vals w1 b hs hb hd) hsp (fun vals w1 hb hf hd => by rw [hA]; simpa using hend vals w1 hb hf hd) n (Array.replicate l.toArray.size false) a { w with drawn := w.drawn + 1 } (hu n)
  ⟨⟨by simp, fun j oj _ hl => (by rw [getD_replicate_false] at hl; cases hl), fun t _ ht => getD_in (by simpa using ht) (getD_replicate_false _ _)⟩,
   by rw [getD_replicate_false]; exact h0, fun _ => undef, by
    have : ∀ k, qat l.toArray (fun j => (Array.replicate l.toArray.size false).getD j false) (fun _ => undef) a k = a := fun k => by
     induction k with
     | zero => rfl
     | succ k ih => unfold qat; rw [if_neg (by rw [getD_replicate_false]; decide), ih]
    exact (this n).symm, fun j _ hl => (by rw [getD_replicate_false] at hl; cases hl), fun j _ hl => (by rw [getD_replicate_false] at hl; cases hl), fun j _ _ _ _ hl => (by rw [getD_replicate_false] at hl; cases hl)⟩
 rw [show n + (l.toArray.size - n) = l.toArray.size by omega] at key
 exact key
section
variable {fl : List Nat} {F : Nat → Value → World → Prop} {AL : Nat → Bool} {Ac : Bool → World → Prop} {sp : Nat} {A : (Nat → Value) → Act} {i : Nat} {o : Oper} {l : List Oper}
theorem stepsOKH_nil : stepsOKH P md ops fl F AL Ac sp A [] i := trivial
theorem qav (hi : fl.contains i = false) (hg : o.guard = none)
  (h : ∀ (vals : Nat → Value) (w1 : World) (b : Bool), (i = sp ∨ Region.waitsFor md ops sp i = true → b = false) → Ac b w1 → (∀ j, Region.waitsFor md ops i j = true → F j (vals j) w1) → StepOK P o (A vals) w1 (LeavesG F AL Ac sp i b w1))
  (hl : stepsOKH P md ops fl F AL Ac sp A l (i + 1)) : stepsOKH P md ops fl F AL Ac sp A (o :: l) i := ⟨fun vals w1 b hs hb hd => by rw [if_neg (by rw [hi]; decide)]; left; unfold StepG; rw [if_pos (by simp [Region.wanted, hg])]; exact h vals w1 b hs hb hd, hl⟩
theorem stepsOKH_store (hi : fl.contains i = false)
  (h : ∀ (vals : Nat → Value) (w1 : World) (b : Bool), (i = sp ∨ Region.waitsFor md ops sp i = true → b = false) → Ac b w1 → (∀ j, Region.waitsFor md ops i j = true → F j (vals j) w1) → StepSk P o (A vals) w1 (LeavesG F AL Ac sp i b w1))
  (hl : stepsOKH P md ops fl F AL Ac sp A l (i + 1)) : stepsOKH P md ops fl F AL Ac sp A (o :: l) i := ⟨fun vals w1 b hs hb hd => by rw [if_neg (by rw [hi]; decide)]; right; exact h vals w1 b hs hb hd, hl⟩
end
end
theorem stepSk_store {P : Program} {o : Oper} {a : Act} {w : World} {R : Value → World → Prop} (hgd : o.guard = none) (ty : TypeId) (x y : Operand) (ho : o.op = .store ty x y) (g off : Nat) (l : List Value) {cs : Array Value} {T : TypeId} (hg : w.heap[g]? = some (.cells cs T)) (hx : a.eval x = .pointer (some ⟨g, off, none⟩)) (hy : a.eval y = .agg l.toArray)
  (hle : off + l.length ≤ cs.size) (hi : (P.info? ty).map (·.size) = some l.length) (h1 : l.all (fun v => v.oneCell') = true) (hR : R undef (putL w g off l)) : StepSk P o a w R := by
 refine ⟨hgd, putL w g off l, ?_, hR⟩
 have h := run_storeAt_mid (P := P) w g off ty l.toArray (there_row hg (by simpa using hle)) (by simpa using hi) (all_oneCell_toArray (fun v hv => List.all_eq_true.1 h1 v hv))
 unfold execOp
 simp only [ho, hx, hy, Sem.run_bind, Sem.run_pure, Result.andThen_ok, h, putL_eq]
theorem Stp.trans0 {w a b : World} {r : Option Nat} (h : Stp w a none) (k : Stp a b r) : Stp w b r :=
 ((Stp.refl w r).trans h (fun _ e => by cases e)).trans k (fun _ e => .inl e)
theorem stp_putL {w w' : World} {g off : Nat} {l : List Value} {cs : Array Value} {T : TypeId} (hw : w' = putL w g off l) (h : w.heap[g]? = some (.cells cs T)) (hc : noW cs) : Stp w w' (some g) := by
 have gr : w.grownBy w' (some g) := ⟨by rw [hw]; exact (putL_os _ _ _ _).1, by rw [hw]; exact (putL_os _ _ _ _).2.1, by rw [hw]; exact (putL_os _ _ _ _).2.2, by rw [hw, putL_size]; exact Nat.le_refl _, fun k _ hk => by rw [hw, putL_ne (fun e => hk (by rw [e]))]⟩
 refine ⟨gr, fun b q k hq => ?_⟩
 by_cases e : b = g
 ·subst e
  rw [cell_of_row w b q _ _ _ h] at hq
  exact absurd hq (hc _ _)
 ·rw [← hq]; unfold World.cell?
  rw [gr.block b (World.block_lt_of_cell? w _ hq) (fun e2 => e (Option.some.inj e2))]
theorem moved_eq {F : Nat → Rat} {a b : Nat} {s : Rat} (h : a ≠ b) : updR (updR F a (F a - s)) b (F b + s) = moved F a b s := by
 funext j
 unfold updR moved
 by_cases e : j = b
 ·rw [if_pos e, if_neg (fun q => h (by rw [← q, e])), if_pos e, e]
 ·rw [if_neg e]
  by_cases e2 : j = a
  ·rw [if_pos e2, if_pos e2, e2]
  ·rw [if_neg e2, if_neg e2, if_neg e]
theorem tstep54 (vc vq : Value) (n s0 : Nat) (ms : List Mv) (dn : List Bool) (gv cv Bv : Nat) (x : Nat → Rat) (q : Rat) (w : World) (hc : ChI w vc n s0 ms dn) (hg : GCh n s0 ms dn) (hv : FrL w Bv (.slice (some ⟨gv, 0, none⟩) n cv) n x) (hcv : n ≤ cv ∧ cv ≤ 9223372036854775807)
  (hq : IsR w vq q) (hq0 : q ≠ 0) (lq : rl q ≤ 9) (lx : ∀ i, i < n → rl (x i) ≤ 200) (lsh : ∀ m ∈ ms, rl (x m.a * m.r) ≤ 200 ∧ rl (x m.a * m.r / q) ≤ 200) (lst : ∀ t i, rl (qda (dnf dn) q x (ms.take t) x i) ≤ 200) :
  Calls Tryz.prog 76 #[vc, vq, .slice (some ⟨gv, 0, none⟩) n cv, .bool true] w (RetFrE w n (qda (dnf dn) q x ms x)) := by
 obtain ⟨mo, mc, bo, bc, rfl, hM, hB, hmc, hbc⟩ := hc
 have HG := qHd hg
 have hn10 := hg.n10
 have hn0 := hg.n0
 have hl60 := hg.sm.len
 have HDL := qHd hg.dl
 clear hg
 obtain ⟨sq, oq, nq, cq, aq, mq, dq, rfl⟩ := hq.shape
 have HD := qHd (show errV (dc q) = .nilIface by unfold dc; rw [if_neg hq0]; exact qcm)
 have LQ := qHd (show rl q ≤ 100000 by omega)
 have LXX := qHd lx; have LSH := qHd lsh; have LST := qHd lst
 clear hq0 lq lx lsh lst
 obtain ⟨Wb0, hWb0⟩ : ∃ z0, z0 = w.alloc (.cells #[.int .i64 n, .int .i64 s0, .slice mo ms.length mc, .slice bo dn.length bc] 25) := ⟨_, rfl⟩
 have b_Wb0 : Below w.heap.size w Wb0 := by rw [hWb0]; exact qBA _ _
 have s_Wb0 : Wb0.heap.size = w.heap.size + 1 := by rw [hWb0]; exact Array.size_push (xs := w.heap) _
 obtain ⟨W, hW⟩ : ∃ z0, z0 = Wb0.alloc (.cells #[.bool sq, .slice oq nq cq, .slice aq mq dq] 37) := ⟨_, rfl⟩
 have b_W : Below Wb0.heap.size Wb0 W := by rw [hW]; exact qBA _ _
 have s_W : W.heap.size = w.heap.size + 1 + 1 := by rw [hW]; rw [← s_Wb0]; exact Array.size_push (xs := Wb0.heap) _
 have hg_gc : W.heap[w.heap.size]? = some (.cells #[.int .i64 n, .int .i64 s0, .slice mo ms.length mc, .slice bo dn.length bc] 25) := (qab (by rw [hWb0]; exact heap_alloc_new w _) b_W)
 have hg_gq : W.heap[w.heap.size + 1]? = some (.cells #[.bool sq, .slice oq nq cq, .slice aq mq dq] 37) := (by rw [← s_Wb0]; rw [hW]; exact heap_alloc_new Wb0 _)
 have HBW := qHd (show Below w.heap.size w W from (b_Wb0.trans (b_W.mono (by rw [s_Wb0]; omega))))
 obtain ⟨gc, hgc⟩ : ∃ g, g = w.heap.size := ⟨_, rfl⟩
 rw [← hgc] at hg_gc
 have l_gc : w.heap.size ≤ gc ∧ gc < W.heap.size := by rw [s_W]; omega
 obtain ⟨gq, hgq⟩ : ∃ g, g = w.heap.size + 1 := ⟨_, rfl⟩
 rw [← hgq] at hg_gq
 have l_gq : w.heap.size ≤ gq ∧ gq < W.heap.size := by rw [s_W]; omega
 have G_gc := qHd hg_gc
 have G_gq := qHd hg_gq
 obtain ⟨gcx0, gcx1, gcx2, gcx3⟩ := qbn hg_gc
 rw [hW, hWb0, hgc] at gcx0 gcx1 gcx2 gcx3
 obtain ⟨gqx0, gqx1, gqx2⟩ := row3 hg_gq
 rw [hW, hWb0, hgq] at gqx0 gqx1 gqx2
 clear hg_gc hg_gq b_Wb0 b_W s_Wb0 s_W
 have HM := qHd (hM.below HBW.out); have HD2 := qHd (hB.below HBW.out); have HV := qHd (hv.below HBW.out); have IQ := qHd (hq.below HBW.out)
 have HK := qHd (cloneR_any gv cv n Bv x W (hv.below HBW.out) hn0 (by omega))
 clear hM hB hv hq
 go_enter Tryz.func76, Tryz.ntmps76
 go_wp2_with (with_reducible refine qag ?_)
 rw [← hWb0, ← hW, ← hgq, ← hgc]
 clear hWb0 hW hgc hgq
 clear gcx0 gcx1 gcx2 gcx3 gqx0 gqx1 gqx2
 refine qal.mk ?_
 (with_reducible refine HK.out.mono ?_); rintro e w1 ⟨v1, rfl, hb1, hF1⟩
 obtain ⟨g3, c3, rfl, hc3, hc32, l3, _⟩ := hF1.addr hn0
 have HF := qHd (show FrL w1 W.heap.size (.slice (some ⟨g3, 0, none⟩) n c3) n (qda (dnf dn) q x (ms.take 0) x) from hF1); have HB := qHd hb1
 clear hF1 hb1 HK
 obtain ⟨gcx0, gcx1, gcx2, gcx3⟩ := qbn (qab G_gc.out HB.out)
 go_wp2_with (with_reducible first | refine qah ?_ | refine qae ?_)
 clear gcx0 gcx1 gcx2 gcx3
 refine qal.mk ?_
 go_loopw [20] (fun i' wx => ∃ k : Nat, k ≤ ms.length ∧ i' = .int .i64 k ∧ Hid (FrL wx W.heap.size (.slice (some ⟨g3, 0, none⟩) n c3) n (qda (dnf dn) q x (ms.take k) x)) ∧ Hid (Below W.heap.size W wx)) (fun i' _ => ms.length - (intOf i').toNat)
 case atStart => exact ⟨0, Nat.zero_le _, rfl, HF, HB⟩
 case round =>
  obtain ⟨k, hk, rfl, HF, HB⟩ := hrel
  obtain ⟨wo, rfl⟩ : ∃ wo : World, wo = wr := ⟨_, rfl⟩
  by_cases hlt : k < ms.length
  ·have hltz : (k : Int) < (ms.length : Int) := by omega
   obtain ⟨m, hm⟩ : ∃ m, ms[k]? = some m := ⟨ms[k], List.getElem?_eq_getElem hlt⟩
   obtain ⟨mb, moff, rfl, hmb, _, hat⟩ := (HM.out.below HB.out).at (by omega)
   obtain ⟨sm, om, nm, cm, am, mm, dm, m0, m1, m2, m3, m4, hIm⟩ := hat k m hm
   clear hat
   have hmem := List.mem_of_getElem? hm
   obtain ⟨ha1, hb1, hab, hr0⟩ := HG.out.ok.mv m hmem
   have LM := qHd (show rl m.r ≤ 100000 from Nat.le_trans (rate_rl HG.out.sm hmem) (by decide))
   have HNX := qHd (stepA_next (dn := dnf dn) (q := q) (v := x) (w := x) hm)
   have HLS := qHd (LSH.out m hmem)
   have HLF := qHd (fun i => LST.out k i)
   clear hm hmem hr0
   obtain ⟨db, doff, rfl, hdb, _, hdat⟩ := (HD2.out.below HB.out).at (by rw [HDL.out]; omega)
   have hd0 := hdat m.a _ (dnf_at (by rw [HDL.out]; exact ha1))
   clear hdat
   have hdl : ((m.a : Nat) : Int) < ((dn.length : Nat) : Int) := by rw [HDL.out]; omega
   obtain ⟨dd, hdd⟩ : ∃ d, d = dnf dn m.a := ⟨_, rfl⟩
   rw [← hdd] at hd0 HNX
   clear hdd
   obtain ⟨w2, hw2, hb2, hx2⟩ := qBx3 wo (.cells #[.int .i64 (m.a : Nat), .int .i64 (m.b : Nat), .bool sm, .slice om nm cm, .slice am mm dm] 45)
   obtain ⟨gm, hgm⟩ : ∃ g, g = wo.heap.size := ⟨_, rfl⟩
   have lm : W.heap.size ≤ gm := by rw [hgm]; exact HB.out.size
   rw [← hgm] at hx2
   have G_gm := qHd hx2
   obtain ⟨gcx0, gcx1, gcx2, gcx3⟩ := qbn (qab (qab G_gc.out HB.out) hb2)
   rw [hw2] at gcx0 gcx1 gcx2 gcx3
   obtain ⟨gmx0, gmx1, gmx2, gmx3, gmx4⟩ := qbz (hx2)
   rw [hw2, hgm] at gmx0 gmx1 gmx2 gmx3 gmx4
   have hd2 := qak hd0 hb2
   rw [hw2] at hd2
   have IM := qHd (hIm.below hb2); have HF := qHd (HF.out.below hb2); have HB := qHd (qac HB.out (Nat.le_refl _) hb2)
   clear hb2 hx2 hIm hmb hdb
   cases dd
   ·go_wp2_with (with_reducible first | refine qag ?_ | refine qah ?_ | refine qbb ?_ | refine qbc ?_ | refine qae ?_)
    rw [← hw2, ← hgm]
    clear hw2 hgm m0 m1 m2 m3 m4 hd0 hd2 hdl
    clear gcx0 gcx1 gcx2 gcx3 gmx0 gmx1 gmx2 gmx3 gmx4
    refine qal.mk ?_
    have HA := qHd (show ((m.a : Nat) : Int) < (n : Int) by omega); have HBB := qHd (show ((m.b : Nat) : Int) < (n : Int) by omega); have HAN := qHd ha1
    have HV2 := qHd (HV.out.below HB.out)
    obtain ⟨sv, ov, nv, cv_, av, mv, dv, v0, v1, v2, hIv⟩ := HV2.out.at ha1
    have LV := qHd (show rl (x m.a) ≤ 100000 from Nat.le_trans (LXX.out m.a ha1) (by decide))
    have LMU := qHd (show rl (x m.a * m.r) ≤ 100000 from Nat.le_trans HLS.out.1 (by decide))
    have LS := qHd (show rl (x m.a * m.r / q) ≤ 100000 from Nat.le_trans HLS.out.2 (by decide))
    obtain ⟨xv, hxv⟩ : ∃ z0, z0 = x m.a := ⟨_, rfl⟩
    rw [← hxv] at hIv LV LMU LS HNX
    obtain ⟨sh, hsh⟩ : ∃ z0, z0 = xv * m.r / q := ⟨_, rfl⟩
    rw [← hsh] at LS HNX
    have HSH := qHd hsh
    have IV := qHd hIv; have CV := qHd (And.intro v0 (And.intro v1 v2))
    clear hIv v0 v1 v2 hxv hsh HLS HV2
    refine qaj (A := ?aaR6) (w := w2) 14 [12] (by kernel_rfl) (Fl [KEq (.slice (some ⟨gv, 0, none⟩) n cv), KEq (.pointer (some ⟨gm, 0, none⟩)), KEq (.int .i64 (m.a : Nat)), KEq (.pointer (some ⟨gv, m.a * 3, none⟩)), KEq (.agg #[.bool sv, .slice ov nv cv_, .slice av mv dv]), KEq (.pointer (some ⟨gm, 2, none⟩)), KEq (.agg #[.bool sm, .slice om nm cm, .slice am mm dm]), KIs (xv * m.r), KEq (.agg #[.bool sq, .slice oq nq cq, .slice aq mq dq]), KRE sh .nilIface, KRE sh .nilIface, KIs sh, KEq (.nilIface), KNew w2.heap.size #[.bool false, .slice none 0 0, .slice none 0 0] 37]) (fun i => i == 13) (by kernel_rfl) ?hqR6 (qdk (qad (kEq _) (qad (kEq _) (qad (kEq _) (qad (kEq _) (qad (kEq _) (qad (kEq _) (qad (kEq _) (qad (kIs _) (qad (kEq _) (qad (kRE _ _) (qad (kRE _ _) (qad (kIs _) (qad (kEq _) (qad (kNew _ _ _) qdj))))))))))))))) ?haR6 ?stR6 ?tlR6
    case hqR6 =>
     intro c a d v w h
     first | (simp only [Exit.then] at h ⊢; exact h) | (simp only [Exit.inBlock, Exit.then] at h ⊢; exact h) | exact h
    case haR6 =>
     intro vals
     simp only [qat, qby, if_true, Act.put, List.setIfInBounds_toArray, List.set_cons_zero, List.set_cons_succ, List.getElem?_toArray, List.getElem?_cons_zero, List.getElem?_cons_succ, Option.bind_some]
     exact rfl
    case stR6 =>
     simp only [List.take_succ_cons, List.take_zero]
     refine qaa rfl rfl ?_ (qaa rfl rfl ?_ (qaa rfl rfl ?_ (qaa rfl rfl ?_ (qaa rfl rfl ?_ (qaa rfl rfl ?_ (qaa rfl rfl ?_ (qaa rfl rfl ?_ (qaa rfl rfl ?_ (qaa rfl rfl ?_ (qaa rfl rfl ?_ (qaa rfl rfl ?_ (qci rfl ?_ (qaa rfl rfl ?_ (qau))))))))))))))
     ·intro vals w1 hb hd
      refine qSv (.slice (some ⟨gv, 0, none⟩) n cv) (by go_simp) (qLk rfl rfl)
     ·intro vals w1 hb hd
      refine qSv (.pointer (some ⟨gm, 0, none⟩)) (by go_simp) (qLk rfl rfl)
     ·intro vals w1 hb hd
      obtain ⟨e0, e1, e2, e3, e4⟩ := qbz (qab G_gm.out hb)
      rw [show vals 1 = .pointer (some ⟨gm, 0, none⟩) from hd 1 (by kernel_rfl)]
      refine qSv (.int .i64 (m.a : Nat)) (by go_simp) (qLk rfl rfl)
     ·intro vals w1 hb hd
      have haz := HA.out
      rw [show vals 0 = .slice (some ⟨gv, 0, none⟩) n cv from hd 0 (by kernel_rfl)]
      rw [show vals 2 = .int .i64 (m.a : Nat) from hd 2 (by kernel_rfl)]
      refine qSv (.pointer (some ⟨gv, m.a * 3, none⟩)) (by go_simp) (qLk rfl rfl)
     ·intro vals w1 hb hd
      obtain ⟨e0, e1, e2⟩ := qax CV.out hb
      rw [show vals 3 = .pointer (some ⟨gv, m.a * 3, none⟩) from hd 3 (by kernel_rfl)]
      refine qSv (.agg #[.bool sv, .slice ov nv cv_, .slice av mv dv]) (by go_simp) (qLk rfl rfl)
     ·intro vals w1 hb hd
      refine qSv (.pointer (some ⟨gm, 2, none⟩)) (by go_simp) (qLk rfl rfl)
     ·intro vals w1 hb hd
      obtain ⟨e0, e1, e2, e3, e4⟩ := qbz (qab G_gm.out hb)
      rw [show vals 5 = .pointer (some ⟨gm, 2, none⟩) from hd 5 (by kernel_rfl)]
      refine qSv (.agg #[.bool sm, .slice om nm cm, .slice am mm dm]) (by go_simp) (qLk rfl rfl)
     ·intro vals w1 hb hd
      have d4 : KEq (.agg #[.bool sv, .slice ov nv cv_, .slice av mv dv]) (vals 4) w1 := hd 4 (by kernel_rfl)
      have d6 : KEq (.agg #[.bool sm, .slice om nm cm, .slice am mm dm]) (vals 6) w1 := hd 6 (by kernel_rfl)
      have HS := qHd (mulq_any _ xv _ m.r w1 ((IV.out.below hb).is LV.out) ((IM.out.below hb).is LM.out))
      have z4 : vals 4 = _ := d4
      rw [z4]; clear z4
      have z6 : vals 6 = _ := d6
      rw [z6]; clear z6
      refine qar (by go_simp; first | done | exact ⟨⟨rfl, rfl⟩, rfl⟩) ?_
      (with_reducible refine HS.out.mono ?_); rintro e w2 ⟨v, rfl, hb2, hn⟩
      exact ⟨v, rfl, qai hb2 hn (fun h => by cases h)⟩
     ·intro vals w1 hb hd
      obtain ⟨e0, e1, e2⟩ := row3 (qab (qab G_gq.out HB.out) hb)
      refine qSv (.agg #[.bool sq, .slice oq nq cq, .slice aq mq dq]) (by go_simp) (qLk rfl rfl)
     ·intro vals w1 hb hd
      have d7 : KIs (xv * m.r) (vals 7) w1 := hd 7 (by kernel_rfl)
      have hs := divq_any _ (xv * m.r) _ q w1 (IsR.is d7 LMU.out) (((IQ.out.below HB.out).below hb).is LQ.out)
      rw [HD.out, ← HSH.out] at hs
      have HS2 := qHd hs; clear hs
      rw [show vals 8 = .agg #[.bool sq, .slice oq nq cq, .slice aq mq dq] from hd 8 (by kernel_rfl)]
      refine qar (by go_simp; first | done | exact ⟨⟨rfl, rfl⟩, rfl⟩) ?_
      (with_reducible refine HS2.out.mono ?_); rintro e w2 ⟨v, rfl, hb2, hn⟩
      exact ⟨_, rfl, qai hb2 ⟨v, rfl, hn⟩ (fun h => by cases h)⟩
     ·intro vals w1 hb hd
      have d9 : KRE sh .nilIface (vals 9) w1 := hd 9 (by kernel_rfl)
      obtain ⟨b, eb, hq⟩ := d9
      rw [eb]
      refine qaf (v := .tuple #[b, .nilIface]) (w' := w1) (by go_simp) (qai (Below.refl _ _) ⟨b, rfl, hq⟩ (fun h => by cases h))
     ·intro vals w1 hb hd
      have d10 : KRE sh .nilIface (vals 10) w1 := hd 10 (by kernel_rfl)
      obtain ⟨b, eb, hq⟩ := d10
      rw [eb]
      refine qaf (v := b) (w' := w1) (by go_simp) (qai (Below.refl _ _) hq (fun h => by cases h))
     ·intro vals w1 hb hd
      have d10 : KRE sh .nilIface (vals 10) w1 := hd 10 (by kernel_rfl)
      obtain ⟨b, eb, hq⟩ := d10
      rw [eb]
      refine qbv (v := .nilIface) (fun w => by go_simp) (qLk rfl rfl)
     ·intro vals w1 hb hd
      refine qaf (v := .pointer (some ⟨w1.heap.size, 0, none⟩)) (w' := w1.alloc (.cells #[.bool false, .slice none 0 0, .slice none 0 0] 37)) (by go_simp) (qai ((Below.refl _ _).alloc (Nat.le_refl _) _) ⟨_, hb.size, rfl, heap_alloc_new _ _⟩ (fun _ => ⟨rfl, by simp⟩))
    case tlR6 =>
     intro vals w4 hb4 hf hdis
     simp only [List.drop_succ_cons, List.drop_zero]
     have z12 : vals 12 = _ := hf 12 (by decide)
     have hn : IsR w4 (vals 11) sh := hf 11 (by decide)
     obtain ⟨gs, hgs, ev, hzs⟩ : KNew w2.heap.size #[.bool false, .slice none 0 0, .slice none 0 0] 37 (vals 13) w4 := hf 13 (by decide)
     rw [z12, ev]
     obtain ⟨r, hr⟩ : ∃ r, r = vals 11 := ⟨_, rfl⟩
     rw [← hr] at hn ⊢
     clear z12 hf hdis hr ev
     obtain ⟨ss, os, ns, cs, as_, ms_, ds, rfl⟩ := hn.shape
     have hgm2 := qdc G_gm.out
     have hg32 := (HF.out.lt (g := g3) rfl).2
     have hWs := HB.out.size
     have HF := qHd (HF.out.below hb4); have G_gm := qHd (qab G_gm.out hb4); have IM := qHd (IM.out.below hb4)
     have HB := qHd (qac HB.out (Nat.le_refl _) hb4)
     have hn3 : g3 ≠ gs := by omega
     have hnm : gm ≠ gs := by omega
     have lgs : W.heap.size ≤ gs := by omega
     have hn3m : g3 ≠ gm := fun e => by have := HF.out; have h2 := qbe this; obtain ⟨cz, hcz, _⟩ := h2; rw [e, G_gm.out] at hcz; cases hcz
     clear hb4 CV IV hgm2 hg32 hWs hgs
     go_wp2_with (with_reducible refine qan ?_)
     refine qba gs 0 [.bool ss, .slice os ns cs, .slice as_ ms_ ds] hzs rfl rfl (Nat.le_of_ble_eq_true rfl) (by kernel_rfl) rfl ?_
     intro w5 hp5
     have GS := qHd (show w5.heap[gs]? = some (.cells #[.bool ss, .slice os ns cs, .slice as_ ms_ ds] 37) by rw [hp5]; exact putL_3q hzs)
     have st5 : Stp w4 w5 (some gs) := stp_putL hp5 hzs noW3
     have HF := qHd (HF.out.stp st5 (fun z hz e => by have h1 : g3 = z := Option.some.inj hz; have h2 : gs = z := Option.some.inj e; exact hn3 (by rw [h1, h2])))
     have G_gm := qHd (st5.heap G_gm.out (fun e => hnm (Option.some.inj e).symm))
     have IS := qHd (st5.I hn)
     have HB := qHd (st5.low HB.out HB.out.size lgs)
     have NM := qHd (show some g3 ≠ some gm from fun e => hn3m (Option.some.inj e)); have NS := qHd (show some g3 ≠ some gs from fun e => hn3 (Option.some.inj e))
     clear hp5 hzs st5 hn hn3 hnm hn3m lgs
     obtain ⟨F, hFe⟩ : ∃ F, F = qda (dnf dn) q x (ms.take k) x := ⟨_, rfl⟩
     rw [← hFe] at HF HNX HLF
     obtain ⟨sx, ox, nx, cx, ax, mx, dx, x0, x1, x2, hIx⟩ := HF.out.at ha1
     obtain ⟨sy, oy, ny, cy, ay, my, dy, y0, y1, y2, hIy⟩ := HF.out.at hb1
     have LX := qHd (show rl (F m.a) ≤ 100000 from Nat.le_trans (HLF.out m.a) (by decide)); have LY := qHd (show rl (F m.b) ≤ 100000 from Nat.le_trans (HLF.out m.b) (by decide))
     have HMV := qHd (moved_eq (F := F) (s := sh) hab)
     obtain ⟨xa, hxa⟩ : ∃ z0, z0 = F m.a := ⟨_, rfl⟩
     obtain ⟨ya, hya⟩ : ∃ z0, z0 = F m.b := ⟨_, rfl⟩
     rw [← hxa] at hIx LX HMV
     rw [← hya] at hIy LY HMV
     have HNX := qHd (show qda (dnf dn) q x (ms.take (k + 1)) x = moved F m.a m.b sh by rw [HNX.out]; rfl)
     have IX := qHd hIx; have IY := qHd hIy; have CX := qHd (And.intro x0 (And.intro x1 x2)); have CY := qHd (And.intro y0 (And.intro y1 y2))
     clear hIx hIy x0 x1 x2 y0 y1 y2 hxa hya hFe
     go_wp2_with (with_reducible first | refine qag ?_ | refine qah ?_ | refine qbb ?_ | refine qbc ?_ | refine qae ?_)
     refine qal.mk ?_
     have hM : ∀ j v w1 w2, Fl [KEq (.slice (some ⟨g3, 0, none⟩) n c3), KEq (.pointer (some ⟨gm, 0, none⟩)), KEq (.int .i64 (m.a : Nat)), KEq (.slice (some ⟨g3, 0, none⟩) n c3), KEq (.pointer (some ⟨gm, 1, none⟩)), KEq (.int .i64 (m.b : Nat)), KEq (.slice (some ⟨g3, 0, none⟩) n c3), KEq (.pointer (some ⟨gm, 0, none⟩)), KEq (.int .i64 (m.a : Nat)), KEq (.pointer (some ⟨g3, m.a * 3, none⟩)), KEq (.agg #[.bool sx, .slice ox nx cx, .slice ax mx dx]), KEq (.agg #[.bool ss, .slice os ns cs, .slice as_ ms_ ds]), KIs (xa - sh), KEq (.slice (some ⟨g3, 0, none⟩) n c3), KEq (.pointer (some ⟨gm, 1, none⟩)), KEq (.int .i64 (m.b : Nat)), KEq (.pointer (some ⟨g3, m.b * 3, none⟩)), KEq (.agg #[.bool sy, .slice oy ny cy, .slice ay my dy]), KEq (.agg #[.bool ss, .slice os ns cs, .slice as_ ms_ ds]), KIs (ya + sh), KEq (.pointer (some ⟨g3, m.a * 3, none⟩)), KAny] j v w1 → Below w1.heap.size w1 w2 → Fl [KEq (.slice (some ⟨g3, 0, none⟩) n c3), KEq (.pointer (some ⟨gm, 0, none⟩)), KEq (.int .i64 (m.a : Nat)), KEq (.slice (some ⟨g3, 0, none⟩) n c3), KEq (.pointer (some ⟨gm, 1, none⟩)), KEq (.int .i64 (m.b : Nat)), KEq (.slice (some ⟨g3, 0, none⟩) n c3), KEq (.pointer (some ⟨gm, 0, none⟩)), KEq (.int .i64 (m.a : Nat)), KEq (.pointer (some ⟨g3, m.a * 3, none⟩)), KEq (.agg #[.bool sx, .slice ox nx cx, .slice ax mx dx]), KEq (.agg #[.bool ss, .slice os ns cs, .slice as_ ms_ ds]), KIs (xa - sh), KEq (.slice (some ⟨g3, 0, none⟩) n c3), KEq (.pointer (some ⟨gm, 1, none⟩)), KEq (.int .i64 (m.b : Nat)), KEq (.pointer (some ⟨g3, m.b * 3, none⟩)), KEq (.agg #[.bool sy, .slice oy ny cy, .slice ay my dy]), KEq (.agg #[.bool ss, .slice os ns cs, .slice as_ ms_ ds]), KIs (ya + sh), KEq (.pointer (some ⟨g3, m.a * 3, none⟩)), KAny] j v w2 := qdk (qad (kEq _) (qad (kEq _) (qad (kEq _) (qad (kEq _) (qad (kEq _) (qad (kEq _) (qad (kEq _) (qad (kEq _) (qad (kEq _) (qad (kEq _) (qad (kEq _) (qad (kEq _) (qad (kIs _) (qad (kEq _) (qad (kEq _) (qad (kEq _) (qad (kEq _) (qad (kEq _) (qad (kEq _) (qad (kIs _) (qad (kEq _) (qad (kAny) qdj))))))))))))))))))))))
     obtain ⟨Ac, hAc⟩ : ∃ A : Bool → World → Prop, A = fun b w1 => if b then Stp w5 w1 (some g3) ∧ FrL w1 W.heap.size (.slice (some ⟨g3, 0, none⟩) n c3) n (updR F m.a (xa - sh)) else Below w5.heap.size w5 w1 := ⟨_, rfl⟩
     have HAS : ∀ b w1, Ac b w1 → Stp w5 w1 (some g3) := fun b w1 h => by
      rw [hAc] at h; cases b with
      | true => exact h.1
      | false => exact (Stp.refl w5 (some g3)).trans (qca h) (fun _ e => by cases e)
     have HAF : ∀ w1, Ac false w1 → Below w5.heap.size w5 w1 := fun w1 h => by rw [hAc] at h; exact h
     have HAM : ∀ b w1 w2, Ac b w1 → Below w1.heap.size w1 w2 → Ac b w2 := fun b w1 w2 h hb => by
      rw [hAc] at h ⊢; cases b with
      | true => exact ⟨h.1.trans (qca hb) (fun _ e => by cases e), h.2.below hb⟩
      | false => exact h.trans (hb.mono h.size)
     have surv : ∀ j u w1 w2, j ≠ 21 → Fl [KEq (.slice (some ⟨g3, 0, none⟩) n c3), KEq (.pointer (some ⟨gm, 0, none⟩)), KEq (.int .i64 (m.a : Nat)), KEq (.slice (some ⟨g3, 0, none⟩) n c3), KEq (.pointer (some ⟨gm, 1, none⟩)), KEq (.int .i64 (m.b : Nat)), KEq (.slice (some ⟨g3, 0, none⟩) n c3), KEq (.pointer (some ⟨gm, 0, none⟩)), KEq (.int .i64 (m.a : Nat)), KEq (.pointer (some ⟨g3, m.a * 3, none⟩)), KEq (.agg #[.bool sx, .slice ox nx cx, .slice ax mx dx]), KEq (.agg #[.bool ss, .slice os ns cs, .slice as_ ms_ ds]), KIs (xa - sh), KEq (.slice (some ⟨g3, 0, none⟩) n c3), KEq (.pointer (some ⟨gm, 1, none⟩)), KEq (.int .i64 (m.b : Nat)), KEq (.pointer (some ⟨g3, m.b * 3, none⟩)), KEq (.agg #[.bool sy, .slice oy ny cy, .slice ay my dy]), KEq (.agg #[.bool ss, .slice os ns cs, .slice as_ ms_ ds]), KIs (ya + sh), KEq (.pointer (some ⟨g3, m.a * 3, none⟩)), KAny] j u w1 → Stp w1 w2 (some g3) → Fl [KEq (.slice (some ⟨g3, 0, none⟩) n c3), KEq (.pointer (some ⟨gm, 0, none⟩)), KEq (.int .i64 (m.a : Nat)), KEq (.slice (some ⟨g3, 0, none⟩) n c3), KEq (.pointer (some ⟨gm, 1, none⟩)), KEq (.int .i64 (m.b : Nat)), KEq (.slice (some ⟨g3, 0, none⟩) n c3), KEq (.pointer (some ⟨gm, 0, none⟩)), KEq (.int .i64 (m.a : Nat)), KEq (.pointer (some ⟨g3, m.a * 3, none⟩)), KEq (.agg #[.bool sx, .slice ox nx cx, .slice ax mx dx]), KEq (.agg #[.bool ss, .slice os ns cs, .slice as_ ms_ ds]), KIs (xa - sh), KEq (.slice (some ⟨g3, 0, none⟩) n c3), KEq (.pointer (some ⟨gm, 1, none⟩)), KEq (.int .i64 (m.b : Nat)), KEq (.pointer (some ⟨g3, m.b * 3, none⟩)), KEq (.agg #[.bool sy, .slice oy ny cy, .slice ay my dy]), KEq (.agg #[.bool ss, .slice os ns cs, .slice as_ ms_ ds]), KIs (ya + sh), KEq (.pointer (some ⟨g3, m.a * 3, none⟩)), KAny] j u w2 := fun j u w1 w2 hj h hs => by
      match j, hj with
      | 0, _ => exact h
      | 1, _ => exact h
      | 2, _ => exact h
      | 3, _ => exact h
      | 4, _ => exact h
      | 5, _ => exact h
      | 6, _ => exact h
      | 7, _ => exact h
      | 8, _ => exact h
      | 9, _ => exact h
      | 10, _ => exact h
      | 11, _ => exact h
      | 12, _ => exact hs.I h
      | 13, _ => exact h
      | 14, _ => exact h
      | 15, _ => exact h
      | 16, _ => exact h
      | 17, _ => exact h
      | 18, _ => exact h
      | 19, _ => exact hs.I h
      | 20, _ => exact h
      | j + 22, _ => trivial
      | 21, hj => exact absurd rfl hj
     refine wp_region_factsH (A := ?aaR9) (w := w5) 22 [] (by kernel_rfl) (Fl [KEq (.slice (some ⟨g3, 0, none⟩) n c3), KEq (.pointer (some ⟨gm, 0, none⟩)), KEq (.int .i64 (m.a : Nat)), KEq (.slice (some ⟨g3, 0, none⟩) n c3), KEq (.pointer (some ⟨gm, 1, none⟩)), KEq (.int .i64 (m.b : Nat)), KEq (.slice (some ⟨g3, 0, none⟩) n c3), KEq (.pointer (some ⟨gm, 0, none⟩)), KEq (.int .i64 (m.a : Nat)), KEq (.pointer (some ⟨g3, m.a * 3, none⟩)), KEq (.agg #[.bool sx, .slice ox nx cx, .slice ax mx dx]), KEq (.agg #[.bool ss, .slice os ns cs, .slice as_ ms_ ds]), KIs (xa - sh), KEq (.slice (some ⟨g3, 0, none⟩) n c3), KEq (.pointer (some ⟨gm, 1, none⟩)), KEq (.int .i64 (m.b : Nat)), KEq (.pointer (some ⟨g3, m.b * 3, none⟩)), KEq (.agg #[.bool sy, .slice oy ny cy, .slice ay my dy]), KEq (.agg #[.bool ss, .slice os ns cs, .slice as_ ms_ ds]), KIs (ya + sh), KEq (.pointer (some ⟨g3, m.a * 3, none⟩)), KAny]) (fun i => false) Ac 21 (by decide) ?h0R9 (by kernel_rfl) ?hqR9 ?haR9 ?stR9 ?tlR9
     case h0R9 => rw [hAc]; exact (Below.refl _ _).drew
     case hqR9 =>
      intro c a d v w h
      first | (simp only [Exit.then] at h ⊢; exact h) | (simp only [Exit.inBlock, Exit.then] at h ⊢; exact h) | exact h
     case haR9 =>
      intro vals
      simp only [qat, qby, if_true, Act.put, List.setIfInBounds_toArray, List.set_cons_zero, List.set_cons_succ, List.getElem?_toArray, List.getElem?_cons_zero, List.getElem?_cons_succ, Option.bind_some]
      exact rfl
     case stR9 =>
      simp only [List.take_succ_cons, List.take_zero]
      refine qav rfl rfl ?_ (qav rfl rfl ?_ (qav rfl rfl ?_ (qav rfl rfl ?_ (qav rfl rfl ?_ (qav rfl rfl ?_ (qav rfl rfl ?_ (qav rfl rfl ?_ (qav rfl rfl ?_ (qav rfl rfl ?_ (qav rfl rfl ?_ (qav rfl rfl ?_ (qav rfl rfl ?_ (qav rfl rfl ?_ (qav rfl rfl ?_ (qav rfl rfl ?_ (qav rfl rfl ?_ (qav rfl rfl ?_ (qav rfl rfl ?_ (qav rfl rfl ?_ (qav rfl rfl ?_ (stepsOKH_store rfl ?_ (stepsOKH_nil))))))))))))))))))))))
      ·intro vals w1 b hsp hac hd
       refine qaf (v := .slice (some ⟨g3, 0, none⟩) n c3) (w' := w1) (by go_simp) (qLg hM HAM (by decide) hac rfl rfl)
      ·intro vals w1 b hsp hac hd
       refine qaf (v := .pointer (some ⟨gm, 0, none⟩)) (w' := w1) (by go_simp) (qLg hM HAM (by decide) hac rfl rfl)
      ·intro vals w1 b hsp hac hd
       obtain ⟨e0, e1, e2, e3, e4⟩ := qbz ((HAS b w1 hac).heap G_gm.out NM.out)
       rw [show vals 1 = .pointer (some ⟨gm, 0, none⟩) from hd 1 (by kernel_rfl)]
       refine qaf (v := .int .i64 (m.a : Nat)) (w' := w1) (by go_simp) (qLg hM HAM (by decide) hac rfl rfl)
      ·intro vals w1 b hsp hac hd
       refine qaf (v := .slice (some ⟨g3, 0, none⟩) n c3) (w' := w1) (by go_simp) (qLg hM HAM (by decide) hac rfl rfl)
      ·intro vals w1 b hsp hac hd
       refine qaf (v := .pointer (some ⟨gm, 1, none⟩)) (w' := w1) (by go_simp) (qLg hM HAM (by decide) hac rfl rfl)
      ·intro vals w1 b hsp hac hd
       obtain ⟨e0, e1, e2, e3, e4⟩ := qbz ((HAS b w1 hac).heap G_gm.out NM.out)
       rw [show vals 4 = .pointer (some ⟨gm, 1, none⟩) from hd 4 (by kernel_rfl)]
       refine qaf (v := .int .i64 (m.b : Nat)) (w' := w1) (by go_simp) (qLg hM HAM (by decide) hac rfl rfl)
      ·intro vals w1 b hsp hac hd
       refine qaf (v := .slice (some ⟨g3, 0, none⟩) n c3) (w' := w1) (by go_simp) (qLg hM HAM (by decide) hac rfl rfl)
      ·intro vals w1 b hsp hac hd
       refine qaf (v := .pointer (some ⟨gm, 0, none⟩)) (w' := w1) (by go_simp) (qLg hM HAM (by decide) hac rfl rfl)
      ·intro vals w1 b hsp hac hd
       obtain ⟨e0, e1, e2, e3, e4⟩ := qbz ((HAS b w1 hac).heap G_gm.out NM.out)
       rw [show vals 7 = .pointer (some ⟨gm, 0, none⟩) from hd 7 (by kernel_rfl)]
       refine qaf (v := .int .i64 (m.a : Nat)) (w' := w1) (by go_simp) (qLg hM HAM (by decide) hac rfl rfl)
      ·intro vals w1 b hsp hac hd
       have haz := HA.out
       rw [show vals 6 = .slice (some ⟨g3, 0, none⟩) n c3 from hd 6 (by kernel_rfl)]
       rw [show vals 8 = .int .i64 (m.a : Nat) from hd 8 (by kernel_rfl)]
       refine qaf (v := .pointer (some ⟨g3, m.a * 3, none⟩)) (w' := w1) (by go_simp) (qLg hM HAM (by decide) hac rfl rfl)
      ·intro vals w1 b hsp hac hd
       obtain rfl : b = false := hsp (.inr (by kernel_rfl))
       have hb := HAF w1 hac
       obtain ⟨e0, e1, e2⟩ := qax CX.out hb
       rw [show vals 9 = .pointer (some ⟨g3, m.a * 3, none⟩) from hd 9 (by kernel_rfl)]
       refine qaf (v := .agg #[.bool sx, .slice ox nx cx, .slice ax mx dx]) (w' := w1) (by go_simp) (qLg hM HAM (by decide) hac rfl rfl)
      ·intro vals w1 b hsp hac hd
       obtain ⟨e0, e1, e2⟩ := row3 ((HAS b w1 hac).heap GS.out NS.out)
       refine qaf (v := .agg #[.bool ss, .slice os ns cs, .slice as_ ms_ ds]) (w' := w1) (by go_simp) (qLg hM HAM (by decide) hac rfl rfl)
      ·intro vals w1 b hsp hac hd
       have d10 : KEq (.agg #[.bool sx, .slice ox nx cx, .slice ax mx dx]) (vals 10) w1 := hd 10 (by kernel_rfl)
       have d11 : KEq (.agg #[.bool ss, .slice os ns cs, .slice as_ ms_ ds]) (vals 11) w1 := hd 11 (by kernel_rfl)
       obtain rfl : b = false := hsp (.inr (by kernel_rfl))
       have hb := HAF w1 hac
       have HS2 := qHd (subq_any _ xa _ sh w1 ((IX.out.below hb).is LX.out) ((IS.out.below hb).is LS.out))
       rw [show vals 10 = _ from d10, show vals 11 = _ from d11]
       refine qar (by go_simp; first | done | exact ⟨⟨rfl, rfl⟩, rfl⟩) ?_
       (with_reducible refine HS2.out.mono ?_); rintro e w2 ⟨v, rfl, hb2, hn⟩
       exact ⟨v, rfl, leavesG_mk hM HAM (by decide) hac hb2 hn (fun h => by cases h)⟩
      ·intro vals w1 b hsp hac hd
       refine qaf (v := .slice (some ⟨g3, 0, none⟩) n c3) (w' := w1) (by go_simp) (qLg hM HAM (by decide) hac rfl rfl)
      ·intro vals w1 b hsp hac hd
       refine qaf (v := .pointer (some ⟨gm, 1, none⟩)) (w' := w1) (by go_simp) (qLg hM HAM (by decide) hac rfl rfl)
      ·intro vals w1 b hsp hac hd
       obtain ⟨e0, e1, e2, e3, e4⟩ := qbz ((HAS b w1 hac).heap G_gm.out NM.out)
       rw [show vals 14 = .pointer (some ⟨gm, 1, none⟩) from hd 14 (by kernel_rfl)]
       refine qaf (v := .int .i64 (m.b : Nat)) (w' := w1) (by go_simp) (qLg hM HAM (by decide) hac rfl rfl)
      ·intro vals w1 b hsp hac hd
       have hbz := HBB.out
       rw [show vals 13 = .slice (some ⟨g3, 0, none⟩) n c3 from hd 13 (by kernel_rfl)]
       rw [show vals 15 = .int .i64 (m.b : Nat) from hd 15 (by kernel_rfl)]
       refine qaf (v := .pointer (some ⟨g3, m.b * 3, none⟩)) (w' := w1) (by go_simp) (qLg hM HAM (by decide) hac rfl rfl)
      ·intro vals w1 b hsp hac hd
       obtain rfl : b = false := hsp (.inr (by kernel_rfl))
       have hb := HAF w1 hac
       obtain ⟨e0, e1, e2⟩ := qax CY.out hb
       rw [show vals 16 = .pointer (some ⟨g3, m.b * 3, none⟩) from hd 16 (by kernel_rfl)]
       refine qaf (v := .agg #[.bool sy, .slice oy ny cy, .slice ay my dy]) (w' := w1) (by go_simp) (qLg hM HAM (by decide) hac rfl rfl)
      ·intro vals w1 b hsp hac hd
       obtain ⟨e0, e1, e2⟩ := row3 ((HAS b w1 hac).heap GS.out NS.out)
       refine qaf (v := .agg #[.bool ss, .slice os ns cs, .slice as_ ms_ ds]) (w' := w1) (by go_simp) (qLg hM HAM (by decide) hac rfl rfl)
      ·intro vals w1 b hsp hac hd
       have d17 : KEq (.agg #[.bool sy, .slice oy ny cy, .slice ay my dy]) (vals 17) w1 := hd 17 (by kernel_rfl)
       have d18 : KEq (.agg #[.bool ss, .slice os ns cs, .slice as_ ms_ ds]) (vals 18) w1 := hd 18 (by kernel_rfl)
       obtain rfl : b = false := hsp (.inr (by kernel_rfl))
       have hb := HAF w1 hac
       have HS2 := qHd (qcz _ ya _ sh w1 ((IY.out.below hb).is LY.out) ((IS.out.below hb).is LS.out))
       rw [show vals 17 = _ from d17, show vals 18 = _ from d18]
       refine qar (by go_simp; first | done | exact ⟨⟨rfl, rfl⟩, rfl⟩) ?_
       (with_reducible refine HS2.out.mono ?_); rintro e w2 ⟨v, rfl, hb2, hn⟩
       exact ⟨v, rfl, leavesG_mk hM HAM (by decide) hac hb2 hn (fun h => by cases h)⟩
      ·intro vals w1 b hsp hac hd
       have haz := HA.out
       rw [show vals 0 = .slice (some ⟨g3, 0, none⟩) n c3 from hd 0 (by kernel_rfl)]
       rw [show vals 2 = .int .i64 (m.a : Nat) from hd 2 (by kernel_rfl)]
       refine qaf (v := .pointer (some ⟨g3, m.a * 3, none⟩)) (w' := w1) (by go_simp) (qLg hM HAM (by decide) hac rfl rfl)
      ·intro vals w1 b hsp hac hd
       have d12 : KIs (xa - sh) (vals 12) w1 := hd 12 (by kernel_rfl)
       have d20 : KEq (.pointer (some ⟨g3, m.a * 3, none⟩)) (vals 20) w1 := hd 20 (by kernel_rfl)
       obtain rfl : b = false := hsp (.inl rfl)
       have hbl := HAF w1 hac
       have hn : IsR w1 (vals 12) (xa - sh) := d12
       obtain ⟨sz, oz, nz, cz, az, mz, dz, ez⟩ := hn.shape
       rw [ez] at hn
       rw [show vals 20 = _ from d20, ez]
       obtain ⟨cs, hcs, hsz⟩ := qbe (HF.out.below hbl)
       refine stepSk_store rfl _ _ _ rfl g3 (m.a * 3) [.bool sz, .slice oz nz cz, .slice az mz dz] hcs rfl rfl (by simp only [List.length_cons, List.length_nil]; omega) (by kernel_rfl) rfl ?_
       obtain ⟨hX, hSt⟩ := (HF.out.below hbl).put HAN.out hn rfl
       exact ⟨hSt.gr.size, fun j u hj hF => surv j u w1 _ hj hF hSt, by rw [hAc]; exact ⟨(qca hbl).trans0 hSt, hX⟩, trivial, fun h => by cases h⟩
     case tlR9 =>
      intro vals w6 hA6 hf hdis
      simp only [List.drop_succ_cons, List.drop_zero]
      have z3 : vals 3 = _ := hf 3 (by decide); have z5 : vals 5 = _ := hf 5 (by decide)
      have hn : IsR w6 (vals 19) (ya + sh) := hf 19 (by decide)
      rw [z3, z5]
      obtain ⟨r, hr⟩ : ∃ r, r = vals 19 := ⟨_, rfl⟩
      rw [← hr] at hn ⊢
      rw [hAc] at hA6
      obtain ⟨hst6, hF6⟩ : Stp w5 w6 (some g3) ∧ FrL w6 W.heap.size (.slice (some ⟨g3, 0, none⟩) n c3) n (updR F m.a (xa - sh)) := hA6
      clear z3 z5 hf hdis hr surv HAM HAF HAS hAc hM Ac
      obtain ⟨sz, oz, nz, cz, az, mz, dz, rfl⟩ := hn.shape
      have HF6 := qHd hF6; have IZ := qHd hn
      have HB := qHd (hst6.low HB.out HB.out.size l3)
      clear hst6 hF6 hn CX CY IX IY IS GS
      have hbz := HBB.out
      obtain ⟨cs2, hcs2, hsz2⟩ := qbe HF6.out
      go_wp2_with (with_reducible refine qan ?_)
      refine qba g3 (m.b * 3) [.bool sz, .slice oz nz cz, .slice az mz dz] hcs2 rfl rfl (by simp only [List.length_cons, List.length_nil]; omega) (by kernel_rfl) rfl ?_
      intro wz hpz
      obtain ⟨hX, hSt⟩ := HF6.out.put hb1 IZ.out hpz
      have HFZ := qHd (show FrL wz W.heap.size (.slice (some ⟨g3, 0, none⟩) n c3) n (qda (dnf dn) q x (ms.take (k + 1)) x) by rw [HNX.out, ← HMV.out]; exact hX)
      have HB := qHd (hSt.low HB.out HB.out.size l3)
      clear hX hSt hpz hcs2 hsz2 IZ
      go_wp2_with fail
      go_roundw
      case rel => exact ⟨k + 1, by omega, by go_num, HFZ, HB⟩
      case measure => simp [intOf]; omega
   ·have HE := qHd (show qda (dnf dn) q x (ms.take (k + 1)) x = qda (dnf dn) q x (ms.take k) x by rw [HNX.out]; rfl)
    go_wp2_with fail
    rw [← hw2]
    go_roundw
    case rel => exact ⟨k + 1, by omega, by go_num, qHd (by rw [HE.out]; exact HF.out), HB⟩
    case measure => simp [intOf]; omega
  ·have hk' : k = ms.length := by omega
   subst hk'
   go_wp2_with fail
   go_ret2
   exact ⟨_, rfl, HBW.out.trans (HB.out.mono HBW.out.size), (HF.out.congr (fun j _ => by rw [List.take_length])).base HBW.out.size⟩
structure Rows (w : World) (B : Nat) (v0 : Value) (m : Nat) (V : Nat → Value) (n : Nat) (X : Nat → Nat → Rat) : Prop where
 out : qbm w B 28 1 v0 m ((List.range m).map V)
 row : ∀ i, i < m → FrL w B (V i) n (X i)
 ne0 : ∀ i, i < m → ∀ g, v0.ownBlock = some g → (V i).ownBlock ≠ some g
theorem Rows.below {w w' : World} {B m n : Nat} {v0 : Value} {V : Nat → Value} {X : Nat → Nat → Rat} (h : Rows w B v0 m V n X) (hb : Below w.heap.size w w') : Rows w' B v0 m V n X :=
 ⟨h.out.kept (below_gr hb) (fun _ _ e => by cases e), fun i hi => (h.row i hi).below hb, h.ne0⟩
theorem range_snoc (V : Nat → Value) (m : Nat) (v : Value) : (List.range (m + 1)).map (updV V m v) = (List.range m).map V ++ [v] := by
 rw [List.range_succ, List.map_append, List.map_cons, List.map_nil]
 congr 1
 ·refine List.map_congr_left fun i hi => ?_
  have := List.mem_range.1 hi
  unfold updV; rw [if_neg (by omega)]
 ·unfold updV; rw [if_pos rfl]
theorem Rows.app {w w' : World} {B m n : Nat} {v0 v0' : Value} {V : Nat → Value} {X : Nat → Nat → Rat} {o : Option Addr} {c : Nat} (h : Rows w B v0 m V n X) (hr : FrL w B (.slice o n c) n (X m)) (hne : ∀ g, v0.ownBlock = some g → (Value.slice o n c).ownBlock ≠ some g)
  (h' : qbm w' B 28 1 v0' (m + 1) ((List.range m).map V ++ [.slice o n c])) (hs : Stp w w' v0.ownBlock) (hf : ∀ g, g < w.heap.size → v0.ownBlock ≠ some g → v0'.ownBlock ≠ some g) : Rows w' B v0' (m + 1) (updV V m (.slice o n c)) n X := by
 refine ⟨by rw [range_snoc]; exact h', fun i hi => ?_, fun i hi g hg => ?_⟩
 ·unfold updV
  by_cases e : i = m
  ·subst e; rw [if_pos rfl]; exact hr.stp hs (fun g hg q => hne g q hg)
  ·rw [if_neg e]; exact (h.row i (by omega)).stp hs (fun g hg q => h.ne0 i (by omega) g q hg)
 ·unfold updV
  by_cases e : i = m
  ·subst e; rw [if_pos rfl]
   intro hb
   exact hf g (hr.lt hb).2 (fun q => hne g q hb) hg
  ·rw [if_neg e]
   intro hb
   exact hf g ((h.row i (by omega)).lt hb).2 (fun q => h.ne0 i (by omega) g q hb) hg
theorem Tryz.rowsTyL : qcl Tryz.prog 72 28 (.slice none 0 0) 1 24 := .mk' Tryz.underlying72 (by kernel_rfl)
def RetRows (w : World) (m n : Nat) (X : Nat → Nat → Rat) (e : Ending) (w' : World) : Prop := ∃ v V, e = .returned (.tuple #[v, .nilIface]) ∧ Below w.heap.size w w' ∧ Rows w' w.heap.size v m V n X
theorem Rows.base {w : World} {B B' m n : Nat} {v0 : Value} {V : Nat → Value} {X : Nat → Nat → Rat} (h : Rows w B v0 m V n X) (hB : B' ≤ B) : Rows w B' v0 m V n X :=
 ⟨⟨qcr h.out.1 hB, h.out.2⟩, fun i hi => (h.row i hi).base hB, h.ne0⟩
theorem run54 (vc vq : Value) (n s0 : Nat) (ms : List Mv) (dn : List Bool) (f : Rat) (K : Nat) (w : World) (hc : ChI w vc n s0 ms dn) (hg : GCh n s0 ms dn) (hf : qcj n ms f) (hq : IsR w vq (f + 1)) (hK : K ≤ 7) :
  Calls Tryz.prog 50 #[vc, vq, .int .i64 (K : Nat), .bool true] w (RetRows w (K + 1) n (qbp (dnf dn) (f + 1) ms s0)) := by
 have HC := qHd hc
 obtain ⟨mo, mc, bo, bc, rfl, hM, hB, hmc, hbc⟩ := hc
 have HG := qHd hg
 have hn10 := hg.n10
 have hn0 := hg.n0
 have hl60 := hg.sm.len
 have HDL := qHd hg.dl
 clear hg
 clear hM hB
 have HF := qHd hf
 obtain ⟨sq, oq, nq, cq, aq, mq, dq, rfl⟩ := hq.shape
 have IQ := qHd hq; clear hq hf
 have hk0 : ¬ (((K : Nat) : Int) < 0) := by omega
 have hk48 : ¬ ((48 : Int) < ((K : Nat) : Int)) := by omega
 obtain ⟨Wb0, hWb0⟩ : ∃ z0, z0 = w.alloc (.cells #[.int .i64 n, .int .i64 s0, .slice mo ms.length mc, .slice bo dn.length bc] 25) := ⟨_, rfl⟩
 have b_Wb0 : Below w.heap.size w Wb0 := by rw [hWb0]; exact qBA _ _
 have s_Wb0 : Wb0.heap.size = w.heap.size + 1 := by rw [hWb0]; exact Array.size_push (xs := w.heap) _
 obtain ⟨W, hW⟩ : ∃ z0, z0 = Wb0.alloc (.cells #[.bool sq, .slice oq nq cq, .slice aq mq dq] 37) := ⟨_, rfl⟩
 have b_W : Below Wb0.heap.size Wb0 W := by rw [hW]; exact qBA _ _
 have s_W : W.heap.size = w.heap.size + 1 + 1 := by rw [hW]; rw [← s_Wb0]; exact Array.size_push (xs := Wb0.heap) _
 have hg_gc : W.heap[w.heap.size]? = some (.cells #[.int .i64 n, .int .i64 s0, .slice mo ms.length mc, .slice bo dn.length bc] 25) := (qab (by rw [hWb0]; exact heap_alloc_new w _) b_W)
 have hg_gq : W.heap[w.heap.size + 1]? = some (.cells #[.bool sq, .slice oq nq cq, .slice aq mq dq] 37) := (by rw [← s_Wb0]; rw [hW]; exact heap_alloc_new Wb0 _)
 have HBW := qHd (show Below w.heap.size w W from (b_Wb0.trans (b_W.mono (by rw [s_Wb0]; omega))))
 obtain ⟨gc, hgc⟩ : ∃ g, g = w.heap.size := ⟨_, rfl⟩
 rw [← hgc] at hg_gc
 have l_gc : w.heap.size ≤ gc ∧ gc < W.heap.size := by rw [s_W]; omega
 obtain ⟨gq, hgq⟩ : ∃ g, g = w.heap.size + 1 := ⟨_, rfl⟩
 rw [← hgq] at hg_gq
 have l_gq : w.heap.size ≤ gq ∧ gq < W.heap.size := by rw [s_W]; omega
 have G_gc := qHd hg_gc
 have G_gq := qHd hg_gq
 obtain ⟨gcx0, gcx1, gcx2, gcx3⟩ := qbn hg_gc
 rw [hW, hWb0, hgc] at gcx0 gcx1 gcx2 gcx3
 obtain ⟨gqx0, gqx1, gqx2⟩ := row3 hg_gq
 rw [hW, hWb0, hgq] at gqx0 gqx1 gqx2
 clear hg_gc hg_gq b_Wb0 b_W s_Wb0 s_W
 have IQ := qHd (IQ.out.below HBW.out); have HC := qHd (HC.out.below HBW.out)
 have HK := qHd (tcheck54 _ _ n s0 ms dn f W HC.out HG.out HF.out IQ.out)
 go_enter Tryz.func50, Tryz.ntmps50
 go_wp2_with (with_reducible refine qag ?_)
 rw [← hWb0, ← hW, ← hgq, ← hgc]
 clear hWb0 hW hgc hgq
 clear gcx0 gcx1 gcx2 gcx3 gqx0 gqx1 gqx2
 refine qal.mk ?_
 (with_reducible refine HK.out.mono ?_); rintro e w1 ⟨rfl, hb1⟩
 have HB := qHd hb1; clear hb1 HK
 obtain ⟨gcx0, gcx1, gcx2, gcx3⟩ := qbn (qab G_gc.out HB.out)
 have HK := qHd (start_any _ n s0 ms dn w1 (HC.out.below HB.out) HG.out)
 go_wp2_with (with_reducible refine qag ?_)
 clear gcx0 gcx1 gcx2 gcx3
 refine qal.mk ?_
 (with_reducible refine HK.out.mono ?_); rintro e w2 ⟨v2, rfl, hb2, hF2⟩
 obtain ⟨gv, cv, rfl, hcv, hcv2, lv, hgv⟩ := hF2.addr hn0
 have hWl : W.heap.size ≤ w1.heap.size := HB.out.size
 have HB := qHd (qac HB.out (Nat.le_refl _) hb2)
 have HV := qHd (show FrL w2 W.heap.size (.slice (some ⟨gv, 0, none⟩) n cv) n ((qbp (dnf dn) (f + 1) ms s0) 0) from hF2.base hWl)
 clear hF2 hb2 HK hWl
 obtain ⟨w3, hw3, hb3, hx3⟩ := qBx3 w2 (.cells #[.slice (some ⟨gv, 0, none⟩) n cv] 28)
 obtain ⟨go, hgo⟩ : ∃ g, g = w2.heap.size := ⟨_, rfl⟩
 have lo : W.heap.size ≤ go := by rw [hgo]; exact HB.out.size
 have nvo : gv ≠ go := by omega
 rw [← hgo] at hx3
 go_wp2_with (with_reducible first | refine qah ?_ | refine qae ?_)
 rw [← hw3, ← hgo]
 clear hw3 hgo
 refine qal.mk ?_
 have HV := qHd (HV.out.below hb3); have HB := qHd (qac HB.out (Nat.le_refl _) hb3)
 have RW := qHd (show Rows w3 W.heap.size (.slice (some ⟨go, 0, none⟩) 1 1) (0 + 1) (fun _ => .slice (some ⟨gv, 0, none⟩) n cv) n (qbp (dnf dn) (f + 1) ms s0) from
  ⟨⟨⟨by simp, .inr ⟨go, 1, _, rfl, lo, hx3, Nat.le_refl _, by unfold maxLen; omega, by simp, by simp⟩⟩, fun g cur hg hc => by
   simp only [Value.ownBlock, Option.some.injEq] at hg
   subst hg
   rw [hx3] at hc
   cases hc
   exact noU1⟩, fun i hi => by rw [show i = 0 by omega]; exact HV.out, fun i hi g hg e => by
   have h1 : go = g := Option.some.inj hg
   have h2 : gv = g := Option.some.inj e
   omega⟩)
 clear hb3 hx3
 go_loopw [38, 11, 13] (fun i' vv ov wx => ∃ (j gv cv : Nat) (oo : Option Addr) (oc : Nat) (V : Nat → Value), j ≤ K ∧ i' = .int .i64 j ∧ vv = .slice (some ⟨gv, 0, none⟩) n cv ∧ ov = .slice oo (j + 1) oc ∧ (n ≤ cv ∧ cv ≤ 9223372036854775807) ∧ Hid (FrL wx W.heap.size (.slice (some ⟨gv, 0, none⟩) n cv) n ((qbp (dnf dn) (f + 1) ms s0) j)) ∧ Hid (Rows wx W.heap.size (.slice oo (j + 1) oc) (j + 1) V n (qbp (dnf dn) (f + 1) ms s0)) ∧ Hid (Below W.heap.size W wx)) (fun i' _ _ _ => K - (intOf i').toNat)
 case atStart => exact ⟨0, gv, cv, some ⟨go, 0, none⟩, 1, _, Nat.zero_le _, rfl, rfl, rfl, ⟨hcv, hcv2⟩, HV, RW, HB⟩
 case round =>
  obtain ⟨j, gv, cv, oo, oc, V, hj, rfl, rfl, rfl, hcc, HV, RW, HB⟩ := hrel
  obtain ⟨wo, rfl⟩ : ∃ wo : World, wo = wr := ⟨_, rfl⟩
  by_cases hlt : j < K
  ·have hltz : (j : Int) < (K : Int) := by omega
   have hq0 : f + 1 ≠ 0 := by have := HF.out.nonneg HG.out.sm; grind
   have HK := qHd (tstep54 _ _ n s0 ms dn gv cv _ ((qbp (dnf dn) (f + 1) ms s0) j) (f + 1) wo (HC.out.below HB.out) HG.out HV.out hcc (IQ.out.below HB.out) hq0 (HF.out.rl1 HG.out.sm)
    (fun i _ => Nat.le_trans (dist_rl HG.out.ok HG.out.sm HF.out (show j ≤ 8 by omega) i) (by decide))
    (fun m hm => ⟨Nat.le_trans (share_rl HG.out.ok HG.out.sm HF.out (show j ≤ 7 by omega) hm).1 (by decide), Nat.le_trans (share_rl HG.out.ok HG.out.sm HF.out (show j ≤ 7 by omega) hm).2 (by decide)⟩)
    (fun t i => Nat.le_trans (step_rl HG.out.ok HG.out.sm HF.out (show j ≤ 7 by omega) t i) (by decide)))
   clear hq0
   obtain ⟨gcx0, gcx1, gcx2, gcx3⟩ := qbn (qab G_gc.out HB.out)
   obtain ⟨gqx0, gqx1, gqx2⟩ := row3 (qab G_gq.out HB.out)
   go_wp2_with (with_reducible refine qag ?_)
   clear gcx0 gcx1 gcx2 gcx3 gqx0 gqx1 gqx2
   refine qal.mk ?_
   (with_reducible refine HK.out.mono ?_); rintro e w4 ⟨v4, rfl, hb4, hF4⟩
   obtain ⟨g4, c4, rfl, hc4, hc42, l4, hg4⟩ := hF4.addr hn0
   have hoS := fun g (hg : (Value.slice oo (j + 1) oc).ownBlock = some g) => (World.ownsRow.lt RW.out.out.1 g hg).2
   have NE := qHd (show ∀ g, (Value.slice oo (j + 1) oc).ownBlock = some g → (Value.slice (some ⟨g4, 0, none⟩) n c4).ownBlock ≠ some g from fun g hg e => by
    have h1 := hoS g hg
    have h2 : g4 = g := Option.some.inj e
    omega)
   have HV4 := qHd (show FrL w4 W.heap.size (.slice (some ⟨g4, 0, none⟩) n c4) n ((qbp (dnf dn) (f + 1) ms s0) (j + 1)) from hF4.base HB.out.size)
   have RW := qHd (RW.out.below hb4); have HB := qHd (qac HB.out (Nat.le_refl _) hb4)
   clear hF4 hb4 HK hoS hg4 l4
   go_wp2_with (with_reducible refine qbf ?_)
   obtain ⟨w5, hw5, hb5, hx5⟩ := qBx3 w4 (.cells #[.slice (some ⟨g4, 0, none⟩) n c4] 28)
   rw [← hw5]
   have RW := qHd (RW.out.below hb5); have HV4 := qHd (HV4.out.below hb5); have HB := qHd (qac HB.out (Nat.le_refl _) hb5)
   clear hb5 hw5
   refine qbo W.heap.size Tryz.rowsTyL rfl noU1 (by decide) _ (j + 1) _ [.slice (some ⟨g4, 0, none⟩) n c4] w4.heap.size 28 rfl rfl RW.out.out hx5 rfl rfl noU1 RW.out.out.noU (by omega) (by decide) HB.out.size ?_
   intro v' w6 ho6 hg6 hfr
   have hSt := stp_own RW.out.out hg6
   have hr6 := RW.out.app HV4.out NE.out ho6 hSt hfr
   obtain ⟨o6, c6, rfl, hc6, hc62, _⟩ := qbd ho6.1
   have HV := qHd (HV4.out.stp hSt (fun g hg e => NE.out g e hg))
   have hob := fun g (hg : (Value.slice oo (j + 1) oc).ownBlock = some g) => (World.ownsRow.lt RW.out.out.1 g hg).1
   have HB := qHd (hSt.low' HB.out HB.out.size hob)
   have RW := qHd hr6
   clear ho6 hg6 hfr hSt hr6 hob hx5
   go_wp2_with fail
   go_roundw
   case rel => exact ⟨j + 1, g4, c4, o6, c6, _, by omega, by go_num, rfl, by go_num, ⟨hc4, hc42⟩, HV, RW, HB⟩
   case measure => simp [intOf]; omega
  ·have hk' : j = K := by omega
   subst hk'
   go_wp2_with fail
   go_ret2
   exact ⟨_, V, rfl, HBW.out.trans (HB.out.mono HBW.out.size), RW.out.base HBW.out.size⟩
theorem Rows.at {w : World} {B m n c : Nat} {ao : Option Addr} {V : Nat → Value} {X : Nat → Nat → Rat} (h : Rows w B (.slice ao m c) m V n X) {i : Nat} (hi : i < m) (hn : 0 < n) :
  ∃ g0 g c', ao = some ⟨g0, 0, none⟩ ∧ n ≤ c' ∧ c' ≤ 9223372036854775807 ∧ w.cell? ⟨g0, i, none⟩ = some (.slice (some ⟨g, 0, none⟩) n c') ∧ FrL w B (.slice (some ⟨g, 0, none⟩) n c') n (X i) := by
 have hr := h.row i hi
 obtain ⟨g, c', e, h1, h2, h3, h4⟩ := hr.addr hn
 obtain ⟨g0, e0, _, _, _, _, hc⟩ := qbi h.out.1 rfl (by omega)
 have hci := hc i _ (map_at hi)
 rw [e] at hci hr
 exact ⟨g0, g, c', e0, h1, h2, hci, hr⟩
theorem downs54 (vc vq : Value) (n s0 : Nat) (ms : List Mv) (dn : List Bool) (f : Rat) (K : Nat) (w : World) (hc : ChI w vc n s0 ms dn) (hg : GCh n s0 ms dn) (hf : qcj n ms f) (hq : IsR w vq (f + 1)) (hK : K ≤ 7) :
  Calls Tryz.prog 30 #[vc, vq, .int .i64 (K : Nat), .bool true] w (RetFrE w (K + 1) (fun k => failed (dnf dn) ((qbp (dnf dn) (f + 1) ms s0) k) n)) := by
 have HC := qHd hc
 obtain ⟨mo, mc, bo, bc, rfl, hM, hB, hmc, hbc⟩ := hc
 have HG := qHd hg
 have hn10 := hg.n10
 have hn0 := hg.n0
 have hl60 := hg.sm.len
 have HDL := qHd hg.dl
 clear hg
 clear hM
 have HF := qHd hf
 obtain ⟨sq, oq, nq, cq, aq, mq, dq, rfl⟩ := hq.shape
 have IQ := qHd hq; clear hq hf
 obtain ⟨Wb0, hWb0⟩ : ∃ z0, z0 = w.alloc (.cells #[.int .i64 n, .int .i64 s0, .slice mo ms.length mc, .slice bo dn.length bc] 25) := ⟨_, rfl⟩
 have b_Wb0 : Below w.heap.size w Wb0 := by rw [hWb0]; exact qBA _ _
 have s_Wb0 : Wb0.heap.size = w.heap.size + 1 := by rw [hWb0]; exact Array.size_push (xs := w.heap) _
 obtain ⟨W, hW⟩ : ∃ z0, z0 = Wb0.alloc (.cells #[.bool sq, .slice oq nq cq, .slice aq mq dq] 37) := ⟨_, rfl⟩
 have b_W : Below Wb0.heap.size Wb0 W := by rw [hW]; exact qBA _ _
 have s_W : W.heap.size = w.heap.size + 1 + 1 := by rw [hW]; rw [← s_Wb0]; exact Array.size_push (xs := Wb0.heap) _
 have hg_gc : W.heap[w.heap.size]? = some (.cells #[.int .i64 n, .int .i64 s0, .slice mo ms.length mc, .slice bo dn.length bc] 25) := (qab (by rw [hWb0]; exact heap_alloc_new w _) b_W)
 have hg_gq : W.heap[w.heap.size + 1]? = some (.cells #[.bool sq, .slice oq nq cq, .slice aq mq dq] 37) := (by rw [← s_Wb0]; rw [hW]; exact heap_alloc_new Wb0 _)
 have HBW := qHd (show Below w.heap.size w W from (b_Wb0.trans (b_W.mono (by rw [s_Wb0]; omega))))
 obtain ⟨gc, hgc⟩ : ∃ g, g = w.heap.size := ⟨_, rfl⟩
 rw [← hgc] at hg_gc
 have l_gc : w.heap.size ≤ gc ∧ gc < W.heap.size := by rw [s_W]; omega
 obtain ⟨gq, hgq⟩ : ∃ g, g = w.heap.size + 1 := ⟨_, rfl⟩
 rw [← hgq] at hg_gq
 have l_gq : w.heap.size ≤ gq ∧ gq < W.heap.size := by rw [s_W]; omega
 have G_gc := qHd hg_gc
 have G_gq := qHd hg_gq
 obtain ⟨gcx0, gcx1, gcx2, gcx3⟩ := qbn hg_gc
 rw [hW, hWb0, hgc] at gcx0 gcx1 gcx2 gcx3
 obtain ⟨gqx0, gqx1, gqx2⟩ := row3 hg_gq
 rw [hW, hWb0, hgq] at gqx0 gqx1 gqx2
 clear hg_gc hg_gq b_Wb0 b_W s_Wb0 s_W
 have IQ := qHd (IQ.out.below HBW.out); have HC := qHd (HC.out.below HBW.out); have HD2 := qHd (hB.below HBW.out)
 clear hB
 have HK := qHd (run54 _ _ n s0 ms dn f K W HC.out HG.out HF.out IQ.out hK)
 go_enter Tryz.func30, Tryz.ntmps30
 go_wp2_with (with_reducible refine qag ?_)
 rw [← hWb0, ← hW, ← hgq, ← hgc]
 clear hWb0 hW hgc hgq
 clear gcx0 gcx1 gcx2 gcx3 gqx0 gqx1 gqx2
 refine qal.mk ?_
 (with_reducible refine HK.out.mono ?_); rintro e w1 ⟨v1, VV, rfl, hb1, hR⟩
 obtain ⟨oo, oc, rfl, hoc, hoc2, _⟩ := qbd hR.out.1
 have HR := qHd hR
 have HB1 := qHd hb1
 clear hb1 hR HK
 go_wp2_with (with_reducible first | refine qah ?_ | refine qae ?_)
 refine qal.mk ?_
 go_loopw [31, 12] (fun i' ov wx => ∃ j : Nat, j ≤ K + 1 ∧ i' = .int .i64 j ∧ Hid (FrL wx w1.heap.size ov j (fun k => failed (dnf dn) ((qbp (dnf dn) (f + 1) ms s0) k) n)) ∧ Hid (Below w1.heap.size w1 wx)) (fun i' _ _ => K + 1 - (intOf i').toNat)
 case atStart => exact ⟨0, Nat.zero_le _, rfl, qHd (FrL.nil _ _ _), qHd (Below.refl _ _)⟩
 case round =>
  obtain ⟨j, hj, rfl, HO, HB⟩ := hrel
  obtain ⟨wo, rfl⟩ : ∃ wo : World, wo = wr := ⟨_, rfl⟩
  obtain ⟨po, pc, rfl, hpc, hpc2, _⟩ := HO.out.shape
  by_cases hlt : j < K + 1
  ·have hltz : (j : Int) < (K : Int) + 1 := by omega
   obtain ⟨g0, gr, cr, rfl, hcr, hcr2, cI, hFr⟩ := (HR.out.below HB.out).at hlt hn0
   obtain ⟨w2, hw2, hb2, hx2⟩ := qBx3 wo (.cells #[.bool false, .slice none 0 0, .slice none 0 0] 37)
   obtain ⟨ga, hga⟩ : ∃ g, g = wo.heap.size := ⟨_, rfl⟩
   have la : w1.heap.size ≤ ga := by rw [hga]; exact HB.out.size
   have NO := qHd (show ∀ z, (Value.slice po j pc).ownBlock = some z → z < ga from fun z hz => by rw [hga]; exact (HO.out.lt hz).2)
   have hgr := (hFr.lt (g := gr) rfl).2
   have hgra : gr ≠ ga := by omega
   rw [← hga] at hx2
   go_wp2_with (with_reducible first | refine qah ?_ | refine qae ?_)
   rw [← hw2, ← hga]
   clear hw2 hga cI
   refine qal.mk ?_
   have HFR := qHd (hFr.below hb2); have HO := qHd (HO.out.below hb2); have HB := qHd (qac HB.out (Nat.le_refl _) hb2); have GA := qHd hx2
   clear hFr hb2 hx2 hgr
   go_loopw [37] (fun i' wx => ∃ (i : Nat) (s1 : Bool) (o1 : Option Addr) (n1 c1 : Nat) (a1 : Option Addr) (m1 d1 : Nat), i ≤ n ∧ i' = .int .i64 i ∧ Hid (FrL wx W.heap.size (.slice (some ⟨gr, 0, none⟩) n cr) n ((qbp (dnf dn) (f + 1) ms s0) j)) ∧ Hid (FrL wx w1.heap.size (.slice po j pc) j (fun k => failed (dnf dn) ((qbp (dnf dn) (f + 1) ms s0) k) n)) ∧ Hid (Below w1.heap.size w1 wx) ∧ Hid (wx.heap[ga]? = some (.cells #[.bool s1, .slice o1 n1 c1, .slice a1 m1 d1] 37)) ∧ Hid (IsR wx (.agg #[.bool s1, .slice o1 n1 c1, .slice a1 m1 d1]) (qcq (fun t => if dnf dn t then (qbp (dnf dn) (f + 1) ms s0) j t else 0) i))) (fun i' _ => n - (intOf i').toNat)
   case atStart => exact ⟨0, false, none, 0, 0, none, 0, 0, Nat.zero_le _, rfl, HFR, HO, HB, GA, qHd (isR_zero _)⟩
   case round =>
    obtain ⟨i, s1, o1, n1, c1, a1, m1, d1, hi, rfl, HFR, HO, HB, GA, IA⟩ := hrel
    obtain ⟨wq, rfl⟩ : ∃ wq : World, wq = wr := ⟨_, rfl⟩
    by_cases hil : i < n
    ·have hiz : (i : Int) < (n : Int) := by omega
     obtain ⟨sx, ox, nx, cx, ax, mx, dx, x0, x1, x2, hIx⟩ := HFR.out.at hil
     have HBW1 := qHd (HB1.out.trans (HB.out.mono HB1.out.size))
     obtain ⟨db, doff, rfl, hdb, _, hdat⟩ := (HD2.out.below HBW1.out).at (by rw [HDL.out]; omega)
     have hd0 := hdat i _ (dnf_at (by rw [HDL.out]; exact hil))
     clear hdat
     have hdl : ((i : Nat) : Int) < ((dn.length : Nat) : Int) := by rw [HDL.out]; omega
     have HS := qHd (show qcq (fun t => if dnf dn t then (qbp (dnf dn) (f + 1) ms s0) j t else 0) (i + 1) = qcq (fun t => if dnf dn t then (qbp (dnf dn) (f + 1) ms s0) j t else 0) i + (if dnf dn i then (qbp (dnf dn) (f + 1) ms s0) j i else 0) from rfl)
     have LA := qHd (show rl (qcq (fun t => if dnf dn t then (qbp (dnf dn) (f + 1) ms s0) j t else 0) i) ≤ 100000 from Nat.le_trans (failed_rl HG.out.ok HG.out.sm HF.out (show j ≤ 8 by omega) (show i ≤ 10 by omega)) (by decide))
     have LX := qHd (show rl ((qbp (dnf dn) (f + 1) ms s0) j i) ≤ 100000 from Nat.le_trans (dist_rl HG.out.ok HG.out.sm HF.out (show j ≤ 8 by omega) i) (by decide))
     obtain ⟨acc, hacc⟩ : ∃ z0, z0 = qcq (fun t => if dnf dn t then (qbp (dnf dn) (f + 1) ms s0) j t else 0) i := ⟨_, rfl⟩
     obtain ⟨xi, hxi⟩ : ∃ z0, z0 = (qbp (dnf dn) (f + 1) ms s0) j i := ⟨_, rfl⟩
     obtain ⟨dd, hdd⟩ : ∃ d, d = dnf dn i := ⟨_, rfl⟩
     rw [← hacc] at LA IA
     rw [← hxi] at LX hIx
     have HS := qHd (show qcq (fun t => if dnf dn t then (qbp (dnf dn) (f + 1) ms s0) j t else 0) (i + 1) = acc + (if dd then xi else 0) by rw [HS.out, hacc, hxi, hdd])
     rw [← hdd] at hd0
     clear hacc hxi hdd
     obtain ⟨w4, hw4, hb4, gx, hgx, hx4⟩ := qBx5 wq (.cells #[.bool sx, .slice ox nx cx, .slice ax mx dx] 37)
     obtain ⟨gcx0, gcx1, gcx2, gcx3⟩ := qbn (qab (qab G_gc.out HBW1.out) hb4)
     rw [hw4] at gcx0 gcx1 gcx2 gcx3
     have hd4 := qak hd0 hb4
     rw [hw4] at hd4
     have HFR := qHd (HFR.out.below hb4); have HO := qHd (HO.out.below hb4); have HB := qHd (qac HB.out (Nat.le_refl _) hb4); have GA := qHd (qab GA.out hb4); have IA := qHd (IA.out.below hb4); have IX := qHd (hIx.below hb4); have G_gx := qHd hx4
     cases dd
     ·have HE := qHd (show qcq (fun t => if dnf dn t then (qbp (dnf dn) (f + 1) ms s0) j t else 0) (i + 1) = acc by rw [HS.out]; exact Rat.add_zero _)
      clear hb4 hIx hx4 hdb
      go_wp2_with fail
      rw [← hw4]
      go_roundw
      case rel => exact ⟨i + 1, s1, o1, n1, c1, a1, m1, d1, by omega, by go_num, HFR, HO, HB, GA, qHd (by rw [HE.out]; exact IA.out)⟩
      case measure => simp [intOf]; omega
     ·have HE := qHd (show qcq (fun t => if dnf dn t then (qbp (dnf dn) (f + 1) ms s0) j t else 0) (i + 1) = acc + xi by rw [HS.out]; rfl)
      obtain ⟨gax0, gax1, gax2⟩ := row3 (GA.out)
      rw [hw4] at gax0 gax1 gax2
      obtain ⟨gxx0, gxx1, gxx2⟩ := row3 (hx4)
      rw [hw4, hgx] at gxx0 gxx1 gxx2
      have HK := qHd (qcz _ acc _ xi w4 (IA.out.is LA.out) (IX.out.is LX.out))
      clear hb4 hIx hx4 hdb
      go_wp2_with (with_reducible refine qag ?_)
      rw [← hw4, ← hgx]
      clear hw4 hgx x0 x1 x2 hd0 hd4
      clear gcx0 gcx1 gcx2 gcx3 gax0 gax1 gax2 gxx0 gxx1 gxx2
      refine qal.mk ?_
      (with_reducible refine HK.out.mono ?_); rintro e w5 ⟨v5, rfl, hb5, hn5⟩
      obtain ⟨sz, oz, nz, cz, az, mz, dz, rfl⟩ := hn5.shape
      have HFR := qHd (HFR.out.below hb5); have HO := qHd (HO.out.below hb5); have HB := qHd (qac HB.out (Nat.le_refl _) hb5); have GA := qHd (qab GA.out hb5)
      go_wp2_with (with_reducible refine qan ?_)
      refine qba ga 0 [.bool sz, .slice oz nz cz, .slice az mz dz] GA.out rfl rfl (Nat.le_of_ble_eq_true rfl) (by kernel_rfl) rfl ?_
      intro wz hpz
      have st : Stp w5 wz (some ga) := stp_putL hpz GA.out noW3
      have GZ := qHd (show wz.heap[ga]? = some (.cells #[.bool sz, .slice oz nz cz, .slice az mz dz] 37) by rw [hpz]; exact putL_3q GA.out)
      have HFR := qHd (HFR.out.stp st (fun z hz e => by have h1 : gr = z := Option.some.inj hz; have h2 : ga = z := Option.some.inj e; omega))
      have HO := qHd (HO.out.stp st (fun z hz e => by have h1 := NO.out z hz; have h2 : ga = z := Option.some.inj e; omega))
      have HB := qHd (st.low HB.out HB.out.size la)
      have IZ := qHd (st.I hn5)
      clear hpz st hb5 hn5 HK
      go_wp2_with fail
      go_roundw
      case rel => exact ⟨i + 1, sz, oz, nz, cz, az, mz, dz, by omega, by go_num, HFR, HO, HB, GZ, qHd (by rw [HE.out]; exact IZ.out)⟩
      case measure => simp [intOf]; omega
    ·have HI := qHd (show i = n by omega)
     have hiz : ¬ ((i : Int) < (n : Int)) := by omega
     have IA := qHd (show IsR wq (.agg #[.bool s1, .slice o1 n1 c1, .slice a1 m1 d1]) (failed (dnf dn) ((qbp (dnf dn) (f + 1) ms s0) j) n) by have := IA.out; rw [HI.out] at this; exact this)
     obtain ⟨gax0, gax1, gax2⟩ := row3 GA.out
     go_wp2_with (with_reducible refine qbf ?_)
     clear gax0 gax1 gax2
     obtain ⟨w5, hw5, hb5, hx5⟩ := qBx3 wq (.cells #[.bool s1, .slice o1 n1 c1, .slice a1 m1 d1] 37)
     rw [← hw5]
     have HO := qHd (HO.out.below hb5); have HB := qHd (qac HB.out (Nat.le_refl _) hb5); have IA := qHd (IA.out.below hb5)
     clear hb5 hw5
     obtain ⟨xs, hxs, hxat⟩ := HO.out
     refine qbo w1.heap.size Tryz.ratTy rfl noU3 (by decide) _ j xs [.bool s1, .slice o1 n1 c1, .slice a1 m1 d1] wq.heap.size 37 rfl rfl hxs hx5 rfl rfl noU3 hxs.noU (by omega) (by decide) HB.out.size ?_
     intro v' w6 ho6 hg6 _
     have hSt := stp_own hxs hg6
     have hfr := FrL.app hxs hxat IA.out ho6 hSt
     have hob := fun g (hg : (Value.slice po j pc).ownBlock = some g) => (World.ownsRow.lt hxs.1 g hg).1
     have HB := qHd (hSt.low' HB.out HB.out.size hob)
     have HO := qHd (show FrL w6 w1.heap.size v' (j + 1) (fun k => failed (dnf dn) ((qbp (dnf dn) (f + 1) ms s0) k) n) from hfr.congr (fun t _ => by
      unfold updR
      by_cases e : t = j
      ·rw [if_pos e, e]
      ·rw [if_neg e]))
     clear ho6 hg6 hSt hfr hob hx5 hxs hxat
     go_wp2_with fail
     go_roundw
     case rel => exact ⟨j + 1, by omega, by go_num, HO, HB⟩
     case measure => simp [intOf]; omega
  ·have hk' : j = K + 1 := by omega
   have HJ := qHd hk'
   have hjz : ¬ ((j : Int) < (K : Int) + 1) := by omega
   clear hk'
   go_wp2_with fail
   go_ret2
   exact ⟨_, rfl, HBW.out.trans ((HB1.out.trans (HB.out.mono HB1.out.size)).mono HBW.out.size), by rw [← HJ.out]; exact HO.out.base (Nat.le_trans HBW.out.size HB1.out.size)⟩
theorem first54 (vc vq : Value) (n s0 : Nat) (ms : List Mv) (dn : List Bool) (f : Rat) (K : Nat) (w : World) (hc : ChI w vc n s0 ms dn) (hg : GCh n s0 ms dn) (hf : qcj n ms f) (hq : IsR w vq (f + 1)) (hK : K ≤ 7) :
  Calls Tryz.prog 11 #[vc, vq, .int .i64 (K : Nat)] w (RetFrE w (K + 1) (fun k => failed (dnf dn) ((qbp (dnf dn) (f + 1) ms s0) k) n)) := by
 have HC := qHd hc
 obtain ⟨mo, mc, bo, bc, rfl, hM, hB, hmc, hbc⟩ := hc
 have HG := qHd hg
 have hn10 := hg.n10
 have hn0 := hg.n0
 have hl60 := hg.sm.len
 have HDL := qHd hg.dl
 clear hg
 clear hM hB
 have HF := qHd hf
 obtain ⟨sq, oq, nq, cq, aq, mq, dq, rfl⟩ := hq.shape
 have IQ := qHd hq; clear hq hf
 obtain ⟨Wb0, hWb0⟩ : ∃ z0, z0 = w.alloc (.cells #[.int .i64 n, .int .i64 s0, .slice mo ms.length mc, .slice bo dn.length bc] 25) := ⟨_, rfl⟩
 have b_Wb0 : Below w.heap.size w Wb0 := by rw [hWb0]; exact qBA _ _
 have s_Wb0 : Wb0.heap.size = w.heap.size + 1 := by rw [hWb0]; exact Array.size_push (xs := w.heap) _
 obtain ⟨W, hW⟩ : ∃ z0, z0 = Wb0.alloc (.cells #[.bool sq, .slice oq nq cq, .slice aq mq dq] 37) := ⟨_, rfl⟩
 have b_W : Below Wb0.heap.size Wb0 W := by rw [hW]; exact qBA _ _
 have s_W : W.heap.size = w.heap.size + 1 + 1 := by rw [hW]; rw [← s_Wb0]; exact Array.size_push (xs := Wb0.heap) _
 have hg_gc : W.heap[w.heap.size]? = some (.cells #[.int .i64 n, .int .i64 s0, .slice mo ms.length mc, .slice bo dn.length bc] 25) := (qab (by rw [hWb0]; exact heap_alloc_new w _) b_W)
 have hg_gq : W.heap[w.heap.size + 1]? = some (.cells #[.bool sq, .slice oq nq cq, .slice aq mq dq] 37) := (by rw [← s_Wb0]; rw [hW]; exact heap_alloc_new Wb0 _)
 have HBW := qHd (show Below w.heap.size w W from (b_Wb0.trans (b_W.mono (by rw [s_Wb0]; omega))))
 obtain ⟨gc, hgc⟩ : ∃ g, g = w.heap.size := ⟨_, rfl⟩
 rw [← hgc] at hg_gc
 have l_gc : w.heap.size ≤ gc ∧ gc < W.heap.size := by rw [s_W]; omega
 obtain ⟨gq, hgq⟩ : ∃ g, g = w.heap.size + 1 := ⟨_, rfl⟩
 rw [← hgq] at hg_gq
 have l_gq : w.heap.size ≤ gq ∧ gq < W.heap.size := by rw [s_W]; omega
 have G_gc := qHd hg_gc
 have G_gq := qHd hg_gq
 obtain ⟨gcx0, gcx1, gcx2, gcx3⟩ := qbn hg_gc
 rw [hW, hWb0, hgc] at gcx0 gcx1 gcx2 gcx3
 obtain ⟨gqx0, gqx1, gqx2⟩ := row3 hg_gq
 rw [hW, hWb0, hgq] at gqx0 gqx1 gqx2
 clear hg_gc hg_gq b_Wb0 b_W s_Wb0 s_W
 have IQ := qHd (IQ.out.below HBW.out); have HC := qHd (HC.out.below HBW.out)
 have HK := qHd (downs54 _ _ n s0 ms dn f K W HC.out HG.out HF.out IQ.out hK)
 go_enter Tryz.func11, Tryz.ntmps11
 go_wp2_with (with_reducible refine qag ?_)
 rw [← hWb0, ← hW, ← hgq, ← hgc]
 clear hWb0 hW hgc hgq
 clear gcx0 gcx1 gcx2 gcx3 gqx0 gqx1 gqx2
 refine qal.mk ?_
 (with_reducible refine HK.out.mono ?_); rintro e w1 ⟨v1, rfl, hb1, hF⟩
 have HB := qHd hb1; have HV := qHd hF
 clear hb1 hF HK
 go_wp2_with fail
 go_ret2
 exact ⟨_, rfl, HBW.out.trans (HB.out.mono HBW.out.size), HV.out.base HBW.out.size⟩
theorem qaz {P : Program} {ops : Array Oper} {rest : List Oper} {a : Act} {w : World} {Q : Exit → Act → World → Prop} (ty : TypeId) {d : Option Tmp} {tt : TypeId} {x y : Operand} {pos : String} {af : Array Edge}
  (h : qal (wpList P ops Q (⟨d, .store ty x y, tt, pos, af, none⟩ :: rest) a w)) : wpList P ops Q (⟨d, .store ty x y, tt, pos, af, none⟩ :: rest) a w := h
def isT : Option Value → Bool
 | some (.bool true) => true
 | _ => false
def cntN (f : Nat → Bool) : Nat → Nat
 | 0 => 0
 | n + 1 => cntN f n + cond (f n) 0 1
theorem cntN_congr {f g : Nat → Bool} : ∀ n, (∀ i, i < n → f i = g i) → cntN f n = cntN g n
 | 0, _ => rfl
 | n + 1, h => by simp only [cntN]; rw [cntN_congr n (fun i hi => h i (by omega)), h n (by omega)]
theorem cntN_set {f : Nat → Bool} {j : Nat} (hj : f j = false) : ∀ n, cntN (fun i => if i = j then true else f i) n + (if j < n then 1 else 0) = cntN f n
 | 0 => by simp [cntN]
 | n + 1 => by
  have ih := cntN_set hj n
  simp only [cntN]
  by_cases e : n = j
  ·subst e
   simp only [if_true, hj, cond_true, cond_false, Nat.lt_irrefl, if_false, Nat.add_zero, Nat.lt_succ_self] at ih ⊢
   omega
  ·simp only [if_neg e]
   by_cases h2 : j < n
   ·rw [if_pos h2] at ih; rw [if_pos (by omega)]; omega
   ·rw [if_neg h2] at ih; rw [if_neg (by omega)]; omega
def opn (w : World) (g n : Nat) : Nat := cntN (fun j => isT (w.cell? ⟨g, j, none⟩)) n
theorem opn_eq {w : World} {B g n c : Nat} {l : List Bool} (h : qbm w B 4 1 (.slice (some ⟨g, 0, none⟩) n c) n (bls l)) (hl : l.length = n) : opn w g n = cntN (dnf l) n := by
 unfold opn
 refine cntN_congr n (fun i hi => ?_)
 obtain ⟨g', e, _, _, _, _, hc⟩ := qbi h.1 rfl (by omega)
 cases e
 rw [hc i _ (bls_at (dnf_at (by omega)))]
 cases dnf l i <;> rfl
theorem bls_set (l : List Bool) (j : Nat) (b : Bool) (hj : j < l.length) : spl (bls l) j [.bool b] = bls (l.set j b) := by
 apply List.ext_getElem?
 intro i
 rw [spl_at (by rw [bls_length]; simp; omega)]
 unfold bls
 simp only [List.getElem?_map, List.getElem?_set, List.length_cons, List.length_nil]
 by_cases a : i < j
 ·rw [if_pos a, if_neg (by omega)]
 ·rw [if_neg a]
  by_cases e : i = j
  ·subst e; rw [if_pos (by omega), if_pos rfl, if_pos hj, Nat.sub_self]; rfl
  ·rw [if_neg (by omega), if_neg (fun q => e q.symm)]
theorem dnf_set {l : List Bool} {j : Nat} {b : Bool} (hj : j < l.length) (i : Nat) : dnf (l.set j b) i = if i = j then b else dnf l i := by
 unfold dnf
 rw [List.getD_eq_getElem?_getD, List.getD_eq_getElem?_getD, List.getElem?_set]
 by_cases e : i = j
 ·subst e; rw [if_pos rfl, if_pos hj, if_pos rfl]; rfl
 ·rw [if_neg (fun q => e q.symm), if_neg e]
theorem ownB_cell {w : World} {B g n c : Nat} {l : List Bool} (h : qbm w B 4 1 (.slice (some ⟨g, 0, none⟩) n c) n (bls l)) (hl : l.length = n) {i : Nat} (hi : i < n) : w.cell? ⟨g, i, none⟩ = some (.bool (dnf l i)) := by
 obtain ⟨g', e, _, _, _, _, hc⟩ := qbi h.1 rfl (by omega)
 cases e
 exact hc i _ (bls_at (dnf_at (by omega)))
theorem ownB_block {w : World} {B g n c : Nat} {e : TypeId} {xs : List Value} (h : qbm w B e 1 (.slice (some ⟨g, 0, none⟩) n c) n xs) : ∃ cs, w.heap[g]? = some (.cells cs e) ∧ n ≤ cs.size := by
 rcases h.1.2 with ⟨h0, _⟩ | ⟨g', cap, cur, hv, hb, hg, hnc, hcm, hcs, ht⟩
 ·cases h0
 ·simp only [Value.slice.injEq, Option.some.injEq, Addr.mk.injEq, and_true, true_and] at hv
  obtain ⟨rfl, rfl⟩ := hv
  exact ⟨cur, hg, by rw [hcs]; omega⟩
theorem ownB_put {w w' : World} {B g n c j : Nat} {l : List Bool} {b : Bool} (h : qbm w B 4 1 (.slice (some ⟨g, 0, none⟩) n c) n (bls l)) (hl : l.length = n) (hj : j < n) (hw : w' = putL w g j [.bool b]) :
  qbm w' B 4 1 (.slice (some ⟨g, 0, none⟩) n c) n (bls (l.set j b)) ∧ Stp w w' (some g) := by
 have := h.write hw (by simp; omega) noUb
 rwa [bls_set l j b (by omega)] at this
theorem madeB {w w' : World} {n B : Nat} (h : w'.ownsRow B 4 1 (.slice (some ⟨w.heap.size, 0, none⟩) n n) n (madeCells #[.bool false] (n * 1)).toList) (hw : w' = w.alloc (.cells (madeCells #[.bool false] (n * 1)) 4)) : qbm w' B 4 1 (.slice (some ⟨w.heap.size, 0, none⟩) n n) n (bls (List.replicate n false)) := by
 have e : (madeCells #[Value.bool false] (n * 1)).toList = bls (List.replicate n false) := by
  rw [toList_madeCells_one, Nat.mul_one]; simp [bls]
 rw [e] at h
 refine ⟨h, fun g cur hg hc => ?_⟩
 simp only [Value.ownBlock, Option.some.injEq] at hg
 subst hg
 rw [hw, heap_alloc_new] at hc
 simp only [Option.some.injEq, Obj.cells.injEq] at hc
 rw [← hc.1, e]
 exact noU_bls _
structure Mk (n : Nat) (ms : List Mv) (dn : List Bool) (s0 : Nat) (l : List Bool) : Prop where
 len : l.length = n
 snd : ∀ i, dnf l i = true → qcf ms (dnf dn) s0 i
 st : dnf l s0 = !dnf dn s0
def Clo (ms : List Mv) (dn l : List Bool) : Prop := ∀ m ∈ ms, dnf l m.a = true → dnf dn m.b = false → dnf l m.b = true
theorem Mk.all {n s0 : Nat} {ms : List Mv} {dn l : List Bool} (h : Mk n ms dn s0 l) (hc : Clo ms dn l) (i : Nat) : dnf l i = true ↔ qcf ms (dnf dn) s0 i := by
 refine ⟨h.snd i, fun k => ?_⟩
 induction k with
 | start hd => rw [h.st, hd]; rfl
 | step m _ hm hd ih => exact hc m hm ih hd
structure Mk2 (n : Nat) (ms : List Mv) (dn l : List Bool) : Prop where
 len : l.length = n
 snd : ∀ i, dnf l i = true → Ends ms (dnf dn) i
 dwn : ∀ i, dnf dn i = true → dnf l i = true
def Clo2 (ms : List Mv) (l : List Bool) : Prop := ∀ m ∈ ms, dnf l m.b = true → dnf l m.a = true
theorem Mk2.all {n : Nat} {ms : List Mv} {dn l : List Bool} (h : Mk2 n ms dn l) (hc : Clo2 ms l) (i : Nat) : dnf l i = true ↔ Ends ms (dnf dn) i := by
 refine ⟨h.snd i, fun k => ?_⟩
 induction k with
 | down i hd => exact h.dwn i hd
 | step m hm _ ih => exact hc m hm ih
def RetLive (w : World) (n s0 : Nat) (ms : List Mv) (dn : List Bool) (e : Ending) (w' : World) : Prop :=
 (e = .returned (.tuple #[.slice none 0 0, errV 17]) ∧ Below w.heap.size w w' ∧ ¬ ∀ i, qcf ms (dnf dn) s0 i → Ends ms (dnf dn) i) ∨
 (∃ v l, e = .returned (.tuple #[v, .nilIface]) ∧ Below w.heap.size w w' ∧ l.length = n ∧ qbm w' w.heap.size 4 1 v n (bls l) ∧ (∀ i, dnf l i = true ↔ qcf ms (dnf dn) s0 i) ∧ ∀ i, qcf ms (dnf dn) s0 i → Ends ms (dnf dn) i)
theorem live_any (vc : Value) (n s0 : Nat) (ms : List Mv) (dn : List Bool) (w : World) (hc : ChI w vc n s0 ms dn) (hg : GCh n s0 ms dn) :
  Calls Tryz.prog 40 #[vc] w (RetLive w n s0 ms dn) := by
 have HC := qHd hc
 obtain ⟨mo, mc, bo, bc, rfl, hM, hB, hmc, hbc⟩ := hc
 have HG := qHd hg
 have hn10 := hg.n10
 have hn0 := hg.n0
 have hl60 := hg.sm.len
 have HDL := qHd hg.dl
 clear hg
 obtain ⟨W, hW⟩ : ∃ z0, z0 = w.alloc (.cells #[.int .i64 n, .int .i64 s0, .slice mo ms.length mc, .slice bo dn.length bc] 25) := ⟨_, rfl⟩
 have b_W : Below w.heap.size w W := by rw [hW]; exact qBA _ _
 have s_W : W.heap.size = w.heap.size + 1 := by rw [hW]; exact Array.size_push (xs := w.heap) _
 have hg_gc : W.heap[w.heap.size]? = some (.cells #[.int .i64 n, .int .i64 s0, .slice mo ms.length mc, .slice bo dn.length bc] 25) := (by rw [hW]; exact heap_alloc_new w _)
 have HBW := qHd (show Below w.heap.size w W from b_W)
 obtain ⟨gc, hgc⟩ : ∃ g, g = w.heap.size := ⟨_, rfl⟩
 rw [← hgc] at hg_gc
 have l_gc : w.heap.size ≤ gc ∧ gc < W.heap.size := by rw [s_W]; omega
 have G_gc := qHd hg_gc
 obtain ⟨gcx0, gcx1, gcx2, gcx3⟩ := qbn hg_gc
 rw [hW, hgc] at gcx0 gcx1 gcx2 gcx3
 clear hg_gc b_W s_W
 have HM := qHd (hM.below HBW.out); have HD2 := qHd (hB.below HBW.out); have HC := qHd (HC.out.below HBW.out)
 clear hM hB
 obtain ⟨db, doff, rfl, hdb, _, _⟩ := HD2.out.at (by rw [HDL.out]; omega)
 have hs0n := HG.out.ok.st
 have HSZ := qHd (show ((s0 : Nat) : Int) < (n : Int) by omega); have HDZ := qHd (show ((s0 : Nat) : Int) < ((dn.length : Nat) : Int) by rw [HDL.out]; omega)
 have HK := qHd (ccheck_any _ n s0 ms dn W HC.out HG.out)
 go_enter Tryz.func40, Tryz.ntmps40
 go_wp2_with (with_reducible refine qag ?_)
 rw [← hW, ← hgc]
 clear hW hgc
 clear gcx0 gcx1 gcx2 gcx3
 refine qal.mk ?_
 (with_reducible refine HK.out.mono ?_); rintro e w1 ⟨rfl, hb1⟩
 have HB := qHd hb1; clear hb1 HK
 obtain ⟨gcx0, gcx1, gcx2, gcx3⟩ := qbn (qab G_gc.out HB.out)
 go_wp2_with (with_reducible refine qaw ?_)
 clear gcx0 gcx1 gcx2 gcx3
 refine qbj Tryz.boolTyL n rfl rfl (by omega) (by decide) (by decide) ?_
 intro w2 hw2 ho2
 have hb2 : Below w1.heap.size w1 w2 := by rw [hw2]; exact qBA _ _
 have hO := madeB ho2 hw2
 have l5 : W.heap.size ≤ w1.heap.size := HB.out.size
 have hO : qbm w2 W.heap.size 4 1 (.slice (some ⟨w1.heap.size, 0, none⟩) n n) n (bls (List.replicate n false)) := ⟨qcr hO.1 l5, hO.2⟩
 obtain ⟨g5, hG5⟩ : ∃ g, g = w1.heap.size := ⟨_, rfl⟩
 rw [← hG5] at hO l5 ⊢
 have HO := qHd hO; have HB := qHd (qac HB.out (Nat.le_refl _) hb2)
 clear hO hb2 ho2 hw2 hG5
 obtain ⟨db', doff', e', _, _, hdat⟩ := (HD2.out.below HB.out).at (by rw [HDL.out]; omega)
 cases e'
 have hd0 := hdat s0 _ (dnf_at (by rw [HDL.out]; exact hs0n))
 obtain ⟨d0, hd0e⟩ : ∃ d, d = dnf dn s0 := ⟨_, rfl⟩
 rw [← hd0e] at hd0
 have HD0 := qHd hd0; have HD0E := qHd hd0e
 clear hd0 hd0e hdat
 go_wp2_with (with_reducible first | refine qag ?_ | refine qah ?_ | refine qbb ?_ | refine qbc ?_ | refine qae ?_)
 refine qal.mk ?_
 refine qaj (A := ?aaL5) (w := w2) 11 [] (by kernel_rfl) (Fl [KEq (.slice (some ⟨g5, 0, none⟩) n n), KEq (.pointer (some ⟨gc, 1, none⟩)), KEq (.int .i64 (s0 : Nat)), KEq (.pointer (some ⟨gc, 3, none⟩)), KEq (.slice (some ⟨db, doff, none⟩) dn.length bc), KEq (.pointer (some ⟨gc, 1, none⟩)), KEq (.int .i64 (s0 : Nat)), KEq (.pointer (some ⟨db, doff + s0, none⟩)), KEq (.bool d0), KEq (.bool (!d0)), KEq (.pointer (some ⟨g5, s0, none⟩))]) (fun i => false) (by kernel_rfl) ?hqL5 (qdk (qad (kEq _) (qad (kEq _) (qad (kEq _) (qad (kEq _) (qad (kEq _) (qad (kEq _) (qad (kEq _) (qad (kEq _) (qad (kEq _) (qad (kEq _) (qad (kEq _) qdj)))))))))))) ?haL5 ?stL5 ?tlL5
 case hqL5 =>
  intro c a d v w h
  first | (simp only [Exit.then] at h ⊢; exact h) | (simp only [Exit.inBlock, Exit.then] at h ⊢; exact h) | exact h
 case haL5 =>
  intro vals
  simp only [qat, qby, if_true, Act.put, List.setIfInBounds_toArray, List.set_cons_zero, List.set_cons_succ, List.getElem?_toArray, List.getElem?_cons_zero, List.getElem?_cons_succ, Option.bind_some]
  exact rfl
 case stL5 =>
  simp only [List.take_succ_cons, List.take_zero]
  refine qaa rfl rfl ?_ (qaa rfl rfl ?_ (qaa rfl rfl ?_ (qaa rfl rfl ?_ (qaa rfl rfl ?_ (qaa rfl rfl ?_ (qaa rfl rfl ?_ (qaa rfl rfl ?_ (qaa rfl rfl ?_ (qaa rfl rfl ?_ (qaa rfl rfl ?_ (qau)))))))))))
  ·intro vals w1 hb hd
   refine qSv (.slice (some ⟨g5, 0, none⟩) n n) (by go_simp) (qLk rfl rfl)
  ·intro vals w1 hb hd
   refine qSv (.pointer (some ⟨gc, 1, none⟩)) (by go_simp) (qLk rfl rfl)
  ·intro vals w1 hb hd
   obtain ⟨gcx0, gcx1, gcx2, gcx3⟩ := qbn (qab G_gc.out (HB.out.step hb))
   rw [show vals 1 = .pointer (some ⟨gc, 1, none⟩) from hd 1 (by kernel_rfl)]
   refine qSv (.int .i64 (s0 : Nat)) (by go_simp) (qLk rfl rfl)
  ·intro vals w1 hb hd
   refine qSv (.pointer (some ⟨gc, 3, none⟩)) (by go_simp) (qLk rfl rfl)
  ·intro vals w1 hb hd
   obtain ⟨gcx0, gcx1, gcx2, gcx3⟩ := qbn (qab G_gc.out (HB.out.step hb))
   rw [show vals 3 = .pointer (some ⟨gc, 3, none⟩) from hd 3 (by kernel_rfl)]
   refine qSv (.slice (some ⟨db, doff, none⟩) dn.length bc) (by go_simp) (qLk rfl rfl)
  ·intro vals w1 hb hd
   refine qSv (.pointer (some ⟨gc, 1, none⟩)) (by go_simp) (qLk rfl rfl)
  ·intro vals w1 hb hd
   obtain ⟨gcx0, gcx1, gcx2, gcx3⟩ := qbn (qab G_gc.out (HB.out.step hb))
   rw [show vals 5 = .pointer (some ⟨gc, 1, none⟩) from hd 5 (by kernel_rfl)]
   refine qSv (.int .i64 (s0 : Nat)) (by go_simp) (qLk rfl rfl)
  ·intro vals w1 hb hd
   have hdl := HDZ.out
   rw [show vals 4 = .slice (some ⟨db, doff, none⟩) dn.length bc from hd 4 (by kernel_rfl)]
   rw [show vals 6 = .int .i64 (s0 : Nat) from hd 6 (by kernel_rfl)]
   refine qSv (.pointer (some ⟨db, doff + s0, none⟩)) (by go_simp) (qLk rfl rfl)
  ·intro vals w1 hb hd
   have e0 := qak HD0.out hb
   rw [show vals 7 = .pointer (some ⟨db, doff + s0, none⟩) from hd 7 (by kernel_rfl)]
   refine qSv (.bool d0) (by go_simp) (qLk rfl rfl)
  ·intro vals w1 hb hd
   rw [show vals 8 = .bool d0 from hd 8 (by kernel_rfl)]
   refine qSv (.bool (!d0)) (by go_simp) (qLk rfl rfl)
  ·intro vals w1 hb hd
   have hsz := HSZ.out
   rw [show vals 0 = .slice (some ⟨g5, 0, none⟩) n n from hd 0 (by kernel_rfl)]
   rw [show vals 2 = .int .i64 (s0 : Nat) from hd 2 (by kernel_rfl)]
   refine qSv (.pointer (some ⟨g5, s0, none⟩)) (by go_simp) (qLk rfl rfl)
 case tlL5 =>
  intro vals w3 hb3 hf hdis
  simp only [List.drop_succ_cons, List.drop_zero]
  have z9 : vals 9 = _ := hf 9 (by decide); have z10 : vals 10 = _ := hf 10 (by decide)
  rw [z9, z10]
  clear z9 z10 hf hdis
  have HO := qHd (qaq HO.out hb3); have HB := qHd (qac HB.out (Nat.le_refl _) hb3)
  clear hb3 HD0
  obtain ⟨cs, hcs, hcz⟩ := ownB_block HO.out
  go_wp2_with (with_reducible refine qan ?_)
  refine wpList_stB g5 s0 hcs rfl rfl (by omega) (by kernel_rfl) ?_
  intro w4 hp4
  obtain ⟨hO4, st4⟩ := ownB_put HO.out (by simp) hs0n hp4
  have MK := qHd (show Mk n ms dn s0 ((List.replicate n false).set s0 (!d0)) from by
   have hx := dnf_set (l := List.replicate n false) (j := s0) (b := !d0) (by simpa using hs0n)
   have hrep : ∀ i, dnf (List.replicate n false) i = false := fun i => by
    unfold dnf; rw [List.getD_eq_getElem?_getD, List.getElem?_replicate]; split <;> rfl
   refine ⟨by simp, fun i hi => ?_, by rw [hx, if_pos rfl, HD0E.out]⟩
   rw [hx, hrep] at hi
   by_cases e : i = s0
   ·rw [if_pos e] at hi
    rw [e]; refine .start ?_
    rw [← HD0E.out]; cases d0
    ·rfl
    ·cases hi
   ·rw [if_neg e] at hi; cases hi)
  have HO := qHd hO4; have HB := qHd (st4.low HB.out HB.out.size l5)
  clear hO4 st4 hp4 hcs hcz
  obtain ⟨l, hl⟩ : ∃ l, l = (List.replicate n false).set s0 (!d0) := ⟨_, rfl⟩
  rw [← hl] at HO MK
  clear hl HD0E
  go_wp2_with (with_reducible first | refine qah ?_ | refine qae ?_)
  refine qal.mk ?_
  go_loopw [6] (fun cv wx => ∃ (ch : Bool) (l : List Bool), cv = .bool ch ∧ Hid (qbm wx W.heap.size 4 1 (.slice (some ⟨g5, 0, none⟩) n n) n (bls l)) ∧ Hid (Mk n ms dn s0 l) ∧ Hid (Below W.heap.size W wx) ∧ Hid (ch = false → Clo ms dn l)) (fun cv wx => 2 * opn wx g5 n + (if isT (some cv) then 1 else 0))
  case atStart => exact ⟨true, l, rfl, HO, MK, HB, qHd (fun e => by cases e)⟩
  case round =>
   obtain ⟨ch, l0, rfl, HO, MK, HB, CL⟩ := hrel
   obtain ⟨wo, rfl⟩ : ∃ wo : World, wo = wr := ⟨_, rfl⟩
   cases ch
   ·have CL := qHd (CL.out rfl)
    have RC := qHd (MK.out.all CL.out)
    have LL := qHd MK.out.len
    clear MK CL
    obtain ⟨gcx0, gcx1, gcx2, gcx3⟩ := qbn (qab G_gc.out HB.out)
    have HK := qHd (cloneB_any _ dn wo (HD2.out.below HB.out) (by rw [HDL.out]; omega) (by rw [HDL.out]; omega))
    go_wp2_with (with_reducible refine qag ?_)
    clear gcx0 gcx1 gcx2 gcx3
    refine qal.mk ?_
    (with_reducible refine HK.out.mono ?_); rintro e w5 ⟨v5, rfl, hb5, hE5⟩
    rw [HDL.out] at hE5
    obtain ⟨eo, c9, rfl, hc9, hc92, _⟩ := qbd hE5.1
    obtain ⟨g9, rfl, h9a, h9b, _, _, _⟩ := qbi hE5.1 rfl hn0
    have n59 : g5 ≠ g9 := by have := (World.ownsRow.lt HO.out.1 g5 rfl).2; omega
    have HE := qHd (show qbm w5 W.heap.size 4 1 (.slice (some ⟨g9, 0, none⟩) n c9) n (bls dn) from ⟨qcr hE5.1 HB.out.size, hE5.2⟩)
    have l9 : W.heap.size ≤ g9 := Nat.le_trans HB.out.size h9a
    have HO := qHd (qaq HO.out hb5); have HB := qHd (qac HB.out (Nat.le_refl _) hb5)
    clear hE5 hb5 HK h9a h9b
    go_wp2_with (with_reducible first | refine qah ?_ | refine qae ?_)
    refine qal.mk ?_
    go_loopw [10] (fun cv wx => ∃ (ch : Bool) (e : List Bool), cv = .bool ch ∧ Hid (qbm wx W.heap.size 4 1 (.slice (some ⟨g9, 0, none⟩) n c9) n (bls e)) ∧ Hid (qbm wx W.heap.size 4 1 (.slice (some ⟨g5, 0, none⟩) n n) n (bls l0)) ∧ Hid (Mk2 n ms dn e) ∧ Hid (Below W.heap.size W wx) ∧ Hid (ch = false → Clo2 ms e)) (fun cv wx => 2 * opn wx g9 n + (if isT (some cv) then 1 else 0))
    case atStart => exact ⟨true, dn, rfl, HE, HO, qHd ⟨HDL.out, fun i hi => .down i hi, fun i hi => hi⟩, HB, qHd (fun e => by cases e)⟩
    case round =>
     obtain ⟨ch, e0, rfl, HE, HO, MK, HB, CL⟩ := hrel
     obtain ⟨wp, rfl⟩ : ∃ wp : World, wp = wr := ⟨_, rfl⟩
     cases ch
     ·have CL := qHd (CL.out rfl)
      have RE := qHd (MK.out.all CL.out)
      have LE := qHd MK.out.len
      clear MK CL
      go_wp2_with (with_reducible first | refine qah ?_ | refine qae ?_)
      refine qal.mk ?_
      go_loopw [100] (fun i' wx => ∃ i : Nat, i ≤ n ∧ i' = .int .i64 i ∧ wx = wp ∧ Hid (∀ j, j < i → dnf l0 j = true → dnf e0 j = true)) (fun i' _ => n - (intOf i').toNat)
      case atStart => exact ⟨0, Nat.zero_le _, rfl, rfl, qHd (fun j hj => absurd hj (by omega))⟩
      case round =>
       obtain ⟨i, hi, rfl, rfl, ALL⟩ := hrel
       obtain ⟨wq, rfl⟩ : ∃ wq : World, wq = wr := ⟨_, rfl⟩
       by_cases hil : i < n
       ·have hiz : (i : Int) < (n : Int) := by omega
        have c1 := ownB_cell HO.out LL.out hil
        have c2 := ownB_cell HE.out LE.out hil
        obtain ⟨b1, hb1⟩ : ∃ b, b = dnf l0 i := ⟨_, rfl⟩
        obtain ⟨b2, hb2⟩ : ∃ b, b = dnf e0 i := ⟨_, rfl⟩
        rw [← hb1] at c1
        rw [← hb2] at c2
        have NX := qHd (fun (h : b1 = true → b2 = true) => (show ∀ j, j < i + 1 → dnf l0 j = true → dnf e0 j = true from fun j hj => by
         by_cases e : j = i
         ·rw [e, ← hb1, ← hb2]; exact h
         ·exact ALL.out j (by omega)))
        have HQ1 := qHd hb1; have HQ2 := qHd hb2
        clear hb1 hb2
        cases b1
        ·go_wp2_with fail
         go_roundw
         case rel => exact ⟨i + 1, by omega, by go_num, by first | rfl | trivial, qHd (NX.out (fun e => by cases e))⟩
         case measure => simp [intOf]; omega
        ·cases b2
         ·go_wp2_with fail
          go_ret2
          left
          exact ⟨by rw [errV_pos (by decide)]; rfl, HBW.out.trans (HB.out.mono HBW.out.size), fun hall => by
           have h1 := (RC.out i).1 HQ1.out.symm
           have h2 := (RE.out i).2 (hall i h1)
           rw [← HQ2.out] at h2; cases h2⟩
         ·go_wp2_with fail
          go_roundw
          case rel => exact ⟨i + 1, by omega, by go_num, by first | rfl | trivial, qHd (NX.out (fun _ => rfl))⟩
          case measure => simp [intOf]; omega
       ·have hi' : i = n := by omega
        have HI := qHd hi'
        have hiz : ¬ ((i : Int) < (n : Int)) := by omega
        clear hi'
        go_wp2_with fail
        go_ret2
        right
        refine ⟨_, l0, rfl, HBW.out.trans (HB.out.mono HBW.out.size), LL.out, ⟨qcr HO.out.1 HBW.out.size, HO.out.2⟩, RC.out, fun j hj => (RE.out j).1 (ALL.out j (by rw [HI.out]; exact hj.lt HG.out.ok) ((RC.out j).2 hj))⟩
     ·have HCNT := qHd (opn_eq HE.out MK.out.len)
      obtain ⟨gcx0, gcx1, gcx2, gcx3⟩ := qbn (qab G_gc.out HB.out)
      go_wp2_with (with_reducible first | refine qah ?_ | refine qae ?_)
      clear gcx0 gcx1 gcx2 gcx3
      refine qal.mk ?_
      go_loopw [76, 10] (fun i' cv wx => ∃ (k : Nat) (ch : Bool) (e : List Bool), k ≤ ms.length ∧ i' = .int .i64 k ∧ cv = .bool ch ∧ Hid (qbm wx W.heap.size 4 1 (.slice (some ⟨g9, 0, none⟩) n c9) n (bls e)) ∧ Hid (qbm wx W.heap.size 4 1 (.slice (some ⟨g5, 0, none⟩) n n) n (bls l0)) ∧ Hid (Mk2 n ms dn e) ∧ Hid (Below W.heap.size W wx) ∧ Hid (ch = false → ∀ m ∈ ms.take k, dnf e m.b = true → dnf e m.a = true) ∧ Hid (cntN (dnf e) n ≤ cntN (dnf e0) n ∧ (ch = true → cntN (dnf e) n < cntN (dnf e0) n))) (fun i' _ _ => ms.length - (intOf i').toNat)
      case atStart => exact ⟨0, false, e0, Nat.zero_le _, rfl, rfl, HE, HO, MK, HB, qHd (fun _ m hm => by simp at hm), qHd ⟨Nat.le_refl _, fun e => by cases e⟩⟩
      case round =>
       obtain ⟨k, ch, e, hk, rfl, rfl, HE, HO, MK, HB, CK, CT⟩ := hrel
       obtain ⟨wo2, rfl⟩ : ∃ wo2 : World, wo2 = wr := ⟨_, rfl⟩
       by_cases hlt : k < ms.length
       ·have hltz : (k : Int) < (ms.length : Int) := by omega
        obtain ⟨m, hm⟩ : ∃ m, ms[k]? = some m := ⟨ms[k], List.getElem?_eq_getElem hlt⟩
        obtain ⟨mb, moff, rfl, hmb, _, hat⟩ := (HM.out.below HB.out).at (by omega)
        obtain ⟨sm, om, nm, cm, am, mm, dm, m0, m1, m2, m3, m4, hIm⟩ := hat k m hm
        clear hat
        have hmem := List.mem_of_getElem? hm
        obtain ⟨ha1, hb1, _, _⟩ := HG.out.ok.mv m hmem
        have haz : ((m.a : Nat) : Int) < (n : Int) := by omega
        have hbz : ((m.b : Nat) : Int) < (n : Int) := by omega
        have ca := ownB_cell HE.out MK.out.len ha1
        have cb := ownB_cell HE.out MK.out.len hb1
        obtain ⟨fa, hfa⟩ : ∃ b, b = dnf e m.a := ⟨_, rfl⟩
        obtain ⟨fb, hfb⟩ : ∃ b, b = dnf e m.b := ⟨_, rfl⟩
        rw [← hfa] at ca
        rw [← hfb] at cb
        have HFA := qHd hfa; have HFB := qHd hfb; have HME := qHd hmem
        have NX := qHd (fun (h : fb = true → fa = true) (hch : ch = false) => (show ∀ x ∈ ms.take (k + 1), dnf e x.b = true → dnf e x.a = true from fun x hx => by
         rw [take_next hm, List.mem_append, List.mem_singleton] at hx
         rcases hx with hx | hx
         ·exact CK.out hch x hx
         ·rw [hx, ← hfa, ← hfb]; exact h))
        clear hfa hfb hm hmem
        obtain ⟨w2, hw2, hb2, hx2⟩ := qBx3 wo2 (.cells #[.int .i64 (m.a : Nat), .int .i64 (m.b : Nat), .bool sm, .slice om nm cm, .slice am mm dm] 45)
        obtain ⟨gm, hgm⟩ : ∃ g, g = wo2.heap.size := ⟨_, rfl⟩
        have lm : W.heap.size ≤ gm := by rw [hgm]; exact HB.out.size
        rw [← hgm] at hx2
        have G_gm := qHd hx2
        obtain ⟨gmx0, gmx1, gmx2, gmx3, gmx4⟩ := qbz (hx2)
        rw [hw2, hgm] at gmx0 gmx1 gmx2 gmx3 gmx4
        have ca2 := qak ca hb2; have cb2 := qak cb hb2
        rw [hw2] at ca2 cb2
        have HE := qHd (qaq HE.out hb2); have HO := qHd (qaq HO.out hb2); have HB := qHd (qac HB.out (Nat.le_refl _) hb2)
        clear hb2 hx2 hIm hmb
        cases fb
        ·go_wp2_with fail
         rw [← hw2]
         go_roundw
         case rel => exact ⟨k + 1, ch, e, by omega, by go_num, rfl, HE, HO, MK, HB, qHd (NX.out (fun e => by cases e)), CT⟩
         case measure => simp [intOf]; omega
        ·cases fa
         ·go_wp2_with (with_reducible refine qaz 4 ?_)
          rw [← hw2]
          clear hw2 hgm m0 m1 m2 m3 m4 ca2 cb2 ca cb
          clear gmx0 gmx1 gmx2 gmx3 gmx4
          obtain ⟨cs, hcs, hcz⟩ := ownB_block HE.out
          refine wpList_stB g9 m.a hcs rfl rfl (by omega) (by kernel_rfl) ?_
          intro w6 hp6
          obtain ⟨hE6, st6⟩ := ownB_put HE.out MK.out.len ha1 hp6
          have hx := fun i => dnf_set (l := e) (j := m.a) (b := true) (by rw [MK.out.len]; exact ha1) i
          have MK2 := qHd (show Mk2 n ms dn (e.set m.a true) from ⟨by rw [List.length_set]; exact MK.out.len, fun i hi => by
           rw [hx] at hi
           by_cases q : i = m.a
           ·rw [q]; exact .step m HME.out (MK.out.snd m.b HFB.out.symm)
           ·rw [if_neg q] at hi; exact MK.out.snd i hi, fun i hi => by
           rw [hx]; split
           ·rfl
           ·exact MK.out.dwn i hi⟩)
          have CT2 := qHd (show cntN (dnf (e.set m.a true)) n < cntN (dnf e0) n by
           have h1 := cntN_set (f := dnf e) (j := m.a) HFA.out.symm n
           rw [if_pos ha1] at h1
           have h2 := cntN_congr (f := dnf (e.set m.a true)) n (fun i _ => hx i)
           have h3 := CT.out.1
           omega)
          have HE := qHd hE6
          have HO := qHd (HO.out.kept st6.gr (fun z hz q => by have h1 : g5 = z := Option.some.inj hz; have h2 : g9 = z := Option.some.inj q; omega))
          have HB := qHd (st6.low HB.out HB.out.size l9)
          clear hE6 st6 hp6 hcs hcz hx
          go_wp2_with fail
          go_roundw
          case rel => exact ⟨k + 1, true, _, by omega, by go_num, rfl, HE, HO, MK2, HB, qHd (fun e => by cases e), qHd ⟨Nat.le_of_lt CT2.out, fun _ => CT2.out⟩⟩
          case measure => simp [intOf]; omega
         ·go_wp2_with fail
          rw [← hw2]
          go_roundw
          case rel => exact ⟨k + 1, ch, e, by omega, by go_num, rfl, HE, HO, MK, HB, qHd (NX.out (fun _ => rfl)), CT⟩
          case measure => simp [intOf]; omega
       ·have hk' : k = ms.length := by omega
        subst hk'
        have CK := qHd (show ch = false → Clo2 ms e from fun h m hm => CK.out h m (by rw [List.take_length]; exact hm))
        have HCN2 := qHd (opn_eq HE.out MK.out.len)
        go_wp2_with fail
        go_roundw
        case rel => exact ⟨ch, e, rfl, HE, HO, MK, HB, CK⟩
        case measure =>
         rw [HCN2.out, HCNT.out]
         have h1 := CT.out.1; have h2 := CT.out.2
         cases ch
         ·simp [isT]; omega
         ·have := h2 rfl
          simp [isT]; omega
   ·have HCNT := qHd (opn_eq HO.out MK.out.len)
    obtain ⟨gcx0, gcx1, gcx2, gcx3⟩ := qbn (qab G_gc.out HB.out)
    go_wp2_with (with_reducible first | refine qah ?_ | refine qae ?_)
    clear gcx0 gcx1 gcx2 gcx3
    refine qal.mk ?_
    go_loopw [38, 6] (fun i' cv wx => ∃ (k : Nat) (ch : Bool) (l : List Bool), k ≤ ms.length ∧ i' = .int .i64 k ∧ cv = .bool ch ∧ Hid (qbm wx W.heap.size 4 1 (.slice (some ⟨g5, 0, none⟩) n n) n (bls l)) ∧ Hid (Mk n ms dn s0 l) ∧ Hid (Below W.heap.size W wx) ∧ Hid (ch = false → ∀ m ∈ ms.take k, dnf l m.a = true → dnf dn m.b = false → dnf l m.b = true) ∧ Hid (cntN (dnf l) n ≤ cntN (dnf l0) n ∧ (ch = true → cntN (dnf l) n < cntN (dnf l0) n))) (fun i' _ _ => ms.length - (intOf i').toNat)
    case atStart => exact ⟨0, false, l0, Nat.zero_le _, rfl, rfl, HO, MK, HB, qHd (fun _ m hm => by simp at hm), qHd ⟨Nat.le_refl _, fun e => by cases e⟩⟩
    case round =>
     obtain ⟨k, ch, l, hk, rfl, rfl, HO, MK, HB, CK, CT⟩ := hrel
     obtain ⟨wo2, rfl⟩ : ∃ wo2 : World, wo2 = wr := ⟨_, rfl⟩
     by_cases hlt : k < ms.length
     ·have hltz : (k : Int) < (ms.length : Int) := by omega
      obtain ⟨m, hm⟩ : ∃ m, ms[k]? = some m := ⟨ms[k], List.getElem?_eq_getElem hlt⟩
      obtain ⟨mb, moff, rfl, hmb, _, hat⟩ := (HM.out.below HB.out).at (by omega)
      obtain ⟨sm, om, nm, cm, am, mm, dm, m0, m1, m2, m3, m4, hIm⟩ := hat k m hm
      clear hat
      have hmem := List.mem_of_getElem? hm
      obtain ⟨ha1, hb1, _, _⟩ := HG.out.ok.mv m hmem
      have haz : ((m.a : Nat) : Int) < (n : Int) := by omega
      have hbz : ((m.b : Nat) : Int) < (n : Int) := by omega
      have ca := ownB_cell HO.out MK.out.len ha1
      have cb := ownB_cell HO.out MK.out.len hb1
      obtain ⟨db2, doff2, e2, _, _, hdat⟩ := (HD2.out.below HB.out).at (by rw [HDL.out]; omega)
      cases e2
      have cd := hdat m.b _ (dnf_at (by rw [HDL.out]; exact hb1))
      clear hdat
      have hdl : ((m.b : Nat) : Int) < ((dn.length : Nat) : Int) := by rw [HDL.out]; omega
      obtain ⟨fa, hfa⟩ : ∃ b, b = dnf l m.a := ⟨_, rfl⟩
      obtain ⟨fb, hfb⟩ : ∃ b, b = dnf l m.b := ⟨_, rfl⟩
      obtain ⟨fd, hfd⟩ : ∃ b, b = dnf dn m.b := ⟨_, rfl⟩
      rw [← hfa] at ca
      rw [← hfb] at cb
      rw [← hfd] at cd
      have HFA := qHd hfa; have HFB := qHd hfb; have HFD := qHd hfd; have HME := qHd hmem
      have NX := qHd (fun (h : fa = true → fd = false → fb = true) (hch : ch = false) => (show ∀ x ∈ ms.take (k + 1), dnf l x.a = true → dnf dn x.b = false → dnf l x.b = true from fun x hx => by
       rw [take_next hm, List.mem_append, List.mem_singleton] at hx
       rcases hx with hx | hx
       ·exact CK.out hch x hx
       ·rw [hx, ← hfa, ← hfb, ← hfd]; exact h))
      clear hfa hfb hfd hm hmem
      obtain ⟨w2, hw2, hb2, hx2⟩ := qBx3 wo2 (.cells #[.int .i64 (m.a : Nat), .int .i64 (m.b : Nat), .bool sm, .slice om nm cm, .slice am mm dm] 45)
      obtain ⟨gm, hgm⟩ : ∃ g, g = wo2.heap.size := ⟨_, rfl⟩
      have lm : W.heap.size ≤ gm := by rw [hgm]; exact HB.out.size
      rw [← hgm] at hx2
      have G_gm := qHd hx2
      obtain ⟨gmx0, gmx1, gmx2, gmx3, gmx4⟩ := qbz (hx2)
      rw [hw2, hgm] at gmx0 gmx1 gmx2 gmx3 gmx4
      obtain ⟨gcx0, gcx1, gcx2, gcx3⟩ := qbn (qab (qab G_gc.out HB.out) hb2)
      rw [hw2] at gcx0 gcx1 gcx2 gcx3
      have ca2 := qak ca hb2; have cb2 := qak cb hb2; have cd2 := qak cd hb2
      rw [hw2] at ca2 cb2 cd2
      have HO := qHd (qaq HO.out hb2); have HB := qHd (qac HB.out (Nat.le_refl _) hb2)
      clear hb2 hx2 hIm hmb
      cases fa
      ·go_wp2_with fail
       rw [← hw2]
       go_roundw
       case rel => exact ⟨k + 1, ch, l, by omega, by go_num, rfl, HO, MK, HB, qHd (NX.out (fun e => by cases e)), CT⟩
       case measure => simp [intOf]; omega
      ·cases fb
       ·cases fd
        ·go_wp2_with (with_reducible refine qaz 4 ?_)
         rw [← hw2]
         clear hw2 hgm m0 m1 m2 m3 m4 ca2 cb2 cd2 ca cb cd
         clear gmx0 gmx1 gmx2 gmx3 gmx4 gcx0 gcx1 gcx2 gcx3
         obtain ⟨cs, hcs, hcz⟩ := ownB_block HO.out
         refine wpList_stB g5 m.b hcs rfl rfl (by omega) (by kernel_rfl) ?_
         intro w6 hp6
         obtain ⟨hO6, st6⟩ := ownB_put HO.out MK.out.len hb1 hp6
         have hx := fun i => dnf_set (l := l) (j := m.b) (b := true) (by rw [MK.out.len]; exact hb1) i
         have MK2 := qHd (show Mk n ms dn s0 (l.set m.b true) from ⟨by rw [List.length_set]; exact MK.out.len, fun i hi => by
          rw [hx] at hi
          by_cases q : i = m.b
          ·rw [q]; exact .step m (MK.out.snd m.a HFA.out.symm) HME.out HFD.out.symm
          ·rw [if_neg q] at hi; exact MK.out.snd i hi, by
          rw [hx]
          by_cases q : s0 = m.b
          ·rw [if_pos q, q, ← HFD.out]; rfl
          ·rw [if_neg q]; exact MK.out.st⟩)
         have CT2 := qHd (show cntN (dnf (l.set m.b true)) n < cntN (dnf l0) n by
          have h1 := cntN_set (f := dnf l) (j := m.b) HFB.out.symm n
          rw [if_pos hb1] at h1
          have h2 := cntN_congr (f := dnf (l.set m.b true)) n (fun i _ => hx i)
          have h3 := CT.out.1
          omega)
         have HO := qHd hO6
         have HB := qHd (st6.low HB.out HB.out.size l5)
         clear hO6 st6 hp6 hcs hcz hx
         go_wp2_with fail
         go_roundw
         case rel => exact ⟨k + 1, true, _, by omega, by go_num, rfl, HO, MK2, HB, qHd (fun e => by cases e), qHd ⟨Nat.le_of_lt CT2.out, fun _ => CT2.out⟩⟩
         case measure => simp [intOf]; omega
        ·go_wp2_with fail
         rw [← hw2]
         go_roundw
         case rel => exact ⟨k + 1, ch, l, by omega, by go_num, rfl, HO, MK, HB, qHd (NX.out (fun _ e => by cases e)), CT⟩
         case measure => simp [intOf]; omega
       ·go_wp2_with fail
        rw [← hw2]
        go_roundw
        case rel => exact ⟨k + 1, ch, l, by omega, by go_num, rfl, HO, MK, HB, qHd (NX.out (fun _ _ => rfl)), CT⟩
        case measure => simp [intOf]; omega
     ·have hk' : k = ms.length := by omega
      subst hk'
      have CK := qHd (show ch = false → Clo ms dn l from fun h m hm => CK.out h m (by rw [List.take_length]; exact hm))
      have HCN2 := qHd (opn_eq HO.out MK.out.len)
      go_wp2_with fail
      go_roundw
      case rel => exact ⟨ch, l, rfl, HO, MK, HB, CK⟩
      case measure =>
       rw [HCN2.out, HCNT.out]
       have h1 := CT.out.1; have h2 := CT.out.2
       cases ch
       ·simp [isT]; omega
       ·have := h2 rfl
        simp [isT]; omega
end Go.Proofs.YtblekfkmianmeaaGreatDoor
