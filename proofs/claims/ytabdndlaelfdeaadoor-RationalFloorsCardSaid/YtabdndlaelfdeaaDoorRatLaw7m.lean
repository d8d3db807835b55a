/-
  RationalFloors: the walk of the statement.
  Conditions: each theorem's own.
-/
import Derived.Test.YtabdndlaelfdeaaDoorRatLaw5m
namespace Go.Proofs.YtabdndlaelfdeaaDoor
open Go.RowKit Go.ChangeShapes Go.WideShapes

theorem fl_le (p : Rat) : fl p ≤ p := Rat.floor_le p
theorem lt_fl (p : Rat) : p < fl p + 1 := by
  have h := Rat.lt_floor_add_one p
  have e : ((p.floor + 1 : Int) : Rat) = fl p + 1 := by unfold fl; rw [Rat.intCast_add]; rfl
  rw [← e]; exact h
theorem fl_fl (p : Rat) : fl (fl p) = fl p := by
  unfold fl; rw [Rat.floor_intCast]
theorem dn_fl (p : Rat) : dn (fl p) = if fl p = 0 then 0 else 1 := by
  unfold dn
  split
  · rfl
  · unfold fl; rw [Rat.den_intCast]
theorem rd_up {p k : Rat} (hk : 0 < k) : fl (p * k) / k * k = fl (p * k) := by
  have : k ≠ 0 := by grind
  grind
theorem rd_le {p k : Rat} (hk : 0 < k) : fl (p * k) / k ≤ p := by
  have h := fl_le (p * k)
  rw [Rat.div_def]
  have hi : 0 < k⁻¹ := Rat.inv_pos.2 hk
  have h2 := Rat.mul_le_mul_of_nonneg_right h (Rat.le_of_lt hi)
  have e : p * k * k⁻¹ = p := by rw [Rat.mul_assoc, Rat.mul_inv_cancel k (by grind), Rat.mul_one]
  rwa [e] at h2

set_option maxRecDepth 100000 in
set_option maxHeartbeats 12800000 in
theorem floors_small0 (vp : Value) (p : Rat) (d : Nat) (w : World) (hp : RatIs w vp p) (lp : rl p ≤ 12) (zp : (szR vp).1 ≤ 12 ∧ (szR vp).2 ≤ 12) (hd : d < 65536) (h0 : fl p = 0) :
    Calls Tryd.prog 10 #[vp, .int .u16 (d : Nat)] w (RetV w (.bool true)) := by
  obtain ⟨sp, op, np, cp, ap, mp, dp, rfl⟩ := hp.shape
  have hlp := hp.rl
  have q1 := cq_le (fl p) p
  have hfle := q1.2 (fl_le p)
  have hlt : 0 < cq (fl p + 1) p := by rw [cq_gt]; exact lt_fl p
  have kf := rl_fl p
  have hdn := dn_fl p
  rw [if_pos h0] at hdn
  obtain ⟨K, hK⟩ : ∃ K : Int, K = 1 + (d : Int) := ⟨_, rfl⟩
  have kk := rl_small (n := K) (by omega) (by omega)
  have hkp : (0 : Rat) < (K : Rat) := by rw [show (0 : Rat) = ((0 : Int) : Rat) from rfl, Rat.intCast_lt_intCast]; omega
  obtain ⟨k, hk⟩ : ∃ k : Rat, k = (K : Rat) := ⟨_, rfl⟩
  have hrC : rdC K = 0 := by unfold rdC; rw [if_neg (by omega)]
  have hrV : rdV p K = fl (p * k) / k := by unfold rdV; rw [if_pos hrC, hk]
  rw [← hk] at kk hkp
  obtain ⟨G, hG⟩ : ∃ G, G = fl (p * k) := ⟨_, rfl⟩
  have r1 : G / k * k = G := by rw [hG]; exact rd_up hkp
  have r2 : cq (G / k) p ≤ 0 := by rw [cq_le, hG]; exact rd_le hkp
  have r3 : fl G = G := by rw [hG]; exact fl_fl _
  have r4 : 0 < cq (G + 1) (p * k) := by rw [cq_gt, hG]; exact lt_fl _
  rw [← hG] at hrV
  have m1 := rl_mul p k; have m2 := rl_fl (p * k); rw [← hG] at m2; have m3 := rl_div' G k; have m4 := rl_add G 1; rw [rl_one] at m4
  have m5 := rl_add (fl p) 1; rw [rl_one] at m5
  obtain ⟨F, hF⟩ : ∃ F, F = fl p := ⟨_, rfl⟩
  rw [← hF] at hfle hlt kf hdn m5
  obtain ⟨c1, hc1⟩ : ∃ c, c = cq F p := ⟨_, rfl⟩; obtain ⟨c2, hc2⟩ : ∃ c, c = cq (F + 1) p := ⟨_, rfl⟩; obtain ⟨c3, hc3⟩ : ∃ c, c = cq (G / k) p := ⟨_, rfl⟩; obtain ⟨c4, hc4⟩ : ∃ c, c = cq (G + 1) (p * k) := ⟨_, rfl⟩
  rw [← hc1] at hfle; rw [← hc2] at hlt; rw [← hc3] at r2; rw [← hc4] at r4
  have t1 : decide (0 < c1) = false := decide_eq_false (by omega); have t2 : decide (c2 ≤ 0) = false := decide_eq_false (by omega); have t3 : decide (c3 ≤ 0) = true := decide_eq_true r2; have t4 : decide (0 < c4) = true := decide_eq_true r4
  have hof := fun wx => ofq_any K wx (by omega) (by omega)
  have hor := fun wx (hx : RatIs wx (.agg #[.bool sp, .slice op np cp, .slice ap mp dp]) p) => round_any _ p K wx hx (by omega)
  rw [← hk] at hof; rw [hrV, hrC, errV_zero] at hor
  have r5 : (cq G G) = 0 := (cq_eq G G).2 rfl
  have r6 := (vld_self F).1
  have hr1 : rl ((1 : Int) : Rat) ≤ 2 := rl_small (by decide) (by decide)
  have HOF := Lib.hid hof; have HOR := Lib.hid hor; have HF := Lib.hid hF; have HC1 := Lib.hid hc1; have HC2 := Lib.hid hc2; have HC3 := Lib.hid hc3; have HC4 := Lib.hid hc4; have R1 := Lib.hid r1; have R3 := Lib.hid r3; have R5 := Lib.hid r5; have R6 := Lib.hid r6; have HDN := Lib.hid hdn
  have hK1 : 1 ≤ K := by omega
  have hK2 : K ≤ 65536 := by omega
  have HK := Lib.hid hK
  clear q1 hfle hlt hdn hK hkp hk hrC hrV hG r1 r2 r3 r4 hF hc1 hc2 hc3 hc4 hof hor r5 r6 h0
  have hb0 := ((Below.refl w.heap.size w).alloc (by first | (simp; done) | (simp; omega)) (.cells #[.bool sp, .slice op np cp, .slice ap mp dp] 24))
  have hxp := nest1_0 w (.cells #[.bool sp, .slice op np cp, .slice ap mp dp] 24)
  have hpp := hp.below hb0
  obtain ⟨w0, hw0⟩ : ∃ w0, w0 = (w.alloc (.cells #[.bool sp, .slice op np cp, .slice ap mp dp] 24)) := ⟨_, rfl⟩
  rw [← hw0] at hb0 hxp hpp
  have HB0 := Lib.hid hb0; have HW0 := Lib.hid hw0
  have BXp := Lib.hid hxp
  have Fp := Lib.hid hpp
  clear hb0 hw0 hxp hpp hp
  have zzp : np ≤ 12 ∧ mp ≤ 12 := zp; clear zp
  have _lp := lp
  go_enter Tryd.func10, Tryd.ntmps10
  have hs := awake02 w0
  have HS := Lib.hid hs; clear hs
  go_wp2_with fail
  rw [← HW0.out]
  (with_reducible refine HS.out.mono ?_); rintro e w1 ⟨rfl, hb1⟩
  clear HS
  have HB1 := Lib.hid (HB0.out.step hb1)
  have Fp := Lib.hid (Fp.out.below hb1)
  have BXp := Lib.hid (heap_below BXp.out hb1)
  clear hb1
  obtain ⟨ep0, ep1, ep2⟩ := row3 BXp.out
  obtain ⟨w2, hw2⟩ : ∃ w2, w2 = w1.alloc (.cells #[.bool sp, .slice op np cp, .slice ap mp dp] 24) := ⟨_, rfl⟩
  have hb2 : Below w1.heap.size w1 w2 := by rw [hw2]; exact (Below.refl _ _).alloc (Nat.le_refl _) _
  have hxLS := heap_alloc_new w1 (.cells #[.bool sp, .slice op np cp, .slice ap mp dp] 24)
  obtain ⟨gLS, hgLS⟩ : ∃ gLS, gLS = w1.heap.size := ⟨_, rfl⟩
  rw [← hw2, ← hgLS] at hxLS
  have HW2 := Lib.hid hw2; have HGLS := Lib.hid hgLS; clear hw2 hgLS
  have HB2 := Lib.hid (HB1.out.step hb2)
  have Fp := Lib.hid (Fp.out.below hb2)
  have BXp := Lib.hid (heap_below BXp.out hb2)
  clear hb2
  have BXLS := Lib.hid hxLS; clear hxLS
  have hs := rlarge1s BXLS.out zzp
  have HS := Lib.hid hs; clear hs
  go_wp2_with fail
  rw [← HW2.out]
  try rw [← HGLS.out]
  (with_reducible refine HS.out.mono ?_); rintro e w3 ⟨rfl, hb3⟩
  clear HS
  have HB3 := Lib.hid (HB2.out.step hb3)
  have Fp := Lib.hid (Fp.out.below hb3)
  have BXp := Lib.hid (heap_below BXp.out hb3)
  clear hb3
  clear BXLS
  have hs := floor_any _ p w3 Fp.out
  rw [← HF.out] at hs
  have HS := Lib.hid hs; clear hs
  obtain ⟨ep0, ep1, ep2⟩ := row3 BXp.out
  go_wp2_with fail
  clear ep0 ep1 ep2
  (with_reducible refine HS.out.mono ?_); rintro e w4 ⟨v4, rfl, hb4, hn4⟩
  clear HS
  have HB4 := Lib.hid (HB3.out.step hb4)
  have Fp := Lib.hid (Fp.out.below hb4)
  have BXp := Lib.hid (heap_below BXp.out hb4)
  have FF := Lib.hid hn4; clear hn4
  clear hb4
  obtain ⟨sFF, oFF, nFF, cFF, aFF, mFF, dFF, rfl⟩ := FF.out.shape
  obtain ⟨w5, hw5⟩ : ∃ w5, w5 = w4.alloc (.cells #[.bool sFF, .slice oFF nFF cFF, .slice aFF mFF dFF] 24) := ⟨_, rfl⟩
  have hb5 : Below w4.heap.size w4 w5 := by rw [hw5]; exact (Below.refl _ _).alloc (Nat.le_refl _) _
  have hxf := heap_alloc_new w4 (.cells #[.bool sFF, .slice oFF nFF cFF, .slice aFF mFF dFF] 24)
  obtain ⟨gf, hgf⟩ : ∃ gf, gf = w4.heap.size := ⟨_, rfl⟩
  rw [← hw5, ← hgf] at hxf
  have HW5 := Lib.hid hw5; have HGf := Lib.hid hgf; clear hw5 hgf
  have HB5 := Lib.hid (HB4.out.step hb5)
  have Fp := Lib.hid (Fp.out.below hb5)
  have FF := Lib.hid (FF.out.below hb5)
  have BXp := Lib.hid (heap_below BXp.out hb5)
  clear hb5
  have BXf := Lib.hid hxf; clear hxf
  have hfd := FF.out.fields.2.2; rw [HDN.out] at hfd
  rw [wd_zero] at hfd
  obtain rfl : mFF = 0 := by obtain ⟨_, _, e, _⟩ := hfd.shape; cases e; rfl
  clear hfd
  go_wp2_with fail
  rw [← HW5.out]
  try rw [← HGf.out]
  have lwp := below_lt BXp.out
  have lwf := below_lt BXf.out
  refine wp_region_facts (A := ?aa5) (w := w5) 35 [] (by kernel_rfl) (Fl [KEq (.agg #[.bool sFF, .slice oFF nFF cFF, .slice aFF 0 dFF]), KEq (.bool true), KEq (.bool false), KEq (.bool false), KEq (.pointer (some ⟨gf, 2, none⟩)), KEq (.slice aFF 0 dFF), KEq (.int .i64 0), KEq (.bool false), KEq (.bool false), KEq (.bool false), KEq (.pointer (some ⟨gf, 2, none⟩)), KEq (.slice aFF 0 dFF), KEq (.int .i64 0), KEq (.bool false), KEq (.bool false), KEq (undef), KEq (undef), KEq (undef), KEq (undef), KEq (undef), KEq (.bool false), KEq (.bool false), KEq (.bool false), KEq (.agg #[.bool sFF, .slice oFF nFF cFF, .slice aFF 0 dFF]), KEq (.agg #[.bool sp, .slice op np cp, .slice ap mp dp]), KEq (.int .i64 c1), KEq (.bool false), KEq (.bool false), KEq (.bool false), KEq (.agg #[.bool sFF, .slice oFF nFF cFF, .slice aFF 0 dFF]), KIs (((1 : Int) : Rat)), KIs (F + 1), KEq (.agg #[.bool sp, .slice op np cp, .slice ap mp dp]), KEq (.int .i64 c2), KEq (.bool false)]) (fun i => false) (by kernel_rfl) (fun _ _ _ _ _ h => h) (monoL (monoC (kEq _) (monoC (kEq _) (monoC (kEq _) (monoC (kEq _) (monoC (kEq _) (monoC (kEq _) (monoC (kEq _) (monoC (kEq _) (monoC (kEq _) (monoC (kEq _) (monoC (kEq _) (monoC (kEq _) (monoC (kEq _) (monoC (kEq _) (monoC (kEq _) (monoC (kEq _) (monoC (kEq _) (monoC (kEq _) (monoC (kEq _) (monoC (kEq _) (monoC (kEq _) (monoC (kEq _) (monoC (kEq _) (monoC (kEq _) (monoC (kEq _) (monoC (kEq _) (monoC (kEq _) (monoC (kEq _) (monoC (kEq _) (monoC (kEq _) (monoC (kIs _) (monoC (kIs _) (monoC (kEq _) (monoC (kEq _) (monoC (kEq _) monoN)))))))))))))))))))))))))))))))))))) ?ha5 ?st5 ?tl5
  case ha5 =>
    intro vals
    simp only [putsTo, dstOf, if_true, Act.put, List.setIfInBounds_toArray, List.set_cons_zero, List.set_cons_succ, List.getElem?_toArray, List.getElem?_cons_zero, List.getElem?_cons_succ, Option.bind_some]
    exact rfl
  case st5 =>
    simp only [List.take_succ_cons, List.take_zero]
    refine stepsOK_cons rfl rfl ?_ (stepsOK_cons rfl rfl ?_ (stepsOK_cons rfl rfl ?_ (stepsOK_cons rfl rfl ?_ (stepsOK_guard rfl ?_ (stepsOK_guard rfl ?_ (stepsOK_guard rfl ?_ (stepsOK_guard rfl ?_ (stepsOK_cons rfl rfl ?_ (stepsOK_cons rfl rfl ?_ (stepsOK_guard rfl ?_ (stepsOK_guard rfl ?_ (stepsOK_guard rfl ?_ (stepsOK_guard rfl ?_ (stepsOK_guard rfl ?_ (stepsOK_guard rfl ?_ (stepsOK_guard rfl ?_ (stepsOK_guard rfl ?_ (stepsOK_guard rfl ?_ (stepsOK_guard rfl ?_ (stepsOK_guard rfl ?_ (stepsOK_cons rfl rfl ?_ (stepsOK_cons rfl rfl ?_ (stepsOK_guard rfl ?_ (stepsOK_guard rfl ?_ (stepsOK_guard rfl ?_ (stepsOK_guard rfl ?_ (stepsOK_cons rfl rfl ?_ (stepsOK_cons rfl rfl ?_ (stepsOK_guard rfl ?_ (stepsOK_guard rfl ?_ (stepsOK_guard rfl ?_ (stepsOK_guard rfl ?_ (stepsOK_guard rfl ?_ (stepsOK_guard rfl ?_ (stepsOK_nil)))))))))))))))))))))))))))))))))))
    · intro vals w1 hb hd
      obtain ⟨e0, e1, e2⟩ := row3 (heap_below BXf.out hb)
      refine stepOK_value (v := .agg #[.bool sFF, .slice oFF nFF cFF, .slice aFF 0 dFF]) (w' := w1) (by go_simp) (leaves_mk (Below.refl _ _) rfl (fun h => by cases h))
    · intro vals w1 hb hd
      have d0 : KEq (.agg #[.bool sFF, .slice oFF nFF cFF, .slice aFF 0 dFF]) (vals 0) w1 := hd 0 (by kernel_rfl)
      have r0 : RatIs w1 (vals 0) (F) := by rw [show vals 0 = _ from d0]; exact (FF.out.is (by omega)).below hb
      have hs := valid_any (vals 0) (ng F) (wd (nn F)) (wd (dn F)) w1 (by rw [show vals 0 = _ from d0]; exact FF.out.below hb) (by have := rl_n F; omega) (by have := dn_len F; omega)
      rw [decide_eq_true R6.out] at hs
      have HS := Lib.hid hs; clear hs
      clear d0 hd
      refine stepOK_call (by go_simp; first | done | exact ⟨⟨rfl, rfl⟩, rfl⟩) ?_
      (with_reducible refine HS.out.mono ?_); rintro e w2 ⟨rfl, hb2⟩
      exact ⟨_, rfl, leaves_mk hb2 rfl (fun h => by cases h)⟩
    · intro vals w1 hb hd
      have d1 : KEq (.bool true) (vals 1) w1 := hd 1 (by kernel_rfl)
      rw [show vals 1 = _ from d1]
      refine stepOK_value (v := .bool false) (w' := w1) (by go_simp) (leaves_mk (Below.refl _ _) rfl (fun h => by cases h))
    · intro vals w1 hb hd
      have d2 : KEq (.bool false) (vals 2) w1 := hd 2 (by kernel_rfl)
      rw [show vals 2 = _ from d2]
      refine stepOK_value (v := .bool false) (w' := w1) (by go_simp) (leaves_mk (Below.refl _ _) rfl (fun h => by cases h))
    · intro vals w1 hb hd
      have dg : KEq (.bool false) (vals 3) w1 := hd 3 (by kernel_rfl)
      refine stepG_yes (wanted_of rfl rfl (congrArg some dg) rfl) ?_
      clear dg
      refine stepOK_value (v := .pointer (some ⟨gf, 2, none⟩)) (w' := w1) (by go_simp) (leaves_mk (Below.refl _ _) rfl (fun h => by cases h))
    · intro vals w1 hb hd
      have d4 : KEq (.pointer (some ⟨gf, 2, none⟩)) (vals 4) w1 := hd 4 (by kernel_rfl)
      have dg : KEq (.bool false) (vals 3) w1 := hd 3 (by kernel_rfl)
      refine stepG_yes (wanted_of rfl rfl (congrArg some dg) rfl) ?_
      clear dg
      rw [show vals 4 = _ from d4]
      obtain ⟨ef0, ef1, ef2⟩ := row3 (heap_below BXf.out hb)
      refine stepOK_value (v := .slice aFF 0 dFF) (w' := w1) (by go_simp) (leaves_mk (Below.refl _ _) rfl (fun h => by cases h))
    · intro vals w1 hb hd
      have d5 : KEq (.slice aFF 0 dFF) (vals 5) w1 := hd 5 (by kernel_rfl)
      have dg : KEq (.bool false) (vals 3) w1 := hd 3 (by kernel_rfl)
      refine stepG_yes (wanted_of rfl rfl (congrArg some dg) rfl) ?_
      clear dg
      rw [show vals 5 = _ from d5]
      refine stepOK_value (v := .int .i64 0) (w' := w1) (by go_simp) (leaves_mk (Below.refl _ _) rfl (fun h => by cases h))
    · intro vals w1 hb hd
      have d6 : KEq (.int .i64 0) (vals 6) w1 := hd 6 (by kernel_rfl)
      have dg : KEq (.bool false) (vals 3) w1 := hd 3 (by kernel_rfl)
      refine stepG_yes (wanted_of rfl rfl (congrArg some dg) rfl) ?_
      clear dg
      rw [show vals 6 = _ from d6]
      refine stepOK_value (v := .bool false) (w' := w1) (by go_simp) (leaves_mk (Below.refl _ _) rfl (fun h => by cases h))
    · intro vals w1 hb hd
      have d3 : KEq (.bool false) (vals 3) w1 := hd 3 (by kernel_rfl)
      have d7 : KEq (.bool false) (vals 7) w1 := hd 7 (by kernel_rfl)
      rw [show vals 3 = _ from d3]
      rw [show vals 7 = _ from d7]
      refine stepOK_value (v := .bool false) (w' := w1) (by go_simp) (leaves_mk (Below.refl _ _) rfl (fun h => by cases h))
    · intro vals w1 hb hd
      have d8 : KEq (.bool false) (vals 8) w1 := hd 8 (by kernel_rfl)
      rw [show vals 8 = _ from d8]
      refine stepOK_value (v := .bool false) (w' := w1) (by go_simp) (leaves_mk (Below.refl _ _) rfl (fun h => by cases h))
    · intro vals w1 hb hd
      have dg : KEq (.bool false) (vals 9) w1 := hd 9 (by kernel_rfl)
      refine stepG_yes (wanted_of rfl rfl (congrArg some dg) rfl) ?_
      clear dg
      refine stepOK_value (v := .pointer (some ⟨gf, 2, none⟩)) (w' := w1) (by go_simp) (leaves_mk (Below.refl _ _) rfl (fun h => by cases h))
    · intro vals w1 hb hd
      have d10 : KEq (.pointer (some ⟨gf, 2, none⟩)) (vals 10) w1 := hd 10 (by kernel_rfl)
      have dg : KEq (.bool false) (vals 9) w1 := hd 9 (by kernel_rfl)
      refine stepG_yes (wanted_of rfl rfl (congrArg some dg) rfl) ?_
      clear dg
      rw [show vals 10 = _ from d10]
      obtain ⟨ef0, ef1, ef2⟩ := row3 (heap_below BXf.out hb)
      refine stepOK_value (v := .slice aFF 0 dFF) (w' := w1) (by go_simp) (leaves_mk (Below.refl _ _) rfl (fun h => by cases h))
    · intro vals w1 hb hd
      have d11 : KEq (.slice aFF 0 dFF) (vals 11) w1 := hd 11 (by kernel_rfl)
      have dg : KEq (.bool false) (vals 9) w1 := hd 9 (by kernel_rfl)
      refine stepG_yes (wanted_of rfl rfl (congrArg some dg) rfl) ?_
      clear dg
      rw [show vals 11 = _ from d11]
      refine stepOK_value (v := .int .i64 0) (w' := w1) (by go_simp) (leaves_mk (Below.refl _ _) rfl (fun h => by cases h))
    · intro vals w1 hb hd
      have d12 : KEq (.int .i64 0) (vals 12) w1 := hd 12 (by kernel_rfl)
      have dg : KEq (.bool false) (vals 9) w1 := hd 9 (by kernel_rfl)
      refine stepG_yes (wanted_of rfl rfl (congrArg some dg) rfl) ?_
      clear dg
      rw [show vals 12 = _ from d12]
      refine stepOK_value (v := .bool false) (w' := w1) (by go_simp) (leaves_mk (Below.refl _ _) rfl (fun h => by cases h))
    · intro vals w1 hb hd
      have d13 : KEq (.bool false) (vals 13) w1 := hd 13 (by kernel_rfl)
      have dg : KEq (.bool false) (vals 9) w1 := hd 9 (by kernel_rfl)
      refine stepG_yes (wanted_of rfl rfl (congrArg some dg) rfl) ?_
      clear dg
      rw [show vals 13 = _ from d13]
      refine stepOK_value (v := .bool false) (w' := w1) (by go_simp) (leaves_mk (Below.refl _ _) rfl (fun h => by cases h))
    · intro vals w1 hb hd
      have dg : KEq (.bool false) (vals 14) w1 := hd 14 (by kernel_rfl)
      refine stepG_no (unwanted_of rfl rfl (congrArg some dg) rfl) ?_
      clear dg
      exact leaves_mk (Below.refl _ _) rfl (fun h => by cases h)
    · intro vals w1 hb hd
      have dg : KEq (.bool false) (vals 14) w1 := hd 14 (by kernel_rfl)
      refine stepG_no (unwanted_of rfl rfl (congrArg some dg) rfl) ?_
      clear dg
      exact leaves_mk (Below.refl _ _) rfl (fun h => by cases h)
    · intro vals w1 hb hd
      have dg : KEq (.bool false) (vals 14) w1 := hd 14 (by kernel_rfl)
      refine stepG_no (unwanted_of rfl rfl (congrArg some dg) rfl) ?_
      clear dg
      exact leaves_mk (Below.refl _ _) rfl (fun h => by cases h)
    · intro vals w1 hb hd
      have dg : KEq (.bool false) (vals 14) w1 := hd 14 (by kernel_rfl)
      refine stepG_no (unwanted_of rfl rfl (congrArg some dg) rfl) ?_
      clear dg
      exact leaves_mk (Below.refl _ _) rfl (fun h => by cases h)
    · intro vals w1 hb hd
      have dg : KEq (.bool false) (vals 14) w1 := hd 14 (by kernel_rfl)
      refine stepG_no (unwanted_of rfl rfl (congrArg some dg) rfl) ?_
      clear dg
      exact leaves_mk (Below.refl _ _) rfl (fun h => by cases h)
    · intro vals w1 hb hd
      have d14 : KEq (.bool false) (vals 14) w1 := hd 14 (by kernel_rfl)
      have d19 : KEq (undef) (vals 19) w1 := hd 19 (by kernel_rfl)
      have dg : KEq (.bool false) (vals 9) w1 := hd 9 (by kernel_rfl)
      refine stepG_yes (wanted_of rfl rfl (congrArg some dg) rfl) ?_
      clear dg
      rw [show vals 14 = _ from d14]
      rw [show vals 19 = _ from d19]
      refine stepOK_value (v := .bool false) (w' := w1) (by go_simp) (leaves_mk (Below.refl _ _) rfl (fun h => by cases h))
    · intro vals w1 hb hd
      have d9 : KEq (.bool false) (vals 9) w1 := hd 9 (by kernel_rfl)
      have d20 : KEq (.bool false) (vals 20) w1 := hd 20 (by kernel_rfl)
      rw [show vals 9 = _ from d9]
      rw [show vals 20 = _ from d20]
      refine stepOK_value (v := .bool false) (w' := w1) (by go_simp) (leaves_mk (Below.refl _ _) rfl (fun h => by cases h))
    · intro vals w1 hb hd
      have d21 : KEq (.bool false) (vals 21) w1 := hd 21 (by kernel_rfl)
      rw [show vals 21 = _ from d21]
      refine stepOK_value (v := .bool false) (w' := w1) (by go_simp) (leaves_mk (Below.refl _ _) rfl (fun h => by cases h))
    · intro vals w1 hb hd
      have dg : KEq (.bool false) (vals 22) w1 := hd 22 (by kernel_rfl)
      refine stepG_yes (wanted_of rfl rfl (congrArg some dg) rfl) ?_
      clear dg
      obtain ⟨e0, e1, e2⟩ := row3 (heap_below BXf.out hb)
      refine stepOK_value (v := .agg #[.bool sFF, .slice oFF nFF cFF, .slice aFF 0 dFF]) (w' := w1) (by go_simp) (leaves_mk (Below.refl _ _) rfl (fun h => by cases h))
    · intro vals w1 hb hd
      have dg : KEq (.bool false) (vals 22) w1 := hd 22 (by kernel_rfl)
      refine stepG_yes (wanted_of rfl rfl (congrArg some dg) rfl) ?_
      clear dg
      obtain ⟨e0, e1, e2⟩ := row3 (heap_below BXp.out hb)
      refine stepOK_value (v := .agg #[.bool sp, .slice op np cp, .slice ap mp dp]) (w' := w1) (by go_simp) (leaves_mk (Below.refl _ _) rfl (fun h => by cases h))
    · intro vals w1 hb hd
      have d23 : KEq (.agg #[.bool sFF, .slice oFF nFF cFF, .slice aFF 0 dFF]) (vals 23) w1 := hd 23 (by kernel_rfl)
      have r23 : RatIs w1 (vals 23) (F) := by rw [show vals 23 = _ from d23]; exact (FF.out.is (by omega)).below hb
      have d24 : KEq (.agg #[.bool sp, .slice op np cp, .slice ap mp dp]) (vals 24) w1 := hd 24 (by kernel_rfl)
      have r24 : RatIs w1 (vals 24) (p) := by rw [show vals 24 = _ from d24]; exact Fp.out.below hb
      have dg : KEq (.bool false) (vals 22) w1 := hd 22 (by kernel_rfl)
      refine stepG_yes (wanted_of rfl rfl (congrArg some dg) rfl) ?_
      clear dg
      have hs := cmpq_any _ F _ p w1 r23 r24 (by omega) (by omega)
      rw [← HC1.out] at hs
      have HS := Lib.hid hs; clear hs
      clear d23 d24 hd
      refine stepOK_call (by go_simp; first | done | exact ⟨⟨rfl, rfl⟩, rfl⟩) ?_
      (with_reducible refine HS.out.mono ?_); rintro e w2 ⟨rfl, hb2⟩
      exact ⟨_, rfl, leaves_mk hb2 rfl (fun h => by cases h)⟩
    · intro vals w1 hb hd
      have d25 : KEq (.int .i64 c1) (vals 25) w1 := hd 25 (by kernel_rfl)
      have dg : KEq (.bool false) (vals 22) w1 := hd 22 (by kernel_rfl)
      refine stepG_yes (wanted_of rfl rfl (congrArg some dg) rfl) ?_
      clear dg
      rw [show vals 25 = _ from d25]
      refine stepOK_value (v := .bool false) (w' := w1) (by go_simp) (leaves_mk (Below.refl _ _) rfl (fun h => by cases h))
    · intro vals w1 hb hd
      have d22 : KEq (.bool false) (vals 22) w1 := hd 22 (by kernel_rfl)
      have d26 : KEq (.bool false) (vals 26) w1 := hd 26 (by kernel_rfl)
      rw [show vals 22 = _ from d22]
      rw [show vals 26 = _ from d26]
      refine stepOK_value (v := .bool false) (w' := w1) (by go_simp) (leaves_mk (Below.refl _ _) rfl (fun h => by cases h))
    · intro vals w1 hb hd
      have d27 : KEq (.bool false) (vals 27) w1 := hd 27 (by kernel_rfl)
      rw [show vals 27 = _ from d27]
      refine stepOK_value (v := .bool false) (w' := w1) (by go_simp) (leaves_mk (Below.refl _ _) rfl (fun h => by cases h))
    · intro vals w1 hb hd
      have dg : KEq (.bool false) (vals 28) w1 := hd 28 (by kernel_rfl)
      refine stepG_yes (wanted_of rfl rfl (congrArg some dg) rfl) ?_
      clear dg
      obtain ⟨e0, e1, e2⟩ := row3 (heap_below BXf.out hb)
      refine stepOK_value (v := .agg #[.bool sFF, .slice oFF nFF cFF, .slice aFF 0 dFF]) (w' := w1) (by go_simp) (leaves_mk (Below.refl _ _) rfl (fun h => by cases h))
    · intro vals w1 hb hd
      have dg : KEq (.bool false) (vals 28) w1 := hd 28 (by kernel_rfl)
      refine stepG_yes (wanted_of rfl rfl (congrArg some dg) rfl) ?_
      clear dg
      have hs := ofq_any 1 w1 (by decide) (by decide)
      have HS := Lib.hid hs; clear hs
      refine stepOK_call (by go_simp; first | done | exact ⟨⟨rfl, rfl⟩, rfl⟩) ?_
      (with_reducible refine HS.out.mono ?_); rintro e w2 ⟨v, rfl, hb2, hn⟩
      exact ⟨v, rfl, leaves_mk hb2 hn (fun h => by cases h)⟩
    · intro vals w1 hb hd
      have d29 : KEq (.agg #[.bool sFF, .slice oFF nFF cFF, .slice aFF 0 dFF]) (vals 29) w1 := hd 29 (by kernel_rfl)
      have r29 : RatIs w1 (vals 29) (F) := by rw [show vals 29 = _ from d29]; exact (FF.out.is (by omega)).below hb
      have d30 : KIs (((1 : Int) : Rat)) (vals 30) w1 := hd 30 (by kernel_rfl)
      have r30 : RatIs w1 (vals 30) (((1 : Int) : Rat)) := IsR.is d30 (by omega)
      have dg : KEq (.bool false) (vals 28) w1 := hd 28 (by kernel_rfl)
      refine stepG_yes (wanted_of rfl rfl (congrArg some dg) rfl) ?_
      clear dg
      have hs := addq_any _ F _ 1 w1 r29 r30
      have HS := Lib.hid hs; clear hs
      clear d29 d30 hd
      refine stepOK_call (by go_simp; first | done | exact ⟨⟨rfl, rfl⟩, rfl⟩) ?_
      (with_reducible refine HS.out.mono ?_); rintro e w2 ⟨v, rfl, hb2, hn⟩
      exact ⟨v, rfl, leaves_mk hb2 hn (fun h => by cases h)⟩
    · intro vals w1 hb hd
      have dg : KEq (.bool false) (vals 28) w1 := hd 28 (by kernel_rfl)
      refine stepG_yes (wanted_of rfl rfl (congrArg some dg) rfl) ?_
      clear dg
      obtain ⟨e0, e1, e2⟩ := row3 (heap_below BXp.out hb)
      refine stepOK_value (v := .agg #[.bool sp, .slice op np cp, .slice ap mp dp]) (w' := w1) (by go_simp) (leaves_mk (Below.refl _ _) rfl (fun h => by cases h))
    · intro vals w1 hb hd
      have d31 : KIs (F + 1) (vals 31) w1 := hd 31 (by kernel_rfl)
      have r31 : RatIs w1 (vals 31) (F + 1) := IsR.is d31 (by omega)
      have d32 : KEq (.agg #[.bool sp, .slice op np cp, .slice ap mp dp]) (vals 32) w1 := hd 32 (by kernel_rfl)
      have r32 : RatIs w1 (vals 32) (p) := by rw [show vals 32 = _ from d32]; exact Fp.out.below hb
      have dg : KEq (.bool false) (vals 28) w1 := hd 28 (by kernel_rfl)
      refine stepG_yes (wanted_of rfl rfl (congrArg some dg) rfl) ?_
      clear dg
      have hs := cmpq_any _ (F + 1) _ p w1 r31 r32 (by omega) (by omega)
      rw [← HC2.out] at hs
      have HS := Lib.hid hs; clear hs
      clear d31 d32 hd
      refine stepOK_call (by go_simp; first | done | exact ⟨⟨rfl, rfl⟩, rfl⟩) ?_
      (with_reducible refine HS.out.mono ?_); rintro e w2 ⟨rfl, hb2⟩
      exact ⟨_, rfl, leaves_mk hb2 rfl (fun h => by cases h)⟩
    · intro vals w1 hb hd
      have d33 : KEq (.int .i64 c2) (vals 33) w1 := hd 33 (by kernel_rfl)
      have dg : KEq (.bool false) (vals 28) w1 := hd 28 (by kernel_rfl)
      refine stepG_yes (wanted_of rfl rfl (congrArg some dg) rfl) ?_
      clear dg
      rw [show vals 33 = _ from d33]
      refine stepOK_value (v := .bool false) (w' := w1) (by go_simp) (leaves_mk (Below.refl _ _) rfl (fun h => by cases h))
  case tl5 =>
    intro vals w6 hb6 hf hdis
    simp only [List.drop_succ_cons, List.drop_zero]
    have ee28 : vals 28 = .bool false := hf 28 (by decide)
    rw [ee28]; clear ee28
    have ee34 : vals 34 = .bool false := hf 34 (by decide)
    rw [ee34]; clear ee34
    clear hf hdis
    have HB6 := Lib.hid (HB5.out.step hb6)
    have Fp := Lib.hid (Fp.out.below hb6)
    have FF := Lib.hid (FF.out.below hb6)
    have BXp := Lib.hid (heap_below BXp.out hb6)
    have BXf := Lib.hid (heap_below BXf.out hb6)
    clear hb6
    have hd2 : (1 : Int) + (d : Int) = K := HK.out.symm
    have hs := HOR.out w6 Fp.out
    have HS := Lib.hid hs; clear hs
    obtain ⟨ep0, ep1, ep2⟩ := row3 BXp.out
    go_wp2_with fail
    clear ep0 ep1 ep2
    (with_reducible refine HS.out.mono ?_); rintro e w7 ⟨v7, rfl, hb7, hn7⟩
    clear HS
    have HB7 := Lib.hid (HB6.out.step hb7)
    have Fp := Lib.hid (Fp.out.below hb7)
    have FF := Lib.hid (FF.out.below hb7)
    have BXp := Lib.hid (heap_below BXp.out hb7)
    have BXf := Lib.hid (heap_below BXf.out hb7)
    have X := Lib.hid hn7; clear hn7
    clear hb7
    clear hd2
    obtain ⟨sX, oX, nX, cX, aX, mX, dX, rfl⟩ := X.out.shape
    obtain ⟨w8, hw8⟩ : ∃ w8, w8 = w7.alloc (.cells #[.bool sX, .slice oX nX cX, .slice aX mX dX] 24) := ⟨_, rfl⟩
    have hb8 : Below w7.heap.size w7 w8 := by rw [hw8]; exact (Below.refl _ _).alloc (Nat.le_refl _) _
    have hxx := heap_alloc_new w7 (.cells #[.bool sX, .slice oX nX cX, .slice aX mX dX] 24)
    obtain ⟨gx, hgx⟩ : ∃ gx, gx = w7.heap.size := ⟨_, rfl⟩
    rw [← hw8, ← hgx] at hxx
    have HW8 := Lib.hid hw8; have HGx := Lib.hid hgx; clear hw8 hgx
    have HB8 := Lib.hid (HB7.out.step hb8)
    have Fp := Lib.hid (Fp.out.below hb8)
    have FF := Lib.hid (FF.out.below hb8)
    have X := Lib.hid (X.out.below hb8)
    have BXp := Lib.hid (heap_below BXp.out hb8)
    have BXf := Lib.hid (heap_below BXf.out hb8)
    clear hb8
    have BXx := Lib.hid hxx; clear hxx
    go_wp2_with fail
    rw [← HW8.out]
    try rw [← HGx.out]
    have lwp := below_lt BXp.out
    have lwf := below_lt BXf.out
    have lwx := below_lt BXx.out
    refine wp_region_facts (A := ?aa8) (w := w8) 5 [] (by kernel_rfl) (Fl [KEq (.agg #[.bool sX, .slice oX nX cX, .slice aX mX dX]), KEq (.int .i64 K), KIs (k), KIs (G), KBox w8.heap.size]) (fun i => i == 4) (by kernel_rfl) (fun _ _ _ _ _ h => h) (monoL (monoC (kEq _) (monoC (kEq _) (monoC (kIs _) (monoC (kIs _) (monoC (kBox _) monoN)))))) ?ha8 ?st8 ?tl8
    case ha8 =>
      intro vals
      simp only [putsTo, dstOf, if_true, Act.put, List.setIfInBounds_toArray, List.set_cons_zero, List.set_cons_succ, List.getElem?_toArray, List.getElem?_cons_zero, List.getElem?_cons_succ, Option.bind_some]
      exact rfl
    case st8 =>
      simp only [List.take_succ_cons, List.take_zero]
      refine stepsOK_cons rfl rfl ?_ (stepsOK_cons rfl rfl ?_ (stepsOK_cons rfl rfl ?_ (stepsOK_cons rfl rfl ?_ (stepsOK_cons rfl rfl ?_ (stepsOK_nil)))))
      · intro vals w1 hb hd
        obtain ⟨e0, e1, e2⟩ := row3 (heap_below BXx.out hb)
        refine stepOK_value (v := .agg #[.bool sX, .slice oX nX cX, .slice aX mX dX]) (w' := w1) (by go_simp) (leaves_mk (Below.refl _ _) rfl (fun h => by cases h))
      · intro vals w1 hb hd
        refine stepOK_value (v := .int .i64 K) (w' := w1) (by go_simp) (leaves_mk (Below.refl _ _) rfl (fun h => by cases h))
      · intro vals w1 hb hd
        have d1 : KEq (.int .i64 K) (vals 1) w1 := hd 1 (by kernel_rfl)
        rw [show vals 1 = _ from d1]
        have hs := HOF.out w1
        have HS := Lib.hid hs; clear hs
        clear d1 hd
        refine stepOK_call (by go_simp; first | done | exact ⟨⟨rfl, rfl⟩, rfl⟩) ?_
        (with_reducible refine HS.out.mono ?_); rintro e w2 ⟨v, rfl, hb2, hn⟩
        exact ⟨v, rfl, leaves_mk hb2 hn (fun h => by cases h)⟩
      · intro vals w1 hb hd
        have d0 : KEq (.agg #[.bool sX, .slice oX nX cX, .slice aX mX dX]) (vals 0) w1 := hd 0 (by kernel_rfl)
        have r0 : RatIs w1 (vals 0) (G / k) := by rw [show vals 0 = _ from d0]; exact (X.out.is (by omega)).below hb
        have d2 : KIs (k) (vals 2) w1 := hd 2 (by kernel_rfl)
        have r2 : RatIs w1 (vals 2) (k) := IsR.is d2 (by omega)
        have hs := mulq_any _ _ _ _ w1 r0 r2
        rw [R1.out] at hs
        have HS := Lib.hid hs; clear hs
        clear d0 d2 hd
        refine stepOK_call (by go_simp; first | done | exact ⟨⟨rfl, rfl⟩, rfl⟩) ?_
        (with_reducible refine HS.out.mono ?_); rintro e w2 ⟨v, rfl, hb2, hn⟩
        exact ⟨v, rfl, leaves_mk hb2 hn (fun h => by cases h)⟩
      · intro vals w1 hb hd
        refine stepOK_value (v := .pointer (some ⟨w1.heap.size, 0, none⟩)) (w' := w1.alloc (.cells #[.bool false, .slice none 0 0, .slice none 0 0] 24)) (by go_simp) (leaves_mk ((Below.refl _ _).alloc (Nat.le_refl _) _) ⟨_, hb.size, rfl, heap_alloc_new _ _⟩ (fun _ => ⟨rfl, by simp⟩))
    case tl8 =>
      intro vals w9 hb9 hf hdis
      simp only [List.drop_succ_cons, List.drop_zero]
      obtain ⟨gup, hgup, ev4, hzup⟩ : KBox w8.heap.size (vals 4) w9 := hf 4 (by decide)
      have hnUP : IsR w9 (vals 3) (G) := hf 3 (by decide)
      clear hf hdis
      rw [ev4]; clear ev4
      have HB9 := Lib.hid (HB8.out.step hb9)
      have Fp := Lib.hid (Fp.out.below hb9)
      have FF := Lib.hid (FF.out.below hb9)
      have X := Lib.hid (X.out.below hb9)
      have BXp := Lib.hid (heap_below BXp.out hb9)
      have BXf := Lib.hid (heap_below BXf.out hb9)
      have BXx := Lib.hid (heap_below BXx.out hb9)
      obtain ⟨uUP, huUP⟩ : ∃ u, u = vals 3 := ⟨_, rfl⟩
      rw [← huUP] at hnUP ⊢; clear huUP
      have UP := Lib.hid hnUP; clear hnUP
      obtain ⟨sUP, oUP, nUP, cUP, aUP, mUP, dUP, rfl⟩ := UP.out.shape
      have BXup := Lib.hid hzup; clear hzup
      have hgwup : w.heap.size ≤ gup := Nat.le_trans HB8.out.size hgup
      clear hb9
      obtain ⟨eup0, eup1, eup2⟩ := row3 BXup.out
      obtain ⟨fup0, fup1, fup2⟩ := froz3 BXup.out
      obtain ⟨w10, hw10⟩ : ∃ w10, w10 = ((w9.setCell ⟨gup, 0, none⟩ (.bool sUP)).setCell ⟨gup, 1, none⟩ (.slice oUP nUP cUP)).setCell ⟨gup, 2, none⟩ (.slice aUP mUP dUP) := ⟨_, rfl⟩
      have hp10 : w10 = put3 w9 (gup) (.bool sUP) (.slice oUP nUP cUP) (.slice aUP mUP dUP) := hw10
      first | have Fp := Lib.hid (putkI hp10 Fp.out BXup.out) | have Fp := Lib.hid (putkR hp10 Fp.out BXup.out) | have Fp := Lib.hid (putkV hp10 Fp.out BXup.out)
      first | have FF := Lib.hid (putkI hp10 FF.out BXup.out) | have FF := Lib.hid (putkR hp10 FF.out BXup.out) | have FF := Lib.hid (putkV hp10 FF.out BXup.out)
      first | have X := Lib.hid (putkI hp10 X.out BXup.out) | have X := Lib.hid (putkR hp10 X.out BXup.out) | have X := Lib.hid (putkV hp10 X.out BXup.out)
      first | have UP := Lib.hid (putkI hp10 UP.out BXup.out) | have UP := Lib.hid (putkR hp10 UP.out BXup.out) | have UP := Lib.hid (putkV hp10 UP.out BXup.out)
      have BXp := Lib.hid (putx hp10 BXp.out (by first | omega | (have := below_lt BXp.out; omega)))
      have BXf := Lib.hid (putx hp10 BXf.out (by first | omega | (have := below_lt BXf.out; omega)))
      have BXx := Lib.hid (putx hp10 BXx.out (by first | omega | (have := below_lt BXx.out; omega)))
      have nxup : w10.heap[gup]? = some (.cells #[.bool sUP, .slice oUP nUP cUP, .slice aUP mUP dUP] 24) := by rw [hp10]; exact put3_heap BXup.out
      have BXup := Lib.hid nxup; clear nxup
      have HB10 := Lib.hid (putb hp10 HB9.out (by omega))
      have HW10 := Lib.hid hw10; clear hw10 hp10
      have HBC := Lib.hid ((Below.refl w10.heap.size w10).drew)
      have hc := fun w1 (h1 : Below w10.heap.size w10 w1) => floor_any _ G w1 ((UP.out.below h1).is (by omega))
      rw [R3.out] at hc
      have C5 := Lib.hid hc; clear hc
      have hc := fun va w1 (h1 : Below w10.heap.size w10 w1) (ha : IsR w1 va G) => cmpq_any va G _ G w1 (ha.is (by omega)) ((UP.out.below h1).is (by omega)) (by omega) (by omega)
      rw [R5.out] at hc
      have C6 := Lib.hid hc; clear hc
      have hc := fun w1 (h1 : Below w10.heap.size w10 w1) => cmpq_any _ (G / k) _ p w1 ((X.out.below h1).is (by omega)) (Fp.out.below h1) (by omega) (by omega)
      rw [← HC3.out] at hc
      have C7 := Lib.hid hc; clear hc
      have hc := fun w1 => ofq_any 1 w1 (by decide) (by decide)
      have CO := Lib.hid hc; clear hc
      have hc := fun va w1 (h1 : Below w10.heap.size w10 w1) (ha : IsR w1 va ((1 : Int) : Rat)) => addq_any _ G va 1 w1 ((UP.out.below h1).is (by omega)) (ha.is (by omega))
      have C8 := Lib.hid hc; clear hc
      have hc := fun w1 => HOF.out w1
      have C9 := Lib.hid hc; clear hc
      have hc := fun va w1 (h1 : Below w10.heap.size w10 w1) (ha : IsR w1 va k) => mulq_any _ p va k w1 (Fp.out.below h1) (ha.is (by omega))
      have C10 := Lib.hid hc; clear hc
      have hc := fun va vb w1 (ha : IsR w1 va (G + 1)) (hb : IsR w1 vb (p * k)) => cmpq_any va (G + 1) vb (p * k) w1 (ha.is (by omega)) (hb.is (by omega)) (by omega) (by omega)
      rw [← HC4.out] at hc
      have C11 := Lib.hid hc; clear hc
      have Zp := Lib.hid (fun w1 (h1 : Below w10.heap.size w10 w1) => row3 (heap_below BXp.out h1))
      have Zx := Lib.hid (fun w1 (h1 : Below w10.heap.size w10 w1) => row3 (heap_below BXx.out h1))
      have Zup := Lib.hid (fun w1 (h1 : Below w10.heap.size w10 w1) => row3 (heap_below BXup.out h1))
      have TOK := Lib.hid (Nat.le_refl 0)
      go_wp2_with fail
      rw [← HW10.out]
      clear eup0 eup1 eup2 fup0 fup1 fup2
      obtain ⟨zp0, zp1, zp2⟩ := Zp.out _ HBC.out
      obtain ⟨zx0, zx1, zx2⟩ := Zx.out _ HBC.out
      obtain ⟨zup0, zup1, zup2⟩ := Zup.out _ HBC.out
      go_region_held3 (fun wx => wx.cell? ⟨w.heap.size, 0, none⟩ = some (.bool sp) ∧ wx.cell? ⟨w.heap.size, 1, none⟩ = some (.slice op np cp) ∧ wx.cell? ⟨w.heap.size, 2, none⟩ = some (.slice ap mp dp) ∧ wx.cell? ⟨gx, 0, none⟩ = some (.bool sX) ∧ wx.cell? ⟨gx, 1, none⟩ = some (.slice oX nX cX) ∧ wx.cell? ⟨gx, 2, none⟩ = some (.slice aX mX dX) ∧ wx.cell? ⟨gup, 0, none⟩ = some (.bool sUP) ∧ wx.cell? ⟨gup, 1, none⟩ = some (.slice oUP nUP cUP) ∧ wx.cell? ⟨gup, 2, none⟩ = some (.slice aUP mUP dUP)) (first | exact ⟨zp0, zp1, zp2, zx0, zx1, zx2, zup0, zup1, zup2⟩ | exact put6 (by omega) (by omega) (by omega) ⟨zp0, zp1, zp2, zx0, zx1, zx2, zup0, zup1, zup2⟩ | exact al3 ⟨zp0, zp1, zp2, zx0, zx1, zx2, zup0, zup1, zup2⟩ | exact put3c (by omega) (al3 ⟨zp0, zp1, zp2, zx0, zx1, zx2, zup0, zup1, zup2⟩)) (first
        | (go_at_call 44; (with_reducible refine (C5.out _ HBC.out).mono ?_); rintro e wr0 ⟨v0r, rfl, hb, hn⟩; (have HBC := Lib.hid (HBC.out.step hb)); (try have F3 := Lib.hid (F3.out.below hb)); (try have F4 := Lib.hid (F4.out.below hb)); (try have F5 := Lib.hid (F5.out.below hb)); (try have F6 := Lib.hid (F6.out.below hb)); (try have F7 := Lib.hid (F7.out.below hb)); (have F3 := Lib.hid hn); clear hn; clear hb; (obtain ⟨zp0, zp1, zp2⟩ := Zp.out _ HBC.out); (obtain ⟨zx0, zx1, zx2⟩ := Zx.out _ HBC.out); (obtain ⟨zup0, zup1, zup2⟩ := Zup.out _ HBC.out))
        | (go_at_call 41; (with_reducible refine (C6.out _ _ HBC.out F3.out).mono ?_); rintro e wr1 ⟨rfl, hb⟩; (have HBC := Lib.hid (HBC.out.step hb)); (try have F3 := Lib.hid (F3.out.below hb)); (try have F4 := Lib.hid (F4.out.below hb)); (try have F5 := Lib.hid (F5.out.below hb)); (try have F6 := Lib.hid (F6.out.below hb)); (try have F7 := Lib.hid (F7.out.below hb)); clear hb; (obtain ⟨zp0, zp1, zp2⟩ := Zp.out _ HBC.out); (obtain ⟨zx0, zx1, zx2⟩ := Zx.out _ HBC.out); (obtain ⟨zup0, zup1, zup2⟩ := Zup.out _ HBC.out))
        | (go_at_call 41; (with_reducible refine (C7.out _ HBC.out).mono ?_); rintro e wr2 ⟨rfl, hb⟩; (have HBC := Lib.hid (HBC.out.step hb)); (try have F3 := Lib.hid (F3.out.below hb)); (try have F4 := Lib.hid (F4.out.below hb)); (try have F5 := Lib.hid (F5.out.below hb)); (try have F6 := Lib.hid (F6.out.below hb)); (try have F7 := Lib.hid (F7.out.below hb)); clear hb; (obtain ⟨zp0, zp1, zp2⟩ := Zp.out _ HBC.out); (obtain ⟨zx0, zx1, zx2⟩ := Zx.out _ HBC.out); (obtain ⟨zup0, zup1, zup2⟩ := Zup.out _ HBC.out))
        | (go_at_call 25; (clear TOK); (with_reducible refine (CO.out _).mono ?_); rintro e wr3 ⟨v3r, rfl, hb, hn⟩; (have HBC := Lib.hid (HBC.out.step hb)); (try have F3 := Lib.hid (F3.out.below hb)); (try have F4 := Lib.hid (F4.out.below hb)); (try have F5 := Lib.hid (F5.out.below hb)); (try have F6 := Lib.hid (F6.out.below hb)); (try have F7 := Lib.hid (F7.out.below hb)); (have F4 := Lib.hid hn); clear hn; clear hb; (obtain ⟨zp0, zp1, zp2⟩ := Zp.out _ HBC.out); (obtain ⟨zx0, zx1, zx2⟩ := Zx.out _ HBC.out); (obtain ⟨zup0, zup1, zup2⟩ := Zup.out _ HBC.out))
        | (go_at_call 33; (with_reducible refine (C8.out _ _ HBC.out F4.out).mono ?_); rintro e wr4 ⟨v4r, rfl, hb, hn⟩; (have HBC := Lib.hid (HBC.out.step hb)); (try have F3 := Lib.hid (F3.out.below hb)); (try have F4 := Lib.hid (F4.out.below hb)); (try have F5 := Lib.hid (F5.out.below hb)); (try have F6 := Lib.hid (F6.out.below hb)); (try have F7 := Lib.hid (F7.out.below hb)); (have F5 := Lib.hid hn); clear hn; clear hb; (obtain ⟨zp0, zp1, zp2⟩ := Zp.out _ HBC.out); (obtain ⟨zx0, zx1, zx2⟩ := Zx.out _ HBC.out); (obtain ⟨zup0, zup1, zup2⟩ := Zup.out _ HBC.out))
        | (go_at_call 25; (with_reducible refine (C9.out _).mono ?_); rintro e wr5 ⟨v5r, rfl, hb, hn⟩; (have HBC := Lib.hid (HBC.out.step hb)); (try have F3 := Lib.hid (F3.out.below hb)); (try have F4 := Lib.hid (F4.out.below hb)); (try have F5 := Lib.hid (F5.out.below hb)); (try have F6 := Lib.hid (F6.out.below hb)); (try have F7 := Lib.hid (F7.out.below hb)); (have F6 := Lib.hid hn); clear hn; clear hb; (obtain ⟨zp0, zp1, zp2⟩ := Zp.out _ HBC.out); (obtain ⟨zx0, zx1, zx2⟩ := Zx.out _ HBC.out); (obtain ⟨zup0, zup1, zup2⟩ := Zup.out _ HBC.out))
        | (go_at_call 29; (with_reducible refine (C10.out _ _ HBC.out F6.out).mono ?_); rintro e wr6 ⟨v6r, rfl, hb, hn⟩; (have HBC := Lib.hid (HBC.out.step hb)); (try have F3 := Lib.hid (F3.out.below hb)); (try have F4 := Lib.hid (F4.out.below hb)); (try have F5 := Lib.hid (F5.out.below hb)); (try have F6 := Lib.hid (F6.out.below hb)); (try have F7 := Lib.hid (F7.out.below hb)); (have F7 := Lib.hid hn); clear hn; clear hb; (obtain ⟨zp0, zp1, zp2⟩ := Zp.out _ HBC.out); (obtain ⟨zx0, zx1, zx2⟩ := Zx.out _ HBC.out); (obtain ⟨zup0, zup1, zup2⟩ := Zup.out _ HBC.out))
        | (go_at_call 41; (with_reducible refine (C11.out _ _ _ F5.out F7.out).mono ?_); rintro e wr7 ⟨rfl, hb⟩; (have HBC := Lib.hid (HBC.out.step hb)); (try have F3 := Lib.hid (F3.out.below hb)); (try have F4 := Lib.hid (F4.out.below hb)); (try have F5 := Lib.hid (F5.out.below hb)); (try have F6 := Lib.hid (F6.out.below hb)); (try have F7 := Lib.hid (F7.out.below hb)); clear hb; (obtain ⟨zp0, zp1, zp2⟩ := Zp.out _ HBC.out); (obtain ⟨zx0, zx1, zx2⟩ := Zx.out _ HBC.out); (obtain ⟨zup0, zup1, zup2⟩ := Zup.out _ HBC.out)))
      have Fp := Lib.hid (Fp.out.below HBC.out)
      have FF := Lib.hid (FF.out.below HBC.out)
      have X := Lib.hid (X.out.below HBC.out)
      have UP := Lib.hid (UP.out.below HBC.out)
      have BXp := Lib.hid (heap_below BXp.out HBC.out)
      have BXf := Lib.hid (heap_below BXf.out HBC.out)
      have BXx := Lib.hid (heap_below BXx.out HBC.out)
      have BXup := Lib.hid (heap_below BXup.out HBC.out)
      have HB11 := Lib.hid (HB10.out.step HBC.out)
      go_wp2_with fail
      go_ret
      exact ⟨by first | rfl | (simp; done), HB11.out⟩
set_option maxRecDepth 100000 in
set_option maxHeartbeats 12800000 in
theorem floors_small1 (vp : Value) (p : Rat) (d : Nat) (w : World) (hp : RatIs w vp p) (lp : rl p ≤ 12) (zp : (szR vp).1 ≤ 12 ∧ (szR vp).2 ≤ 12) (hd : d < 65536) (h0 : fl p ≠ 0) :
    Calls Tryd.prog 10 #[vp, .int .u16 (d : Nat)] w (RetV w (.bool true)) := by
  obtain ⟨sp, op, np, cp, ap, mp, dp, rfl⟩ := hp.shape
  have hlp := hp.rl
  have q1 := cq_le (fl p) p
  have hfle := q1.2 (fl_le p)
  have hlt : 0 < cq (fl p + 1) p := by rw [cq_gt]; exact lt_fl p
  have kf := rl_fl p
  have hdn := dn_fl p
  rw [if_neg h0] at hdn
  obtain ⟨K, hK⟩ : ∃ K : Int, K = 1 + (d : Int) := ⟨_, rfl⟩
  have kk := rl_small (n := K) (by omega) (by omega)
  have hkp : (0 : Rat) < (K : Rat) := by rw [show (0 : Rat) = ((0 : Int) : Rat) from rfl, Rat.intCast_lt_intCast]; omega
  obtain ⟨k, hk⟩ : ∃ k : Rat, k = (K : Rat) := ⟨_, rfl⟩
  have hrC : rdC K = 0 := by unfold rdC; rw [if_neg (by omega)]
  have hrV : rdV p K = fl (p * k) / k := by unfold rdV; rw [if_pos hrC, hk]
  rw [← hk] at kk hkp
  obtain ⟨G, hG⟩ : ∃ G, G = fl (p * k) := ⟨_, rfl⟩
  have r1 : G / k * k = G := by rw [hG]; exact rd_up hkp
  have r2 : cq (G / k) p ≤ 0 := by rw [cq_le, hG]; exact rd_le hkp
  have r3 : fl G = G := by rw [hG]; exact fl_fl _
  have r4 : 0 < cq (G + 1) (p * k) := by rw [cq_gt, hG]; exact lt_fl _
  rw [← hG] at hrV
  have m1 := rl_mul p k; have m2 := rl_fl (p * k); rw [← hG] at m2; have m3 := rl_div' G k; have m4 := rl_add G 1; rw [rl_one] at m4
  have m5 := rl_add (fl p) 1; rw [rl_one] at m5
  obtain ⟨F, hF⟩ : ∃ F, F = fl p := ⟨_, rfl⟩
  rw [← hF] at hfle hlt kf hdn m5
  obtain ⟨c1, hc1⟩ : ∃ c, c = cq F p := ⟨_, rfl⟩; obtain ⟨c2, hc2⟩ : ∃ c, c = cq (F + 1) p := ⟨_, rfl⟩; obtain ⟨c3, hc3⟩ : ∃ c, c = cq (G / k) p := ⟨_, rfl⟩; obtain ⟨c4, hc4⟩ : ∃ c, c = cq (G + 1) (p * k) := ⟨_, rfl⟩
  rw [← hc1] at hfle; rw [← hc2] at hlt; rw [← hc3] at r2; rw [← hc4] at r4
  have t1 : decide (0 < c1) = false := decide_eq_false (by omega); have t2 : decide (c2 ≤ 0) = false := decide_eq_false (by omega); have t3 : decide (c3 ≤ 0) = true := decide_eq_true r2; have t4 : decide (0 < c4) = true := decide_eq_true r4
  have hof := fun wx => ofq_any K wx (by omega) (by omega)
  have hor := fun wx (hx : RatIs wx (.agg #[.bool sp, .slice op np cp, .slice ap mp dp]) p) => round_any _ p K wx hx (by omega)
  rw [← hk] at hof; rw [hrV, hrC, errV_zero] at hor
  have r5 : (cq G G) = 0 := (cq_eq G G).2 rfl
  have r6 := (vld_self F).1
  have hr1 : rl ((1 : Int) : Rat) ≤ 2 := rl_small (by decide) (by decide)
  have HOF := Lib.hid hof; have HOR := Lib.hid hor; have HF := Lib.hid hF; have HC1 := Lib.hid hc1; have HC2 := Lib.hid hc2; have HC3 := Lib.hid hc3; have HC4 := Lib.hid hc4; have R1 := Lib.hid r1; have R3 := Lib.hid r3; have R5 := Lib.hid r5; have R6 := Lib.hid r6; have HDN := Lib.hid hdn
  have hK1 : 1 ≤ K := by omega
  have hK2 : K ≤ 65536 := by omega
  have HK := Lib.hid hK
  clear q1 hfle hlt hdn hK hkp hk hrC hrV hG r1 r2 r3 r4 hF hc1 hc2 hc3 hc4 hof hor r5 r6 h0
  have hb0 := ((Below.refl w.heap.size w).alloc (by first | (simp; done) | (simp; omega)) (.cells #[.bool sp, .slice op np cp, .slice ap mp dp] 24))
  have hxp := nest1_0 w (.cells #[.bool sp, .slice op np cp, .slice ap mp dp] 24)
  have hpp := hp.below hb0
  obtain ⟨w0, hw0⟩ : ∃ w0, w0 = (w.alloc (.cells #[.bool sp, .slice op np cp, .slice ap mp dp] 24)) := ⟨_, rfl⟩
  rw [← hw0] at hb0 hxp hpp
  have HB0 := Lib.hid hb0; have HW0 := Lib.hid hw0
  have BXp := Lib.hid hxp
  have Fp := Lib.hid hpp
  clear hb0 hw0 hxp hpp hp
  have zzp : np ≤ 12 ∧ mp ≤ 12 := zp; clear zp
  have _lp := lp
  go_enter Tryd.func10, Tryd.ntmps10
  have hs := awake02 w0
  have HS := Lib.hid hs; clear hs
  go_wp2_with fail
  rw [← HW0.out]
  (with_reducible refine HS.out.mono ?_); rintro e w1 ⟨rfl, hb1⟩
  clear HS
  have HB1 := Lib.hid (HB0.out.step hb1)
  have Fp := Lib.hid (Fp.out.below hb1)
  have BXp := Lib.hid (heap_below BXp.out hb1)
  clear hb1
  obtain ⟨ep0, ep1, ep2⟩ := row3 BXp.out
  obtain ⟨w2, hw2⟩ : ∃ w2, w2 = w1.alloc (.cells #[.bool sp, .slice op np cp, .slice ap mp dp] 24) := ⟨_, rfl⟩
  have hb2 : Below w1.heap.size w1 w2 := by rw [hw2]; exact (Below.refl _ _).alloc (Nat.le_refl _) _
  have hxLS := heap_alloc_new w1 (.cells #[.bool sp, .slice op np cp, .slice ap mp dp] 24)
  obtain ⟨gLS, hgLS⟩ : ∃ gLS, gLS = w1.heap.size := ⟨_, rfl⟩
  rw [← hw2, ← hgLS] at hxLS
  have HW2 := Lib.hid hw2; have HGLS := Lib.hid hgLS; clear hw2 hgLS
  have HB2 := Lib.hid (HB1.out.step hb2)
  have Fp := Lib.hid (Fp.out.below hb2)
  have BXp := Lib.hid (heap_below BXp.out hb2)
  clear hb2
  have BXLS := Lib.hid hxLS; clear hxLS
  have hs := rlarge1s BXLS.out zzp
  have HS := Lib.hid hs; clear hs
  go_wp2_with fail
  rw [← HW2.out]
  try rw [← HGLS.out]
  (with_reducible refine HS.out.mono ?_); rintro e w3 ⟨rfl, hb3⟩
  clear HS
  have HB3 := Lib.hid (HB2.out.step hb3)
  have Fp := Lib.hid (Fp.out.below hb3)
  have BXp := Lib.hid (heap_below BXp.out hb3)
  clear hb3
  clear BXLS
  have hs := floor_any _ p w3 Fp.out
  rw [← HF.out] at hs
  have HS := Lib.hid hs; clear hs
  obtain ⟨ep0, ep1, ep2⟩ := row3 BXp.out
  go_wp2_with fail
  clear ep0 ep1 ep2
  (with_reducible refine HS.out.mono ?_); rintro e w4 ⟨v4, rfl, hb4, hn4⟩
  clear HS
  have HB4 := Lib.hid (HB3.out.step hb4)
  have Fp := Lib.hid (Fp.out.below hb4)
  have BXp := Lib.hid (heap_below BXp.out hb4)
  have FF := Lib.hid hn4; clear hn4
  clear hb4
  obtain ⟨sFF, oFF, nFF, cFF, aFF, mFF, dFF, rfl⟩ := FF.out.shape
  obtain ⟨w5, hw5⟩ : ∃ w5, w5 = w4.alloc (.cells #[.bool sFF, .slice oFF nFF cFF, .slice aFF mFF dFF] 24) := ⟨_, rfl⟩
  have hb5 : Below w4.heap.size w4 w5 := by rw [hw5]; exact (Below.refl _ _).alloc (Nat.le_refl _) _
  have hxf := heap_alloc_new w4 (.cells #[.bool sFF, .slice oFF nFF cFF, .slice aFF mFF dFF] 24)
  obtain ⟨gf, hgf⟩ : ∃ gf, gf = w4.heap.size := ⟨_, rfl⟩
  rw [← hw5, ← hgf] at hxf
  have HW5 := Lib.hid hw5; have HGf := Lib.hid hgf; clear hw5 hgf
  have HB5 := Lib.hid (HB4.out.step hb5)
  have Fp := Lib.hid (Fp.out.below hb5)
  have FF := Lib.hid (FF.out.below hb5)
  have BXp := Lib.hid (heap_below BXp.out hb5)
  clear hb5
  have BXf := Lib.hid hxf; clear hxf
  have hfd := FF.out.fields.2.2; rw [HDN.out] at hfd
  rw [wd_one (by decide) (by decide)] at hfd
  obtain rfl : mFF = 1 := by obtain ⟨_, _, e, _⟩ := hfd.shape; cases e; rfl
  obtain ⟨bF, oF, rfl, hbF, hcF⟩ := hfd.at (by decide)
  have ZC := Lib.hid (fun w1 (h1 : Below w5.heap.size w5 w1) => (h1.cell (p := ⟨bF, oF + 0, none⟩) hbF).trans (hcF 0 (by decide)))
  clear hcF
  clear hfd
  have HBC := Lib.hid ((Below.refl w5.heap.size w5).drew)
  have hc := fun w1 (h1 : Below w5.heap.size w5 w1) => valid_any _ (ng F) (wd (nn F)) (wd (dn F)) w1 (FF.out.below h1) (by have := rl_n F; omega) (by have := dn_len F; omega)
  rw [decide_eq_true R6.out] at hc
  have CV := Lib.hid hc; clear hc
  have hc := fun w1 (h1 : Below w5.heap.size w5 w1) => cmpq_any _ F _ p w1 ((FF.out.below h1).is (by omega)) (Fp.out.below h1) (by omega) (by omega)
  rw [← HC1.out] at hc
  have C1 := Lib.hid hc; clear hc
  have hc := fun w1 => ofq_any 1 w1 (by decide) (by decide)
  have CO := Lib.hid hc; clear hc
  have hc := fun va w1 (h1 : Below w5.heap.size w5 w1) (ha : IsR w1 va ((1 : Int) : Rat)) => addq_any _ F va 1 w1 ((FF.out.below h1).is (by omega)) (ha.is (by omega))
  have CA := Lib.hid hc; clear hc
  have hc := fun va w1 (h1 : Below w5.heap.size w5 w1) (ha : IsR w1 va (F + 1)) => cmpq_any va (F + 1) _ p w1 (ha.is (by omega)) (Fp.out.below h1) (by omega) (by omega)
  rw [← HC2.out] at hc
  have C2 := Lib.hid hc; clear hc
  have Zp := Lib.hid (fun w1 (h1 : Below w5.heap.size w5 w1) => row3 (heap_below BXp.out h1))
  have Zf := Lib.hid (fun w1 (h1 : Below w5.heap.size w5 w1) => row3 (heap_below BXf.out h1))
  go_wp2_with fail
  rw [← HW5.out]
  try rw [← HGf.out]
  obtain ⟨zp0, zp1, zp2⟩ := Zp.out _ HBC.out
  obtain ⟨zf0, zf1, zf2⟩ := Zf.out _ HBC.out
  have y0 := ZC.out _ HBC.out
  go_region_held3 (fun wx => wx.cell? ⟨w.heap.size, 0, none⟩ = some (.bool sp) ∧ wx.cell? ⟨w.heap.size, 1, none⟩ = some (.slice op np cp) ∧ wx.cell? ⟨w.heap.size, 2, none⟩ = some (.slice ap mp dp) ∧ wx.cell? ⟨gf, 0, none⟩ = some (.bool sFF) ∧ wx.cell? ⟨gf, 1, none⟩ = some (.slice oFF nFF cFF) ∧ wx.cell? ⟨gf, 2, none⟩ = some (.slice (some ⟨bF, oF, none⟩) 1 dFF) ∧ wx.cell? ⟨bF, oF, none⟩ = some (.int .u32 (1 : Nat))) (first | exact ⟨zp0, zp1, zp2, zf0, zf1, zf2, y0⟩ | exact put6 (by omega) (by omega) ⟨zp0, zp1, zp2, zf0, zf1, zf2, y0⟩ | exact al3 ⟨zp0, zp1, zp2, zf0, zf1, zf2, y0⟩ | exact put3c (by omega) (al3 ⟨zp0, zp1, zp2, zf0, zf1, zf2, y0⟩)) (first
    | (go_at_call 23; (with_reducible refine (CV.out _ HBC.out).mono ?_); rintro e wr0 ⟨rfl, hb⟩; (have HBC := Lib.hid (HBC.out.step hb)); (try have F1 := Lib.hid (F1.out.below hb)); (try have F2 := Lib.hid (F2.out.below hb)); clear hb; (obtain ⟨zp0, zp1, zp2⟩ := Zp.out _ HBC.out); (obtain ⟨zf0, zf1, zf2⟩ := Zf.out _ HBC.out); (have y0 := ZC.out _ HBC.out))
    | (go_at_call 41; (with_reducible refine (C1.out _ HBC.out).mono ?_); rintro e wr1 ⟨rfl, hb⟩; (have HBC := Lib.hid (HBC.out.step hb)); (try have F1 := Lib.hid (F1.out.below hb)); (try have F2 := Lib.hid (F2.out.below hb)); clear hb; (obtain ⟨zp0, zp1, zp2⟩ := Zp.out _ HBC.out); (obtain ⟨zf0, zf1, zf2⟩ := Zf.out _ HBC.out); (have y0 := ZC.out _ HBC.out))
    | (go_at_call 25; (with_reducible refine (CO.out _).mono ?_); rintro e wr2 ⟨v2r, rfl, hb, hn⟩; (have HBC := Lib.hid (HBC.out.step hb)); (try have F1 := Lib.hid (F1.out.below hb)); (try have F2 := Lib.hid (F2.out.below hb)); (have F1 := Lib.hid hn); clear hn; clear hb; (obtain ⟨zp0, zp1, zp2⟩ := Zp.out _ HBC.out); (obtain ⟨zf0, zf1, zf2⟩ := Zf.out _ HBC.out); (have y0 := ZC.out _ HBC.out))
    | (go_at_call 33; (with_reducible refine (CA.out _ _ HBC.out F1.out).mono ?_); rintro e wr3 ⟨v3r, rfl, hb, hn⟩; (have HBC := Lib.hid (HBC.out.step hb)); (try have F1 := Lib.hid (F1.out.below hb)); (try have F2 := Lib.hid (F2.out.below hb)); (have F2 := Lib.hid hn); clear hn; clear hb; (obtain ⟨zp0, zp1, zp2⟩ := Zp.out _ HBC.out); (obtain ⟨zf0, zf1, zf2⟩ := Zf.out _ HBC.out); (have y0 := ZC.out _ HBC.out))
    | (go_at_call 41; (with_reducible refine (C2.out _ _ HBC.out F2.out).mono ?_); rintro e wr4 ⟨rfl, hb⟩; (have HBC := Lib.hid (HBC.out.step hb)); (try have F1 := Lib.hid (F1.out.below hb)); (try have F2 := Lib.hid (F2.out.below hb)); clear hb; (obtain ⟨zp0, zp1, zp2⟩ := Zp.out _ HBC.out); (obtain ⟨zf0, zf1, zf2⟩ := Zf.out _ HBC.out); (have y0 := ZC.out _ HBC.out)))
  clear ZC
  have Fp := Lib.hid (Fp.out.below HBC.out)
  have FF := Lib.hid (FF.out.below HBC.out)
  have BXp := Lib.hid (heap_below BXp.out HBC.out)
  have BXf := Lib.hid (heap_below BXf.out HBC.out)
  have HB6 := Lib.hid (HB5.out.step HBC.out)
  have hd2 : (1 : Int) + (d : Int) = K := HK.out.symm
  have hs := HOR.out wr4 Fp.out
  have HS := Lib.hid hs; clear hs
  obtain ⟨ep0, ep1, ep2⟩ := row3 BXp.out
  go_wp2_with fail
  clear ep0 ep1 ep2
  (with_reducible refine HS.out.mono ?_); rintro e w7 ⟨v7, rfl, hb7, hn7⟩
  clear HS
  have HB7 := Lib.hid (HB6.out.step hb7)
  have Fp := Lib.hid (Fp.out.below hb7)
  have FF := Lib.hid (FF.out.below hb7)
  have BXp := Lib.hid (heap_below BXp.out hb7)
  have BXf := Lib.hid (heap_below BXf.out hb7)
  have X := Lib.hid hn7; clear hn7
  clear hb7
  clear hd2
  obtain ⟨sX, oX, nX, cX, aX, mX, dX, rfl⟩ := X.out.shape
  obtain ⟨w8, hw8⟩ : ∃ w8, w8 = w7.alloc (.cells #[.bool sX, .slice oX nX cX, .slice aX mX dX] 24) := ⟨_, rfl⟩
  have hb8 : Below w7.heap.size w7 w8 := by rw [hw8]; exact (Below.refl _ _).alloc (Nat.le_refl _) _
  have hxx := heap_alloc_new w7 (.cells #[.bool sX, .slice oX nX cX, .slice aX mX dX] 24)
  obtain ⟨gx, hgx⟩ : ∃ gx, gx = w7.heap.size := ⟨_, rfl⟩
  rw [← hw8, ← hgx] at hxx
  have HW8 := Lib.hid hw8; have HGx := Lib.hid hgx; clear hw8 hgx
  have HB8 := Lib.hid (HB7.out.step hb8)
  have Fp := Lib.hid (Fp.out.below hb8)
  have FF := Lib.hid (FF.out.below hb8)
  have X := Lib.hid (X.out.below hb8)
  have BXp := Lib.hid (heap_below BXp.out hb8)
  have BXf := Lib.hid (heap_below BXf.out hb8)
  clear hb8
  have BXx := Lib.hid hxx; clear hxx
  go_wp2_with fail
  rw [← HW8.out]
  try rw [← HGx.out]
  have lwp := below_lt BXp.out
  have lwf := below_lt BXf.out
  have lwx := below_lt BXx.out
  refine wp_region_facts (A := ?aa8) (w := w8) 5 [] (by kernel_rfl) (Fl [KEq (.agg #[.bool sX, .slice oX nX cX, .slice aX mX dX]), KEq (.int .i64 K), KIs (k), KIs (G), KBox w8.heap.size]) (fun i => i == 4) (by kernel_rfl) (fun _ _ _ _ _ h => h) (monoL (monoC (kEq _) (monoC (kEq _) (monoC (kIs _) (monoC (kIs _) (monoC (kBox _) monoN)))))) ?ha8 ?st8 ?tl8
  case ha8 =>
    intro vals
    simp only [putsTo, dstOf, if_true, Act.put, List.setIfInBounds_toArray, List.set_cons_zero, List.set_cons_succ, List.getElem?_toArray, List.getElem?_cons_zero, List.getElem?_cons_succ, Option.bind_some]
    exact rfl
  case st8 =>
    simp only [List.take_succ_cons, List.take_zero]
    refine stepsOK_cons rfl rfl ?_ (stepsOK_cons rfl rfl ?_ (stepsOK_cons rfl rfl ?_ (stepsOK_cons rfl rfl ?_ (stepsOK_cons rfl rfl ?_ (stepsOK_nil)))))
    · intro vals w1 hb hd
      obtain ⟨e0, e1, e2⟩ := row3 (heap_below BXx.out hb)
      refine stepOK_value (v := .agg #[.bool sX, .slice oX nX cX, .slice aX mX dX]) (w' := w1) (by go_simp) (leaves_mk (Below.refl _ _) rfl (fun h => by cases h))
    · intro vals w1 hb hd
      refine stepOK_value (v := .int .i64 K) (w' := w1) (by go_simp) (leaves_mk (Below.refl _ _) rfl (fun h => by cases h))
    · intro vals w1 hb hd
      have d1 : KEq (.int .i64 K) (vals 1) w1 := hd 1 (by kernel_rfl)
      rw [show vals 1 = _ from d1]
      have hs := HOF.out w1
      have HS := Lib.hid hs; clear hs
      clear d1 hd
      refine stepOK_call (by go_simp; first | done | exact ⟨⟨rfl, rfl⟩, rfl⟩) ?_
      (with_reducible refine HS.out.mono ?_); rintro e w2 ⟨v, rfl, hb2, hn⟩
      exact ⟨v, rfl, leaves_mk hb2 hn (fun h => by cases h)⟩
    · intro vals w1 hb hd
      have d0 : KEq (.agg #[.bool sX, .slice oX nX cX, .slice aX mX dX]) (vals 0) w1 := hd 0 (by kernel_rfl)
      have r0 : RatIs w1 (vals 0) (G / k) := by rw [show vals 0 = _ from d0]; exact (X.out.is (by omega)).below hb
      have d2 : KIs (k) (vals 2) w1 := hd 2 (by kernel_rfl)
      have r2 : RatIs w1 (vals 2) (k) := IsR.is d2 (by omega)
      have hs := mulq_any _ _ _ _ w1 r0 r2
      rw [R1.out] at hs
      have HS := Lib.hid hs; clear hs
      clear d0 d2 hd
      refine stepOK_call (by go_simp; first | done | exact ⟨⟨rfl, rfl⟩, rfl⟩) ?_
      (with_reducible refine HS.out.mono ?_); rintro e w2 ⟨v, rfl, hb2, hn⟩
      exact ⟨v, rfl, leaves_mk hb2 hn (fun h => by cases h)⟩
    · intro vals w1 hb hd
      refine stepOK_value (v := .pointer (some ⟨w1.heap.size, 0, none⟩)) (w' := w1.alloc (.cells #[.bool false, .slice none 0 0, .slice none 0 0] 24)) (by go_simp) (leaves_mk ((Below.refl _ _).alloc (Nat.le_refl _) _) ⟨_, hb.size, rfl, heap_alloc_new _ _⟩ (fun _ => ⟨rfl, by simp⟩))
  case tl8 =>
    intro vals w9 hb9 hf hdis
    simp only [List.drop_succ_cons, List.drop_zero]
    obtain ⟨gup, hgup, ev4, hzup⟩ : KBox w8.heap.size (vals 4) w9 := hf 4 (by decide)
    have hnUP : IsR w9 (vals 3) (G) := hf 3 (by decide)
    clear hf hdis
    rw [ev4]; clear ev4
    have HB9 := Lib.hid (HB8.out.step hb9)
    have Fp := Lib.hid (Fp.out.below hb9)
    have FF := Lib.hid (FF.out.below hb9)
    have X := Lib.hid (X.out.below hb9)
    have BXp := Lib.hid (heap_below BXp.out hb9)
    have BXf := Lib.hid (heap_below BXf.out hb9)
    have BXx := Lib.hid (heap_below BXx.out hb9)
    obtain ⟨uUP, huUP⟩ : ∃ u, u = vals 3 := ⟨_, rfl⟩
    rw [← huUP] at hnUP ⊢; clear huUP
    have UP := Lib.hid hnUP; clear hnUP
    obtain ⟨sUP, oUP, nUP, cUP, aUP, mUP, dUP, rfl⟩ := UP.out.shape
    have BXup := Lib.hid hzup; clear hzup
    have hgwup : w.heap.size ≤ gup := Nat.le_trans HB8.out.size hgup
    clear hb9
    obtain ⟨eup0, eup1, eup2⟩ := row3 BXup.out
    obtain ⟨fup0, fup1, fup2⟩ := froz3 BXup.out
    obtain ⟨w10, hw10⟩ : ∃ w10, w10 = ((w9.setCell ⟨gup, 0, none⟩ (.bool sUP)).setCell ⟨gup, 1, none⟩ (.slice oUP nUP cUP)).setCell ⟨gup, 2, none⟩ (.slice aUP mUP dUP) := ⟨_, rfl⟩
    have hp10 : w10 = put3 w9 (gup) (.bool sUP) (.slice oUP nUP cUP) (.slice aUP mUP dUP) := hw10
    first | have Fp := Lib.hid (putkI hp10 Fp.out BXup.out) | have Fp := Lib.hid (putkR hp10 Fp.out BXup.out) | have Fp := Lib.hid (putkV hp10 Fp.out BXup.out)
    first | have FF := Lib.hid (putkI hp10 FF.out BXup.out) | have FF := Lib.hid (putkR hp10 FF.out BXup.out) | have FF := Lib.hid (putkV hp10 FF.out BXup.out)
    first | have X := Lib.hid (putkI hp10 X.out BXup.out) | have X := Lib.hid (putkR hp10 X.out BXup.out) | have X := Lib.hid (putkV hp10 X.out BXup.out)
    first | have UP := Lib.hid (putkI hp10 UP.out BXup.out) | have UP := Lib.hid (putkR hp10 UP.out BXup.out) | have UP := Lib.hid (putkV hp10 UP.out BXup.out)
    have BXp := Lib.hid (putx hp10 BXp.out (by first | omega | (have := below_lt BXp.out; omega)))
    have BXf := Lib.hid (putx hp10 BXf.out (by first | omega | (have := below_lt BXf.out; omega)))
    have BXx := Lib.hid (putx hp10 BXx.out (by first | omega | (have := below_lt BXx.out; omega)))
    have nxup : w10.heap[gup]? = some (.cells #[.bool sUP, .slice oUP nUP cUP, .slice aUP mUP dUP] 24) := by rw [hp10]; exact put3_heap BXup.out
    have BXup := Lib.hid nxup; clear nxup
    have HB10 := Lib.hid (putb hp10 HB9.out (by omega))
    have HW10 := Lib.hid hw10; clear hw10 hp10
    have HBC := Lib.hid ((Below.refl w10.heap.size w10).drew)
    have hc := fun w1 (h1 : Below w10.heap.size w10 w1) => floor_any _ G w1 ((UP.out.below h1).is (by omega))
    rw [R3.out] at hc
    have C5 := Lib.hid hc; clear hc
    have hc := fun va w1 (h1 : Below w10.heap.size w10 w1) (ha : IsR w1 va G) => cmpq_any va G _ G w1 (ha.is (by omega)) ((UP.out.below h1).is (by omega)) (by omega) (by omega)
    rw [R5.out] at hc
    have C6 := Lib.hid hc; clear hc
    have hc := fun w1 (h1 : Below w10.heap.size w10 w1) => cmpq_any _ (G / k) _ p w1 ((X.out.below h1).is (by omega)) (Fp.out.below h1) (by omega) (by omega)
    rw [← HC3.out] at hc
    have C7 := Lib.hid hc; clear hc
    have hc := fun w1 => ofq_any 1 w1 (by decide) (by decide)
    have CO := Lib.hid hc; clear hc
    have hc := fun va w1 (h1 : Below w10.heap.size w10 w1) (ha : IsR w1 va ((1 : Int) : Rat)) => addq_any _ G va 1 w1 ((UP.out.below h1).is (by omega)) (ha.is (by omega))
    have C8 := Lib.hid hc; clear hc
    have hc := fun w1 => HOF.out w1
    have C9 := Lib.hid hc; clear hc
    have hc := fun va w1 (h1 : Below w10.heap.size w10 w1) (ha : IsR w1 va k) => mulq_any _ p va k w1 (Fp.out.below h1) (ha.is (by omega))
    have C10 := Lib.hid hc; clear hc
    have hc := fun va vb w1 (ha : IsR w1 va (G + 1)) (hb : IsR w1 vb (p * k)) => cmpq_any va (G + 1) vb (p * k) w1 (ha.is (by omega)) (hb.is (by omega)) (by omega) (by omega)
    rw [← HC4.out] at hc
    have C11 := Lib.hid hc; clear hc
    have Zp := Lib.hid (fun w1 (h1 : Below w10.heap.size w10 w1) => row3 (heap_below BXp.out h1))
    have Zx := Lib.hid (fun w1 (h1 : Below w10.heap.size w10 w1) => row3 (heap_below BXx.out h1))
    have Zup := Lib.hid (fun w1 (h1 : Below w10.heap.size w10 w1) => row3 (heap_below BXup.out h1))
    have TOK := Lib.hid (Nat.le_refl 0)
    go_wp2_with fail
    rw [← HW10.out]
    clear eup0 eup1 eup2 fup0 fup1 fup2
    obtain ⟨zp0, zp1, zp2⟩ := Zp.out _ HBC.out
    obtain ⟨zx0, zx1, zx2⟩ := Zx.out _ HBC.out
    obtain ⟨zup0, zup1, zup2⟩ := Zup.out _ HBC.out
    go_region_held3 (fun wx => wx.cell? ⟨w.heap.size, 0, none⟩ = some (.bool sp) ∧ wx.cell? ⟨w.heap.size, 1, none⟩ = some (.slice op np cp) ∧ wx.cell? ⟨w.heap.size, 2, none⟩ = some (.slice ap mp dp) ∧ wx.cell? ⟨gx, 0, none⟩ = some (.bool sX) ∧ wx.cell? ⟨gx, 1, none⟩ = some (.slice oX nX cX) ∧ wx.cell? ⟨gx, 2, none⟩ = some (.slice aX mX dX) ∧ wx.cell? ⟨gup, 0, none⟩ = some (.bool sUP) ∧ wx.cell? ⟨gup, 1, none⟩ = some (.slice oUP nUP cUP) ∧ wx.cell? ⟨gup, 2, none⟩ = some (.slice aUP mUP dUP)) (first | exact ⟨zp0, zp1, zp2, zx0, zx1, zx2, zup0, zup1, zup2⟩ | exact put6 (by omega) (by omega) (by omega) ⟨zp0, zp1, zp2, zx0, zx1, zx2, zup0, zup1, zup2⟩ | exact al3 ⟨zp0, zp1, zp2, zx0, zx1, zx2, zup0, zup1, zup2⟩ | exact put3c (by omega) (al3 ⟨zp0, zp1, zp2, zx0, zx1, zx2, zup0, zup1, zup2⟩)) (first
      | (go_at_call 44; (with_reducible refine (C5.out _ HBC.out).mono ?_); rintro e wr2_0 ⟨v0r, rfl, hb, hn⟩; (have HBC := Lib.hid (HBC.out.step hb)); (try have F3 := Lib.hid (F3.out.below hb)); (try have F4 := Lib.hid (F4.out.below hb)); (try have F5 := Lib.hid (F5.out.below hb)); (try have F6 := Lib.hid (F6.out.below hb)); (try have F7 := Lib.hid (F7.out.below hb)); (have F3 := Lib.hid hn); clear hn; clear hb; (obtain ⟨zp0, zp1, zp2⟩ := Zp.out _ HBC.out); (obtain ⟨zx0, zx1, zx2⟩ := Zx.out _ HBC.out); (obtain ⟨zup0, zup1, zup2⟩ := Zup.out _ HBC.out))
      | (go_at_call 41; (with_reducible refine (C6.out _ _ HBC.out F3.out).mono ?_); rintro e wr2_1 ⟨rfl, hb⟩; (have HBC := Lib.hid (HBC.out.step hb)); (try have F3 := Lib.hid (F3.out.below hb)); (try have F4 := Lib.hid (F4.out.below hb)); (try have F5 := Lib.hid (F5.out.below hb)); (try have F6 := Lib.hid (F6.out.below hb)); (try have F7 := Lib.hid (F7.out.below hb)); clear hb; (obtain ⟨zp0, zp1, zp2⟩ := Zp.out _ HBC.out); (obtain ⟨zx0, zx1, zx2⟩ := Zx.out _ HBC.out); (obtain ⟨zup0, zup1, zup2⟩ := Zup.out _ HBC.out))
      | (go_at_call 41; (with_reducible refine (C7.out _ HBC.out).mono ?_); rintro e wr2_2 ⟨rfl, hb⟩; (have HBC := Lib.hid (HBC.out.step hb)); (try have F3 := Lib.hid (F3.out.below hb)); (try have F4 := Lib.hid (F4.out.below hb)); (try have F5 := Lib.hid (F5.out.below hb)); (try have F6 := Lib.hid (F6.out.below hb)); (try have F7 := Lib.hid (F7.out.below hb)); clear hb; (obtain ⟨zp0, zp1, zp2⟩ := Zp.out _ HBC.out); (obtain ⟨zx0, zx1, zx2⟩ := Zx.out _ HBC.out); (obtain ⟨zup0, zup1, zup2⟩ := Zup.out _ HBC.out))
      | (go_at_call 25; (clear TOK); (with_reducible refine (CO.out _).mono ?_); rintro e wr2_3 ⟨v3r, rfl, hb, hn⟩; (have HBC := Lib.hid (HBC.out.step hb)); (try have F3 := Lib.hid (F3.out.below hb)); (try have F4 := Lib.hid (F4.out.below hb)); (try have F5 := Lib.hid (F5.out.below hb)); (try have F6 := Lib.hid (F6.out.below hb)); (try have F7 := Lib.hid (F7.out.below hb)); (have F4 := Lib.hid hn); clear hn; clear hb; (obtain ⟨zp0, zp1, zp2⟩ := Zp.out _ HBC.out); (obtain ⟨zx0, zx1, zx2⟩ := Zx.out _ HBC.out); (obtain ⟨zup0, zup1, zup2⟩ := Zup.out _ HBC.out))
      | (go_at_call 33; (with_reducible refine (C8.out _ _ HBC.out F4.out).mono ?_); rintro e wr2_4 ⟨v4r, rfl, hb, hn⟩; (have HBC := Lib.hid (HBC.out.step hb)); (try have F3 := Lib.hid (F3.out.below hb)); (try have F4 := Lib.hid (F4.out.below hb)); (try have F5 := Lib.hid (F5.out.below hb)); (try have F6 := Lib.hid (F6.out.below hb)); (try have F7 := Lib.hid (F7.out.below hb)); (have F5 := Lib.hid hn); clear hn; clear hb; (obtain ⟨zp0, zp1, zp2⟩ := Zp.out _ HBC.out); (obtain ⟨zx0, zx1, zx2⟩ := Zx.out _ HBC.out); (obtain ⟨zup0, zup1, zup2⟩ := Zup.out _ HBC.out))
      | (go_at_call 25; (with_reducible refine (C9.out _).mono ?_); rintro e wr2_5 ⟨v5r, rfl, hb, hn⟩; (have HBC := Lib.hid (HBC.out.step hb)); (try have F3 := Lib.hid (F3.out.below hb)); (try have F4 := Lib.hid (F4.out.below hb)); (try have F5 := Lib.hid (F5.out.below hb)); (try have F6 := Lib.hid (F6.out.below hb)); (try have F7 := Lib.hid (F7.out.below hb)); (have F6 := Lib.hid hn); clear hn; clear hb; (obtain ⟨zp0, zp1, zp2⟩ := Zp.out _ HBC.out); (obtain ⟨zx0, zx1, zx2⟩ := Zx.out _ HBC.out); (obtain ⟨zup0, zup1, zup2⟩ := Zup.out _ HBC.out))
      | (go_at_call 29; (with_reducible refine (C10.out _ _ HBC.out F6.out).mono ?_); rintro e wr2_6 ⟨v6r, rfl, hb, hn⟩; (have HBC := Lib.hid (HBC.out.step hb)); (try have F3 := Lib.hid (F3.out.below hb)); (try have F4 := Lib.hid (F4.out.below hb)); (try have F5 := Lib.hid (F5.out.below hb)); (try have F6 := Lib.hid (F6.out.below hb)); (try have F7 := Lib.hid (F7.out.below hb)); (have F7 := Lib.hid hn); clear hn; clear hb; (obtain ⟨zp0, zp1, zp2⟩ := Zp.out _ HBC.out); (obtain ⟨zx0, zx1, zx2⟩ := Zx.out _ HBC.out); (obtain ⟨zup0, zup1, zup2⟩ := Zup.out _ HBC.out))
      | (go_at_call 41; (with_reducible refine (C11.out _ _ _ F5.out F7.out).mono ?_); rintro e wr2_7 ⟨rfl, hb⟩; (have HBC := Lib.hid (HBC.out.step hb)); (try have F3 := Lib.hid (F3.out.below hb)); (try have F4 := Lib.hid (F4.out.below hb)); (try have F5 := Lib.hid (F5.out.below hb)); (try have F6 := Lib.hid (F6.out.below hb)); (try have F7 := Lib.hid (F7.out.below hb)); clear hb; (obtain ⟨zp0, zp1, zp2⟩ := Zp.out _ HBC.out); (obtain ⟨zx0, zx1, zx2⟩ := Zx.out _ HBC.out); (obtain ⟨zup0, zup1, zup2⟩ := Zup.out _ HBC.out)))
    have Fp := Lib.hid (Fp.out.below HBC.out)
    have FF := Lib.hid (FF.out.below HBC.out)
    have X := Lib.hid (X.out.below HBC.out)
    have UP := Lib.hid (UP.out.below HBC.out)
    have BXp := Lib.hid (heap_below BXp.out HBC.out)
    have BXf := Lib.hid (heap_below BXf.out HBC.out)
    have BXx := Lib.hid (heap_below BXx.out HBC.out)
    have BXup := Lib.hid (heap_below BXup.out HBC.out)
    have HB11 := Lib.hid (HB10.out.step HBC.out)
    go_wp2_with fail
    go_ret
    exact ⟨by first | rfl | (simp; done), HB11.out⟩
theorem floors_small (vp : Value) (p : Rat) (d : Nat) (w : World) (hp : RatIs w vp p) (lp : rl p ≤ 12) (zp : (szR vp).1 ≤ 12 ∧ (szR vp).2 ≤ 12) (hd : d < 65536) :
    Calls Tryd.prog 10 #[vp, .int .u16 (d : Nat)] w (RetV w (.bool true)) := by
  by_cases h0 : fl p = 0
  · exact floors_small0 vp p d w hp lp zp hd h0
  · exact floors_small1 vp p d w hp lp zp hd h0
set_option maxRecDepth 100000 in
set_option maxHeartbeats 3200000 in
theorem floors_big (vp : Value) (np mp : Nat) (d : Nat) (w : World) (hp : RatSz vp np mp) (hb : 12 < np ∨ 12 < mp) :
    Calls Tryd.prog 10 #[vp, .int .u16 (d : Nat)] w (RetV w (.bool true)) := by
  obtain ⟨sp, op, cp, ap, dp, rfl, zp⟩ := hp
  have HBIG := Lib.hid hb; clear hb
  have hb0 := ((Below.refl w.heap.size w).alloc (by first | (simp; done) | (simp; omega)) (.cells #[.bool sp, .slice op np cp, .slice ap mp dp] 24))
  have hxp := nest1_0 w (.cells #[.bool sp, .slice op np cp, .slice ap mp dp] 24)
  obtain ⟨w0, hw0⟩ : ∃ w0, w0 = (w.alloc (.cells #[.bool sp, .slice op np cp, .slice ap mp dp] 24)) := ⟨_, rfl⟩
  rw [← hw0] at hb0 hxp
  have HB0 := Lib.hid hb0; have HW0 := Lib.hid hw0
  have BXp := Lib.hid hxp
  clear hb0 hw0 hxp
  go_enter Tryd.func10, Tryd.ntmps10
  have hs := awake02 w0
  have HS := Lib.hid hs; clear hs
  go_wp2_with fail
  rw [← HW0.out]
  (with_reducible refine HS.out.mono ?_); rintro e w1 ⟨rfl, hb1⟩
  clear HS
  have HB1 := Lib.hid (HB0.out.step hb1)
  have BXp := Lib.hid (heap_below BXp.out hb1)
  clear hb1
  obtain ⟨ep0, ep1, ep2⟩ := row3 BXp.out
  obtain ⟨w2, hw2⟩ : ∃ w2, w2 = w1.alloc (.cells #[.bool sp, .slice op np cp, .slice ap mp dp] 24) := ⟨_, rfl⟩
  have hb2 : Below w1.heap.size w1 w2 := by rw [hw2]; exact (Below.refl _ _).alloc (Nat.le_refl _) _
  have hxLS := heap_alloc_new w1 (.cells #[.bool sp, .slice op np cp, .slice ap mp dp] 24)
  obtain ⟨gLS, hgLS⟩ : ∃ gLS, gLS = w1.heap.size := ⟨_, rfl⟩
  rw [← hw2, ← hgLS] at hxLS
  have HW2 := Lib.hid hw2; have HGLS := Lib.hid hgLS; clear hw2 hgLS
  have HB2 := Lib.hid (HB1.out.step hb2)
  have BXp := Lib.hid (heap_below BXp.out hb2)
  clear hb2
  have BXLS := Lib.hid hxLS; clear hxLS
  have hs := rlarge1b BXLS.out zp HBIG.out
  have HS := Lib.hid hs; clear hs
  go_wp2_with fail
  rw [← HW2.out]
  try rw [← HGLS.out]
  (with_reducible refine HS.out.mono ?_); rintro e w3 ⟨rfl, hb3⟩
  clear HS
  have HB3 := Lib.hid (HB2.out.step hb3)
  have BXp := Lib.hid (heap_below BXp.out hb3)
  clear hb3
  clear BXLS
  have hs := awake02 w3
  have HS := Lib.hid hs; clear hs
  go_wp2_with fail
  (with_reducible refine HS.out.mono ?_); rintro e w4 ⟨rfl, hb4⟩
  clear HS
  have HB4 := Lib.hid (HB3.out.step hb4)
  have BXp := Lib.hid (heap_below BXp.out hb4)
  clear hb4
  go_wp2_with fail
  go_ret
  exact ⟨rfl, HB4.out⟩
theorem floors02_walk (vp : Value) (sp : Bool) (ap bp : List Nat) (d : Nat) (w : World) (hp : RatV w vp sp ap bp) (hd : d < 65536) :
    Calls Tryd.prog 10 #[vp, .int .u16 (d : Nat)] w (RetV w (.bool true)) := by
  obtain ⟨yp, ep⟩ := hp.sz
  by_cases hb : 12 < ap.length ∨ 12 < bp.length
  · exact floors_big vp ap.length bp.length d w yp hb
  · obtain ⟨up, tp⟩ := hp.lt
    exact floors_small vp (rq sp ap bp) d w (hp.is (by omega) (by omega)) (rl_rq up tp (by omega) (by omega) (by decide)) (by rw [ep]; exact ⟨by show ap.length ≤ 12; omega, by show bp.length ≤ 12; omega⟩) hd
theorem floors02_walki (vp : Value) (sp : Bool) (ap bp : List Nat) (n : Int) (w : World) (hp : RatV w vp sp ap bp) (h0 : 0 ≤ n) (h1 : n ≤ 65535) :
    Calls Tryd.prog 10 #[vp, .int .u16 n] w (RetV w (.bool true)) := by
  obtain ⟨d, rfl⟩ : ∃ d : Nat, n = d := ⟨n.toNat, by omega⟩
  exact floors02_walk vp sp ap bp d w hp (by omega)
end Go.Proofs.YtabdndlaelfdeaaDoor
