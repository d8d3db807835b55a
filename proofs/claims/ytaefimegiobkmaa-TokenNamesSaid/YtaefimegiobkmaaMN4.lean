/-
  The texts TokV1, NatLaw0, Rat13, ShelfR, Cut, RatMath4, TokV2, Tok2, TokV3, TokOwn, Bytes, TokText, SpanMath2, TokV4, TokV5, one behind the other (what the law leans on).
  Conditions: each theorem's own.
-/
import Derived.Laws.RangeString
import Derived.Test.YtaefimegiobkmaaMN3
/-
  token.whole and the reference's natural: the number of some digits.
  Conditions: each theorem's own.
-/
namespace Go.Proofs.Ytaefimegiobkmaa
open Go.RowKit Go.ChangeShapes Go.WideShapes

set_option maxRecDepth 100000 in
set_option maxHeartbeats 6400000 in
theorem whole_any (s : ByteArray) (w : World) (hs : s.size ≤ 200) (hd : ∀ j, j < s.size → isDigit (gd (bs s) j) = true) :
    Calls Try.prog 24 #[.string s] w (RetR w (numQ (bs s))) := by
  have HBW := Lib.hid (Below.refl w.heap.size w)
  have HDG := Lib.hid hd; clear hd
  have kz0 : rl 0 ≤ 1 := by rw [rl_zero]; exact Nat.le_refl _
  obtain ⟨w1, hw1⟩ : ∃ w1, w1 = w.alloc (.cells #[.bool false, .slice none 0 0, .slice none 0 0] 32) := ⟨_, rfl⟩
  have hb1 : Below w.heap.size w w1 := by rw [hw1]; exact (Below.refl _ _).alloc (Nat.le_refl _) _
  have hx1 := heap_alloc_new w (.cells #[.bool false, .slice none 0 0, .slice none 0 0] 32)
  obtain ⟨g1, hg1⟩ : ∃ g, g = w.heap.size := ⟨_, rfl⟩
  rw [← hw1, ← hg1] at hx1
  have lw1 : w.heap.size ≤ g1 := by rw [hg1]; exact HBW.out.size
  have HW1 := Lib.hid hw1; have HG1 := Lib.hid hg1; clear hw1 hg1
  have HB1 := Lib.hid (HBW.out.step hb1)
  have BX1 := Lib.hid hx1; clear hb1 hx1
  go_enter Try.func24, Try.ntmps24
  obtain ⟨w2, hw2⟩ : ∃ w2, w2 = w1.alloc (.cells #[.bool false, .slice none 0 0, .slice none 0 0] 32) := ⟨_, rfl⟩
  have hb2 : Below w1.heap.size w1 w2 := by rw [hw2]; exact (Below.refl _ _).alloc (Nat.le_refl _) _
  have hx2 := heap_alloc_new w1 (.cells #[.bool false, .slice none 0 0, .slice none 0 0] 32)
  obtain ⟨g2, hg2⟩ : ∃ g, g = w1.heap.size := ⟨_, rfl⟩
  rw [← hw2, ← hg2] at hx2
  have lw2 : w.heap.size ≤ g2 := by rw [hg2]; exact HB1.out.size
  have ltBX12 : g1 < g2 := by rw [hg2]; exact below_lt BX1.out
  have hs2 : g2 = w.heap.size + 1 := by rw [hg2, HW1.out]; simp
  have HS2 := Lib.hid hs2; clear hs2
  have HW2 := Lib.hid hw2; have HG2 := Lib.hid hg2; clear hw2 hg2
  have HB2 := Lib.hid (HB1.out.step hb2)
  have BX1 := Lib.hid (heap_below BX1.out hb2)
  have BX2 := Lib.hid hx2; clear hb2 hx2
  go_wp2_with (with_reducible first | refine pauseCall ?_ | refine pauseLoop ?_ | refine pauseDraw ?_ | refine pauseBody ?_ | refine pauseRounds ?_)
  try rw [← HW1.out]
  try rw [← HW2.out]
  try rw [← HS2.out]
  try rw [← HG1.out]
  try rw [← HG2.out]
  refine Pause.mk ?_
  go_loopw [8] (fun kv wr => ∃ (k : Nat) (s1 : Bool) (o1 : Option Addr) (n1 c1 : Nat) (a1 : Option Addr) (p1 d1 : Nat), k ≤ s.size ∧ kv = .int .i64 k ∧ Hid (wr.heap[g2]? = some (.cells #[.bool s1, .slice o1 n1 c1, .slice a1 p1 d1] 32)) ∧ IsR wr (.agg #[.bool s1, .slice o1 n1 c1, .slice a1 p1 d1]) (numQ ((bs s).take k)) ∧
      Hid (wr.heap[g1]? = some (.cells #[.bool false, .slice none 0 0, .slice none 0 0] 32)) ∧ Below w.heap.size w wr) (fun kv _ => s.size - (intOf kv).toNat)
  case atStart => exact ⟨0, false, none, 0, 0, none, 0, 0, Nat.zero_le _, rfl, BX2, isR_zero _, BX1, HB2.out⟩
  case round =>
    obtain ⟨k, s1, o1, n1, c1, a1, p1, d1, hk, rfl, hxA, hIS, hxR, hBr⟩ := hrel
    have HBR := Lib.hid hBr; have HIS := Lib.hid hIS; clear hBr hIS
    have BXA := hxA; have BXR := hxR
    have hrl := rl_numQ ((bs s).take k) (fun b hb => by obtain ⟨j, hj, e⟩ := List.getElem_of_mem (List.mem_of_mem_take hb); have := bs_lt s j; rw [gd_lt _ _ hj] at this; rw [← e]; exact this)
    rw [List.length_take, bs_length] at hrl
    obtain ⟨Q, hQ⟩ : ∃ Q, Q = numQ ((bs s).take k) := ⟨_, rfl⟩
    rw [← hQ] at hrl HIS
    have HQ := Lib.hid hQ; clear hQ
    have hrl2 : rl Q ≤ 1001 := by omega
    clear hrl
    by_cases hkm : k < s.size
    · skip
      have hix := run_index_gb (P := Try.prog) s 9 Try.underlying9 k hkm
      have hdk := HDG.out k hkm
      unfold isDigit at hdk
      have hdk2 := of_decide_eq_true hdk; clear hdk
      obtain ⟨b, hb⟩ : ∃ b, b = gd (bs s) k := ⟨_, rfl⟩
      rw [← hb] at hix hdk2
      have hw1 : IntKind.u8.wrap ((b : Int) - 48) = (b : Int) - 48 := by rw [IntKind.wrap_u8]; omega
      have hw2 : IntKind.i64.wrap ((b : Int) - 48) = (b : Int) - 48 := by rw [IntKind.wrap_i64]; omega
      have HNX := Lib.hid (show numQ ((bs s).take (k + 1)) = Q * ((10 : Int) : Rat) + dgQ b from by rw [List.take_succ_eq_append_getElem (show k < (bs s).length by rw [bs_length]; exact hkm), numQ_snoc, HQ.out, hb, gd_lt _ _ (by rw [bs_length]; exact hkm)])
      clear hb
      have hf1 : decide ((k : Int) < (s.size : Int)) = true := decide_eq_true (by omega)
      have hrb : rl ((((b : Int) - 48 : Int)) : Rat) ≤ 2 := rl_small (by omega) (by omega)
      go_wp2_with (with_reducible first | refine pauseCall ?_ | refine pauseLoop ?_ | refine pauseDraw ?_ | refine pauseBody ?_ | refine pauseRounds ?_)
      refine Pause.mk ?_
      have k1 : rl ((10 : Int) : Rat) ≤ 2 := rl_small (by omega) (by omega)
      have k2 := rl_mul (Q) (((10 : Int) : Rat))
      refine wp_region_facts (A := ?aa3) (w := wr) 8 [] (by kernel_rfl) (Fl [KEq (.agg #[.bool s1, .slice o1 n1 c1, .slice a1 p1 d1]), KIs (((10 : Int) : Rat)), KIs ((Q) * (((10 : Int) : Rat))), KEq (.string s), KEq (.int .i64 (k : Nat)), KEq (.int .u8 (b : Nat)), KEq (.int .u8 ((b : Int) - 48)), KEq (.int .i64 ((b : Int) - 48))]) (fun i => false) (by kernel_rfl) ?hq3 (monoL (monoC (kEq _) (monoC (kIs _) (monoC (kIs _) (monoC (kEq _) (monoC (kEq _) (monoC (kEq _) (monoC (kEq _) (monoC (kEq _) monoN))))))))) ?ha3 ?st3 ?tl3
      case hq3 =>
        intro c a d v w h
        first | (simp only [Exit.then] at h ⊢; exact h) | (simp only [Exit.inBlock, Exit.then] at h ⊢; exact h) | exact h
      case ha3 =>
        intro vals
        simp only [putsTo, dstOf, if_true, Act.put, List.setIfInBounds_toArray, List.set_cons_zero, List.set_cons_succ, List.getElem?_toArray, List.getElem?_cons_zero, List.getElem?_cons_succ, Option.bind_some]
        exact rfl
      case st3 =>
        simp only [List.take_succ_cons, List.take_zero]
        refine stepsOK_cons rfl rfl ?_ (stepsOK_cons rfl rfl ?_ (stepsOK_cons rfl rfl ?_ (stepsOK_cons rfl rfl ?_ (stepsOK_cons rfl rfl ?_ (stepsOK_cons rfl rfl ?_ (stepsOK_cons rfl rfl ?_ (stepsOK_cons rfl rfl ?_ (stepsOK_nil))))))))
        · intro vals w1 hb hd
          obtain ⟨e0, e1, e2⟩ := row3 (heap_below BXA.out hb)
          refine stepOK_value (v := .agg #[.bool s1, .slice o1 n1 c1, .slice a1 p1 d1]) (w' := w1) (by go_simp) (leaves_mk (Below.refl _ _) rfl (fun h => by cases h))
        · intro vals w1 hb hd
          have hs := ofq_any 10 w1 (by omega) (by omega)
          have HS := Lib.hid hs; clear hs
          clear hd
          refine stepOK_call (by go_simp; first | done | exact ⟨⟨rfl, rfl⟩, rfl⟩) ?_
          (with_reducible refine HS.out.mono ?_); rintro e w2 ⟨v, rfl, hb2, hn⟩
          exact ⟨v, rfl, leaves_mk hb2 hn (fun h => by cases h)⟩
        · intro vals w1 hb hd
          have d0 : KEq (.agg #[.bool s1, .slice o1 n1 c1, .slice a1 p1 d1]) (vals 0) w1 := hd 0 (by kernel_rfl)
          have d1 : KIs (((10 : Int) : Rat)) (vals 1) w1 := hd 1 (by kernel_rfl)
          have R1 : Hid (IsR w1 (vals 1) (((10 : Int) : Rat))) := Lib.hid d1
          have z0 : vals 0 = _ := d0
          have hs := mulq_any _ (Q) _ (((10 : Int) : Rat)) w1 ((HIS.out.below hb).is (by omega)) (R1.out.is (by omega))
          have HS := Lib.hid hs; clear hs
          rw [z0]; clear z0
          clear d0 d1 hd
          refine stepOK_call (by go_simp; first | done | exact ⟨⟨rfl, rfl⟩, rfl⟩) ?_
          (with_reducible refine HS.out.mono ?_); rintro e w2 ⟨v, rfl, hb2, hn⟩
          exact ⟨v, rfl, leaves_mk hb2 hn (fun h => by cases h)⟩
        · intro vals w1 hb hd
          refine stepOK_value (v := (.string s)) (w' := w1) (by go_simp) (leaves_mk (Below.refl _ _) rfl (fun h => by cases h))
        · intro vals w1 hb hd
          refine stepOK_value (v := (.int .i64 (k : Nat))) (w' := w1) (by go_simp) (leaves_mk (Below.refl _ _) rfl (fun h => by cases h))
        · intro vals w1 hb hd
          have d3 : KEq (.string s) (vals 3) w1 := hd 3 (by kernel_rfl)
          have d4 : KEq (.int .i64 (k : Nat)) (vals 4) w1 := hd 4 (by kernel_rfl)
          rw [show vals 3 = _ from d3]
          rw [show vals 4 = _ from d4]
          refine stepOK_value (v := (.int .u8 (b : Nat))) (w' := w1) (by go_simp) (leaves_mk (Below.refl _ _) rfl (fun h => by cases h))
        · intro vals w1 hb hd
          have d5 : KEq (.int .u8 (b : Nat)) (vals 5) w1 := hd 5 (by kernel_rfl)
          rw [show vals 5 = _ from d5]
          refine stepOK_value (v := (.int .u8 ((b : Int) - 48))) (w' := w1) (by go_simp) (leaves_mk (Below.refl _ _) rfl (fun h => by cases h))
        · intro vals w1 hb hd
          have d6 : KEq (.int .u8 ((b : Int) - 48)) (vals 6) w1 := hd 6 (by kernel_rfl)
          rw [show vals 6 = _ from d6]
          refine stepOK_value (v := (.int .i64 ((b : Int) - 48))) (w' := w1) (by go_simp) (leaves_mk (Below.refl _ _) rfl (fun h => by cases h))
      case tl3 =>
        intro vals w13 hb13 hf hdis
        simp only [List.drop_succ_cons, List.drop_zero]
        obtain ⟨u3_2, hu2⟩ : ∃ u, u = vals 2 := ⟨_, rfl⟩
        have hn3_2 : IsR w13 (vals 2) ((Q) * (((10 : Int) : Rat))) := hf 2 (by decide)
        rw [← hu2] at hn3_2 ⊢; clear hu2
        have z7 : vals 7 = _ := hf 7 (by decide)
        try rw [z7]
        clear z7
        clear hf hdis
        have HB13 := Lib.hid (HBR.out.step hb13)
        have HIS := Lib.hid (HIS.out.below hb13)
        have BXR := Lib.hid (heap_below BXR.out hb13)
        have BXA := Lib.hid (heap_below BXA.out hb13)
        clear hb13
        have N3_2 := Lib.hid hn3_2; clear hn3_2
        obtain ⟨s4, o4, n4, c4, a4, m4, d4, rfl⟩ := N3_2.out.shape
        skip
        have k5 : rl ((((b : Int) - 48) : Int) : Rat) ≤ 2 := rl_small (by omega) (by omega)
        have hs := ofq_any ((b : Int) - 48) w13 (by omega) (by omega)
        have HS := Lib.hid hs; clear hs
        go_wp2_with (with_reducible first | refine pauseCall ?_ | refine pauseLoop ?_ | refine pauseDraw ?_ | refine pauseBody ?_ | refine pauseRounds ?_)
        refine Pause.mk ?_
        (with_reducible refine HS.out.mono ?_); rintro e w14 ⟨v14, rfl, hb14, hn14⟩
        clear HS
        have HB14 := Lib.hid (HB13.out.step hb14)
        have HIS := Lib.hid (HIS.out.below hb14)
        have N3_2 := Lib.hid (N3_2.out.below hb14)
        have BXR := Lib.hid (heap_below BXR.out hb14)
        have BXA := Lib.hid (heap_below BXA.out hb14)
        have N14 := Lib.hid hn14; clear hn14
        obtain ⟨s6, o6, n6, c6, a6, m6, d6, rfl⟩ := N14.out.shape
        clear hb14
        have k7 := rl_add ((Q) * (((10 : Int) : Rat))) (((((b : Int) - 48) : Int) : Rat))
        have hs := addq_any _ ((Q) * (((10 : Int) : Rat))) _ (((((b : Int) - 48) : Int) : Rat)) w14 (N3_2.out.is (by omega)) (N14.out.is (by omega))
        have HS := Lib.hid hs; clear hs
        go_wp2_with (with_reducible first | refine pauseCall ?_ | refine pauseLoop ?_ | refine pauseDraw ?_ | refine pauseBody ?_ | refine pauseRounds ?_)
        refine Pause.mk ?_
        (with_reducible refine HS.out.mono ?_); rintro e w15 ⟨v15, rfl, hb15, hn15⟩
        clear HS
        have HB15 := Lib.hid (HB14.out.step hb15)
        have HIS := Lib.hid (HIS.out.below hb15)
        have N3_2 := Lib.hid (N3_2.out.below hb15)
        have N14 := Lib.hid (N14.out.below hb15)
        have BXR := Lib.hid (heap_below BXR.out hb15)
        have BXA := Lib.hid (heap_below BXA.out hb15)
        have N15 := Lib.hid hn15; clear hn15
        obtain ⟨s8, o8, n8, c8, a8, m8, d8, rfl⟩ := N15.out.shape
        clear hb15
        go_wp2_with (with_reducible refine wpList_pauseS ?_)
        refine wpList_stL g2 0 [.bool s8, .slice o8 n8 c8, .slice a8 m8 d8] BXA.out rfl rfl (Nat.le_of_ble_eq_true rfl) (by kernel_rfl) rfl ?_
        intro w16 hp16
        have HIS := Lib.hid (putL_I hp16 HIS.out BXA.out noW3)
        have N3_2 := Lib.hid (putL_I hp16 N3_2.out BXA.out noW3)
        have N14 := Lib.hid (putL_I hp16 N14.out BXA.out noW3)
        have N15 := Lib.hid (putL_I hp16 N15.out BXA.out noW3)
        have BXR := Lib.hid (putLx hp16 BXR.out (by omega))
        have nx16 : w16.heap[g2]? = some (.cells #[.bool s8, .slice o8 n8 c8, .slice a8 m8 d8] 32) := by rw [hp16]; exact putL_r BXA.out
        have BXA := Lib.hid nx16; clear nx16
        have HB16 := Lib.hid (putLb hp16 HB15.out (by omega))
        clear hp16
        go_wp2_with (with_reducible first | refine pauseCall ?_ | refine pauseLoop ?_ | refine pauseDraw ?_ | refine pauseBody ?_ | refine pauseRounds ?_)
        refine Pause.mk ?_
        go_roundw
        case rel => exact ⟨k + 1, s8, o8, n8, c8, a8, m8, d8, hkm, by go_num, BXA, by rw [HNX.out]; exact N15.out, BXR, HB16.out⟩
        case measure => simp [intOf]; omega
    · skip
      obtain rfl : k = s.size := by omega
      have hf1 : decide ((s.size : Int) < (s.size : Int)) = false := decide_eq_false (by omega)
      have HQ2 := Lib.hid (show Q = numQ (bs s) from by rw [HQ.out, List.take_of_length_le (by rw [bs_length]; exact Nat.le_refl _)])
      rw [HQ2.out] at HIS
      obtain ⟨x51_0, x51_1, x51_2⟩ := row3 BXA.out
      go_wp2_with (with_reducible refine wpList_pauseS ?_)
      clear x51_0 x51_1 x51_2
      refine wpList_stL g1 0 [.bool s1, .slice o1 n1 c1, .slice a1 p1 d1] BXR.out rfl rfl (Nat.le_of_ble_eq_true rfl) (by kernel_rfl) rfl ?_
      intro w63 hp63
      have HIS := Lib.hid (putL_I hp63 HIS.out BXR.out noW3)
      have BXA := Lib.hid (putLx hp63 BXA.out (by omega))
      have nx63 : w63.heap[g1]? = some (.cells #[.bool s1, .slice o1 n1 c1, .slice a1 p1 d1] 32) := by rw [hp63]; exact putL_r BXR.out
      have BXR := Lib.hid nx63; clear nx63
      have HB63 := Lib.hid (putLb hp63 HBR.out (by omega))
      clear hp63
      obtain ⟨x52_0, x52_1, x52_2⟩ := row3 BXR.out
      go_wp2_with (with_reducible first | refine pauseCall ?_ | refine pauseLoop ?_ | refine pauseDraw ?_ | refine pauseBody ?_ | refine pauseRounds ?_)
      clear x52_0 x52_1 x52_2
      refine Pause.mk ?_
      refine ret_rat rfl g1 _ _ _ (by first | rfl | exact rfl) BXR.out rfl ?_
      exact ⟨_, rfl, HB63.out, HIS.out⟩
set_option maxRecDepth 100000 in
set_option maxHeartbeats 6400000 in
theorem rnatural_any (s : ByteArray) (w : World) (hs : s.size ≤ 200) (hd : ∀ j, j < s.size → isDigit (gd (bs s) j) = true) :
    Calls Try.prog 30 #[.string s] w (RetR w (numQ (bs s))) := by
  have HBW := Lib.hid (Below.refl w.heap.size w)
  have HDG := Lib.hid hd; clear hd
  have kz0 : rl 0 ≤ 1 := by rw [rl_zero]; exact Nat.le_refl _
  obtain ⟨w1, hw1⟩ : ∃ w1, w1 = w.alloc (.cells #[.bool false, .slice none 0 0, .slice none 0 0] 32) := ⟨_, rfl⟩
  have hb1 : Below w.heap.size w w1 := by rw [hw1]; exact (Below.refl _ _).alloc (Nat.le_refl _) _
  have hx1 := heap_alloc_new w (.cells #[.bool false, .slice none 0 0, .slice none 0 0] 32)
  obtain ⟨g1, hg1⟩ : ∃ g, g = w.heap.size := ⟨_, rfl⟩
  rw [← hw1, ← hg1] at hx1
  have lw1 : w.heap.size ≤ g1 := by rw [hg1]; exact HBW.out.size
  have HW1 := Lib.hid hw1; have HG1 := Lib.hid hg1; clear hw1 hg1
  have HB1 := Lib.hid (HBW.out.step hb1)
  have BX1 := Lib.hid hx1; clear hb1 hx1
  go_enter Try.func30, Try.ntmps30
  obtain ⟨w2, hw2⟩ : ∃ w2, w2 = w1.alloc (.cells #[.bool false, .slice none 0 0, .slice none 0 0] 32) := ⟨_, rfl⟩
  have hb2 : Below w1.heap.size w1 w2 := by rw [hw2]; exact (Below.refl _ _).alloc (Nat.le_refl _) _
  have hx2 := heap_alloc_new w1 (.cells #[.bool false, .slice none 0 0, .slice none 0 0] 32)
  obtain ⟨g2, hg2⟩ : ∃ g, g = w1.heap.size := ⟨_, rfl⟩
  rw [← hw2, ← hg2] at hx2
  have lw2 : w.heap.size ≤ g2 := by rw [hg2]; exact HB1.out.size
  have ltBX12 : g1 < g2 := by rw [hg2]; exact below_lt BX1.out
  have hs2 : g2 = w.heap.size + 1 := by rw [hg2, HW1.out]; simp
  have HS2 := Lib.hid hs2; clear hs2
  have HW2 := Lib.hid hw2; have HG2 := Lib.hid hg2; clear hw2 hg2
  have HB2 := Lib.hid (HB1.out.step hb2)
  have BX1 := Lib.hid (heap_below BX1.out hb2)
  have BX2 := Lib.hid hx2; clear hb2 hx2
  go_wp2_with (with_reducible first | refine pauseCall ?_ | refine pauseLoop ?_ | refine pauseDraw ?_ | refine pauseBody ?_ | refine pauseRounds ?_)
  try rw [← HW1.out]
  try rw [← HW2.out]
  try rw [← HS2.out]
  try rw [← HG1.out]
  try rw [← HG2.out]
  refine Pause.mk ?_
  go_loopw [8] (fun kv wr => ∃ (k : Nat) (s1 : Bool) (o1 : Option Addr) (n1 c1 : Nat) (a1 : Option Addr) (p1 d1 : Nat), k ≤ s.size ∧ kv = .int .i64 k ∧ Hid (wr.heap[g2]? = some (.cells #[.bool s1, .slice o1 n1 c1, .slice a1 p1 d1] 32)) ∧ IsR wr (.agg #[.bool s1, .slice o1 n1 c1, .slice a1 p1 d1]) (numQ ((bs s).take k)) ∧
      Hid (wr.heap[g1]? = some (.cells #[.bool false, .slice none 0 0, .slice none 0 0] 32)) ∧ Below w.heap.size w wr) (fun kv _ => s.size - (intOf kv).toNat)
  case atStart => exact ⟨0, false, none, 0, 0, none, 0, 0, Nat.zero_le _, rfl, BX2, isR_zero _, BX1, HB2.out⟩
  case round =>
    obtain ⟨k, s1, o1, n1, c1, a1, p1, d1, hk, rfl, hxA, hIS, hxR, hBr⟩ := hrel
    have HBR := Lib.hid hBr; have HIS := Lib.hid hIS; clear hBr hIS
    have BXA := hxA; have BXR := hxR
    have hrl := rl_numQ ((bs s).take k) (fun b hb => by obtain ⟨j, hj, e⟩ := List.getElem_of_mem (List.mem_of_mem_take hb); have := bs_lt s j; rw [gd_lt _ _ hj] at this; rw [← e]; exact this)
    rw [List.length_take, bs_length] at hrl
    obtain ⟨Q, hQ⟩ : ∃ Q, Q = numQ ((bs s).take k) := ⟨_, rfl⟩
    rw [← hQ] at hrl HIS
    have HQ := Lib.hid hQ; clear hQ
    have hrl2 : rl Q ≤ 1001 := by omega
    clear hrl
    by_cases hkm : k < s.size
    · skip
      have hix := run_index_gb (P := Try.prog) s 9 Try.underlying9 k hkm
      have hdk := HDG.out k hkm
      unfold isDigit at hdk
      have hdk2 := of_decide_eq_true hdk; clear hdk
      obtain ⟨b, hb⟩ : ∃ b, b = gd (bs s) k := ⟨_, rfl⟩
      rw [← hb] at hix hdk2
      have hw1 : IntKind.u8.wrap ((b : Int) - 48) = (b : Int) - 48 := by rw [IntKind.wrap_u8]; omega
      have hw2 : IntKind.i64.wrap ((b : Int) - 48) = (b : Int) - 48 := by rw [IntKind.wrap_i64]; omega
      have HNX := Lib.hid (show numQ ((bs s).take (k + 1)) = Q * ((10 : Int) : Rat) + dgQ b from by rw [List.take_succ_eq_append_getElem (show k < (bs s).length by rw [bs_length]; exact hkm), numQ_snoc, HQ.out, hb, gd_lt _ _ (by rw [bs_length]; exact hkm)])
      clear hb
      have hf1 : decide ((k : Int) < (s.size : Int)) = true := decide_eq_true (by omega)
      have hrb : rl ((((b : Int) - 48 : Int)) : Rat) ≤ 2 := rl_small (by omega) (by omega)
      go_wp2_with (with_reducible first | refine pauseCall ?_ | refine pauseLoop ?_ | refine pauseDraw ?_ | refine pauseBody ?_ | refine pauseRounds ?_)
      refine Pause.mk ?_
      have k1 : rl ((10 : Int) : Rat) ≤ 2 := rl_small (by omega) (by omega)
      have k2 := rl_mul (Q) (((10 : Int) : Rat))
      refine wp_region_facts (A := ?aa3) (w := wr) 8 [] (by kernel_rfl) (Fl [KEq (.agg #[.bool s1, .slice o1 n1 c1, .slice a1 p1 d1]), KIs (((10 : Int) : Rat)), KIs ((Q) * (((10 : Int) : Rat))), KEq (.string s), KEq (.int .i64 (k : Nat)), KEq (.int .u8 (b : Nat)), KEq (.int .u8 ((b : Int) - 48)), KEq (.int .i64 ((b : Int) - 48))]) (fun i => false) (by kernel_rfl) ?hq3 (monoL (monoC (kEq _) (monoC (kIs _) (monoC (kIs _) (monoC (kEq _) (monoC (kEq _) (monoC (kEq _) (monoC (kEq _) (monoC (kEq _) monoN))))))))) ?ha3 ?st3 ?tl3
      case hq3 =>
        intro c a d v w h
        first | (simp only [Exit.then] at h ⊢; exact h) | (simp only [Exit.inBlock, Exit.then] at h ⊢; exact h) | exact h
      case ha3 =>
        intro vals
        simp only [putsTo, dstOf, if_true, Act.put, List.setIfInBounds_toArray, List.set_cons_zero, List.set_cons_succ, List.getElem?_toArray, List.getElem?_cons_zero, List.getElem?_cons_succ, Option.bind_some]
        exact rfl
      case st3 =>
        simp only [List.take_succ_cons, List.take_zero]
        refine stepsOK_cons rfl rfl ?_ (stepsOK_cons rfl rfl ?_ (stepsOK_cons rfl rfl ?_ (stepsOK_cons rfl rfl ?_ (stepsOK_cons rfl rfl ?_ (stepsOK_cons rfl rfl ?_ (stepsOK_cons rfl rfl ?_ (stepsOK_cons rfl rfl ?_ (stepsOK_nil))))))))
        · intro vals w1 hb hd
          obtain ⟨e0, e1, e2⟩ := row3 (heap_below BXA.out hb)
          refine stepOK_value (v := .agg #[.bool s1, .slice o1 n1 c1, .slice a1 p1 d1]) (w' := w1) (by go_simp) (leaves_mk (Below.refl _ _) rfl (fun h => by cases h))
        · intro vals w1 hb hd
          have hs := rofq_any 10 w1 (by omega) (by omega)
          have HS := Lib.hid hs; clear hs
          clear hd
          refine stepOK_call (by go_simp; first | done | exact ⟨⟨rfl, rfl⟩, rfl⟩) ?_
          (with_reducible refine HS.out.mono ?_); rintro e w2 ⟨v, rfl, hb2, hn⟩
          exact ⟨v, rfl, leaves_mk hb2 hn (fun h => by cases h)⟩
        · intro vals w1 hb hd
          have d0 : KEq (.agg #[.bool s1, .slice o1 n1 c1, .slice a1 p1 d1]) (vals 0) w1 := hd 0 (by kernel_rfl)
          have d1 : KIs (((10 : Int) : Rat)) (vals 1) w1 := hd 1 (by kernel_rfl)
          have R1 : Hid (IsR w1 (vals 1) (((10 : Int) : Rat))) := Lib.hid d1
          have z0 : vals 0 = _ := d0
          have hs := rmulq_any _ (Q) _ (((10 : Int) : Rat)) w1 ((HIS.out.below hb).is (by omega)) (R1.out.is (by omega))
          have HS := Lib.hid hs; clear hs
          rw [z0]; clear z0
          clear d0 d1 hd
          refine stepOK_call (by go_simp; first | done | exact ⟨⟨rfl, rfl⟩, rfl⟩) ?_
          (with_reducible refine HS.out.mono ?_); rintro e w2 ⟨v, rfl, hb2, hn⟩
          exact ⟨v, rfl, leaves_mk hb2 hn (fun h => by cases h)⟩
        · intro vals w1 hb hd
          refine stepOK_value (v := (.string s)) (w' := w1) (by go_simp) (leaves_mk (Below.refl _ _) rfl (fun h => by cases h))
        · intro vals w1 hb hd
          refine stepOK_value (v := (.int .i64 (k : Nat))) (w' := w1) (by go_simp) (leaves_mk (Below.refl _ _) rfl (fun h => by cases h))
        · intro vals w1 hb hd
          have d3 : KEq (.string s) (vals 3) w1 := hd 3 (by kernel_rfl)
          have d4 : KEq (.int .i64 (k : Nat)) (vals 4) w1 := hd 4 (by kernel_rfl)
          rw [show vals 3 = _ from d3]
          rw [show vals 4 = _ from d4]
          refine stepOK_value (v := (.int .u8 (b : Nat))) (w' := w1) (by go_simp) (leaves_mk (Below.refl _ _) rfl (fun h => by cases h))
        · intro vals w1 hb hd
          have d5 : KEq (.int .u8 (b : Nat)) (vals 5) w1 := hd 5 (by kernel_rfl)
          rw [show vals 5 = _ from d5]
          refine stepOK_value (v := (.int .u8 ((b : Int) - 48))) (w' := w1) (by go_simp) (leaves_mk (Below.refl _ _) rfl (fun h => by cases h))
        · intro vals w1 hb hd
          have d6 : KEq (.int .u8 ((b : Int) - 48)) (vals 6) w1 := hd 6 (by kernel_rfl)
          rw [show vals 6 = _ from d6]
          refine stepOK_value (v := (.int .i64 ((b : Int) - 48))) (w' := w1) (by go_simp) (leaves_mk (Below.refl _ _) rfl (fun h => by cases h))
      case tl3 =>
        intro vals w13 hb13 hf hdis
        simp only [List.drop_succ_cons, List.drop_zero]
        obtain ⟨u3_2, hu2⟩ : ∃ u, u = vals 2 := ⟨_, rfl⟩
        have hn3_2 : IsR w13 (vals 2) ((Q) * (((10 : Int) : Rat))) := hf 2 (by decide)
        rw [← hu2] at hn3_2 ⊢; clear hu2
        have z7 : vals 7 = _ := hf 7 (by decide)
        try rw [z7]
        clear z7
        clear hf hdis
        have HB13 := Lib.hid (HBR.out.step hb13)
        have HIS := Lib.hid (HIS.out.below hb13)
        have BXR := Lib.hid (heap_below BXR.out hb13)
        have BXA := Lib.hid (heap_below BXA.out hb13)
        clear hb13
        have N3_2 := Lib.hid hn3_2; clear hn3_2
        obtain ⟨s4, o4, n4, c4, a4, m4, d4, rfl⟩ := N3_2.out.shape
        skip
        have k5 : rl ((((b : Int) - 48) : Int) : Rat) ≤ 2 := rl_small (by omega) (by omega)
        have hs := rofq_any ((b : Int) - 48) w13 (by omega) (by omega)
        have HS := Lib.hid hs; clear hs
        go_wp2_with (with_reducible first | refine pauseCall ?_ | refine pauseLoop ?_ | refine pauseDraw ?_ | refine pauseBody ?_ | refine pauseRounds ?_)
        refine Pause.mk ?_
        (with_reducible refine HS.out.mono ?_); rintro e w14 ⟨v14, rfl, hb14, hn14⟩
        clear HS
        have HB14 := Lib.hid (HB13.out.step hb14)
        have HIS := Lib.hid (HIS.out.below hb14)
        have N3_2 := Lib.hid (N3_2.out.below hb14)
        have BXR := Lib.hid (heap_below BXR.out hb14)
        have BXA := Lib.hid (heap_below BXA.out hb14)
        have N14 := Lib.hid hn14; clear hn14
        obtain ⟨s6, o6, n6, c6, a6, m6, d6, rfl⟩ := N14.out.shape
        clear hb14
        have k7 := rl_add ((Q) * (((10 : Int) : Rat))) (((((b : Int) - 48) : Int) : Rat))
        have hs := raddq_any _ ((Q) * (((10 : Int) : Rat))) _ (((((b : Int) - 48) : Int) : Rat)) w14 (N3_2.out.is (by omega)) (N14.out.is (by omega))
        have HS := Lib.hid hs; clear hs
        go_wp2_with (with_reducible first | refine pauseCall ?_ | refine pauseLoop ?_ | refine pauseDraw ?_ | refine pauseBody ?_ | refine pauseRounds ?_)
        refine Pause.mk ?_
        (with_reducible refine HS.out.mono ?_); rintro e w15 ⟨v15, rfl, hb15, hn15⟩
        clear HS
        have HB15 := Lib.hid (HB14.out.step hb15)
        have HIS := Lib.hid (HIS.out.below hb15)
        have N3_2 := Lib.hid (N3_2.out.below hb15)
        have N14 := Lib.hid (N14.out.below hb15)
        have BXR := Lib.hid (heap_below BXR.out hb15)
        have BXA := Lib.hid (heap_below BXA.out hb15)
        have N15 := Lib.hid hn15; clear hn15
        obtain ⟨s8, o8, n8, c8, a8, m8, d8, rfl⟩ := N15.out.shape
        clear hb15
        go_wp2_with (with_reducible refine wpList_pauseS ?_)
        refine wpList_stL g2 0 [.bool s8, .slice o8 n8 c8, .slice a8 m8 d8] BXA.out rfl rfl (Nat.le_of_ble_eq_true rfl) (by kernel_rfl) rfl ?_
        intro w16 hp16
        have HIS := Lib.hid (putL_I hp16 HIS.out BXA.out noW3)
        have N3_2 := Lib.hid (putL_I hp16 N3_2.out BXA.out noW3)
        have N14 := Lib.hid (putL_I hp16 N14.out BXA.out noW3)
        have N15 := Lib.hid (putL_I hp16 N15.out BXA.out noW3)
        have BXR := Lib.hid (putLx hp16 BXR.out (by omega))
        have nx16 : w16.heap[g2]? = some (.cells #[.bool s8, .slice o8 n8 c8, .slice a8 m8 d8] 32) := by rw [hp16]; exact putL_r BXA.out
        have BXA := Lib.hid nx16; clear nx16
        have HB16 := Lib.hid (putLb hp16 HB15.out (by omega))
        clear hp16
        go_wp2_with (with_reducible first | refine pauseCall ?_ | refine pauseLoop ?_ | refine pauseDraw ?_ | refine pauseBody ?_ | refine pauseRounds ?_)
        refine Pause.mk ?_
        go_roundw
        case rel => exact ⟨k + 1, s8, o8, n8, c8, a8, m8, d8, hkm, by go_num, BXA, by rw [HNX.out]; exact N15.out, BXR, HB16.out⟩
        case measure => simp [intOf]; omega
    · skip
      obtain rfl : k = s.size := by omega
      have hf1 : decide ((s.size : Int) < (s.size : Int)) = false := decide_eq_false (by omega)
      have HQ2 := Lib.hid (show Q = numQ (bs s) from by rw [HQ.out, List.take_of_length_le (by rw [bs_length]; exact Nat.le_refl _)])
      rw [HQ2.out] at HIS
      obtain ⟨x51_0, x51_1, x51_2⟩ := row3 BXA.out
      go_wp2_with (with_reducible refine wpList_pauseS ?_)
      clear x51_0 x51_1 x51_2
      refine wpList_stL g1 0 [.bool s1, .slice o1 n1 c1, .slice a1 p1 d1] BXR.out rfl rfl (Nat.le_of_ble_eq_true rfl) (by kernel_rfl) rfl ?_
      intro w63 hp63
      have HIS := Lib.hid (putL_I hp63 HIS.out BXR.out noW3)
      have BXA := Lib.hid (putLx hp63 BXA.out (by omega))
      have nx63 : w63.heap[g1]? = some (.cells #[.bool s1, .slice o1 n1 c1, .slice a1 p1 d1] 32) := by rw [hp63]; exact putL_r BXR.out
      have BXR := Lib.hid nx63; clear nx63
      have HB63 := Lib.hid (putLb hp63 HBR.out (by omega))
      clear hp63
      obtain ⟨x52_0, x52_1, x52_2⟩ := row3 BXR.out
      go_wp2_with (with_reducible first | refine pauseCall ?_ | refine pauseLoop ?_ | refine pauseDraw ?_ | refine pauseBody ?_ | refine pauseRounds ?_)
      clear x52_0 x52_1 x52_2
      refine Pause.mk ?_
      refine ret_rat rfl g1 _ _ _ (by first | rfl | exact rfl) BXR.out rfl ?_
      exact ⟨_, rfl, HB63.out, HIS.out⟩
end Go.Proofs.Ytaefimegiobkmaa
/-
  Small functions of the statements: words that are equal, numbers that are too long, errors by their numbers, the document's examples.
  Conditions: each theorem's own.
-/
namespace Go.Proofs.Ytaefimegiobkmaa
open Go.RowKit Go.ChangeShapes Go.WideShapes

theorem assert_yes (c : Int) (w : World) : (Instr.typeAssert (.iface 36 (.int .i64 c)) 25 36 true).run Try.prog w = .ok (.tuple #[.int .i64 c, .bool true]) w := by kernel_rfl
theorem assert_no (w : World) : (Instr.typeAssert .nilIface 25 36 true).run Try.prog w = .ok (.tuple #[.int .i64 0, .bool false]) w := by kernel_rfl
set_option maxRecDepth 100000 in
theorem num_any (c : Nat) (w : World) (hc : c < 1000) : Calls Try.prog 14 #[errV c] w (RetS w (.int .i64 c)) := by
  by_cases h0 : c = 0
  · subst h0
    rw [errV_zero]
    go_enter Try.func14, Try.ntmps14
    go_wp2
    go_ret
    exact ⟨rfl, rfl⟩
  · have ha := assert_yes c
    rw [errV_pos h0]
    go_enter Try.func14, Try.ntmps14
    go_wp2
    go_ret
    exact ⟨rfl, rfl⟩
theorem is_eq (c k : Nat) : (((c : Int) == (k : Int)) : Bool) = decide (c = k) := by rw [Bool.eq_iff_iff]; simp; omega
set_option maxRecDepth 100000 in
theorem is_any (c : Nat) (kk : Int) (k : Nat) (w : World) (hk : kk = k) (hk0 : k ≠ 0) : Calls Try.prog 8 #[errV c, .int .i64 kk] w (RetS w (.bool (decide (c = k)))) := by
  have HK := Lib.hid hk; clear hk
  by_cases h0 : c = 0
  · subst h0
    have ha := assert_no
    rw [errV_zero]
    go_enter Try.func8, Try.ntmps8
    go_wp2
    go_ret
    exact ⟨ret_bool (by rw [eq_comm]; simp; omega), rfl⟩
  · have ha := assert_yes c
    rw [errV_pos h0]
    go_enter Try.func8, Try.ntmps8
    go_wp2
    go_ret
    exact ⟨ret_bool (by rw [HK.out, is_eq]), rfl⟩

set_option maxRecDepth 100000 in
set_option maxHeartbeats 1600000 in
theorem words_any (va vb : Value) (a b : List Nat) (w : World) (ha : Num w va a) (hb : Num w vb b) (hla : a.length ≤ 1000000) :
    Calls Try.prog 38 #[va, vb] w (RetV w (.bool (decide (a = b)))) := by
  obtain ⟨ao, ca, rfl, hca, hca2, _⟩ := ha.shape
  obtain ⟨bo, cb, rfl, hcb, hcb2, _⟩ := hb.shape
  by_cases hlen : a.length = b.length
  · obtain ⟨n, hn⟩ : ∃ n, n = a.length := ⟨_, rfl⟩
    have hnb : n = b.length := by omega
    rw [← hn] at hca hla ⊢
    rw [← hnb] at hcb ⊢
    rw [← hn] at ha
    rw [← hnb] at hb
    have HA := Lib.hid ha; have HB := Lib.hid hb; have HN := Lib.hid hn; have HNB := Lib.hid hnb
    clear ha hb hn hnb hlen
    obtain ⟨r, hr⟩ : ∃ r, r = decide (a = b) := ⟨_, rfl⟩
    rw [← hr]
    have HR := Lib.hid hr; clear hr
    go_enter Try.func38, Try.ntmps38
    go_wp2_with fail
    go_loopw [13] (fun iv wr => ∃ k : Nat, k ≤ n ∧ iv = .int .i64 k ∧ Hid (∀ j, j < k → gd a j = gd b j) ∧ Below w.heap.size w wr) (fun iv _ => n - (intOf iv).toNat)
    case atStart => exact ⟨0, Nat.zero_le _, rfl, Lib.hid (fun j hj => by omega), Below.refl _ _⟩
    case round =>
      obtain ⟨k, hk, rfl, hsame, hBr⟩ := hrel
      by_cases hkn : k < n
      · obtain ⟨b1, o1, rfl, _, hc1⟩ := (HA.out.below hBr).at (by omega)
        obtain ⟨b2, o2, rfl, _, hc2⟩ := (HB.out.below hBr).at (by omega)
        have hx1 := hc1 k (by omega)
        have hx2 := hc2 k (by omega)
        obtain ⟨x, hx⟩ : ∃ x, x = gd a k := ⟨_, rfl⟩
        obtain ⟨y, hy⟩ : ∃ y, y = gd b k := ⟨_, rfl⟩
        rw [← hx] at hx1
        rw [← hy] at hx2
        have HX := Lib.hid hx; have HY := Lib.hid hy
        clear hc1 hc2 hx hy
        by_cases hxy : x = y
        · subst hxy
          have hs2 : ∀ j, j < k + 1 → gd a j = gd b j := fun j hj => by
            by_cases hjk : j = k
            · rw [hjk, ← HX.out, ← HY.out]
            · exact hsame.out j (by omega)
          have HS2 := Lib.hid hs2; clear hs2
          go_wp2_with fail
          go_quiet (fail)
          go_wp2_with fail
          go_roundw
          case rel => exact ⟨k + 1, by omega, by go_num, HS2, below_drewN hBr _⟩
          case measure => simp [intOf]; omega
        · have hne : (bne (x : Int) (y : Int)) = true := by simp; omega
          have hv : r = false := by
            rw [HR.out]
            apply decide_eq_false
            intro h
            apply hxy
            rw [HX.out, HY.out, h]
          have HV := Lib.hid hv; clear hv hxy
          go_wp2_with fail
          go_quiet (fail)
          go_wp2_with fail
          go_ret
          exact ⟨by rw [HV.out]; rfl, below_drewN hBr _⟩
      · obtain rfl : k = n := by omega
        have hv : r = true := by
          rw [HR.out]
          apply decide_eq_true
          exact gd_ext (by rw [← HN.out, ← HNB.out]) (fun j hj => hsame.out j (by rw [HN.out]; exact hj))
        have HV := Lib.hid hv; clear hv
        go_wp2_with fail
        go_ret
        exact ⟨by rw [HV.out]; rfl, hBr⟩
  · have hne : (bne (a.length : Int) (b.length : Int)) = true := by simp; omega
    have hv : decide (a = b) = false := decide_eq_false fun h => hlen (by rw [h])
    rw [hv]
    clear hv hlen ha hb
    go_enter Try.func38, Try.ntmps38
    go_wp2_with fail
    go_ret
    exact ⟨rfl, Below.refl _ _⟩
end Go.Proofs.Ytaefimegiobkmaa
/-
  Text of a fraction; whether two fractions have the same fields.
  Conditions: each theorem's own.
-/
namespace Go.Proofs.Ytaefimegiobkmaa
open Go.RowKit Go.ChangeShapes Go.WideShapes

theorem IsR.fields {w : World} {s : Bool} {x y : Value} {q : Rat} (h : IsR w (.agg #[.bool s, x, y]) q) : s = ng q ∧ Num w x (wd (nn q)) ∧ Num w y (wd (dn q)) := by
  obtain ⟨va, vb, e, h1, h2⟩ := h
  cases e
  exact ⟨rfl, h1, h2⟩
theorem wd_inj {m n : Nat} (h : wd m = wd n) : m = n := by
  have := congrArg val h
  rwa [val_wd, val_wd] at this
set_option maxRecDepth 100000 in
set_option maxHeartbeats 3200000 in
theorem same_rat0 (vp : Value) (p : Rat) (vq : Value) (q : Rat) (w : World) (hp : RatIs w vp p) (hq : RatIs w vq q) (gp : IsR w vp p) (gq : IsR w vq q) (hs : ng p ≠ ng q) :
    Calls Try.prog 15 #[vp, vq] w (RetV w (.bool (decide (p = q)))) := by
  obtain ⟨sp, op, np, cp, ap, mp, dp, rfl⟩ := hp.shape
  have hlp := hp.rl
  obtain ⟨sq, oq, nq, cq, aq, mq, dq, rfl⟩ := hq.shape
  have hlq := hq.rl
  obtain ⟨e1, g1, g2⟩ := gp.fields
  obtain ⟨e2, g3, g4⟩ := gq.fields
  have hb0 := (((Below.refl w.heap.size w).alloc (by first | (simp; done) | (simp; omega)) (.cells #[.bool sp, .slice op np cp, .slice ap mp dp] 32)).alloc (by first | (simp; done) | (simp; omega)) (.cells #[.bool sq, .slice oq nq cq, .slice aq mq dq] 32))
  have hxp := nest2_0 w (.cells #[.bool sp, .slice op np cp, .slice ap mp dp] 32) (.cells #[.bool sq, .slice oq nq cq, .slice aq mq dq] 32)
  have hxq := nest2_1 w (.cells #[.bool sp, .slice op np cp, .slice ap mp dp] 32) (.cells #[.bool sq, .slice oq nq cq, .slice aq mq dq] 32)
  have hpp := hp.below hb0
  have hpq := hq.below hb0
  obtain ⟨w0, hw0⟩ : ∃ w0, w0 = ((w.alloc (.cells #[.bool sp, .slice op np cp, .slice ap mp dp] 32)).alloc (.cells #[.bool sq, .slice oq nq cq, .slice aq mq dq] 32)) := ⟨_, rfl⟩
  rw [← hw0] at hb0 hxp hxq hpp hpq
  have HB0 := Lib.hid hb0; have HW0 := Lib.hid hw0
  have BXp := Lib.hid hxp
  have BXq := Lib.hid hxq
  have Fp := Lib.hid hpp
  have Fq := Lib.hid hpq
  clear hb0 hw0 hxp hxq hpp hp hpq hq
  have N := Lib.hid (g1.below HB0.out)
  have D := Lib.hid (g2.below HB0.out)
  have M := Lib.hid (g3.below HB0.out)
  have E := Lib.hid (g4.below HB0.out)
  have l1 := rl_n p; have l2 := dn_len p
  have hd : decide (p = q) = false := decide_eq_false fun e => hs (by rw [e])
  rw [hd]
  have f1 : (sp == sq) = false := by rw [e1, e2, beq_eq_false_iff_ne]; exact hs
  clear hs e1 e2 hd gp gq g1 g2 g3 g4
  go_enter Try.func15, Try.ntmps15
  go_wp2_with fail
  rw [← HW0.out]
  go_ret
  exact ⟨by first | rfl | (simp; done), HB0.out⟩
set_option maxRecDepth 100000 in
set_option maxHeartbeats 3200000 in
theorem same_rat1 (vp : Value) (p : Rat) (vq : Value) (q : Rat) (w : World) (hp : RatIs w vp p) (hq : RatIs w vq q) (gp : IsR w vp p) (gq : IsR w vq q) (hs : ng p = ng q) (hn : nn p ≠ nn q) :
    Calls Try.prog 15 #[vp, vq] w (RetV w (.bool (decide (p = q)))) := by
  obtain ⟨sp, op, np, cp, ap, mp, dp, rfl⟩ := hp.shape
  have hlp := hp.rl
  obtain ⟨sq, oq, nq, cq, aq, mq, dq, rfl⟩ := hq.shape
  have hlq := hq.rl
  obtain ⟨e1, g1, g2⟩ := gp.fields
  obtain ⟨e2, g3, g4⟩ := gq.fields
  have hb0 := (((Below.refl w.heap.size w).alloc (by first | (simp; done) | (simp; omega)) (.cells #[.bool sp, .slice op np cp, .slice ap mp dp] 32)).alloc (by first | (simp; done) | (simp; omega)) (.cells #[.bool sq, .slice oq nq cq, .slice aq mq dq] 32))
  have hxp := nest2_0 w (.cells #[.bool sp, .slice op np cp, .slice ap mp dp] 32) (.cells #[.bool sq, .slice oq nq cq, .slice aq mq dq] 32)
  have hxq := nest2_1 w (.cells #[.bool sp, .slice op np cp, .slice ap mp dp] 32) (.cells #[.bool sq, .slice oq nq cq, .slice aq mq dq] 32)
  have hpp := hp.below hb0
  have hpq := hq.below hb0
  obtain ⟨w0, hw0⟩ : ∃ w0, w0 = ((w.alloc (.cells #[.bool sp, .slice op np cp, .slice ap mp dp] 32)).alloc (.cells #[.bool sq, .slice oq nq cq, .slice aq mq dq] 32)) := ⟨_, rfl⟩
  rw [← hw0] at hb0 hxp hxq hpp hpq
  have HB0 := Lib.hid hb0; have HW0 := Lib.hid hw0
  have BXp := Lib.hid hxp
  have BXq := Lib.hid hxq
  have Fp := Lib.hid hpp
  have Fq := Lib.hid hpq
  clear hb0 hw0 hxp hxq hpp hp hpq hq
  have N := Lib.hid (g1.below HB0.out)
  have D := Lib.hid (g2.below HB0.out)
  have M := Lib.hid (g3.below HB0.out)
  have E := Lib.hid (g4.below HB0.out)
  have l1 := rl_n p; have l2 := dn_len p
  have f1 : (sp == sq) = true := by rw [e1, e2, beq_iff_eq]; exact hs
  have hd : decide (p = q) = false := decide_eq_false fun e => hn (by rw [e])
  rw [hd]
  have hw : decide (wd (nn p) = wd (nn q)) = false := decide_eq_false fun e => hn (wd_inj e)
  have HW := Lib.hid hw; clear hw
  clear hs e1 e2 hd gp gq g1 g2 g3 g4 hn
  go_enter Try.func15, Try.ntmps15
  have hs := words_any _ _ _ _ w0 N.out M.out (by omega)
  rw [HW.out] at hs
  have HS := Lib.hid hs; clear hs
  go_wp2_with fail
  rw [← HW0.out]
  (with_reducible refine HS.out.mono ?_); rintro e w1 ⟨rfl, hb1⟩
  clear HS
  have HB1 := Lib.hid (HB0.out.step hb1)
  have Fp := Lib.hid (Fp.out.below hb1)
  have Fq := Lib.hid (Fq.out.below hb1)
  have N := Lib.hid (N.out.below hb1)
  have D := Lib.hid (D.out.below hb1)
  have M := Lib.hid (M.out.below hb1)
  have E := Lib.hid (E.out.below hb1)
  have BXp := Lib.hid (heap_below BXp.out hb1)
  have BXq := Lib.hid (heap_below BXq.out hb1)
  clear hb1
  go_wp2_with fail
  go_ret
  exact ⟨by first | rfl | (simp; done), HB1.out⟩
set_option maxRecDepth 100000 in
set_option maxHeartbeats 3200000 in
theorem same_rat2 (vp : Value) (p : Rat) (vq : Value) (q : Rat) (w : World) (hp : RatIs w vp p) (hq : RatIs w vq q) (gp : IsR w vp p) (gq : IsR w vq q) (hs : ng p = ng q) (hn : nn p = nn q) :
    Calls Try.prog 15 #[vp, vq] w (RetV w (.bool (decide (p = q)))) := by
  obtain ⟨sp, op, np, cp, ap, mp, dp, rfl⟩ := hp.shape
  have hlp := hp.rl
  obtain ⟨sq, oq, nq, cq, aq, mq, dq, rfl⟩ := hq.shape
  have hlq := hq.rl
  obtain ⟨e1, g1, g2⟩ := gp.fields
  obtain ⟨e2, g3, g4⟩ := gq.fields
  have hb0 := (((Below.refl w.heap.size w).alloc (by first | (simp; done) | (simp; omega)) (.cells #[.bool sp, .slice op np cp, .slice ap mp dp] 32)).alloc (by first | (simp; done) | (simp; omega)) (.cells #[.bool sq, .slice oq nq cq, .slice aq mq dq] 32))
  have hxp := nest2_0 w (.cells #[.bool sp, .slice op np cp, .slice ap mp dp] 32) (.cells #[.bool sq, .slice oq nq cq, .slice aq mq dq] 32)
  have hxq := nest2_1 w (.cells #[.bool sp, .slice op np cp, .slice ap mp dp] 32) (.cells #[.bool sq, .slice oq nq cq, .slice aq mq dq] 32)
  have hpp := hp.below hb0
  have hpq := hq.below hb0
  obtain ⟨w0, hw0⟩ : ∃ w0, w0 = ((w.alloc (.cells #[.bool sp, .slice op np cp, .slice ap mp dp] 32)).alloc (.cells #[.bool sq, .slice oq nq cq, .slice aq mq dq] 32)) := ⟨_, rfl⟩
  rw [← hw0] at hb0 hxp hxq hpp hpq
  have HB0 := Lib.hid hb0; have HW0 := Lib.hid hw0
  have BXp := Lib.hid hxp
  have BXq := Lib.hid hxq
  have Fp := Lib.hid hpp
  have Fq := Lib.hid hpq
  clear hb0 hw0 hxp hxq hpp hp hpq hq
  have N := Lib.hid (g1.below HB0.out)
  have D := Lib.hid (g2.below HB0.out)
  have M := Lib.hid (g3.below HB0.out)
  have E := Lib.hid (g4.below HB0.out)
  have l1 := rl_n p; have l2 := dn_len p
  have f1 : (sp == sq) = true := by rw [e1, e2, beq_iff_eq]; exact hs
  have hw : decide (wd (nn p) = wd (nn q)) = true := decide_eq_true (by rw [hn])
  have HW := Lib.hid hw; clear hw
  have hd : decide (p = q) = decide (wd (dn p) = wd (dn q)) := by rw [decide_eq_decide]; exact ⟨fun e => by rw [e], fun e => ext_fields hs hn (wd_inj e)⟩
  rw [hd]
  obtain ⟨r, hr⟩ : ∃ r, r = decide (wd (dn p) = wd (dn q)) := ⟨_, rfl⟩
  rw [← hr]
  have HR := Lib.hid hr; clear hr
  clear hs e1 e2 hd gp gq g1 g2 g3 g4 hn
  go_enter Try.func15, Try.ntmps15
  have hs := words_any _ _ _ _ w0 N.out M.out (by omega)
  rw [HW.out] at hs
  have HS := Lib.hid hs; clear hs
  go_wp2_with fail
  rw [← HW0.out]
  (with_reducible refine HS.out.mono ?_); rintro e w1 ⟨rfl, hb1⟩
  clear HS
  have HB1 := Lib.hid (HB0.out.step hb1)
  have Fp := Lib.hid (Fp.out.below hb1)
  have Fq := Lib.hid (Fq.out.below hb1)
  have N := Lib.hid (N.out.below hb1)
  have D := Lib.hid (D.out.below hb1)
  have M := Lib.hid (M.out.below hb1)
  have E := Lib.hid (E.out.below hb1)
  have BXp := Lib.hid (heap_below BXp.out hb1)
  have BXq := Lib.hid (heap_below BXq.out hb1)
  clear hb1
  have hs := words_any _ _ _ _ w1 D.out E.out (by omega)
  rw [← HR.out] at hs
  have HS := Lib.hid hs; clear hs
  obtain ⟨ep0, ep1, ep2⟩ := row3 BXp.out
  obtain ⟨eq0, eq1, eq2⟩ := row3 BXq.out
  go_wp2_with fail
  (with_reducible refine HS.out.mono ?_); rintro e w2 ⟨rfl, hb2⟩
  clear HS
  have HB2 := Lib.hid (HB1.out.step hb2)
  have Fp := Lib.hid (Fp.out.below hb2)
  have Fq := Lib.hid (Fq.out.below hb2)
  have N := Lib.hid (N.out.below hb2)
  have D := Lib.hid (D.out.below hb2)
  have M := Lib.hid (M.out.below hb2)
  have E := Lib.hid (E.out.below hb2)
  have BXp := Lib.hid (heap_below BXp.out hb2)
  have BXq := Lib.hid (heap_below BXq.out hb2)
  clear hb2
  go_wp2_with fail
  go_ret
  exact ⟨by first | rfl | (simp; done), HB2.out⟩
theorem rat_any (vp : Value) (p : Rat) (vq : Value) (q : Rat) (w : World) (hp : IsR w vp p) (hq : IsR w vq q) (lp : rl p ≤ 100000) (lq : rl q ≤ 100000) :
    Calls Try.prog 15 #[vp, vq] w (RetV w (.bool (decide (p = q)))) := by
  by_cases h : ng p = ng q
  · by_cases h2 : nn p = nn q
    · exact same_rat2 vp p vq q w (hp.is lp) (hq.is lq) hp hq h h2
    · exact same_rat1 vp p vq q w (hp.is lp) (hq.is lq) hp hq h h2
  · exact same_rat0 vp p vq q w (hp.is lp) (hq.is lq) hp hq h
theorem rat_same (vp : Value) (vq : Value) (q : Rat) (w : World) (hp : IsR w vp q) (hq : IsR w vq q) (lq : rl q ≤ 100000) :
    Calls Try.prog 15 #[vp, vq] w (RetV w (.bool true)) := by
  have h := rat_any vp q vq q w hp hq lq lq
  rw [decide_eq_true rfl] at h; exact h
end Go.Proofs.Ytaefimegiobkmaa
/-
  DERIVED: THE SHELF's CONTRACTS AT THIS DUMP, IN PLAIN WORDS (tools/lay-plain.mjs out of 'TryShelfPick.lean', which tools/lay-shelf.mjs wrote): THE SAME DECLARATIONS UNDER THE SAME NAMES: 'import', 'namespace', 'open', 'def', 'theorem' AND NOTHING ELSE: no command of the shelf's: FOR A HAND-IN. Each laying: the table of numbers ('.._ren') and one theorem, a field a fact of the dump's own or the kernel's comparison; each contract: ONE APPLICATION.
-/
namespace Go.Proofs
open Go.Shelf
def Try.lays219_ren : Go.Shelf.Ren := ⟨fun | 219 => 61 | 217 => 60 | 225 => 79 | 224 => 80 | 267 => 81 | 266 => 78 | 314 => 93 | n => n, fun | 9 => 9 | 3 => 3 | 4 => 4 | 5 => 5 | 46 => 76 | 146 => 91 | 51 => 70 | n => n, fun | 1 => 0 | n => n⟩
theorem Try.lays219 : Go.Proofs.Lays.n219 Try.prog Try.lays219_ren := {
  mixed := by kernel_rfl
  f217 := Try.func60.trans (congrArg some (by kernel_rfl))
  f219 := Try.func61.trans (congrArg some (by kernel_rfl))
  f224 := Try.func80.trans (congrArg some (by kernel_rfl))
  f225 := Try.func79.trans (congrArg some (by kernel_rfl))
  f266 := Try.func78.trans (congrArg some (by kernel_rfl))
  f267 := Try.func81.trans (congrArg some (by kernel_rfl))
  f314 := Try.func93.trans (congrArg some (by kernel_rfl))
  t3 := Try.underlying3
  a3 := Try.isAgg3
  z3 := Try.sizeOf3
  v3 := Try.zeroValue3
  t4 := Try.underlying4
  a4 := Try.isAgg4
  z4 := Try.sizeOf4
  v4 := Try.zeroValue4
  t5 := Try.underlying5
  a5 := Try.isAgg5
  z5 := Try.sizeOf5
  v5 := Try.zeroValue5
  t9 := Try.underlying9
  a9 := Try.isAgg9
  z9 := Try.sizeOf9
  v9 := Try.zeroValue9
  t46 := Try.underlying76
  a46 := Try.isAgg76
  z46 := Try.sizeOf76
  v46 := Try.zeroValue76
  t51 := Try.underlying70
  a51 := Try.isAgg70
  z51 := Try.sizeOf70
  v51 := Try.zeroValue70
  t146 := Try.underlying91
  a146 := Try.isAgg91
  z146 := Try.sizeOf91
  v146 := Try.zeroValue91
  g1 := by kernel_rfl }
open Go.RowKit Go.Lib in
/-- internal/stringslite.Index (what strings.Index calls) AT A substr OF ONE BYTE c: IT RETURNS 'Lib.indexByte s c'; the world is as it was. (LAID: no walk: one application.) -/
theorem Try.stringslite_Index_one (s : ByteArray) (c : UInt8) (w : World) :
    Calls Try.prog 61 #[.string s, .string ⟨#[c]⟩] w fun e w' => e = .returned (.int .i64 (Lib.indexByte s.data.toList c)) ∧ w' = w := Any.stringslite_Index_one Try.lays219 s c w
end Go.Proofs
/-
  strings.CutPrefix and strings.Cut at one byte: what they hand back.
  Conditions: the texts are no longer than a machine's.
-/
namespace Go.Proofs.Ytaefimegiobkmaa
open Go.RowKit Go.ChangeShapes Go.WideShapes

/-- what lies ahead of the first byte c, and what lies behind it -/
def cutL (c : UInt8) : List UInt8 → Option (List UInt8 × List UInt8)
  | [] => none
  | x :: l => if x = c then some ([], l) else (cutL c l).map fun p => (x :: p.1, p.2)
theorem cutL_index (c : UInt8) (l : List UInt8) : (cutL c l = none ∧ Lib.indexByte l c = -1) ∨ (∃ i : Nat, i < l.length ∧ cutL c l = some (l.take i, l.drop (i + 1)) ∧ Lib.indexByte l c = (i : Int)) := by
  induction l with
  | nil => exact .inl ⟨rfl, rfl⟩
  | cons x l ih =>
    unfold cutL Lib.indexByte
    by_cases h : x = c
    · right
      subst h
      exact ⟨0, by simp, by simp, by simp⟩
    · have hb : (x == c) = false := by rw [beq_eq_false_iff_ne]; exact h
      rw [if_neg h, if_neg (by simp [hb])]
      rcases ih with ⟨h1, h2⟩ | ⟨i, h0, h1, h2⟩
      · left; rw [h1, h2]; exact ⟨rfl, rfl⟩
      · right
        refine ⟨i + 1, by simpa using h0, by rw [h1]; rfl, ?_⟩
        rw [h2, if_neg (by first | (simp; done) | (simp; omega))]; omega

/-- a text cut around the first byte c: ahead, behind, whether there is one -/
def cut3 (c : UInt8) (l : List UInt8) : List UInt8 × List UInt8 × Bool := match cutL c l with | some p => (p.1, p.2, true) | none => (l, [], false)
/-- a cut: nothing changes but the count of draws -/
def RetCut (w : World) (c : UInt8) (l : List UInt8) (e : Ending) (w' : World) : Prop :=
  e = .returned (.tuple #[.string ⟨(cut3 c l).1.toArray⟩, .string ⟨(cut3 c l).2.1.toArray⟩, .bool (cut3 c l).2.2]) ∧ Below w.heap.size w w'
set_option maxRecDepth 100000 in
set_option maxHeartbeats 800000 in
theorem lcut_any (c : UInt8) (l : List UInt8) (w : World) (hl : l.length ≤ 4611686018427387904) :
    Calls Try.prog 41 #[.string ⟨l.toArray⟩, .string ⟨#[c]⟩] w (RetCut w c l) := by
  have hix := Try.stringslite_Index_one ⟨l.toArray⟩ c w
  rw [show (⟨l.toArray⟩ : ByteArray).data.toList = l from rfl] at hix
  obtain ⟨S, hS⟩ : ∃ S : ByteArray, S = ⟨l.toArray⟩ := ⟨_, rfl⟩
  have hsz : S.size = l.length := by rw [hS]; simp [ByteArray.size]
  rcases cutL_index c l with ⟨h1, h2⟩ | ⟨i, h0, h1, h2⟩
  · rw [h2] at hix
    have e : cut3 c l = (l, [], false) := by unfold cut3; rw [h1]
    unfold RetCut
    rw [e]
    have HSS := Lib.hid hS
    rw [← hS] at hix
    have HIX := Lib.hid hix
    clear hix h1 h2 e
    rw [← hS]
    clear hS
    go_enter Try.func41, Try.ntmps41
    go_wp2_with fail
    (with_reducible refine HIX.out.mono ?_); rintro e wx ⟨rfl, rfl⟩
    go_wp2_with fail
    go_ret3
    exact ⟨rfl, Below.refl _ _⟩
  · rw [h2] at hix
    have e : cut3 c l = (l.take i, l.drop (i + 1), true) := by unfold cut3; rw [h1]
    unfold RetCut
    rw [e]
    have hs1 : ∀ wx : World, (Instr.slice 9 (.string S) none (some (.int .i64 (i : Int))) none).run Try.prog wx = .ok (.string ⟨(l.take i).toArray⟩) wx := fun wx => by
      rw [run_slice_string_to_if (P := Try.prog) wx 9 S .i64 i Try.underlying9, if_pos (by omega)]
      have e : S.extract 0 (i : Int).toNat = ⟨(l.take i).toArray⟩ := by rw [hS]; apply ByteArray.ext; simp [ByteArray.data_extract]
      rw [e]
    have hs2 : ∀ wx : World, (Instr.slice 9 (.string S) (some (.int .i64 ((i : Int) + 1))) none none).run Try.prog wx = .ok (.string ⟨(l.drop (i + 1)).toArray⟩) wx := fun wx => by
      rw [run_slice_string_from_if (P := Try.prog) wx 9 S .i64 _ Try.underlying9, if_pos (by omega)]
      have e : S.extract ((i : Int) + 1).toNat S.size = ⟨(l.drop (i + 1)).toArray⟩ := by
        rw [hsz, show ((i : Int) + 1).toNat = i + 1 by omega, hS]; apply ByteArray.ext; simp [ByteArray.data_extract, List.extract_eq_take_drop]
        exact List.take_of_length_le (by rw [List.length_drop]; exact Nat.le_refl _)
      rw [e]
    obtain ⟨a, ha⟩ : ∃ a : ByteArray, a = ⟨(l.take i).toArray⟩ := ⟨_, rfl⟩
    obtain ⟨b, hb⟩ : ∃ b : ByteArray, b = ⟨(l.drop (i + 1)).toArray⟩ := ⟨_, rfl⟩
    rw [← ha] at hs1; rw [← hb] at hs2
    show Calls _ _ _ _ fun e' w' => e' = .returned (.tuple #[.string ⟨(l.take i).toArray⟩, .string ⟨(l.drop (i + 1)).toArray⟩, .bool true]) ∧ Below w.heap.size w w'
    rw [← hS] at hix ⊢
    rw [← ha, ← hb]
    have HIX := Lib.hid hix
    have f1 : decide ((0 : Int) ≤ (i : Int)) = true := decide_eq_true (by omega)
    clear hix h1 h2 e hS ha hb
    go_enter Try.func41, Try.ntmps41
    go_wp2_with fail
    (with_reducible refine HIX.out.mono ?_); rintro e wx ⟨rfl, rfl⟩
    go_wp2_with fail
    go_quiet (fail)
    go_wp2_with fail
    go_ret3
    exact ⟨rfl, below_drewN (Below.refl _ _) _⟩
set_option maxRecDepth 100000 in
set_option maxHeartbeats 400000 in
theorem cut_any (c : UInt8) (l : List UInt8) (w : World) (hl : l.length ≤ 4611686018427387904) :
    Calls Try.prog 22 #[.string ⟨l.toArray⟩, .string ⟨#[c]⟩] w (RetCut w c l) := by
  have HP := Lib.hid (lcut_any c l w hl)
  unfold RetCut at HP ⊢
  obtain ⟨a, ha⟩ : ∃ a : ByteArray, a = ⟨(cut3 c l).1.toArray⟩ := ⟨_, rfl⟩
  obtain ⟨b, hb⟩ : ∃ b : ByteArray, b = ⟨(cut3 c l).2.1.toArray⟩ := ⟨_, rfl⟩
  obtain ⟨f, hf⟩ : ∃ f, f = (cut3 c l).2.2 := ⟨_, rfl⟩
  obtain ⟨S, hS⟩ : ∃ S : ByteArray, S = ⟨l.toArray⟩ := ⟨_, rfl⟩
  rw [← ha, ← hb, ← hf, ← hS] at HP
  rw [← ha, ← hb, ← hf, ← hS]
  clear ha hb hf hS
  go_enter Try.func22, Try.ntmps22
  go_wp2_with fail
  (with_reducible refine HP.out.mono ?_); rintro e wx ⟨rfl, hb1⟩
  go_wp2_with fail
  go_ret3
  exact ⟨rfl, hb1⟩
end Go.Proofs.Ytaefimegiobkmaa
/-
  Texts of fractions there and back.
  Conditions: none.
-/
namespace Go.Proofs.Ytaefimegiobkmaa

theorem cutL_not {c : UInt8} {l : List UInt8} (h : c ∉ l) : cutL c l = none := by
  induction l with
  | nil => rfl
  | cons x l ih =>
    unfold cutL
    rw [if_neg (fun e => h (by rw [e]; exact List.mem_cons_self)), ih (fun e => h (List.mem_cons_of_mem _ e))]; rfl
theorem cutL_at {c : UInt8} {a b : List UInt8} (h : c ∉ a) : cutL c (a ++ c :: b) = some (a, b) := by
  induction a with
  | nil => show cutL c (c :: b) = _; unfold cutL; rw [if_pos rfl]
  | cons x a ih =>
    rw [List.cons_append]
    unfold cutL
    rw [if_neg (fun e => h (by rw [e]; exact List.mem_cons_self)), ih (fun e => h (List.mem_cons_of_mem _ e))]; rfl
end Go.Proofs.Ytaefimegiobkmaa
/-
  A number's text cut at its stroke or its point.
  Conditions: none beyond each theorem's own.
-/
namespace Go.Proofs.Ytaefimegiobkmaa
open Go.RowKit

theorem bs_mk (l : List UInt8) : bs ⟨l.toArray⟩ = l.map UInt8.toNat := by simp [bs]
theorem gd_data (s : ByteArray) {j : Nat} (h : j < s.data.toList.length) : (s.data.toList[j]).toNat = gd (bs s) j := by
  have h' : j < (bs s).length := by unfold bs; rw [List.length_map]; exact h
  rw [gd_lt _ _ h']; simp [bs]
theorem mem_gd {s : ByteArray} {n : Nat} {x : UInt8} (h : x ∈ s.data.toList.take n) : ∃ j, j < n ∧ j < s.size ∧ x.toNat = gd (bs s) j := by
  obtain ⟨j, hj, e⟩ := List.getElem_of_mem h
  rw [List.length_take] at hj
  have h2 : j < s.data.toList.length := by omega
  refine ⟨j, by omega, by have := bs_length s; unfold bs at this; rw [List.length_map] at this; omega, ?_⟩
  rw [← gd_data s h2, ← e, List.getElem_take]
theorem data_len (s : ByteArray) : s.data.toList.length = s.size := by have := bs_length s; unfold bs at this; rw [List.length_map] at this; exact this
theorem cut_at {s : ByteArray} {e : Nat} {c : UInt8} (he : e < s.size) (hc : gd (bs s) e = c.toNat) (hn : ∀ j, j < e → gd (bs s) j ≠ c.toNat) : cut3 c s.data.toList = (s.data.toList.take e, s.data.toList.drop (e + 1), true) := by
  have hl : e < s.data.toList.length := by rw [data_len]; exact he
  have hsplit : s.data.toList = s.data.toList.take e ++ c :: s.data.toList.drop (e + 1) := by
    have h1 := (List.take_append_drop e s.data.toList).symm
    rw [List.drop_eq_getElem_cons hl] at h1
    have h2 : s.data.toList[e] = c := by apply UInt8.toNat_inj.1; rw [gd_data s hl]; exact hc
    rw [h2] at h1; exact h1
  have hnot : c ∉ s.data.toList.take e := fun h => by
    obtain ⟨j, h1, _, h3⟩ := mem_gd h
    exact hn j h1 h3.symm
  have k := cutL_at (b := s.data.toList.drop (e + 1)) hnot
  rw [← hsplit] at k
  unfold cut3; rw [k]
theorem cut_no {s : ByteArray} {c : UInt8} (hn : ∀ j, j < s.size → gd (bs s) j ≠ c.toNat) : cut3 c s.data.toList = (s.data.toList, [], false) := by
  have hnot : c ∉ s.data.toList := fun h => by
    have h' : c ∈ s.data.toList.take s.size := by rw [List.take_of_length_le (by rw [data_len]; exact Nat.le_refl _)]; exact h
    obtain ⟨j, _, h2, h3⟩ := mem_gd h'
    exact hn j h2 h3.symm
  unfold cut3; rw [cutL_not hnot]
/-- the parts of a number's text -/
def pA (s : ByteArray) : ByteArray := ⟨(s.data.toList.take (nE (bs s))).toArray⟩
def pB (s : ByteArray) : ByteArray := ⟨(s.data.toList.drop (nE (bs s) + 1)).toArray⟩
theorem bs_pA (s : ByteArray) : bs (pA s) = nA (bs s) := by unfold pA nA; rw [bs_mk, List.map_take]; rfl
theorem bs_pB (s : ByteArray) : bs (pB s) = nB (bs s) := by unfold pB nB; rw [bs_mk, List.map_drop]; rfl
theorem pA_size (s : ByteArray) : (pA s).size ≤ s.size := by
  rw [← bs_length, bs_pA, ← bs_length s]; unfold nA; rw [List.length_take]; omega
theorem pB_size (s : ByteArray) : (pB s).size ≤ s.size := by
  rw [← bs_length, bs_pB, ← bs_length s]; unfold nB; rw [List.length_drop]; omega
theorem pA_digits {s : ByteArray} (h : isNum (bs s)) : ∀ j, j < (pA s).size → isDigit (gd (bs (pA s)) j) = true := by
  intro j hj
  rw [← bs_length, bs_pA] at hj
  unfold nA at hj; rw [List.length_take] at hj
  rw [bs_pA]; unfold nA; rw [gd_take, if_pos (by omega)]
  exact nE_digit (by omega)
theorem pB_digits {s : ByteArray} (h : isNum (bs s)) : ∀ j, j < (pB s).size → isDigit (gd (bs (pB s)) j) = true := by
  intro j hj
  rw [← bs_length, bs_pB] at hj
  unfold nB at hj; rw [List.length_drop] at hj
  rw [bs_pB]; unfold nB; rw [gd_drop]
  exact num_digit h (by omega) (by omega)
theorem digit_range {b : Nat} (h : isDigit b = true) : 48 ≤ b ∧ b ≤ 57 := by unfold isDigit at h; exact of_decide_eq_true h
theorem cut_slash {s : ByteArray} (h1 : nE (bs s) < s.size) (h2 : gd (bs s) (nE (bs s)) = 47) : cut3 47 s.data.toList = (s.data.toList.take (nE (bs s)), s.data.toList.drop (nE (bs s) + 1), true) :=
  cut_at h1 h2 (fun j hj e => by have := digit_range (nE_digit (l := bs s) hj); have e' : gd (bs s) j = 47 := e; omega)
theorem cut_dot {s : ByteArray} (h1 : nE (bs s) < s.size) (h2 : gd (bs s) (nE (bs s)) = 46) : cut3 46 s.data.toList = (s.data.toList.take (nE (bs s)), s.data.toList.drop (nE (bs s) + 1), true) :=
  cut_at h1 h2 (fun j hj e => by have := digit_range (nE_digit (l := bs s) hj); have e' : gd (bs s) j = 46 := e; omega)
theorem no_slash {s : ByteArray} (h : isNum (bs s)) (h1 : ¬ (nE (bs s) < s.size ∧ gd (bs s) (nE (bs s)) = 47)) : cut3 47 s.data.toList = (s.data.toList, [], false) :=
  cut_no (fun j hj e => by
    have e' : gd (bs s) j = 47 := e
    by_cases hje : j = nE (bs s)
    · exact h1 ⟨by omega, by rw [← hje]; exact e'⟩
    · have := digit_range (num_digit h (by rw [bs_length]; exact hj) hje); omega)
/-- behind no stroke: the second cut -/
theorem cut_point {s : ByteArray} (h : isNum (bs s)) (h1 : ¬ (nE (bs s) < s.size ∧ gd (bs s) (nE (bs s)) = 47)) : (⟨(cut3 46 s.data.toList).1.toArray⟩ : ByteArray) = pA s ∧ (⟨(cut3 46 s.data.toList).2.1.toArray⟩ : ByteArray) = pB s := by
  by_cases he : nE (bs s) < s.size
  · have h2 : gd (bs s) (nE (bs s)) = 46 := by
      rcases num_forms h with k | ⟨_, k | k, _⟩
      · rw [bs_length] at k; omega
      · exact k
      · exact absurd ⟨he, k⟩ h1
    rw [cut_dot he h2]; exact ⟨rfl, rfl⟩
  · have hE : nE (bs s) = s.size := by have := nE_le (bs s); rw [bs_length] at this; omega
    rw [cut_no (fun j hj e => by
      have e' : gd (bs s) j = 46 := e
      have := digit_range (nE_digit (l := bs s) (j := j) (by omega)); omega)]
    refine ⟨?_, ?_⟩
    · unfold pA; rw [hE, List.take_of_length_le (by rw [data_len]; exact Nat.le_refl _)]
    · unfold pB; rw [hE, List.drop_of_length_le (by rw [data_len]; omega)]
end Go.Proofs.Ytaefimegiobkmaa
/-
  The end of a number, in package token and in its reference; kinds of errors.
  Conditions: each theorem's own (a place lies in the text).
-/
namespace Go.Proofs.Ytaefimegiobkmaa
open Go.RowKit Go.ChangeShapes Go.WideShapes

theorem numEnd_cases (l : List Nat) (k : Nat) :
    (¬ run isDigit l k + 1 < l.length ∧ numEnd l k = run isDigit l k) ∨
    (run isDigit l k + 1 < l.length ∧
      ((((gd l (run isDigit l k) : Int) == 46) = false ∧ ((gd l (run isDigit l k) : Int) == 47) = false ∧ numEnd l k = run isDigit l k) ∨
       ((((gd l (run isDigit l k) : Int) == 46) = true ∨ (((gd l (run isDigit l k) : Int) == 46) = false ∧ ((gd l (run isDigit l k) : Int) == 47) = true)) ∧
         ((isDigit (gd l (run isDigit l k + 1)) = true ∧ numEnd l k = run isDigit l (run isDigit l k + 1)) ∨ (isDigit (gd l (run isDigit l k + 1)) = false ∧ numEnd l k = run isDigit l k))))) := by
  unfold numEnd
  by_cases h1 : run isDigit l k + 1 < l.length
  · right; refine ⟨h1, ?_⟩
    by_cases h2 : gd l (run isDigit l k) = 46
    · right
      refine ⟨Or.inl (by simp [h2]), ?_⟩
      cases h3 : isDigit (gd l (run isDigit l k + 1)) <;> simp [h1, h2]
    · by_cases h3 : gd l (run isDigit l k) = 47
      · right
        refine ⟨Or.inr ⟨by simp [h3], by simp [h3]⟩, ?_⟩
        cases h4 : isDigit (gd l (run isDigit l k + 1)) <;> simp [h1, h3]
      · left
        refine ⟨by simp; omega, by simp; omega, by rw [if_neg (by omega)]⟩
  · left; exact ⟨h1, by rw [if_neg (by omega)]⟩

set_option maxRecDepth 100000 in
set_option maxHeartbeats 800000 in
theorem numberEnd_any (s : ByteArray) (k : Nat) (w : World) (hs : s.size ≤ 9223372036854775806) (hk : k ≤ s.size) :
    Calls Try.prog 20 #[.string s, .int .i64 k] w (RetS w (.int .i64 (numEnd (bs s) k : Nat))) := by
  have hle := run_le (p := isDigit) (l := bs s) (k := k) (by rw [bs_length]; exact hk)
  rcases numEnd_cases (bs s) k with ⟨h1, h2⟩ | ⟨h1, hc⟩
  · rw [bs_length] at hle h1
    have H2 := Lib.hid h2; clear h2
    go_enter Try.func20, Try.ntmps20
    go_wp2_with (go_at_call 40; (with_reducible refine (digits_any s k _ hs hk).mono ?_); rintro e w' ⟨rfl, rfl⟩)
    go_ret
    exact ⟨ret_int (by rw [H2.out]), rfl⟩
  · rw [bs_length] at hle h1
    have hix := run_index_gb (P := Try.prog) s 9 Try.underlying9 (run isDigit (bs s) k) (by omega)
    have hix1 := run_index_gb (P := Try.prog) s 9 Try.underlying9 (run isDigit (bs s) k + 1) (by omega)
    rw [show ((run isDigit (bs s) k + 1 : Nat) : Int) = (run isDigit (bs s) k : Int) + 1 from by omega] at hix1
    rcases hc with ⟨h2, h3, h4⟩ | ⟨h2, h3⟩
    · have H4 := Lib.hid h4; clear h4
      go_enter Try.func20, Try.ntmps20
      go_wp2_with (go_at_call 40; (with_reducible refine (digits_any s k _ hs hk).mono ?_); rintro e w' ⟨rfl, rfl⟩)
      go_ret
      exact ⟨ret_int (by rw [H4.out]), rfl⟩
    · have hd1 : Calls Try.prog 40 #[.string s, .int .i64 ((run isDigit (bs s) k : Int) + 1)] w (RetS w (.int .i64 (run isDigit (bs s) (run isDigit (bs s) k + 1) : Nat))) := digits_any s (run isDigit (bs s) k + 1) w hs (by omega)
      have HD := Lib.hid hd1; clear hd1
      rcases h3 with ⟨h3, h4⟩ | ⟨h3, h4⟩
      all_goals
        have H4 := Lib.hid h4; clear h4
        rcases h2 with h2 | ⟨h2, h5⟩
        all_goals
          go_enter Try.func20, Try.ntmps20
          go_wp2_with (first | (go_at_call 40; (with_reducible refine (digits_any s k _ hs hk).mono ?_); rintro e w' ⟨rfl, rfl⟩) | (go_at_call 40; (with_reducible refine HD.out.mono ?_); rintro e w' ⟨rfl, rfl⟩) | (go_at_call 19; (with_reducible refine (digit_any _ _ (bs_lt _ _)).mono ?_); rintro e w' ⟨rfl, rfl⟩))
          go_ret
          exact ⟨ret_int (by rw [H4.out]), rfl⟩

set_option maxRecDepth 100000 in
set_option maxHeartbeats 800000 in
theorem rnumber_any (s : ByteArray) (k : Nat) (w : World) (hs : s.size ≤ 9223372036854775806) (hk : k ≤ s.size) :
    Calls Try.prog 28 #[.string s, .int .i64 k] w (RetS w (.int .i64 (numEnd (bs s) k : Nat))) := by
  have hle := run_le (p := isDigit) (l := bs s) (k := k) (by rw [bs_length]; exact hk)
  rcases numEnd_cases (bs s) k with ⟨h1, h2⟩ | ⟨h1, hc⟩
  · rw [bs_length] at hle h1
    have H2 := Lib.hid h2; clear h2
    go_enter Try.func28, Try.ntmps28
    go_wp2_with (go_at_call 29; (with_reducible refine (rdigits_any s k _ hs hk).mono ?_); rintro e w' ⟨rfl, rfl⟩)
    go_ret
    exact ⟨ret_int (by rw [H2.out]), rfl⟩
  · rw [bs_length] at hle h1
    have hix := run_index_gb (P := Try.prog) s 9 Try.underlying9 (run isDigit (bs s) k) (by omega)
    have hix1 := run_index_gb (P := Try.prog) s 9 Try.underlying9 (run isDigit (bs s) k + 1) (by omega)
    rw [show ((run isDigit (bs s) k + 1 : Nat) : Int) = (run isDigit (bs s) k : Int) + 1 from by omega] at hix1
    rcases hc with ⟨h2, h3, h4⟩ | ⟨h2, h3⟩
    · have H4 := Lib.hid h4; clear h4
      go_enter Try.func28, Try.ntmps28
      go_wp2_with (go_at_call 29; (with_reducible refine (rdigits_any s k _ hs hk).mono ?_); rintro e w' ⟨rfl, rfl⟩)
      go_ret
      exact ⟨ret_int (by rw [H4.out]), rfl⟩
    · have hd1 : Calls Try.prog 29 #[.string s, .int .i64 ((run isDigit (bs s) k : Int) + 1)] w (RetS w (.int .i64 (run isDigit (bs s) (run isDigit (bs s) k + 1) : Nat))) := rdigits_any s (run isDigit (bs s) k + 1) w hs (by omega)
      have HD := Lib.hid hd1; clear hd1
      rcases h3 with ⟨h3, h4⟩ | ⟨h3, h4⟩
      all_goals
        have H4 := Lib.hid h4; clear h4
        rcases h2 with h2 | ⟨h2, h5⟩
        all_goals
          go_enter Try.func28, Try.ntmps28
          go_wp2_with (first | (go_at_call 29; (with_reducible refine (rdigits_any s k _ hs hk).mono ?_); rintro e w' ⟨rfl, rfl⟩) | (go_at_call 29; (with_reducible refine HD.out.mono ?_); rintro e w' ⟨rfl, rfl⟩) | (go_at_call 27; (with_reducible refine (rdigit_any _ _ (bs_lt _ _)).mono ?_); rintro e w' ⟨rfl, rfl⟩))
          go_ret
          exact ⟨ret_int (by rw [H4.out]), rfl⟩
end Go.Proofs.Ytaefimegiobkmaa
/-
  token.Value and the reference's: texts that are no numbers.
  Conditions: each theorem's own.
-/
namespace Go.Proofs.Ytaefimegiobkmaa
open Go.RowKit Go.ChangeShapes Go.WideShapes

set_option maxRecDepth 100000 in
set_option maxHeartbeats 3200000 in
theorem value_long (s : ByteArray) (w : World)  (h : 100 < s.size) :
    Calls Try.prog 7 #[.string s] w (RetRE w 0 (errV 4)) := by
  have HBW := Lib.hid (Below.refl w.heap.size w)
  have kz0 : rl 0 ≤ 1 := by rw [rl_zero]; exact Nat.le_refl _
  rw [errV_pos (by decide)]
  have f1 : decide ((100 : Int) < (s.size : Int)) = true := decide_eq_true (by omega)
  clear h
  obtain ⟨w1, hw1⟩ : ∃ w1, w1 = w.alloc (.cells #[.bool false, .slice none 0 0, .slice none 0 0] 32) := ⟨_, rfl⟩
  have hb1 : Below w.heap.size w w1 := by rw [hw1]; exact (Below.refl _ _).alloc (Nat.le_refl _) _
  have hx1 := heap_alloc_new w (.cells #[.bool false, .slice none 0 0, .slice none 0 0] 32)
  obtain ⟨g1, hg1⟩ : ∃ g, g = w.heap.size := ⟨_, rfl⟩
  rw [← hw1, ← hg1] at hx1
  have lw1 : w.heap.size ≤ g1 := by rw [hg1]; exact HBW.out.size
  have HW1 := Lib.hid hw1; have HG1 := Lib.hid hg1; clear hw1 hg1
  have HB1 := Lib.hid (HBW.out.step hb1)
  have BX1 := Lib.hid hx1; clear hb1 hx1
  go_enter Try.func7, Try.ntmps7
  go_wp2_with (with_reducible refine wpList_pauseS ?_)
  try rw [← HW1.out]
  try rw [← HG1.out]
  refine wpList_stL g1 0 [.bool false, .slice none 0 0, .slice none 0 0] BX1.out rfl rfl (Nat.le_of_ble_eq_true rfl) (by kernel_rfl) rfl ?_
  intro w2 hp2
  have nx2 : w2.heap[g1]? = some (.cells #[.bool false, .slice none 0 0, .slice none 0 0] 32) := by rw [hp2]; exact putL_r BX1.out
  have BX1 := Lib.hid nx2; clear nx2
  have HB2 := Lib.hid (putLb hp2 HB1.out (by omega))
  clear hp2
  obtain ⟨x1_0, x1_1, x1_2⟩ := row3 BX1.out
  go_wp2_with (with_reducible first | refine pauseCall ?_ | refine pauseLoop ?_ | refine pauseDraw ?_ | refine pauseBody ?_ | refine pauseRounds ?_)
  clear x1_0 x1_1 x1_2
  refine Pause.mk ?_
  refine ret_rat2 rfl g1 _ _ _ (by first | rfl | exact rfl) BX1.out rfl ?_
  exact ⟨_, rfl, HB2.out, (isR_zero _)⟩
set_option maxRecDepth 100000 in
set_option maxHeartbeats 3200000 in
theorem value_empty (s : ByteArray) (w : World)  (h : s.size = 0) :
    Calls Try.prog 7 #[.string s] w (RetRE w 0 (errV 2)) := by
  have HBW := Lib.hid (Below.refl w.heap.size w)
  have kz0 : rl 0 ≤ 1 := by rw [rl_zero]; exact Nat.le_refl _
  rw [errV_pos (by decide)]
  have f1 : decide ((100 : Int) < (s.size : Int)) = false := decide_eq_false (by omega)
  have f2 : ((s.size : Int) == 0) = true := by rw [h]; rfl
  clear h
  obtain ⟨w1, hw1⟩ : ∃ w1, w1 = w.alloc (.cells #[.bool false, .slice none 0 0, .slice none 0 0] 32) := ⟨_, rfl⟩
  have hb1 : Below w.heap.size w w1 := by rw [hw1]; exact (Below.refl _ _).alloc (Nat.le_refl _) _
  have hx1 := heap_alloc_new w (.cells #[.bool false, .slice none 0 0, .slice none 0 0] 32)
  obtain ⟨g1, hg1⟩ : ∃ g, g = w.heap.size := ⟨_, rfl⟩
  rw [← hw1, ← hg1] at hx1
  have lw1 : w.heap.size ≤ g1 := by rw [hg1]; exact HBW.out.size
  have HW1 := Lib.hid hw1; have HG1 := Lib.hid hg1; clear hw1 hg1
  have HB1 := Lib.hid (HBW.out.step hb1)
  have BX1 := Lib.hid hx1; clear hb1 hx1
  go_enter Try.func7, Try.ntmps7
  go_wp2_with (with_reducible refine wpList_pauseS ?_)
  try rw [← HW1.out]
  try rw [← HG1.out]
  refine wpList_stL g1 0 [.bool false, .slice none 0 0, .slice none 0 0] BX1.out rfl rfl (Nat.le_of_ble_eq_true rfl) (by kernel_rfl) rfl ?_
  intro w2 hp2
  have nx2 : w2.heap[g1]? = some (.cells #[.bool false, .slice none 0 0, .slice none 0 0] 32) := by rw [hp2]; exact putL_r BX1.out
  have BX1 := Lib.hid nx2; clear nx2
  have HB2 := Lib.hid (putLb hp2 HB1.out (by omega))
  clear hp2
  obtain ⟨x1_0, x1_1, x1_2⟩ := row3 BX1.out
  go_wp2_with (with_reducible first | refine pauseCall ?_ | refine pauseLoop ?_ | refine pauseDraw ?_ | refine pauseBody ?_ | refine pauseRounds ?_)
  clear x1_0 x1_1 x1_2
  refine Pause.mk ?_
  refine ret_rat2 rfl g1 _ _ _ (by first | rfl | exact rfl) BX1.out rfl ?_
  exact ⟨_, rfl, HB2.out, (isR_zero _)⟩
set_option maxRecDepth 100000 in
set_option maxHeartbeats 3200000 in
theorem value_first (s : ByteArray) (w : World)  (h0 : 0 < s.size) (h : s.size ≤ 100) (HX : isDigit (gd (bs s) 0) = false) :
    Calls Try.prog 7 #[.string s] w (RetRE w 0 (errV 2)) := by
  have HBW := Lib.hid (Below.refl w.heap.size w)
  have kz0 : rl 0 ≤ 1 := by rw [rl_zero]; exact Nat.le_refl _
  rw [errV_pos (by decide)]
  have f1 : decide ((100 : Int) < (s.size : Int)) = false := decide_eq_false (by omega)
  have f2 : ((s.size : Int) == 0) = false := beq_eq_false_iff_ne.2 (by omega)
  have hix := run_index_gb (P := Try.prog) s 9 Try.underlying9 0 (by omega)
  have hb256 := bs_lt s 0
  obtain ⟨b, hb⟩ : ∃ b, b = gd (bs s) 0 := ⟨_, rfl⟩
  rw [← hb] at hix hb256 HX
  rw [show ((0 : Nat) : Int) = 0 from rfl] at hix
  have HDB := Lib.hid HX; clear HX hb
  obtain ⟨w1, hw1⟩ : ∃ w1, w1 = w.alloc (.cells #[.bool false, .slice none 0 0, .slice none 0 0] 32) := ⟨_, rfl⟩
  have hb1 : Below w.heap.size w w1 := by rw [hw1]; exact (Below.refl _ _).alloc (Nat.le_refl _) _
  have hx1 := heap_alloc_new w (.cells #[.bool false, .slice none 0 0, .slice none 0 0] 32)
  obtain ⟨g1, hg1⟩ : ∃ g, g = w.heap.size := ⟨_, rfl⟩
  rw [← hw1, ← hg1] at hx1
  have lw1 : w.heap.size ≤ g1 := by rw [hg1]; exact HBW.out.size
  have HW1 := Lib.hid hw1; have HG1 := Lib.hid hg1; clear hw1 hg1
  have HB1 := Lib.hid (HBW.out.step hb1)
  have BX1 := Lib.hid hx1; clear hb1 hx1
  go_enter Try.func7, Try.ntmps7
  have hs := digit_any b w1 hb256
  rw [HDB.out] at hs
  have HS := Lib.hid hs; clear hs
  go_wp2_with (with_reducible first | refine pauseCall ?_ | refine pauseLoop ?_ | refine pauseDraw ?_ | refine pauseBody ?_ | refine pauseRounds ?_)
  try rw [← HW1.out]
  try rw [← HG1.out]
  refine Pause.mk ?_
  (with_reducible refine HS.out.mono ?_); rintro e wx ⟨rfl, rfl⟩
  clear HS
  go_wp2_with (with_reducible refine wpList_pauseS ?_)
  refine wpList_stL g1 0 [.bool false, .slice none 0 0, .slice none 0 0] BX1.out rfl rfl (Nat.le_of_ble_eq_true rfl) (by kernel_rfl) rfl ?_
  intro w3 hp3
  have nx3 : w3.heap[g1]? = some (.cells #[.bool false, .slice none 0 0, .slice none 0 0] 32) := by rw [hp3]; exact putL_r BX1.out
  have BX1 := Lib.hid nx3; clear nx3
  have HB3 := Lib.hid (putLb hp3 HB1.out (by omega))
  clear hp3
  obtain ⟨x1_0, x1_1, x1_2⟩ := row3 BX1.out
  go_wp2_with (with_reducible first | refine pauseCall ?_ | refine pauseLoop ?_ | refine pauseDraw ?_ | refine pauseBody ?_ | refine pauseRounds ?_)
  clear x1_0 x1_1 x1_2
  refine Pause.mk ?_
  refine ret_rat2 rfl g1 _ _ _ (by first | rfl | exact rfl) BX1.out rfl ?_
  exact ⟨_, rfl, HB3.out, (isR_zero _)⟩
set_option maxRecDepth 100000 in
set_option maxHeartbeats 3200000 in
theorem value_end (s : ByteArray) (w : World)  (h0 : 0 < s.size) (h : s.size ≤ 100) (HX : isDigit (gd (bs s) 0) = true) (hne : numEnd (bs s) 0 ≠ s.size) :
    Calls Try.prog 7 #[.string s] w (RetRE w 0 (errV 2)) := by
  have HBW := Lib.hid (Below.refl w.heap.size w)
  have kz0 : rl 0 ≤ 1 := by rw [rl_zero]; exact Nat.le_refl _
  rw [errV_pos (by decide)]
  have f1 : decide ((100 : Int) < (s.size : Int)) = false := decide_eq_false (by omega)
  have f2 : ((s.size : Int) == 0) = false := beq_eq_false_iff_ne.2 (by omega)
  have hix := run_index_gb (P := Try.prog) s 9 Try.underlying9 0 (by omega)
  have hb256 := bs_lt s 0
  obtain ⟨b, hb⟩ : ∃ b, b = gd (bs s) 0 := ⟨_, rfl⟩
  rw [← hb] at hix hb256 HX
  rw [show ((0 : Nat) : Int) = 0 from rfl] at hix
  have HDB := Lib.hid HX; clear HX hb
  obtain ⟨E, hE⟩ : ∃ E, E = numEnd (bs s) 0 := ⟨_, rfl⟩
  have hEl := numEnd_le (l := bs s) (k := 0) (Nat.zero_le _)
  rw [bs_length] at hEl
  rw [← hE] at hne hEl
  have f3 : ((E : Int) != (s.size : Int)) = true := bne_iff_ne.2 (by omega)
  have HE := Lib.hid hE.symm; clear hE
  obtain ⟨w1, hw1⟩ : ∃ w1, w1 = w.alloc (.cells #[.bool false, .slice none 0 0, .slice none 0 0] 32) := ⟨_, rfl⟩
  have hb1 : Below w.heap.size w w1 := by rw [hw1]; exact (Below.refl _ _).alloc (Nat.le_refl _) _
  have hx1 := heap_alloc_new w (.cells #[.bool false, .slice none 0 0, .slice none 0 0] 32)
  obtain ⟨g1, hg1⟩ : ∃ g, g = w.heap.size := ⟨_, rfl⟩
  rw [← hw1, ← hg1] at hx1
  have lw1 : w.heap.size ≤ g1 := by rw [hg1]; exact HBW.out.size
  have HW1 := Lib.hid hw1; have HG1 := Lib.hid hg1; clear hw1 hg1
  have HB1 := Lib.hid (HBW.out.step hb1)
  have BX1 := Lib.hid hx1; clear hb1 hx1
  go_enter Try.func7, Try.ntmps7
  have hs := digit_any b w1 hb256
  rw [HDB.out] at hs
  have HS := Lib.hid hs; clear hs
  go_wp2_with (with_reducible first | refine pauseCall ?_ | refine pauseLoop ?_ | refine pauseDraw ?_ | refine pauseBody ?_ | refine pauseRounds ?_)
  try rw [← HW1.out]
  try rw [← HG1.out]
  refine Pause.mk ?_
  (with_reducible refine HS.out.mono ?_); rintro e wx ⟨rfl, rfl⟩
  clear HS
  have hs := numberEnd_any s 0 w1 (by omega) (by omega)
  rw [HE.out, show ((0 : Nat) : Int) = 0 from rfl] at hs
  have HS := Lib.hid hs; clear hs
  go_wp2_with (with_reducible first | refine pauseCall ?_ | refine pauseLoop ?_ | refine pauseDraw ?_ | refine pauseBody ?_ | refine pauseRounds ?_)
  refine Pause.mk ?_
  (with_reducible refine HS.out.mono ?_); rintro e wx ⟨rfl, rfl⟩
  clear HS
  go_wp2_with (with_reducible refine wpList_pauseS ?_)
  refine wpList_stL g1 0 [.bool false, .slice none 0 0, .slice none 0 0] BX1.out rfl rfl (Nat.le_of_ble_eq_true rfl) (by kernel_rfl) rfl ?_
  intro w4 hp4
  have nx4 : w4.heap[g1]? = some (.cells #[.bool false, .slice none 0 0, .slice none 0 0] 32) := by rw [hp4]; exact putL_r BX1.out
  have BX1 := Lib.hid nx4; clear nx4
  have HB4 := Lib.hid (putLb hp4 HB1.out (by omega))
  clear hp4
  obtain ⟨x1_0, x1_1, x1_2⟩ := row3 BX1.out
  go_wp2_with (with_reducible first | refine pauseCall ?_ | refine pauseLoop ?_ | refine pauseDraw ?_ | refine pauseBody ?_ | refine pauseRounds ?_)
  clear x1_0 x1_1 x1_2
  refine Pause.mk ?_
  refine ret_rat2 rfl g1 _ _ _ (by first | rfl | exact rfl) BX1.out rfl ?_
  exact ⟨_, rfl, HB4.out, (isR_zero _)⟩
set_option maxRecDepth 100000 in
set_option maxHeartbeats 3200000 in
theorem rvalue_long (s : ByteArray) (w : World)  (h : 100 < s.size) :
    Calls Try.prog 10 #[.string s] w (RetRE w 0 (.int .i64 4)) := by
  have HBW := Lib.hid (Below.refl w.heap.size w)
  have kz0 : rl 0 ≤ 1 := by rw [rl_zero]; exact Nat.le_refl _
  have f1 : decide ((100 : Int) < (s.size : Int)) = true := decide_eq_true (by omega)
  clear h
  obtain ⟨w1, hw1⟩ : ∃ w1, w1 = w.alloc (.cells #[.bool false, .slice none 0 0, .slice none 0 0] 32) := ⟨_, rfl⟩
  have hb1 : Below w.heap.size w w1 := by rw [hw1]; exact (Below.refl _ _).alloc (Nat.le_refl _) _
  have hx1 := heap_alloc_new w (.cells #[.bool false, .slice none 0 0, .slice none 0 0] 32)
  obtain ⟨g1, hg1⟩ : ∃ g, g = w.heap.size := ⟨_, rfl⟩
  rw [← hw1, ← hg1] at hx1
  have lw1 : w.heap.size ≤ g1 := by rw [hg1]; exact HBW.out.size
  have HW1 := Lib.hid hw1; have HG1 := Lib.hid hg1; clear hw1 hg1
  have HB1 := Lib.hid (HBW.out.step hb1)
  have BX1 := Lib.hid hx1; clear hb1 hx1
  go_enter Try.func10, Try.ntmps10
  go_wp2_with (with_reducible refine wpList_pauseS ?_)
  try rw [← HW1.out]
  try rw [← HG1.out]
  refine wpList_stL g1 0 [.bool false, .slice none 0 0, .slice none 0 0] BX1.out rfl rfl (Nat.le_of_ble_eq_true rfl) (by kernel_rfl) rfl ?_
  intro w2 hp2
  have nx2 : w2.heap[g1]? = some (.cells #[.bool false, .slice none 0 0, .slice none 0 0] 32) := by rw [hp2]; exact putL_r BX1.out
  have BX1 := Lib.hid nx2; clear nx2
  have HB2 := Lib.hid (putLb hp2 HB1.out (by omega))
  clear hp2
  obtain ⟨x1_0, x1_1, x1_2⟩ := row3 BX1.out
  go_wp2_with (with_reducible first | refine pauseCall ?_ | refine pauseLoop ?_ | refine pauseDraw ?_ | refine pauseBody ?_ | refine pauseRounds ?_)
  clear x1_0 x1_1 x1_2
  refine Pause.mk ?_
  refine ret_rat2 rfl g1 _ _ _ (by first | rfl | exact rfl) BX1.out rfl ?_
  exact ⟨_, rfl, HB2.out, (isR_zero _)⟩
set_option maxRecDepth 100000 in
set_option maxHeartbeats 3200000 in
theorem rvalue_empty (s : ByteArray) (w : World)  (h : s.size = 0) :
    Calls Try.prog 10 #[.string s] w (RetRE w 0 (.int .i64 2)) := by
  have HBW := Lib.hid (Below.refl w.heap.size w)
  have kz0 : rl 0 ≤ 1 := by rw [rl_zero]; exact Nat.le_refl _
  have f1 : decide ((100 : Int) < (s.size : Int)) = false := decide_eq_false (by omega)
  have f2 : decide ((s.size : Int) < 1) = true := by rw [h]; rfl
  clear h
  obtain ⟨w1, hw1⟩ : ∃ w1, w1 = w.alloc (.cells #[.bool false, .slice none 0 0, .slice none 0 0] 32) := ⟨_, rfl⟩
  have hb1 : Below w.heap.size w w1 := by rw [hw1]; exact (Below.refl _ _).alloc (Nat.le_refl _) _
  have hx1 := heap_alloc_new w (.cells #[.bool false, .slice none 0 0, .slice none 0 0] 32)
  obtain ⟨g1, hg1⟩ : ∃ g, g = w.heap.size := ⟨_, rfl⟩
  rw [← hw1, ← hg1] at hx1
  have lw1 : w.heap.size ≤ g1 := by rw [hg1]; exact HBW.out.size
  have HW1 := Lib.hid hw1; have HG1 := Lib.hid hg1; clear hw1 hg1
  have HB1 := Lib.hid (HBW.out.step hb1)
  have BX1 := Lib.hid hx1; clear hb1 hx1
  go_enter Try.func10, Try.ntmps10
  go_wp2_with (with_reducible refine wpList_pauseS ?_)
  try rw [← HW1.out]
  try rw [← HG1.out]
  refine wpList_stL g1 0 [.bool false, .slice none 0 0, .slice none 0 0] BX1.out rfl rfl (Nat.le_of_ble_eq_true rfl) (by kernel_rfl) rfl ?_
  intro w2 hp2
  have nx2 : w2.heap[g1]? = some (.cells #[.bool false, .slice none 0 0, .slice none 0 0] 32) := by rw [hp2]; exact putL_r BX1.out
  have BX1 := Lib.hid nx2; clear nx2
  have HB2 := Lib.hid (putLb hp2 HB1.out (by omega))
  clear hp2
  obtain ⟨x1_0, x1_1, x1_2⟩ := row3 BX1.out
  go_wp2_with (with_reducible first | refine pauseCall ?_ | refine pauseLoop ?_ | refine pauseDraw ?_ | refine pauseBody ?_ | refine pauseRounds ?_)
  clear x1_0 x1_1 x1_2
  refine Pause.mk ?_
  refine ret_rat2 rfl g1 _ _ _ (by first | rfl | exact rfl) BX1.out rfl ?_
  exact ⟨_, rfl, HB2.out, (isR_zero _)⟩
set_option maxRecDepth 100000 in
set_option maxHeartbeats 3200000 in
theorem rvalue_first (s : ByteArray) (w : World)  (h0 : 0 < s.size) (h : s.size ≤ 100) (HX : isDigit (gd (bs s) 0) = false) :
    Calls Try.prog 10 #[.string s] w (RetRE w 0 (.int .i64 2)) := by
  have HBW := Lib.hid (Below.refl w.heap.size w)
  have kz0 : rl 0 ≤ 1 := by rw [rl_zero]; exact Nat.le_refl _
  have f1 : decide ((100 : Int) < (s.size : Int)) = false := decide_eq_false (by omega)
  have f2 : decide ((s.size : Int) < 1) = false := decide_eq_false (by omega)
  have hix := run_index_gb (P := Try.prog) s 9 Try.underlying9 0 (by omega)
  have hb256 := bs_lt s 0
  obtain ⟨b, hb⟩ : ∃ b, b = gd (bs s) 0 := ⟨_, rfl⟩
  rw [← hb] at hix hb256 HX
  rw [show ((0 : Nat) : Int) = 0 from rfl] at hix
  have HDB := Lib.hid HX; clear HX hb
  obtain ⟨w1, hw1⟩ : ∃ w1, w1 = w.alloc (.cells #[.bool false, .slice none 0 0, .slice none 0 0] 32) := ⟨_, rfl⟩
  have hb1 : Below w.heap.size w w1 := by rw [hw1]; exact (Below.refl _ _).alloc (Nat.le_refl _) _
  have hx1 := heap_alloc_new w (.cells #[.bool false, .slice none 0 0, .slice none 0 0] 32)
  obtain ⟨g1, hg1⟩ : ∃ g, g = w.heap.size := ⟨_, rfl⟩
  rw [← hw1, ← hg1] at hx1
  have lw1 : w.heap.size ≤ g1 := by rw [hg1]; exact HBW.out.size
  have HW1 := Lib.hid hw1; have HG1 := Lib.hid hg1; clear hw1 hg1
  have HB1 := Lib.hid (HBW.out.step hb1)
  have BX1 := Lib.hid hx1; clear hb1 hx1
  go_enter Try.func10, Try.ntmps10
  have hs := rdigit_any b w1 hb256
  rw [HDB.out] at hs
  have HS := Lib.hid hs; clear hs
  go_wp2_with (with_reducible first | refine pauseCall ?_ | refine pauseLoop ?_ | refine pauseDraw ?_ | refine pauseBody ?_ | refine pauseRounds ?_)
  try rw [← HW1.out]
  try rw [← HG1.out]
  refine Pause.mk ?_
  (with_reducible refine HS.out.mono ?_); rintro e wx ⟨rfl, rfl⟩
  clear HS
  go_wp2_with (with_reducible refine wpList_pauseS ?_)
  refine wpList_stL g1 0 [.bool false, .slice none 0 0, .slice none 0 0] BX1.out rfl rfl (Nat.le_of_ble_eq_true rfl) (by kernel_rfl) rfl ?_
  intro w3 hp3
  have nx3 : w3.heap[g1]? = some (.cells #[.bool false, .slice none 0 0, .slice none 0 0] 32) := by rw [hp3]; exact putL_r BX1.out
  have BX1 := Lib.hid nx3; clear nx3
  have HB3 := Lib.hid (putLb hp3 HB1.out (by omega))
  clear hp3
  obtain ⟨x1_0, x1_1, x1_2⟩ := row3 BX1.out
  go_wp2_with (with_reducible first | refine pauseCall ?_ | refine pauseLoop ?_ | refine pauseDraw ?_ | refine pauseBody ?_ | refine pauseRounds ?_)
  clear x1_0 x1_1 x1_2
  refine Pause.mk ?_
  refine ret_rat2 rfl g1 _ _ _ (by first | rfl | exact rfl) BX1.out rfl ?_
  exact ⟨_, rfl, HB3.out, (isR_zero _)⟩
set_option maxRecDepth 100000 in
set_option maxHeartbeats 3200000 in
theorem rvalue_end (s : ByteArray) (w : World)  (h0 : 0 < s.size) (h : s.size ≤ 100) (HX : isDigit (gd (bs s) 0) = true) (hne : numEnd (bs s) 0 ≠ s.size) :
    Calls Try.prog 10 #[.string s] w (RetRE w 0 (.int .i64 2)) := by
  have HBW := Lib.hid (Below.refl w.heap.size w)
  have kz0 : rl 0 ≤ 1 := by rw [rl_zero]; exact Nat.le_refl _
  have f1 : decide ((100 : Int) < (s.size : Int)) = false := decide_eq_false (by omega)
  have f2 : decide ((s.size : Int) < 1) = false := decide_eq_false (by omega)
  have hix := run_index_gb (P := Try.prog) s 9 Try.underlying9 0 (by omega)
  have hb256 := bs_lt s 0
  obtain ⟨b, hb⟩ : ∃ b, b = gd (bs s) 0 := ⟨_, rfl⟩
  rw [← hb] at hix hb256 HX
  rw [show ((0 : Nat) : Int) = 0 from rfl] at hix
  have HDB := Lib.hid HX; clear HX hb
  obtain ⟨E, hE⟩ : ∃ E, E = numEnd (bs s) 0 := ⟨_, rfl⟩
  have hEl := numEnd_le (l := bs s) (k := 0) (Nat.zero_le _)
  rw [bs_length] at hEl
  rw [← hE] at hne hEl
  have f3 : ((E : Int) != (s.size : Int)) = true := bne_iff_ne.2 (by omega)
  have HE := Lib.hid hE.symm; clear hE
  obtain ⟨w1, hw1⟩ : ∃ w1, w1 = w.alloc (.cells #[.bool false, .slice none 0 0, .slice none 0 0] 32) := ⟨_, rfl⟩
  have hb1 : Below w.heap.size w w1 := by rw [hw1]; exact (Below.refl _ _).alloc (Nat.le_refl _) _
  have hx1 := heap_alloc_new w (.cells #[.bool false, .slice none 0 0, .slice none 0 0] 32)
  obtain ⟨g1, hg1⟩ : ∃ g, g = w.heap.size := ⟨_, rfl⟩
  rw [← hw1, ← hg1] at hx1
  have lw1 : w.heap.size ≤ g1 := by rw [hg1]; exact HBW.out.size
  have HW1 := Lib.hid hw1; have HG1 := Lib.hid hg1; clear hw1 hg1
  have HB1 := Lib.hid (HBW.out.step hb1)
  have BX1 := Lib.hid hx1; clear hb1 hx1
  go_enter Try.func10, Try.ntmps10
  have hs := rdigit_any b w1 hb256
  rw [HDB.out] at hs
  have HS := Lib.hid hs; clear hs
  go_wp2_with (with_reducible first | refine pauseCall ?_ | refine pauseLoop ?_ | refine pauseDraw ?_ | refine pauseBody ?_ | refine pauseRounds ?_)
  try rw [← HW1.out]
  try rw [← HG1.out]
  refine Pause.mk ?_
  (with_reducible refine HS.out.mono ?_); rintro e wx ⟨rfl, rfl⟩
  clear HS
  have hs := rnumber_any s 0 w1 (by omega) (by omega)
  rw [HE.out, show ((0 : Nat) : Int) = 0 from rfl] at hs
  have HS := Lib.hid hs; clear hs
  go_wp2_with (with_reducible first | refine pauseCall ?_ | refine pauseLoop ?_ | refine pauseDraw ?_ | refine pauseBody ?_ | refine pauseRounds ?_)
  refine Pause.mk ?_
  (with_reducible refine HS.out.mono ?_); rintro e wx ⟨rfl, rfl⟩
  clear HS
  go_wp2_with (with_reducible refine wpList_pauseS ?_)
  refine wpList_stL g1 0 [.bool false, .slice none 0 0, .slice none 0 0] BX1.out rfl rfl (Nat.le_of_ble_eq_true rfl) (by kernel_rfl) rfl ?_
  intro w4 hp4
  have nx4 : w4.heap[g1]? = some (.cells #[.bool false, .slice none 0 0, .slice none 0 0] 32) := by rw [hp4]; exact putL_r BX1.out
  have BX1 := Lib.hid nx4; clear nx4
  have HB4 := Lib.hid (putLb hp4 HB1.out (by omega))
  clear hp4
  obtain ⟨x1_0, x1_1, x1_2⟩ := row3 BX1.out
  go_wp2_with (with_reducible first | refine pauseCall ?_ | refine pauseLoop ?_ | refine pauseDraw ?_ | refine pauseBody ?_ | refine pauseRounds ?_)
  clear x1_0 x1_1 x1_2
  refine Pause.mk ?_
  refine ret_rat2 rfl g1 _ _ _ (by first | rfl | exact rfl) BX1.out rfl ?_
  exact ⟨_, rfl, HB4.out, (isR_zero _)⟩
end Go.Proofs.Ytaefimegiobkmaa
/-
  A slice of tokens of the call's own; a slice of tokens that is only read.
  Conditions: each theorem's own.
-/
namespace Go.Proofs.Ytaefimegiobkmaa
open Go.RowKit Go.ChangeShapes Go.WideShapes

/-- what a token holds -/
structure TokV where
  kind : Int
  text : ByteArray
  at_ : Int
  line : Int
  col : Int
def TokV.cells (t : TokV) : List Value := [.int .i64 t.kind, .string t.text, .int .i64 t.at_, .int .i64 t.line, .int .i64 t.col]
theorem TokV.cells_length (t : TokV) : t.cells.length = 5 := rfl
/-- the token of a text that stands at a place -/
def mkTok (s : ByteArray) (t : Tk) : TokV := ⟨t.kind, s.extract t.at_ t.fin, t.at_, lineOf (bs s) t.at_, colOf (bs s) t.at_⟩

def tokCells (ts : List TokV) : List Value := ts.flatMap TokV.cells
theorem tokCells_append (a b : List TokV) : tokCells (a ++ b) = tokCells a ++ tokCells b := by simp [tokCells]
theorem tokCells_one (t : TokV) : tokCells [t] = t.cells := by simp [tokCells]
/-- a slice of tokens of the call's own, in blocks from B on -/
def OwnT (w : World) (B : Nat) (v : Value) (ts : List TokV) : Prop := w.ownsRow B 29 5 v ts.length (tokCells ts)
theorem OwnT.nil (w : World) (B : Nat) : OwnT w B (.slice none 0 0) [] := World.ownsRow_nil _ _ _ _
theorem OwnT.below {w w' : World} {B : Nat} {v : Value} {ts : List TokV} (h : OwnT w B v ts) (hb : Below w.heap.size w w') : OwnT w' B v ts := by
  refine World.ownsRow.kept (row := none) h ⟨hb.os, hb.tape, hb.output, hb.size, fun k hk _ => hb.block k hk⟩ ?_
  cases hv : v.ownBlock <;> simp
theorem OwnT.alloc {w : World} {B : Nat} {v : Value} {ts : List TokV} (h : OwnT w B v ts) (o : Obj) : OwnT (w.alloc o) B v ts := World.ownsRow.alloc h o
theorem OwnT.base {w : World} {B B' : Nat} {v : Value} {ts : List TokV} (h : OwnT w B v ts) (hB : B' ≤ B) : OwnT w B' v ts := by
  obtain ⟨h1, h2⟩ := h
  refine ⟨h1, ?_⟩
  rcases h2 with h2 | ⟨g, cap, cur, hv, hb, r⟩
  · exact .inl h2
  · exact .inr ⟨g, cap, cur, hv, Nat.le_trans hB hb, r⟩
/-- the slice value v reads as the tokens ts -/
def Toks (w : World) (v : Value) (ts : List TokV) : Prop :=
  ∃ ao c, v = .slice ao ts.length c ∧ ts.length ≤ c ∧ c ≤ 9223372036854775807 ∧ (ao = none → c = 0) ∧
    ∀ b off s, ao = some ⟨b, off, s⟩ → b < w.heap.size ∧ (0 < ts.length → s = none) ∧ ∀ i t k, ts[i]? = some t → k < 5 → w.cell? ⟨b, off + (i * 5 + k), none⟩ = t.cells[k]?
theorem Toks.mono {w w' : World} {v : Value} {ts : List TokV} {B : Nat} (h : Toks w v ts) (hb : Below B w w') (hB : w.heap.size ≤ B) : Toks w' v ts := by
  obtain ⟨ao, c, rfl, h1, h2, h3, h4⟩ := h
  refine ⟨ao, c, rfl, h1, h2, h3, ?_⟩
  intro b off s hs
  obtain ⟨k1, k2, k3⟩ := h4 b off s hs
  refine ⟨Nat.lt_of_lt_of_le k1 hb.size, k2, fun i t k hi hk => ?_⟩
  rw [hb.cell (p := ⟨b, _, none⟩) (Nat.lt_of_lt_of_le k1 hB)]
  exact k3 i t k hi hk
theorem Toks.below {w w' : World} {v : Value} {ts : List TokV} (h : Toks w v ts) (hb : Below w.heap.size w w') : Toks w' v ts := h.mono hb (Nat.le_refl _)
theorem Toks.shape {w : World} {v : Value} {ts : List TokV} (h : Toks w v ts) : ∃ ao c, v = .slice ao ts.length c ∧ ts.length ≤ c ∧ c ≤ 9223372036854775807 ∧ (ao = none → c = 0) := by
  obtain ⟨ao', c', e, h1, h2, h3, h4⟩ := h
  exact ⟨ao', c', e, h1, h2, h3⟩
theorem Toks.at {w : World} {ao : Option Addr} {n c : Nat} {ts : List TokV} (h : Toks w (.slice ao n c) ts) (hn : 0 < n) :
    ∃ b off, ao = some ⟨b, off, none⟩ ∧ b < w.heap.size ∧ ∀ i t k, ts[i]? = some t → k < 5 → w.cell? ⟨b, off + (i * 5 + k), none⟩ = t.cells[k]? := by
  obtain ⟨ao', c', e, h1, h2, h3, h4⟩ := h
  cases e
  cases hao : ao with
  | none => have := h3 hao; omega
  | some a =>
    obtain ⟨b, off, s⟩ := a
    obtain ⟨k1, k2, k3⟩ := h4 b off s hao
    have := k2 hn; subst this
    exact ⟨b, off, rfl, k1, k3⟩
theorem Try.tokenTy : SliceTy Try.prog 23 29 (.agg #[.int .i64 0, .string ⟨#[]⟩, .int .i64 0, .int .i64 0, .int .i64 0]) 5 48 :=
  .mk' Try.underlying23 (by kernel_rfl)

section
variable {w : World} {ops : Array Oper} {rest : List Oper} {o : Oper} {a : Act} {Q : Exit → Act → World → Prop}
/-- 'append(s, t)': one token, behind the block that holds it -/
theorem wpList_appendT (hg : o.guard = none) (s x : Operand) (hop : o.op = Op.call { callee := Callee.builtin Builtin.append, args := #[s, x], argTypes := #[23, 23] })
    (B : Nat) (v : Value) (ts : List TokV) (tv : TokV) (c0 c1 c2 c3 c4 : Value) (hs : a.eval s = v) (hx : a.eval x = .slice (some ⟨w.heap.size, 0, none⟩) 1 1) (hcells : tv.cells = [c0, c1, c2, c3, c4])
    (hown : OwnT w B v ts) (hlen : ts.length ≤ 1099511627776) (hB : B ≤ w.heap.size)
    (hK : ∀ v' w', OwnT w' B v' (ts ++ [tv]) → (∀ w0, Below B w0 w → Below B w0 w') → w.heap.size ≤ w'.heap.size →
      wpList Try.prog ops Q rest (a.put o.dst v') w') :
    wpList Try.prog ops Q (o :: rest) a (w.alloc (.cells #[c0, c1, c2, c3, c4] 29)) := by
  obtain ⟨i0, hi, hz0, hz1, hz2⟩ := Try.tokenTy.info
  refine wpList_append_own _ hg s x 23 hop B 29 i0 _ 5 48 Try.tokenTy.under hi hz0 hz1 hz2 rfl (by decide) v ts.length (tokCells ts) hs (World.ownsRow.alloc hown _) ⟨w.heap.size, 0, none⟩ 1 1 tv.cells hx (TokV.cells_length tv) ?_ ?_ (by unfold maxLen; omega) (by omega) (by simp; omega) ?_
  · intro j u hu
    have hj : j < 5 := by have := (List.getElem?_eq_some_iff.1 hu).1; rw [TokV.cells_length] at this; exact this
    have e2 : (⟨w.heap.size, 0, none⟩ : Addr).add j = ⟨w.heap.size, j, none⟩ := by unfold Addr.add; split <;> simp_all
    rw [e2, cell_of_row (w.alloc (.cells #[c0, c1, c2, c3, c4] 29)) w.heap.size j #[c0, c1, c2, c3, c4] 29 (0, 0) (heap_alloc_new w _)]
    rw [hcells] at hu
    rw [← hu]; simp
  · intro u hu
    simp only [TokV.cells, List.mem_cons, List.not_mem_nil, or_false] at hu
    rcases hu with rfl | rfl | rfl | rfl | rfl <;> rfl
  · intro v' w' h1 h2 _
    refine hK v' w' ?_ (fun w0 h0 => ?_) ?_
    · unfold OwnT; rw [tokCells_append, tokCells_one, List.length_append]; exact h1
    · have hb : Below B w0 (w.alloc (.cells #[c0, c1, c2, c3, c4] 29)) := h0.alloc hB _
      refine hb.grown h2 (by simp; omega) ?_
      intro k hk
      exact (World.ownsRow.lt hown k hk).1
    · have := h2.size; simp at this; omega
end
end Go.Proofs.Ytaefimegiobkmaa
/-
  Slices of bytes: the laws on slices of words, turned to bytes.
  Conditions: each theorem's own.
-/
namespace Go.Proofs.Ytaefimegiobkmaa
open Go.RowKit Go.ChangeShapes Go.WideShapes

/-- all bytes of a list fit 8 bits -/
def U8 (l : List Nat) : Prop := ∀ j, gd l j < 256

/-- the slice value v reads as the bytes l in w -/
def Byt (w : World) (v : Value) (l : List Nat) : Prop :=
  ∃ ao c, v = .slice ao l.length c ∧ l.length ≤ c ∧ c ≤ 9223372036854775807 ∧ (ao = none → c = 0) ∧
    (∀ b off s, ao = some ⟨b, off, s⟩ → (0 < l.length → b < w.heap.size ∧ s = none) ∧ ∀ j, j < l.length → w.cell? ⟨b, off + j, none⟩ = some (.int .u8 (gd l j : Nat))) ∧
    U8 l
theorem Byt.mono {w w' : World} {v : Value} {l : List Nat} {B : Nat} (h : Byt w v l) (hb : Below B w w') (hB : w.heap.size ≤ B) : Byt w' v l := by
  obtain ⟨ao, c, rfl, h1, h2, h3, h4, h5⟩ := h
  refine ⟨ao, c, rfl, h1, h2, h3, ?_, h5⟩
  intro b off s hs
  obtain ⟨k1, k3⟩ := h4 b off s hs
  refine ⟨fun h0 => ⟨Nat.lt_of_lt_of_le (k1 h0).1 hb.size, (k1 h0).2⟩, fun j hj => ?_⟩
  rw [hb.cell (p := ⟨b, off + j, none⟩) (Nat.lt_of_lt_of_le (k1 (by omega)).1 hB)]
  exact k3 j hj
theorem Byt.below {w w' : World} {v : Value} {l : List Nat} (h : Byt w v l) (hb : Below w.heap.size w w') : Byt w' v l := h.mono hb (Nat.le_refl _)
theorem Byt.shape {w : World} {v : Value} {l : List Nat} (h : Byt w v l) : ∃ ao c, v = .slice ao l.length c ∧ l.length ≤ c ∧ c ≤ 9223372036854775807 ∧ (ao = none → c = 0) := by
  obtain ⟨ao', c', e, h1, h2, h3, h4, h5⟩ := h
  exact ⟨ao', c', e, h1, h2, h3⟩
theorem Byt.at {w : World} {ao : Option Addr} {n c : Nat} {l : List Nat} (h : Byt w (.slice ao n c) l) (hn : 0 < n) :
    ∃ b off, ao = some ⟨b, off, none⟩ ∧ b < w.heap.size ∧ ∀ j, j < n → w.cell? ⟨b, off + j, none⟩ = some (.int .u8 (gd l j : Nat)) := by
  obtain ⟨ao', c', e, h1, h2, h3, h4, h5⟩ := h
  cases e
  cases hao : ao with
  | none => have := h3 hao; omega
  | some a =>
    obtain ⟨b, off, s⟩ := a
    obtain ⟨k1, k3⟩ := h4 b off s hao
    obtain ⟨k0, rfl⟩ := k1 hn
    exact ⟨b, off, rfl, k0, k3⟩
theorem Byt.lt {w : World} {v : Value} {l : List Nat} (h : Byt w v l) : U8 l := by
  obtain ⟨ao', c', e, h1, h2, h3, h4, h5⟩ := h
  exact h5
theorem Byt.nil (w : World) : Byt w (.slice none 0 0) [] := ⟨none, 0, rfl, Nat.le_refl _, by omega, by simp, by simp, fun j => by simp [gd]⟩

theorem map_gb (l : List Nat) (j : Nat) : (l.map fun x : Nat => Value.int .u8 x)[j]? = if j < l.length then some (.int .u8 (gd l j : Nat)) else none := by
  by_cases h : j < l.length <;> simp [gd, h]

/-- a slice of bytes of the call's own, in blocks from B on: v is nil and empty, or v lies at the head of its block; room for c bytes -/
def OwnB (e : TypeId) (w : World) (B : Nat) (v : Value) (l : List Nat) : Prop :=
  w.ownsRow B e 1 v l.length (l.map fun x : Nat => Value.int .u8 x) ∧ U8 l

section
variable {e : TypeId} {w : World} {B : Nat} {v : Value} {l : List Nat}
theorem OwnB.lt (h : OwnB e w B v l) : U8 l := h.2
theorem OwnB.nil (e : TypeId) (w : World) (B : Nat) : OwnB e w B (.slice none 0 0) [] := ⟨World.ownsRow_nil _ _ _ _, fun j => by simp [gd]⟩
theorem OwnB.cell {g n c : Nat} (h : OwnB e w B (.slice (some ⟨g, 0, none⟩) n c) l) (hn : l.length = n) : ∀ j, j < n → w.cell? ⟨g, j, none⟩ = some (.int .u8 (gd l j : Nat)) := by
  intro j hj
  subst hn
  have := h.1.cellAt j (by omega)
  rw [this, map_gb, if_pos hj]
theorem OwnB.frozen {g n c : Nat} (h : OwnB e w B (.slice (some ⟨g, 0, none⟩) n c) l) (hn : l.length = n) : ∀ j, w.frozen? ⟨g, j, none⟩ = false := fun j => by subst hn; exact h.1.frozenAt j
theorem OwnB.stored {g n c : Nat} (h : OwnB e w B (.slice (some ⟨g, 0, none⟩) n c) l) (hn : l.length = n) (k x : Nat) (hx : x < 256) :
    OwnB e (w.setCell ⟨g, k, none⟩ (.int .u8 x)) B (.slice (some ⟨g, 0, none⟩) n c) (l.set k x) := by
  subst hn
  obtain ⟨h1, h3⟩ := h
  obtain ⟨r1, r2⟩ := h1.stored k (.int .u8 x)
  refine ⟨?_, ?_⟩
  · rw [List.map_set, List.length_set]; exact r1
  · intro j
    rw [gd_set]; split
    · exact hx
    · exact h3 j
theorem OwnB.num (h : OwnB e w B v l) : Byt w v l := by
  obtain ⟨h1, h2⟩ := h
  have hc := fun g hg => h1.cells (g := g) hg
  have hlt := h1.lt
  rcases h1.2 with ⟨rfl, hn⟩ | ⟨g, cap, cur, rfl, hb, hh, hcap, hm, hs, ht⟩
  · have : l = [] := List.eq_nil_of_length_eq_zero hn
    subst this; exact Byt.nil w
  · refine ⟨some ⟨g, 0, none⟩, cap, rfl, hcap, by unfold maxLen at hm; omega, by simp, ?_, h2⟩
    intro b off s hs'
    simp only [Option.some.injEq, Addr.mk.injEq] at hs'
    obtain ⟨rfl, rfl, rfl⟩ := hs'
    refine ⟨fun _ => ⟨(hlt g rfl).2, rfl⟩, fun j hj => ?_⟩
    have := hc g rfl j (.int .u8 (gd l j : Nat)) (by rw [map_gb, if_pos hj])
    have e2 : (⟨g, 0, none⟩ : Addr).add j = ⟨g, 0 + j, none⟩ := by unfold Addr.add; split <;> simp_all
    rw [e2] at this; exact this
theorem OwnB.head (h : OwnB e w B v l) (hn : 0 < l.length) : ∃ g c, v = .slice (some ⟨g, 0, none⟩) l.length c ∧ B ≤ g := by
  rcases h.1.2 with ⟨rfl, h0⟩ | ⟨g, cap, cur, rfl, hb, hh, hcap, hm, hs, ht⟩
  · omega
  · exact ⟨g, cap, rfl, hb⟩
theorem OwnB.block {g n c : Nat} (h : OwnB e w B (.slice (some ⟨g, 0, none⟩) n c) l) : B ≤ g ∧ g < w.heap.size := h.1.lt g rfl
theorem OwnB.alloc (h : OwnB e w B v l) (o : Obj) : OwnB e (w.alloc o) B v l := ⟨h.1.alloc o, h.2⟩
theorem OwnB.drew (h : OwnB e w B v l) : OwnB e w.drew B v l := ⟨h.1.drew, h.2⟩
/-- what is owned stays owned behind a call that leaves all blocks that were there alone -/
theorem OwnB.below {w' : World} (h : OwnB e w B v l) (hb : Below w.heap.size w w') : OwnB e w' B v l := by
  refine ⟨h.1.kept (row := none) ⟨hb.os, hb.tape, hb.output, hb.size, fun k hk _ => hb.block k hk⟩ ?_, h.2⟩
  cases hv : v.ownBlock <;> simp
theorem OwnB.base {B' : Nat} (h : OwnB e w B v l) (hB : B' ≤ B) : OwnB e w B' v l := by
  obtain ⟨⟨h1, h2⟩, h3⟩ := h
  refine ⟨⟨h1, ?_⟩, h3⟩
  rcases h2 with h2 | ⟨g, cap, cur, hv, hb, r⟩
  · exact .inl h2
  · exact .inr ⟨g, cap, cur, hv, Nat.le_trans hB hb, r⟩
end

section
variable {P : Program} {w : World} {ops : Array Oper} {rest : List Oper} {o : Oper} {a : Act} {Q : Exit → Act → World → Prop} {t e : TypeId}
end


end Go.Proofs.Ytaefimegiobkmaa
/-
  Plain texts: the bytes of joined and cut texts; the texts of tokens in a text with a gap.
  Conditions: each theorem's own.
-/
namespace Go.Proofs.Ytaefimegiobkmaa
open Go.RowKit

theorem bs_inj {a b : ByteArray} (h : bs a = bs b) : a = b := by
  have : a.data.toList = b.data.toList := by
    unfold bs at h
    exact List.map_inj_right (fun x y => UInt8.toNat_inj.1) |>.1 h
  cases a; cases b
  simp only [ByteArray.mk.injEq]
  exact Array.toList_inj.1 this
theorem bs_append (a b : ByteArray) : bs (a ++ b) = bs a ++ bs b := by
  unfold bs
  rw [ByteArray.data_append, Array.toList_append, List.map_append]
theorem bs_extract (s : ByteArray) (a b : Nat) : bs (s.extract a b) = ((bs s).drop a).take (b - a) := by
  unfold bs
  rw [ByteArray.data_extract, Array.toList_extract, List.extract_eq_take_drop, List.map_take, List.map_drop]
end Go.Proofs.Ytaefimegiobkmaa
/-
  Intervals: their ends' lengths, their order, what sums and products of ends come to.
  Conditions: none beyond each theorem's own.
-/
namespace Go.Proofs.Ytaefimegiobkmaa

theorem div_zero_q (p : Rat) : p / 0 = 0 := by grind
theorem rl_div' (p q : Rat) : rl (p / q) ≤ rl p + rl q := by
  by_cases h : q = 0
  · subst h; rw [div_zero_q, rl_zero]; have := rl_pos p; omega
  · exact rl_div p q h
end Go.Proofs.Ytaefimegiobkmaa
/-
  token.Value: the value of a number.
  Conditions: each theorem's own.
-/
namespace Go.Proofs.Ytaefimegiobkmaa
open Go.RowKit Go.ChangeShapes Go.WideShapes

theorem cutRet_slash (s : ByteArray) (w : World) (hs : s.size ≤ 4611686018427387904) (h1 : nE (bs s) < s.size) (h2 : gd (bs s) (nE (bs s)) = 47) :
    Calls Try.prog 22 #[.string s, .string ⟨#[47]⟩] w (RetV w (.tuple #[.string (pA s), .string (pB s), .bool true])) := by
  have h := cut_any 47 s.data.toList w (by rw [data_len]; exact hs)
  unfold RetCut at h; rw [cut_slash h1 h2] at h; exact h
theorem cutRet_no (s : ByteArray) (w : World) (hs : s.size ≤ 4611686018427387904) (h : isNum (bs s)) (h1 : ¬ (nE (bs s) < s.size ∧ gd (bs s) (nE (bs s)) = 47)) :
    Calls Try.prog 22 #[.string s, .string ⟨#[47]⟩] w (RetV w (.tuple #[.string s, .string ⟨#[]⟩, .bool false])) := by
  have h := cut_any 47 s.data.toList w (by rw [data_len]; exact hs)
  unfold RetCut at h; rw [no_slash (by assumption) h1] at h; exact h
theorem cutRet_point (s : ByteArray) (w : World) (hs : s.size ≤ 4611686018427387904) (h : isNum (bs s)) (h1 : ¬ (nE (bs s) < s.size ∧ gd (bs s) (nE (bs s)) = 47)) :
    Calls Try.prog 22 #[.string s, .string ⟨#[46]⟩] w (RetV w (.tuple #[.string (pA s), .string (pB s), .bool (cut3 46 s.data.toList).2.2])) := by
  have k := cut_any 46 s.data.toList w (by rw [data_len]; exact hs)
  unfold RetCut at k; rw [(cut_point h h1).1, (cut_point h h1).2] at k; exact k
theorem rl_nA (s : ByteArray) (h : s.size ≤ 100) : rl (numQ (nA (bs s))) ≤ 501 := by
  have h1 := rl_numQ (nA (bs s)) (fun b hb => by obtain ⟨j, hj, e⟩ := List.getElem_of_mem (List.mem_of_mem_take hb); have := bs_lt s j; rw [gd_lt _ _ hj] at this; rw [← e]; exact this)
  have h2 : (nA (bs s)).length ≤ 100 := by unfold nA; rw [List.length_take, bs_length]; omega
  omega
theorem rl_nB (s : ByteArray) (h : s.size ≤ 100) : rl (numQ (nB (bs s))) ≤ 501 := by
  have h1 := rl_numQ (nB (bs s)) (fun b hb => by obtain ⟨j, hj, e⟩ := List.getElem_of_mem (List.mem_of_mem_drop hb); have := bs_lt s j; rw [gd_lt _ _ hj] at this; rw [← e]; exact this)
  have h2 : (nB (bs s)).length ≤ 100 := by unfold nB; rw [List.length_drop, bs_length]; omega
  omega
theorem rl_nJ (s : ByteArray) (h : s.size ≤ 100) : rl (numQ (nA (bs s) ++ nB (bs s))) ≤ 1001 := by
  have h1 := rl_numQ (nA (bs s) ++ nB (bs s)) (fun b hb => by
    rcases List.mem_append.1 hb with hb | hb
    · obtain ⟨j, hj, e⟩ := List.getElem_of_mem (List.mem_of_mem_take hb); have := bs_lt s j; rw [gd_lt _ _ hj] at this; rw [← e]; exact this
    · obtain ⟨j, hj, e⟩ := List.getElem_of_mem (List.mem_of_mem_drop hb); have := bs_lt s j; rw [gd_lt _ _ hj] at this; rw [← e]; exact this)
  have h2 : (nA (bs s)).length ≤ 100 := by unfold nA; rw [List.length_take, bs_length]; omega
  have h3 : (nB (bs s)).length ≤ 100 := by unfold nB; rw [List.length_drop, bs_length]; omega
  rw [List.length_append] at h1; omega
theorem pJ_digits {s : ByteArray} (h : isNum (bs s)) : ∀ j, j < (pA s ++ pB s).size → isDigit (gd (bs (pA s ++ pB s)) j) = true := by
  intro j hj
  rw [ByteArray.size_append] at hj
  have e1 := bs_length (pA s)
  rw [bs_append, gd_append, e1]
  split
  · rename_i k; exact pA_digits h j k
  · rename_i k; exact pB_digits h _ (by omega)
set_option maxRecDepth 100000 in
set_option maxHeartbeats 6400000 in
theorem value_slash (s : ByteArray) (w : World)  (h : s.size ≤ 100) (hn : isNum (bs s)) (h1 : nE (bs s) < s.size) (h2 : gd (bs s) (nE (bs s)) = 47) :
    Calls Try.prog 7 #[.string s] w (RetRE w (numQ (nA (bs s)) / numQ (nB (bs s))) (errV (dc (numQ (nB (bs s)))))) := by
  have HBW := Lib.hid (Below.refl w.heap.size w)
  have kz0 : rl 0 ≤ 1 := by rw [rl_zero]; exact Nat.le_refl _
  obtain ⟨G, hG⟩ : ∃ G, G = dc (numQ (nB (bs s))) := ⟨_, rfl⟩
  rw [← hG]
  have hs1 : 0 < s.size := by
    have h0 := hn.1; have := bs_length s
    rcases Nat.eq_zero_or_pos s.size with k | k
    · rw [k] at this; exact absurd (List.length_eq_zero_iff.1 this) h0
    · exact k
  have f1 : decide ((100 : Int) < (s.size : Int)) = false := decide_eq_false (by omega)
  have f2 : ((s.size : Int) == 0) = false := beq_eq_false_iff_ne.2 (by omega)
  have hix := run_index_gb (P := Try.prog) s 9 Try.underlying9 0 hs1
  have hb256 := bs_lt s 0
  have HX := hn.2.1
  obtain ⟨b, hb⟩ : ∃ b, b = gd (bs s) 0 := ⟨_, rfl⟩
  rw [← hb] at hix hb256 HX
  rw [show ((0 : Nat) : Int) = 0 from rfl] at hix
  have HDB := Lib.hid HX; clear HX hb
  obtain ⟨E, hE⟩ : ∃ E, E = numEnd (bs s) 0 := ⟨_, rfl⟩
  have hne : E = s.size := by rw [hE, hn.2.2, bs_length]
  have f3 : ((E : Int) != (s.size : Int)) = false := by rw [hne]; simp
  have HE := Lib.hid hE.symm; clear hE hne
  have zA := pA_size s
  have zB := pB_size s
  have qA := rl_nA s h
  have qB := rl_nB s h
  have qJ := rl_nJ s h
  obtain ⟨QA, hQA⟩ : ∃ q, q = numQ (nA (bs s)) := ⟨_, rfl⟩
  obtain ⟨QB, hQB⟩ : ∃ q, q = numQ (nB (bs s)) := ⟨_, rfl⟩
  obtain ⟨QJ, hQJ⟩ : ∃ q, q = numQ (nA (bs s) ++ nB (bs s)) := ⟨_, rfl⟩
  rw [← hQA] at qA; rw [← hQB] at qB; rw [← hQJ] at qJ
  rw [← hQB] at hG; rw [← hQA, ← hQB]
  have HQA := Lib.hid hQA.symm; have HQB := Lib.hid hQB.symm; have HQJ := Lib.hid hQJ.symm; clear hQA hQB hQJ
  have HNUM := Lib.hid hn; clear hn
  have HE1 := Lib.hid h1; have HE2 := Lib.hid h2; have HG := Lib.hid hG.symm; clear h1 h2 hG
  obtain ⟨w1, hw1⟩ : ∃ w1, w1 = w.alloc (.cells #[.bool false, .slice none 0 0, .slice none 0 0] 32) := ⟨_, rfl⟩
  have hb1 : Below w.heap.size w w1 := by rw [hw1]; exact (Below.refl _ _).alloc (Nat.le_refl _) _
  have hx1 := heap_alloc_new w (.cells #[.bool false, .slice none 0 0, .slice none 0 0] 32)
  obtain ⟨g1, hg1⟩ : ∃ g, g = w.heap.size := ⟨_, rfl⟩
  rw [← hw1, ← hg1] at hx1
  have lw1 : w.heap.size ≤ g1 := by rw [hg1]; exact HBW.out.size
  have HW1 := Lib.hid hw1; have HG1 := Lib.hid hg1; clear hw1 hg1
  have HB1 := Lib.hid (HBW.out.step hb1)
  have BX1 := Lib.hid hx1; clear hb1 hx1
  go_enter Try.func7, Try.ntmps7
  have hs := digit_any b w1 hb256
  rw [HDB.out] at hs
  have HS := Lib.hid hs; clear hs
  go_wp2_with (with_reducible first | refine pauseCall ?_ | refine pauseLoop ?_ | refine pauseDraw ?_ | refine pauseBody ?_ | refine pauseRounds ?_)
  try rw [← HW1.out]
  try rw [← HG1.out]
  refine Pause.mk ?_
  (with_reducible refine HS.out.mono ?_); rintro e wx ⟨rfl, rfl⟩
  clear HS
  have hs := numberEnd_any s 0 w1 (by omega) (by omega)
  rw [HE.out, show ((0 : Nat) : Int) = 0 from rfl] at hs
  have HS := Lib.hid hs; clear hs
  go_wp2_with (with_reducible first | refine pauseCall ?_ | refine pauseLoop ?_ | refine pauseDraw ?_ | refine pauseBody ?_ | refine pauseRounds ?_)
  refine Pause.mk ?_
  (with_reducible refine HS.out.mono ?_); rintro e wx ⟨rfl, rfl⟩
  clear HS
  have hs := cutRet_slash s w1 (by omega) HE1.out HE2.out
  have HS := Lib.hid hs; clear hs
  go_wp2_with (with_reducible first | refine pauseCall ?_ | refine pauseLoop ?_ | refine pauseDraw ?_ | refine pauseBody ?_ | refine pauseRounds ?_)
  refine Pause.mk ?_
  (with_reducible refine HS.out.mono ?_); rintro e w4 ⟨rfl, hb4⟩
  clear HS
  have HB4 := Lib.hid (HB1.out.step hb4)
  have BX1 := Lib.hid (heap_below BX1.out hb4)
  clear hb4
  have hs := whole_any (pA s) w4 (by first | omega | (rw [ByteArray.size_append]; omega)) (pA_digits HNUM.out)
  rw [bs_pA, HQA.out] at hs
  have HS := Lib.hid hs; clear hs
  go_wp2_with (with_reducible first | refine pauseCall ?_ | refine pauseLoop ?_ | refine pauseDraw ?_ | refine pauseBody ?_ | refine pauseRounds ?_)
  refine Pause.mk ?_
  (with_reducible refine HS.out.mono ?_); rintro e w5 ⟨v5, rfl, hb5, hn5⟩
  clear HS
  have HB5 := Lib.hid (HB4.out.step hb5)
  have BX1 := Lib.hid (heap_below BX1.out hb5)
  have N5 := Lib.hid hn5; clear hn5
  obtain ⟨s1, o1, n1, c1, a1, m1, d1, rfl⟩ := N5.out.shape
  clear hb5
  have hs := whole_any (pB s) w5 (by first | omega | (rw [ByteArray.size_append]; omega)) (pB_digits HNUM.out)
  rw [bs_pB, HQB.out] at hs
  have HS := Lib.hid hs; clear hs
  go_wp2_with (with_reducible first | refine pauseCall ?_ | refine pauseLoop ?_ | refine pauseDraw ?_ | refine pauseBody ?_ | refine pauseRounds ?_)
  refine Pause.mk ?_
  (with_reducible refine HS.out.mono ?_); rintro e w6 ⟨v6, rfl, hb6, hn6⟩
  clear HS
  have HB6 := Lib.hid (HB5.out.step hb6)
  have N5 := Lib.hid (N5.out.below hb6)
  have BX1 := Lib.hid (heap_below BX1.out hb6)
  have N6 := Lib.hid hn6; clear hn6
  obtain ⟨s2, o2, n2, c2, a2, m2, d2, rfl⟩ := N6.out.shape
  clear hb6
  have k3 := rl_div' (QA) (QB)
  have hs := divq_any _ (QA) _ (QB) w6 (N5.out.is (by omega)) (N6.out.is (by omega))
  rw [HG.out] at hs
  have HS := Lib.hid hs; clear hs
  go_wp2_with (with_reducible first | refine pauseCall ?_ | refine pauseLoop ?_ | refine pauseDraw ?_ | refine pauseBody ?_ | refine pauseRounds ?_)
  refine Pause.mk ?_
  (with_reducible refine HS.out.mono ?_); rintro e w7 ⟨v7, rfl, hb7, hn7⟩
  clear HS
  have HB7 := Lib.hid (HB6.out.step hb7)
  have N5 := Lib.hid (N5.out.below hb7)
  have N6 := Lib.hid (N6.out.below hb7)
  have BX1 := Lib.hid (heap_below BX1.out hb7)
  have N7 := Lib.hid hn7; clear hn7
  obtain ⟨s4, o4, n4, c4, a4, m4, d4, rfl⟩ := N7.out.shape
  clear hb7
  go_wp2_with (with_reducible refine wpList_pauseS ?_)
  refine wpList_stL g1 0 [.bool s4, .slice o4 n4 c4, .slice a4 m4 d4] BX1.out rfl rfl (Nat.le_of_ble_eq_true rfl) (by kernel_rfl) rfl ?_
  intro w8 hp8
  have N5 := Lib.hid (putL_I hp8 N5.out BX1.out noW3)
  have N6 := Lib.hid (putL_I hp8 N6.out BX1.out noW3)
  have N7 := Lib.hid (putL_I hp8 N7.out BX1.out noW3)
  have nx8 : w8.heap[g1]? = some (.cells #[.bool s4, .slice o4 n4 c4, .slice a4 m4 d4] 32) := by rw [hp8]; exact putL_r BX1.out
  have BX1 := Lib.hid nx8; clear nx8
  have HB8 := Lib.hid (putLb hp8 HB7.out (by omega))
  clear hp8
  obtain ⟨x5_0, x5_1, x5_2⟩ := row3 BX1.out
  go_wp2_with (with_reducible first | refine pauseCall ?_ | refine pauseLoop ?_ | refine pauseDraw ?_ | refine pauseBody ?_ | refine pauseRounds ?_)
  clear x5_0 x5_1 x5_2
  refine Pause.mk ?_
  refine ret_rat2 rfl g1 _ _ _ (by first | rfl | exact rfl) BX1.out rfl ?_
  exact ⟨_, rfl, HB8.out, N7.out⟩
set_option maxRecDepth 100000 in
set_option maxHeartbeats 12800000 in
theorem value_dec (s : ByteArray) (w : World)  (h : s.size ≤ 100) (hn : isNum (bs s)) (h1 : ¬ (nE (bs s) < s.size ∧ gd (bs s) (nE (bs s)) = 47)) :
    Calls Try.prog 7 #[.string s] w (RetRE w (numQ (nA (bs s) ++ nB (bs s)) / tenQ (pB s).size) (errV 0)) := by
  have HBW := Lib.hid (Below.refl w.heap.size w)
  have kz0 : rl 0 ≤ 1 := by rw [rl_zero]; exact Nat.le_refl _
  rw [errV_zero]
  have hs1 : 0 < s.size := by
    have h0 := hn.1; have := bs_length s
    rcases Nat.eq_zero_or_pos s.size with k | k
    · rw [k] at this; exact absurd (List.length_eq_zero_iff.1 this) h0
    · exact k
  have f1 : decide ((100 : Int) < (s.size : Int)) = false := decide_eq_false (by omega)
  have f2 : ((s.size : Int) == 0) = false := beq_eq_false_iff_ne.2 (by omega)
  have hix := run_index_gb (P := Try.prog) s 9 Try.underlying9 0 hs1
  have hb256 := bs_lt s 0
  have HX := hn.2.1
  obtain ⟨b, hb⟩ : ∃ b, b = gd (bs s) 0 := ⟨_, rfl⟩
  rw [← hb] at hix hb256 HX
  rw [show ((0 : Nat) : Int) = 0 from rfl] at hix
  have HDB := Lib.hid HX; clear HX hb
  obtain ⟨E, hE⟩ : ∃ E, E = numEnd (bs s) 0 := ⟨_, rfl⟩
  have hne : E = s.size := by rw [hE, hn.2.2, bs_length]
  have f3 : ((E : Int) != (s.size : Int)) = false := by rw [hne]; simp
  have HE := Lib.hid hE.symm; clear hE hne
  have zA := pA_size s
  have zB := pB_size s
  have qA := rl_nA s h
  have qB := rl_nB s h
  have qJ := rl_nJ s h
  obtain ⟨QA, hQA⟩ : ∃ q, q = numQ (nA (bs s)) := ⟨_, rfl⟩
  obtain ⟨QB, hQB⟩ : ∃ q, q = numQ (nB (bs s)) := ⟨_, rfl⟩
  obtain ⟨QJ, hQJ⟩ : ∃ q, q = numQ (nA (bs s) ++ nB (bs s)) := ⟨_, rfl⟩
  rw [← hQA] at qA; rw [← hQB] at qB; rw [← hQJ] at qJ
  rw [← hQJ]
  have HQA := Lib.hid hQA.symm; have HQB := Lib.hid hQB.symm; have HQJ := Lib.hid hQJ.symm; clear hQA hQB hQJ
  have HNUM := Lib.hid hn; clear hn
  have HNS := Lib.hid h1; clear h1
  obtain ⟨k2, hk2⟩ : ∃ k, k = (cut3 46 s.data.toList).2.2 := ⟨_, rfl⟩
  have HK2 := Lib.hid hk2.symm; clear hk2
  obtain ⟨T, hT⟩ : ∃ T, T = tenQ (pB s).size := ⟨_, rfl⟩
  rw [← hT]
  have hT0 : T ≠ 0 := by rw [hT]; exact tenQ_ne _
  have HDT := Lib.hid (show dc T = 0 from if_neg hT0); have HT := Lib.hid hT.symm; clear hT hT0
  obtain ⟨w1, hw1⟩ : ∃ w1, w1 = w.alloc (.cells #[.bool false, .slice none 0 0, .slice none 0 0] 32) := ⟨_, rfl⟩
  have hb1 : Below w.heap.size w w1 := by rw [hw1]; exact (Below.refl _ _).alloc (Nat.le_refl _) _
  have hx1 := heap_alloc_new w (.cells #[.bool false, .slice none 0 0, .slice none 0 0] 32)
  obtain ⟨g1, hg1⟩ : ∃ g, g = w.heap.size := ⟨_, rfl⟩
  rw [← hw1, ← hg1] at hx1
  have lw1 : w.heap.size ≤ g1 := by rw [hg1]; exact HBW.out.size
  have HW1 := Lib.hid hw1; have HG1 := Lib.hid hg1; clear hw1 hg1
  have HB1 := Lib.hid (HBW.out.step hb1)
  have BX1 := Lib.hid hx1; clear hb1 hx1
  go_enter Try.func7, Try.ntmps7
  have hs := digit_any b w1 hb256
  rw [HDB.out] at hs
  have HS := Lib.hid hs; clear hs
  go_wp2_with (with_reducible first | refine pauseCall ?_ | refine pauseLoop ?_ | refine pauseDraw ?_ | refine pauseBody ?_ | refine pauseRounds ?_)
  try rw [← HW1.out]
  try rw [← HG1.out]
  refine Pause.mk ?_
  (with_reducible refine HS.out.mono ?_); rintro e wx ⟨rfl, rfl⟩
  clear HS
  have hs := numberEnd_any s 0 w1 (by omega) (by omega)
  rw [HE.out, show ((0 : Nat) : Int) = 0 from rfl] at hs
  have HS := Lib.hid hs; clear hs
  go_wp2_with (with_reducible first | refine pauseCall ?_ | refine pauseLoop ?_ | refine pauseDraw ?_ | refine pauseBody ?_ | refine pauseRounds ?_)
  refine Pause.mk ?_
  (with_reducible refine HS.out.mono ?_); rintro e wx ⟨rfl, rfl⟩
  clear HS
  have hs := cutRet_no s w1 (by omega) HNUM.out HNS.out
  have HS := Lib.hid hs; clear hs
  go_wp2_with (with_reducible first | refine pauseCall ?_ | refine pauseLoop ?_ | refine pauseDraw ?_ | refine pauseBody ?_ | refine pauseRounds ?_)
  refine Pause.mk ?_
  (with_reducible refine HS.out.mono ?_); rintro e w4 ⟨rfl, hb4⟩
  clear HS
  have HB4 := Lib.hid (HB1.out.step hb4)
  have BX1 := Lib.hid (heap_below BX1.out hb4)
  clear hb4
  have hs := cutRet_point s w4 (by omega) HNUM.out HNS.out
  rw [HK2.out] at hs
  have HS := Lib.hid hs; clear hs
  go_wp2_with (with_reducible first | refine pauseCall ?_ | refine pauseLoop ?_ | refine pauseDraw ?_ | refine pauseBody ?_ | refine pauseRounds ?_)
  refine Pause.mk ?_
  (with_reducible refine HS.out.mono ?_); rintro e w5 ⟨rfl, hb5⟩
  clear HS
  have HB5 := Lib.hid (HB4.out.step hb5)
  have BX1 := Lib.hid (heap_below BX1.out hb5)
  clear hb5
  have k1 : rl ((1 : Int) : Rat) ≤ 2 := rl_small (by omega) (by omega)
  have hs := ofq_any 1 w5 (by omega) (by omega)
  have HS := Lib.hid hs; clear hs
  go_wp2_with (with_reducible first | refine pauseCall ?_ | refine pauseLoop ?_ | refine pauseDraw ?_ | refine pauseBody ?_ | refine pauseRounds ?_)
  refine Pause.mk ?_
  (with_reducible refine HS.out.mono ?_); rintro e w6 ⟨v6, rfl, hb6, hn6⟩
  clear HS
  have HB6 := Lib.hid (HB5.out.step hb6)
  have BX1 := Lib.hid (heap_below BX1.out hb6)
  have N6 := Lib.hid hn6; clear hn6
  obtain ⟨s2, o2, n2, c2, a2, m2, d2, rfl⟩ := N6.out.shape
  clear hb6
  obtain ⟨w7, hw7⟩ : ∃ w7, w7 = w6.alloc (.cells #[.bool s2, .slice o2 n2 c2, .slice a2 m2 d2] 32) := ⟨_, rfl⟩
  have hb7 : Below w6.heap.size w6 w7 := by rw [hw7]; exact (Below.refl _ _).alloc (Nat.le_refl _) _
  have hx7 := heap_alloc_new w6 (.cells #[.bool s2, .slice o2 n2 c2, .slice a2 m2 d2] 32)
  obtain ⟨g7, hg7⟩ : ∃ g, g = w6.heap.size := ⟨_, rfl⟩
  rw [← hw7, ← hg7] at hx7
  have lw7 : w.heap.size ≤ g7 := by rw [hg7]; exact HB6.out.size
  have ltBX17 : g1 < g7 := by rw [hg7]; exact below_lt BX1.out
  have HW7 := Lib.hid hw7; have HG7 := Lib.hid hg7; clear hw7 hg7
  have HB7 := Lib.hid (HB6.out.step hb7)
  have N6 := Lib.hid (N6.out.below hb7)
  have BX1 := Lib.hid (heap_below BX1.out hb7)
  have BX7 := Lib.hid hx7; clear hb7 hx7
  go_wp2_with (with_reducible first | refine pauseCall ?_ | refine pauseLoop ?_ | refine pauseDraw ?_ | refine pauseBody ?_ | refine pauseRounds ?_)
  try rw [← HW7.out]
  try rw [← HG7.out]
  refine Pause.mk ?_
  have hN := N6.out
  rw [show (((1 : Int) : Rat)) = tenQ 0 from tenQ_zero.symm] at hN
  have HN := Lib.hid hN; clear hN
  go_loopw [57] (fun kv wr => ∃ (k : Nat) (s1 : Bool) (o1 : Option Addr) (n1 c1 : Nat) (a1 : Option Addr) (p1 d1 : Nat), k ≤ (pB s).size ∧ kv = .int .i64 k ∧ Hid (wr.heap[g7]? = some (.cells #[.bool s1, .slice o1 n1 c1, .slice a1 p1 d1] 32)) ∧ IsR wr (.agg #[.bool s1, .slice o1 n1 c1, .slice a1 p1 d1]) (tenQ k) ∧
      Hid (wr.heap[g1]? = some (.cells #[.bool false, .slice none 0 0, .slice none 0 0] 32)) ∧ Below w.heap.size w wr) (fun kv _ => (pB s).size - (intOf kv).toNat)
  case atStart => exact ⟨0, s2, o2, n2, c2, a2, m2, d2, Nat.zero_le _, rfl, BX7, HN.out, BX1, HB7.out⟩
  case round =>
    obtain ⟨k, s1, o1, n1, c1, a1, p1, d1, hk, rfl, hxA, hIS, hxR, hBr⟩ := hrel
    have HBR := Lib.hid hBr; have HIS := Lib.hid hIS; clear hBr hIS
    have BXA := hxA; have BXR := hxR
    have hrl := rl_tenQ k
    have hrk : rl (tenQ k) ≤ 1001 := by omega
    clear hrl
    have hr10 := rl_ten
    by_cases hkm : k < (pB s).size
    · skip
      have hf1 : decide ((k : Int) < ((pB s).size : Int)) = true := decide_eq_true (by omega)
      go_wp2_with (with_reducible first | refine pauseCall ?_ | refine pauseLoop ?_ | refine pauseDraw ?_ | refine pauseBody ?_ | refine pauseRounds ?_)
      refine Pause.mk ?_
      have k3 : rl ((10 : Int) : Rat) ≤ 2 := rl_small (by omega) (by omega)
      refine wp_region_facts (A := ?aa4) (w := wr) 2 [] (by kernel_rfl) (Fl [KEq (.agg #[.bool s1, .slice o1 n1 c1, .slice a1 p1 d1]), KIs (((10 : Int) : Rat))]) (fun i => false) (by kernel_rfl) ?hq4 (monoL (monoC (kEq _) (monoC (kIs _) monoN))) ?ha4 ?st4 ?tl4
      case hq4 =>
        intro c a d v w h
        first | (simp only [Exit.then] at h ⊢; exact h) | (simp only [Exit.inBlock, Exit.then] at h ⊢; exact h) | exact h
      case ha4 =>
        intro vals
        simp only [putsTo, dstOf, if_true, Act.put, List.setIfInBounds_toArray, List.set_cons_zero, List.set_cons_succ, List.getElem?_toArray, List.getElem?_cons_zero, List.getElem?_cons_succ, Option.bind_some]
        exact rfl
      case st4 =>
        simp only [List.take_succ_cons, List.take_zero]
        refine stepsOK_cons rfl rfl ?_ (stepsOK_cons rfl rfl ?_ (stepsOK_nil))
        · intro vals w1 hb hd
          obtain ⟨e0, e1, e2⟩ := row3 (heap_below BXA.out hb)
          refine stepOK_value (v := .agg #[.bool s1, .slice o1 n1 c1, .slice a1 p1 d1]) (w' := w1) (by go_simp) (leaves_mk (Below.refl _ _) rfl (fun h => by cases h))
        · intro vals w1 hb hd
          have hs := ofq_any 10 w1 (by omega) (by omega)
          have HS := Lib.hid hs; clear hs
          clear hd
          refine stepOK_call (by go_simp; first | done | exact ⟨⟨rfl, rfl⟩, rfl⟩) ?_
          (with_reducible refine HS.out.mono ?_); rintro e w2 ⟨v, rfl, hb2, hn⟩
          exact ⟨v, rfl, leaves_mk hb2 hn (fun h => by cases h)⟩
      case tl4 =>
        intro vals w18 hb18 hf hdis
        simp only [List.drop_succ_cons, List.drop_zero]
        have z0 : vals 0 = _ := hf 0 (by decide)
        try rw [z0]
        clear z0
        obtain ⟨u4_1, hu1⟩ : ∃ u, u = vals 1 := ⟨_, rfl⟩
        have hn4_1 : IsR w18 (vals 1) (((10 : Int) : Rat)) := hf 1 (by decide)
        rw [← hu1] at hn4_1 ⊢; clear hu1
        clear hf hdis
        have HB18 := Lib.hid (HBR.out.step hb18)
        have HIS := Lib.hid (HIS.out.below hb18)
        have BXR := Lib.hid (heap_below BXR.out hb18)
        have BXA := Lib.hid (heap_below BXA.out hb18)
        clear hb18
        have N4_1 := Lib.hid hn4_1; clear hn4_1
        obtain ⟨s5, o5, n5, c5, a5, m5, d5, rfl⟩ := N4_1.out.shape
        skip
        have k6 := rl_mul (tenQ k) (((10 : Int) : Rat))
        have hs := mulq_any _ (tenQ k) _ (((10 : Int) : Rat)) w18 (HIS.out.is (by omega)) (N4_1.out.is (by omega))
        have HS := Lib.hid hs; clear hs
        go_wp2_with (with_reducible first | refine pauseCall ?_ | refine pauseLoop ?_ | refine pauseDraw ?_ | refine pauseBody ?_ | refine pauseRounds ?_)
        refine Pause.mk ?_
        (with_reducible refine HS.out.mono ?_); rintro e w19 ⟨v19, rfl, hb19, hn19⟩
        clear HS
        have HB19 := Lib.hid (HB18.out.step hb19)
        have HIS := Lib.hid (HIS.out.below hb19)
        have N4_1 := Lib.hid (N4_1.out.below hb19)
        have BXR := Lib.hid (heap_below BXR.out hb19)
        have BXA := Lib.hid (heap_below BXA.out hb19)
        have N19 := Lib.hid hn19; clear hn19
        obtain ⟨s7, o7, n7, c7, a7, m7, d7, rfl⟩ := N19.out.shape
        clear hb19
        go_wp2_with (with_reducible refine wpList_pauseS ?_)
        refine wpList_stL g7 0 [.bool s7, .slice o7 n7 c7, .slice a7 m7 d7] BXA.out rfl rfl (Nat.le_of_ble_eq_true rfl) (by kernel_rfl) rfl ?_
        intro w20 hp20
        have HIS := Lib.hid (putL_I hp20 HIS.out BXA.out noW3)
        have N4_1 := Lib.hid (putL_I hp20 N4_1.out BXA.out noW3)
        have N19 := Lib.hid (putL_I hp20 N19.out BXA.out noW3)
        have BXR := Lib.hid (putLx hp20 BXR.out (by omega))
        have nx20 : w20.heap[g7]? = some (.cells #[.bool s7, .slice o7 n7 c7, .slice a7 m7 d7] 32) := by rw [hp20]; exact putL_r BXA.out
        have BXA := Lib.hid nx20; clear nx20
        have HB20 := Lib.hid (putLb hp20 HB19.out (by omega))
        clear hp20
        go_wp2_with (with_reducible first | refine pauseCall ?_ | refine pauseLoop ?_ | refine pauseDraw ?_ | refine pauseBody ?_ | refine pauseRounds ?_)
        refine Pause.mk ?_
        go_roundw
        case rel => exact ⟨k + 1, s7, o7, n7, c7, a7, m7, d7, hkm, by go_num, BXA, by rw [tenQ_succ]; exact N19.out, BXR, HB20.out⟩
        case measure => simp [intOf]; omega
    · skip
      obtain rfl : k = (pB s).size := by omega
      have hf1 : decide (((pB s).size : Int) < ((pB s).size : Int)) = false := decide_eq_false (by omega)
      rw [HT.out] at HIS hrk
      go_wp2_with (with_reducible first | refine pauseCall ?_ | refine pauseLoop ?_ | refine pauseDraw ?_ | refine pauseBody ?_ | refine pauseRounds ?_)
      refine Pause.mk ?_
      have k53 := rl_div' (QJ) (T)
      refine wp_region_facts (A := ?aa54) (w := wr) 7 [6] (by kernel_rfl) (Fl [KEq (.string (pA s)), KEq (.string (pB s)), KEq (.string (((pA s) : ByteArray) ++ ((pB s) : ByteArray))), KIs (QJ), KEq (.agg #[.bool s1, .slice o1 n1 c1, .slice a1 p1 d1]), KRE ((QJ) / (T)) (.nilIface), KIs ((QJ) / (T))]) (fun i => false) (by kernel_rfl) ?hq54 (monoL (monoC (kEq _) (monoC (kEq _) (monoC (kEq _) (monoC (kIs _) (monoC (kEq _) (monoC (kRE _ _) (monoC (kIs _) monoN)))))))) ?ha54 ?st54 ?tl54
      case hq54 =>
        intro c a d v w h
        first | (simp only [Exit.then] at h ⊢; exact h) | (simp only [Exit.inBlock, Exit.then] at h ⊢; exact h) | exact h
      case ha54 =>
        intro vals
        simp only [putsTo, dstOf, if_true, Act.put, List.setIfInBounds_toArray, List.set_cons_zero, List.set_cons_succ, List.getElem?_toArray, List.getElem?_cons_zero, List.getElem?_cons_succ, Option.bind_some]
        exact rfl
      case st54 =>
        simp only [List.take_succ_cons, List.take_zero]
        refine stepsOK_cons rfl rfl ?_ (stepsOK_cons rfl rfl ?_ (stepsOK_cons rfl rfl ?_ (stepsOK_cons rfl rfl ?_ (stepsOK_cons rfl rfl ?_ (stepsOK_cons rfl rfl ?_ (stepsOK_pure rfl ?_ (stepsOK_nil)))))))
        · intro vals w1 hb hd
          refine stepOK_value (v := (.string (pA s))) (w' := w1) (by go_simp) (leaves_mk (Below.refl _ _) rfl (fun h => by cases h))
        · intro vals w1 hb hd
          refine stepOK_value (v := (.string (pB s))) (w' := w1) (by go_simp) (leaves_mk (Below.refl _ _) rfl (fun h => by cases h))
        · intro vals w1 hb hd
          have d0 : KEq (.string (pA s)) (vals 0) w1 := hd 0 (by kernel_rfl)
          have d1 : KEq (.string (pB s)) (vals 1) w1 := hd 1 (by kernel_rfl)
          rw [show vals 0 = _ from d0]
          rw [show vals 1 = _ from d1]
          refine stepOK_value (v := (.string (((pA s) : ByteArray) ++ ((pB s) : ByteArray)))) (w' := w1) (by first | (go_simp; done) | (go_simp; rw [if_neg (by omega)]) | (go_simp; rw [if_neg (by simp; omega)]) | (go_simp; omega) | (go_simp; split <;> first | rfl | (exfalso; omega))) (leaves_mk (Below.refl _ _) rfl (fun h => by cases h))
        · intro vals w1 hb hd
          have d2 : KEq (.string (((pA s) : ByteArray) ++ ((pB s) : ByteArray))) (vals 2) w1 := hd 2 (by kernel_rfl)
          have z2 : vals 2 = _ := d2
          have hs := whole_any (pA s ++ pB s) w1 (by first | omega | (rw [ByteArray.size_append]; omega)) (pJ_digits HNUM.out)
          rw [bs_append, bs_pA, bs_pB, HQJ.out] at hs
          have HS := Lib.hid hs; clear hs
          rw [z2]; clear z2
          clear d2 hd
          refine stepOK_call (by go_simp; first | done | exact ⟨⟨rfl, rfl⟩, rfl⟩) ?_
          (with_reducible refine HS.out.mono ?_); rintro e w2 ⟨v, rfl, hb2, hn⟩
          exact ⟨v, rfl, leaves_mk hb2 hn (fun h => by cases h)⟩
        · intro vals w1 hb hd
          obtain ⟨e0, e1, e2⟩ := row3 (heap_below BXA.out hb)
          refine stepOK_value (v := .agg #[.bool s1, .slice o1 n1 c1, .slice a1 p1 d1]) (w' := w1) (by go_simp) (leaves_mk (Below.refl _ _) rfl (fun h => by cases h))
        · intro vals w1 hb hd
          have d3 : KIs (QJ) (vals 3) w1 := hd 3 (by kernel_rfl)
          have R3 : Hid (IsR w1 (vals 3) (QJ)) := Lib.hid d3
          have d4 : KEq (.agg #[.bool s1, .slice o1 n1 c1, .slice a1 p1 d1]) (vals 4) w1 := hd 4 (by kernel_rfl)
          have z4 : vals 4 = _ := d4
          have hs := divq_any _ (QJ) _ (T) w1 (R3.out.is (by omega)) ((HIS.out.below hb).is (by omega))
          rw [HDT.out, errV_zero] at hs
          have HS := Lib.hid hs; clear hs
          rw [z4]; clear z4
          clear d3 d4 hd
          refine stepOK_call (by go_simp; first | done | exact ⟨⟨rfl, rfl⟩, rfl⟩) ?_
          (with_reducible refine HS.out.mono ?_); rintro e w2 ⟨v, rfl, hb2, hn⟩
          exact ⟨_, rfl, leaves_mk hb2 ⟨v, rfl, hn⟩ (fun h => by cases h)⟩
        · intro vals w1 hb hd
          have d5 : KRE ((QJ) / (T)) (.nilIface) (vals 5) w1 := hd 5 (by kernel_rfl)
          obtain ⟨b, eb, hq⟩ := d5
          rw [eb]
          refine stepPure_value (v := b) (fun w => by go_simp) (leaves_mk (Below.refl _ _) hq (fun h => by cases h))
      case tl54 =>
        intro vals w68 hb68 hf hdis
        simp only [List.drop_succ_cons, List.drop_zero]
        obtain ⟨u54_5, hu5⟩ : ∃ u, u = vals 5 := ⟨_, rfl⟩
        have hn54_5 : KRE ((QJ) / (T)) (.nilIface) (vals 5) w68 := hf 5 (by decide)
        obtain ⟨b54_5, eb5, hn54_5⟩ := hn54_5
        rw [← hu5] at eb5 ⊢; clear hu5; subst eb5
        obtain ⟨u54_6, hu6⟩ : ∃ u, u = vals 6 := ⟨_, rfl⟩
        have hn54_6 : IsR w68 (vals 6) ((QJ) / (T)) := hf 6 (by decide)
        rw [← hu6] at hn54_6 ⊢; clear hu6
        clear hf hdis
        have HB68 := Lib.hid (HBR.out.step hb68)
        have HIS := Lib.hid (HIS.out.below hb68)
        have BXR := Lib.hid (heap_below BXR.out hb68)
        have BXA := Lib.hid (heap_below BXA.out hb68)
        clear hb68
        have N54_5 := Lib.hid hn54_5; clear hn54_5
        obtain ⟨s55, o55, n55, c55, a55, m55, d55, rfl⟩ := N54_5.out.shape
        have N54_6 := Lib.hid hn54_6; clear hn54_6
        obtain ⟨s56, o56, n56, c56, a56, m56, d56, rfl⟩ := N54_6.out.shape
        skip
        go_wp2_with (with_reducible refine wpList_pauseS ?_)
        refine wpList_stL g1 0 [.bool s56, .slice o56 n56 c56, .slice a56 m56 d56] BXR.out rfl rfl (Nat.le_of_ble_eq_true rfl) (by kernel_rfl) rfl ?_
        intro w69 hp69
        have HIS := Lib.hid (putL_I hp69 HIS.out BXR.out noW3)
        have N54_5 := Lib.hid (putL_I hp69 N54_5.out BXR.out noW3)
        have N54_6 := Lib.hid (putL_I hp69 N54_6.out BXR.out noW3)
        have BXA := Lib.hid (putLx hp69 BXA.out (by omega))
        have nx69 : w69.heap[g1]? = some (.cells #[.bool s56, .slice o56 n56 c56, .slice a56 m56 d56] 32) := by rw [hp69]; exact putL_r BXR.out
        have BXR := Lib.hid nx69; clear nx69
        have HB69 := Lib.hid (putLb hp69 HB68.out (by omega))
        clear hp69
        obtain ⟨x57_0, x57_1, x57_2⟩ := row3 BXR.out
        go_wp2_with (with_reducible first | refine pauseCall ?_ | refine pauseLoop ?_ | refine pauseDraw ?_ | refine pauseBody ?_ | refine pauseRounds ?_)
        clear x57_0 x57_1 x57_2
        refine Pause.mk ?_
        refine ret_rat2 rfl g1 _ _ _ (by first | rfl | exact rfl) BXR.out rfl ?_
        exact ⟨_, rfl, HB69.out, N54_6.out⟩
theorem value_any (s : ByteArray) (w : World) (hs : s.size ≤ 4611686018427387904) : Calls Try.prog 7 #[.string s] w (RetRE w (tvQ (bs s)) (errV (tvC (bs s)))) := by
  have hlen := bs_length s
  by_cases h : 100 < s.size
  · obtain ⟨e1, e2⟩ := tvC_long (l := bs s) (by rw [hlen]; exact h)
    rw [e1, e2]; exact value_long s w h
  have h' : ¬ 100 < (bs s).length := by rw [hlen]; exact h
  by_cases hn : isNum (bs s)
  · by_cases h1 : nE (bs s) < s.size ∧ gd (bs s) (nE (bs s)) = 47
    · obtain ⟨e1, e2⟩ := tvC_slash h' hn (by rw [hlen]; exact h1.1) h1.2
      rw [e1, e2]; exact value_slash s w (by omega) hn h1.1 h1.2
    · obtain ⟨e1, e2⟩ := tvC_plain h' hn (by rw [hlen]; exact h1)
      have k := value_dec s w (by omega) hn h1
      rw [show (pB s).size = (nB (bs s)).length from by rw [← bs_length, bs_pB], dec_value] at k
      rw [e1, e2]; exact k
  · obtain ⟨e1, e2⟩ := tvC_bad h' hn
    rw [e1, e2]
    by_cases h0 : s.size = 0
    · exact value_empty s w h0
    by_cases hd : isDigit (gd (bs s) 0) = true
    · refine value_end s w (by omega) (by omega) hd (fun e => hn ⟨?_, hd, by rw [hlen]; exact e⟩)
      intro k; rw [k] at hlen; simp at hlen; omega
    · exact value_first s w (by omega) (by omega) (by simpa using hd)
end Go.Proofs.Ytaefimegiobkmaa
/-
  the reference's Value: the value of a number.
  Conditions: each theorem's own.
-/
namespace Go.Proofs.Ytaefimegiobkmaa
open Go.RowKit Go.ChangeShapes Go.WideShapes

/-- the iterator at block g moves to place p -/
def setIt (w : World) (g : Nat) (s : ByteArray) (p : Nat) : World := { w with heap := w.heap.setIfInBounds g (.stringIter s p) }
section
variable {P : Program} {w w0 : World} {g : Nat} {s : ByteArray} {pos p : Nat}
theorem next_more (ty : TypeId) (hg : w.heap[g]? = some (.stringIter s pos)) (h : pos < s.size) (ha : (s[pos]'h).toNat < 128) :
    (Instr.next (.pointer (some ⟨g, 0, none⟩)) true ty).run P w = .ok (.tuple #[.bool true, .int .i64 pos, .int .i32 (s[pos]'h).toNat]) (setIt w g s (pos + 1)) := by
  simp only [Instr.next, getObj, setObj, Sem.run_bind, Sem.run, hg, Result.andThen, h, if_true, decode_ascii s pos h ha]
  simp [goInt, setIt]
theorem next_end (ty : TypeId) (hg : w.heap[g]? = some (.stringIter s pos)) (h : ¬ pos < s.size) :
    (Instr.next (.pointer (some ⟨g, 0, none⟩)) true ty).run P w = .ok (.tuple #[.bool false]) w := by
  simp [Instr.next, getObj, Sem.run, hg, h]
theorem it_ne {b : Nat} (h : b ≠ g) : (setIt w g s p).heap[b]? = w.heap[b]? := by
  unfold setIt; simp [Ne.symm h]
theorem it_self (hg : w.heap[g]? = some (.stringIter s pos)) : (setIt w g s p).heap[g]? = some (.stringIter s p) := by
  have hl : g < w.heap.size := by
    rcases Nat.lt_or_ge g w.heap.size with k | k
    · exact k
    · rw [Array.getElem?_eq_none k] at hg; cases hg
  unfold setIt; simp [hl]
theorem it_box {b : Nat} {cs : Array Value} {T : TypeId} (hg : w.heap[g]? = some (.stringIter s pos)) (hb : w.heap[b]? = some (.cells cs T)) : (setIt w g s p).heap[b]? = some (.cells cs T) := by
  rw [it_ne (by intro e; subst e; rw [hg] at hb; cases hb)]; exact hb
theorem it_num {v : Value} {k : List Nat} (hg : w.heap[g]? = some (.stringIter s pos)) (hn : Num w v k) : Num (setIt w g s p) v k := by
  obtain ⟨ao, c, rfl, h1, h2, h3, h4, h5⟩ := hn
  refine ⟨ao, c, rfl, h1, h2, h3, ?_, h5⟩
  intro b' o s' hs
  obtain ⟨k1, k2⟩ := h4 b' o s' hs
  have hsz : (setIt w g s p).heap.size = w.heap.size := by unfold setIt; simp
  refine ⟨fun h0 => by rw [hsz]; exact k1 h0, fun j hj => ?_⟩
  by_cases he : b' = g
  · subst he
    have := k2 j hj
    unfold World.cell? at this
    simp only [hg] at this
    cases this
  · rw [← k2 j hj]
    unfold World.cell?
    rw [it_ne he]
theorem it_I {v : Value} {q : Rat} (hg : w.heap[g]? = some (.stringIter s pos)) (h : IsR w v q) : IsR (setIt w g s p) v q := by
  obtain ⟨va, vb, rfl, h1, h2⟩ := h
  exact ⟨va, vb, rfl, it_num hg h1, it_num hg h2⟩
end
theorem byte_at (s : ByteArray) (k : Nat) (h : k < s.size) : (s[k]'h).toNat = gd (bs s) k := by
  rw [← gd_data s (by rw [data_len]; exact h)]
  rfl
theorem it_below {w w0 : World} {g B : Nat} {s : ByteArray} {p : Nat} (h : Below B w0 w) (hg : B ≤ g) : Below B w0 (setIt w g s p) := by
  exact h.trans ⟨rfl, rfl, rfl, by simp [setIt], fun k hk => it_ne (by omega)⟩
set_option maxRecDepth 100000 in
set_option maxHeartbeats 6400000 in
theorem rvalue_whole (s : ByteArray) (w : World)  (h : s.size ≤ 100) (hn : isNum (bs s)) (h1 : nE (bs s) = s.size) :
    Calls Try.prog 10 #[.string s] w (RetRE w (numQ (nA (bs s))) (.int .i64 0)) := by
  have HBW := Lib.hid (Below.refl w.heap.size w)
  have kz0 : rl 0 ≤ 1 := by rw [rl_zero]; exact Nat.le_refl _
  have hs1 : 0 < s.size := by
    have h0 := hn.1; have := bs_length s
    rcases Nat.eq_zero_or_pos s.size with k | k
    · rw [k] at this; exact absurd (List.length_eq_zero_iff.1 this) h0
    · exact k
  have f1 : decide ((100 : Int) < (s.size : Int)) = false := decide_eq_false (by omega)
  have f2 : decide ((s.size : Int) < 1) = false := decide_eq_false (by omega)
  have hix := run_index_gb (P := Try.prog) s 9 Try.underlying9 0 hs1
  have hb256 := bs_lt s 0
  have HX := hn.2.1
  obtain ⟨b, hb⟩ : ∃ b, b = gd (bs s) 0 := ⟨_, rfl⟩
  rw [← hb] at hix hb256 HX
  rw [show ((0 : Nat) : Int) = 0 from rfl] at hix
  have HDB := Lib.hid HX; clear HX hb
  obtain ⟨E, hE⟩ : ∃ E, E = numEnd (bs s) 0 := ⟨_, rfl⟩
  have hne : E = s.size := by rw [hE, hn.2.2, bs_length]
  have f3 : ((E : Int) != (s.size : Int)) = false := by rw [hne]; simp
  have HE := Lib.hid hE.symm; clear hE hne
  have zA := pA_size s
  have zB := pB_size s
  have qA := rl_nA s h
  have qB := rl_nB s h
  have qJ := rl_nJ s h
  obtain ⟨QA, hQA⟩ : ∃ q, q = numQ (nA (bs s)) := ⟨_, rfl⟩
  obtain ⟨QB, hQB⟩ : ∃ q, q = numQ (nB (bs s)) := ⟨_, rfl⟩
  obtain ⟨QJ, hQJ⟩ : ∃ q, q = numQ (nA (bs s) ++ nB (bs s)) := ⟨_, rfl⟩
  rw [← hQA] at qA; rw [← hQB] at qB; rw [← hQJ] at qJ
  obtain ⟨N, hN⟩ : ∃ N, N = nE (bs s) := ⟨_, rfl⟩
  have hNle : N ≤ s.size := by rw [hN, ← bs_length]; exact nE_le _
  have hslA : ∀ wx : World, (Instr.slice 9 (.string s) none (some (.int .i64 (N : Int))) none).run Try.prog wx = .ok (.string (pA s)) wx := fun wx => by
    rw [run_slice_string_to_if (P := Try.prog) (w := wx) 9 s .i64 N Try.underlying9, if_pos (by omega)]
    rw [show s.extract 0 (N : Int).toNat = pA s from bs_inj (by rw [bs_extract, bs_pA]; unfold nA; rw [← hN]; simp)]
  have f4 : ((N : Int) == (s.size : Int)) = true := by rw [hN, h1]; simp
  clear h1
  have HN : Hid (run isDigit (bs s) 0 = N) := Lib.hid (by rw [hN]; rfl)
  clear hN
  rw [← hQA]
  have HQA := Lib.hid hQA.symm; have HQB := Lib.hid hQB.symm; have HQJ := Lib.hid hQJ.symm; clear hQA hQB hQJ
  have HNUM := Lib.hid hn; clear hn
  obtain ⟨w1, hw1⟩ : ∃ w1, w1 = w.alloc (.cells #[.bool false, .slice none 0 0, .slice none 0 0] 32) := ⟨_, rfl⟩
  have hb1 : Below w.heap.size w w1 := by rw [hw1]; exact (Below.refl _ _).alloc (Nat.le_refl _) _
  have hx1 := heap_alloc_new w (.cells #[.bool false, .slice none 0 0, .slice none 0 0] 32)
  obtain ⟨g1, hg1⟩ : ∃ g, g = w.heap.size := ⟨_, rfl⟩
  rw [← hw1, ← hg1] at hx1
  have lw1 : w.heap.size ≤ g1 := by rw [hg1]; exact HBW.out.size
  have HW1 := Lib.hid hw1; have HG1 := Lib.hid hg1; clear hw1 hg1
  have HB1 := Lib.hid (HBW.out.step hb1)
  have BX1 := Lib.hid hx1; clear hb1 hx1
  go_enter Try.func10, Try.ntmps10
  have hs := rdigit_any b w1 hb256
  rw [HDB.out] at hs
  have HS := Lib.hid hs; clear hs
  go_wp2_with (with_reducible first | refine pauseCall ?_ | refine pauseLoop ?_ | refine pauseDraw ?_ | refine pauseBody ?_ | refine pauseRounds ?_)
  try rw [← HW1.out]
  try rw [← HG1.out]
  refine Pause.mk ?_
  (with_reducible refine HS.out.mono ?_); rintro e wx ⟨rfl, rfl⟩
  clear HS
  have hs := rnumber_any s 0 w1 (by omega) (by omega)
  rw [HE.out, show ((0 : Nat) : Int) = 0 from rfl] at hs
  have HS := Lib.hid hs; clear hs
  go_wp2_with (with_reducible first | refine pauseCall ?_ | refine pauseLoop ?_ | refine pauseDraw ?_ | refine pauseBody ?_ | refine pauseRounds ?_)
  refine Pause.mk ?_
  (with_reducible refine HS.out.mono ?_); rintro e wx ⟨rfl, rfl⟩
  clear HS
  have hs := rdigits_any s 0 w1 (by omega) (by omega)
  rw [HN.out, show ((0 : Nat) : Int) = 0 from rfl] at hs
  have HS := Lib.hid hs; clear hs
  go_wp2_with (with_reducible first | refine pauseCall ?_ | refine pauseLoop ?_ | refine pauseDraw ?_ | refine pauseBody ?_ | refine pauseRounds ?_)
  refine Pause.mk ?_
  (with_reducible refine HS.out.mono ?_); rintro e wx ⟨rfl, rfl⟩
  clear HS
  have hs := rnatural_any (pA s) w1 (by first | omega | (rw [ByteArray.size_append]; omega)) (pA_digits HNUM.out)
  rw [bs_pA, HQA.out] at hs
  have HS := Lib.hid hs; clear hs
  go_wp2_with (with_reducible first | refine pauseCall ?_ | refine pauseLoop ?_ | refine pauseDraw ?_ | refine pauseBody ?_ | refine pauseRounds ?_)
  refine Pause.mk ?_
  (with_reducible refine HS.out.mono ?_); rintro e w5 ⟨v5, rfl, hb5, hn5⟩
  clear HS
  have HB5 := Lib.hid (HB1.out.step hb5)
  have BX1 := Lib.hid (heap_below BX1.out hb5)
  have N5 := Lib.hid hn5; clear hn5
  obtain ⟨s1, o1, n1, c1, a1, m1, d1, rfl⟩ := N5.out.shape
  clear hb5
  obtain ⟨w6, hw6⟩ : ∃ w6, w6 = w5.alloc (.cells #[.bool false, .slice none 0 0, .slice none 0 0] 32) := ⟨_, rfl⟩
  have hb6 : Below w5.heap.size w5 w6 := by rw [hw6]; exact (Below.refl _ _).alloc (Nat.le_refl _) _
  have hx6 := heap_alloc_new w5 (.cells #[.bool false, .slice none 0 0, .slice none 0 0] 32)
  obtain ⟨g6, hg6⟩ : ∃ g, g = w5.heap.size := ⟨_, rfl⟩
  rw [← hw6, ← hg6] at hx6
  have lw6 : w.heap.size ≤ g6 := by rw [hg6]; exact HB5.out.size
  have ltBX16 : g1 < g6 := by rw [hg6]; exact below_lt BX1.out
  have HW6 := Lib.hid hw6; have HG6 := Lib.hid hg6; clear hw6 hg6
  have HB6 := Lib.hid (HB5.out.step hb6)
  have N5 := Lib.hid (N5.out.below hb6)
  have BX1 := Lib.hid (heap_below BX1.out hb6)
  have BX6 := Lib.hid hx6; clear hb6 hx6
  go_wp2_with (with_reducible refine wpList_pauseS ?_)
  try rw [← HW6.out]
  try rw [← HG6.out]
  refine wpList_stL g6 0 [.bool s1, .slice o1 n1 c1, .slice a1 m1 d1] BX6.out rfl rfl (Nat.le_of_ble_eq_true rfl) (by kernel_rfl) rfl ?_
  intro w7 hp7
  have N5 := Lib.hid (putL_I hp7 N5.out BX6.out noW3)
  have BX1 := Lib.hid (putLx hp7 BX1.out (by omega))
  have nx7 : w7.heap[g6]? = some (.cells #[.bool s1, .slice o1 n1 c1, .slice a1 m1 d1] 32) := by rw [hp7]; exact putL_r BX6.out
  have BX6 := Lib.hid nx7; clear nx7
  have HB7 := Lib.hid (putLb hp7 HB6.out (by omega))
  clear hp7
  obtain ⟨x2_0, x2_1, x2_2⟩ := row3 BX6.out
  go_wp2_with (with_reducible refine wpList_pauseS ?_)
  clear x2_0 x2_1 x2_2
  refine wpList_stL g1 0 [.bool s1, .slice o1 n1 c1, .slice a1 m1 d1] BX1.out rfl rfl (Nat.le_of_ble_eq_true rfl) (by kernel_rfl) rfl ?_
  intro w8 hp8
  have N5 := Lib.hid (putL_I hp8 N5.out BX1.out noW3)
  have BX6 := Lib.hid (putLx hp8 BX6.out (by omega))
  have nx8 : w8.heap[g1]? = some (.cells #[.bool s1, .slice o1 n1 c1, .slice a1 m1 d1] 32) := by rw [hp8]; exact putL_r BX1.out
  have BX1 := Lib.hid nx8; clear nx8
  have HB8 := Lib.hid (putLb hp8 HB7.out (by omega))
  clear hp8
  obtain ⟨x3_0, x3_1, x3_2⟩ := row3 BX1.out
  go_wp2_with (with_reducible first | refine pauseCall ?_ | refine pauseLoop ?_ | refine pauseDraw ?_ | refine pauseBody ?_ | refine pauseRounds ?_)
  clear x3_0 x3_1 x3_2
  refine Pause.mk ?_
  refine ret_rat2 rfl g1 _ _ _ (by first | rfl | exact rfl) BX1.out rfl ?_
  exact ⟨_, rfl, HB8.out, N5.out⟩
set_option maxRecDepth 100000 in
set_option maxHeartbeats 6400000 in
theorem rvalue_slash (s : ByteArray) (w : World)  (h : s.size ≤ 100) (hn : isNum (bs s)) (h1 : nE (bs s) < s.size) (h2 : gd (bs s) (nE (bs s)) = 47) :
    Calls Try.prog 10 #[.string s] w (RetRE w (numQ (nA (bs s)) / numQ (nB (bs s))) (.int .i64 (dc (numQ (nB (bs s))) : Nat))) := by
  have HBW := Lib.hid (Below.refl w.heap.size w)
  have kz0 : rl 0 ≤ 1 := by rw [rl_zero]; exact Nat.le_refl _
  obtain ⟨G, hG⟩ : ∃ G, G = dc (numQ (nB (bs s))) := ⟨_, rfl⟩
  rw [← hG]
  have hs1 : 0 < s.size := by
    have h0 := hn.1; have := bs_length s
    rcases Nat.eq_zero_or_pos s.size with k | k
    · rw [k] at this; exact absurd (List.length_eq_zero_iff.1 this) h0
    · exact k
  have f1 : decide ((100 : Int) < (s.size : Int)) = false := decide_eq_false (by omega)
  have f2 : decide ((s.size : Int) < 1) = false := decide_eq_false (by omega)
  have hix := run_index_gb (P := Try.prog) s 9 Try.underlying9 0 hs1
  have hb256 := bs_lt s 0
  have HX := hn.2.1
  obtain ⟨b, hb⟩ : ∃ b, b = gd (bs s) 0 := ⟨_, rfl⟩
  rw [← hb] at hix hb256 HX
  rw [show ((0 : Nat) : Int) = 0 from rfl] at hix
  have HDB := Lib.hid HX; clear HX hb
  obtain ⟨E, hE⟩ : ∃ E, E = numEnd (bs s) 0 := ⟨_, rfl⟩
  have hne : E = s.size := by rw [hE, hn.2.2, bs_length]
  have f3 : ((E : Int) != (s.size : Int)) = false := by rw [hne]; simp
  have HE := Lib.hid hE.symm; clear hE hne
  have zA := pA_size s
  have zB := pB_size s
  have qA := rl_nA s h
  have qB := rl_nB s h
  have qJ := rl_nJ s h
  obtain ⟨QA, hQA⟩ : ∃ q, q = numQ (nA (bs s)) := ⟨_, rfl⟩
  obtain ⟨QB, hQB⟩ : ∃ q, q = numQ (nB (bs s)) := ⟨_, rfl⟩
  obtain ⟨QJ, hQJ⟩ : ∃ q, q = numQ (nA (bs s) ++ nB (bs s)) := ⟨_, rfl⟩
  rw [← hQA] at qA; rw [← hQB] at qB; rw [← hQJ] at qJ
  obtain ⟨N, hN⟩ : ∃ N, N = nE (bs s) := ⟨_, rfl⟩
  have hNle : N ≤ s.size := by rw [hN, ← bs_length]; exact nE_le _
  have hslA : ∀ wx : World, (Instr.slice 9 (.string s) none (some (.int .i64 (N : Int))) none).run Try.prog wx = .ok (.string (pA s)) wx := fun wx => by
    rw [run_slice_string_to_if (P := Try.prog) (w := wx) 9 s .i64 N Try.underlying9, if_pos (by omega)]
    rw [show s.extract 0 (N : Int).toNat = pA s from bs_inj (by rw [bs_extract, bs_pA]; unfold nA; rw [← hN]; simp)]
  rw [← hN] at h1 h2
  have hslB : ∀ wx : World, (Instr.slice 9 (.string s) (some (.int .i64 ((N : Int) + 1))) none none).run Try.prog wx = .ok (.string (pB s)) wx := fun wx => by
    rw [run_slice_string_from_if (P := Try.prog) (w := wx) 9 s .i64 ((N : Int) + 1) Try.underlying9, if_pos (by omega)]
    rw [show s.extract ((N : Int) + 1).toNat s.size = pB s from bs_inj (by rw [bs_extract, bs_pB]; unfold nB; rw [← hN, show ((N : Int) + 1).toNat = N + 1 from by omega, List.take_of_length_le (by rw [List.length_drop, bs_length]; omega)])]
  have hixN := run_index_gb (P := Try.prog) s 9 Try.underlying9 N h1
  rw [h2, show (((47 : Nat)) : Int) = 47 from rfl] at hixN
  have f4 : ((N : Int) == (s.size : Int)) = false := beq_eq_false_iff_ne.2 (by omega)
  clear h2
  have HN : Hid (run isDigit (bs s) 0 = N) := Lib.hid (by rw [hN]; rfl)
  clear hN
  rw [← hQB] at hG; rw [← hQA, ← hQB]
  have HQA := Lib.hid hQA.symm; have HQB := Lib.hid hQB.symm; have HQJ := Lib.hid hQJ.symm; clear hQA hQB hQJ
  have HNUM := Lib.hid hn; clear hn
  have HG := Lib.hid hG.symm; clear hG
  obtain ⟨w1, hw1⟩ : ∃ w1, w1 = w.alloc (.cells #[.bool false, .slice none 0 0, .slice none 0 0] 32) := ⟨_, rfl⟩
  have hb1 : Below w.heap.size w w1 := by rw [hw1]; exact (Below.refl _ _).alloc (Nat.le_refl _) _
  have hx1 := heap_alloc_new w (.cells #[.bool false, .slice none 0 0, .slice none 0 0] 32)
  obtain ⟨g1, hg1⟩ : ∃ g, g = w.heap.size := ⟨_, rfl⟩
  rw [← hw1, ← hg1] at hx1
  have lw1 : w.heap.size ≤ g1 := by rw [hg1]; exact HBW.out.size
  have HW1 := Lib.hid hw1; have HG1 := Lib.hid hg1; clear hw1 hg1
  have HB1 := Lib.hid (HBW.out.step hb1)
  have BX1 := Lib.hid hx1; clear hb1 hx1
  go_enter Try.func10, Try.ntmps10
  have hs := rdigit_any b w1 hb256
  rw [HDB.out] at hs
  have HS := Lib.hid hs; clear hs
  go_wp2_with (with_reducible first | refine pauseCall ?_ | refine pauseLoop ?_ | refine pauseDraw ?_ | refine pauseBody ?_ | refine pauseRounds ?_)
  try rw [← HW1.out]
  try rw [← HG1.out]
  refine Pause.mk ?_
  (with_reducible refine HS.out.mono ?_); rintro e wx ⟨rfl, rfl⟩
  clear HS
  have hs := rnumber_any s 0 w1 (by omega) (by omega)
  rw [HE.out, show ((0 : Nat) : Int) = 0 from rfl] at hs
  have HS := Lib.hid hs; clear hs
  go_wp2_with (with_reducible first | refine pauseCall ?_ | refine pauseLoop ?_ | refine pauseDraw ?_ | refine pauseBody ?_ | refine pauseRounds ?_)
  refine Pause.mk ?_
  (with_reducible refine HS.out.mono ?_); rintro e wx ⟨rfl, rfl⟩
  clear HS
  have hs := rdigits_any s 0 w1 (by omega) (by omega)
  rw [HN.out, show ((0 : Nat) : Int) = 0 from rfl] at hs
  have HS := Lib.hid hs; clear hs
  go_wp2_with (with_reducible first | refine pauseCall ?_ | refine pauseLoop ?_ | refine pauseDraw ?_ | refine pauseBody ?_ | refine pauseRounds ?_)
  refine Pause.mk ?_
  (with_reducible refine HS.out.mono ?_); rintro e wx ⟨rfl, rfl⟩
  clear HS
  have hs := rnatural_any (pA s) w1 (by first | omega | (rw [ByteArray.size_append]; omega)) (pA_digits HNUM.out)
  rw [bs_pA, HQA.out] at hs
  have HS := Lib.hid hs; clear hs
  go_wp2_with (with_reducible first | refine pauseCall ?_ | refine pauseLoop ?_ | refine pauseDraw ?_ | refine pauseBody ?_ | refine pauseRounds ?_)
  refine Pause.mk ?_
  (with_reducible refine HS.out.mono ?_); rintro e w5 ⟨v5, rfl, hb5, hn5⟩
  clear HS
  have HB5 := Lib.hid (HB1.out.step hb5)
  have BX1 := Lib.hid (heap_below BX1.out hb5)
  have N5 := Lib.hid hn5; clear hn5
  obtain ⟨s1, o1, n1, c1, a1, m1, d1, rfl⟩ := N5.out.shape
  clear hb5
  obtain ⟨w6, hw6⟩ : ∃ w6, w6 = w5.alloc (.cells #[.bool s1, .slice o1 n1 c1, .slice a1 m1 d1] 32) := ⟨_, rfl⟩
  have hb6 : Below w5.heap.size w5 w6 := by rw [hw6]; exact (Below.refl _ _).alloc (Nat.le_refl _) _
  have hx6 := heap_alloc_new w5 (.cells #[.bool s1, .slice o1 n1 c1, .slice a1 m1 d1] 32)
  obtain ⟨g6, hg6⟩ : ∃ g, g = w5.heap.size := ⟨_, rfl⟩
  rw [← hw6, ← hg6] at hx6
  have lw6 : w.heap.size ≤ g6 := by rw [hg6]; exact HB5.out.size
  have ltBX16 : g1 < g6 := by rw [hg6]; exact below_lt BX1.out
  have HW6 := Lib.hid hw6; have HG6 := Lib.hid hg6; clear hw6 hg6
  have HB6 := Lib.hid (HB5.out.step hb6)
  have N5 := Lib.hid (N5.out.below hb6)
  have BX1 := Lib.hid (heap_below BX1.out hb6)
  have BX6 := Lib.hid hx6; clear hb6 hx6
  have hs := rnatural_any (pB s) w6 (by first | omega | (rw [ByteArray.size_append]; omega)) (pB_digits HNUM.out)
  rw [bs_pB, HQB.out] at hs
  have HS := Lib.hid hs; clear hs
  go_wp2_with (with_reducible first | refine pauseCall ?_ | refine pauseLoop ?_ | refine pauseDraw ?_ | refine pauseBody ?_ | refine pauseRounds ?_)
  try rw [← HW6.out]
  try rw [← HG6.out]
  refine Pause.mk ?_
  (with_reducible refine HS.out.mono ?_); rintro e w7 ⟨v7, rfl, hb7, hn7⟩
  clear HS
  have HB7 := Lib.hid (HB6.out.step hb7)
  have N5 := Lib.hid (N5.out.below hb7)
  have BX1 := Lib.hid (heap_below BX1.out hb7)
  have BX6 := Lib.hid (heap_below BX6.out hb7)
  have N7 := Lib.hid hn7; clear hn7
  obtain ⟨s2, o2, n2, c2, a2, m2, d2, rfl⟩ := N7.out.shape
  clear hb7
  obtain ⟨w8, hw8⟩ : ∃ w8, w8 = w7.alloc (.cells #[.bool s2, .slice o2 n2 c2, .slice a2 m2 d2] 32) := ⟨_, rfl⟩
  have hb8 : Below w7.heap.size w7 w8 := by rw [hw8]; exact (Below.refl _ _).alloc (Nat.le_refl _) _
  have hx8 := heap_alloc_new w7 (.cells #[.bool s2, .slice o2 n2 c2, .slice a2 m2 d2] 32)
  obtain ⟨g8, hg8⟩ : ∃ g, g = w7.heap.size := ⟨_, rfl⟩
  rw [← hw8, ← hg8] at hx8
  have lw8 : w.heap.size ≤ g8 := by rw [hg8]; exact HB7.out.size
  have ltBX18 : g1 < g8 := by rw [hg8]; exact below_lt BX1.out
  have ltBX68 : g6 < g8 := by rw [hg8]; exact below_lt BX6.out
  have HW8 := Lib.hid hw8; have HG8 := Lib.hid hg8; clear hw8 hg8
  have HB8 := Lib.hid (HB7.out.step hb8)
  have N5 := Lib.hid (N5.out.below hb8)
  have N7 := Lib.hid (N7.out.below hb8)
  have BX1 := Lib.hid (heap_below BX1.out hb8)
  have BX6 := Lib.hid (heap_below BX6.out hb8)
  have BX8 := Lib.hid hx8; clear hb8 hx8
  obtain ⟨x3_0, x3_1, x3_2⟩ := row3 BX6.out
  obtain ⟨x4_0, x4_1, x4_2⟩ := row3 BX8.out
  have k5 := rl_div' (QA) (QB)
  have hs := rdivq_any _ (QA) _ (QB) w8 (N5.out.is (by omega)) (N7.out.is (by omega))
  rw [HG.out] at hs
  have HS := Lib.hid hs; clear hs
  try rw [HW8.out] at x3_0
  try rw [HG8.out] at x3_0
  try rw [HW8.out] at x3_1
  try rw [HG8.out] at x3_1
  try rw [HW8.out] at x3_2
  try rw [HG8.out] at x3_2
  try rw [HW8.out] at x4_0
  try rw [HG8.out] at x4_0
  try rw [HW8.out] at x4_1
  try rw [HG8.out] at x4_1
  try rw [HW8.out] at x4_2
  try rw [HG8.out] at x4_2
  go_wp2_with (with_reducible first | refine pauseCall ?_ | refine pauseLoop ?_ | refine pauseDraw ?_ | refine pauseBody ?_ | refine pauseRounds ?_)
  try rw [← HW8.out]
  try rw [← HG8.out]
  clear x3_0 x3_1 x3_2 x4_0 x4_1 x4_2
  refine Pause.mk ?_
  (with_reducible refine HS.out.mono ?_); rintro e w9 ⟨v9, rfl, hb9, hn9⟩
  clear HS
  have HB9 := Lib.hid (HB8.out.step hb9)
  have N5 := Lib.hid (N5.out.below hb9)
  have N7 := Lib.hid (N7.out.below hb9)
  have BX1 := Lib.hid (heap_below BX1.out hb9)
  have BX6 := Lib.hid (heap_below BX6.out hb9)
  have BX8 := Lib.hid (heap_below BX8.out hb9)
  have N9 := Lib.hid hn9; clear hn9
  obtain ⟨s6, o6, n6, c6, a6, m6, d6, rfl⟩ := N9.out.shape
  clear hb9
  go_wp2_with (with_reducible refine wpList_pauseS ?_)
  refine wpList_stL g1 0 [.bool s6, .slice o6 n6 c6, .slice a6 m6 d6] BX1.out rfl rfl (Nat.le_of_ble_eq_true rfl) (by kernel_rfl) rfl ?_
  intro w10 hp10
  have N5 := Lib.hid (putL_I hp10 N5.out BX1.out noW3)
  have N7 := Lib.hid (putL_I hp10 N7.out BX1.out noW3)
  have N9 := Lib.hid (putL_I hp10 N9.out BX1.out noW3)
  have BX6 := Lib.hid (putLx hp10 BX6.out (by omega))
  have BX8 := Lib.hid (putLx hp10 BX8.out (by omega))
  have nx10 : w10.heap[g1]? = some (.cells #[.bool s6, .slice o6 n6 c6, .slice a6 m6 d6] 32) := by rw [hp10]; exact putL_r BX1.out
  have BX1 := Lib.hid nx10; clear nx10
  have HB10 := Lib.hid (putLb hp10 HB9.out (by omega))
  clear hp10
  obtain ⟨x7_0, x7_1, x7_2⟩ := row3 BX1.out
  go_wp2_with (with_reducible first | refine pauseCall ?_ | refine pauseLoop ?_ | refine pauseDraw ?_ | refine pauseBody ?_ | refine pauseRounds ?_)
  clear x7_0 x7_1 x7_2
  refine Pause.mk ?_
  refine ret_rat2 rfl g1 _ _ _ (by first | rfl | exact rfl) BX1.out rfl ?_
  exact ⟨_, rfl, HB10.out, N9.out⟩
set_option maxRecDepth 100000 in
set_option maxHeartbeats 12800000 in
theorem rvalue_dec (s : ByteArray) (w : World)  (h : s.size ≤ 100) (hn : isNum (bs s)) (h1 : nE (bs s) < s.size) (h2 : gd (bs s) (nE (bs s)) = 46) :
    Calls Try.prog 10 #[.string s] w (RetRE w (numQ (nA (bs s)) + tenDn (numQ (nB (bs s))) (pB s).size) (.int .i64 0)) := by
  have HBW := Lib.hid (Below.refl w.heap.size w)
  have kz0 : rl 0 ≤ 1 := by rw [rl_zero]; exact Nat.le_refl _
  have hs1 : 0 < s.size := by
    have h0 := hn.1; have := bs_length s
    rcases Nat.eq_zero_or_pos s.size with k | k
    · rw [k] at this; exact absurd (List.length_eq_zero_iff.1 this) h0
    · exact k
  have f1 : decide ((100 : Int) < (s.size : Int)) = false := decide_eq_false (by omega)
  have f2 : decide ((s.size : Int) < 1) = false := decide_eq_false (by omega)
  have hix := run_index_gb (P := Try.prog) s 9 Try.underlying9 0 hs1
  have hb256 := bs_lt s 0
  have HX := hn.2.1
  obtain ⟨b, hb⟩ : ∃ b, b = gd (bs s) 0 := ⟨_, rfl⟩
  rw [← hb] at hix hb256 HX
  rw [show ((0 : Nat) : Int) = 0 from rfl] at hix
  have HDB := Lib.hid HX; clear HX hb
  obtain ⟨E, hE⟩ : ∃ E, E = numEnd (bs s) 0 := ⟨_, rfl⟩
  have hne : E = s.size := by rw [hE, hn.2.2, bs_length]
  have f3 : ((E : Int) != (s.size : Int)) = false := by rw [hne]; simp
  have HE := Lib.hid hE.symm; clear hE hne
  have zA := pA_size s
  have zB := pB_size s
  have qA := rl_nA s h
  have qB := rl_nB s h
  have qJ := rl_nJ s h
  obtain ⟨QA, hQA⟩ : ∃ q, q = numQ (nA (bs s)) := ⟨_, rfl⟩
  obtain ⟨QB, hQB⟩ : ∃ q, q = numQ (nB (bs s)) := ⟨_, rfl⟩
  obtain ⟨QJ, hQJ⟩ : ∃ q, q = numQ (nA (bs s) ++ nB (bs s)) := ⟨_, rfl⟩
  rw [← hQA] at qA; rw [← hQB] at qB; rw [← hQJ] at qJ
  obtain ⟨N, hN⟩ : ∃ N, N = nE (bs s) := ⟨_, rfl⟩
  have hNle : N ≤ s.size := by rw [hN, ← bs_length]; exact nE_le _
  have hslA : ∀ wx : World, (Instr.slice 9 (.string s) none (some (.int .i64 (N : Int))) none).run Try.prog wx = .ok (.string (pA s)) wx := fun wx => by
    rw [run_slice_string_to_if (P := Try.prog) (w := wx) 9 s .i64 N Try.underlying9, if_pos (by omega)]
    rw [show s.extract 0 (N : Int).toNat = pA s from bs_inj (by rw [bs_extract, bs_pA]; unfold nA; rw [← hN]; simp)]
  rw [← hN] at h1 h2
  have hslB : ∀ wx : World, (Instr.slice 9 (.string s) (some (.int .i64 ((N : Int) + 1))) none none).run Try.prog wx = .ok (.string (pB s)) wx := fun wx => by
    rw [run_slice_string_from_if (P := Try.prog) (w := wx) 9 s .i64 ((N : Int) + 1) Try.underlying9, if_pos (by omega)]
    rw [show s.extract ((N : Int) + 1).toNat s.size = pB s from bs_inj (by rw [bs_extract, bs_pB]; unfold nB; rw [← hN, show ((N : Int) + 1).toNat = N + 1 from by omega, List.take_of_length_le (by rw [List.length_drop, bs_length]; omega)])]
  have hixN := run_index_gb (P := Try.prog) s 9 Try.underlying9 N h1
  rw [h2, show (((46 : Nat)) : Int) = 46 from rfl] at hixN
  have f4 : ((N : Int) == (s.size : Int)) = false := beq_eq_false_iff_ne.2 (by omega)
  clear h2
  have HN : Hid (run isDigit (bs s) 0 = N) := Lib.hid (by rw [hN]; rfl)
  clear hN
  rw [← hQA, ← hQB]
  have HQA := Lib.hid hQA.symm; have HQB := Lib.hid hQB.symm; have HQJ := Lib.hid hQJ.symm; clear hQA hQB hQJ
  have HNUM := Lib.hid hn; clear hn
  obtain ⟨T, hT⟩ : ∃ T, T = tenDn QB (pB s).size := ⟨_, rfl⟩
  rw [← hT]
  have HT := Lib.hid hT.symm; clear hT
  have HD10 := Lib.hid (show dc (((10 : Int) : Rat)) = 0 from if_neg (by decide))
  obtain ⟨w1, hw1⟩ : ∃ w1, w1 = w.alloc (.cells #[.bool false, .slice none 0 0, .slice none 0 0] 32) := ⟨_, rfl⟩
  have hb1 : Below w.heap.size w w1 := by rw [hw1]; exact (Below.refl _ _).alloc (Nat.le_refl _) _
  have hx1 := heap_alloc_new w (.cells #[.bool false, .slice none 0 0, .slice none 0 0] 32)
  obtain ⟨g1, hg1⟩ : ∃ g, g = w.heap.size := ⟨_, rfl⟩
  rw [← hw1, ← hg1] at hx1
  have lw1 : w.heap.size ≤ g1 := by rw [hg1]; exact HBW.out.size
  have HW1 := Lib.hid hw1; have HG1 := Lib.hid hg1; clear hw1 hg1
  have HB1 := Lib.hid (HBW.out.step hb1)
  have BX1 := Lib.hid hx1; clear hb1 hx1
  go_enter Try.func10, Try.ntmps10
  have hs := rdigit_any b w1 hb256
  rw [HDB.out] at hs
  have HS := Lib.hid hs; clear hs
  go_wp2_with (with_reducible first | refine pauseCall ?_ | refine pauseLoop ?_ | refine pauseDraw ?_ | refine pauseBody ?_ | refine pauseRounds ?_)
  try rw [← HW1.out]
  try rw [← HG1.out]
  refine Pause.mk ?_
  (with_reducible refine HS.out.mono ?_); rintro e wx ⟨rfl, rfl⟩
  clear HS
  have hs := rnumber_any s 0 w1 (by omega) (by omega)
  rw [HE.out, show ((0 : Nat) : Int) = 0 from rfl] at hs
  have HS := Lib.hid hs; clear hs
  go_wp2_with (with_reducible first | refine pauseCall ?_ | refine pauseLoop ?_ | refine pauseDraw ?_ | refine pauseBody ?_ | refine pauseRounds ?_)
  refine Pause.mk ?_
  (with_reducible refine HS.out.mono ?_); rintro e wx ⟨rfl, rfl⟩
  clear HS
  have hs := rdigits_any s 0 w1 (by omega) (by omega)
  rw [HN.out, show ((0 : Nat) : Int) = 0 from rfl] at hs
  have HS := Lib.hid hs; clear hs
  go_wp2_with (with_reducible first | refine pauseCall ?_ | refine pauseLoop ?_ | refine pauseDraw ?_ | refine pauseBody ?_ | refine pauseRounds ?_)
  refine Pause.mk ?_
  (with_reducible refine HS.out.mono ?_); rintro e wx ⟨rfl, rfl⟩
  clear HS
  have hs := rnatural_any (pA s) w1 (by first | omega | (rw [ByteArray.size_append]; omega)) (pA_digits HNUM.out)
  rw [bs_pA, HQA.out] at hs
  have HS := Lib.hid hs; clear hs
  go_wp2_with (with_reducible first | refine pauseCall ?_ | refine pauseLoop ?_ | refine pauseDraw ?_ | refine pauseBody ?_ | refine pauseRounds ?_)
  refine Pause.mk ?_
  (with_reducible refine HS.out.mono ?_); rintro e w5 ⟨v5, rfl, hb5, hn5⟩
  clear HS
  have HB5 := Lib.hid (HB1.out.step hb5)
  have BX1 := Lib.hid (heap_below BX1.out hb5)
  have N5 := Lib.hid hn5; clear hn5
  obtain ⟨s1, o1, n1, c1, a1, m1, d1, rfl⟩ := N5.out.shape
  clear hb5
  obtain ⟨w6, hw6⟩ : ∃ w6, w6 = w5.alloc (.cells #[.bool s1, .slice o1 n1 c1, .slice a1 m1 d1] 32) := ⟨_, rfl⟩
  have hb6 : Below w5.heap.size w5 w6 := by rw [hw6]; exact (Below.refl _ _).alloc (Nat.le_refl _) _
  have hx6 := heap_alloc_new w5 (.cells #[.bool s1, .slice o1 n1 c1, .slice a1 m1 d1] 32)
  obtain ⟨g6, hg6⟩ : ∃ g, g = w5.heap.size := ⟨_, rfl⟩
  rw [← hw6, ← hg6] at hx6
  have lw6 : w.heap.size ≤ g6 := by rw [hg6]; exact HB5.out.size
  have ltBX16 : g1 < g6 := by rw [hg6]; exact below_lt BX1.out
  have HW6 := Lib.hid hw6; have HG6 := Lib.hid hg6; clear hw6 hg6
  have HB6 := Lib.hid (HB5.out.step hb6)
  have N5 := Lib.hid (N5.out.below hb6)
  have BX1 := Lib.hid (heap_below BX1.out hb6)
  have BX6 := Lib.hid hx6; clear hb6 hx6
  have hs := rnatural_any (pB s) w6 (by first | omega | (rw [ByteArray.size_append]; omega)) (pB_digits HNUM.out)
  rw [bs_pB, HQB.out] at hs
  have HS := Lib.hid hs; clear hs
  go_wp2_with (with_reducible first | refine pauseCall ?_ | refine pauseLoop ?_ | refine pauseDraw ?_ | refine pauseBody ?_ | refine pauseRounds ?_)
  try rw [← HW6.out]
  try rw [← HG6.out]
  refine Pause.mk ?_
  (with_reducible refine HS.out.mono ?_); rintro e w7 ⟨v7, rfl, hb7, hn7⟩
  clear HS
  have HB7 := Lib.hid (HB6.out.step hb7)
  have N5 := Lib.hid (N5.out.below hb7)
  have BX1 := Lib.hid (heap_below BX1.out hb7)
  have BX6 := Lib.hid (heap_below BX6.out hb7)
  have N7 := Lib.hid hn7; clear hn7
  obtain ⟨s2, o2, n2, c2, a2, m2, d2, rfl⟩ := N7.out.shape
  clear hb7
  obtain ⟨w8, hw8⟩ : ∃ w8, w8 = w7.alloc (.cells #[.bool s2, .slice o2 n2 c2, .slice a2 m2 d2] 32) := ⟨_, rfl⟩
  have hb8 : Below w7.heap.size w7 w8 := by rw [hw8]; exact (Below.refl _ _).alloc (Nat.le_refl _) _
  have hx8 := heap_alloc_new w7 (.cells #[.bool s2, .slice o2 n2 c2, .slice a2 m2 d2] 32)
  obtain ⟨g8, hg8⟩ : ∃ g, g = w7.heap.size := ⟨_, rfl⟩
  rw [← hw8, ← hg8] at hx8
  have lw8 : w.heap.size ≤ g8 := by rw [hg8]; exact HB7.out.size
  have ltBX18 : g1 < g8 := by rw [hg8]; exact below_lt BX1.out
  have ltBX68 : g6 < g8 := by rw [hg8]; exact below_lt BX6.out
  have HW8 := Lib.hid hw8; have HG8 := Lib.hid hg8; clear hw8 hg8
  have HB8 := Lib.hid (HB7.out.step hb8)
  have N5 := Lib.hid (N5.out.below hb8)
  have N7 := Lib.hid (N7.out.below hb8)
  have BX1 := Lib.hid (heap_below BX1.out hb8)
  have BX6 := Lib.hid (heap_below BX6.out hb8)
  have BX8 := Lib.hid hx8; clear hb8 hx8
  have k3 : rl ((10 : Int) : Rat) ≤ 2 := rl_small (by omega) (by omega)
  have hs := rofq_any 10 w8 (by omega) (by omega)
  have HS := Lib.hid hs; clear hs
  go_wp2_with (with_reducible first | refine pauseCall ?_ | refine pauseLoop ?_ | refine pauseDraw ?_ | refine pauseBody ?_ | refine pauseRounds ?_)
  try rw [← HW8.out]
  try rw [← HG8.out]
  refine Pause.mk ?_
  (with_reducible refine HS.out.mono ?_); rintro e w9 ⟨v9, rfl, hb9, hn9⟩
  clear HS
  have HB9 := Lib.hid (HB8.out.step hb9)
  have N5 := Lib.hid (N5.out.below hb9)
  have N7 := Lib.hid (N7.out.below hb9)
  have BX1 := Lib.hid (heap_below BX1.out hb9)
  have BX6 := Lib.hid (heap_below BX6.out hb9)
  have BX8 := Lib.hid (heap_below BX8.out hb9)
  have N9 := Lib.hid hn9; clear hn9
  obtain ⟨s4, o4, n4, c4, a4, m4, d4, rfl⟩ := N9.out.shape
  clear hb9
  obtain ⟨w10, hw10⟩ : ∃ w10, w10 = w9.alloc (.cells #[.bool s4, .slice o4 n4 c4, .slice a4 m4 d4] 32) := ⟨_, rfl⟩
  have hb10 : Below w9.heap.size w9 w10 := by rw [hw10]; exact (Below.refl _ _).alloc (Nat.le_refl _) _
  have hx10 := heap_alloc_new w9 (.cells #[.bool s4, .slice o4 n4 c4, .slice a4 m4 d4] 32)
  obtain ⟨g10, hg10⟩ : ∃ g, g = w9.heap.size := ⟨_, rfl⟩
  rw [← hw10, ← hg10] at hx10
  have lw10 : w.heap.size ≤ g10 := by rw [hg10]; exact HB9.out.size
  have ltBX110 : g1 < g10 := by rw [hg10]; exact below_lt BX1.out
  have ltBX610 : g6 < g10 := by rw [hg10]; exact below_lt BX6.out
  have ltBX810 : g8 < g10 := by rw [hg10]; exact below_lt BX8.out
  have HW10 := Lib.hid hw10; have HG10 := Lib.hid hg10; clear hw10 hg10
  have HB10 := Lib.hid (HB9.out.step hb10)
  have N5 := Lib.hid (N5.out.below hb10)
  have N7 := Lib.hid (N7.out.below hb10)
  have N9 := Lib.hid (N9.out.below hb10)
  have BX1 := Lib.hid (heap_below BX1.out hb10)
  have BX6 := Lib.hid (heap_below BX6.out hb10)
  have BX8 := Lib.hid (heap_below BX8.out hb10)
  have BX10 := Lib.hid hx10; clear hb10 hx10
  obtain ⟨w11, hw11⟩ : ∃ w11, w11 = w10.iter (pB s) 0 := ⟨_, rfl⟩
  have hb11 : Below w10.heap.size w10 w11 := by rw [hw11]; exact (Below.refl _ _).alloc (Nat.le_refl _) _
  have hx11 := World.iter_heap w10 (pB s) 0
  obtain ⟨gI, hgI⟩ : ∃ g, g = w10.heap.size := ⟨_, rfl⟩
  rw [← hw11, ← hgI] at hx11
  have lwI : w.heap.size ≤ gI := by rw [hgI]; exact HB10.out.size
  have ltBX6I : g6 < gI := by rw [hgI]; exact below_lt BX6.out
  have ltBX8I : g8 < gI := by rw [hgI]; exact below_lt BX8.out
  have ltBX10I : g10 < gI := by rw [hgI]; exact below_lt BX10.out
  have ltBX1I : g1 < gI := by rw [hgI]; exact below_lt BX1.out
  have hs11 : gI = w9.heap.size + 1 := by rw [hgI, HW10.out]; simp
  have HS11 := Lib.hid hs11; clear hs11
  have HW11 := Lib.hid hw11; have HGI := Lib.hid hgI; clear hw11 hgI
  have HB11 := Lib.hid (HB10.out.step hb11)
  have N5 := Lib.hid (N5.out.below hb11)
  have N7 := Lib.hid (N7.out.below hb11)
  have N9 := Lib.hid (N9.out.below hb11)
  have BX1 := Lib.hid (heap_below BX1.out hb11)
  have BX6 := Lib.hid (heap_below BX6.out hb11)
  have BX8 := Lib.hid (heap_below BX8.out hb11)
  have BX10 := Lib.hid (heap_below BX10.out hb11)
  have BXI := Lib.hid hx11; clear hb11 hx11
  go_wp2_with (with_reducible first | refine pauseCall ?_ | refine pauseLoop ?_ | refine pauseDraw ?_ | refine pauseBody ?_ | refine pauseRounds ?_)
  try rw [← HW10.out]
  try rw [← HW11.out]
  try rw [← HS11.out]
  try rw [← HG10.out]
  try rw [← HGI.out]
  refine Pause.mk ?_
  have hN6 := N7.out
  rw [← tenDn_zero QB] at hN6
  have HN6 := Lib.hid hN6; clear hN6
  go_loopw [61] (fun _ wr => ∃ (k : Nat) (sz : Bool) (oz : Option Addr) (nz cz : Nat) (az : Option Addr) (pz dz : Nat), k ≤ (pB s).size ∧ True ∧ Hid (wr.heap[gI]? = some (.stringIter (pB s) k)) ∧ Hid (wr.heap[g8]? = some (.cells #[.bool sz, .slice oz nz cz, .slice az pz dz] 32)) ∧ Hid (IsR wr (.agg #[.bool sz, .slice oz nz cz, .slice az pz dz]) (tenDn QB k)) ∧
      Hid (wr.heap[g6]? = some (.cells #[.bool s1, .slice o1 n1 c1, .slice a1 m1 d1] 32)) ∧ Hid (IsR wr (.agg #[.bool s1, .slice o1 n1 c1, .slice a1 m1 d1]) QA) ∧ Hid (wr.heap[g10]? = some (.cells #[.bool s4, .slice o4 n4 c4, .slice a4 m4 d4] 32)) ∧ Hid (IsR wr (.agg #[.bool s4, .slice o4 n4 c4, .slice a4 m4 d4]) ((10 : Int) : Rat)) ∧ Hid (wr.heap[g1]? = some (.cells #[.bool false, .slice none 0 0, .slice none 0 0] 32)) ∧ Hid (Below w.heap.size w wr)) (fun _ wr => (pB s).size - (match wr.heap[gI]? with | some (.stringIter _ p) => p | _ => 0))
  case atStart => exact ⟨0, s2, o2, n2, c2, a2, m2, d2, Nat.zero_le _, trivial, BXI, BX8, HN6, BX6, N5, BX10, N9, BX1, HB11⟩
  case round =>
    obtain ⟨k, sz, oz, nz, cz, az, pz, dz, hk, _, hxI, hx6, hI6, hx5, hI5, hx7, hI7, hxR, hBr⟩ := hrel
    have hrk := rl_tenDn QB k
    have hr10 := rl_ten
    by_cases hkm : k < (pB s).size
    · skip
      have hdg := digit_range (pB_digits HNUM.out k hkm)
      have ha : ((pB s)[k]'hkm).toNat < 128 := by rw [byte_at]; omega
      clear hdg
      obtain ⟨cc, hcc⟩ : ∃ c : Nat, c = ((pB s)[k]'hkm).toNat := ⟨_, rfl⟩
      obtain ⟨wn, hwn⟩ : ∃ wn, wn = setIt wr gI (pB s) (k + 1) := ⟨_, rfl⟩
      have hnx : ∀ ty : TypeId, (Instr.next (.pointer (some ⟨gI, 0, none⟩)) true ty).run Try.prog wr = .ok (.tuple #[.bool true, .int .i64 (k : Int), .int .i32 (cc : Int)]) wn := fun ty => by rw [hwn, hcc]; exact next_more ty hxI.out hkm ha
      have BXI : Hid (wn.heap[gI]? = some (.stringIter (pB s) (k + 1))) := Lib.hid (by rw [hwn]; exact it_self hxI.out)
      have BX6 := Lib.hid (it_box (p := k + 1) hxI.out hx6.out); rw [← hwn] at BX6
      have BX5 := Lib.hid (it_box (p := k + 1) hxI.out hx5.out); rw [← hwn] at BX5
      have BX7 := Lib.hid (it_box (p := k + 1) hxI.out hx7.out); rw [← hwn] at BX7
      have BXR := Lib.hid (it_box (p := k + 1) hxI.out hxR.out); rw [← hwn] at BXR
      have HI6 := Lib.hid (it_I (p := k + 1) hxI.out hI6.out); rw [← hwn] at HI6
      have HI5 := Lib.hid (it_I (p := k + 1) hxI.out hI5.out); rw [← hwn] at HI5
      have HI7 := Lib.hid (it_I (p := k + 1) hxI.out hI7.out); rw [← hwn] at HI7
      have HBN := Lib.hid (it_below (s := pB s) (p := k + 1) hBr.out lwI); rw [← hwn] at HBN
      clear ha hcc hwn hx6 hx5 hx7 hxR hI6 hI5 hI7 hBr
      obtain ⟨x5_0, x5_1, x5_2⟩ := row3 BX6.out
      obtain ⟨x6_0, x6_1, x6_2⟩ := row3 BX7.out
      have k7 := rl_div' (tenDn QB k) (((10 : Int) : Rat))
      have hs := rdivq_any _ (tenDn QB k) _ (((10 : Int) : Rat)) wn (HI6.out.is (by omega)) (HI7.out.is (by omega))
      rw [HD10.out] at hs
      have HS := Lib.hid hs; clear hs
      go_wp2_with (with_reducible first | refine pauseCall ?_ | refine pauseLoop ?_ | refine pauseDraw ?_ | refine pauseBody ?_ | refine pauseRounds ?_)
      clear x5_0 x5_1 x5_2 x6_0 x6_1 x6_2
      refine Pause.mk ?_
      (with_reducible refine HS.out.mono ?_); rintro e w22 ⟨v22, rfl, hb22, hn22⟩
      clear HS
      have HB22 := Lib.hid (HBN.out.step hb22)
      have HI6 := Lib.hid (HI6.out.below hb22)
      have HI5 := Lib.hid (HI5.out.below hb22)
      have HI7 := Lib.hid (HI7.out.below hb22)
      have BX5 := Lib.hid (heap_below BX5.out hb22)
      have BX6 := Lib.hid (heap_below BX6.out hb22)
      have BX7 := Lib.hid (heap_below BX7.out hb22)
      have BXR := Lib.hid (heap_below BXR.out hb22)
      have BXI := Lib.hid (heap_below BXI.out hb22)
      have N22 := Lib.hid hn22; clear hn22
      obtain ⟨s8, o8, n8, c8, a8, m8, d8, rfl⟩ := N22.out.shape
      clear hb22
      go_wp2_with (with_reducible refine wpList_pauseS ?_)
      refine wpList_stL g8 0 [.bool s8, .slice o8 n8 c8, .slice a8 m8 d8] BX6.out rfl rfl (Nat.le_of_ble_eq_true rfl) (by kernel_rfl) rfl ?_
      intro w23 hp23
      have HI6 := Lib.hid (putL_I hp23 HI6.out BX6.out noW3)
      have HI5 := Lib.hid (putL_I hp23 HI5.out BX6.out noW3)
      have HI7 := Lib.hid (putL_I hp23 HI7.out BX6.out noW3)
      have N22 := Lib.hid (putL_I hp23 N22.out BX6.out noW3)
      have BX5 := Lib.hid (putLx hp23 BX5.out (by omega))
      have BX7 := Lib.hid (putLx hp23 BX7.out (by omega))
      have BXR := Lib.hid (putLx hp23 BXR.out (by omega))
      have BXI := Lib.hid (putLx hp23 BXI.out (by omega))
      have nx23 : w23.heap[g8]? = some (.cells #[.bool s8, .slice o8 n8 c8, .slice a8 m8 d8] 32) := by rw [hp23]; exact putL_r BX6.out
      have BX6 := Lib.hid nx23; clear nx23
      have HB23 := Lib.hid (putLb hp23 HB22.out (by omega))
      clear hp23
      go_wp2_with (with_reducible first | refine pauseCall ?_ | refine pauseLoop ?_ | refine pauseDraw ?_ | refine pauseBody ?_ | refine pauseRounds ?_)
      refine Pause.mk ?_
      go_roundw
      case rel => exact ⟨k + 1, s8, o8, n8, c8, a8, m8, d8, hkm, trivial, BXI, BX6, by rw [tenDn_succ]; exact Lib.hid N22.out, BX5, HI5, BX7, HI7, BXR, HB23⟩
      case measure => rw [BXI.out, hxI.out]; show _ - (k + 1) < _ - k; omega
    · skip
      obtain rfl : k = (pB s).size := by omega
      have hnx : ∀ ty : TypeId, (Instr.next (.pointer (some ⟨gI, 0, none⟩)) true ty).run Try.prog wr = .ok (.tuple #[.bool false]) wr := fun ty => next_end ty hxI.out hkm
      rw [HT.out] at hI6 hrk
      have BXI := hxI; clear hxI
      have BX6 := hx6; clear hx6
      have BX5 := hx5; clear hx5
      have BX7 := hx7; clear hx7
      have BXR := hxR; clear hxR
      have HI6 := hI6; clear hI6
      have HI5 := hI5; clear hI5
      have HI7 := hI7; clear hI7
      have HBN := hBr; clear hBr
      obtain ⟨x55_0, x55_1, x55_2⟩ := row3 BX5.out
      obtain ⟨x56_0, x56_1, x56_2⟩ := row3 BX6.out
      have k57 := rl_add (QA) (T)
      have hs := raddq_any _ (QA) _ (T) wr (HI5.out.is (by omega)) (HI6.out.is (by omega))
      have HS := Lib.hid hs; clear hs
      go_wp2_with (with_reducible first | refine pauseCall ?_ | refine pauseLoop ?_ | refine pauseDraw ?_ | refine pauseBody ?_ | refine pauseRounds ?_)
      clear x55_0 x55_1 x55_2 x56_0 x56_1 x56_2
      refine Pause.mk ?_
      (with_reducible refine HS.out.mono ?_); rintro e w72 ⟨v72, rfl, hb72, hn72⟩
      clear HS
      have HB72 := Lib.hid (HBN.out.step hb72)
      have HI6 := Lib.hid (HI6.out.below hb72)
      have HI5 := Lib.hid (HI5.out.below hb72)
      have HI7 := Lib.hid (HI7.out.below hb72)
      have BX5 := Lib.hid (heap_below BX5.out hb72)
      have BX6 := Lib.hid (heap_below BX6.out hb72)
      have BX7 := Lib.hid (heap_below BX7.out hb72)
      have BXR := Lib.hid (heap_below BXR.out hb72)
      have BXI := Lib.hid (heap_below BXI.out hb72)
      have N72 := Lib.hid hn72; clear hn72
      obtain ⟨s58, o58, n58, c58, a58, m58, d58, rfl⟩ := N72.out.shape
      clear hb72
      go_wp2_with (with_reducible refine wpList_pauseS ?_)
      refine wpList_stL g1 0 [.bool s58, .slice o58 n58 c58, .slice a58 m58 d58] BXR.out rfl rfl (Nat.le_of_ble_eq_true rfl) (by kernel_rfl) rfl ?_
      intro w73 hp73
      have HI6 := Lib.hid (putL_I hp73 HI6.out BXR.out noW3)
      have HI5 := Lib.hid (putL_I hp73 HI5.out BXR.out noW3)
      have HI7 := Lib.hid (putL_I hp73 HI7.out BXR.out noW3)
      have N72 := Lib.hid (putL_I hp73 N72.out BXR.out noW3)
      have BX5 := Lib.hid (putLx hp73 BX5.out (by omega))
      have BX6 := Lib.hid (putLx hp73 BX6.out (by omega))
      have BX7 := Lib.hid (putLx hp73 BX7.out (by omega))
      have BXI := Lib.hid (putLx hp73 BXI.out (by omega))
      have nx73 : w73.heap[g1]? = some (.cells #[.bool s58, .slice o58 n58 c58, .slice a58 m58 d58] 32) := by rw [hp73]; exact putL_r BXR.out
      have BXR := Lib.hid nx73; clear nx73
      have HB73 := Lib.hid (putLb hp73 HB72.out (by omega))
      clear hp73
      obtain ⟨x59_0, x59_1, x59_2⟩ := row3 BXR.out
      go_wp2_with (with_reducible first | refine pauseCall ?_ | refine pauseLoop ?_ | refine pauseDraw ?_ | refine pauseBody ?_ | refine pauseRounds ?_)
      clear x59_0 x59_1 x59_2
      refine Pause.mk ?_
      refine ret_rat2 rfl g1 _ _ _ (by first | rfl | exact rfl) BXR.out rfl ?_
      exact ⟨_, rfl, HB73.out, N72.out⟩
theorem rvalue_any (s : ByteArray) (w : World) (hs : s.size ≤ 4611686018427387904) : Calls Try.prog 10 #[.string s] w (RetRE w (tvQ (bs s)) (.int .i64 (tvC (bs s) : Nat))) := by
  have hlen := bs_length s
  by_cases h : 100 < s.size
  · obtain ⟨e1, e2⟩ := tvC_long (l := bs s) (by rw [hlen]; exact h)
    rw [e1, e2]; exact rvalue_long s w h
  have h' : ¬ 100 < (bs s).length := by rw [hlen]; exact h
  by_cases hn : isNum (bs s)
  · by_cases h1 : nE (bs s) < s.size ∧ gd (bs s) (nE (bs s)) = 47
    · obtain ⟨e1, e2⟩ := tvC_slash h' hn (by rw [hlen]; exact h1.1) h1.2
      rw [e1, e2]; exact rvalue_slash s w (by omega) hn h1.1 h1.2
    · obtain ⟨e1, e2⟩ := tvC_plain h' hn (by rw [hlen]; exact h1)
      rw [e1, e2]
      rcases num_forms hn with k | ⟨k1, k2, _⟩
      · have k' : nE (bs s) = s.size := by rw [k, hlen]
        have hv := rvalue_whole s w (by omega) hn k'
        have hb : nB (bs s) = [] := by unfold nB; rw [List.drop_eq_nil_of_le (by omega)]
        rw [hb]
        rw [show numQ (nA (bs s)) + numQ [] / tenQ ([] : List Nat).length = numQ (nA (bs s)) from by rw [numQ_nil]; grind]
        exact hv
      · rw [hlen] at k1
        have k46 : gd (bs s) (nE (bs s)) = 46 := by
          rcases k2 with k | k
          · exact k
          · exact absurd ⟨by omega, k⟩ h1
        have hv := rvalue_dec s w (by omega) hn (by omega) k46
        rw [show (pB s).size = (nB (bs s)).length from by rw [← bs_length, bs_pB]] at hv
        exact hv
  · obtain ⟨e1, e2⟩ := tvC_bad h' hn
    rw [e1, e2]
    by_cases h0 : s.size = 0
    · exact rvalue_empty s w h0
    by_cases hd : isDigit (gd (bs s) 0) = true
    · refine rvalue_end s w (by omega) (by omega) hd (fun e => hn ⟨?_, hd, by rw [hlen]; exact e⟩)
      intro k; rw [k] at hlen; simp at hlen; omega
    · exact rvalue_first s w (by omega) (by omega) (by simpa using hd)
end Go.Proofs.Ytaefimegiobkmaa
