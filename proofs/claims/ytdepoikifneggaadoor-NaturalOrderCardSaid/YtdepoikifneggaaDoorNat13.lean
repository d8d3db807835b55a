/-
  natural.Root: what it hands back.
  Conditions: each theorem's own.
-/
import Derived.Test.YtdepoikifneggaaDoorReg
import Derived.Test.YtdepoikifneggaaDoorNatMath9
import Derived.IntWalk
namespace Go.Proofs.YtdepoikifneggaaDoor
open Go.RowKit Go.ChangeShapes Go.WideShapes

theorem cmpN_le {m n : Nat} (h : n ≤ m) : decide (0 ≤ cmpN m n) = true := by
  unfold cmpN; rw [if_neg (by omega)]; split <;> rfl
theorem cmpN_nle {m n : Nat} (h : m < n) : decide (0 ≤ cmpN m n) = false := by
  unfold cmpN; rw [if_pos h]; rfl

set_option maxRecDepth 100000 in
set_option maxHeartbeats 4000000 in
theorem root_any (va : Value) (a : List Nat) (w : World) (ha : Num w va a) (hla : a.length ≤ 800000) :
    Calls Tryd.prog 36 #[va] w (RetNum w fun r => ∃ s, r = wd s ∧ IsRoot (val a) s) := by
  have hbits := bits_any va a w ha (by omega)
  have hbn := blen_le_len ha.lt
  by_cases h0 : val a = 0
  · rw [h0, blen_zero] at hbits
    have HB := Lib.hid hbits
    have HR := Lib.hid (show IsRoot (val a) 0 by rw [h0]; exact ⟨by omega, by omega⟩)
    clear hbits h0 hbn ha
    go_enter Tryd.func36, Tryd.ntmps36
    go_wp2_with fail
    (with_reducible refine HB.out.mono ?_); rintro e w1 ⟨rfl, rfl⟩
    go_wp2_with fail
    go_ret
    exact ⟨_, [], rfl, Below.refl _ _, Num.nil _, 0, wd_zero.symm, HR.out⟩
  · have hlt := lt_two_blen (val a)
    have hpos := two_blen_le h0
    obtain ⟨n, hn⟩ : ∃ n, n = blen (val a) := ⟨_, rfl⟩
    rw [← hn] at hbits hbn hlt hpos
    obtain ⟨m, hm⟩ : ∃ m, m = (n + 1) / 2 := ⟨_, rfl⟩
    obtain ⟨q, hq⟩ : ∃ q, q = m / 32 := ⟨_, rfl⟩
    obtain ⟨r, hr⟩ : ∃ r, r = m % 32 := ⟨_, rfl⟩
    obtain ⟨n1, hn1⟩ : ∃ n1, n1 = n + 1 := ⟨_, rfl⟩
    have e1 : IntKind.i64.wrap ((n : Int) + 1) = (n1 : Int) := by rw [IntWalk.i64_in _ (by omega)]; omega
    have e2 : IntKind.i64.wrap ((n1 : Int) / 2) = (m : Int) := by rw [IntWalk.i64_in _ (by omega)]; omega
    have e3 : IntKind.i64.wrap ((m : Int) / 32) = (q : Int) := by rw [IntWalk.i64_in _ (by omega)]; omega
    have e4 : (m : Int).tmod 32 = (r : Int) := by rw [Int.tmod_eq_emod_of_nonneg (by omega)]; omega
    have E1 := Lib.hid e1; have E2 := Lib.hid e2; have E3 := Lib.hid e3; have E4 := Lib.hid e4
    clear e1 e2 e3 e4
    have hrl : r < 32 := by omega
    have hqb : q ≤ 500000 := by omega
    have hn0 : 0 < n := hpos.2
    have hmk := fun wx : World => run_makeW wx q (by omega)
    have hst := newton_start (m := m) (Nat.lt_of_lt_of_le hlt (Nat.pow_le_pow_right (by decide) (show n ≤ m + m by rw [hm]; exact half_up n)))
    have hqr : m = 32 * q + r := by omega
    have HB := Lib.hid hbits; have HA := Lib.hid ha; have HST := Lib.hid hst; have HQR := Lib.hid hqr; have H0 := Lib.hid h0
    clear hbits ha hst hqr hn hm hq hr hlt hpos h0 hn1
    obtain ⟨ao, ca, rfl, hca, hca2, _⟩ := HA.out.shape
    go_enter Tryd.func36, Tryd.ntmps36
    go_wp2_with fail
    (with_reducible refine HB.out.mono ?_); rintro e w1 ⟨rfl, rfl⟩
    go_upto_region 4 with fail
    go_cut [4] (fun v4 wx => ∃ l, OwnW 38 wx w.heap.size v4 l ∧ Below w.heap.size w wx ∧ Hid (val l = 2 ^ m) ∧ l.length ≤ 500002)
    case first =>
      have hl1 : ∀ (wx : World) (v : Value), Num wx v [1] → Calls Tryd.prog 51 #[v, .int .i64 r] wx (RetOwn wx fun l => l.length = 2 ∧ val l = 2 ^ r) := fun wx v hv => by
        have := left_any v [1] r wx hv (by simp) hrl
        refine this.mono ?_
        rintro e w' ⟨v', l', he, hb, ho, hl, hv'⟩
        exact ⟨v', l', he, hb, ho, hl, by rw [hv']; simp [val]⟩
      have HL1 := Lib.hid hl1; clear hl1
      have e1 := E1.out; have e2 := E2.out; have e3 := E3.out; have e4 := E4.out
      have bb : ∀ o1 o2 : Obj, Below w.heap.size w ((w.alloc o1).alloc o2).drew := fun o1 o2 => (((Below.refl _ _).alloc (Nat.le_refl _) o1).alloc (by simp) o2).drew
      have P1 := Lib.hid (bb (.cells (freshW q) 38) (.cells #[.int .u32 1] 38))
      have P2 := Lib.hid (bb (.cells #[.int .u32 1] 38) (.cells (freshW q) 38))
      have P3 : Hid (Below w.heap.size w (w.alloc (.cells #[.int .u32 1] 38)).drew) := Lib.hid ((Below.refl _ _).alloc (Nat.le_refl _) _).drew
      have dd : ∀ wx : World, Below wx.heap.size wx wx.drew := fun wx => (Below.refl _ _).drew
      have F1 : Hid (Num ((w.alloc (.cells (freshW q) 38)).alloc (.cells #[.int .u32 1] 38)).drew (.slice (some ⟨w.heap.size + 1, 0, none⟩) 1 1) [1]) := Lib.hid (by
        have h := num_one (w.alloc (.cells (freshW q) 38)) 38 1 (by decide)
        rw [show (w.alloc (.cells (freshW q) 38)).heap.size = w.heap.size + 1 from by simp] at h
        exact h.below (dd _))
      have F3 : Hid (Num (w.alloc (.cells #[.int .u32 1] 38)).drew (.slice (some ⟨w.heap.size, 0, none⟩) 1 1) [1]) := Lib.hid ((num_one w 38 1 (by decide)).below (dd _))
      have F2 : Hid (Num ((w.alloc (.cells #[.int .u32 1] 38)).alloc (.cells (freshW q) 38)).drew (.slice (some ⟨w.heap.size, 0, none⟩) 1 1) [1]) := Lib.hid (((num_one w 38 1 (by decide)).below ((Below.refl _ _).alloc (Nat.le_refl _) _)).below (dd _))
      have G1 : Hid (OwnW 38 ((w.alloc (.cells (freshW q) 38)).alloc (.cells #[.int .u32 1] 38)).drew w.heap.size (.slice (some ⟨w.heap.size, 0, none⟩) q q) (List.replicate q 0)) := Lib.hid (((own_made w w.heap.size q (Nat.le_refl _) (by omega)).alloc _).drew)
      have G2 : Hid (OwnW 38 ((w.alloc (.cells #[.int .u32 1] 38)).alloc (.cells (freshW q) 38)).drew w.heap.size (.slice (some ⟨w.heap.size + 1, 0, none⟩) q q) (List.replicate q 0)) := Lib.hid (by
        have h := own_made (w.alloc (.cells #[.int .u32 1] 38)) w.heap.size q (by simp) (by omega)
        rw [show (w.alloc (.cells #[.int .u32 1] 38)).heap.size = w.heap.size + 1 from by simp] at h
        exact h.drew)
      clear bb dd
      go_region_held3 (fun _ => True) (trivial) (first
        | (go_at_call 51; (with_reducible refine (HL1.out _ _ ?_).mono ?_); (first | exact F1.out | exact F2.out | exact F3.out); rintro e w' ⟨v1, l1, rfl, hb1, ho1, hln1, hv1⟩; (have hbw : Below w.heap.size w w' := (by first | exact P1.out.trans (hb1.mono P1.out.size) | exact P2.out.trans (hb1.mono P2.out.size) | exact P3.out.trans (hb1.mono P3.out.size))); (have H1 := Lib.hid hln1); (have H2 := Lib.hid hv1); (clear hln1 hv1))
        | (refine step_appendN Tryd.wordsTy (by rfl) (.tmp 17) (.tmp 23) rfl w.heap.size _ _ (List.replicate q 0) l1 (by rfl) (by rfl) (by first | exact G1.out.below hb1 | exact G2.out.below hb1 | exact own_made _ _ _ hbw.size (by omega)) (by first | exact ho1.num | exact (ho1.alloc _).num) (by rw [H1.out, List.length_replicate]; omega) (by first | exact hbw.size | exact (hbw.alloc hbw.size _).size) ?_; intro v' w2 h1 h2 h3))
      all_goals
        have h4 := h2 w (by first | exact hbw | exact hbw.alloc hbw.size _)
        have hv : val (List.replicate q 0 ++ l1) = 2 ^ m := by
          rw [val_append, val_zeros, List.length_replicate, H2.out, Nat.zero_add, pow32, ← Nat.pow_add, ← HQR.out]
        have HV := Lib.hid hv
        have HL := Lib.hid (show (List.replicate q 0 ++ l1).length = q + 2 by rw [List.length_append, List.length_replicate, H1.out])
        clear h2 hv
        go_wp2_with fail
        go_meet
        exact ⟨_, h1, h4, HV, by rw [HL.out]; omega⟩
    case rest =>
      obtain ⟨l0, hO0, hb0, hv0, hl0⟩ := hcut
      have hp0 : 0 < val l0 := by rw [hv0.out]; exact Nat.two_pow_pos m
      have hs0 : val a < (val l0 + 1) * (val l0 + 1) := by rw [hv0.out]; exact HST.out
      have HS0 := Lib.hid hs0; have HN0 := Lib.hid hO0.num
      clear hs0 hO0
      go_wp2_with fail
      go_loopw [4] (fun xv wr => ∃ lx, Num wr xv lx ∧ lx.length ≤ 500002 ∧ 0 < val lx ∧ Below w.heap.size w wr ∧ Hid (val a < (val lx + 1) * (val lx + 1))) (fun xv wr => numOf wr xv)
      case atStart => exact ⟨l0, HN0.out, hl0, hp0, hb0, HS0⟩
      case round =>
        obtain ⟨lx, hnx, hlx, hpx, hBr, hsx⟩ := hrel
        have hnA := HA.out.below hBr
        have hm0 := numOf_eq hnx
        have hdv := div_any _ _ _ _ _ hnA hnx (by omega) (by omega) (by omega)
        rw [errV_zero] at hdv
        obtain ⟨X, hX⟩ : ∃ X, X = val lx := ⟨_, rfl⟩
        rw [← hX] at hm0 hpx hsx hdv
        have hq1 : (wd (val a / X)).length ≤ 800000 := Nat.le_trans (wd_length_mono (Nat.div_le_self _ _)) (Nat.le_trans (wd_length_le HA.out.lt) (by omega))
        have hq2 : (wd (X + val a / X)).length ≤ 800002 := by
          have h1 := wd_add_len X (val a / X)
          have h2 : (wd X).length ≤ lx.length := by rw [hX]; exact wd_length_le hnx.lt
          omega
        have HX := Lib.hid hX; have HM0 := Lib.hid hm0; have HDV := Lib.hid hdv; have HNX := Lib.hid hnx
        clear hX hm0 hdv hnx hnA
        go_wp2_with fail
        (with_reducible refine HDV.out.mono ?_); rintro e w3 ⟨vq, vr, rfl, hb3, hnq, _⟩
        have hB3 := hBr.trans (hb3.mono hBr.size)
        have had := add_any _ _ _ _ _ (HNX.out.below hb3) hnq (by omega) (by omega)
        rw [val_wd, ← HX.out] at had
        have HAD := Lib.hid had; have HNX := Lib.hid (HNX.out.below hb3)
        clear had hnq hb3
        go_wp2_with fail
        (with_reducible refine HAD.out.mono ?_); rintro e w4 ⟨vs, ls, rfl, hb4, hns, hls⟩
        rw [hls] at hns
        have hB4 := hB3.trans (hb4.mono hB3.size)
        have hri := right_any _ _ 1 _ hns (by omega) (by decide)
        rw [val_wd, Nat.pow_one, show ((1 : Nat) : Int) = 1 from rfl] at hri
        have HRI := Lib.hid hri; have HNX := Lib.hid (HNX.out.below hb4)
        clear hri hns hb4 hls hB3
        go_wp2_with fail
        (with_reducible refine HRI.out.mono ?_); rintro e w5 ⟨vh, lh, rfl, hb5, hoh, hlh, hvh⟩
        have hB5 := hB4.trans (hb5.mono hB4.size)
        have htr := trim_any _ _ _ hoh.num (by omega)
        rw [hvh] at htr
        have HTR := Lib.hid htr; have HNX := Lib.hid (HNX.out.below hb5)
        have hY : (X + val a / X) / 2 = (X + val a / X) / 2 := rfl
        clear htr hoh hlh hvh hb5 hB4 hY
        go_wp2_with fail
        (with_reducible refine HTR.out.mono ?_); rintro e w6 ⟨vy, ly, rfl, hb6, hny, hly⟩
        rw [hly] at hny
        have hB6 := hB5.trans (hb6.mono hB5.size)
        have HNX := Lib.hid (HNX.out.below hb6)
        have hyl : (wd ((X + val a / X) / 2)).length ≤ 800002 := Nat.le_trans (wd_length_mono (Nat.div_le_self _ _)) hq2
        have hcm := cmp_any _ _ _ _ _ hny HNX.out (by omega) (by omega)
        rw [val_wd, ← HX.out] at hcm
        have hge := newton_ge (a := val a) hpx
        have hps := newton_pos (Nat.pos_of_ne_zero H0.out) hpx
        obtain ⟨Y, hY⟩ : ∃ Y, Y = (X + val a / X) / 2 := ⟨_, rfl⟩
        rw [← hY] at hcm hge hps hny hyl
        obtain ⟨c, hc⟩ : ∃ c, c = cmpN Y X := ⟨_, rfl⟩
        rw [← hc] at hcm
        have HCM := Lib.hid hcm; have HNY := Lib.hid hny; have HGE := Lib.hid hge
        by_cases hYX : X ≤ Y
        · have hcd : decide (0 ≤ c) = true := by rw [hc]; exact cmpN_le hYX
          have hroot : IsRoot (val a) X := newton_end (by rw [← hY]; exact hYX) hsx.out
          have HROOT := Lib.hid hroot
          clear hcm hny hge hc hY hroot hly hYX
          go_wp2_with fail
          (with_reducible refine HCM.out.mono ?_); rintro e w7 ⟨rfl, hb7⟩
          have htr := trim_any _ _ _ (HNX.out.below hb7) (by omega)
          rw [← HX.out] at htr
          have HTR := Lib.hid htr
          clear htr
          go_wp2_with fail
          (with_reducible refine HTR.out.mono ?_); rintro e w8 ⟨vz, lz, rfl, hb8, hnz, hlz⟩
          go_wp2_with fail
          go_ret
          have hB7 := hB6.trans (hb7.mono hB6.size)
          exact ⟨_, _, rfl, hB7.trans (hb8.mono hB7.size), hnz, X, hlz, HROOT.out⟩
        · have hcd : decide (0 ≤ c) = false := by rw [hc]; exact cmpN_nle (by omega)
          have hlt : Y < X := by omega
          have hyl2 : (wd Y).length ≤ 500002 := by
            refine Nat.le_trans (wd_length_mono (Nat.le_of_lt hlt)) ?_
            have h2 : (wd X).length ≤ lx.length := by rw [HX.out]; exact wd_length_le HNX.out.lt
            omega
          have HLT := Lib.hid hlt; have HPS := Lib.hid hps
          clear hcm hny hge hc hY hly hYX hlt hps
          go_wp2_with fail
          (with_reducible refine HCM.out.mono ?_); rintro e w7 ⟨rfl, hb7⟩
          have HNY := Lib.hid (HNY.out.below hb7)
          have hB7 := hB6.trans (hb7.mono hB6.size)
          go_wp2_with fail
          go_roundw
          case rel => exact ⟨wd Y, HNY.out, hyl2, by rw [val_wd]; exact HPS.out, hB7, Lib.hid (by rw [val_wd]; exact HGE.out)⟩
          case measure =>
            have e1 := numOf_eq HNY.out
            rw [val_wd] at e1
            show numOf _ _ < numOf _ _
            rw [HM0.out]
            exact Nat.lt_of_le_of_lt (Nat.le_of_eq e1) HLT.out
end Go.Proofs.YtdepoikifneggaaDoor
