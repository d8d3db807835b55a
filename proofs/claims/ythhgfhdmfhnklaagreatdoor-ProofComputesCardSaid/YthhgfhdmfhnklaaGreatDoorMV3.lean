/-
  What the law leans on, one text behind the other (the base).
  Conditions: each theorem's own.
-/
import Derived.Deep.Slices
import Derived.Deep.Strs
import Derived.Deep.MidRow
import Derived.Test.YthhgfhdmfhnklaaGreatDoorMV2
set_option maxRecDepth 100000
set_option maxHeartbeats 16000000
namespace Go.Proofs.YthhgfhdmfhnklaaGreatDoor
open Go.RowKit Go.ChangeShapes Go.WideShapes
def cutS (ao : Option Addr) (k n c : Nat) : Value := .slice (if c = k then ao else ao.map (·.add k)) (n - k) (c - k)
theorem run_cutS (wx : World) (ao : Option Addr) (k n c : Nat) (hk : k ≤ n) :
  (Instr.slice 52 (.slice ao n c) (some (.int .i64 (k : Int))) none none).run Tryz.prog wx = .ok (cutS ao k n c) wx := by
 have h := run_slice_l (P := Tryz.prog) (w := wx) 52 ao n c (by kernel_rfl) .i64 (k : Int) (by omega) (by omega)
 have e : ∀ w : World, (Go.sizeOf (Tryz.prog.elem 52)).run Tryz.prog w = .ok 1 w := fun w => by kernel_rfl
 rw [h, e]
 simp only [Result.andThen, sliced, Int.toNat_natCast, Nat.mul_one]
 rfl
theorem Num.cut {w : World} {ao : Option Addr} {n c : Nat} {l : List Nat} (h : Num w (.slice ao n c) l) (k : Nat) (hk : k ≤ n) : Num w (cutS ao k n c) (l.drop k) := by
 obtain ⟨ao', c', e, h1, h2, h3, h4, h5⟩ := h
 cases e
 have hl : (l.drop k).length = l.length - k := by rw [List.length_drop]
 unfold cutS
 refine ⟨_, _, by rw [hl], by omega, by omega, ?_, ?_, h5.drop k⟩
 ·intro hn
  split at hn
  ·have := h3 hn; omega
  ·cases ao with
   | none => have := h3 rfl; omega
   | some x => simp at hn
 ·intro b off s hs
  split at hs
  ·rename_i hck
   refine ⟨fun h0 => ?_, fun j hj => ?_⟩
   ·rw [hl] at h0; omega
   ·rw [hl] at hj; omega
  ·cases ao with
   | none => simp at hs
   | some x =>
    obtain ⟨b', off', s'⟩ := x
    obtain ⟨k1, k2⟩ := h4 _ _ _ rfl
    by_cases hn0 : 0 < l.length
    ·obtain ⟨k3, rfl⟩ := k1 hn0
     have e2 : (⟨b', off', none⟩ : Addr).add k = ⟨b', off' + k, none⟩ := by unfold Addr.add; split <;> simp_all
     simp only [Option.map_some, e2, Option.some.injEq, Addr.mk.injEq] at hs
     obtain ⟨rfl, rfl, rfl⟩ := hs
     refine ⟨fun _ => ⟨k3, rfl⟩, fun j hj => ?_⟩
     rw [gd_drop, Nat.add_assoc]
     exact k2 (k + j) (by rw [hl] at hj; omega)
    ·exact ⟨fun h0 => by rw [hl] at h0; omega, fun j hj => by rw [hl] at hj; omega⟩

theorem rdiv_any (va vb : Value) (a b : List Nat) (w : World) (ha : Num w va a) (hb : Num w vb b) (hla : a.length ≤ 400000) (hlb : b.length ≤ 400000) (h0 : val b ≠ 0) :
  Calls Tryz.prog 141 #[va, vb] w (RetDiv w (val a / val b) (val a % val b) (.int .i64 0)) := by
 have hl2 := qbp hb.lt
 obtain ⟨hnpos, hx0, _⟩ := wd_top h0
 obtain ⟨A, hA⟩ : ∃ A, A = val a := ⟨_, rfl⟩
 obtain ⟨Bv, hBv⟩ : ∃ Bv, Bv = val b := ⟨_, rfl⟩
 rw [← hBv] at h0 hl2 hnpos hx0
 rw [← hA, ← hBv]
 obtain ⟨lb, hlb1⟩ : ∃ lb, lb = wd Bv := ⟨_, rfl⟩
 rw [← hlb1] at hl2 hnpos hx0
 obtain ⟨n, hn⟩ : ∃ n, n = lb.length := ⟨_, rfl⟩
 rw [← hn] at hl2 hnpos hx0
 have hub : U32 lb := by rw [hlb1]; exact qeh _
 have hxl := hub (n - 1)
 obtain ⟨x, hx⟩ : ∃ x, x = gd lb (n - 1) := ⟨_, rfl⟩
 rw [← hx] at hx0 hxl
 have hn0 : ((n : Int) == 0) = false := by simp; omega
 have HA := qHd hA; have HBV := qHd hBv; have HLB := qHd hlb1; have HN := qHd hn; have HX := qHd hx; have H0 := qHd h0; have HNA := qHd ha
 clear hA hBv hlb1 hn hx h0 hub ha
 obtain ⟨ao, ca, rfl, hca, hca2, _⟩ := HNA.out.shape
 go_enter Tryz.func141, Tryz.ntmps141
 go_wp2_with fail
 (with_reducible refine (qfs _ _ _ hb (by omega)).mono ?_); rintro e w1 ⟨v1, l1, rfl, hb1, hn1, hl1'⟩
 rw [hl1', ← HBV.out, ← HLB.out] at hn1
 obtain ⟨bo, cb, rfl, hcb, hcb2, _⟩ := hn1.shape
 rw [← HN.out] at hn1 hcb ⊢
 obtain ⟨bb, ob, rfl, _, hcell⟩ := hn1.at hnpos
 have hcx := hcell (n - 1) (by omega)
 rw [← HX.out] at hcx
 have HN1 := qHd hn1; have HB1 := qHd hb1
 clear hn1 hl1' hcell hb hb1
 go_wp2_with fail
 go_loop [8] (fun sv => ∃ s : Nat, sv = .int .i64 s ∧ s ≤ 31 ∧ Hid (x * 2 ^ s < 4294967296)) (fun sv => 32 - (intOf sv).toNat)
 case atStart => exact ⟨0, rfl, by omega, qHd (by rw [Nat.pow_zero, Nat.mul_one]; exact hxl)⟩
 case round =>
  obtain ⟨s, rfl, hs31, hxs⟩ := hrel
  have hsw := shl32 x s hxs.out
  have htb := top_bit (x * 2 ^ s) hxs.out
  obtain ⟨y, hy⟩ : ∃ y, y = x * 2 ^ s := ⟨_, rfl⟩
  rw [← hy] at hsw htb
  have hyl : y < 4294967296 := by rw [hy]; exact hxs.out
  have HY := qHd hy; clear hy
  by_cases hyt : y < 2147483648
  ·rw [if_pos hyt] at htb
   have hs30 : s < 31 := by
    rcases Nat.lt_or_ge s 31 with h | h
    ·exact h
    ·exfalso
     have h1 : 2 ^ 31 ≤ 2 ^ s := Nat.pow_le_pow_right (by decide) h
     have h2 := Nat.mul_le_mul (show 1 ≤ x by omega) h1
     rw [← HY.out] at h2
     omega
   have hnx : x * 2 ^ (s + 1) < 4294967296 := by rw [Nat.pow_succ, ← Nat.mul_assoc, ← HY.out]; omega
   have HNX := qHd hnx; clear hnx
   go_wp2_with fail
   go_round
   case rel => exact ⟨s + 1, by go_num, by omega, HNX⟩
   case measure => simp [intOf]; omega
  ·rw [if_neg hyt] at htb
   obtain ⟨hVB, hVlo, hVlen, _⟩ := norm_len (Bv := Bv) (x := x) (s := s) (n := n) (by rw [HN.out, HLB.out]) H0.out (by rw [HX.out, HLB.out]) hxs.out (by rw [← HY.out]; omega)
   obtain ⟨V, hV⟩ : ∃ V, V = Bv * 2 ^ s := ⟨_, rfl⟩
   rw [← hV] at hVB hVlo hVlen
   have hup1 := rup_any _ a s w1 (HNA.out.below HB1.out) (by omega) (by omega)
   rw [← HA.out] at hup1
   have HUP1 := qHd hup1; have HV := qHd hV; have HVB := qHd hVB; have HVLO := qHd hVlo; have HVLEN := qHd hVlen
   clear hup1 hV hVB hVlo hVlen
   go_wp2_with fail
   (with_reducible refine HUP1.out.mono ?_); rintro e w2 ⟨v2, l2, rfl, hb2, hn2, hl2'⟩
   have hup2 := rup_any _ lb s w2 (HN1.out.below hb2) (by rw [← HN.out]; omega) (by omega)
   rw [HLB.out, qaz, ← HV.out] at hup2
   have HUP2 := qHd hup2; have HB2 := qHd (HB1.out.trans (hb2.mono HB1.out.size)); have HN2 := qHd hn2; have HL2 := qHd hl2'
   clear hup2 hb2 hn2 hl2'
   go_wp2_with fail
   (with_reducible refine HUP2.out.mono ?_); rintro e w3 ⟨v3, l3, rfl, hb3, hn3, hl3⟩
   have HB3 := qHd (HB2.out.trans (hb3.mono HB2.out.size))
   rw [hl3] at hn3
   have hn2 := HN2.out.below hb3
   rw [HL2.out] at hn2
   have hAl := Nat.le_trans (qbk (show A ≤ A * 2 ^ s from Nat.le_mul_of_pos_right _ (Nat.two_pow_pos s))) (Nat.le_refl _)
   obtain ⟨AS, hAS⟩ : ∃ AS, AS = A * 2 ^ s := ⟨_, rfl⟩
   rw [← hAS] at hn2
   have hASl : (wd AS).length ≤ a.length + 1 := by
    have h1 := qbn A (2 ^ s)
    have h2 : (wd (2 ^ s)).length ≤ 1 := qcr (by rw [Nat.pow_one]; exact Nat.lt_of_le_of_lt (Nat.pow_le_pow_right (by decide) hs31) (by decide))
    have h3 : (wd A).length ≤ a.length := by rw [HA.out]; exact qbp HNA.out.lt
    rw [hAS]; omega
   have hASv := qem (qeh AS)
   rw [qaz] at hASv
   obtain ⟨ao2, ca2, rfl, hca2a, hca2b, _⟩ := hn2.shape
   obtain ⟨bo3, cb3, rfl, hcb3a, hcb3b, _⟩ := hn3.shape
   rw [HVLEN.out] at hn3 hcb3a ⊢
   obtain ⟨na, hna⟩ : ∃ na, na = (wd AS).length := ⟨_, rfl⟩
   rw [← hna] at hn2 hca2a hASl hASv ⊢
   obtain ⟨k0, hk0⟩ : ∃ k0, k0 = na + 1 - n := ⟨_, rfl⟩
   have hk0n : k0 ≤ na := by omega
   obtain ⟨d, hd⟩ : ∃ d : Int, d = (na : Int) - (n : Int) := ⟨_, rfl⟩
   obtain ⟨d1, hd1⟩ : ∃ d1 : Int, d1 = d + 1 := ⟨_, rfl⟩
   have e1 : IntKind.i64.wrap ((na : Int) - (n : Int)) = d := by rw [IntWalk.i64_in _ (by omega)]; omega
   have e2 : IntKind.i64.wrap (d + 1) = d1 := by rw [IntWalk.i64_in _ (by omega)]; omega
   have e3 : max (0 : Int) d1 = (k0 : Int) := by omega
   have hdk : d = (k0 : Int) - 1 ∨ (k0 = 0 ∧ d < 0) := by omega
   have hdb : -1000000 ≤ d ∧ d ≤ 1000000 := by omega
   have HN2 := qHd hn2; have HN3 := qHd hn3; have HN2W := qHd hn2; have HN3W := qHd hn3; have HAS := qHd hAS; have HASV := qHd hASv; have HNAE := qHd hna; have HK0 := qHd hk0; have HDK := qHd hdk; have HDB := qHd hdb
   have E1 := qHd e1; have E2 := qHd e2; have E3 := qHd e3; have HD := qHd hd
   have hmk := fun wx : World => run_makeW wx na (by omega)
   have hcut := fun wx : World => run_cutS wx ao2 k0 na ca2 hk0n
   have HMK := qHd hmk; have HCUT := qHd hcut
   clear hn2 hn3 hAS hASv hna hk0 hd hd1 e1 e2 e3 hdk hdb hmk hcut hb3 hl3 hAl htb hsw
   go_upto_region 9 with fail
   go_cut [9, 10] (fun v9 v10 wx => ∃ gq l10, v9 = .slice (some ⟨gq, 0, none⟩) na na ∧ w3.heap.size ≤ gq ∧ qdu 156 wx w3.heap.size v9 (List.replicate na 0) ∧ Num wx v10 l10 ∧ Below w3.heap.size w3 wx ∧ Hid (l10 = (wd AS).drop k0))
   case first =>
    have e1 := E1.out; have e2 := E2.out; have e3 := E3.out; have hmk := HMK.out; have hcut := HCUT.out
    have bb : ∀ o1 o2 : Obj, Below w3.heap.size w3 ((w3.alloc o1).alloc o2).drew := fun o1 o2 => (((Below.refl _ _).alloc (Nat.le_refl _) o1).alloc (by simp) o2).drew
    have P1 : Hid (Below w3.heap.size w3 ((w3.alloc (.cells (freshW na) 156)).alloc (.cells #[] 156)).drew) := qHd (bb _ _)
    have P2 : Hid (Below w3.heap.size w3 ((w3.alloc (.cells #[] 156)).alloc (.cells (freshW na) 156)).drew) := qHd (bb _ _)
    have P3 : Hid (Below w3.heap.size w3 (w3.alloc (.cells #[] 156)).drew) := qHd ((Below.refl _ _).alloc (Nat.le_refl _) _).drew
    have L1 : Hid (qdu 156 ((w3.alloc (.cells (freshW na) 156)).alloc (.cells #[] 156)).drew w3.heap.size (.slice (some ⟨w3.heap.size + 1, 0, none⟩) 0 0) []) := qHd (by
     have h := own_lit (w3.alloc (.cells (freshW na) 156)) 156 w3.heap.size #[] [] 0 (by simp) U32.nil rfl (by simp) rfl
     rw [show (w3.alloc (.cells (freshW na) 156)).heap.size = w3.heap.size + 1 from by simp] at h
     exact h.drew)
    have L2 : Hid (qdu 156 ((w3.alloc (.cells #[] 156)).alloc (.cells (freshW na) 156)).drew w3.heap.size (.slice (some ⟨w3.heap.size, 0, none⟩) 0 0) []) := qHd ((own_lit w3 156 w3.heap.size #[] [] 0 (Nat.le_refl _) U32.nil rfl (by simp) rfl).alloc _).drew
    have L3 : Hid (qdu 156 (w3.alloc (.cells #[] 156)).drew w3.heap.size (.slice (some ⟨w3.heap.size, 0, none⟩) 0 0) []) := qHd (own_lit w3 156 w3.heap.size #[] [] 0 (Nat.le_refl _) U32.nil rfl (by simp) rfl).drew
    have M1 : Hid (qdu 156 ((w3.alloc (.cells (freshW na) 156)).alloc (.cells #[] 156)).drew w3.heap.size (.slice (some ⟨w3.heap.size, 0, none⟩) na na) (List.replicate na 0)) := qHd (((own_made w3 w3.heap.size na (Nat.le_refl _) (by omega)).alloc _).drew)
    have M2 : Hid (qdu 156 ((w3.alloc (.cells #[] 156)).alloc (.cells (freshW na) 156)).drew w3.heap.size (.slice (some ⟨w3.heap.size + 1, 0, none⟩) na na) (List.replicate na 0)) := qHd (by
     have h := own_made (w3.alloc (.cells #[] 156)) w3.heap.size na (by simp) (by omega)
     rw [show (w3.alloc (.cells #[] 156)).heap.size = w3.heap.size + 1 from by simp] at h
     exact h.drew)
    have NN : Hid (∀ wx, Below w3.heap.size w3 wx → Num wx (cutS ao2 k0 na ca2) ((wd AS).drop k0)) := qHd fun wx hx => (HN2.out.cut k0 hk0n).below hx
    clear bb
    have HLEN : Hid (([] : List Nat).length + ((wd AS).drop k0).length ≤ 17592186044416) := qHd (by rw [List.length_drop, ← HNAE.out]; simp; omega)
    go_region_held3 (fun _ => True) (trivial) (first
    | (refine step_appendN2 Tryz.wordsTy (by rfl) (.tmp 40) (.tmp 48) rfl w3.heap.size (.slice (some ⟨w3.heap.size + 1, 0, none⟩) 0 0) (cutS ao2 k0 na ca2) [] ((wd AS).drop k0) rfl rfl L1.out (NN.out _ P1.out) HLEN.out P1.out.size ?_; intro v' w4 h1 h2 h3 h4; have hm := M1.out.keptBy (g := w3.heap.size + 1) h4 (Nat.ne_of_lt (Nat.lt_succ_self _)); have hbx := h2 _ P1.out; clear h2 h4)
    | (refine step_appendN2 Tryz.wordsTy (by rfl) (.tmp 40) (.tmp 48) rfl w3.heap.size (.slice (some ⟨w3.heap.size, 0, none⟩) 0 0) (cutS ao2 k0 na ca2) [] ((wd AS).drop k0) rfl rfl L2.out (NN.out _ P2.out) HLEN.out P2.out.size ?_; intro v' w4 h1 h2 h3 h4; have hm := M2.out.keptBy (g := w3.heap.size) h4 (Nat.succ_ne_self _); have hbx := h2 _ P2.out; clear h2 h4)
    | (refine step_appendN2 Tryz.wordsTy (by rfl) (.tmp 40) (.tmp 48) rfl w3.heap.size (.slice (some ⟨w3.heap.size, 0, none⟩) 0 0) (cutS ao2 k0 na ca2) [] ((wd AS).drop k0) rfl rfl L3.out (NN.out _ P3.out) HLEN.out P3.out.size ?_; intro v' w4 h1 h2 h3 h4; have hbx := h2 _ P3.out; clear h2 h4))
    all_goals
     go_wp2_with fail
     go_meet
     first
     | exact ⟨_, _, rfl, Nat.le_refl _, hm, h1.num, hbx, qHd (List.nil_append _)⟩
     | exact ⟨_, _, rfl, Nat.le_succ _, hm, h1.num, hbx, qHd (List.nil_append _)⟩
     | exact ⟨_, _, rfl, hbx.size, own_made _ _ _ hbx.size (by omega), (h1.alloc _).num, hbx.alloc hbx.size _, qHd (List.nil_append _)⟩
   case rest =>
    obtain ⟨gq, l10, rfl, hgq, hO0, hn10, hb4, hl10⟩ := hcut
    have hgqb := hO0.block
    rw [hl10.out] at hn10
    have hfr := first_rest (V := V) HASV.out hnpos HVLO.out
    rw [← HK0.out] at hfr
    have HFR := qHd hfr
    have HN10 := qHd hn10; have HO0 := qHd hO0
    have HB34 := qHd hb4; have HB4 := qHd (HB3.out.trans (hb4.mono HB3.out.size))
    have hdb := HDB.out
    have hv0 : val ((wd AS).drop k0) = AS / 4294967296 ^ k0 := by rw [val_drop (qeh AS), qaz]
    have HV0 := qHd hv0
    have hwin : w.heap.size ≤ gq := by have := HB3.out.size; omega
    clear hn10 hO0 hl10 hfr hv0 hb4
    have e1 := E1.out
    go_wp2_with fail
    clear e1
    go_loopw [10, 11] (fun rv iv wr => ∃ (k : Nat) (iz : Int) (lr lq : List Nat), k ≤ k0 ∧ iv = .int .i64 iz ∧ (iz = (k : Int) - 1 ∨ (k = 0 ∧ iz < 0)) ∧ -1000000 ≤ iz ∧ iz ≤ 1000000 ∧ Num wr rv lr ∧ lr.length ≤ 800001 ∧
     qdu 156 wr w.heap.size (.slice (some ⟨gq, 0, none⟩) na na) lq ∧ Hid (lq.length = na) ∧ Below w.heap.size w wr ∧ Hid (AS / 4294967296 ^ k = val (lq.drop k) * V + val lr) ∧ Hid (val lr < V) ∧
     Below w3.heap.size w3 wr ∧ gq < wr.heap.size) (fun _ iv _ => (intOf iv + 1).toNat)
    case atStart => exact ⟨k0, d, _, _, Nat.le_refl _, rfl, HDK.out, hdb.1, hdb.2, HN10.out, by rw [List.length_drop, ← HNAE.out]; omega, HO0.out.base HB3.out.size, qHd (by simp), HB4.out, qHd (by rw [HV0.out, List.drop_replicate, val_zeros, Nat.zero_mul, Nat.zero_add]), qHd (by rw [HV0.out]; exact HFR.out), HB34.out, hgqb.2⟩
    case round =>
     obtain ⟨k, iz, lr, lq, hk, rfl, hiz, hz1, hz2, hnr, hlr, hOq, hlq, hBr, hinv, hrV, hb3r, hgqr⟩ := hrel
     have hn2r := qHd (HN2W.out.below hb3r)
     have hn3r := qHd (HN3W.out.below hb3r)
     obtain ⟨wo, rfl⟩ : ∃ wo : World, wo = wr := ⟨_, rfl⟩
     by_cases hk0' : k = 0
     ·subst hk0'
      have hneg : decide ((0 : Int) ≤ iz) = false := by simp; omega
      have hi0 := hinv.out
      rw [Nat.pow_zero, Nat.div_one, List.drop_zero, HAS.out, HV.out] at hi0
      have hr0 := hrV.out
      rw [HV.out] at hr0
      obtain ⟨g1, g2⟩ := div_scaled (Nat.two_pow_pos s) (show val lr + Bv * 2 ^ s * val lq = A * 2 ^ s by rw [hi0, Nat.mul_comm (val lq)]; omega) hr0
      have htr := qfs _ _ _ hOq.num (by rw [hlq.out]; omega)
      rw [g1] at htr
      have HTR := qHd htr; have G2 := qHd g2; have HNR := qHd hnr
      clear htr g1 g2 hi0 hr0 hnr hOq hiz
      go_wp2_with fail
      (with_reducible refine HTR.out.mono ?_); rintro e w5 ⟨v5, l5, rfl, hb5, hn5, hl5⟩
      have hrd := rdown_any _ lr s w5 (HNR.out.below hb5) (by omega) (by omega)
      rw [G2.out] at hrd
      have HRD := qHd hrd; have HN5 := qHd hn5; have HL5 := qHd hl5
      clear hrd hn5 hl5
      go_wp2_with fail
      (with_reducible refine HRD.out.mono ?_); rintro e w6 ⟨v6, l6, rfl, hb6, hn6, hl6⟩
      go_wp2_with fail
      go_ret3
      have h1 := hBr.trans (hb5.mono hBr.size)
      exact ⟨_, _, rfl, h1.trans (hb6.mono h1.size), by rw [← HL5.out]; exact HN5.out.below hb6, by rw [← hl6]; exact hn6⟩
     ·obtain ⟨j, rfl⟩ : ∃ j, k = j + 1 := ⟨k - 1, by omega⟩
      obtain rfl : iz = (j : Int) := by omega
      have hjna : j < na := by omega
      obtain ⟨b2, o2, rfl, _, hcell2⟩ := hn2r.out.at (by omega)
      have hxj := hcell2 j hjna
      have hxl := (qeh AS) j
      have hdig := val_digit (qeh AS) j
      rw [qaz] at hdig
      obtain ⟨xj, hxje⟩ : ∃ xj, xj = gd (wd AS) j := ⟨_, rfl⟩
      rw [← hxje] at hxj hxl hdig
      have hlit := own_lit wo 156 wo.heap.size #[.int .u32 (xj : Nat)] [xj] 1 (Nat.le_refl _) (U32.cons hxl U32.nil) rfl (by simp) rfl
      have HLIT := qHd hlit; have HNR := qHd hnr; have HDIG := qHd hdig; have HOQ := qHd hOq
      clear hcell2 hxje hdig hlit hnr hOq
      go_wp2_with (at_builtin; refine qcq Tryz.wordsTy rfl (.tmp 62) (.tmp 63) rfl wo.heap.size _ _ [xj] lr rfl rfl HLIT.out (HNR.out.below ((Below.refl _ _).alloc (Nat.le_refl _) _)) ?c1 ?c2 ?_)
      case c1 => simp; omega
      case c2 => simp
      intro v5 w5 h1 h2 h3
      have hb5 := h2 wo ((Below.refl _ _).alloc (Nat.le_refl _) _)
      have hval5 : val (xj :: lr) = xj + 4294967296 * val lr := rfl
      have htr := qfs _ _ _ h1.num (by simp; omega)
      rw [hval5] at htr
      obtain ⟨R, hR⟩ : ∃ R, R = xj + 4294967296 * val lr := ⟨_, rfl⟩
      rw [← hR] at htr
      have hRV : R < 4294967296 * V := by rw [hR]; have := hrV.out; omega
      have hstep := rdiv_step hinv.out hR
      rw [← HDIG.out] at hstep
      have hRn : R < 4294967296 ^ (n + 1) := by
       rw [Nat.pow_succ, Nat.mul_comm]
       exact Nat.lt_of_lt_of_le hRV (Nat.mul_le_mul_left _ (Nat.le_of_lt HVB.out))
      have hRl : (wd R).length ≤ n + 1 := qcr hRn
      have htwo := head_two hRn hnpos
      have htop := top_one HVB.out hnpos
      have HTR := qHd htr; have HRV := qHd hRV; have HSTEP := qHd hstep
      have HOQ := qHd (HOQ.out.below hb5); have HN2R := qHd (hn2r.out.below hb5); have HN3R := qHd (hn3r.out.below hb5); have HBR := qHd (hBr.trans (hb5.mono hBr.size)); have HB3R := qHd (hb3r.trans (hb5.mono hb3r.size))
      have hgq5 : gq < w5.heap.size := Nat.lt_of_lt_of_le hgqr hb5.size
      clear htr hRV hstep hval5 hR h1 h2 h3 hb5 hRn
      go_wp2_with fail
      (with_reducible refine HTR.out.mono ?_); rintro e w6 ⟨v6, l6, rfl, hb6, hn6, hl6⟩
      rw [hl6] at hn6
      have HOQ := qHd (HOQ.out.below hb6); have HN2R := qHd (HN2R.out.below hb6); have HN3R := qHd (HN3R.out.below hb6); have HBR := qHd (HBR.out.trans (hb6.mono HBR.out.size)); have HB3R := qHd (HB3R.out.trans (hb6.mono HB3R.out.size))
      have hgq6 : gq < w6.heap.size := Nat.lt_of_lt_of_le hgq5 hb6.size
      have hw1 := qef _ _ (n : Int) w6 hn6 (by omega) (by omega)
      have hw2 := qef _ _ ((n : Int) - 1) w6 hn6 (by omega) (by omega)
      have hw3 := qef _ _ ((n : Int) - 1) w6 HN3R.out (by omega) (by omega)
      rw [Int.toNat_natCast] at hw1
      rw [show ((n : Int) - 1).toNat = n - 1 by omega] at hw2 hw3
      have hp1l := (qeh R) n
      have hp0l := (qeh R) (n - 1)
      have htl := (qeh V) (n - 1)
      obtain ⟨p1, hp1⟩ : ∃ p1, p1 = gd (wd R) n := ⟨_, rfl⟩
      obtain ⟨p0, hp0⟩ : ∃ p0, p0 = gd (wd R) (n - 1) := ⟨_, rfl⟩
      obtain ⟨top, htopE⟩ : ∃ top, top = gd (wd V) (n - 1) := ⟨_, rfl⟩
      rw [← hp1] at hw1 hp1l htwo
      rw [← hp0] at hw2 hp0l htwo
      rw [← htopE] at hw3 htl htop
      have hor := or_words' p0 p1 hp0l hp1l
      obtain ⟨H, hH⟩ : ∃ H, H = p1 * 4294967296 + p0 := ⟨_, rfl⟩
      have hHl : H < 18446744073709551616 := by omega
      rw [← hH] at hor htwo
      have ht31 : 2147483648 ≤ top := by
       rw [htop, Nat.le_div_iff_mul_le (Nat.pow_pos (by decide))]; exact HVLO.out
      have hgg := guess_ge (P := 4294967296 ^ (n - 1)) (Nat.pow_pos (by decide)) htwo htop (by omega) HRV.out
      obtain ⟨G0, hG0⟩ : ∃ G0, G0 = H / top := ⟨_, rfl⟩
      have hG0i : (H : Int) / (top : Int) = (G0 : Int) := by rw [hG0]; simp
      have hG0l : G0 < 18446744073709551616 := by rw [hG0]; exact Nat.lt_of_le_of_lt (Nat.div_le_self _ _) hHl
      rw [← hG0] at hgg
      obtain ⟨gs, hgs⟩ : ∃ gs, gs = min G0 4294967295 := ⟨_, rfl⟩
      have hmin : min (G0 : Int) 4294967295 = (gs : Int) := by omega
      have hgsl : gs < 4294967296 := by omega
      rw [← hgs] at hgg
      have hgmod : (gs : Int) % 4294967296 = (gs : Int) := by omega
      have HW1 := qHd hw1; have HW2 := qHd hw2; have HW3 := qHd hw3; have HGG := qHd hgg; have HN6 := qHd hn6; have HG0I := qHd hG0i; have HMIN := qHd hmin
      clear hw1 hw2 hw3 hp1 hp0 htopE hH hG0 hgs hgg hn6 htwo htop hl6 hb6 hG0i hmin
      go_wp2_with fail
      (with_reducible refine HW1.out.mono ?_); rintro e wx ⟨rfl, rfl⟩
      go_wp2_with fail
      (with_reducible refine HW2.out.mono ?_); rintro e wx ⟨rfl, rfl⟩
      have hG0i := HG0I.out; have hmin := HMIN.out
      go_wp2_with fail
      (with_reducible refine HW3.out.mono ?_); rintro e wx ⟨rfl, rfl⟩
      have hone := num_one w6 156 gs hgsl
      have hal := (Below.refl w6.heap.size w6).alloc (Nat.le_refl _) (.cells #[.int .u32 (gs : Nat)] 156)
      have hmu := rmul_any _ _ _ _ _ (HN3R.out.below hal) hone (by rw [HVLEN.out]; omega) (by simp)
      rw [qaz, show val [gs] = gs from rfl] at hmu
      have HMU := qHd hmu
      clear hone hmu
      go_wp2_with fail
      (with_reducible refine HMU.out.mono ?_); rintro e w7 ⟨v7, l7, rfl, hb7, hn7, hl7⟩
      clear hG0i hmin
      rw [hl7] at hn7
      have hb67 := hal.trans (hb7.mono (by simp))
      have HOQ := qHd (HOQ.out.below hb67); have HN2R := qHd (HN2R.out.below hb67); have HN3R := qHd (HN3R.out.below hb67); have HN6 := qHd (HN6.out.below hb67); have HBR := qHd (HBR.out.trans (hb67.mono HBR.out.size)); have HB3R := qHd (HB3R.out.trans (hb67.mono HB3R.out.size))
      have hgq7 : gq < w7.heap.size := Nat.lt_of_lt_of_le hgq6 hb67.size
      have HN7 := qHd hn7
      have hV0 : 0 < V := Nat.lt_of_lt_of_le (Nat.mul_pos (by decide) (Nat.pow_pos (by decide))) HVLO.out
      have hVl : (wd V).length = n := HVLEN.out
      have HVL := qHd hVl
      clear hn7 hl7 hb7 hal hVl
      go_wp2_with fail
      go_loopw [12, 13] (fun gv pv wr => ∃ g : Nat, gv = .int .u64 g ∧ g < 4294967296 ∧ Hid (R / V ≤ g) ∧ Num wr pv (wd (V * g)) ∧ Below w7.heap.size w7 wr) (fun gv _ _ => (intOf gv).toNat)
      case atStart => exact ⟨gs, rfl, hgsl, HGG, HN7.out, Below.refl _ _⟩
      case round =>
       obtain ⟨g, rfl, hgl, hgR, hnp, hb8⟩ := hrel
       obtain ⟨w8, rfl⟩ : ∃ w8 : World, w8 = wr := ⟨_, rfl⟩
       have hpl : (wd (V * g)).length ≤ n + 1 := by
        have h1 := qbn V g
        have h2 : (wd g).length ≤ 1 := qcr (by rw [Nat.pow_one]; exact hgl)
        rw [HVL.out] at h1; omega
       have hcm := rcmp_any _ _ _ _ _ hnp (HN6.out.below hb8) (by omega) (by omega)
       rw [qaz, qaz] at hcm
       by_cases hgt : R < V * g
       ·have hg1 : 1 ≤ g := by
         rcases Nat.eq_zero_or_pos g with h | h
         ·rw [h, Nat.mul_zero] at hgt; omega
         ·exact h
        rw [cmpN_gt hgt] at hcm
        have hsu := rsub_ge _ _ _ _ _ hnp (HN3R.out.below hb8) (by omega) (by rw [HVL.out]; omega) (by rw [qaz, qaz]; exact Nat.le_mul_of_pos_right _ hg1)
        rw [qaz, qaz] at hsu
        obtain ⟨gm, hgm⟩ : ∃ gm, gm = g - 1 := ⟨_, rfl⟩
        have hgmi : (g : Int) - 1 = (gm : Int) := by omega
        have hpe : V * g - V = V * gm := by rw [hgm, Nat.mul_sub, Nat.mul_one]
        rw [hpe] at hsu
        have hgR2 : R / V ≤ gm := by
         have h1 : R / V < g := by rw [Nat.div_lt_iff_lt_mul hV0, Nat.mul_comm]; exact hgt
         omega
        have hgmg : gm < g := by omega
        have HCM := qHd hcm; have HSU := qHd hsu; have HGR2 := qHd hgR2
        clear hcm hsu hgm hpe hgR2 hgt hnp
        go_wp2_with fail
        (with_reducible refine HCM.out.mono ?_); rintro e wx ⟨rfl, rfl⟩
        go_wp2_with fail
        (with_reducible refine HSU.out.mono ?_); rintro e w9 ⟨v9, rfl, hb9, hn9⟩
        have HN9 := qHd hn9
        clear hn9
        go_wp2_with fail
        go_roundw
        case rel => exact ⟨gm, rfl, by omega, HGR2, HN9.out, hb8.trans (hb9.mono hb8.size)⟩
        case measure => simp [intOf]; omega
       ·have hge : g = R / V := by
         have h1 : g ≤ R / V := by rw [Nat.le_div_iff_mul_le hV0, Nat.mul_comm]; omega
         have := hgR.out; omega
        have hcz : decide ((0 : Int) < cmpN (V * g) R) = false := by
         unfold cmpN
         by_cases h1 : V * g < R
         ·rw [if_pos h1]; rfl
         ·rw [if_neg h1, if_neg hgt]; rfl
        obtain ⟨cz, hcze⟩ : ∃ cz, cz = cmpN (V * g) R := ⟨_, rfl⟩
        rw [← hcze] at hcm hcz
        have hsu := rsub_own _ _ _ _ _ (HN6.out.below hb8) hnp (by omega) (by omega) (by rw [qaz, qaz]; omega)
        rw [qaz, qaz] at hsu
        have hrem : R - V * g = R % V := by
         have := Nat.div_add_mod R V
         rw [← hge] at this; omega
        rw [hrem] at hsu
        have hO8 := HOQ.out.below hb8
        have HO8 := qHd hO8
        have HB8 := qHd (HBR.out.trans (hb8.mono HBR.out.size)); have HB38 := qHd (HB3R.out.trans (hb8.mono HB3R.out.size))
        have HCM := qHd hcm; have HSU := qHd hsu; have HGE := qHd hge
        have hgq8 : gq < w8.heap.size := Nat.lt_of_lt_of_le hgq7 hb8.size
        have hgmod2 : (g : Int) % 4294967296 = (g : Int) := by omega
        clear hcm hsu hge hrem hgt hnp hO8 hcze
        go_wp2_with fail
        (with_reducible refine HCM.out.mono ?_); rintro e wx ⟨rfl, rfl⟩
        go_wp2_with fail
        (with_reducible refine HSU.out.mono ?_); rintro e w9 ⟨v9, rfl, hb9, ho9⟩
        have hO9 := HO8.out.below hb9
        have hcq := hO9.cell hlq.out j hjna
        have hfq := hO9.frozen hlq.out j
        have hgrw := hO9.grown hlq.out j g
        have HO9 := qHd hO9; have HR9 := qHd ho9; have HGRW := qHd hgrw
        have HB9 := qHd (HB8.out.trans (hb9.mono HB8.out.size)); have HB39 := qHd (HB38.out.trans (hb9.mono HB38.out.size))
        have hsz9 := hb9.size
        clear hO9 ho9 hgrw hb9
        have hrl : R % V < V := Nat.mod_lt _ hV0
        have hrlen : (wd (R % V)).length ≤ 800001 := Nat.le_trans (qbk (Nat.le_of_lt hrl)) (by rw [HVL.out]; omega)
        have HRL := qHd hrl; have HRLEN := qHd hrlen
        clear hrl hrlen
        go_wp2_with fail
        go_roundw
        case rel =>
         refine ⟨j, (j : Int) - 1, _, lq.set j g, by omega, rfl, .inl rfl, by omega, by omega, (HR9.out.keptFrom HGRW.out (fun k hk => by cases hk; exact hgq8)).num, HRLEN.out, HO9.out.stored hlq.out j g hgl, qHd (by rw [List.length_set]; exact hlq.out), HB9.out.setCell hwin _, qHd ?_, qHd ?_, HB39.out.setCell hgq _, Nat.lt_of_lt_of_le hgq8 (Nat.le_trans hsz9 HGRW.out.size)⟩
         ·rw [val_drop_set _ _ _ (by rw [hlq.out]; exact hjna), qaz, HGE.out]; exact HSTEP.out
         ·rw [qaz]; exact HRL.out
        case measure => simp [intOf]
theorem pow_ten (k : Nat) : 4294967296 ^ k ≤ 10 ^ (10 * k) := by
 rw [Nat.pow_mul]; exact Nat.pow_le_pow_left (by decide) k
theorem digD_len {n k : Nat} (h : n < 10 ^ k) : (digD n).length ≤ k := by
  induction k generalizing n with
  | zero => have : n = 0 := by simpa using h
            subst this; rw [digD_zero]; simp
  | succ k ih =>
    by_cases h0 : n = 0
    · subst h0; rw [digD_zero]; simp
    · have := ih (n := n / 10) (by rw [Nat.pow_succ] at h; omega)
      rw [digD_pos h0, List.length_cons]; omega
theorem rgcd_any (va vb : Value) (a b : List Nat) (w : World) (ha : Num w va a) (hb : Num w vb b) (hla : a.length ≤ 400000) (hlb : b.length ≤ 400000) :
  Calls Tryz.prog 140 #[va, vb] w (RetNum w fun r => r = wd (Nat.gcd (val a) (val b))) := by
 have hl1 := qbp ha.lt
 have hl2 := qbp hb.lt
 obtain ⟨G, hG⟩ : ∃ G, G = Nat.gcd (val a) (val b) := ⟨_, rfl⟩
 rw [← hG]
 have HG := qHd hG; clear hG
 go_enter Tryz.func140, Tryz.ntmps140
 go_wp2_with fail
 (with_reducible refine (qfs _ _ _ ha (by omega)).mono ?_); rintro e w1 ⟨v1, l1, rfl, hb1, hn1, hl1'⟩
 go_wp2_with fail
 (with_reducible refine (qfs _ _ _ (hb.below hb1) (by omega)).mono ?_); rintro e w2 ⟨v2, l2, rfl, hb2, hn2, hl2'⟩
 have hn1 := hn1.below hb2
 have hb12 := hb1.trans (hb2.mono hb1.size)
 rw [hl1'] at hn1
 rw [hl2'] at hn2
 obtain ⟨x0, hx0⟩ : ∃ x0, x0 = val a := ⟨_, rfl⟩
 obtain ⟨y0, hy0⟩ : ∃ y0, y0 = val b := ⟨_, rfl⟩
 rw [← hx0] at hn1 hl1
 rw [← hy0] at hn2 hl2
 have hg0 : Nat.gcd x0 y0 = G := by rw [HG.out, hx0, hy0]
 have HG0 := qHd hg0; have HN1 := qHd hn1; have HN2 := qHd hn2
 clear hg0 hx0 hy0 hn1 hn2 hl1' hl2' hb1 hb2 ha hb
 go_wp2_with fail
 go_loopw [0, 1] (fun xv yv wr => ∃ x y : Nat, Num wr xv (wd x) ∧ Num wr yv (wd y) ∧ Below w.heap.size w wr ∧ Hid (Nat.gcd x y = G) ∧ (wd x).length ≤ 400000 ∧ (wd y).length ≤ 400000) (fun _ yv wr => numOf wr yv)
 case atStart => exact ⟨x0, y0, HN1.out, HN2.out, hb12, HG0, by omega, by omega⟩
 case round =>
  obtain ⟨x, y, hnx, hny, hBr, hgr, hlx, hly⟩ := hrel
  by_cases hy0 : y = 0
  ·subst hy0
   rw [qca] at hny hly
   obtain ⟨yo, cy, rfl, hcy, hcy2, _⟩ := hny.shape
   have hgx : x = G := by rw [← hgr.out, Nat.gcd_zero_right]
   have HGX := qHd hgx; have HNX := qHd hnx
   clear hny hgx hnx
   go_wp2_with fail
   go_ret
   exact ⟨_, _, rfl, hBr, HNX.out, by rw [HGX.out]⟩
  ·have hd := rdiv_any _ _ _ _ _ hnx hny hlx hly (by rw [qaz]; exact hy0)
   rw [qaz, qaz] at hd
   have hpos := wd_length_pos hy0
   have hm0 := numOf_eq hny
   rw [qaz] at hm0
   obtain ⟨yo, cy, rfl, hcy, hcy2, _⟩ := hny.shape
   have hlm : (wd (x % y)).length ≤ (wd y).length := qbk (Nat.le_of_lt (Nat.mod_lt _ (by omega)))
   have hml : x % y < y := Nat.mod_lt _ (by omega)
   have hgm : Nat.gcd y (x % y) = G := by rw [← hgr.out, Nat.gcd_comm x y, Nat.gcd_rec y x, Nat.gcd_comm]
   have HD := qHd hd; have HNY := qHd hny; have HM0 := qHd hm0; have HLM := qHd hlm; have HML := qHd hml; have HGM := qHd hgm
   clear hd hny hm0 hlm hml hgm hnx
   go_wp2_with fail
   (with_reducible refine HD.out.mono ?_); rintro e w3 ⟨v1, v2, rfl, hb3, hq, hr⟩
   have HR := qHd hr
   clear hq hr
   go_wp2_with fail
   go_roundw
   case rel => exact ⟨y, x % y, HNY.out.below hb3, HR.out, hBr.trans (hb3.mono hBr.size), HGM, hly, Nat.le_trans HLM.out hly⟩
   case measure =>
    have e1 := numOf_eq HR.out
    rw [qaz] at e1
    show numOf _ _ < numOf _ _
    rw [HM0.out]
    exact Nat.lt_of_le_of_lt (Nat.le_of_eq e1) HML.out
theorem _root_.Go.RowKit.Below.step {w w1 w2 : World} (h : Below w.heap.size w w1) (h2 : Below w1.heap.size w1 w2) : Below w.heap.size w w2 := h.trans (h2.mono h.size)
def RatV (w : World) (v : Value) (s : Bool) (a b : List Nat) : Prop := ∃ va vb, v = .agg #[.bool s, va, vb] ∧ Num w va a ∧ Num w vb b
def IsR (w : World) (v : Value) (q : Rat) : Prop := RatV w v (ng q) (wd (nn q)) (wd (dn q))
def qbs (w : World) (v : Value) (q : Rat) : Prop := ∃ s a b, RatV w v s a b ∧ rq s a b = q ∧ a.length ≤ 100000 ∧ b.length ≤ 100000
theorem RatV.below {w w' : World} {v : Value} {s : Bool} {a b : List Nat} (h : RatV w v s a b) (hb : Below w.heap.size w w') : RatV w' v s a b := by
 obtain ⟨va, vb, rfl, h1, h2⟩ := h
 exact ⟨va, vb, rfl, h1.below hb, h2.below hb⟩
theorem IsR.below {w w' : World} {v : Value} {q : Rat} (h : IsR w v q) (hb : Below w.heap.size w w') : IsR w' v q := RatV.below h hb
theorem qbs.below {w w' : World} {v : Value} {q : Rat} (h : qbs w v q) (hb : Below w.heap.size w w') : qbs w' v q := by
 obtain ⟨s, a, b, h1, h2⟩ := h
 exact ⟨s, a, b, h1.below hb, h2⟩
theorem dn_len (q : Rat) : (wd (dn q)).length ≤ rl q := by
 unfold dn; split
 ·rw [qca]; exact Nat.zero_le _
 ·exact rl_d q
theorem IsR.is {w : World} {v : Value} {q : Rat} (h : IsR w v q) (hl : rl q ≤ 100000) : qbs w v q :=
 ⟨_, _, _, h, (vld_self q).2, Nat.le_trans (rl_n q) hl, Nat.le_trans (dn_len q) hl⟩
theorem RatV.is {w : World} {v : Value} {s : Bool} {a b : List Nat} (h : RatV w v s a b) (h1 : a.length ≤ 100000) (h2 : b.length ≤ 100000) : qbs w v (rq s a b) := ⟨s, a, b, h, rfl, h1, h2⟩
theorem RatV.lt {w : World} {v : Value} {s : Bool} {a b : List Nat} (h : RatV w v s a b) : U32 a ∧ U32 b := by
 obtain ⟨va, vb, rfl, h1, h2⟩ := h
 exact ⟨h1.lt, h2.lt⟩
theorem qbs.rl {w : World} {v : Value} {q : Rat} (h : qbs w v q) : rl q ≤ 100000 := by
 obtain ⟨s, a, b, h, rfl, h1, h2⟩ := h
 obtain ⟨u1, u2⟩ := h.lt
 exact rl_rq u1 u2 h1 h2 (by decide)
theorem qdg (w : World) : IsR w (.agg #[.bool false, .slice none 0 0, .slice none 0 0]) 0 := by
 unfold IsR
 rw [ng_zero, nn_zero, dn_zero, qca]
 exact ⟨_, _, rfl, Num.nil w, Num.nil w⟩
def RetN (w : World) (n : Nat) (e : Ending) (w' : World) : Prop := ∃ v, e = .returned v ∧ Below w.heap.size w w' ∧ Num w' v (wd n)
theorem RetNum.n {w : World} {n : Nat} {e : Ending} {w' : World} (h : RetNum w (fun r => r = wd n) e w') : RetN w n e w' := by
 obtain ⟨v, l, he, hb, hn, rfl⟩ := h
 exact ⟨v, he, hb, hn⟩
def RetR (w : World) (q : Rat) (e : Ending) (w' : World) : Prop := ∃ v, e = .returned v ∧ Below w.heap.size w w' ∧ IsR w' v q
def RetRE (w : World) (q : Rat) (er : Value) (e : Ending) (w' : World) : Prop := ∃ v, e = .returned (.tuple #[v, er]) ∧ Below w.heap.size w w' ∧ IsR w' v q
theorem box_kept {w w1 : World} {cs : Array Value} {T : TypeId} (hb : Below (w.alloc (.cells cs T)).heap.size (w.alloc (.cells cs T)) w1) (j : Nat) :
  w1.cell? ⟨w.heap.size, j, none⟩ = cs[j]? := by
 rw [hb.cell (p := ⟨w.heap.size, j, none⟩) (by simp), cell_of_row _ _ _ _ _ _ (heap_alloc_new _ _)]

theorem one_any (w : World) : Calls Tryz.prog 76 #[] w (RetN w 1) := by
 go_enter Tryz.func76, Tryz.ntmps76
 go_wp2_with fail
 go_ret
 refine ⟨_, rfl, (Below.refl _ _).alloc (Nat.le_refl _) _, ?_⟩
 rw [wd_one (by decide) (by decide)]
 exact num_one w 156 1 (by decide)
theorem plain_any (va : Value) (a : List Nat) (w : World) (ha : Num w va a) :
  Calls Tryz.prog 144 #[va] w (RetS w (.bool (decide (a ≠ [] ∧ Clean a)))) := by
 obtain ⟨ao, ca, rfl, hca, hca2, _⟩ := ha.shape
 by_cases h0 : a.length = 0
 ·obtain rfl := List.eq_nil_of_length_eq_zero h0
  clear ha
  go_enter Tryz.func144, Tryz.ntmps144
  go_wp2_with fail
  go_ret
  exact ⟨rfl, rfl⟩
 ·obtain ⟨b, off, rfl, _, hcell⟩ := ha.at (by omega)
  obtain ⟨m, hm⟩ : ∃ m, m = a.length := ⟨_, rfl⟩
  rw [← hm] at h0 hca hcell ⊢
  have hx := hcell (m - 1) (by omega)
  obtain ⟨x, hxe⟩ : ∃ x, x = gd a (m - 1) := ⟨_, rfl⟩
  rw [← hxe] at hx
  have hcl : (decide (a ≠ [] ∧ Clean a)) = decide (x ≠ 0) := by
   rw [decide_eq_decide, hxe, hm]
   unfold Clean
   have hne : a ≠ [] := fun e => by rw [e] at hm; simp at hm; omega
   constructor
   ·rintro ⟨h, h | h⟩
    ·exact absurd h hne
    ·exact h
   ·intro h; exact ⟨hne, .inr h⟩
  rw [hcl]
  have hm0 : decide ((0 : Int) < (m : Int)) = true := decide_eq_true (by omega)
  have hxl : x < 4294967296 := by rw [hxe]; exact ha.lt _
  by_cases hx0 : x = 0
  ·subst hx0
   clear hcell hxe hm ha hcl
   go_enter Tryz.func144, Tryz.ntmps144
   go_wp2_with fail
   go_ret
   exact ⟨rfl, rfl⟩
  ·have hne : (bne (x : Int) 0) = true := by simp; omega
   have hd : decide (x ≠ 0) = true := decide_eq_true hx0
   rw [hd]
   clear hcell hxe hm ha hcl hd
   go_enter Tryz.func144, Tryz.ntmps144
   go_wp2_with fail
   go_ret
   exact ⟨rfl, rfl⟩

theorem vld_parts {s : Bool} {a b : List Nat} (h : ¬ (a = [] ∧ b = [])) : Vld s a b ↔ (a ≠ [] ∧ Clean a) ∧ (b ≠ [] ∧ Clean b) ∧ Nat.gcd (val a) (val b) = 1 := by
 unfold Vld
 constructor
 ·rintro (⟨h1, h2, _⟩ | ⟨h1, h2, h3, h4, h5⟩)
  ·exact absurd ⟨h1, h2⟩ h
  ·exact ⟨⟨h1, h3⟩, ⟨h2, h4⟩, h5⟩
 ·rintro ⟨⟨h1, h3⟩, ⟨h2, h4⟩, h5⟩
  exact .inr ⟨h1, h2, h3, h4, h5⟩
theorem qfp (v : Value) (s : Bool) (a b : List Nat) (w : World) (h : RatV w v s a b) (hla : a.length ≤ 400000) (hlb : b.length ≤ 400000) :
  Calls Tryz.prog 111 #[v] w (qea w (.bool (decide (Vld s a b)))) := by
 obtain ⟨va, vb, rfl, ha, hb⟩ := h
 obtain ⟨ao, ca, rfl, hca, hca2, _⟩ := ha.shape
 obtain ⟨bo, cb, rfl, hcb, hcb2, _⟩ := hb.shape
 by_cases h0 : a = [] ∧ b = []
 ·obtain ⟨rfl, rfl⟩ := h0
  have e : decide (Vld s [] []) = !s := by cases s <;> rfl
  rw [e]
  clear ha hb e
  go_enter Tryz.func111, Tryz.ntmps111
  go_wp2_with fail
  go_ret
  exact ⟨rfl, (Below.refl _ _).alloc (Nat.le_refl _) _⟩
 ·have e := vld_parts (s := s) h0
  have hd : decide (Vld s a b) = decide ((a ≠ [] ∧ Clean a) ∧ (b ≠ [] ∧ Clean b) ∧ Nat.gcd (val a) (val b) = 1) := decide_eq_decide.2 e
  rw [hd]
  have hab : ((a.length : Int) == 0) = false ∨ ((a.length : Int) == 0) = true ∧ ((b.length : Int) == 0) = false := by
   by_cases h1 : a.length = 0
   ·right
    refine ⟨by rw [h1]; rfl, ?_⟩
    rw [beq_eq_false_iff_ne]
    intro h2
    exact h0 ⟨List.eq_nil_of_length_eq_zero h1, List.eq_nil_of_length_eq_zero (by omega)⟩
   ·left; rw [beq_eq_false_iff_ne]; omega
  have hbx : Below w.heap.size w (w.alloc (.cells #[.bool s, .slice ao a.length ca, .slice bo b.length cb] 54)) := (Below.refl _ _).alloc (Nat.le_refl _) _
  have hp1 := plain_any _ a _ (ha.below hbx)
  have hp2 := plain_any _ b _ (hb.below hbx)
  have HBX := qHd hbx; have HA := qHd (ha.below hbx); have HB := qHd (hb.below hbx)
  clear e hd h0 ha hb hbx
  by_cases c1 : a ≠ [] ∧ Clean a
  ·by_cases c2 : b ≠ [] ∧ Clean b
   ·have hg := gcd_any _ _ _ _ _ HA.out HB.out (by omega) (by omega)
    have hgl : (wd (Nat.gcd (val a) (val b))).length ≤ 400000 := by
     have h1 := qbp HA.out.lt
     have h2 : val a ≠ 0 := val_ne HA.out.lt c1.2 c1.1
     have h3 := qbk (Nat.le_of_dvd (Nat.pos_of_ne_zero h2) (Nat.gcd_dvd_left (val a) (val b)))
     omega
    obtain ⟨g, hge⟩ : ∃ g, g = Nat.gcd (val a) (val b) := ⟨_, rfl⟩
    rw [← hge] at hg hgl
    have hres : decide ((a ≠ [] ∧ Clean a) ∧ (b ≠ [] ∧ Clean b) ∧ Nat.gcd (val a) (val b) = 1) = decide (g = 1) := by
     rw [decide_eq_decide, hge]; exact ⟨fun h => h.2.2, fun h => ⟨c1, c2, h⟩⟩
    rw [hres]
    rw [decide_eq_true c1] at hp1
    rw [decide_eq_true c2] at hp2
    have HP1 := qHd hp1; have HP2 := qHd hp2; have HG := qHd hg
    clear hp1 hp2 hg hge hres c1 c2
    rcases hab with hab | ⟨hab, hab2⟩
    ·go_enter Tryz.func111, Tryz.ntmps111
     go_wp2_with fail
     (with_reducible refine HP1.out.mono ?_); rintro e wx ⟨rfl, rfl⟩
     go_wp2_with fail
     (with_reducible refine HP2.out.mono ?_); rintro e wx ⟨rfl, rfl⟩
     go_wp2_with fail
     (with_reducible refine HG.out.mono ?_); rintro e w1 ⟨v1, l1, rfl, hb1, hn1, rfl⟩
     have HN1 := qHd hn1; have HB1 := qHd (HBX.out.step hb1); clear hn1 hb1
     go_wp2_with fail
     (with_reducible refine (one_any _).mono ?_); rintro e w2 ⟨v2, rfl, hb2, hn2⟩
     have hcm := cmp_any _ _ _ _ w2 (HN1.out.below hb2) hn2 (by omega) (by rw [wd_one (by decide) (by decide)]; simp)
     rw [qaz, qaz] at hcm
     have HCM := qHd hcm; have HB2 := qHd (HB1.out.step hb2); clear hcm hn2 hb2
     by_cases hg1 : g = 1
     ·have hc0 : cmpN g 1 = 0 := cmpN_eq hg1
      rw [hc0] at HCM
      have hd : decide (g = 1) = true := decide_eq_true hg1
      rw [hd]
      have HG1 := qHd hg1
      clear hc0 hg1 hd
      go_wp2_with fail
      (with_reducible refine HCM.out.mono ?_); rintro e w3 ⟨rfl, hb3⟩
      go_wp2_with fail
      go_ret
      exact ⟨by first | rfl | (simp; done) | (simp; exact HG1.out), HB2.out.step hb3⟩
     ·have hd : decide (g = 1) = false := decide_eq_false hg1
      rw [hd]
      obtain ⟨c, hc⟩ : ∃ c, c = cmpN g 1 := ⟨_, rfl⟩
      rw [← hc] at HCM
      have hc0 : (c == 0) = false := by
       rw [beq_eq_false_iff_ne, hc]; unfold cmpN; split
       ·decide
       ·split
        ·decide
        ·omega
      have HG1 := qHd hg1
      clear hc hg1 hd
      go_wp2_with fail
      (with_reducible refine HCM.out.mono ?_); rintro e w3 ⟨rfl, hb3⟩
      go_wp2_with fail
      go_ret
      exact ⟨by first | rfl | (simp; done) | (simp; exact HG1.out), HB2.out.step hb3⟩
    ·go_enter Tryz.func111, Tryz.ntmps111
     go_wp2_with fail
     (with_reducible refine HP1.out.mono ?_); rintro e wx ⟨rfl, rfl⟩
     go_wp2_with fail
     (with_reducible refine HP2.out.mono ?_); rintro e wx ⟨rfl, rfl⟩
     go_wp2_with fail
     (with_reducible refine HG.out.mono ?_); rintro e w1 ⟨v1, l1, rfl, hb1, hn1, rfl⟩
     have HN1 := qHd hn1; have HB1 := qHd (HBX.out.step hb1); clear hn1 hb1
     go_wp2_with fail
     (with_reducible refine (one_any _).mono ?_); rintro e w2 ⟨v2, rfl, hb2, hn2⟩
     have hcm := cmp_any _ _ _ _ w2 (HN1.out.below hb2) hn2 (by omega) (by rw [wd_one (by decide) (by decide)]; simp)
     rw [qaz, qaz] at hcm
     have HCM := qHd hcm; have HB2 := qHd (HB1.out.step hb2); clear hcm hn2 hb2
     by_cases hg1 : g = 1
     ·have hc0 : cmpN g 1 = 0 := cmpN_eq hg1
      rw [hc0] at HCM
      have hd : decide (g = 1) = true := decide_eq_true hg1
      rw [hd]
      have HG1 := qHd hg1
      clear hc0 hg1 hd
      go_wp2_with fail
      (with_reducible refine HCM.out.mono ?_); rintro e w3 ⟨rfl, hb3⟩
      go_wp2_with fail
      go_ret
      exact ⟨by first | rfl | (simp; done) | (simp; exact HG1.out), HB2.out.step hb3⟩
     ·have hd : decide (g = 1) = false := decide_eq_false hg1
      rw [hd]
      obtain ⟨c, hc⟩ : ∃ c, c = cmpN g 1 := ⟨_, rfl⟩
      rw [← hc] at HCM
      have hc0 : (c == 0) = false := by
       rw [beq_eq_false_iff_ne, hc]; unfold cmpN; split
       ·decide
       ·split
        ·decide
        ·omega
      have HG1 := qHd hg1
      clear hc hg1 hd
      go_wp2_with fail
      (with_reducible refine HCM.out.mono ?_); rintro e w3 ⟨rfl, hb3⟩
      go_wp2_with fail
      go_ret
      exact ⟨by first | rfl | (simp; done) | (simp; exact HG1.out), HB2.out.step hb3⟩
   ·have hres : decide ((a ≠ [] ∧ Clean a) ∧ (b ≠ [] ∧ Clean b) ∧ Nat.gcd (val a) (val b) = 1) = false := decide_eq_false fun h => c2 h.2.1
    rw [hres]
    rw [decide_eq_true c1] at hp1
    rw [decide_eq_false c2] at hp2
    have HP1 := qHd hp1; have HP2 := qHd hp2
    clear hp1 hp2 hres
    rcases hab with hab | ⟨hab, hab2⟩
    ·go_enter Tryz.func111, Tryz.ntmps111
     go_wp2_with fail
     (with_reducible refine HP1.out.mono ?_); rintro e wx ⟨rfl, rfl⟩
     go_wp2_with fail
     (with_reducible refine HP2.out.mono ?_); rintro e wx ⟨rfl, rfl⟩
     go_wp2_with fail
     go_ret
     exact ⟨rfl, HBX.out⟩
    ·go_enter Tryz.func111, Tryz.ntmps111
     go_wp2_with fail
     (with_reducible refine HP1.out.mono ?_); rintro e wx ⟨rfl, rfl⟩
     go_wp2_with fail
     (with_reducible refine HP2.out.mono ?_); rintro e wx ⟨rfl, rfl⟩
     go_wp2_with fail
     go_ret
     exact ⟨rfl, HBX.out⟩
  ·have hres : decide ((a ≠ [] ∧ Clean a) ∧ (b ≠ [] ∧ Clean b) ∧ Nat.gcd (val a) (val b) = 1) = false := decide_eq_false fun h => c1 h.1
   rw [hres]
   rw [decide_eq_false c1] at hp1
   have HP1 := qHd hp1; have HP2 := qHd hp2
   clear hp1 hp2 hres
   rcases hab with hab | ⟨hab, hab2⟩
   ·go_enter Tryz.func111, Tryz.ntmps111
    go_wp2_with fail
    (with_reducible refine HP1.out.mono ?_); rintro e wx ⟨rfl, rfl⟩
    go_wp2_with fail
    go_ret
    exact ⟨rfl, HBX.out⟩
   ·go_enter Tryz.func111, Tryz.ntmps111
    go_wp2_with fail
    (with_reducible refine HP1.out.mono ?_); rintro e wx ⟨rfl, rfl⟩
    go_wp2_with fail
    go_ret
    exact ⟨rfl, HBX.out⟩
def RetParts (w : World) (q : Rat) (e : Ending) (w' : World) : Prop := ∃ vn vd, e = .returned (.tuple #[.bool (ng q), vn, vd]) ∧ Below w.heap.size w w' ∧ Num w' vn (wd (nn q)) ∧ Num w' vd (wd q.den)

theorem qcu (v : Value) (q : Rat) (w : World) (h : qbs w v q) :
  Calls Tryz.prog 73 #[v] w (RetParts w q) := by
 obtain ⟨s, a, b, hv, rfl, hla, hlb⟩ := h
 obtain ⟨va, vb, rfl, ha, hb⟩ := hv
 obtain ⟨ao, ca, rfl, hca, hca2, _⟩ := ha.shape
 obtain ⟨bo, cb, rfl, hcb, hcb2, _⟩ := hb.shape
 have hbx : Below w.heap.size w (w.alloc (.cells #[.bool s, .slice ao a.length ca, .slice bo b.length cb] 54)) := (Below.refl _ _).alloc (Nat.le_refl _) _
 have hvl := qfp _ s a b _ (⟨_, _, rfl, ha.below hbx, hb.below hbx⟩ : RatV (w.alloc (.cells #[.bool s, .slice ao a.length ca, .slice bo b.length cb] 54)) _ s a b) (by omega) (by omega)
 by_cases h0 : rq s a b = 0
 ·rw [h0]
  have hbad : decide (Vld s a b) = false ∨ decide (Vld s a b) = true ∧ a.length = 0 := by
   by_cases hv : Vld s a b
   ·right
    obtain ⟨_, e, _⟩ := vld_fields ha.lt hb.lt hv
    rw [h0, nn_zero, qca] at e
    exact ⟨decide_eq_true hv, by rw [e]; rfl⟩
   ·left; exact decide_eq_false hv
  have HBX := qHd hbx; clear hbx h0
  rcases hbad with hd | ⟨hd, hl⟩
  ·rw [hd] at hvl
   have HV := qHd hvl; clear hvl hd ha hb
   go_enter Tryz.func73, Tryz.ntmps73
   go_wp2_with fail
   (with_reducible refine HV.out.mono ?_); rintro e w1 ⟨rfl, hb1⟩
   go_wp2_with fail
   (with_reducible refine (one_any _).mono ?_); rintro e w2 ⟨v2, rfl, hb2, hn2⟩
   go_wp2_with fail
   go_ret3
   exact ⟨_, _, rfl, (HBX.out.step hb1).step hb2, by rw [nn_zero, qca]; exact Num.nil _, hn2⟩
  ·rw [hd] at hvl
   have c1 := fun w1 (h : Below _ _ w1) => box_kept (w := w) (cs := #[.bool s, .slice ao a.length ca, .slice bo b.length cb]) (T := 54) (w1 := w1) h 1
   have C1 := qHd c1
   have HV := qHd hvl; have HL := qHd hl; clear hvl hd c1 ha hb hl
   go_enter Tryz.func73, Tryz.ntmps73
   go_wp2_with fail
   (with_reducible refine HV.out.mono ?_); rintro e w1 ⟨rfl, hb1⟩
   have c1 : w1.cell? ⟨w.heap.size, 1, none⟩ = some (.slice ao a.length ca) := C1.out w1 hb1
   rw [HL.out] at c1
   go_wp2_with fail
   (with_reducible refine (one_any _).mono ?_); rintro e w2 ⟨v2, rfl, hb2, hn2⟩
   go_wp2_with fail
   go_ret3
   exact ⟨_, _, rfl, (HBX.out.step hb1).step hb2, by rw [nn_zero, qca]; exact Num.nil _, hn2⟩
 ·have hv : Vld s a b := Decidable.byContradiction fun h => h0 (rq_invalid h)
  obtain ⟨e1, e2, e3⟩ := vld_fields ha.lt hb.lt hv
  rw [dn_pos h0] at e3
  have hl : ((a.length : Int) == 0) = false := by
   rw [beq_eq_false_iff_ne]
   intro h
   have : a = [] := List.eq_nil_of_length_eq_zero (by omega)
   rw [e2] at this
   exact wd_ne (fun e => h0 (qfm.1 e)) this
  rw [decide_eq_true hv] at hvl
  have HE := qHd (And.intro e1 (And.intro e2 e3)); have HBX := qHd hbx; have HA := qHd (ha.below hbx); have HB := qHd (hb.below hbx); have HV := qHd hvl
  have bk := fun w1 (h : Below _ _ w1) j => box_kept (w := w) (cs := #[.bool s, .slice ao a.length ca, .slice bo b.length cb]) (T := 54) (w1 := w1) h j
  have BK := qHd bk
  clear e1 e2 e3 hbx ha hb hv hvl bk h0
  go_enter Tryz.func73, Tryz.ntmps73
  go_wp2_with fail
  (with_reducible refine HV.out.mono ?_); rintro e w1 ⟨rfl, hb1⟩
  have c0 : w1.cell? ⟨w.heap.size, 0, none⟩ = some (.bool s) := BK.out w1 hb1 0
  have c1 : w1.cell? ⟨w.heap.size, 1, none⟩ = some (.slice ao a.length ca) := BK.out w1 hb1 1
  have c2 : w1.cell? ⟨w.heap.size, 2, none⟩ = some (.slice bo b.length cb) := BK.out w1 hb1 2
  go_wp2_with fail
  go_quiet (fail)
  go_wp2_with fail
  go_ret3
  obtain ⟨e1, e2, e3⟩ := HE.out
  refine ⟨.slice ao a.length ca, .slice bo b.length cb, by rw [← e1]; rfl, qbg (HBX.out.step hb1) _, ?_, ?_⟩
  ·rw [← e2]; exact (HA.out.below hb1).below (qbg (Below.refl _ _) _)
  ·rw [← e3]; exact (HB.out.below hb1).below (qbg (Below.refl _ _) _)

theorem frozen_kept {w w1 : World} {cs : Array Value} {T : TypeId} (hb : Below (w.alloc (.cells cs T)).heap.size (w.alloc (.cells cs T)) w1) (j : Nat) :
  w1.frozen? ⟨w.heap.size, j, none⟩ = false := by
 have h : w1.heap[w.heap.size]? = some (.cells cs T) := by
  rw [hb.block _ (by simp)]; exact heap_alloc_new w _
 simp [World.frozen?, h]

theorem heap_kept {w w1 : World} {o : Obj} (hb : Below (w.alloc o).heap.size (w.alloc o) w1) : w1.heap[w.heap.size]? = some o := by
 rw [hb.block _ (by simp)]; exact heap_alloc_new w _
def put3 (w : World) (g : Nat) (x y z : Value) : World := ((w.setCell ⟨g, 0, none⟩ x).setCell ⟨g, 1, none⟩ y).setCell ⟨g, 2, none⟩ z
theorem qcf {w : World} {g : Nat} {a b c x y z : Value} {T : TypeId} (h : w.heap[g]? = some (.cells #[a, b, c] T)) : (put3 w g x y z).heap[g]? = some (.cells #[x, y, z] T) := by
 unfold put3 World.setCell
 simp [Array.getElem?_modify, h]
theorem qbt {w0 w : World} {B g : Nat} (h : Below B w0 w) (hg : B ≤ g) (x y z : Value) : Below B w0 (put3 w g x y z) :=
 ((h.setCell hg x).setCell hg y).setCell hg z
theorem put3_num {w : World} {g : Nat} {v : Value} {l : List Nat} {x y z : Value} {a b c : Value} {T : TypeId} (hn : Num w v l) (h : w.heap[g]? = some (.cells #[a, b, c] T)) (ha : ∀ n : Int, a ≠ .int .u32 n) (hb : ∀ n : Int, b ≠ .int .u32 n) (hc : ∀ n : Int, c ≠ .int .u32 n) : Num (put3 w g x y z) v l := by
 obtain ⟨ao, k, rfl, h1, h2, h3, h4, h5⟩ := hn
 refine ⟨ao, k, rfl, h1, h2, h3, ?_, h5⟩
 intro b' off s hs
 obtain ⟨k1, k2⟩ := h4 b' off s hs
 have hsz : (put3 w g x y z).heap.size = w.heap.size := by simp [put3, World.setCell]
 refine ⟨fun h0 => by rw [hsz]; exact k1 h0, fun j hj => ?_⟩
 by_cases he : b' = g
 ·subst he
  have := k2 j hj
  rw [cell_of_row w b' (off + j) _ _ _ h] at this
  have hsz3 : off + j < 3 := by
   have := (Array.getElem?_eq_some_iff.1 this).1; simpa using this
  have e : off + j = 0 ∨ off + j = 1 ∨ off + j = 2 := by omega
  rcases e with e | e | e <;> rw [e] at this <;> simp at this
  ·exact absurd this (ha _)
  ·exact absurd this (hb _)
  ·exact absurd this (hc _)
 ·rw [← k2 j hj]
  unfold World.cell?
  have e : (put3 w g x y z).heap[b']? = w.heap[b']? := by
   unfold put3
   rw [Below.heap_setCell _ _ _ _ he, Below.heap_setCell _ _ _ _ he, Below.heap_setCell _ _ _ _ he]
  simp only [e]
theorem rat_info : (Tryz.prog.info? 54).map (·.size) = some 3 := by kernel_rfl
theorem qde {fn : Func} {R : Ending → World → Prop} {a : Act} {w : World} {p : Tmp} (h : fn.results = #[.cell p 54]) (g : Nat) (x y z : Value)
  (hp : a.tmps.getD p undef = .pointer (some ⟨g, 0, none⟩)) (hg : w.heap[g]? = some (.cells #[x, y, z] 54)) (hd : a.defers = []) (hR : R (.returned (.agg #[x, y, z])) w) : bodyPost Tryz.prog fn R .ret a w :=
 bodyPost_ret (results_cell_row h a.tmps w g 54 _ _ _ hp hg Tryz.underlying54 rfl rat_info) hd hR
theorem qft {fn : Func} {R : Ending → World → Prop} {a : Act} {w : World} {p u : Tmp} (h : fn.results = #[.cell p 54, .tmp u]) (g : Nat) (x y z : Value)
  (hp : a.tmps.getD p undef = .pointer (some ⟨g, 0, none⟩)) (hg : w.heap[g]? = some (.cells #[x, y, z] 54)) (hd : a.defers = []) (hR : R (.returned (.tuple #[.agg #[x, y, z], a.tmps.getD u undef])) w) : bodyPost Tryz.prog fn R .ret a w := by
 refine bodyPost_ret (v := .tuple #[.agg #[x, y, z], a.tmps.getD u undef]) ?_ hd hR
 rw [results_cell_tmp h, hp]
 simp only [asAddr, Sem.run_pure, Result.andThen, run_loadVar_row w g 54 54 _ _ _ hg Tryz.underlying54 rfl rat_info]

theorem form_any (s : Bool) (vn vd : Value) (a b : List Nat) (w : World) (ha : Num w vn a) (hb : Num w vd b) (hla : a.length ≤ 400000) (hlb : b.length ≤ 400000) (hd : val b ≠ 0) :
  Calls Tryz.prog 88 #[.bool s, vn, vd] w (RetR w (qm s (val a) (val b))) := by
 have hbx : Below w.heap.size w (w.alloc (.cells #[.bool false, .slice none 0 0, .slice none 0 0] 54)) := (Below.refl _ _).alloc (Nat.le_refl _) _
 have hbits := bits_any vn a _ (ha.below hbx) (by omega)
 have HBX := qHd hbx
 by_cases h0 : val a = 0
 ·rw [h0, blen_zero] at hbits
  rw [h0, qm_zero]
  have HB := qHd hbits; clear hbits h0 ha hb hbx
  go_enter Tryz.func88, Tryz.ntmps88
  go_wp2_with fail
  (with_reducible refine HB.out.mono ?_); rintro e w1 ⟨rfl, rfl⟩
  go_wp2_with fail
  refine qde rfl w.heap.size _ _ _ rfl (heap_alloc_new w _) rfl ?_
  exact ⟨_, rfl, HBX.out, qdg _⟩
 ·have hz : ((blen (val a) : Int) == 0) = false := by
   rw [beq_eq_false_iff_ne]; have := blen_pos.2 h0; omega
  have hgd := gcd_any vn vd a b _ (ha.below hbx) (hb.below hbx) (by omega) (by omega)
  obtain ⟨bl, hbl⟩ : ∃ bl, bl = blen (val a) := ⟨_, rfl⟩
  rw [← hbl] at hbits hz
  have hl1 := qbp ha.lt
  have hl2 := qbp hb.lt
  have hgl : (wd (Nat.gcd (val a) (val b))).length ≤ 400000 := by
   have h3 := qbk (Nat.le_of_dvd (Nat.pos_of_ne_zero h0) (Nat.gcd_dvd_left (val a) (val b)))
   omega
  have hg0 : Nat.gcd (val a) (val b) ≠ 0 := fun h => h0 (Nat.eq_zero_of_gcd_eq_zero_left h)
  have hR : ng (qm s (val a) (val b)) = s ∧ nn (qm s (val a) (val b)) = val a / Nat.gcd (val a) (val b) ∧ dn (qm s (val a) (val b)) = val b / Nat.gcd (val a) (val b) :=
   ⟨ng_qm hd h0, nn_qm hd, dn_qm hd h0⟩
  obtain ⟨q, hq⟩ : ∃ q, q = qm s (val a) (val b) := ⟨_, rfl⟩
  rw [← hq] at hR ⊢
  obtain ⟨g, hg⟩ : ∃ g, g = Nat.gcd (val a) (val b) := ⟨_, rfl⟩
  rw [← hg] at hgd hgl hg0 hR
  have HR := qHd hR; have HBI := qHd hbits; have HGD := qHd hgd; have HA := qHd (ha.below hbx); have HB := qHd (hb.below hbx); have HG0 := qHd hg0
  clear hR hbits hgd ha hb hg0 hg hq hbl hbx h0
  go_enter Tryz.func88, Tryz.ntmps88
  go_wp2_with fail
  (with_reducible refine HBI.out.mono ?_); rintro e w1 ⟨rfl, rfl⟩
  go_wp2_with fail
  (with_reducible refine HGD.out.mono ?_); rintro e w1 ⟨v1, l1, rfl, hb1, hn1, rfl⟩
  have hd1 := div_any vn v1 a _ w1 (HA.out.below hb1) hn1 (by omega) (by omega) (by rw [qaz]; exact HG0.out)
  rw [qaz, qbi] at hd1
  have HD1 := qHd hd1; have HB1 := qHd hb1; have HN1 := qHd hn1
  clear hd1 hn1
  go_wp2_with fail
  (with_reducible refine HD1.out.mono ?_); rintro e w2 ⟨v2, u2, rfl, hb2, hn2, _⟩
  have hd2 := div_any vd v1 b _ w2 ((HB.out.below hb1).below hb2) (HN1.out.below hb2) (by omega) (by omega) (by rw [qaz]; exact HG0.out)
  rw [qaz, qbi] at hd2
  have HD2 := qHd hd2; have HB2 := qHd (HB1.out.step hb2); have HN2 := qHd hn2
  clear hd2 hn2 hb1
  go_wp2_with fail
  (with_reducible refine HD2.out.mono ?_); rintro e w3 ⟨v3, u3, rfl, hb3, hn3, _⟩
  have HB3 := qHd (HB2.out.step hb3); have HN2 := qHd (HN2.out.below hb3); have HN3 := qHd hn3
  clear hn3 hb2
  obtain ⟨o2, k2, rfl, _, _, _⟩ := HN2.out.shape
  obtain ⟨o3, k3, rfl, _, _, _⟩ := HN3.out.shape
  have f0 := frozen_kept HB3.out 0
  have f1 := frozen_kept HB3.out 1
  have f2 := frozen_kept HB3.out 2
  have c0 : w3.cell? ⟨w.heap.size, 0, none⟩ = some (.bool false) := box_kept HB3.out 0
  have c1 : w3.cell? ⟨w.heap.size, 1, none⟩ = some (.slice none 0 0) := box_kept HB3.out 1
  have c2 : w3.cell? ⟨w.heap.size, 2, none⟩ = some (.slice none 0 0) := box_kept HB3.out 2
  have hh := heap_kept HB3.out
  have HH := qHd hh; clear hh
  go_wp2_with fail
  refine qde rfl w.heap.size _ _ _ rfl (qcf HH.out) rfl ?_
  refine ⟨_, rfl, qbt (HBX.out.trans (HB3.out.mono (by simp))) (Nat.le_refl _) _ _ _, ?_⟩
  obtain ⟨e1, e2, e3⟩ := HR.out
  unfold IsR
  rw [e1, e2, e3]
  exact ⟨_, _, rfl, put3_num HN2.out HH.out (fun _ h => by cases h) (fun _ h => by cases h) (fun _ h => by cases h), put3_num HN3.out HH.out (fun _ h => by cases h) (fun _ h => by cases h) (fun _ h => by cases h)⟩
theorem wd_one_len : (wd 1).length = 1 := by rw [wd_one (by decide) (by decide)]; rfl
def zc (d : Nat) : Nat := if d = 0 then 8 else 0
theorem qm_den0 (s : Bool) (n : Nat) : qm s n 0 = 0 := by unfold qm; rw [Rat.mkRat_zero]
theorem rfrom_ok (s : Bool) (vn vd : Value) (a b : List Nat) (w : World) (ha : Num w vn a) (hb : Num w vd b) (hla : a.length ≤ 400000) (hlb : b.length ≤ 400000) (hd : val b ≠ 0) :
  Calls Tryz.prog 107 #[.bool s, vn, vd] w (RetRE w (qm s (val a) (val b)) (.int .i64 0)) := by
 have hbx : Below w.heap.size w (w.alloc (.cells #[.bool false, .slice none 0 0, .slice none 0 0] 54)) := (Below.refl _ _).alloc (Nat.le_refl _) _
 have hbits := rbits_any vn a _ (ha.below hbx) (by omega)
 have hbd := rbits_any vd b _ (hb.below hbx) (by omega)
 have hdz : ((blen (val b) : Int) == 0) = false := by
  rw [beq_eq_false_iff_ne]; have := blen_pos.2 hd; omega
 obtain ⟨bd, hbde⟩ : ∃ bd, bd = blen (val b) := ⟨_, rfl⟩
 rw [← hbde] at hbd hdz
 have HBD := qHd hbd
 clear hbde hbd
 have HBX := qHd hbx
 by_cases h0 : val a = 0
 ·rw [h0, blen_zero] at hbits
  rw [h0, qm_zero]
  have HB := qHd hbits; clear hbits h0 ha hb hbx
  go_enter Tryz.func107, Tryz.ntmps107
  go_wp2_with fail
  (with_reducible refine HBD.out.mono ?_); rintro e w1 ⟨rfl, rfl⟩
  go_wp2_with fail
  (with_reducible refine HB.out.mono ?_); rintro e w1 ⟨rfl, rfl⟩
  go_wp2_with fail
  refine qft rfl w.heap.size _ _ _ rfl (heap_alloc_new w _) rfl ?_
  exact ⟨_, rfl, HBX.out, qdg _⟩
 ·have hz : ((blen (val a) : Int) == 0) = false := by
   rw [beq_eq_false_iff_ne]; have := blen_pos.2 h0; omega
  have hgd := rgcd_any vn vd a b _ (ha.below hbx) (hb.below hbx) (by omega) (by omega)
  obtain ⟨bl, hbl⟩ : ∃ bl, bl = blen (val a) := ⟨_, rfl⟩
  rw [← hbl] at hbits hz
  have hl1 := qbp ha.lt
  have hl2 := qbp hb.lt
  have hgl : (wd (Nat.gcd (val a) (val b))).length ≤ 400000 := by
   have h3 := qbk (Nat.le_of_dvd (Nat.pos_of_ne_zero h0) (Nat.gcd_dvd_left (val a) (val b)))
   omega
  have hg0 : Nat.gcd (val a) (val b) ≠ 0 := fun h => h0 (Nat.eq_zero_of_gcd_eq_zero_left h)
  have hR : ng (qm s (val a) (val b)) = s ∧ nn (qm s (val a) (val b)) = val a / Nat.gcd (val a) (val b) ∧ dn (qm s (val a) (val b)) = val b / Nat.gcd (val a) (val b) :=
   ⟨ng_qm hd h0, nn_qm hd, dn_qm hd h0⟩
  obtain ⟨q, hq⟩ : ∃ q, q = qm s (val a) (val b) := ⟨_, rfl⟩
  rw [← hq] at hR ⊢
  obtain ⟨g, hg⟩ : ∃ g, g = Nat.gcd (val a) (val b) := ⟨_, rfl⟩
  rw [← hg] at hgd hgl hg0 hR
  have HR := qHd hR; have HBI := qHd hbits; have HGD := qHd hgd; have HA := qHd (ha.below hbx); have HB := qHd (hb.below hbx); have HG0 := qHd hg0
  clear hR hbits hgd ha hb hg0 hg hq hbl hbx h0
  go_enter Tryz.func107, Tryz.ntmps107
  go_wp2_with fail
  (with_reducible refine HBD.out.mono ?_); rintro e w1 ⟨rfl, rfl⟩
  go_wp2_with fail
  (with_reducible refine HBI.out.mono ?_); rintro e w1 ⟨rfl, rfl⟩
  go_wp2_with fail
  (with_reducible refine HGD.out.mono ?_); rintro e w1 ⟨v1, l1, rfl, hb1, hn1, rfl⟩
  have hd1 := rdiv_any vn v1 a _ w1 (HA.out.below hb1) hn1 (by omega) (by omega) (by rw [qaz]; exact HG0.out)
  rw [qaz] at hd1
  have HD1 := qHd hd1; have HB1 := qHd hb1; have HN1 := qHd hn1
  clear hd1 hn1
  go_wp2_with fail
  (with_reducible refine HD1.out.mono ?_); rintro e w2 ⟨v2, u2, rfl, hb2, hn2, _⟩
  have hd2 := rdiv_any vd v1 b _ w2 ((HB.out.below hb1).below hb2) (HN1.out.below hb2) (by omega) (by omega) (by rw [qaz]; exact HG0.out)
  rw [qaz] at hd2
  have HD2 := qHd hd2; have HB2 := qHd (HB1.out.step hb2); have HN2 := qHd hn2
  clear hd2 hn2 hb1
  go_wp2_with fail
  (with_reducible refine HD2.out.mono ?_); rintro e w3 ⟨v3, u3, rfl, hb3, hn3, _⟩
  have HB3 := qHd (HB2.out.step hb3); have HN2 := qHd (HN2.out.below hb3); have HN3 := qHd hn3
  clear hn3 hb2
  obtain ⟨o2, k2, rfl, _, _, _⟩ := HN2.out.shape
  obtain ⟨o3, k3, rfl, _, _, _⟩ := HN3.out.shape
  have f0 := frozen_kept HB3.out 0
  have f1 := frozen_kept HB3.out 1
  have f2 := frozen_kept HB3.out 2
  have c0 : w3.cell? ⟨w.heap.size, 0, none⟩ = some (.bool false) := box_kept HB3.out 0
  have c1 : w3.cell? ⟨w.heap.size, 1, none⟩ = some (.slice none 0 0) := box_kept HB3.out 1
  have c2 : w3.cell? ⟨w.heap.size, 2, none⟩ = some (.slice none 0 0) := box_kept HB3.out 2
  have hh := heap_kept HB3.out
  have HH := qHd hh; clear hh
  go_wp2_with fail
  refine qft rfl w.heap.size _ _ _ rfl (qcf HH.out) rfl ?_
  refine ⟨_, rfl, qbt (HBX.out.trans (HB3.out.mono (by simp))) (Nat.le_refl _) _ _ _, ?_⟩
  obtain ⟨e1, e2, e3⟩ := HR.out
  unfold IsR
  rw [e1, e2, e3]
  exact ⟨_, _, rfl, put3_num HN2.out HH.out (fun _ h => by cases h) (fun _ h => by cases h) (fun _ h => by cases h), put3_num HN3.out HH.out (fun _ h => by cases h) (fun _ h => by cases h) (fun _ h => by cases h)⟩
theorem rfrom_zero (s : Bool) (vn vd : Value) (b : List Nat) (w : World) (hb : Num w vd b) (hlb : b.length ≤ 400000) (hd : val b = 0) :
  Calls Tryz.prog 107 #[.bool s, vn, vd] w (RetRE w 0 (.int .i64 8)) := by
 have hbx : Below w.heap.size w (w.alloc (.cells #[.bool false, .slice none 0 0, .slice none 0 0] 54)) := (Below.refl _ _).alloc (Nat.le_refl _) _
 have hbd := rbits_any vd b _ (hb.below hbx) (by omega)
 rw [hd, blen_zero] at hbd
 have HB := qHd hbd; have HBX := qHd hbx; clear hbd hd hb hbx
 go_enter Tryz.func107, Tryz.ntmps107
 go_wp2_with fail
 (with_reducible refine HB.out.mono ?_); rintro e w1 ⟨rfl, rfl⟩
 go_wp2_with fail
 refine qft rfl w.heap.size _ _ _ rfl (heap_alloc_new w _) rfl ?_
 exact ⟨_, rfl, HBX.out, qdg _⟩
theorem rfrom_any (s : Bool) (vn vd : Value) (a b : List Nat) (w : World) (ha : Num w vn a) (hb : Num w vd b) (hla : a.length ≤ 400000) (hlb : b.length ≤ 400000) :
  Calls Tryz.prog 107 #[.bool s, vn, vd] w (RetRE w (qm s (val a) (val b)) (.int .i64 (zc (val b) : Nat))) := by
 unfold zc
 by_cases hd : val b = 0
 ·rw [hd, if_pos rfl, qm_den0]; exact rfrom_zero s vn vd b w hb hlb hd
 ·rw [if_neg hd]; exact rfrom_ok s vn vd a b w ha hb hla hlb hd
theorem qaa {w w1 : World} {g : Nat} {o : Obj} (h : w.heap[g]? = some o) (hb : Below w.heap.size w w1) : w1.heap[g]? = some o := by
 rw [hb.block _ (Array.getElem?_eq_some_iff.1 h).1]; exact h
theorem qay {w : World} {g : Nat} {x y z : Value} {T : TypeId} (h : w.heap[g]? = some (.cells #[x, y, z] T)) :
  w.cell? ⟨g, 0, none⟩ = some x ∧ w.cell? ⟨g, 1, none⟩ = some y ∧ w.cell? ⟨g, 2, none⟩ = some z :=
 ⟨cell_of_row _ _ _ _ _ _ h, cell_of_row _ _ _ _ _ _ h, cell_of_row _ _ _ _ _ _ h⟩
theorem froz3 {w : World} {g : Nat} {x y z : Value} {T : TypeId} (h : w.heap[g]? = some (.cells #[x, y, z] T)) :
  w.frozen? ⟨g, 0, none⟩ = false ∧ w.frozen? ⟨g, 1, none⟩ = false ∧ w.frozen? ⟨g, 2, none⟩ = false := by
 refine ⟨?_, ?_, ?_⟩ <;> simp [World.frozen?, h]
theorem qbs.shape {w : World} {v : Value} {q : Rat} (h : qbs w v q) : ∃ s ao n c bo m d, v = .agg #[.bool s, .slice ao n c, .slice bo m d] := by
 obtain ⟨s, a, b, ⟨va, vb, rfl, h1, h2⟩, _⟩ := h
 obtain ⟨ao, c, rfl, _⟩ := h1.shape
 obtain ⟨bo, d, rfl, _⟩ := h2.shape
 exact ⟨s, ao, _, c, bo, _, d, rfl⟩
theorem IsR.shape {w : World} {v : Value} {q : Rat} (h : IsR w v q) : ∃ s ao n c bo m d, v = .agg #[.bool s, .slice ao n c, .slice bo m d] := by
 obtain ⟨va, vb, rfl, h1, h2⟩ := h
 obtain ⟨ao, c, rfl, _⟩ := h1.shape
 obtain ⟨bo, d, rfl, _⟩ := h2.shape
 exact ⟨_, ao, _, c, bo, _, d, rfl⟩
theorem ratV_put {w : World} {g : Nat} {v : Value} {s : Bool} {a b : List Nat} {x y z p q r : Value} {T : TypeId} (h : RatV w v s a b) (hg : w.heap[g]? = some (.cells #[p, q, r] T))
  (hp : ∀ n : Int, p ≠ .int .u32 n) (hq : ∀ n : Int, q ≠ .int .u32 n) (hr : ∀ n : Int, r ≠ .int .u32 n) : RatV (put3 w g x y z) v s a b := by
 obtain ⟨va, vb, rfl, h1, h2⟩ := h
 exact ⟨va, vb, rfl, put3_num h1 hg hp hq hr, put3_num h2 hg hp hq hr⟩
theorem qdx {w : World} {g : Nat} {v : Value} {u : Rat} {x y z : Value} {s : Bool} {ao bo : Option Addr} {n c m d : Nat} {T : TypeId} (h : IsR w v u) (hg : w.heap[g]? = some (.cells #[.bool s, .slice ao n c, .slice bo m d] T)) : IsR (put3 w g x y z) v u :=
 ratV_put h hg (fun _ h => by cases h) (fun _ h => by cases h) (fun _ h => by cases h)
section
variable {u v : Value} {m n : Nat} {w : World}
theorem addN (h1 : Num w u (wd m)) (h2 : Num w v (wd n)) (l1 : (wd m).length ≤ 400000) (l2 : (wd n).length ≤ 400000) : Calls Tryz.prog 105 #[u, v] w (RetN w (m + n)) := by
 have h := add_any u v _ _ w h1 h2 (by omega) (by omega)
 rw [qaz, qaz] at h; exact h.mono fun _ _ => RetNum.n
theorem mulN (h1 : Num w u (wd m)) (h2 : Num w v (wd n)) (l1 : (wd m).length ≤ 400000) (l2 : (wd n).length ≤ 400000) : Calls Tryz.prog 104 #[u, v] w (RetN w (m * n)) := by
 have h := mul_any u v _ _ w h1 h2 (by omega) (by omega)
 rw [qaz, qaz] at h; exact h.mono fun _ _ => RetNum.n
theorem cmpN_ (h1 : Num w u (wd m)) (h2 : Num w v (wd n)) (l1 : (wd m).length ≤ 400000) (l2 : (wd n).length ≤ 400000) : Calls Tryz.prog 75 #[u, v] w (qea w (.int .i64 (cmpN m n))) := by
 have h := cmp_any u v _ _ w h1 h2 (by omega) (by omega)
 rw [qaz, qaz] at h; exact h
theorem subN (h1 : Num w u (wd m)) (h2 : Num w v (wd n)) (l1 : (wd m).length ≤ 400000) (l2 : (wd n).length ≤ 400000) (hle : n ≤ m) : Calls Tryz.prog 106 #[u, v] w (RetNE w (m - n) .nilIface) := by
 have h := sub_ge u v _ _ w h1 h2 (by omega) (by omega) (by rw [qaz, qaz]; exact hle)
 rw [qaz, qaz, qbi] at h; exact h
theorem formN (s : Bool) (h1 : Num w u (wd m)) (h2 : Num w v (wd n)) (l1 : (wd m).length ≤ 400000) (l2 : (wd n).length ≤ 400000) (h0 : n ≠ 0) : Calls Tryz.prog 88 #[.bool s, u, v] w (RetR w (qm s m n)) := by
 have h := form_any s u v _ _ w h1 h2 l1 l2 (by rw [qaz]; exact h0)
 rw [qaz, qaz] at h; exact h
end
theorem qfl (w : World) (a : Obj) : (w.alloc a).heap[w.heap.size]? = some a := heap_alloc_new w a
theorem nest2_0 (w : World) (a b : Obj) : ((w.alloc a).alloc b).heap[w.heap.size]? = some a := by
 rw [heap_alloc_old _ _ (by simp), heap_alloc_new]
theorem nest2_1 (w : World) (a b : Obj) : ((w.alloc a).alloc b).heap[w.heap.size + 1]? = some b := by
 rw [show w.heap.size + 1 = (w.alloc a).heap.size from by simp, heap_alloc_new]
theorem qfw (w : World) (a b c : Obj) : (((w.alloc a).alloc b).alloc c).heap[w.heap.size]? = some a := by
 rw [heap_alloc_old _ _ (by simp; omega), nest2_0]
theorem qfv (w : World) (a b c : Obj) : (((w.alloc a).alloc b).alloc c).heap[w.heap.size + 1]? = some b := by
 rw [heap_alloc_old _ _ (by simp), nest2_1]
theorem qfu (w : World) (a b c : Obj) : (((w.alloc a).alloc b).alloc c).heap[w.heap.size + 2]? = some c := by
 rw [show w.heap.size + 2 = ((w.alloc a).alloc b).heap.size from by simp, heap_alloc_new]
theorem q_mul' (p q : Rat) : qm (!(ng p == ng q)) (nn p * nn q) (p.den * q.den) = p * q := q_mul p q
theorem neg_any (vp : Value) (p : Rat) (w : World) (hp : qbs w vp p)  :
  Calls Tryz.prog 87 #[vp] w (RetR w (-p)) := by
 obtain ⟨sp, op, np, cp, ap, mp, dp, rfl⟩ := hp.shape
 have hlp := hp.rl
 have hb0 := (((Below.refl w.heap.size w).alloc (by first | (simp; done) | (simp; omega)) (.cells #[.bool sp, .slice op np cp, .slice ap mp dp] 54)).alloc (by first | (simp; done) | (simp; omega)) (.cells #[.bool false, .slice none 0 0, .slice none 0 0] 54))
 have hxp := nest2_0 w (.cells #[.bool sp, .slice op np cp, .slice ap mp dp] 54) (.cells #[.bool false, .slice none 0 0, .slice none 0 0] 54)
 have hxR := nest2_1 w (.cells #[.bool sp, .slice op np cp, .slice ap mp dp] 54) (.cells #[.bool false, .slice none 0 0, .slice none 0 0] 54)
 have hpp := hp.below hb0
 obtain ⟨w0, hw0⟩ : ∃ w0, w0 = ((w.alloc (.cells #[.bool sp, .slice op np cp, .slice ap mp dp] 54)).alloc (.cells #[.bool false, .slice none 0 0, .slice none 0 0] 54)) := ⟨_, rfl⟩
 rw [← hw0] at hb0 hxp hxR hpp
 have HB0 := qHd hb0; have HW0 := qHd hw0
 have BXp := qHd hxp
 have BXR := qHd hxR
 have Fp := qHd hpp
 clear hb0 hw0 hxp hxR hpp hp
 have l1 := rl_n p; have l2 := rl_d p
 go_enter Tryz.func87, Tryz.ntmps87
 have hs := qcu _ p w0 Fp.out
 have HS := qHd hs; clear hs
 go_wp2_with fail
 rw [← HW0.out]
 (with_reducible refine HS.out.mono ?_); rintro e w1 ⟨v1, u1, rfl, hb1, hn1, hm1⟩
 clear HS
 have HB1 := qHd (HB0.out.step hb1)
 have Fp := qHd (Fp.out.below hb1)
 have BXp := qHd (qaa BXp.out hb1)
 have BXR := qHd (qaa BXR.out hb1)
 have N := qHd hn1
 have D := qHd hm1
 clear hn1 hm1
 clear hb1
 have hs := formN (!ng p) N.out D.out (by omega) (by omega) p.den_nz
 rw [q_neg] at hs
 have HS := qHd hs; clear hs
 go_wp2_with fail
 (with_reducible refine HS.out.mono ?_); rintro e w2 ⟨v2, rfl, hb2, hn2⟩
 clear HS
 have HB2 := qHd (HB1.out.step hb2)
 have Fp := qHd (Fp.out.below hb2)
 have N := qHd (N.out.below hb2)
 have D := qHd (D.out.below hb2)
 have BXp := qHd (qaa BXp.out hb2)
 have BXR := qHd (qaa BXR.out hb2)
 have Q := qHd hn2; clear hn2
 clear hb2
 obtain ⟨sQ, oQ, nQ, cQ, aQ, mQ, dQ, rfl⟩ := Q.out.shape
 obtain ⟨eR0, eR1, eR2⟩ := qay BXR.out
 obtain ⟨fR0, fR1, fR2⟩ := froz3 BXR.out
 go_wp2_with fail
 clear eR0 eR1 eR2 fR0 fR1 fR2
 refine qde rfl (w.heap.size + 1) _ _ _ rfl (qcf BXR.out) rfl ?_
 exact ⟨_, rfl, qbt HB2.out (by omega) _ _ _, qdx Q.out BXR.out⟩
theorem mulq_any (vp : Value) (p : Rat) (vq : Value) (q : Rat) (w : World) (hp : qbs w vp p) (hq : qbs w vq q)  :
  Calls Tryz.prog 93 #[vp, vq] w (RetR w (p * q)) := by
 obtain ⟨sp, op, np, cp, ap, mp, dp, rfl⟩ := hp.shape
 have hlp := hp.rl
 obtain ⟨sq, oq, nq, cq, aq, mq, dq, rfl⟩ := hq.shape
 have hlq := hq.rl
 have hb0 := ((((Below.refl w.heap.size w).alloc (by first | (simp; done) | (simp; omega)) (.cells #[.bool sp, .slice op np cp, .slice ap mp dp] 54)).alloc (by first | (simp; done) | (simp; omega)) (.cells #[.bool sq, .slice oq nq cq, .slice aq mq dq] 54)).alloc (by first | (simp; done) | (simp; omega)) (.cells #[.bool false, .slice none 0 0, .slice none 0 0] 54))
 have hxp := qfw w (.cells #[.bool sp, .slice op np cp, .slice ap mp dp] 54) (.cells #[.bool sq, .slice oq nq cq, .slice aq mq dq] 54) (.cells #[.bool false, .slice none 0 0, .slice none 0 0] 54)
 have hxq := qfv w (.cells #[.bool sp, .slice op np cp, .slice ap mp dp] 54) (.cells #[.bool sq, .slice oq nq cq, .slice aq mq dq] 54) (.cells #[.bool false, .slice none 0 0, .slice none 0 0] 54)
 have hxR := qfu w (.cells #[.bool sp, .slice op np cp, .slice ap mp dp] 54) (.cells #[.bool sq, .slice oq nq cq, .slice aq mq dq] 54) (.cells #[.bool false, .slice none 0 0, .slice none 0 0] 54)
 have hpp := hp.below hb0
 have hpq := hq.below hb0
 obtain ⟨w0, hw0⟩ : ∃ w0, w0 = (((w.alloc (.cells #[.bool sp, .slice op np cp, .slice ap mp dp] 54)).alloc (.cells #[.bool sq, .slice oq nq cq, .slice aq mq dq] 54)).alloc (.cells #[.bool false, .slice none 0 0, .slice none 0 0] 54)) := ⟨_, rfl⟩
 rw [← hw0] at hb0 hxp hxq hxR hpp hpq
 have HB0 := qHd hb0; have HW0 := qHd hw0
 have BXp := qHd hxp
 have BXq := qHd hxq
 have BXR := qHd hxR
 have Fp := qHd hpp
 have Fq := qHd hpq
 clear hb0 hw0 hxp hxq hxR hpp hp hpq hq
 have l1 := rl_n p; have l2 := rl_d p; have l3 := rl_n q; have l4 := rl_d q
 have L1 : (wd (nn p * nn q)).length ≤ 200000 := by have := qbn (nn p) (nn q); have := rl_n p; have := rl_n q; omega
 have L2 : (wd (p.den * q.den)).length ≤ 200000 := by have := qbn p.den q.den; have := rl_d p; have := rl_d q; omega
 go_enter Tryz.func93, Tryz.ntmps93
 have hs := qcu _ p w0 Fp.out
 have HS := qHd hs; clear hs
 go_wp2_with fail
 rw [← HW0.out]
 (with_reducible refine HS.out.mono ?_); rintro e w1 ⟨v1, u1, rfl, hb1, hn1, hm1⟩
 clear HS
 have HB1 := qHd (HB0.out.step hb1)
 have Fp := qHd (Fp.out.below hb1)
 have Fq := qHd (Fq.out.below hb1)
 have BXp := qHd (qaa BXp.out hb1)
 have BXq := qHd (qaa BXq.out hb1)
 have BXR := qHd (qaa BXR.out hb1)
 have N := qHd hn1
 have D := qHd hm1
 clear hn1 hm1
 clear hb1
 have hs := qcu _ q w1 Fq.out
 have HS := qHd hs; clear hs
 obtain ⟨eq0, eq1, eq2⟩ := qay BXq.out
 go_wp2_with fail
 clear eq0 eq1 eq2
 (with_reducible refine HS.out.mono ?_); rintro e w2 ⟨v2, u2, rfl, hb2, hn2, hm2⟩
 clear HS
 have HB2 := qHd (HB1.out.step hb2)
 have Fp := qHd (Fp.out.below hb2)
 have Fq := qHd (Fq.out.below hb2)
 have N := qHd (N.out.below hb2)
 have D := qHd (D.out.below hb2)
 have BXp := qHd (qaa BXp.out hb2)
 have BXq := qHd (qaa BXq.out hb2)
 have BXR := qHd (qaa BXR.out hb2)
 have M := qHd hn2
 have E := qHd hm2
 clear hn2 hm2
 clear hb2
 have hs := mulN N.out M.out (by omega) (by omega)
 have HS := qHd hs; clear hs
 go_wp2_with fail
 (with_reducible refine HS.out.mono ?_); rintro e w3 ⟨v3, rfl, hb3, hn3⟩
 clear HS
 have HB3 := qHd (HB2.out.step hb3)
 have Fp := qHd (Fp.out.below hb3)
 have Fq := qHd (Fq.out.below hb3)
 have N := qHd (N.out.below hb3)
 have D := qHd (D.out.below hb3)
 have M := qHd (M.out.below hb3)
 have E := qHd (E.out.below hb3)
 have BXp := qHd (qaa BXp.out hb3)
 have BXq := qHd (qaa BXq.out hb3)
 have BXR := qHd (qaa BXR.out hb3)
 have NM := qHd hn3; clear hn3
 clear hb3
 have hs := mulN D.out E.out (by omega) (by omega)
 have HS := qHd hs; clear hs
 go_wp2_with fail
 (with_reducible refine HS.out.mono ?_); rintro e w4 ⟨v4, rfl, hb4, hn4⟩
 clear HS
 have HB4 := qHd (HB3.out.step hb4)
 have Fp := qHd (Fp.out.below hb4)
 have Fq := qHd (Fq.out.below hb4)
 have N := qHd (N.out.below hb4)
 have D := qHd (D.out.below hb4)
 have M := qHd (M.out.below hb4)
 have E := qHd (E.out.below hb4)
 have NM := qHd (NM.out.below hb4)
 have BXp := qHd (qaa BXp.out hb4)
 have BXq := qHd (qaa BXq.out hb4)
 have BXR := qHd (qaa BXR.out hb4)
 have DE := qHd hn4; clear hn4
 clear hb4
 have hs := formN (!(ng p == ng q)) NM.out DE.out (by omega) (by omega) (qeg p.den_nz q.den_nz)
 rw [q_mul'] at hs
 have HS := qHd hs; clear hs
 go_wp2_with fail
 (with_reducible refine HS.out.mono ?_); rintro e w5 ⟨v5, rfl, hb5, hn5⟩
 clear HS
 have HB5 := qHd (HB4.out.step hb5)
 have Fp := qHd (Fp.out.below hb5)
 have Fq := qHd (Fq.out.below hb5)
 have N := qHd (N.out.below hb5)
 have D := qHd (D.out.below hb5)
 have M := qHd (M.out.below hb5)
 have E := qHd (E.out.below hb5)
 have NM := qHd (NM.out.below hb5)
 have DE := qHd (DE.out.below hb5)
 have BXp := qHd (qaa BXp.out hb5)
 have BXq := qHd (qaa BXq.out hb5)
 have BXR := qHd (qaa BXR.out hb5)
 have Q := qHd hn5; clear hn5
 clear hb5
 obtain ⟨sQ, oQ, nQ, cQ, aQ, mQ, dQ, rfl⟩ := Q.out.shape
 obtain ⟨eR0, eR1, eR2⟩ := qay BXR.out
 obtain ⟨fR0, fR1, fR2⟩ := froz3 BXR.out
 go_wp2_with fail
 clear eR0 eR1 eR2 fR0 fR1 fR2
 refine qde rfl (w.heap.size + 2) _ _ _ rfl (qcf BXR.out) rfl ?_
 exact ⟨_, rfl, qbt HB5.out (by omega) _ _ _, qdx Q.out BXR.out⟩
theorem add_same (vp : Value) (p : Rat) (vq : Value) (q : Rat) (w : World) (hp : qbs w vp p) (hq : qbs w vq q) (hs : ng p = ng q) :
  Calls Tryz.prog 65 #[vp, vq] w (RetR w (p + q)) := by
 obtain ⟨sp, op, np, cp, ap, mp, dp, rfl⟩ := hp.shape
 have hlp := hp.rl
 obtain ⟨sq, oq, nq, cq, aq, mq, dq, rfl⟩ := hq.shape
 have hlq := hq.rl
 have hb0 := ((((Below.refl w.heap.size w).alloc (by first | (simp; done) | (simp; omega)) (.cells #[.bool sp, .slice op np cp, .slice ap mp dp] 54)).alloc (by first | (simp; done) | (simp; omega)) (.cells #[.bool sq, .slice oq nq cq, .slice aq mq dq] 54)).alloc (by first | (simp; done) | (simp; omega)) (.cells #[.bool false, .slice none 0 0, .slice none 0 0] 54))
 have hxp := qfw w (.cells #[.bool sp, .slice op np cp, .slice ap mp dp] 54) (.cells #[.bool sq, .slice oq nq cq, .slice aq mq dq] 54) (.cells #[.bool false, .slice none 0 0, .slice none 0 0] 54)
 have hxq := qfv w (.cells #[.bool sp, .slice op np cp, .slice ap mp dp] 54) (.cells #[.bool sq, .slice oq nq cq, .slice aq mq dq] 54) (.cells #[.bool false, .slice none 0 0, .slice none 0 0] 54)
 have hxR := qfu w (.cells #[.bool sp, .slice op np cp, .slice ap mp dp] 54) (.cells #[.bool sq, .slice oq nq cq, .slice aq mq dq] 54) (.cells #[.bool false, .slice none 0 0, .slice none 0 0] 54)
 have hpp := hp.below hb0
 have hpq := hq.below hb0
 obtain ⟨w0, hw0⟩ : ∃ w0, w0 = (((w.alloc (.cells #[.bool sp, .slice op np cp, .slice ap mp dp] 54)).alloc (.cells #[.bool sq, .slice oq nq cq, .slice aq mq dq] 54)).alloc (.cells #[.bool false, .slice none 0 0, .slice none 0 0] 54)) := ⟨_, rfl⟩
 rw [← hw0] at hb0 hxp hxq hxR hpp hpq
 have HB0 := qHd hb0; have HW0 := qHd hw0
 have BXp := qHd hxp
 have BXq := qHd hxq
 have BXR := qHd hxR
 have Fp := qHd hpp
 have Fq := qHd hpq
 clear hb0 hw0 hxp hxq hxR hpp hp hpq hq
 have l1 := rl_n p; have l2 := rl_d p; have l3 := rl_n q; have l4 := rl_d q
 have L1 : (wd (nn p * q.den)).length ≤ 200000 := by have := qbn (nn p) q.den; omega
 have L2 : (wd (nn q * p.den)).length ≤ 200000 := by have := qbn (nn q) p.den; omega
 have L3 : (wd (p.den * q.den)).length ≤ 200000 := by have := qbn p.den q.den; omega
 have heq := q_add_same p q hs
 have HEQ := qHd heq; clear heq
 have L4 : (wd (nn p * q.den + nn q * p.den)).length ≤ 200001 := by have := wd_add_len (nn p * q.den) (nn q * p.den); omega
 have f1 : (ng p == ng q) = true := by rw [beq_iff_eq]; exact hs
 obtain ⟨x, hx⟩ : ∃ x, x = ng p := ⟨_, rfl⟩; obtain ⟨y, hy⟩ : ∃ y, y = ng q := ⟨_, rfl⟩
 rw [← hx, ← hy] at f1
 have HX := qHd hx; have HY := qHd hy; clear hx hy hs
 go_enter Tryz.func65, Tryz.ntmps65
 have hs := qcu _ p w0 Fp.out
 have HS := qHd hs; clear hs
 go_wp2_with fail
 rw [← HW0.out]
 (with_reducible refine HS.out.mono ?_); rintro e w1 ⟨v1, u1, rfl, hb1, hn1, hm1⟩
 clear HS
 have HB1 := qHd (HB0.out.step hb1)
 have Fp := qHd (Fp.out.below hb1)
 have Fq := qHd (Fq.out.below hb1)
 have BXp := qHd (qaa BXp.out hb1)
 have BXq := qHd (qaa BXq.out hb1)
 have BXR := qHd (qaa BXR.out hb1)
 have N := qHd hn1
 have D := qHd hm1
 clear hn1 hm1
 clear hb1
 rw [← HX.out]
 have hs := qcu _ q w1 Fq.out
 have HS := qHd hs; clear hs
 obtain ⟨eq0, eq1, eq2⟩ := qay BXq.out
 go_wp2_with fail
 clear eq0 eq1 eq2
 (with_reducible refine HS.out.mono ?_); rintro e w2 ⟨v2, u2, rfl, hb2, hn2, hm2⟩
 clear HS
 have HB2 := qHd (HB1.out.step hb2)
 have Fp := qHd (Fp.out.below hb2)
 have Fq := qHd (Fq.out.below hb2)
 have N := qHd (N.out.below hb2)
 have D := qHd (D.out.below hb2)
 have BXp := qHd (qaa BXp.out hb2)
 have BXq := qHd (qaa BXq.out hb2)
 have BXR := qHd (qaa BXR.out hb2)
 have M := qHd hn2
 have E := qHd hm2
 clear hn2 hm2
 clear hb2
 rw [← HY.out]
 have hs := mulN N.out E.out (by omega) (by omega)
 have HS := qHd hs; clear hs
 go_wp2_with fail
 (with_reducible refine HS.out.mono ?_); rintro e w3 ⟨v3, rfl, hb3, hn3⟩
 clear HS
 have HB3 := qHd (HB2.out.step hb3)
 have Fp := qHd (Fp.out.below hb3)
 have Fq := qHd (Fq.out.below hb3)
 have N := qHd (N.out.below hb3)
 have D := qHd (D.out.below hb3)
 have M := qHd (M.out.below hb3)
 have E := qHd (E.out.below hb3)
 have BXp := qHd (qaa BXp.out hb3)
 have BXq := qHd (qaa BXq.out hb3)
 have BXR := qHd (qaa BXR.out hb3)
 have X := qHd hn3; clear hn3
 clear hb3
 have hs := mulN M.out D.out (by omega) (by omega)
 have HS := qHd hs; clear hs
 go_wp2_with fail
 (with_reducible refine HS.out.mono ?_); rintro e w4 ⟨v4, rfl, hb4, hn4⟩
 clear HS
 have HB4 := qHd (HB3.out.step hb4)
 have Fp := qHd (Fp.out.below hb4)
 have Fq := qHd (Fq.out.below hb4)
 have N := qHd (N.out.below hb4)
 have D := qHd (D.out.below hb4)
 have M := qHd (M.out.below hb4)
 have E := qHd (E.out.below hb4)
 have X := qHd (X.out.below hb4)
 have BXp := qHd (qaa BXp.out hb4)
 have BXq := qHd (qaa BXq.out hb4)
 have BXR := qHd (qaa BXR.out hb4)
 have Y := qHd hn4; clear hn4
 clear hb4
 have hs := mulN D.out E.out (by omega) (by omega)
 have HS := qHd hs; clear hs
 go_wp2_with fail
 (with_reducible refine HS.out.mono ?_); rintro e w5 ⟨v5, rfl, hb5, hn5⟩
 clear HS
 have HB5 := qHd (HB4.out.step hb5)
 have Fp := qHd (Fp.out.below hb5)
 have Fq := qHd (Fq.out.below hb5)
 have N := qHd (N.out.below hb5)
 have D := qHd (D.out.below hb5)
 have M := qHd (M.out.below hb5)
 have E := qHd (E.out.below hb5)
 have X := qHd (X.out.below hb5)
 have Y := qHd (Y.out.below hb5)
 have BXp := qHd (qaa BXp.out hb5)
 have BXq := qHd (qaa BXq.out hb5)
 have BXR := qHd (qaa BXR.out hb5)
 have DE := qHd hn5; clear hn5
 clear hb5
 have hs := addN X.out Y.out (by omega) (by omega)
 have HS := qHd hs; clear hs
 go_wp2_with fail
 (with_reducible refine HS.out.mono ?_); rintro e w6 ⟨v6, rfl, hb6, hn6⟩
 clear HS
 have HB6 := qHd (HB5.out.step hb6)
 have Fp := qHd (Fp.out.below hb6)
 have Fq := qHd (Fq.out.below hb6)
 have N := qHd (N.out.below hb6)
 have D := qHd (D.out.below hb6)
 have M := qHd (M.out.below hb6)
 have E := qHd (E.out.below hb6)
 have X := qHd (X.out.below hb6)
 have Y := qHd (Y.out.below hb6)
 have DE := qHd (DE.out.below hb6)
 have BXp := qHd (qaa BXp.out hb6)
 have BXq := qHd (qaa BXq.out hb6)
 have BXR := qHd (qaa BXR.out hb6)
 have S := qHd hn6; clear hn6
 clear hb6
 have hs := formN x S.out DE.out (by omega) (by omega) (qeg p.den_nz q.den_nz)
 have HS := qHd hs; clear hs
 go_wp2_with fail
 (with_reducible refine HS.out.mono ?_); rintro e w7 ⟨v7, rfl, hb7, hn7⟩
 clear HS
 have HB7 := qHd (HB6.out.step hb7)
 have Fp := qHd (Fp.out.below hb7)
 have Fq := qHd (Fq.out.below hb7)
 have N := qHd (N.out.below hb7)
 have D := qHd (D.out.below hb7)
 have M := qHd (M.out.below hb7)
 have E := qHd (E.out.below hb7)
 have X := qHd (X.out.below hb7)
 have Y := qHd (Y.out.below hb7)
 have DE := qHd (DE.out.below hb7)
 have S := qHd (S.out.below hb7)
 have BXp := qHd (qaa BXp.out hb7)
 have BXq := qHd (qaa BXq.out hb7)
 have BXR := qHd (qaa BXR.out hb7)
 have Q := qHd hn7; clear hn7
 clear hb7
 have hq := Q.out; rw [HX.out, HEQ.out] at hq; have Q := qHd hq; clear hq
 obtain ⟨sQ, oQ, nQ, cQ, aQ, mQ, dQ, rfl⟩ := Q.out.shape
 obtain ⟨eR0, eR1, eR2⟩ := qay BXR.out
 obtain ⟨fR0, fR1, fR2⟩ := froz3 BXR.out
 go_wp2_with fail
 clear eR0 eR1 eR2 fR0 fR1 fR2
 refine qde rfl (w.heap.size + 2) _ _ _ rfl (qcf BXR.out) rfl ?_
 exact ⟨_, rfl, qbt HB7.out (by omega) _ _ _, qdx Q.out BXR.out⟩
theorem add_diff (vp : Value) (p : Rat) (vq : Value) (q : Rat) (w : World) (hp : qbs w vp p) (hq : qbs w vq q) (hs : ng p ≠ ng q) (hle : nn q * p.den ≤ nn p * q.den) :
  Calls Tryz.prog 65 #[vp, vq] w (RetR w (p + q)) := by
 obtain ⟨sp, op, np, cp, ap, mp, dp, rfl⟩ := hp.shape
 have hlp := hp.rl
 obtain ⟨sq, oq, nq, cq, aq, mq, dq, rfl⟩ := hq.shape
 have hlq := hq.rl
 have hb0 := ((((Below.refl w.heap.size w).alloc (by first | (simp; done) | (simp; omega)) (.cells #[.bool sp, .slice op np cp, .slice ap mp dp] 54)).alloc (by first | (simp; done) | (simp; omega)) (.cells #[.bool sq, .slice oq nq cq, .slice aq mq dq] 54)).alloc (by first | (simp; done) | (simp; omega)) (.cells #[.bool false, .slice none 0 0, .slice none 0 0] 54))
 have hxp := qfw w (.cells #[.bool sp, .slice op np cp, .slice ap mp dp] 54) (.cells #[.bool sq, .slice oq nq cq, .slice aq mq dq] 54) (.cells #[.bool false, .slice none 0 0, .slice none 0 0] 54)
 have hxq := qfv w (.cells #[.bool sp, .slice op np cp, .slice ap mp dp] 54) (.cells #[.bool sq, .slice oq nq cq, .slice aq mq dq] 54) (.cells #[.bool false, .slice none 0 0, .slice none 0 0] 54)
 have hxR := qfu w (.cells #[.bool sp, .slice op np cp, .slice ap mp dp] 54) (.cells #[.bool sq, .slice oq nq cq, .slice aq mq dq] 54) (.cells #[.bool false, .slice none 0 0, .slice none 0 0] 54)
 have hpp := hp.below hb0
 have hpq := hq.below hb0
 obtain ⟨w0, hw0⟩ : ∃ w0, w0 = (((w.alloc (.cells #[.bool sp, .slice op np cp, .slice ap mp dp] 54)).alloc (.cells #[.bool sq, .slice oq nq cq, .slice aq mq dq] 54)).alloc (.cells #[.bool false, .slice none 0 0, .slice none 0 0] 54)) := ⟨_, rfl⟩
 rw [← hw0] at hb0 hxp hxq hxR hpp hpq
 have HB0 := qHd hb0; have HW0 := qHd hw0
 have BXp := qHd hxp
 have BXq := qHd hxq
 have BXR := qHd hxR
 have Fp := qHd hpp
 have Fq := qHd hpq
 clear hb0 hw0 hxp hxq hxR hpp hp hpq hq
 have l1 := rl_n p; have l2 := rl_d p; have l3 := rl_n q; have l4 := rl_d q
 have L1 : (wd (nn p * q.den)).length ≤ 200000 := by have := qbn (nn p) q.den; omega
 have L2 : (wd (nn q * p.den)).length ≤ 200000 := by have := qbn (nn q) p.den; omega
 have L3 : (wd (p.den * q.den)).length ≤ 200000 := by have := qbn p.den q.den; omega
 have heq := q_add_diff p q hs hle
 have HEQ := qHd heq; clear heq
 have f1 : (ng p == ng q) = false := by rw [beq_eq_false_iff_ne]; exact hs
 obtain ⟨c, hc⟩ : ∃ c, c = cmpN (nn p * q.den) (nn q * p.den) := ⟨_, rfl⟩
 have L4 : (wd (nn p * q.den - nn q * p.den)).length ≤ 200000 := by exact Nat.le_trans (qbk (Nat.sub_le _ _)) L1
 have f2 : decide (0 ≤ c) = true := by rw [hc, decide_eq_true_eq]; unfold cmpN; rw [if_neg (by omega)]; split <;> decide
 have HC := qHd hc; have HLE := qHd hle; clear hc hle
 obtain ⟨x, hx⟩ : ∃ x, x = ng p := ⟨_, rfl⟩; obtain ⟨y, hy⟩ : ∃ y, y = ng q := ⟨_, rfl⟩
 rw [← hx, ← hy] at f1
 have HX := qHd hx; have HY := qHd hy; clear hx hy hs
 go_enter Tryz.func65, Tryz.ntmps65
 have hs := qcu _ p w0 Fp.out
 have HS := qHd hs; clear hs
 go_wp2_with fail
 rw [← HW0.out]
 (with_reducible refine HS.out.mono ?_); rintro e w1 ⟨v1, u1, rfl, hb1, hn1, hm1⟩
 clear HS
 have HB1 := qHd (HB0.out.step hb1)
 have Fp := qHd (Fp.out.below hb1)
 have Fq := qHd (Fq.out.below hb1)
 have BXp := qHd (qaa BXp.out hb1)
 have BXq := qHd (qaa BXq.out hb1)
 have BXR := qHd (qaa BXR.out hb1)
 have N := qHd hn1
 have D := qHd hm1
 clear hn1 hm1
 clear hb1
 rw [← HX.out]
 have hs := qcu _ q w1 Fq.out
 have HS := qHd hs; clear hs
 obtain ⟨eq0, eq1, eq2⟩ := qay BXq.out
 go_wp2_with fail
 clear eq0 eq1 eq2
 (with_reducible refine HS.out.mono ?_); rintro e w2 ⟨v2, u2, rfl, hb2, hn2, hm2⟩
 clear HS
 have HB2 := qHd (HB1.out.step hb2)
 have Fp := qHd (Fp.out.below hb2)
 have Fq := qHd (Fq.out.below hb2)
 have N := qHd (N.out.below hb2)
 have D := qHd (D.out.below hb2)
 have BXp := qHd (qaa BXp.out hb2)
 have BXq := qHd (qaa BXq.out hb2)
 have BXR := qHd (qaa BXR.out hb2)
 have M := qHd hn2
 have E := qHd hm2
 clear hn2 hm2
 clear hb2
 rw [← HY.out]
 have hs := mulN N.out E.out (by omega) (by omega)
 have HS := qHd hs; clear hs
 go_wp2_with fail
 (with_reducible refine HS.out.mono ?_); rintro e w3 ⟨v3, rfl, hb3, hn3⟩
 clear HS
 have HB3 := qHd (HB2.out.step hb3)
 have Fp := qHd (Fp.out.below hb3)
 have Fq := qHd (Fq.out.below hb3)
 have N := qHd (N.out.below hb3)
 have D := qHd (D.out.below hb3)
 have M := qHd (M.out.below hb3)
 have E := qHd (E.out.below hb3)
 have BXp := qHd (qaa BXp.out hb3)
 have BXq := qHd (qaa BXq.out hb3)
 have BXR := qHd (qaa BXR.out hb3)
 have X := qHd hn3; clear hn3
 clear hb3
 have hs := mulN M.out D.out (by omega) (by omega)
 have HS := qHd hs; clear hs
 go_wp2_with fail
 (with_reducible refine HS.out.mono ?_); rintro e w4 ⟨v4, rfl, hb4, hn4⟩
 clear HS
 have HB4 := qHd (HB3.out.step hb4)
 have Fp := qHd (Fp.out.below hb4)
 have Fq := qHd (Fq.out.below hb4)
 have N := qHd (N.out.below hb4)
 have D := qHd (D.out.below hb4)
 have M := qHd (M.out.below hb4)
 have E := qHd (E.out.below hb4)
 have X := qHd (X.out.below hb4)
 have BXp := qHd (qaa BXp.out hb4)
 have BXq := qHd (qaa BXq.out hb4)
 have BXR := qHd (qaa BXR.out hb4)
 have Y := qHd hn4; clear hn4
 clear hb4
 have hs := mulN D.out E.out (by omega) (by omega)
 have HS := qHd hs; clear hs
 go_wp2_with fail
 (with_reducible refine HS.out.mono ?_); rintro e w5 ⟨v5, rfl, hb5, hn5⟩
 clear HS
 have HB5 := qHd (HB4.out.step hb5)
 have Fp := qHd (Fp.out.below hb5)
 have Fq := qHd (Fq.out.below hb5)
 have N := qHd (N.out.below hb5)
 have D := qHd (D.out.below hb5)
 have M := qHd (M.out.below hb5)
 have E := qHd (E.out.below hb5)
 have X := qHd (X.out.below hb5)
 have Y := qHd (Y.out.below hb5)
 have BXp := qHd (qaa BXp.out hb5)
 have BXq := qHd (qaa BXq.out hb5)
 have BXR := qHd (qaa BXR.out hb5)
 have DE := qHd hn5; clear hn5
 clear hb5
 have hs := cmpN_ X.out Y.out (by omega) (by omega)
 rw [← HC.out] at hs
 have HS := qHd hs; clear hs
 go_wp2_with fail
 (with_reducible refine HS.out.mono ?_); rintro e w6 ⟨rfl, hb6⟩
 clear HS
 have HB6 := qHd (HB5.out.step hb6)
 have Fp := qHd (Fp.out.below hb6)
 have Fq := qHd (Fq.out.below hb6)
 have N := qHd (N.out.below hb6)
 have D := qHd (D.out.below hb6)
 have M := qHd (M.out.below hb6)
 have E := qHd (E.out.below hb6)
 have X := qHd (X.out.below hb6)
 have Y := qHd (Y.out.below hb6)
 have DE := qHd (DE.out.below hb6)
 have BXp := qHd (qaa BXp.out hb6)
 have BXq := qHd (qaa BXq.out hb6)
 have BXR := qHd (qaa BXR.out hb6)
 clear hb6
 have hs := subN X.out Y.out (by omega) (by omega) HLE.out
 have HS := qHd hs; clear hs
 go_wp2_with fail
 (with_reducible refine HS.out.mono ?_); rintro e w7 ⟨v7, rfl, hb7, hn7⟩
 clear HS
 have HB7 := qHd (HB6.out.step hb7)
 have Fp := qHd (Fp.out.below hb7)
 have Fq := qHd (Fq.out.below hb7)
 have N := qHd (N.out.below hb7)
 have D := qHd (D.out.below hb7)
 have M := qHd (M.out.below hb7)
 have E := qHd (E.out.below hb7)
 have X := qHd (X.out.below hb7)
 have Y := qHd (Y.out.below hb7)
 have DE := qHd (DE.out.below hb7)
 have BXp := qHd (qaa BXp.out hb7)
 have BXq := qHd (qaa BXq.out hb7)
 have BXR := qHd (qaa BXR.out hb7)
 have S := qHd hn7; clear hn7
 clear hb7
 have hs := formN x S.out DE.out (by omega) (by omega) (qeg p.den_nz q.den_nz)
 have HS := qHd hs; clear hs
 go_wp2_with fail
 (with_reducible refine HS.out.mono ?_); rintro e w8 ⟨v8, rfl, hb8, hn8⟩
 clear HS
 have HB8 := qHd (HB7.out.step hb8)
 have Fp := qHd (Fp.out.below hb8)
 have Fq := qHd (Fq.out.below hb8)
 have N := qHd (N.out.below hb8)
 have D := qHd (D.out.below hb8)
 have M := qHd (M.out.below hb8)
 have E := qHd (E.out.below hb8)
 have X := qHd (X.out.below hb8)
 have Y := qHd (Y.out.below hb8)
 have DE := qHd (DE.out.below hb8)
 have S := qHd (S.out.below hb8)
 have BXp := qHd (qaa BXp.out hb8)
 have BXq := qHd (qaa BXq.out hb8)
 have BXR := qHd (qaa BXR.out hb8)
 have Q := qHd hn8; clear hn8
 clear hb8
 have hq := Q.out; rw [HX.out, HEQ.out] at hq; have Q := qHd hq; clear hq
 obtain ⟨sQ, oQ, nQ, cQ, aQ, mQ, dQ, rfl⟩ := Q.out.shape
 obtain ⟨eR0, eR1, eR2⟩ := qay BXR.out
 obtain ⟨fR0, fR1, fR2⟩ := froz3 BXR.out
 go_wp2_with fail
 clear eR0 eR1 eR2 fR0 fR1 fR2
 refine qde rfl (w.heap.size + 2) _ _ _ rfl (qcf BXR.out) rfl ?_
 exact ⟨_, rfl, qbt HB8.out (by omega) _ _ _, qdx Q.out BXR.out⟩
theorem add_diff' (vp : Value) (p : Rat) (vq : Value) (q : Rat) (w : World) (hp : qbs w vp p) (hq : qbs w vq q) (hs : ng p ≠ ng q) (hle : nn p * q.den < nn q * p.den) :
  Calls Tryz.prog 65 #[vp, vq] w (RetR w (p + q)) := by
 obtain ⟨sp, op, np, cp, ap, mp, dp, rfl⟩ := hp.shape
 have hlp := hp.rl
 obtain ⟨sq, oq, nq, cq, aq, mq, dq, rfl⟩ := hq.shape
 have hlq := hq.rl
 have hb0 := ((((Below.refl w.heap.size w).alloc (by first | (simp; done) | (simp; omega)) (.cells #[.bool sp, .slice op np cp, .slice ap mp dp] 54)).alloc (by first | (simp; done) | (simp; omega)) (.cells #[.bool sq, .slice oq nq cq, .slice aq mq dq] 54)).alloc (by first | (simp; done) | (simp; omega)) (.cells #[.bool false, .slice none 0 0, .slice none 0 0] 54))
 have hxp := qfw w (.cells #[.bool sp, .slice op np cp, .slice ap mp dp] 54) (.cells #[.bool sq, .slice oq nq cq, .slice aq mq dq] 54) (.cells #[.bool false, .slice none 0 0, .slice none 0 0] 54)
 have hxq := qfv w (.cells #[.bool sp, .slice op np cp, .slice ap mp dp] 54) (.cells #[.bool sq, .slice oq nq cq, .slice aq mq dq] 54) (.cells #[.bool false, .slice none 0 0, .slice none 0 0] 54)
 have hxR := qfu w (.cells #[.bool sp, .slice op np cp, .slice ap mp dp] 54) (.cells #[.bool sq, .slice oq nq cq, .slice aq mq dq] 54) (.cells #[.bool false, .slice none 0 0, .slice none 0 0] 54)
 have hpp := hp.below hb0
 have hpq := hq.below hb0
 obtain ⟨w0, hw0⟩ : ∃ w0, w0 = (((w.alloc (.cells #[.bool sp, .slice op np cp, .slice ap mp dp] 54)).alloc (.cells #[.bool sq, .slice oq nq cq, .slice aq mq dq] 54)).alloc (.cells #[.bool false, .slice none 0 0, .slice none 0 0] 54)) := ⟨_, rfl⟩
 rw [← hw0] at hb0 hxp hxq hxR hpp hpq
 have HB0 := qHd hb0; have HW0 := qHd hw0
 have BXp := qHd hxp
 have BXq := qHd hxq
 have BXR := qHd hxR
 have Fp := qHd hpp
 have Fq := qHd hpq
 clear hb0 hw0 hxp hxq hxR hpp hp hpq hq
 have l1 := rl_n p; have l2 := rl_d p; have l3 := rl_n q; have l4 := rl_d q
 have L1 : (wd (nn p * q.den)).length ≤ 200000 := by have := qbn (nn p) q.den; omega
 have L2 : (wd (nn q * p.den)).length ≤ 200000 := by have := qbn (nn q) p.den; omega
 have L3 : (wd (p.den * q.den)).length ≤ 200000 := by have := qbn p.den q.den; omega
 have heq := q_add_diff' p q hs (Nat.le_of_lt hle)
 have HEQ := qHd heq; clear heq
 have f1 : (ng p == ng q) = false := by rw [beq_eq_false_iff_ne]; exact hs
 obtain ⟨c, hc⟩ : ∃ c, c = cmpN (nn p * q.den) (nn q * p.den) := ⟨_, rfl⟩
 have L4 : (wd (nn q * p.den - nn p * q.den)).length ≤ 200000 := by exact Nat.le_trans (qbk (Nat.sub_le _ _)) L2
 have f2 : decide (0 ≤ c) = false := by rw [hc, decide_eq_false_iff_not]; unfold cmpN; rw [if_pos hle]; decide
 have HC := qHd hc; have HLE := qHd hle; clear hc hle
 obtain ⟨x, hx⟩ : ∃ x, x = ng p := ⟨_, rfl⟩; obtain ⟨y, hy⟩ : ∃ y, y = ng q := ⟨_, rfl⟩
 rw [← hx, ← hy] at f1
 have HX := qHd hx; have HY := qHd hy; clear hx hy hs
 go_enter Tryz.func65, Tryz.ntmps65
 have hs := qcu _ p w0 Fp.out
 have HS := qHd hs; clear hs
 go_wp2_with fail
 rw [← HW0.out]
 (with_reducible refine HS.out.mono ?_); rintro e w1 ⟨v1, u1, rfl, hb1, hn1, hm1⟩
 clear HS
 have HB1 := qHd (HB0.out.step hb1)
 have Fp := qHd (Fp.out.below hb1)
 have Fq := qHd (Fq.out.below hb1)
 have BXp := qHd (qaa BXp.out hb1)
 have BXq := qHd (qaa BXq.out hb1)
 have BXR := qHd (qaa BXR.out hb1)
 have N := qHd hn1
 have D := qHd hm1
 clear hn1 hm1
 clear hb1
 rw [← HX.out]
 have hs := qcu _ q w1 Fq.out
 have HS := qHd hs; clear hs
 obtain ⟨eq0, eq1, eq2⟩ := qay BXq.out
 go_wp2_with fail
 clear eq0 eq1 eq2
 (with_reducible refine HS.out.mono ?_); rintro e w2 ⟨v2, u2, rfl, hb2, hn2, hm2⟩
 clear HS
 have HB2 := qHd (HB1.out.step hb2)
 have Fp := qHd (Fp.out.below hb2)
 have Fq := qHd (Fq.out.below hb2)
 have N := qHd (N.out.below hb2)
 have D := qHd (D.out.below hb2)
 have BXp := qHd (qaa BXp.out hb2)
 have BXq := qHd (qaa BXq.out hb2)
 have BXR := qHd (qaa BXR.out hb2)
 have M := qHd hn2
 have E := qHd hm2
 clear hn2 hm2
 clear hb2
 rw [← HY.out]
 have hs := mulN N.out E.out (by omega) (by omega)
 have HS := qHd hs; clear hs
 go_wp2_with fail
 (with_reducible refine HS.out.mono ?_); rintro e w3 ⟨v3, rfl, hb3, hn3⟩
 clear HS
 have HB3 := qHd (HB2.out.step hb3)
 have Fp := qHd (Fp.out.below hb3)
 have Fq := qHd (Fq.out.below hb3)
 have N := qHd (N.out.below hb3)
 have D := qHd (D.out.below hb3)
 have M := qHd (M.out.below hb3)
 have E := qHd (E.out.below hb3)
 have BXp := qHd (qaa BXp.out hb3)
 have BXq := qHd (qaa BXq.out hb3)
 have BXR := qHd (qaa BXR.out hb3)
 have X := qHd hn3; clear hn3
 clear hb3
 have hs := mulN M.out D.out (by omega) (by omega)
 have HS := qHd hs; clear hs
 go_wp2_with fail
 (with_reducible refine HS.out.mono ?_); rintro e w4 ⟨v4, rfl, hb4, hn4⟩
 clear HS
 have HB4 := qHd (HB3.out.step hb4)
 have Fp := qHd (Fp.out.below hb4)
 have Fq := qHd (Fq.out.below hb4)
 have N := qHd (N.out.below hb4)
 have D := qHd (D.out.below hb4)
 have M := qHd (M.out.below hb4)
 have E := qHd (E.out.below hb4)
 have X := qHd (X.out.below hb4)
 have BXp := qHd (qaa BXp.out hb4)
 have BXq := qHd (qaa BXq.out hb4)
 have BXR := qHd (qaa BXR.out hb4)
 have Y := qHd hn4; clear hn4
 clear hb4
 have hs := mulN D.out E.out (by omega) (by omega)
 have HS := qHd hs; clear hs
 go_wp2_with fail
 (with_reducible refine HS.out.mono ?_); rintro e w5 ⟨v5, rfl, hb5, hn5⟩
 clear HS
 have HB5 := qHd (HB4.out.step hb5)
 have Fp := qHd (Fp.out.below hb5)
 have Fq := qHd (Fq.out.below hb5)
 have N := qHd (N.out.below hb5)
 have D := qHd (D.out.below hb5)
 have M := qHd (M.out.below hb5)
 have E := qHd (E.out.below hb5)
 have X := qHd (X.out.below hb5)
 have Y := qHd (Y.out.below hb5)
 have BXp := qHd (qaa BXp.out hb5)
 have BXq := qHd (qaa BXq.out hb5)
 have BXR := qHd (qaa BXR.out hb5)
 have DE := qHd hn5; clear hn5
 clear hb5
 have hs := cmpN_ X.out Y.out (by omega) (by omega)
 rw [← HC.out] at hs
 have HS := qHd hs; clear hs
 go_wp2_with fail
 (with_reducible refine HS.out.mono ?_); rintro e w6 ⟨rfl, hb6⟩
 clear HS
 have HB6 := qHd (HB5.out.step hb6)
 have Fp := qHd (Fp.out.below hb6)
 have Fq := qHd (Fq.out.below hb6)
 have N := qHd (N.out.below hb6)
 have D := qHd (D.out.below hb6)
 have M := qHd (M.out.below hb6)
 have E := qHd (E.out.below hb6)
 have X := qHd (X.out.below hb6)
 have Y := qHd (Y.out.below hb6)
 have DE := qHd (DE.out.below hb6)
 have BXp := qHd (qaa BXp.out hb6)
 have BXq := qHd (qaa BXq.out hb6)
 have BXR := qHd (qaa BXR.out hb6)
 clear hb6
 have hs := subN Y.out X.out (by omega) (by omega) (Nat.le_of_lt HLE.out)
 have HS := qHd hs; clear hs
 go_wp2_with fail
 (with_reducible refine HS.out.mono ?_); rintro e w7 ⟨v7, rfl, hb7, hn7⟩
 clear HS
 have HB7 := qHd (HB6.out.step hb7)
 have Fp := qHd (Fp.out.below hb7)
 have Fq := qHd (Fq.out.below hb7)
 have N := qHd (N.out.below hb7)
 have D := qHd (D.out.below hb7)
 have M := qHd (M.out.below hb7)
 have E := qHd (E.out.below hb7)
 have X := qHd (X.out.below hb7)
 have Y := qHd (Y.out.below hb7)
 have DE := qHd (DE.out.below hb7)
 have BXp := qHd (qaa BXp.out hb7)
 have BXq := qHd (qaa BXq.out hb7)
 have BXR := qHd (qaa BXR.out hb7)
 have S := qHd hn7; clear hn7
 clear hb7
 have hs := formN y S.out DE.out (by omega) (by omega) (qeg p.den_nz q.den_nz)
 have HS := qHd hs; clear hs
 go_wp2_with fail
 (with_reducible refine HS.out.mono ?_); rintro e w8 ⟨v8, rfl, hb8, hn8⟩
 clear HS
 have HB8 := qHd (HB7.out.step hb8)
 have Fp := qHd (Fp.out.below hb8)
 have Fq := qHd (Fq.out.below hb8)
 have N := qHd (N.out.below hb8)
 have D := qHd (D.out.below hb8)
 have M := qHd (M.out.below hb8)
 have E := qHd (E.out.below hb8)
 have X := qHd (X.out.below hb8)
 have Y := qHd (Y.out.below hb8)
 have DE := qHd (DE.out.below hb8)
 have S := qHd (S.out.below hb8)
 have BXp := qHd (qaa BXp.out hb8)
 have BXq := qHd (qaa BXq.out hb8)
 have BXR := qHd (qaa BXR.out hb8)
 have Q := qHd hn8; clear hn8
 clear hb8
 have hq := Q.out; rw [HY.out, HEQ.out] at hq; have Q := qHd hq; clear hq
 obtain ⟨sQ, oQ, nQ, cQ, aQ, mQ, dQ, rfl⟩ := Q.out.shape
 obtain ⟨eR0, eR1, eR2⟩ := qay BXR.out
 obtain ⟨fR0, fR1, fR2⟩ := froz3 BXR.out
 go_wp2_with fail
 clear eR0 eR1 eR2 fR0 fR1 fR2
 refine qde rfl (w.heap.size + 2) _ _ _ rfl (qcf BXR.out) rfl ?_
 exact ⟨_, rfl, qbt HB8.out (by omega) _ _ _, qdx Q.out BXR.out⟩
theorem addq_any (vp : Value) (p : Rat) (vq : Value) (q : Rat) (w : World) (hp : qbs w vp p) (hq : qbs w vq q) :
  Calls Tryz.prog 65 #[vp, vq] w (RetR w (p + q)) := by
 by_cases h : ng p = ng q
 ·exact add_same vp p vq q w hp hq h
 ·rcases Nat.lt_or_ge (nn p * q.den) (nn q * p.den) with h2 | h2
  ·exact add_diff' vp p vq q w hp hq h h2
  ·exact add_diff vp p vq q w hp hq h h2
theorem put6 {w : World} {g p q : Nat} {x y z a b c d e f : Value} (hp : p ≠ g) (hq : q ≠ g) (h : w.cell? ⟨p, 0, none⟩ = some a ∧ w.cell? ⟨p, 1, none⟩ = some b ∧ w.cell? ⟨p, 2, none⟩ = some c ∧ w.cell? ⟨q, 0, none⟩ = some d ∧ w.cell? ⟨q, 1, none⟩ = some e ∧ w.cell? ⟨q, 2, none⟩ = some f) :
  (put3 w g x y z).cell? ⟨p, 0, none⟩ = some a ∧ (put3 w g x y z).cell? ⟨p, 1, none⟩ = some b ∧ (put3 w g x y z).cell? ⟨p, 2, none⟩ = some c ∧ (put3 w g x y z).cell? ⟨q, 0, none⟩ = some d ∧ (put3 w g x y z).cell? ⟨q, 1, none⟩ = some e ∧ (put3 w g x y z).cell? ⟨q, 2, none⟩ = some f := by
 obtain ⟨h1, h2, h3, h4, h5, h6⟩ := h
 have e1 : (put3 w g x y z).heap[p]? = w.heap[p]? := by
  unfold put3; rw [Below.heap_setCell _ _ _ _ hp, Below.heap_setCell _ _ _ _ hp, Below.heap_setCell _ _ _ _ hp]
 have e2 : (put3 w g x y z).heap[q]? = w.heap[q]? := by
  unfold put3; rw [Below.heap_setCell _ _ _ _ hq, Below.heap_setCell _ _ _ _ hq, Below.heap_setCell _ _ _ _ hq]
 unfold World.cell? at *
 simp only [e1, e2]
 exact ⟨h1, h2, h3, h4, h5, h6⟩
theorem wd_two63 : wd 9223372036854775808 = [0, 2147483648] := by
 rw [wd_pos (by decide), show (9223372036854775808 : Nat) % 4294967296 = 0 from rfl, show (9223372036854775808 : Nat) / 4294967296 = 2147483648 from rfl, wd_one (by decide) (by decide)]
theorem wd_small {n : Nat} (h : n ≤ 9223372036854775808) : (wd n).length ≤ 2 := qcr (Nat.lt_of_le_of_lt h (by decide))
theorem size_any (n : Int) (w : World) (h0 : -9223372036854775808 ≤ n) (h1 : n < 9223372036854775808) :
  Calls Tryz.prog 89 #[.int .i64 n] w (RetN w n.natAbs) := by
 by_cases h : n = -9223372036854775808
 ·subst h
  go_enter Tryz.func89, Tryz.ntmps89
  go_wp2_with fail
  go_ret
  refine ⟨_, rfl, (Below.refl _ _).alloc (Nat.le_refl _) _, ?_⟩
  rw [show (-9223372036854775808 : Int).natAbs = 9223372036854775808 from rfl, wd_two63]
  exact num_lit w 156 _ [0, 2147483648] 2 (U32.cons (by decide) (U32.cons (by decide) U32.nil)) rfl (by simp) rfl
 ·have f1 : (n == -9223372036854775808) = false := by rw [beq_eq_false_iff_ne]; exact h
  have hof := of_any (max n (-n)) w (by omega) (by omega)
  rw [show (max n (-n)).toNat = n.natAbs by omega] at hof
  have HO := qHd hof
  have hwr : wrap64 (-n) = -n := by unfold wrap64; omega
  clear hof h
  go_enter Tryz.func89, Tryz.ntmps89
  go_wp2_with fail
  (with_reducible refine HO.out.mono ?_); rintro e w1 ⟨v1, l1, rfl, hb1, hn1, rfl⟩
  go_wp2_with fail
  go_ret
  exact ⟨_, rfl, hb1, hn1⟩
theorem sgn_int (n : Int) : sgn (decide (n < 0)) n.natAbs = n := by
 unfold sgn
 by_cases h : n < 0
 ·rw [decide_eq_true h, if_pos rfl]; omega
 ·rw [decide_eq_false h, if_neg (by decide)]; omega
theorem q_int (n : Int) : qm (decide (n < 0)) n.natAbs 1 = (n : Rat) := by rw [qm_one, sgn_int]
theorem q_ints (n d : Int) : qm (!(decide (n < 0) == decide (d < 0))) n.natAbs d.natAbs = (n : Rat) / (d : Rat) := by
 rw [show (!(decide (n < 0) == decide (d < 0))) = (decide (n < 0) != decide (d < 0)) from rfl, qm_eq_div]
 by_cases h : d = 0
 ·subst h
  rw [show (0 : Int).natAbs = 0 from rfl, show ((0 : Nat) : Rat) = 0 from rfl, show ((0 : Int) : Rat) = 0 from rfl]; grind
 ·have e : (d : Rat) = ((sgn (decide (d < 0)) d.natAbs : Int) : Rat) := by rw [sgn_int]
  have e2 : ((sgn (decide (n < 0) != decide (d < 0)) n.natAbs : Int) : Rat) * (d : Rat) = (n : Rat) * ((d.natAbs : Nat) : Rat) := by
   rw [← Rat.intCast_natCast, ← Rat.intCast_mul, ← Rat.intCast_mul]
   congr 1
   have st : ∀ m : Nat, sgn true m = -(m : Int) := fun _ => rfl
   have sf : ∀ m : Nat, sgn false m = (m : Int) := fun _ => rfl
   by_cases h1 : n < 0 <;> by_cases h2 : d < 0
   ·rw [decide_eq_true h1, decide_eq_true h2, show (true != true) = false from rfl, sf, show ((d.natAbs : Nat) : Int) = -d by omega, show ((n.natAbs : Nat) : Int) = -n by omega]; simp [Int.neg_mul, Int.mul_neg]
   ·rw [decide_eq_true h1, decide_eq_false h2, show (true != false) = true from rfl, st, show ((d.natAbs : Nat) : Int) = d by omega, show ((n.natAbs : Nat) : Int) = -n by omega]; simp
   ·rw [decide_eq_false h1, decide_eq_true h2, show (false != true) = true from rfl, st, show ((d.natAbs : Nat) : Int) = -d by omega, show ((n.natAbs : Nat) : Int) = n by omega]; simp [Int.neg_mul, Int.mul_neg]
   ·rw [decide_eq_false h1, decide_eq_false h2, show (false != false) = false from rfl, sf, show ((d.natAbs : Nat) : Int) = d by omega, show ((n.natAbs : Nat) : Int) = n by omega]
  have d1 : (d : Rat) ≠ 0 := fun e => h (Rat.intCast_eq_zero_iff.1 e)
  have d2 : ((d.natAbs : Nat) : Rat) ≠ 0 := fun e => by have := Rat.natCast_eq_zero_iff.1 e; omega
  grind

theorem ofq_any (n : Int) (w : World)  (h0 : -9223372036854775808 ≤ n) (h1 : n < 9223372036854775808) :
  Calls Tryz.prog 51 #[.int .i64 n] w (RetR w (n : Rat)) := by
 have hb0 := ((Below.refl w.heap.size w).alloc (by first | (simp; done) | (simp; omega)) (.cells #[.bool false, .slice none 0 0, .slice none 0 0] 54))
 have hxR := qfl w (.cells #[.bool false, .slice none 0 0, .slice none 0 0] 54)
 obtain ⟨w0, hw0⟩ : ∃ w0, w0 = (w.alloc (.cells #[.bool false, .slice none 0 0, .slice none 0 0] 54)) := ⟨_, rfl⟩
 rw [← hw0] at hb0 hxR
 have HB0 := qHd hb0; have HW0 := qHd hw0
 have BXR := qHd hxR
 clear hb0 hw0 hxR
 have L1 : (wd (n.natAbs)).length ≤ 2 := by exact wd_small (by omega)
 have L2 : (wd (1)).length ≤ 1 := by rw [wd_one_len]; exact Nat.le_refl _
 have BD := qHd (And.intro h0 h1)
 go_enter Tryz.func51, Tryz.ntmps51
 have hs := size_any n w0 BD.out.1 BD.out.2
 have HS := qHd hs; clear hs
 go_wp2_with fail
 rw [← HW0.out]
 (with_reducible refine HS.out.mono ?_); rintro e w1 ⟨v1, rfl, hb1, hn1⟩
 clear HS
 have HB1 := qHd (HB0.out.step hb1)
 have BXR := qHd (qaa BXR.out hb1)
 have N := qHd hn1; clear hn1
 clear hb1
 have hs := one_any w1
 have HS := qHd hs; clear hs
 go_wp2_with fail
 (with_reducible refine HS.out.mono ?_); rintro e w2 ⟨v2, rfl, hb2, hn2⟩
 clear HS
 have HB2 := qHd (HB1.out.step hb2)
 have N := qHd (N.out.below hb2)
 have BXR := qHd (qaa BXR.out hb2)
 have O := qHd hn2; clear hn2
 clear hb2
 have hs := formN (decide (n < 0)) N.out O.out (by omega) (by omega) (by decide)
 rw [q_int] at hs
 have HS := qHd hs; clear hs
 go_wp2_with fail
 (with_reducible refine HS.out.mono ?_); rintro e w3 ⟨v3, rfl, hb3, hn3⟩
 clear HS
 have HB3 := qHd (HB2.out.step hb3)
 have N := qHd (N.out.below hb3)
 have O := qHd (O.out.below hb3)
 have BXR := qHd (qaa BXR.out hb3)
 have Q := qHd hn3; clear hn3
 clear hb3
 obtain ⟨sQ, oQ, nQ, cQ, aQ, mQ, dQ, rfl⟩ := Q.out.shape
 obtain ⟨eR0, eR1, eR2⟩ := qay BXR.out
 obtain ⟨fR0, fR1, fR2⟩ := froz3 BXR.out
 go_wp2_with fail
 clear eR0 eR1 eR2 fR0 fR1 fR2
 refine qde rfl w.heap.size _ _ _ rfl (qcf BXR.out) rfl ?_
 exact ⟨_, rfl, qbt HB3.out (by omega) _ _ _, qdx Q.out BXR.out⟩
theorem subq_any (vp : Value) (p : Rat) (vq : Value) (q : Rat) (w : World) (hp : qbs w vp p) (hq : qbs w vq q)  :
  Calls Tryz.prog 50 #[vp, vq] w (RetR w (p - q)) := by
 obtain ⟨sp, op, np, cp, ap, mp, dp, rfl⟩ := hp.shape
 have hlp := hp.rl
 obtain ⟨sq, oq, nq, cq, aq, mq, dq, rfl⟩ := hq.shape
 have hlq := hq.rl
 have hb0 := ((((Below.refl w.heap.size w).alloc (by first | (simp; done) | (simp; omega)) (.cells #[.bool sp, .slice op np cp, .slice ap mp dp] 54)).alloc (by first | (simp; done) | (simp; omega)) (.cells #[.bool sq, .slice oq nq cq, .slice aq mq dq] 54)).alloc (by first | (simp; done) | (simp; omega)) (.cells #[.bool false, .slice none 0 0, .slice none 0 0] 54))
 have hxp := qfw w (.cells #[.bool sp, .slice op np cp, .slice ap mp dp] 54) (.cells #[.bool sq, .slice oq nq cq, .slice aq mq dq] 54) (.cells #[.bool false, .slice none 0 0, .slice none 0 0] 54)
 have hxq := qfv w (.cells #[.bool sp, .slice op np cp, .slice ap mp dp] 54) (.cells #[.bool sq, .slice oq nq cq, .slice aq mq dq] 54) (.cells #[.bool false, .slice none 0 0, .slice none 0 0] 54)
 have hxR := qfu w (.cells #[.bool sp, .slice op np cp, .slice ap mp dp] 54) (.cells #[.bool sq, .slice oq nq cq, .slice aq mq dq] 54) (.cells #[.bool false, .slice none 0 0, .slice none 0 0] 54)
 have hpp := hp.below hb0
 have hpq := hq.below hb0
 obtain ⟨w0, hw0⟩ : ∃ w0, w0 = (((w.alloc (.cells #[.bool sp, .slice op np cp, .slice ap mp dp] 54)).alloc (.cells #[.bool sq, .slice oq nq cq, .slice aq mq dq] 54)).alloc (.cells #[.bool false, .slice none 0 0, .slice none 0 0] 54)) := ⟨_, rfl⟩
 rw [← hw0] at hb0 hxp hxq hxR hpp hpq
 have HB0 := qHd hb0; have HW0 := qHd hw0
 have BXp := qHd hxp
 have BXq := qHd hxq
 have BXR := qHd hxR
 have Fp := qHd hpp
 have Fq := qHd hpq
 clear hb0 hw0 hxp hxq hxR hpp hp hpq hq
 have hr : rl (-q) ≤ 100000 := by rw [rl_neg]; exact hlq
 have HD := qHd ((Below.refl w0.heap.size w0).drew)
 have hng := neg_any _ q _ (Fq.out.below HD.out)
 have HNG := qHd hng; clear hng
 have had := fun vs w1 (h1 : Below w0.heap.size w0 w1) (hs : IsR w1 vs (-q)) => addq_any _ p vs (-q) w1 (Fp.out.below h1) (hs.is hr)
 rw [← Rat.sub_eq_add_neg] at had
 have HAD := qHd had; clear had
 have ZP := qHd (fun w1 (h1 : Below w0.heap.size w0 w1) => qay (qaa BXp.out h1)); have ZQ := qHd (fun w1 (h1 : Below w0.heap.size w0 w1) => qay (qaa BXq.out h1)); have ZR := qHd (fun w1 (h1 : Below w0.heap.size w0 w1) => qay (qaa BXR.out h1)); have ZF := qHd (fun w1 (h1 : Below w0.heap.size w0 w1) => froz3 (qaa BXR.out h1))
 go_enter Tryz.func50, Tryz.ntmps50
 go_wp2_with fail
 rw [← HW0.out]
 obtain ⟨zp0, zp1, zp2⟩ := ZP.out _ HD.out; obtain ⟨zq0, zq1, zq2⟩ := ZQ.out _ HD.out
 go_region_held3 (fun wx => wx.cell? ⟨w.heap.size, 0, none⟩ = some (.bool sp) ∧ wx.cell? ⟨w.heap.size, 1, none⟩ = some (.slice op np cp) ∧ wx.cell? ⟨w.heap.size, 2, none⟩ = some (.slice ap mp dp) ∧ wx.cell? ⟨w.heap.size + 1, 0, none⟩ = some (.bool sq) ∧ wx.cell? ⟨w.heap.size + 1, 1, none⟩ = some (.slice oq nq cq) ∧ wx.cell? ⟨w.heap.size + 1, 2, none⟩ = some (.slice aq mq dq)) (first | exact ⟨zp0, zp1, zp2, zq0, zq1, zq2⟩ | exact put6 (by omega) (by omega) ⟨zp0, zp1, zp2, zq0, zq1, zq2⟩) (first
  | (go_at_call 87; (with_reducible refine HNG.out.mono ?_); rintro e w1 ⟨v1, rfl, hb1, hn1⟩; (have HB1 := qHd (HD.out.step hb1)); (have HN1 := qHd hn1); clear hb1 hn1; (obtain ⟨zp0, zp1, zp2⟩ := ZP.out _ HB1.out); (obtain ⟨zq0, zq1, zq2⟩ := ZQ.out _ HB1.out))
  | (go_at_call 65; (with_reducible refine (HAD.out _ _ HB1.out HN1.out).mono ?_); rintro e w2 ⟨v2, rfl, hb2, hn2⟩; (have HB2 := qHd (HB1.out.step hb2)); (have HN2 := qHd hn2); clear hb2 hn2; (obtain ⟨t1, t2, t3, t4, t5, t6, t7, rfl⟩ := HN2.out.shape); (obtain ⟨zp0, zp1, zp2⟩ := ZP.out _ HB2.out); (obtain ⟨zq0, zq1, zq2⟩ := ZQ.out _ HB2.out); (obtain ⟨zr0, zr1, zr2⟩ := ZR.out _ HB2.out); (obtain ⟨zf0, zf1, zf2⟩ := ZF.out _ HB2.out)))
 all_goals
  go_wp2_with fail
  have BXR2 := qaa BXR.out HB2.out
  refine qde rfl (w.heap.size + 2) _ _ _ rfl (qcf BXR2) rfl ?_
  exact ⟨_, rfl, qbt (HB0.out.step HB2.out) (by omega) _ _ _, qdx HN2.out BXR2⟩
def KIs (q : Rat) : Value → World → Prop := fun v w => IsR w v q
theorem kIs (q : Rat) : MonoF (KIs q) := fun _ _ _ h hb => IsR.below h hb
theorem qaw {w1 : World} {g : Nat} {o : Obj} (h : w1.heap[g]? = some o) : g < w1.heap.size := (Array.getElem?_eq_some_iff.1 h).1
/-! what a store of a fraction into a variable keeps -/
section
variable {w w' : World} {g : Nat} {x y z v : Value} {s s' : Bool} {o p : Option Addr} {n c m d : Nat} {T : TypeId} {q : Rat} {a b : List Nat}
end
def RetTwo (w : World) (n : Nat) (e : Ending) (w' : World) : Prop := ∃ v l, e = .returned v ∧ Below w.heap.size w w' ∧ Num w' v l ∧ val l = n ∧ l.length = 2
theorem two_words (n : Nat) : val [n % 4294967296, n / 4294967296] = n := by
 simp only [val]; omega
theorem rsize_any (n : Int) (w : World) (h0 : -9223372036854775808 ≤ n) (h1 : n < 9223372036854775808) :
  Calls Tryz.prog 108 #[.int .i64 n] w (RetTwo w n.natAbs) := by
 obtain ⟨m, hm⟩ : ∃ m, m = n.natAbs := ⟨_, rfl⟩
 rw [← hm]
 have hmb : m ≤ 9223372036854775808 := by omega
 have hlo := num_lit w 156 #[.int .u32 ((m % 4294967296 : Nat) : Int), .int .u32 ((m / 4294967296 : Nat) : Int)] [m % 4294967296, m / 4294967296] 2 (U32.cons (by omega) (U32.cons (by omega) U32.nil)) rfl (by simp) rfl
 have HLO := qHd hlo
 have e0 : ((m % 4294967296 : Nat) : Int) = (m : Int) % 4294967296 := by omega
 have e1 : ((m / 4294967296 : Nat) : Int) = (m : Int) / 4294967296 := by omega
 rw [e0, e1] at HLO
 by_cases h : n < 0
 ·have hn : n = -(m : Int) := by omega
  subst hn
  have f1 : decide (-(m : Int) < 0) = true := decide_eq_true h
  have f2 : decide (0 < m) = true := decide_eq_true (by omega)
  have hwr : IntKind.u64.wrap (-IntKind.u64.wrap (-(m : Int))) = (m : Int) := by
   have e : ∀ n : Int, IntKind.u64.wrap n = n % 18446744073709551616 := fun n => rfl
   rw [e, e]; omega
  clear hm hlo e0 e1
  go_enter Tryz.func108, Tryz.ntmps108
  go_wp2_with fail
  go_ret
  exact ⟨_, _, rfl, (Below.refl _ _).alloc (Nat.le_refl _) _, HLO.out, two_words m, rfl⟩
 ·have hn : n = (m : Int) := by omega
  subst hn
  have f1 : decide ((m : Int) < 0) = false := decide_eq_false h
  clear hm hlo e0 e1
  go_enter Tryz.func108, Tryz.ntmps108
  go_wp2_with fail
  go_ret
  exact ⟨_, _, rfl, (Below.refl _ _).alloc (Nat.le_refl _) _, HLO.out, two_words m, rfl⟩
theorem rmake_any (n : Int) (d : Int) (w : World)  (h0 : -9223372036854775808 ≤ n) (h1 : n < 9223372036854775808) (g0 : -9223372036854775808 ≤ d) (g1 : d < 9223372036854775808) :
  Calls Tryz.prog 70 #[.int .i64 n, .int .i64 d] w (RetRE w ((n : Rat) / (d : Rat)) (.int .i64 (zc d.natAbs : Nat))) := by
 have hb0 := ((Below.refl w.heap.size w).alloc (by first | (simp; done) | (simp; omega)) (.cells #[.bool false, .slice none 0 0, .slice none 0 0] 54))
 have hxR := qfl w (.cells #[.bool false, .slice none 0 0, .slice none 0 0] 54)
 obtain ⟨w0, hw0⟩ : ∃ w0, w0 = (w.alloc (.cells #[.bool false, .slice none 0 0, .slice none 0 0] 54)) := ⟨_, rfl⟩
 rw [← hw0] at hb0 hxR
 have HB0 := qHd hb0; have HW0 := qHd hw0
 have BXR := qHd hxR
 clear hb0 hw0 hxR
 have BD := qHd (And.intro h0 h1); have BG := qHd (And.intro g0 g1)
 obtain ⟨z, hz⟩ : ∃ z, z = zc d.natAbs := ⟨_, rfl⟩
 rw [← hz]
 have HZ := qHd hz; clear hz
 go_enter Tryz.func70, Tryz.ntmps70
 have hs := rsize_any n w0 BD.out.1 BD.out.2
 have HS := qHd hs; clear hs
 go_wp2_with fail
 rw [← HW0.out]
 (with_reducible refine HS.out.mono ?_); rintro e w1 ⟨v1, l1, rfl, hb1, hn1, hv1, hl1⟩
 clear HS
 have HB1 := qHd (HB0.out.step hb1)
 have BXR := qHd (qaa BXR.out hb1)
 have N := qHd hn1; have VN := qHd hv1; have LN := qHd hl1; clear hn1 hb1 hv1 hl1
 have hs := rsize_any d w1 BG.out.1 BG.out.2
 have HS := qHd hs; clear hs
 go_wp2_with fail
 (with_reducible refine HS.out.mono ?_); rintro e w2 ⟨v2, l2, rfl, hb2, hn2, hv2, hl2⟩
 clear HS
 have HB2 := qHd (HB1.out.step hb2)
 have N := qHd (N.out.below hb2)
 have BXR := qHd (qaa BXR.out hb2)
 have D := qHd hn2; have VD := qHd hv2; have LD := qHd hl2; clear hn2 hb2 hv2 hl2
 have hs := rfrom_any (!(decide (n < 0) == decide (d < 0))) _ _ _ _ w2 N.out D.out (by rw [LN.out]; decide) (by rw [LD.out]; decide)
 rw [VN.out, VD.out, q_ints, ← HZ.out] at hs
 have HS := qHd hs; clear hs
 go_wp2_with fail
 (with_reducible refine HS.out.mono ?_); rintro e w3 ⟨v3, rfl, hb3, hn3⟩
 clear HS
 have HB3 := qHd (HB2.out.step hb3)
 have N := qHd (N.out.below hb3)
 have D := qHd (D.out.below hb3)
 have BXR := qHd (qaa BXR.out hb3)
 have Q := qHd hn3; clear hn3
 clear hb3
 obtain ⟨sQ, oQ, nQ, cQ, aQ, mQ, dQ, rfl⟩ := Q.out.shape
 obtain ⟨eR0, eR1, eR2⟩ := qay BXR.out
 obtain ⟨fR0, fR1, fR2⟩ := froz3 BXR.out
 go_wp2_with fail
 refine qft rfl w.heap.size _ _ _ rfl (qcf BXR.out) rfl ?_
 exact ⟨_, rfl, qbt HB3.out (by omega) _ _ _, qdx Q.out BXR.out⟩
end Go.Proofs.YthhgfhdmfhnklaaGreatDoor
namespace Go.Proofs.YthhgfhdmfhnklaaGreatDoor
theorem RatV.fields {w : World} {s s' : Bool} {x y : Value} {a b : List Nat} (h : RatV w (.agg #[.bool s, x, y]) s' a b) : s = s' ∧ Num w x a ∧ Num w y b := by
 obtain ⟨va, vb, he, h1, h2⟩ := h
 cases he; exact ⟨rfl, h1, h2⟩
def decL (n : Nat) : List UInt8 := if n = 0 then [48] else (digD n).reverse
theorem decB_decL (n : Nat) : decB n = ⟨(decL n).toArray⟩ := by
 unfold decB decL; split <;> rfl
theorem decL_len {n k : Nat} (h : n < 10 ^ k) (hk : 0 < k) : (decL n).length ≤ k := by
 unfold decL; split
 ·exact hk
 ·rw [List.length_reverse]; exact digD_len h
theorem decL_words {n k : Nat} (h : (wd n).length ≤ k) (hk : 0 < k) : (decL n).length ≤ 10 * k := by
 refine decL_len (Nat.lt_of_lt_of_le (m := 4294967296 ^ k) ?_ (pow_ten k)) (by omega)
 have h1 := qem (qeh n)
 rw [qaz] at h1
 exact Nat.lt_of_lt_of_le h1 (Nat.pow_le_pow_right (by decide) h)
end Go.Proofs.YthhgfhdmfhnklaaGreatDoor
namespace Go.Proofs.YthhgfhdmfhnklaaGreatDoor
open Go.RowKit Go.ChangeShapes Go.WideShapes
theorem assert_yes (c : Int) (w : World) : (Instr.typeAssert (.iface 74 (.int .i64 c)) 31 74 true).run Tryz.prog w = .ok (.tuple #[.int .i64 c, .bool true]) w := by kernel_rfl
def rtx (p : Rat) : List UInt8 := (if ng p then [45] else []) ++ decL (nn p) ++ (if p.den = 1 then [] else 47 :: decL p.den)
theorem decB_size {n : Nat} (h : (wd n).length ≤ 100000) : (decB n).size ≤ 1000000 := by
 rw [decB_decL]
 have := decL_words h (by decide)
 simp [ByteArray.size]; omega
theorem cmpN_zero {m n : Nat} (h : cmpN m n = 0) : m = n := by
 unfold cmpN at h; split at h
 ·cases h
 ·split at h
  ·cases h
  ·omega
theorem text_f1 (vp : Value) (p : Rat) (w : World) (hp : qbs w vp p) (hs : ng p = false) (hd : p.den = 1) :
  Calls Tryz.prog 37 #[vp] w (qea w (.string ⟨(rtx p).toArray⟩)) := by
 obtain ⟨sp, op, np, cp, ap, mp, dp, rfl⟩ := hp.shape
 have hlp := hp.rl
 have hb0 := ((Below.refl w.heap.size w).alloc (by first | (simp; done) | (simp; omega)) (.cells #[.bool sp, .slice op np cp, .slice ap mp dp] 54))
 have hxp := qfl w (.cells #[.bool sp, .slice op np cp, .slice ap mp dp] 54)
 have hpp := hp.below hb0
 obtain ⟨w0, hw0⟩ : ∃ w0, w0 = (w.alloc (.cells #[.bool sp, .slice op np cp, .slice ap mp dp] 54)) := ⟨_, rfl⟩
 rw [← hw0] at hb0 hxp hpp
 have HB0 := qHd hb0; have HW0 := qHd hw0
 have BXp := qHd hxp
 have Fp := qHd hpp
 clear hb0 hw0 hxp hpp hp
 have l1 := rl_n p; have l2 := rl_d p
 have hz1 := decB_size (n := nn p) (by omega); have hz2 := decB_size (n := p.den) (by omega)
 have heq : (⟨(rtx p).toArray⟩ : ByteArray) = decB (nn p) := by
  unfold rtx; rw [hs, if_pos hd, decB_decL]; apply ByteArray.ext; simp
 rw [heq]
 have hlo : (wd 1).length ≤ 1 := by rw [wd_one_len]; exact Nat.le_refl _
 obtain ⟨c, hc⟩ : ∃ c, c = cmpN p.den 1 := ⟨_, rfl⟩
 have hc0 : c = 0 := by rw [hc]; exact cmpN_eq hd
 have hcb : (c == 0) = true := by rw [hc0]; rfl
 have HC := qHd hc; have HS := qHd hs; have HSP := qHd hs; clear hc hs heq hd hc0
 have ht1 := fun v wx (h : Num wx v (wd (nn p))) => text_any v _ wx h (by omega)
 rw [qaz] at ht1
 obtain ⟨B, hB⟩ : ∃ B, B = decB (nn p) := ⟨_, rfl⟩; obtain ⟨D, hD⟩ : ∃ D, D = decB p.den := ⟨_, rfl⟩
 rw [← hB] at ht1 hz1 ⊢
 rw [← hD] at hz2
 have HT1 := qHd ht1; clear ht1 hB hD
 go_enter Tryz.func37, Tryz.ntmps37
 have hs := qcu _ p w0 Fp.out
 have HS := qHd hs; clear hs
 go_wp2_with fail
 rw [← HW0.out]
 (with_reducible refine HS.out.mono ?_); rintro e w1 ⟨v1, u1, rfl, hb1, hn1, hm1⟩
 clear HS
 rw [HSP.out]
 have HB1 := qHd (HB0.out.step hb1)
 have Fp := qHd (Fp.out.below hb1)
 have BXp := qHd (qaa BXp.out hb1)
 have N := qHd hn1
 have D0 := qHd hm1
 clear hn1 hm1
 clear hb1
 have hs := HT1.out _ w1 N.out
 have HS := qHd hs; clear hs
 go_wp2_with fail
 (with_reducible refine HS.out.mono ?_); rintro e w2 ⟨rfl, hb2⟩
 clear HS
 have HB2 := qHd (HB1.out.step hb2)
 have Fp := qHd (Fp.out.below hb2)
 have N := qHd (N.out.below hb2)
 have D0 := qHd (D0.out.below hb2)
 have BXp := qHd (qaa BXp.out hb2)
 clear hb2
 have hs := one_any w2
 have HS := qHd hs; clear hs
 go_wp2_with fail
 (with_reducible refine HS.out.mono ?_); rintro e w3 ⟨v3, rfl, hb3, hn3⟩
 clear HS
 have HB3 := qHd (HB2.out.step hb3)
 have Fp := qHd (Fp.out.below hb3)
 have N := qHd (N.out.below hb3)
 have D0 := qHd (D0.out.below hb3)
 have BXp := qHd (qaa BXp.out hb3)
 have ONE := qHd hn3; clear hn3
 clear hb3
 have hs := cmpN_ D0.out ONE.out (by omega) (by omega)
 rw [← HC.out] at hs
 have HS := qHd hs; clear hs
 go_wp2_with fail
 (with_reducible refine HS.out.mono ?_); rintro e w4 ⟨rfl, hb4⟩
 clear HS
 have HB4 := qHd (HB3.out.step hb4)
 have Fp := qHd (Fp.out.below hb4)
 have N := qHd (N.out.below hb4)
 have D0 := qHd (D0.out.below hb4)
 have ONE := qHd (ONE.out.below hb4)
 have BXp := qHd (qaa BXp.out hb4)
 clear hb4
 go_wp2_with fail
 all_goals first | (go_ret; exact ⟨by first | rfl | (simp; done), HB4.out⟩) | (rename_i h; exact absurd h (by simp; omega))
theorem text_f0 (vp : Value) (p : Rat) (w : World) (hp : qbs w vp p) (hs : ng p = false) (hd : p.den ≠ 1) :
  Calls Tryz.prog 37 #[vp] w (qea w (.string ⟨(rtx p).toArray⟩)) := by
 obtain ⟨sp, op, np, cp, ap, mp, dp, rfl⟩ := hp.shape
 have hlp := hp.rl
 have hb0 := ((Below.refl w.heap.size w).alloc (by first | (simp; done) | (simp; omega)) (.cells #[.bool sp, .slice op np cp, .slice ap mp dp] 54))
 have hxp := qfl w (.cells #[.bool sp, .slice op np cp, .slice ap mp dp] 54)
 have hpp := hp.below hb0
 obtain ⟨w0, hw0⟩ : ∃ w0, w0 = (w.alloc (.cells #[.bool sp, .slice op np cp, .slice ap mp dp] 54)) := ⟨_, rfl⟩
 rw [← hw0] at hb0 hxp hpp
 have HB0 := qHd hb0; have HW0 := qHd hw0
 have BXp := qHd hxp
 have Fp := qHd hpp
 clear hb0 hw0 hxp hpp hp
 have l1 := rl_n p; have l2 := rl_d p
 have hz1 := decB_size (n := nn p) (by omega); have hz2 := decB_size (n := p.den) (by omega)
 have heq : (⟨(rtx p).toArray⟩ : ByteArray) = decB (nn p) ++ (⟨#[47]⟩ ++ decB p.den) := by
  unfold rtx; rw [hs, if_neg hd, decB_decL, decB_decL]; apply ByteArray.ext; simp
 rw [heq]
 have hlo : (wd 1).length ≤ 1 := by rw [wd_one_len]; exact Nat.le_refl _
 obtain ⟨c, hc⟩ : ∃ c, c = cmpN p.den 1 := ⟨_, rfl⟩
 have hcb : (c == 0) = false := by rw [hc, beq_eq_false_iff_ne]; exact fun e => hd (cmpN_zero e)
 have HC := qHd hc; have HS := qHd hs; have HSP := qHd hs; clear hc hs heq hd
 have ht1 := fun v wx (h : Num wx v (wd (nn p))) => text_any v _ wx h (by omega)
 rw [qaz] at ht1
 obtain ⟨B, hB⟩ : ∃ B, B = decB (nn p) := ⟨_, rfl⟩; obtain ⟨D, hD⟩ : ∃ D, D = decB p.den := ⟨_, rfl⟩
 rw [← hB] at ht1 hz1 ⊢
 rw [← hD] at hz2 ⊢
 have ht2 := fun v wx (h : Num wx v (wd p.den)) => text_any v _ wx h (by omega)
 rw [qaz, ← hD] at ht2
 have HT2 := qHd ht2; clear ht2
 have HT1 := qHd ht1; clear ht1 hB hD
 go_enter Tryz.func37, Tryz.ntmps37
 have hs := qcu _ p w0 Fp.out
 have HS := qHd hs; clear hs
 go_wp2_with fail
 rw [← HW0.out]
 (with_reducible refine HS.out.mono ?_); rintro e w1 ⟨v1, u1, rfl, hb1, hn1, hm1⟩
 clear HS
 rw [HSP.out]
 have HB1 := qHd (HB0.out.step hb1)
 have Fp := qHd (Fp.out.below hb1)
 have BXp := qHd (qaa BXp.out hb1)
 have N := qHd hn1
 have D0 := qHd hm1
 clear hn1 hm1
 clear hb1
 have hs := HT1.out _ w1 N.out
 have HS := qHd hs; clear hs
 go_wp2_with fail
 (with_reducible refine HS.out.mono ?_); rintro e w2 ⟨rfl, hb2⟩
 clear HS
 have HB2 := qHd (HB1.out.step hb2)
 have Fp := qHd (Fp.out.below hb2)
 have N := qHd (N.out.below hb2)
 have D0 := qHd (D0.out.below hb2)
 have BXp := qHd (qaa BXp.out hb2)
 clear hb2
 have hs := one_any w2
 have HS := qHd hs; clear hs
 go_wp2_with fail
 (with_reducible refine HS.out.mono ?_); rintro e w3 ⟨v3, rfl, hb3, hn3⟩
 clear HS
 have HB3 := qHd (HB2.out.step hb3)
 have Fp := qHd (Fp.out.below hb3)
 have N := qHd (N.out.below hb3)
 have D0 := qHd (D0.out.below hb3)
 have BXp := qHd (qaa BXp.out hb3)
 have ONE := qHd hn3; clear hn3
 clear hb3
 have hs := cmpN_ D0.out ONE.out (by omega) (by omega)
 rw [← HC.out] at hs
 have HS := qHd hs; clear hs
 go_wp2_with fail
 (with_reducible refine HS.out.mono ?_); rintro e w4 ⟨rfl, hb4⟩
 clear HS
 have HB4 := qHd (HB3.out.step hb4)
 have Fp := qHd (Fp.out.below hb4)
 have N := qHd (N.out.below hb4)
 have D0 := qHd (D0.out.below hb4)
 have ONE := qHd (ONE.out.below hb4)
 have BXp := qHd (qaa BXp.out hb4)
 clear hb4
 have hs := HT2.out _ w4 D0.out
 have HS := qHd hs; clear hs
 go_wp2_with fail
 (with_reducible refine HS.out.mono ?_); rintro e w5 ⟨rfl, hb5⟩
 clear HS
 have HB5 := qHd (HB4.out.step hb5)
 have Fp := qHd (Fp.out.below hb5)
 have N := qHd (N.out.below hb5)
 have D0 := qHd (D0.out.below hb5)
 have ONE := qHd (ONE.out.below hb5)
 have BXp := qHd (qaa BXp.out hb5)
 clear hb5
 go_wp2_with fail
 all_goals first | (go_ret; exact ⟨by first | rfl | (simp; done), HB5.out⟩) | (rename_i h; exact absurd h (by simp; omega))
theorem text_t1 (vp : Value) (p : Rat) (w : World) (hp : qbs w vp p) (hs : ng p = true) (hd : p.den = 1) :
  Calls Tryz.prog 37 #[vp] w (qea w (.string ⟨(rtx p).toArray⟩)) := by
 obtain ⟨sp, op, np, cp, ap, mp, dp, rfl⟩ := hp.shape
 have hlp := hp.rl
 have hb0 := ((Below.refl w.heap.size w).alloc (by first | (simp; done) | (simp; omega)) (.cells #[.bool sp, .slice op np cp, .slice ap mp dp] 54))
 have hxp := qfl w (.cells #[.bool sp, .slice op np cp, .slice ap mp dp] 54)
 have hpp := hp.below hb0
 obtain ⟨w0, hw0⟩ : ∃ w0, w0 = (w.alloc (.cells #[.bool sp, .slice op np cp, .slice ap mp dp] 54)) := ⟨_, rfl⟩
 rw [← hw0] at hb0 hxp hpp
 have HB0 := qHd hb0; have HW0 := qHd hw0
 have BXp := qHd hxp
 have Fp := qHd hpp
 clear hb0 hw0 hxp hpp hp
 have l1 := rl_n p; have l2 := rl_d p
 have hz1 := decB_size (n := nn p) (by omega); have hz2 := decB_size (n := p.den) (by omega)
 have heq : (⟨(rtx p).toArray⟩ : ByteArray) = ⟨#[45]⟩ ++ decB (nn p) := by
  unfold rtx; rw [hs, if_pos hd, decB_decL]; apply ByteArray.ext; simp
 rw [heq]
 have hlo : (wd 1).length ≤ 1 := by rw [wd_one_len]; exact Nat.le_refl _
 obtain ⟨c, hc⟩ : ∃ c, c = cmpN p.den 1 := ⟨_, rfl⟩
 have hc0 : c = 0 := by rw [hc]; exact cmpN_eq hd
 have hcb : (c == 0) = true := by rw [hc0]; rfl
 have HC := qHd hc; have HS := qHd hs; have HSP := qHd hs; clear hc hs heq hd hc0
 have ht1 := fun v wx (h : Num wx v (wd (nn p))) => text_any v _ wx h (by omega)
 rw [qaz] at ht1
 obtain ⟨B, hB⟩ : ∃ B, B = decB (nn p) := ⟨_, rfl⟩; obtain ⟨D, hD⟩ : ∃ D, D = decB p.den := ⟨_, rfl⟩
 rw [← hB] at ht1 hz1 ⊢
 rw [← hD] at hz2
 have HT1 := qHd ht1; clear ht1 hB hD
 go_enter Tryz.func37, Tryz.ntmps37
 have hs := qcu _ p w0 Fp.out
 have HS := qHd hs; clear hs
 go_wp2_with fail
 rw [← HW0.out]
 (with_reducible refine HS.out.mono ?_); rintro e w1 ⟨v1, u1, rfl, hb1, hn1, hm1⟩
 clear HS
 rw [HSP.out]
 have HB1 := qHd (HB0.out.step hb1)
 have Fp := qHd (Fp.out.below hb1)
 have BXp := qHd (qaa BXp.out hb1)
 have N := qHd hn1
 have D0 := qHd hm1
 clear hn1 hm1
 clear hb1
 have hs := HT1.out _ w1 N.out
 have HS := qHd hs; clear hs
 go_wp2_with fail
 (with_reducible refine HS.out.mono ?_); rintro e w2 ⟨rfl, hb2⟩
 clear HS
 have HB2 := qHd (HB1.out.step hb2)
 have Fp := qHd (Fp.out.below hb2)
 have N := qHd (N.out.below hb2)
 have D0 := qHd (D0.out.below hb2)
 have BXp := qHd (qaa BXp.out hb2)
 clear hb2
 have hs := one_any w2
 have HS := qHd hs; clear hs
 go_wp2_with fail
 (with_reducible refine HS.out.mono ?_); rintro e w3 ⟨v3, rfl, hb3, hn3⟩
 clear HS
 have HB3 := qHd (HB2.out.step hb3)
 have Fp := qHd (Fp.out.below hb3)
 have N := qHd (N.out.below hb3)
 have D0 := qHd (D0.out.below hb3)
 have BXp := qHd (qaa BXp.out hb3)
 have ONE := qHd hn3; clear hn3
 clear hb3
 have hs := cmpN_ D0.out ONE.out (by omega) (by omega)
 rw [← HC.out] at hs
 have HS := qHd hs; clear hs
 go_wp2_with fail
 (with_reducible refine HS.out.mono ?_); rintro e w4 ⟨rfl, hb4⟩
 clear HS
 have HB4 := qHd (HB3.out.step hb4)
 have Fp := qHd (Fp.out.below hb4)
 have N := qHd (N.out.below hb4)
 have D0 := qHd (D0.out.below hb4)
 have ONE := qHd (ONE.out.below hb4)
 have BXp := qHd (qaa BXp.out hb4)
 clear hb4
 go_wp2_with fail
 all_goals first | (go_ret; exact ⟨by first | rfl | (simp; done), HB4.out⟩) | (rename_i h; exact absurd h (by simp; omega))
theorem text_t0 (vp : Value) (p : Rat) (w : World) (hp : qbs w vp p) (hs : ng p = true) (hd : p.den ≠ 1) :
  Calls Tryz.prog 37 #[vp] w (qea w (.string ⟨(rtx p).toArray⟩)) := by
 obtain ⟨sp, op, np, cp, ap, mp, dp, rfl⟩ := hp.shape
 have hlp := hp.rl
 have hb0 := ((Below.refl w.heap.size w).alloc (by first | (simp; done) | (simp; omega)) (.cells #[.bool sp, .slice op np cp, .slice ap mp dp] 54))
 have hxp := qfl w (.cells #[.bool sp, .slice op np cp, .slice ap mp dp] 54)
 have hpp := hp.below hb0
 obtain ⟨w0, hw0⟩ : ∃ w0, w0 = (w.alloc (.cells #[.bool sp, .slice op np cp, .slice ap mp dp] 54)) := ⟨_, rfl⟩
 rw [← hw0] at hb0 hxp hpp
 have HB0 := qHd hb0; have HW0 := qHd hw0
 have BXp := qHd hxp
 have Fp := qHd hpp
 clear hb0 hw0 hxp hpp hp
 have l1 := rl_n p; have l2 := rl_d p
 have hz1 := decB_size (n := nn p) (by omega); have hz2 := decB_size (n := p.den) (by omega)
 have heq : (⟨(rtx p).toArray⟩ : ByteArray) = ⟨#[45]⟩ ++ decB (nn p) ++ (⟨#[47]⟩ ++ decB p.den) := by
  unfold rtx; rw [hs, if_neg hd, decB_decL, decB_decL]; apply ByteArray.ext; simp
 rw [heq]
 have hlo : (wd 1).length ≤ 1 := by rw [wd_one_len]; exact Nat.le_refl _
 obtain ⟨c, hc⟩ : ∃ c, c = cmpN p.den 1 := ⟨_, rfl⟩
 have hcb : (c == 0) = false := by rw [hc, beq_eq_false_iff_ne]; exact fun e => hd (cmpN_zero e)
 have HC := qHd hc; have HS := qHd hs; have HSP := qHd hs; clear hc hs heq hd
 have ht1 := fun v wx (h : Num wx v (wd (nn p))) => text_any v _ wx h (by omega)
 rw [qaz] at ht1
 obtain ⟨B, hB⟩ : ∃ B, B = decB (nn p) := ⟨_, rfl⟩; obtain ⟨D, hD⟩ : ∃ D, D = decB p.den := ⟨_, rfl⟩
 rw [← hB] at ht1 hz1 ⊢
 rw [← hD] at hz2 ⊢
 have ht2 := fun v wx (h : Num wx v (wd p.den)) => text_any v _ wx h (by omega)
 rw [qaz, ← hD] at ht2
 have HT2 := qHd ht2; clear ht2
 have HT1 := qHd ht1; clear ht1 hB hD
 go_enter Tryz.func37, Tryz.ntmps37
 have hs := qcu _ p w0 Fp.out
 have HS := qHd hs; clear hs
 go_wp2_with fail
 rw [← HW0.out]
 (with_reducible refine HS.out.mono ?_); rintro e w1 ⟨v1, u1, rfl, hb1, hn1, hm1⟩
 clear HS
 rw [HSP.out]
 have HB1 := qHd (HB0.out.step hb1)
 have Fp := qHd (Fp.out.below hb1)
 have BXp := qHd (qaa BXp.out hb1)
 have N := qHd hn1
 have D0 := qHd hm1
 clear hn1 hm1
 clear hb1
 have hs := HT1.out _ w1 N.out
 have HS := qHd hs; clear hs
 go_wp2_with fail
 (with_reducible refine HS.out.mono ?_); rintro e w2 ⟨rfl, hb2⟩
 clear HS
 have HB2 := qHd (HB1.out.step hb2)
 have Fp := qHd (Fp.out.below hb2)
 have N := qHd (N.out.below hb2)
 have D0 := qHd (D0.out.below hb2)
 have BXp := qHd (qaa BXp.out hb2)
 clear hb2
 have hs := one_any w2
 have HS := qHd hs; clear hs
 go_wp2_with fail
 (with_reducible refine HS.out.mono ?_); rintro e w3 ⟨v3, rfl, hb3, hn3⟩
 clear HS
 have HB3 := qHd (HB2.out.step hb3)
 have Fp := qHd (Fp.out.below hb3)
 have N := qHd (N.out.below hb3)
 have D0 := qHd (D0.out.below hb3)
 have BXp := qHd (qaa BXp.out hb3)
 have ONE := qHd hn3; clear hn3
 clear hb3
 have hs := cmpN_ D0.out ONE.out (by omega) (by omega)
 rw [← HC.out] at hs
 have HS := qHd hs; clear hs
 go_wp2_with fail
 (with_reducible refine HS.out.mono ?_); rintro e w4 ⟨rfl, hb4⟩
 clear HS
 have HB4 := qHd (HB3.out.step hb4)
 have Fp := qHd (Fp.out.below hb4)
 have N := qHd (N.out.below hb4)
 have D0 := qHd (D0.out.below hb4)
 have ONE := qHd (ONE.out.below hb4)
 have BXp := qHd (qaa BXp.out hb4)
 clear hb4
 have hs := HT2.out _ w4 D0.out
 have HS := qHd hs; clear hs
 go_wp2_with fail
 (with_reducible refine HS.out.mono ?_); rintro e w5 ⟨rfl, hb5⟩
 clear HS
 have HB5 := qHd (HB4.out.step hb5)
 have Fp := qHd (Fp.out.below hb5)
 have N := qHd (N.out.below hb5)
 have D0 := qHd (D0.out.below hb5)
 have ONE := qHd (ONE.out.below hb5)
 have BXp := qHd (qaa BXp.out hb5)
 clear hb5
 go_wp2_with fail
 all_goals first | (go_ret; exact ⟨by first | rfl | (simp; done), HB5.out⟩) | (rename_i h; exact absurd h (by simp; omega))
theorem textq_any (vp : Value) (p : Rat) (w : World) (hp : qbs w vp p) : Calls Tryz.prog 37 #[vp] w (qea w (.string ⟨(rtx p).toArray⟩)) := by
 by_cases h : ng p = true
 ·by_cases h2 : p.den = 1
  ·exact text_t1 vp p w hp h h2
  ·exact text_t0 vp p w hp h h2
 ·have h := Bool.eq_false_iff.2 h
  by_cases h2 : p.den = 1
  ·exact text_f1 vp p w hp h h2
  ·exact text_f0 vp p w hp h h2
def prB (s : Bool) (a b : List Nat) : Bool := decide (Vld s a b ∧ 0 ≤ rq s a b ∧ rq s a b ≤ 1)
theorem prB_no {s : Bool} {a b : List Nat} (h : ¬ Vld s a b) : prB s a b = false := decide_eq_false (fun k => h k.1)
theorem prB_neg {s : Bool} {a b : List Nat} (h : rq s a b < 0) : prB s a b = false := decide_eq_false (fun k => by have := k.2.1; grind)
theorem prB_of {s : Bool} {a b : List Nat} (h : Vld s a b) (h0 : 0 ≤ rq s a b) : prB s a b = decide (cq (rq s a b) 1 ≤ 0) := by
 unfold prB; rw [decide_eq_decide, cq_le]; exact ⟨fun k => k.2.2, fun k => ⟨h, h0, k⟩⟩
theorem cmpN_cq {q : Rat} (h : 0 ≤ q) : decide (cmpN (nn q) (dn q) ≤ 0) = decide (cq q 1 ≤ 0) := by
 have hs : ng q = false := decide_eq_false (by grind)
 have hp := prob_iff q
 rw [decide_eq_decide, cq_le]
 have : cmpN (nn q) (dn q) ≤ 0 ↔ nn q ≤ dn q := by unfold cmpN; split <;> (try split) <;> omega
 rw [this]
 exact ⟨fun k => (hp.1 ⟨hs, k⟩).2, fun k => (hp.2 ⟨h, k⟩).2⟩
theorem prob_no (vp : Value) (p : Rat) (w : World) (hp : qbs w vp p) {sr : Bool} {ar br : List Nat} (hr : RatV w vp sr ar br) (hla : ar.length ≤ 100000) (hlb : br.length ≤ 100000) (hpe : p = rq sr ar br) (hv : ¬ Vld sr ar br) :
  Calls Tryz.prog 86 #[vp] w (qea w (.bool (prB sr ar br))) := by
 obtain ⟨sp, op, np, cp, ap, mp, dp, rfl⟩ := hp.shape
 have hlp := hp.rl
 have hsr : sp = sr := hr.fields.1
 subst hsr
 rw [prB_no hv]
 have HV := qHd (decide_eq_false hv); clear hv hpe
 have hb0 := ((Below.refl w.heap.size w).alloc (by first | (simp; done) | (simp; omega)) (.cells #[.bool sp, .slice op np cp, .slice ap mp dp] 54))
 have hxp := qfl w (.cells #[.bool sp, .slice op np cp, .slice ap mp dp] 54)
 have hpp := hp.below hb0
 have hpraw := hr.below hb0
 obtain ⟨w0, hw0⟩ : ∃ w0, w0 = (w.alloc (.cells #[.bool sp, .slice op np cp, .slice ap mp dp] 54)) := ⟨_, rfl⟩
 rw [← hw0] at hb0 hxp hpp hpraw
 have HB0 := qHd hb0; have HW0 := qHd hw0
 have BXp := qHd hxp
 have Fp := qHd hpp
 have Fraw := qHd hpraw; clear hpraw hr
 clear hb0 hw0 hxp hpp hp
 go_enter Tryz.func86, Tryz.ntmps86
 have hs := qfp _ _ ar br w0 Fraw.out (by omega) (by omega)
 rw [HV.out] at hs
 have HS := qHd hs; clear hs
 go_wp2_with fail
 rw [← HW0.out]
 (with_reducible refine HS.out.mono ?_); rintro e w1 ⟨rfl, hb1⟩
 clear HS
 have HB1 := qHd (HB0.out.step hb1)
 have Fp := qHd (Fp.out.below hb1)
 have Fraw := qHd (Fraw.out.below hb1)
 have BXp := qHd (qaa BXp.out hb1)
 clear hb1
 go_wp2_with fail
 go_ret
 exact ⟨by first | rfl | (simp; done), HB1.out⟩
theorem prob_neg (vp : Value) (p : Rat) (w : World) (hp : qbs w vp p) {sr : Bool} {ar br : List Nat} (hr : RatV w vp sr ar br) (hla : ar.length ≤ 100000) (hlb : br.length ≤ 100000) (hpe : p = rq sr ar br) (hv : Vld sr ar br) (hq : p < 0) :
  Calls Tryz.prog 86 #[vp] w (qea w (.bool (prB sr ar br))) := by
 obtain ⟨sp, op, np, cp, ap, mp, dp, rfl⟩ := hp.shape
 have hlp := hp.rl
 have hsr : sp = sr := hr.fields.1
 subst hsr
 obtain ⟨q1, q2, q3⟩ := vld_fields hr.lt.1 hr.lt.2 hv
 rw [← hpe] at q1 q2 q3
 have HV := qHd (decide_eq_true hv)
 rw [prB_neg (by rw [← hpe]; exact hq)]
 have hs : sp = true := by rw [q1]; exact decide_eq_true hq
 have HS0 := qHd hs; clear hs
 clear hv hpe q1 q2 q3 hq
 have hb0 := ((Below.refl w.heap.size w).alloc (by first | (simp; done) | (simp; omega)) (.cells #[.bool sp, .slice op np cp, .slice ap mp dp] 54))
 have hxp := qfl w (.cells #[.bool sp, .slice op np cp, .slice ap mp dp] 54)
 have hpp := hp.below hb0
 have hpraw := hr.below hb0
 obtain ⟨w0, hw0⟩ : ∃ w0, w0 = (w.alloc (.cells #[.bool sp, .slice op np cp, .slice ap mp dp] 54)) := ⟨_, rfl⟩
 rw [← hw0] at hb0 hxp hpp hpraw
 have HB0 := qHd hb0; have HW0 := qHd hw0
 have BXp := qHd hxp
 have Fp := qHd hpp
 have Fraw := qHd hpraw; clear hpraw hr
 clear hb0 hw0 hxp hpp hp
 go_enter Tryz.func86, Tryz.ntmps86
 have hs0 := HS0.out; clear HS0; subst hs0
 have hs := qfp _ _ ar br w0 Fraw.out (by omega) (by omega)
 rw [HV.out] at hs
 have HS := qHd hs; clear hs
 go_wp2_with fail
 rw [← HW0.out]
 (with_reducible refine HS.out.mono ?_); rintro e w1 ⟨rfl, hb1⟩
 clear HS
 have HB1 := qHd (HB0.out.step hb1)
 have Fp := qHd (Fp.out.below hb1)
 have Fraw := qHd (Fraw.out.below hb1)
 have BXp := qHd (qaa BXp.out hb1)
 clear hb1
 obtain ⟨ep0, ep1, ep2⟩ := qay BXp.out
 go_wp2_with fail
 clear ep0 ep1 ep2
 go_ret
 exact ⟨by first | rfl | (simp; done), HB1.out⟩
theorem prob_in (vp : Value) (p : Rat) (w : World) (hp : qbs w vp p) {sr : Bool} {ar br : List Nat} (hr : RatV w vp sr ar br) (hla : ar.length ≤ 100000) (hlb : br.length ≤ 100000) (hpe : p = rq sr ar br) (hv : Vld sr ar br) (hq : 0 ≤ p) :
  Calls Tryz.prog 86 #[vp] w (qea w (.bool (prB sr ar br))) := by
 obtain ⟨sp, op, np, cp, ap, mp, dp, rfl⟩ := hp.shape
 have hlp := hp.rl
 have hsr : sp = sr := hr.fields.1
 subst hsr
 obtain ⟨q1, q2, q3⟩ := vld_fields hr.lt.1 hr.lt.2 hv
 rw [← hpe] at q1 q2 q3
 have HV := qHd (decide_eq_true hv)
 rw [prB_of hv (by rw [← hpe]; exact hq), ← hpe, ← cmpN_cq hq]
 have hs : sp = false := by rw [q1]; exact decide_eq_false (by grind)
 have HS0 := qHd hs; clear hs
 subst q2; subst q3
 obtain ⟨c, hc⟩ : ∃ c, c = cmpN (nn p) (dn p) := ⟨_, rfl⟩
 rw [← hc]
 obtain ⟨r, hrr⟩ : ∃ r, r = decide (c ≤ 0) := ⟨_, rfl⟩
 have HR := qHd hrr; have HC := qHd hc; clear hc hv hpe q1 hq
 rw [← hrr]
 have hr2 : decide (c ≤ 0) = r := hrr.symm
 clear hrr
 have hb0 := ((Below.refl w.heap.size w).alloc (by first | (simp; done) | (simp; omega)) (.cells #[.bool sp, .slice op np cp, .slice ap mp dp] 54))
 have hxp := qfl w (.cells #[.bool sp, .slice op np cp, .slice ap mp dp] 54)
 have hpp := hp.below hb0
 have hpraw := hr.below hb0
 obtain ⟨w0, hw0⟩ : ∃ w0, w0 = (w.alloc (.cells #[.bool sp, .slice op np cp, .slice ap mp dp] 54)) := ⟨_, rfl⟩
 rw [← hw0] at hb0 hxp hpp hpraw
 have HB0 := qHd hb0; have HW0 := qHd hw0
 have BXp := qHd hxp
 have Fp := qHd hpp
 have Fraw := qHd hpraw; clear hpraw hr
 clear hb0 hw0 hxp hpp hp
 go_enter Tryz.func86, Tryz.ntmps86
 have hs0 := HS0.out; clear HS0; subst hs0
 have hs := qfp _ _ (wd (nn p)) (wd (dn p)) w0 Fraw.out (by omega) (by omega)
 rw [HV.out] at hs
 have HS := qHd hs; clear hs
 go_wp2_with fail
 rw [← HW0.out]
 (with_reducible refine HS.out.mono ?_); rintro e w1 ⟨rfl, hb1⟩
 clear HS
 have HB1 := qHd (HB0.out.step hb1)
 have Fp := qHd (Fp.out.below hb1)
 have Fraw := qHd (Fraw.out.below hb1)
 have BXp := qHd (qaa BXp.out hb1)
 clear hb1
 have hs := cmpN_ Fraw.out.fields.2.1 Fraw.out.fields.2.2 (by omega) (by omega)
 rw [← HC.out] at hs
 have HS := qHd hs; clear hs
 obtain ⟨ep0, ep1, ep2⟩ := qay BXp.out
 go_wp2_with fail
 clear ep0 ep1 ep2
 (with_reducible refine HS.out.mono ?_); rintro e w2 ⟨rfl, hb2⟩
 clear HS
 have HB2 := qHd (HB1.out.step hb2)
 have Fp := qHd (Fp.out.below hb2)
 have Fraw := qHd (Fraw.out.below hb2)
 have BXp := qHd (qaa BXp.out hb2)
 clear hb2
 go_wp2_with fail
 go_ret
 exact ⟨by first | rfl | (simp; done), HB2.out⟩
theorem prob_any (v : Value) (s : Bool) (a b : List Nat) (w : World) (h : RatV w v s a b) (hla : a.length ≤ 40000) (hlb : b.length ≤ 40000) :
  Calls Tryz.prog 86 #[v] w (qea w (.bool (prB s a b))) := by
 have hi : qbs w v (rq s a b) := h.is (by omega) (by omega)
 skip
 by_cases hv : Vld s a b
 ·by_cases hq : rq s a b < 0
  ·exact prob_neg v _ w hi h (by omega) (by omega) rfl hv hq
  ·exact prob_in v _ w hi h (by omega) (by omega) rfl hv (by grind)
 ·exact prob_no v _ w hi h (by omega) (by omega) rfl hv
end Go.Proofs.YthhgfhdmfhnklaaGreatDoor
namespace Go.Proofs.YthhgfhdmfhnklaaGreatDoor
structure Rv where
 s : Bool
 a : List Nat
 b : List Nat
def Rv.q (r : Rv) : Rat := rq r.s r.a r.b
def wtG : List Rat → Nat → Nat → Nat → Rat → Rat
 | [], _, _, _, acc => acc
 | p :: ps, i, y, n, acc => wtG ps (i + 1) y n (if y.testBit i then acc * p else if n.testBit i then acc * (1 - p) else acc)
theorem wtG_eq : ∀ (ps : List Rat) (i y n : Nat) (acc : Rat), wtG ps i y n acc = acc * wtL ps i y n
 | [], i, y, n, acc => by simp only [wtG, wtL]; grind
 | p :: ps, i, y, n, acc => by
  simp only [wtG, wtL]
  rw [wtG_eq ps]
  unfold wtAt
  split
  ·grind
  split
  ·grind
  ·grind
theorem wtG_drop {ps : List Rat} {q y n : Nat} {p acc : Rat} (h : ps[q]? = some p) : wtG (ps.drop q) q y n acc = wtG (ps.drop (q + 1)) (q + 1) y n (if y.testBit q then acc * p else if n.testBit q then acc * (1 - p) else acc) := by
 obtain ⟨h1, h2⟩ := List.getElem?_eq_some_iff.1 h
 rw [List.drop_eq_getElem_cons h1, h2]; simp only [wtG]
structure RvOK (k : Nat) (r : Rv) : Prop where
 pr : prB r.s r.a r.b = true
 la : r.a.length ≤ k
 lb : r.b.length ≤ k
 lq : rl r.q ≤ k
theorem rl_wtAt {p : Rat} {k : Nat} (h : rl p ≤ k) (a b : Bool) : rl (wtAt p a b) ≤ k + 2 := by
 unfold wtAt
 have h1 := rl_one
 have h2 := rl_sub 1 p
 split
 ·omega
 split
 ·omega
 ·omega
theorem rl_wtL {k : Nat} : ∀ (ps : List Rat) (i y n : Nat), (∀ p ∈ ps, rl p ≤ k) → rl (wtL ps i y n) ≤ 1 + ps.length * (k + 2)
 | [], i, y, n, _ => by simp only [wtL]; have := rl_one; omega
 | p :: ps, i, y, n, h => by
  simp only [wtL]
  have h1 := rl_wtAt (h p (by simp)) (y.testBit i) (n.testBit i)
  have h2 := rl_wtL ps (i + 1) y n (fun q hq => h q (by simp [hq]))
  have h3 := rl_mul (wtAt p (y.testBit i) (n.testBit i)) (wtL ps (i + 1) y n)
  simp only [List.length_cons]
  rw [Nat.add_mul]
  omega
theorem rl_sumF {k : Nat} (ps : List Rat) (hp : ∀ p ∈ ps, rl p ≤ k) (r : Int) : ∀ (l : List Lf) (a : Rat), rl (sumF ps r l a) ≤ rl a + l.length * (2 + ps.length * (k + 2))
 | [], a => by simp only [sumF]; omega
 | x :: xs, a => by
  simp only [sumF]
  split
  ·have h1 := rl_sumF ps hp r xs (a + wt ps x.yes x.no)
   have h2 := rl_add a (wt ps x.yes x.no)
   have h3 : rl (wt ps x.yes x.no) ≤ 1 + ps.length * (k + 2) := rl_wtL ps 0 x.yes x.no hp
   simp only [List.length_cons]; rw [Nat.add_mul]; omega
  ·have h1 := rl_sumF ps hp r xs a
   simp only [List.length_cons]; rw [Nat.add_mul]; omega
end Go.Proofs.YthhgfhdmfhnklaaGreatDoor
namespace Go.Proofs.YthhgfhdmfhnklaaGreatDoor
open Go.RowKit Go.ChangeShapes Go.WideShapes
def qfd (w : World) (v : Value) (l : List Int) : Prop :=
 ∃ ao c, v = .slice ao l.length c ∧ l.length ≤ c ∧ c ≤ 9223372036854775807 ∧ (ao = none → c = 0) ∧
  (∀ b off s, ao = some ⟨b, off, s⟩ → (0 < l.length → b < w.heap.size ∧ s = none) ∧ ∀ (j : Nat) x, l[j]? = some x → w.cell? ⟨b, off + j, none⟩ = some (.int .i64 x)) ∧
  ∀ x ∈ l, I64 x
theorem getElem?_pos {α : Type} {l : List α} {j : Nat} {x : α} (h : l[j]? = some x) : 0 < l.length := by
 rcases Nat.eq_zero_or_pos l.length with k | k
 ·rw [List.length_eq_zero_iff] at k; rw [k] at h; cases h
 ·exact k
theorem qfd.mono {w w' : World} {v : Value} {l : List Int} {B : Nat} (h : qfd w v l) (hb : Below B w w') (hB : w.heap.size ≤ B) : qfd w' v l := by
 obtain ⟨ao, c, rfl, h1, h2, h3, h4, h5⟩ := h
 refine ⟨ao, c, rfl, h1, h2, h3, ?_, h5⟩
 intro b off s hs
 obtain ⟨k1, k3⟩ := h4 b off s hs
 refine ⟨fun h0 => ⟨Nat.lt_of_lt_of_le (k1 h0).1 hb.size, (k1 h0).2⟩, fun j x hj => ?_⟩
 rw [hb.cell (p := ⟨b, off + j, none⟩) (Nat.lt_of_lt_of_le (k1 (getElem?_pos hj)).1 hB)]
 exact k3 j x hj
theorem qfd.below {w w' : World} {v : Value} {l : List Int} (h : qfd w v l) (hb : Below w.heap.size w w') : qfd w' v l := h.mono hb (Nat.le_refl _)
theorem qfd.shape {w : World} {v : Value} {l : List Int} (h : qfd w v l) : ∃ ao c, v = .slice ao l.length c ∧ l.length ≤ c ∧ c ≤ 9223372036854775807 ∧ (ao = none → c = 0) := by
 obtain ⟨ao', c', e, h1, h2, h3, h4, h5⟩ := h
 exact ⟨ao', c', e, h1, h2, h3⟩
theorem qfd.at {w : World} {ao : Option Addr} {n c : Nat} {l : List Int} (h : qfd w (.slice ao n c) l) (hn : 0 < n) :
  ∃ b off, ao = some ⟨b, off, none⟩ ∧ b < w.heap.size ∧ n = l.length ∧ ∀ (j : Nat) x, l[j]? = some x → w.cell? ⟨b, off + j, none⟩ = some (.int .i64 x) := by
 obtain ⟨ao', c', e, h1, h2, h3, h4, h5⟩ := h
 cases e
 cases hao : ao with
 | none => have := h3 hao; omega
 | some a =>
  obtain ⟨b, off, s⟩ := a
  obtain ⟨k1, k2⟩ := h4 b off s hao
  obtain ⟨k3, rfl⟩ := k1 hn
  exact ⟨b, off, rfl, k3, rfl, k2⟩
theorem qfd.lt {w : World} {v : Value} {l : List Int} (h : qfd w v l) : ∀ x ∈ l, I64 x := by
 obtain ⟨ao', c', e, h1, h2, h3, h4, h5⟩ := h
 exact h5
def NdAt (w : World) (b off : Nat) (n : Nd) : Prop :=
 w.cell? ⟨b, off, none⟩ = some (.int .i64 n.kind) ∧ w.cell? ⟨b, off + 1, none⟩ = some (.int .i64 n.K) ∧ (∃ av, w.cell? ⟨b, off + 2, none⟩ = some av ∧ qfd w av n.args) ∧ I64 n.kind ∧ I64 n.K
def NdsV (w : World) (v : Value) (l : List Nd) : Prop :=
 ∃ ao c, v = .slice ao l.length c ∧ l.length ≤ c ∧ c ≤ 9223372036854775807 ∧ (ao = none → c = 0) ∧
  (∀ b off s, ao = some ⟨b, off, s⟩ → (0 < l.length → b < w.heap.size ∧ s = none) ∧ ∀ (j : Nat) x, l[j]? = some x → NdAt w b (off + j * 3) x)
theorem NdAt.mono {w w' : World} {b off : Nat} {n : Nd} {B : Nat} (h : NdAt w b off n) (hb : Below B w w') (hB : w.heap.size ≤ B) (hlt : b < B) : NdAt w' b off n := by
 obtain ⟨h1, h2, ⟨av, h3, h4⟩, h5, h6⟩ := h
 refine ⟨?_, ?_, ⟨av, ?_, h4.mono hb hB⟩, h5, h6⟩
 ·rw [hb.cell (p := ⟨b, _, none⟩) hlt]; exact h1
 ·rw [hb.cell (p := ⟨b, _, none⟩) hlt]; exact h2
 ·rw [hb.cell (p := ⟨b, _, none⟩) hlt]; exact h3
theorem NdsV.mono {w w' : World} {v : Value} {l : List Nd} {B : Nat} (h : NdsV w v l) (hb : Below B w w') (hB : w.heap.size ≤ B) : NdsV w' v l := by
 obtain ⟨ao, c, rfl, h1, h2, h3, h4⟩ := h
 refine ⟨ao, c, rfl, h1, h2, h3, ?_⟩
 intro b off s hs
 obtain ⟨k1, k3⟩ := h4 b off s hs
 refine ⟨fun h0 => ⟨Nat.lt_of_lt_of_le (k1 h0).1 hb.size, (k1 h0).2⟩, fun j x hj => ?_⟩
 exact (k3 j x hj).mono hb hB (Nat.lt_of_lt_of_le (k1 (getElem?_pos hj)).1 hB)
theorem NdsV.below {w w' : World} {v : Value} {l : List Nd} (h : NdsV w v l) (hb : Below w.heap.size w w') : NdsV w' v l := h.mono hb (Nat.le_refl _)
theorem NdsV.shape {w : World} {v : Value} {l : List Nd} (h : NdsV w v l) : ∃ ao c, v = .slice ao l.length c ∧ l.length ≤ c ∧ c ≤ 9223372036854775807 ∧ (ao = none → c = 0) := by
 obtain ⟨ao', c', e, h1, h2, h3, h4⟩ := h
 exact ⟨ao', c', e, h1, h2, h3⟩
theorem NdsV.at {w : World} {ao : Option Addr} {n c : Nat} {l : List Nd} (h : NdsV w (.slice ao n c) l) (hn : 0 < n) :
  ∃ b off, ao = some ⟨b, off, none⟩ ∧ b < w.heap.size ∧ n = l.length ∧ ∀ (j : Nat) x, l[j]? = some x → NdAt w b (off + j * 3) x := by
 obtain ⟨ao', c', e, h1, h2, h3, h4⟩ := h
 cases e
 cases hao : ao with
 | none => have := h3 hao; omega
 | some a =>
  obtain ⟨b, off, s⟩ := a
  obtain ⟨k1, k2⟩ := h4 b off s hao
  obtain ⟨k3, rfl⟩ := k1 hn
  exact ⟨b, off, rfl, k3, rfl, k2⟩
def FmV (w : World) (v : Value) (f : Fm) : Prop := ∃ nv, v = .agg #[.int .i64 f.vars, nv, .int .i64 f.top] ∧ NdsV w nv f.nodes ∧ I64 f.vars ∧ I64 f.top
theorem FmV.below {w w' : World} {v : Value} {f : Fm} (h : FmV w v f) (hb : Below w.heap.size w w') : FmV w' v f := by
 obtain ⟨nv, h1, h2, h3, h4⟩ := h
 exact ⟨nv, h1, h2.below hb, h3, h4⟩
def NdV (w : World) (v : Value) (n : Nd) : Prop := ∃ av, v = .agg #[.int .i64 n.kind, .int .i64 n.K, av] ∧ qfd w av n.args ∧ I64 n.kind ∧ I64 n.K
mutual
/-- three cells read as a tree -/
def TrAt (w : World) (b off : Nat) : Tr → Prop
 | .mk v ks r => w.cell? ⟨b, off, none⟩ = some (.int .i64 v) ∧ w.cell? ⟨b, off + 2, none⟩ = some (.int .i64 r) ∧ I64 v ∧ I64 r ∧
   ∃ ao c, w.cell? ⟨b, off + 1, none⟩ = some (.slice ao ks.length c) ∧ ks.length ≤ c ∧ c ≤ 9223372036854775807 ∧ (ao = none → c = 0) ∧
    ∀ b' o' s, ao = some ⟨b', o', s⟩ → (0 < ks.length → b' < w.heap.size ∧ s = none) ∧ qeb w b' o' ks
/-- trees one behind the other -/
def qeb (w : World) (b off : Nat) : List Tr → Prop
 | [] => True
 | t :: ts => TrAt w b off t ∧ qeb w b (off + 3) ts
end
def KidsV (w : World) (v : Value) (ks : List Tr) : Prop :=
 ∃ ao c, v = .slice ao ks.length c ∧ ks.length ≤ c ∧ c ≤ 9223372036854775807 ∧ (ao = none → c = 0) ∧
  ∀ b' o' s, ao = some ⟨b', o', s⟩ → (0 < ks.length → b' < w.heap.size ∧ s = none) ∧ qeb w b' o' ks
def TrV (w : World) (x : Value) : Tr → Prop
 | .mk v ks r => ∃ kv, x = .agg #[.int .i64 v, kv, .int .i64 r] ∧ KidsV w kv ks ∧ I64 v ∧ I64 r
theorem TrAt.parts {w : World} {b off : Nat} {v r : Int} {ks : List Tr} (h : TrAt w b off (.mk v ks r)) :
  w.cell? ⟨b, off, none⟩ = some (.int .i64 v) ∧ w.cell? ⟨b, off + 2, none⟩ = some (.int .i64 r) ∧ I64 v ∧ I64 r ∧ ∃ kv, w.cell? ⟨b, off + 1, none⟩ = some kv ∧ KidsV w kv ks := by
 simp only [TrAt] at h
 obtain ⟨h1, h2, h3, h4, ao, c, h5, h6, h7, h8, h9⟩ := h
 exact ⟨h1, h2, h3, h4, _, h5, ao, c, rfl, h6, h7, h8, h9⟩
mutual
theorem TrAt.mono {w w' : World} {B : Nat} (hb : Below B w w') (hB : w.heap.size ≤ B) : ∀ (t : Tr) (b off : Nat), b < B → TrAt w b off t → TrAt w' b off t
 | .mk v ks r, b, off, hlt, h => by
  simp only [TrAt] at h ⊢
  obtain ⟨h1, h2, h3, h4, ao, c, h5, h6, h7, h8, h9⟩ := h
  refine ⟨?_, ?_, h3, h4, ao, c, ?_, h6, h7, h8, ?_⟩
  ·rw [hb.cell (p := ⟨b, _, none⟩) hlt]; exact h1
  ·rw [hb.cell (p := ⟨b, _, none⟩) hlt]; exact h2
  ·rw [hb.cell (p := ⟨b, _, none⟩) hlt]; exact h5
  ·intro b' o' s hs
   obtain ⟨k1, k2⟩ := h9 b' o' s hs
   refine ⟨fun h0 => ⟨Nat.lt_of_lt_of_le (k1 h0).1 hb.size, (k1 h0).2⟩, ?_⟩
   cases ks with
   | nil => simp only [qeb]
   | cons t ts => exact qeb.mono hb hB (t :: ts) b' o' (Nat.lt_of_lt_of_le (k1 (by simp)).1 hB) k2
theorem qeb.mono {w w' : World} {B : Nat} (hb : Below B w w') (hB : w.heap.size ≤ B) : ∀ (ts : List Tr) (b off : Nat), b < B → qeb w b off ts → qeb w' b off ts
 | [], _, _, _, _ => by simp only [qeb]
 | t :: ts, b, off, hlt, h => by
  simp only [qeb] at h ⊢
  exact ⟨TrAt.mono hb hB t b off hlt h.1, qeb.mono hb hB ts b (off + 3) hlt h.2⟩
end
theorem KidsV.below {w w' : World} {v : Value} {ks : List Tr} (h : KidsV w v ks) (hb : Below w.heap.size w w') : KidsV w' v ks := by
 obtain ⟨ao, c, h1, h2, h3, h4, h5⟩ := h
 refine ⟨ao, c, h1, h2, h3, h4, fun b' o' s hs => ?_⟩
 obtain ⟨k1, k2⟩ := h5 b' o' s hs
 refine ⟨fun h0 => ⟨Nat.lt_of_lt_of_le (k1 h0).1 hb.size, (k1 h0).2⟩, ?_⟩
 cases ks with
 | nil => simp only [qeb]
 | cons t ts => exact qeb.mono hb (Nat.le_refl _) (t :: ts) b' o' (k1 (by simp)).1 k2
theorem TrV.below {w w' : World} {x : Value} {t : Tr} (h : TrV w x t) (hb : Below w.heap.size w w') : TrV w' x t := by
 cases t with
 | mk v ks r =>
  obtain ⟨kv, h1, h2, h3, h4⟩ := h
  exact ⟨kv, h1, h2.below hb, h3, h4⟩
theorem qeb.get {w : World} {b : Nat} : ∀ (ts : List Tr) (off j : Nat) (t : Tr), qeb w b off ts → ts[j]? = some t → TrAt w b (off + j * 3) t
 | [], _, j, t, _, h => by simp at h
 | x :: xs, off, j, t, hk, h => by
  simp only [qeb] at hk
  cases j with
  | zero => simp at h; subst h; simpa using hk.1
  | succ j =>
   simp only [List.getElem?_cons_succ] at h
   have := qeb.get xs (off + 3) j t hk.2 h
   rw [show off + (j + 1) * 3 = off + 3 + j * 3 from by omega]; exact this
end Go.Proofs.YthhgfhdmfhnklaaGreatDoor
namespace Go.Proofs.YthhgfhdmfhnklaaGreatDoor
open Go.RowKit Go.ChangeShapes Go.WideShapes Go.Deep
theorem i64_wf {n : Int} (h : (Lit.int .i64 n).wf = true) : I64 n := by
 simp only [Lit.wf, Bool.and_eq_true, decide_eq_true_eq] at h
 have h1 : IntKind.i64.min = -9223372036854775808 := by decide
 have h2 : IntKind.i64.max = 9223372036854775807 := by decide
 rw [h1, h2] at h
 exact h
theorem qgc (b off j : Nat) : (⟨b, off, none⟩ : Addr).add j = ⟨b, off + j, none⟩ := by unfold Addr.add; split <;> simp_all
theorem cell_none {W : World} {b off j : Nat} {s : Option Nat} {x : Value} (h : W.cell? ((⟨b, off, s⟩ : Addr).add j) = some x) (hj : j = 0) : b < W.heap.size ∧ s = none := by
 subst hj
 have e0 : (⟨b, off, s⟩ : Addr).add 0 = ⟨b, off, s⟩ := by simp [Addr.add]
 rw [e0] at h
 refine ⟨World.block_lt_of_cell? W _ h, ?_⟩
 cases s with
 | none => rfl
 | some x =>
  unfold World.cell? at h
  split at h <;> simp at h
instance : Inhabited (Nd × Value) := ⟨(⟨0, 0, []⟩, .nilIface)⟩
section
variable {H : Type} {enc : TypeId × Value → H} {P : Program} {W : World}
theorem open_ints_cell {t e : TypeId} {v : Value} {x : DataW H × List MemPlace} {fuel : Nat} (ht : P.underlying t = some (.slice e)) (he : P.underlying e = some (.int .i64)) (hc : P.cellsOf e = 1)
  (hf : DataW.trod enc P W 0 (fun _ => true) true fuel t [v] = some x) : ∃ l : List Int, qfd W v l := by
 rcases open_ints ht he hc hf with ⟨hcs, hx⟩ | ⟨a, len', cap', zs, hcs, _, hl, hm, hz, hx, hcell, hwz⟩
 ·have hcs' : v = .slice none 0 0 := by simpa using hcs
  rw [hcs']; exact ⟨[], none, 0, rfl, Nat.le_refl _, by omega, fun _ => rfl, (fun b off s h => by cases h), (fun x hx => by cases hx)⟩
 ·have hcs' : v = .slice (some a) len' cap' := by simpa using hcs
  rw [hcs']
  have hz' : len' ≤ zs.length := by rw [hz]; simp; exact hl
  have hlen : (zs.take len').length = len' := by rw [List.length_take]; omega
  refine ⟨zs.take len', some a, cap', by rw [hlen], by omega, by unfold maxLen at hm; omega, by simp, ?_, fun x hx => i64_wf (hwz x (List.mem_of_mem_take hx))⟩
  intro b off s hs
  obtain rfl : a = ⟨b, off, s⟩ := Option.some.inj hs
  have h0 : 0 < len' → b < W.heap.size ∧ s = none := fun h0 => cell_none (hcell 0 (by omega)) rfl
  refine ⟨fun hh => h0 (by omega), fun j x hj => ?_⟩
  have hjl : j < len' := by
   have := getElem?_pos hj
   rcases Nat.lt_or_ge j (zs.take len').length with q | q
   ·omega
   ·rw [List.getElem?_eq_none q] at hj; cases hj
  obtain ⟨_, rfl⟩ := h0 (by omega)
  have := hcell j (by omega)
  rw [qgc] at this
  rw [this]
  congr 2
  rw [List.getElem?_take, if_pos hjl] at hj
  rw [List.getD_eq_getElem?_getD, hj]; rfl
structure NodeTys (P : Program) (ti tis tn : TypeId) : Prop where
 hi : P.underlying ti = some (.int .i64)
 ci : P.cellsOf ti = 1
 his : P.underlying tis = some (.slice ti)
 cis : P.cellsOf tis = 1
 cn : P.cellsOf tn = 3
 hn : ∃ f0 f1 f2 : Field, P.underlying tn = some (.struct #[f0, f1, f2]) ∧ f0.type = ti ∧ f1.type = ti ∧ f2.type = tis ∧ f0.offset = 0 ∧ f1.offset = 1 ∧ f2.offset = 2
theorem open_node {ti tis tn : TypeId} (T : NodeTys P ti tis tn) {cs : List Value} {x : DataW H × List MemPlace} {fuel : Nat} (h : DataW.trod enc P W 0 (fun _ => true) true fuel tn cs = some x) :
  ∃ (n : Nd) (av : Value), cs = [.int .i64 n.kind, .int .i64 n.K, av] ∧ qfd W av n.args ∧ I64 n.kind ∧ I64 n.K := by
 obtain ⟨f0, f1, f2, hu, t0, t1, t2, o0, o1, o2⟩ := T.hn
 obtain ⟨y0, y1, y2, m, _, hl, h0, h1, h2⟩ := trod_struct3 hu h
 rw [T.cn] at hl
 rw [t0, o0, T.ci] at h0; rw [t1, o1, T.ci] at h1; rw [t2, o2, T.cis] at h2
 match cs, hl with
 | [c0, c1, c2], _ =>
  simp only [List.drop, List.take] at h0 h1 h2
  obtain ⟨k0, e0, _, w0⟩ := DataW.trod_int T.hi h0
  obtain ⟨k1, e1, _, w1⟩ := DataW.trod_int T.hi h1
  obtain ⟨l, hL⟩ := open_ints_cell T.his T.hi T.ci h2
  simp only [List.cons.injEq, and_true] at e0 e1
  exact ⟨⟨k0, k1, l⟩, c2, by rw [e0, e1], hL, i64_wf w0, i64_wf w1⟩
theorem open_nodes {ti tis tn tns : TypeId} (T : NodeTys P ti tis tn) (hns : P.underlying tns = some (.slice tn)) {v : Value} {x : DataW H × List MemPlace} {fuel : Nat}
  (h : DataW.trod enc P W 0 (fun _ => true) true fuel tns [v] = some x) : ∃ l : List Nd, NdsV W v l := by
 rcases open_slice hns h with ⟨hcs, _⟩ | ⟨a, len, cap, m, n, D, Pl, hcs, _, hl, hm, hmm, _, hel⟩
 ·have hcs' : v = .slice none 0 0 := by simpa using hcs
  rw [hcs']; exact ⟨[], none, 0, rfl, Nat.le_refl _, by omega, fun _ => rfl, fun b off s h => by cases h⟩
 ·have hcs' : v = .slice (some a) len cap := by simpa using hcs
  rw [hcs']
  simp only [if_true] at hmm
  subst hmm
  rw [T.cn] at hel
  obtain ⟨F, hF⟩ := choose_lt (α := Nd × Value) (n := len) (p := fun i q => W.cell? (a.add (i * 3)) = some (.int .i64 q.1.kind) ∧ W.cell? ((a.add (i * 3)).add 1) = some (.int .i64 q.1.K) ∧ W.cell? ((a.add (i * 3)).add 2) = some q.2 ∧ qfd W q.2 q.1.args ∧ I64 q.1.kind ∧ I64 q.1.K) (fun i hi => by
   obtain ⟨cs', h1, h2⟩ := hel i (by omega)
   obtain ⟨nd, av, rfl, k1, k2, k3⟩ := open_node T h2
   obtain ⟨_, _, hc⟩ := World.cells?_some h1
   refine ⟨(nd, av), ?_, hc 1 (by omega), hc 2 (by omega), k1, k2, k3⟩
   have := hc 0 (by omega)
   rw [show (a.add (i * 3)).add 0 = a.add (i * 3) from by simp [Addr.add]] at this
   exact this)
  refine ⟨(List.range len).map fun i => (F i).1, some a, m, by simp, by simp; omega, by unfold maxLen at hm; omega, by simp, ?_⟩
  intro b off s hs
  obtain rfl : a = ⟨b, off, s⟩ := Option.some.inj hs
  have h0 : 0 < len → b < W.heap.size ∧ s = none := fun h0 => by
   have := (hF 0 h0).1
   rw [Nat.zero_mul] at this
   exact cell_none this rfl
  refine ⟨fun hh => h0 (by simpa using hh), fun j z hj => ?_⟩
  have hjl : j < len := by
   rcases Nat.lt_or_ge j len with q | q
   ·exact q
   ·rw [List.getElem?_eq_none (by simpa using q)] at hj; cases hj
  rw [List.getElem?_map, List.getElem?_range hjl] at hj
  have hz : (F j).1 = z := by simpa using hj
  subst hz
  obtain ⟨_, rfl⟩ := h0 (by omega)
  obtain ⟨k1, k2, k3, k4, k5, k6⟩ := hF j hjl
  rw [qgc] at k1 k2 k3
  rw [qgc] at k2 k3
  exact ⟨k1, k2, ⟨_, k3, k4⟩, k5, k6⟩
instance : Inhabited Tr := ⟨.mk 0 [] 0⟩
theorem trAt_mk {w : World} {b off : Nat} {v r : Int} {ks : List Tr} {kv : Value} (h1 : w.cell? ⟨b, off, none⟩ = some (.int .i64 v)) (h2 : w.cell? ⟨b, off + 1, none⟩ = some kv) (h3 : w.cell? ⟨b, off + 2, none⟩ = some (.int .i64 r))
  (hk : KidsV w kv ks) (h4 : I64 v) (h5 : I64 r) : TrAt w b off (.mk v ks r) := by
 obtain ⟨ao, c, rfl, k2, k3, k4, k5⟩ := hk
 simp only [TrAt]
 exact ⟨h1, h3, h4, h5, ao, c, h2, k2, k3, k4, k5⟩
end
end Go.Proofs.YthhgfhdmfhnklaaGreatDoor
namespace Go.Proofs.YthhgfhdmfhnklaaGreatDoor
open Go.RowKit Go.ChangeShapes Go.WideShapes
def SpV (w : World) (v : Value) (s : Bool) (a b : List Nat) (t : Bool) (c d : List Nat) : Prop :=
 ∃ x0 x1 x2 x3 x4 x5, v = .agg #[x0, x1, x2, x3, x4, x5] ∧ RatV w (.agg #[x0, x1, x2]) s a b ∧ RatV w (.agg #[x3, x4, x5]) t c d
def sq (s : Bool) (a b : List Nat) (t : Bool) (c d : List Nat) : Rat × Rat :=
 if Vld s a b ∧ Vld t c d ∧ rq s a b ≤ rq t c d then (rq s a b, rq t c d) else (0, 0)
def IsSp (w : World) (v : Value) (S : Rat × Rat) : Prop :=
 ∃ x0 x1 x2 x3 x4 x5, v = .agg #[x0, x1, x2, x3, x4, x5] ∧ IsR w (.agg #[x0, x1, x2]) S.1 ∧ IsR w (.agg #[x3, x4, x5]) S.2
theorem IsSp.below {w w' : World} {v : Value} {S : Rat × Rat} (h : IsSp w v S) (hb : Below w.heap.size w w') : IsSp w' v S := by
 obtain ⟨x0, x1, x2, x3, x4, x5, e, h1, h2⟩ := h
 exact ⟨x0, x1, x2, x3, x4, x5, e, h1.below hb, h2.below hb⟩
theorem SpV.shape {w : World} {v : Value} {s₀ t₀ : Bool} {a₀ b₀ c₀ d₀ : List Nat} (h : SpV w v s₀ a₀ b₀ t₀ c₀ d₀) : ∃ s ao n c bo m d s' ao' n' c' bo' m' d', v = .agg #[.bool s, .slice ao n c, .slice bo m d, .bool s', .slice ao' n' c', .slice bo' m' d'] := by
 obtain ⟨x0, x1, x2, x3, x4, x5, e, ⟨va, vb, e1, h1, h2⟩, ⟨vc, vd, e2, h3, h4⟩⟩ := h
 have e1' : x0 = .bool s₀ ∧ x1 = va ∧ x2 = vb := by simpa using e1
 have e2' : x3 = .bool t₀ ∧ x4 = vc ∧ x5 = vd := by simpa using e2
 obtain ⟨rfl, rfl, rfl⟩ := e1'
 obtain ⟨rfl, rfl, rfl⟩ := e2'
 obtain ⟨o1, c1, rfl, _⟩ := h1.shape
 obtain ⟨o2, c2, rfl, _⟩ := h2.shape
 obtain ⟨o3, c3, rfl, _⟩ := h3.shape
 obtain ⟨o4, c4, rfl, _⟩ := h4.shape
 exact ⟨_, _, _, _, _, _, _, _, _, _, _, _, _, _, e⟩
theorem IsSp.shape {w : World} {v : Value} {S : Rat × Rat} (h : IsSp w v S) : ∃ s ao n c bo m d s' ao' n' c' bo' m' d', v = .agg #[.bool s, .slice ao n c, .slice bo m d, .bool s', .slice ao' n' c', .slice bo' m' d'] := SpV.shape h
theorem qci {w : World} {x0 x1 x2 x3 x4 x5 : Value} {S : Rat × Rat} (h : IsSp w (.agg #[x0, x1, x2, x3, x4, x5]) S) : IsR w (.agg #[x0, x1, x2]) S.1 ∧ IsR w (.agg #[x3, x4, x5]) S.2 := by
 obtain ⟨y0, y1, y2, y3, y4, y5, e, h1, h2⟩ := h
 have e' : x0 = y0 ∧ x1 = y1 ∧ x2 = y2 ∧ x3 = y3 ∧ x4 = y4 ∧ x5 = y5 := by simpa using e
 obtain ⟨rfl, rfl, rfl, rfl, rfl, rfl⟩ := e'
 exact ⟨h1, h2⟩
theorem isSp_of {w : World} {x0 x1 x2 x3 x4 x5 : Value} {p q : Rat} (h1 : IsR w (.agg #[x0, x1, x2]) p) (h2 : IsR w (.agg #[x3, x4, x5]) q) : IsSp w (.agg #[x0, x1, x2, x3, x4, x5]) (p, q) :=
 ⟨_, _, _, _, _, _, rfl, h1, h2⟩
/-! six cells -/
theorem row6 {w : World} {g : Nat} {x0 x1 x2 x3 x4 x5 : Value} {T : TypeId} (h : w.heap[g]? = some (.cells #[x0, x1, x2, x3, x4, x5] T)) :
  w.cell? ⟨g, 0, none⟩ = some x0 ∧ w.cell? ⟨g, 1, none⟩ = some x1 ∧ w.cell? ⟨g, 2, none⟩ = some x2 ∧ w.cell? ⟨g, 3, none⟩ = some x3 ∧ w.cell? ⟨g, 4, none⟩ = some x4 ∧ w.cell? ⟨g, 5, none⟩ = some x5 :=
 ⟨cell_of_row _ _ _ _ _ _ h, cell_of_row _ _ _ _ _ _ h, cell_of_row _ _ _ _ _ _ h, cell_of_row _ _ _ _ _ _ h, cell_of_row _ _ _ _ _ _ h, cell_of_row _ _ _ _ _ _ h⟩
def qel (w : World) (g : Nat) : Nat → List Value → World
 | _, [] => w
 | off, x :: l => qel (w.setCell ⟨g, off, none⟩ x) g (off + 1) l
theorem putL_ne {g p : Nat} (h : p ≠ g) : ∀ (l : List Value) (w : World) (off : Nat), (qel w g off l).heap[p]? = w.heap[p]?
 | [], _, _ => rfl
 | x :: l, w, off => by
  unfold qel; rw [putL_ne h l, Below.heap_setCell _ _ _ _ h]
theorem putL_size : ∀ (l : List Value) (w : World) (g off : Nat), (qel w g off l).heap.size = w.heap.size
 | [], _, _, _ => rfl
 | x :: l, w, g, off => by
  unfold qel; rw [putL_size l]; simp [World.setCell]
theorem putL_below {w0 : World} {B g : Nat} (hg : B ≤ g) : ∀ (l : List Value) (w : World) (off : Nat), Below B w0 w → Below B w0 (qel w g off l)
 | [], _, _, h => h
 | x :: l, w, off, h => by
  unfold qel; exact putL_below hg l _ _ (h.setCell hg x)
def noW (cs : Array Value) : Prop := ∀ (j : Nat) (n : Int), cs[j]? ≠ some (.int .u32 n)
theorem putL_num {w w' : World} {g off : Nat} {l : List Value} {cs : Array Value} {T : TypeId} {v : Value} {k : List Nat} (hw : w' = qel w g off l) (hn : Num w v k) (h : w.heap[g]? = some (.cells cs T)) (hc : noW cs) : Num w' v k := by
 obtain ⟨ao, c, rfl, h1, h2, h3, h4, h5⟩ := hn
 refine ⟨ao, c, rfl, h1, h2, h3, ?_, h5⟩
 intro b' o s hs
 obtain ⟨k1, k2⟩ := h4 b' o s hs
 have hsz : w'.heap.size = w.heap.size := by rw [hw, putL_size]
 refine ⟨fun h0 => by rw [hsz]; exact k1 h0, fun j hj => ?_⟩
 by_cases he : b' = g
 ·subst he
  have := k2 j hj
  have hx : w.cell? ⟨b', o + j, none⟩ = cs[o + j]? := by
   unfold World.cell?; simp only [h]; rfl
  rw [hx] at this
  exact absurd this (hc _ _)
 ·rw [← k2 j hj]
  unfold World.cell?
  have e : w'.heap[b']? = w.heap[b']? := by rw [hw, putL_ne he]
  simp only [e]
section
variable {w w' : World} {g off : Nat} {l : List Value} {cs : Array Value} {T : TypeId} {v : Value} {q : Rat} {s t : Bool} {a b c d : List Nat} {S : Rat × Rat}
theorem putL_V (hw : w' = qel w g off l) (h : RatV w v s a b) (hg : w.heap[g]? = some (.cells cs T)) (hc : noW cs) : RatV w' v s a b := by
 obtain ⟨va, vb, e, h1, h2⟩ := h
 exact ⟨va, vb, e, putL_num hw h1 hg hc, putL_num hw h2 hg hc⟩
theorem qbq (hw : w' = qel w g off l) (h : IsR w v q) (hg : w.heap[g]? = some (.cells cs T)) (hc : noW cs) : IsR w' v q := putL_V hw h hg hc
end
theorem noW3 {s : Bool} {o p : Option Addr} {n c m d : Nat} : noW #[.bool s, .slice o n c, .slice p m d] := by
 intro j n; match j with
 | 0 => simp
 | 1 => simp
 | 2 => simp
 | j + 3 => simp
theorem noW6 {s t : Bool} {o p o' p' : Option Addr} {n c m d n' c' m' d' : Nat} : noW #[.bool s, .slice o n c, .slice p m d, .bool t, .slice o' n' c', .slice p' m' d'] := by
 intro j n; match j with
 | 0 => simp
 | 1 => simp
 | 2 => simp
 | 3 => simp
 | 4 => simp
 | 5 => simp
 | j + 6 => simp
theorem putL_6 {w : World} {g : Nat} {x0 x1 x2 x3 x4 x5 y0 y1 y2 y3 y4 y5 : Value} {T : TypeId} (h : w.heap[g]? = some (.cells #[x0, x1, x2, x3, x4, x5] T)) : (qel w g 0 [y0, y1, y2, y3, y4, y5]).heap[g]? = some (.cells #[y0, y1, y2, y3, y4, y5] T) := by
 simp [qel, World.setCell, Array.getElem?_modify, h]
theorem qbr {w w' : World} {g p off : Nat} {l : List Value} {o : Obj} (hw : w' = qel w g off l) (h : w.heap[p]? = some o) (hp : p ≠ g) : w'.heap[p]? = some o := by
 rw [hw, putL_ne hp]; exact h
theorem qbl {w0 w w' : World} {B g off : Nat} {l : List Value} (hw : w' = qel w g off l) (h : Below B w0 w) (hg : B ≤ g) : Below B w0 w' := by
 rw [hw]; exact putL_below hg _ _ _ h
def KNew (B : Nat) (cs : Array Value) (T : TypeId) : Value → World → Prop := fun v w => ∃ g, B ≤ g ∧ v = .pointer (some ⟨g, 0, none⟩) ∧ w.heap[g]? = some (.cells cs T)
theorem kNew (B : Nat) (cs : Array Value) (T : TypeId) : MonoF (KNew B cs T) := fun _ _ _ ⟨g, h1, h2, h3⟩ hb => ⟨g, h1, h2, qaa h3 hb⟩
def KLst (B n : Nat) (cs : Array Value) (T : TypeId) : Value → World → Prop := fun v w => ∃ g, B ≤ g ∧ v = .slice (some ⟨g, 0, none⟩) n n ∧ w.heap[g]? = some (.cells cs T)
theorem kLst (B n : Nat) (cs : Array Value) (T : TypeId) : MonoF (KLst B n cs T) := fun _ _ _ ⟨g, h1, h2, h3⟩ hb => ⟨g, h1, h2, qaa h3 hb⟩
theorem span_info : (Tryz.prog.info? 56).map (·.size) = some 6 := by kernel_rfl
theorem ret_span2 {fn : Func} {R : Ending → World → Prop} {a : Act} {w : World} {p u : Tmp} (h : fn.results = #[.cell p 56, .tmp u]) (g : Nat) (x0 x1 x2 x3 x4 x5 : Value)
  (hp : a.tmps.getD p undef = .pointer (some ⟨g, 0, none⟩)) (hg : w.heap[g]? = some (.cells #[x0, x1, x2, x3, x4, x5] 56)) (hd : a.defers = []) (hR : R (.returned (.tuple #[.agg #[x0, x1, x2, x3, x4, x5], a.tmps.getD u undef])) w) : bodyPost Tryz.prog fn R .ret a w := by
 refine bodyPost_ret (v := .tuple #[.agg #[x0, x1, x2, x3, x4, x5], a.tmps.getD u undef]) ?_ hd hR
 rw [results_cell_tmp h, hp]
 simp only [asAddr, Sem.run_pure, Result.andThen, run_loadVar_row w g 56 56 _ _ _ hg Tryz.underlying56 rfl span_info]
def qap (p : Prop) : Prop := p
theorem qap.mk {p : Prop} (h : p) : qap p := h
theorem qaf {P : Program} {ops : Array Oper} {rest : List Oper} {a : Act} {w : World} {Q : Exit → Act → World → Prop} {d : Option Tmp} {ty tt : TypeId} {x y : Operand} {pos : String} {af : Array Edge}
  (h : qap (wpList P ops Q (⟨d, .store ty x y, tt, pos, af, none⟩ :: rest) a w)) : wpList P ops Q (⟨d, .store ty x y, tt, pos, af, none⟩ :: rest) a w := h
theorem putL_eq : ∀ (l : List Value) (w : World) (g off : Nat), w.setCells g off l = qel w g off l
 | [], _, _, _ => rfl
 | x :: l, w, g, off => by unfold qel World.setCells; exact putL_eq l _ _ _
theorem there_row {w : World} {g : Nat} {cs : Array Value} {T : TypeId} (h : w.heap[g]? = some (.cells cs T)) {off n : Nat} (hn : off + n ≤ cs.size) : w.there g off n := by
 intro j hj
 refine ⟨?_, ?_⟩
 ·rw [cell_of_row w g (off + j) cs T (0, 0) h, Array.getElem?_eq_getElem (show off + j < cs.size by omega)]; rfl
 ·simp [World.frozen?, h]
theorem qan {P : Program} {ops : Array Oper} {rest : List Oper} {a : Act} {w : World} {Q : Exit → Act → World → Prop} {ty tt : TypeId} {x y : Operand} {pos : String} {af : Array Edge}
  (g off : Nat) (l : List Value) {cs : Array Value} {T : TypeId} (hg : w.heap[g]? = some (.cells cs T)) (hx : a.eval x = .pointer (some ⟨g, off, none⟩)) (hy : a.eval y = .agg l.toArray)
  (hle : off + l.length ≤ cs.size) (hi : (P.info? ty).map (·.size) = some l.length) (h1 : l.all (fun v => v.oneCell') = true) (hK : ∀ w', w' = qel w g off l → wpList P ops Q rest a w') :
  qap (wpList P ops Q (⟨none, .store ty x y, tt, pos, af, none⟩ :: rest) a w) := by
 refine wpList_store_mid rfl ty x y rfl g off l.toArray hx hy (there_row hg (by simpa using hle)) (by simpa using hi) (all_oneCell_toArray (fun v hv => List.all_eq_true.1 h1 v hv)) ?_
 exact hK _ (putL_eq _ _ _ _)
theorem qad {P : Program} {f : FuncId} {args : Array Value} {w : World} {R : Ending → World → Prop} (h : qap (Calls P f args w R)) : Calls P f args w R := h
theorem qai {P : Program} {b : Code} {Q : Exit → Act → World → Prop} {a : Act} {w : World} (h : qap (Code.wp P (.loop b) Q a w)) : Code.wp P (.loop b) Q a w := h
theorem qaj {P : Program} {n : Nat} {ops : Array Oper} {Q : Exit → Act → World → Prop} {a : Act} {w : World} (h : qap (Code.wp P (.region n ops true) Q a w)) : Code.wp P (.region n ops true) Q a w := h
theorem qak {P : Program} {fn : Func} {R : Ending → World → Prop} {x : Exit} {a : Act} {w : World} (h : qap (bodyPost P fn R x a w)) : bodyPost P fn R x a w := h
theorem qag {P : Program} {b : Code} {Q : Exit → Act → World → Prop} {n : Nat} {a : Act} {w : World} (h : qap (Code.rounds P b Q n a w)) : Code.rounds P b Q n a w := h
end Go.Proofs.YthhgfhdmfhnklaaGreatDoor
