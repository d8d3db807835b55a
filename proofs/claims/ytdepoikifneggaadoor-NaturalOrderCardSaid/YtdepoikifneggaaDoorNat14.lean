/-
  The reference's Div: what it hands back.
  Conditions: each theorem's own.
-/
import Derived.Test.YtdepoikifneggaaDoorNat13
import Derived.Test.YtdepoikifneggaaDoorNatMath10
import Derived.IntWalk
namespace Go.Proofs.YtdepoikifneggaaDoor
open Go.RowKit Go.ChangeShapes Go.WideShapes

set_option maxRecDepth 100000 in
set_option maxHeartbeats 800000 in
theorem rdiv_zero (va vb : Value) (b : List Nat) (w : World) (hb : Num w vb b) (hlb : b.length ≤ 800000) (h0 : val b = 0) :
    Calls Tryd.prog 17 #[va, vb] w (RetDiv w 0 0 (.int .i64 8)) := by
  go_enter Tryd.func17, Tryd.ntmps17
  go_wp2_with fail
  (with_reducible refine (rtrim_any _ _ _ hb (by omega)).mono ?_); rintro e w1 ⟨v1, l1, rfl, hb1, hn1, hl1⟩
  rw [h0, wd_zero] at hl1
  subst hl1
  obtain ⟨bo, cb, rfl, hcb, hcb2, _⟩ := hn1.shape
  rw [List.length_nil]
  clear hn1 hb h0
  go_wp2_with fail
  go_ret3
  exact ⟨_, _, rfl, hb1, by rw [wd_zero]; exact Num.nil _, by rw [wd_zero]; exact Num.nil _⟩

/-- a slice's tail -/
def cutS (ao : Option Addr) (k n c : Nat) : Value := .slice (if c = k then ao else ao.map (·.add k)) (n - k) (c - k)
theorem run_cutS (wx : World) (ao : Option Addr) (k n c : Nat) (hk : k ≤ n) :
    (Instr.slice 22 (.slice ao n c) (some (.int .i64 (k : Int))) none none).run Tryd.prog wx = .ok (cutS ao k n c) wx := by
  have h := run_slice_l (P := Tryd.prog) (w := wx) 22 ao n c (by kernel_rfl) .i64 (k : Int) (by omega) (by omega)
  have e : ∀ w : World, (Go.sizeOf (Tryd.prog.elem 22)).run Tryd.prog w = .ok 1 w := fun w => by kernel_rfl
  rw [h, e]
  simp only [Result.andThen, sliced, Int.toNat_natCast, Nat.mul_one]
  rfl
theorem Num.cut {w : World} {ao : Option Addr} {n c : Nat} {l : List Nat} (h : Num w (.slice ao n c) l) (k : Nat) (hk : k ≤ n) : Num w (cutS ao k n c) (l.drop k) := by
  obtain ⟨ao', c', e, h1, h2, h3, h4, h5⟩ := h
  cases e
  have hl : (l.drop k).length = l.length - k := by rw [List.length_drop]
  unfold cutS
  refine ⟨_, _, by rw [hl], by omega, by omega, ?_, ?_, h5.drop k⟩
  · intro hn
    split at hn
    · have := h3 hn; omega
    · cases ao with
      | none => have := h3 rfl; omega
      | some x => simp at hn
  · intro b off s hs
    split at hs
    · rename_i hck
      refine ⟨fun h0 => ?_, fun j hj => ?_⟩
      · rw [hl] at h0; omega
      · rw [hl] at hj; omega
    · cases ao with
      | none => simp at hs
      | some x =>
        obtain ⟨b', off', s'⟩ := x
        obtain ⟨k1, k2⟩ := h4 _ _ _ rfl
        by_cases hn0 : 0 < l.length
        · obtain ⟨k3, rfl⟩ := k1 hn0
          have e2 : (⟨b', off', none⟩ : Addr).add k = ⟨b', off' + k, none⟩ := by unfold Addr.add; split <;> simp_all
          simp only [Option.map_some, e2, Option.some.injEq, Addr.mk.injEq] at hs
          obtain ⟨rfl, rfl, rfl⟩ := hs
          refine ⟨fun _ => ⟨k3, rfl⟩, fun j hj => ?_⟩
          rw [gd_drop, Nat.add_assoc]
          exact k2 (k + j) (by rw [hl] at hj; omega)
        · exact ⟨fun h0 => by rw [hl] at h0; omega, fun j hj => by rw [hl] at hj; omega⟩

set_option maxRecDepth 100000 in
set_option maxHeartbeats 16000000 in
theorem rdiv_any (va vb : Value) (a b : List Nat) (w : World) (ha : Num w va a) (hb : Num w vb b) (hla : a.length ≤ 400000) (hlb : b.length ≤ 400000) (h0 : val b ≠ 0) :
    Calls Tryd.prog 17 #[va, vb] w (RetDiv w (val a / val b) (val a % val b) (.int .i64 0)) := by
  have hl2 := wd_length_le hb.lt
  obtain ⟨hnpos, hx0, _⟩ := wd_top h0
  obtain ⟨A, hA⟩ : ∃ A, A = val a := ⟨_, rfl⟩
  obtain ⟨Bv, hBv⟩ : ∃ Bv, Bv = val b := ⟨_, rfl⟩
  rw [← hBv] at h0 hl2 hnpos hx0
  rw [← hA, ← hBv]
  obtain ⟨lb, hlb1⟩ : ∃ lb, lb = wd Bv := ⟨_, rfl⟩
  rw [← hlb1] at hl2 hnpos hx0
  obtain ⟨n, hn⟩ : ∃ n, n = lb.length := ⟨_, rfl⟩
  rw [← hn] at hl2 hnpos hx0
  have hub : U32 lb := by rw [hlb1]; exact u32_wd _
  have hxl := hub (n - 1)
  obtain ⟨x, hx⟩ : ∃ x, x = gd lb (n - 1) := ⟨_, rfl⟩
  rw [← hx] at hx0 hxl
  have hn0 : ((n : Int) == 0) = false := by simp; omega
  have HA := Lib.hid hA; have HBV := Lib.hid hBv; have HLB := Lib.hid hlb1; have HN := Lib.hid hn; have HX := Lib.hid hx; have H0 := Lib.hid h0; have HNA := Lib.hid ha
  clear hA hBv hlb1 hn hx h0 hub ha
  obtain ⟨ao, ca, rfl, hca, hca2, _⟩ := HNA.out.shape
  go_enter Tryd.func17, Tryd.ntmps17
  go_wp2_with fail
  (with_reducible refine (rtrim_any _ _ _ hb (by omega)).mono ?_); rintro e w1 ⟨v1, l1, rfl, hb1, hn1, hl1'⟩
  rw [hl1', ← HBV.out, ← HLB.out] at hn1
  obtain ⟨bo, cb, rfl, hcb, hcb2, _⟩ := hn1.shape
  rw [← HN.out] at hn1 hcb ⊢
  obtain ⟨bb, ob, rfl, _, hcell⟩ := hn1.at hnpos
  have hcx := hcell (n - 1) (by omega)
  rw [← HX.out] at hcx
  have HN1 := Lib.hid hn1; have HB1 := Lib.hid hb1
  clear hn1 hl1' hcell hb hb1
  go_wp2_with fail
  go_loop [8] (fun sv => ∃ s : Nat, sv = .int .i64 s ∧ s ≤ 31 ∧ Hid (x * 2 ^ s < 4294967296)) (fun sv => 32 - (intOf sv).toNat)
  case atStart => exact ⟨0, rfl, by omega, Lib.hid (by rw [Nat.pow_zero, Nat.mul_one]; exact hxl)⟩
  case round =>
    obtain ⟨s, rfl, hs31, hxs⟩ := hrel
    have hsw := shl32 x s hxs.out
    have htb := top_bit (x * 2 ^ s) hxs.out
    obtain ⟨y, hy⟩ : ∃ y, y = x * 2 ^ s := ⟨_, rfl⟩
    rw [← hy] at hsw htb
    have hyl : y < 4294967296 := by rw [hy]; exact hxs.out
    have HY := Lib.hid hy; clear hy
    by_cases hyt : y < 2147483648
    · rw [if_pos hyt] at htb
      have hs30 : s < 31 := by
        rcases Nat.lt_or_ge s 31 with h | h
        · exact h
        · exfalso
          have h1 : 2 ^ 31 ≤ 2 ^ s := Nat.pow_le_pow_right (by decide) h
          have h2 := Nat.mul_le_mul (show 1 ≤ x by omega) h1
          rw [← HY.out] at h2
          omega
      have hnx : x * 2 ^ (s + 1) < 4294967296 := by rw [Nat.pow_succ, ← Nat.mul_assoc, ← HY.out]; omega
      have HNX := Lib.hid hnx; clear hnx
      go_wp2_with fail
      go_round
      case rel => exact ⟨s + 1, by go_num, by omega, HNX⟩
      case measure => simp [intOf]; omega
    · rw [if_neg hyt] at htb
      obtain ⟨hVB, hVlo, hVlen, _⟩ := norm_len (Bv := Bv) (x := x) (s := s) (n := n) (by rw [HN.out, HLB.out]) H0.out (by rw [HX.out, HLB.out]) hxs.out (by rw [← HY.out]; omega)
      obtain ⟨V, hV⟩ : ∃ V, V = Bv * 2 ^ s := ⟨_, rfl⟩
      rw [← hV] at hVB hVlo hVlen
      have hup1 := rup_any _ a s w1 (HNA.out.below HB1.out) (by omega) (by omega)
      rw [← HA.out] at hup1
      have HUP1 := Lib.hid hup1; have HV := Lib.hid hV; have HVB := Lib.hid hVB; have HVLO := Lib.hid hVlo; have HVLEN := Lib.hid hVlen
      clear hup1 hV hVB hVlo hVlen
      go_wp2_with fail
      (with_reducible refine HUP1.out.mono ?_); rintro e w2 ⟨v2, l2, rfl, hb2, hn2, hl2'⟩
      have hup2 := rup_any _ lb s w2 (HN1.out.below hb2) (by rw [← HN.out]; omega) (by omega)
      rw [HLB.out, val_wd, ← HV.out] at hup2
      have HUP2 := Lib.hid hup2; have HB2 := Lib.hid (HB1.out.trans (hb2.mono HB1.out.size)); have HN2 := Lib.hid hn2; have HL2 := Lib.hid hl2'
      clear hup2 hb2 hn2 hl2'
      go_wp2_with fail
      (with_reducible refine HUP2.out.mono ?_); rintro e w3 ⟨v3, l3, rfl, hb3, hn3, hl3⟩
      have HB3 := Lib.hid (HB2.out.trans (hb3.mono HB2.out.size))
      rw [hl3] at hn3
      have hn2 := HN2.out.below hb3
      rw [HL2.out] at hn2
      have hAl := Nat.le_trans (wd_length_mono (show A ≤ A * 2 ^ s from Nat.le_mul_of_pos_right _ (Nat.two_pow_pos s))) (Nat.le_refl _)
      obtain ⟨AS, hAS⟩ : ∃ AS, AS = A * 2 ^ s := ⟨_, rfl⟩
      rw [← hAS] at hn2
      have hASl : (wd AS).length ≤ a.length + 1 := by
        have h1 := wd_mul_len A (2 ^ s)
        have h2 : (wd (2 ^ s)).length ≤ 1 := wd_length_of_lt (by rw [Nat.pow_one]; exact Nat.lt_of_le_of_lt (Nat.pow_le_pow_right (by decide) hs31) (by decide))
        have h3 : (wd A).length ≤ a.length := by rw [HA.out]; exact wd_length_le HNA.out.lt
        rw [hAS]; omega
      have hASv := val_lt (u32_wd AS)
      rw [val_wd] at hASv
      obtain ⟨ao2, ca2, rfl, hca2a, hca2b, _⟩ := hn2.shape
      obtain ⟨bo3, cb3, rfl, hcb3a, hcb3b, _⟩ := hn3.shape
      rw [HVLEN.out] at hn3 hcb3a ⊢
      obtain ⟨na, hna⟩ : ∃ na, na = (wd AS).length := ⟨_, rfl⟩
      rw [← hna] at hn2 hca2a hASl hASv ⊢
      obtain ⟨k0, hk0⟩ : ∃ k0, k0 = na + 1 - n := ⟨_, rfl⟩
      have hk0n : k0 ≤ na := by omega
      obtain ⟨d, hd⟩ : ∃ d : Int, d = (na : Int) - (n : Int) := ⟨_, rfl⟩
      obtain ⟨d1, hd1⟩ : ∃ d1 : Int, d1 = d + 1 := ⟨_, rfl⟩
      have e1 : IntKind.i64.wrap ((na : Int) - (n : Int)) = d := by rw [IntWalk.i64_in _ (by omega)]; omega
      have e2 : IntKind.i64.wrap (d + 1) = d1 := by rw [IntWalk.i64_in _ (by omega)]; omega
      have e3 : max (0 : Int) d1 = (k0 : Int) := by omega
      have hdk : d = (k0 : Int) - 1 ∨ (k0 = 0 ∧ d < 0) := by omega
      have hdb : -1000000 ≤ d ∧ d ≤ 1000000 := by omega
      have HN2 := Lib.hid hn2; have HN3 := Lib.hid hn3; have HN2W := Lib.hid hn2; have HN3W := Lib.hid hn3; have HAS := Lib.hid hAS; have HASV := Lib.hid hASv; have HNAE := Lib.hid hna; have HK0 := Lib.hid hk0; have HDK := Lib.hid hdk; have HDB := Lib.hid hdb
      have E1 := Lib.hid e1; have E2 := Lib.hid e2; have E3 := Lib.hid e3; have HD := Lib.hid hd
      have hmk := fun wx : World => run_makeW wx na (by omega)
      have hcut := fun wx : World => run_cutS wx ao2 k0 na ca2 hk0n
      have HMK := Lib.hid hmk; have HCUT := Lib.hid hcut
      clear hn2 hn3 hAS hASv hna hk0 hd hd1 e1 e2 e3 hdk hdb hmk hcut hb3 hl3 hAl htb hsw
      go_upto_region 9 with fail
      go_cut [9, 10] (fun v9 v10 wx => ∃ gq l10, v9 = .slice (some ⟨gq, 0, none⟩) na na ∧ w3.heap.size ≤ gq ∧ OwnW 38 wx w3.heap.size v9 (List.replicate na 0) ∧ Num wx v10 l10 ∧ Below w3.heap.size w3 wx ∧ Hid (l10 = (wd AS).drop k0))
      case first =>
        have e1 := E1.out; have e2 := E2.out; have e3 := E3.out; have hmk := HMK.out; have hcut := HCUT.out
        have bb : ∀ o1 o2 : Obj, Below w3.heap.size w3 ((w3.alloc o1).alloc o2).drew := fun o1 o2 => (((Below.refl _ _).alloc (Nat.le_refl _) o1).alloc (by simp) o2).drew
        have P1 : Hid (Below w3.heap.size w3 ((w3.alloc (.cells (freshW na) 38)).alloc (.cells #[] 38)).drew) := Lib.hid (bb _ _)
        have P2 : Hid (Below w3.heap.size w3 ((w3.alloc (.cells #[] 38)).alloc (.cells (freshW na) 38)).drew) := Lib.hid (bb _ _)
        have P3 : Hid (Below w3.heap.size w3 (w3.alloc (.cells #[] 38)).drew) := Lib.hid ((Below.refl _ _).alloc (Nat.le_refl _) _).drew
        have L1 : Hid (OwnW 38 ((w3.alloc (.cells (freshW na) 38)).alloc (.cells #[] 38)).drew w3.heap.size (.slice (some ⟨w3.heap.size + 1, 0, none⟩) 0 0) []) := Lib.hid (by
          have h := own_lit (w3.alloc (.cells (freshW na) 38)) 38 w3.heap.size #[] [] 0 (by simp) U32.nil rfl (by simp) rfl
          rw [show (w3.alloc (.cells (freshW na) 38)).heap.size = w3.heap.size + 1 from by simp] at h
          exact h.drew)
        have L2 : Hid (OwnW 38 ((w3.alloc (.cells #[] 38)).alloc (.cells (freshW na) 38)).drew w3.heap.size (.slice (some ⟨w3.heap.size, 0, none⟩) 0 0) []) := Lib.hid ((own_lit w3 38 w3.heap.size #[] [] 0 (Nat.le_refl _) U32.nil rfl (by simp) rfl).alloc _).drew
        have L3 : Hid (OwnW 38 (w3.alloc (.cells #[] 38)).drew w3.heap.size (.slice (some ⟨w3.heap.size, 0, none⟩) 0 0) []) := Lib.hid (own_lit w3 38 w3.heap.size #[] [] 0 (Nat.le_refl _) U32.nil rfl (by simp) rfl).drew
        have M1 : Hid (OwnW 38 ((w3.alloc (.cells (freshW na) 38)).alloc (.cells #[] 38)).drew w3.heap.size (.slice (some ⟨w3.heap.size, 0, none⟩) na na) (List.replicate na 0)) := Lib.hid (((own_made w3 w3.heap.size na (Nat.le_refl _) (by omega)).alloc _).drew)
        have M2 : Hid (OwnW 38 ((w3.alloc (.cells #[] 38)).alloc (.cells (freshW na) 38)).drew w3.heap.size (.slice (some ⟨w3.heap.size + 1, 0, none⟩) na na) (List.replicate na 0)) := Lib.hid (by
          have h := own_made (w3.alloc (.cells #[] 38)) w3.heap.size na (by simp) (by omega)
          rw [show (w3.alloc (.cells #[] 38)).heap.size = w3.heap.size + 1 from by simp] at h
          exact h.drew)
        have NN : Hid (∀ wx, Below w3.heap.size w3 wx → Num wx (cutS ao2 k0 na ca2) ((wd AS).drop k0)) := Lib.hid fun wx hx => (HN2.out.cut k0 hk0n).below hx
        clear bb
        have HLEN : Hid (([] : List Nat).length + ((wd AS).drop k0).length ≤ 17592186044416) := Lib.hid (by rw [List.length_drop, ← HNAE.out]; simp; omega)
        go_region_held3 (fun _ => True) (trivial) (first
        | (refine step_appendN2 Tryd.wordsTy (by rfl) (.tmp 40) (.tmp 48) rfl w3.heap.size (.slice (some ⟨w3.heap.size + 1, 0, none⟩) 0 0) (cutS ao2 k0 na ca2) [] ((wd AS).drop k0) rfl rfl L1.out (NN.out _ P1.out) HLEN.out P1.out.size ?_; intro v' w4 h1 h2 h3 h4; have hm := M1.out.keptBy (g := w3.heap.size + 1) h4 (Nat.ne_of_lt (Nat.lt_succ_self _)); have hbx := h2 _ P1.out; clear h2 h4)
        | (refine step_appendN2 Tryd.wordsTy (by rfl) (.tmp 40) (.tmp 48) rfl w3.heap.size (.slice (some ⟨w3.heap.size, 0, none⟩) 0 0) (cutS ao2 k0 na ca2) [] ((wd AS).drop k0) rfl rfl L2.out (NN.out _ P2.out) HLEN.out P2.out.size ?_; intro v' w4 h1 h2 h3 h4; have hm := M2.out.keptBy (g := w3.heap.size) h4 (Nat.succ_ne_self _); have hbx := h2 _ P2.out; clear h2 h4)
        | (refine step_appendN2 Tryd.wordsTy (by rfl) (.tmp 40) (.tmp 48) rfl w3.heap.size (.slice (some ⟨w3.heap.size, 0, none⟩) 0 0) (cutS ao2 k0 na ca2) [] ((wd AS).drop k0) rfl rfl L3.out (NN.out _ P3.out) HLEN.out P3.out.size ?_; intro v' w4 h1 h2 h3 h4; have hbx := h2 _ P3.out; clear h2 h4))
        all_goals
          go_wp2_with fail
          go_meet
          first
          | exact ⟨_, _, rfl, Nat.le_refl _, hm, h1.num, hbx, Lib.hid (List.nil_append _)⟩
          | exact ⟨_, _, rfl, Nat.le_succ _, hm, h1.num, hbx, Lib.hid (List.nil_append _)⟩
          | exact ⟨_, _, rfl, hbx.size, own_made _ _ _ hbx.size (by omega), (h1.alloc _).num, hbx.alloc hbx.size _, Lib.hid (List.nil_append _)⟩
      case rest =>
        obtain ⟨gq, l10, rfl, hgq, hO0, hn10, hb4, hl10⟩ := hcut
        have hgqb := hO0.block
        rw [hl10.out] at hn10
        have hfr := first_rest (V := V) HASV.out hnpos HVLO.out
        rw [← HK0.out] at hfr
        have HFR := Lib.hid hfr
        have HN10 := Lib.hid hn10; have HO0 := Lib.hid hO0
        have HB34 := Lib.hid hb4; have HB4 := Lib.hid (HB3.out.trans (hb4.mono HB3.out.size))
        have hdb := HDB.out
        have hv0 : val ((wd AS).drop k0) = AS / 4294967296 ^ k0 := by rw [val_drop (u32_wd AS), val_wd]
        have HV0 := Lib.hid hv0
        have hwin : w.heap.size ≤ gq := by have := HB3.out.size; omega
        clear hn10 hO0 hl10 hfr hv0 hb4
        have e1 := E1.out
        go_wp2_with fail
        clear e1
        go_loopw [10, 11] (fun rv iv wr => ∃ (k : Nat) (iz : Int) (lr lq : List Nat), k ≤ k0 ∧ iv = .int .i64 iz ∧ (iz = (k : Int) - 1 ∨ (k = 0 ∧ iz < 0)) ∧ -1000000 ≤ iz ∧ iz ≤ 1000000 ∧ Num wr rv lr ∧ lr.length ≤ 800001 ∧
          OwnW 38 wr w.heap.size (.slice (some ⟨gq, 0, none⟩) na na) lq ∧ Hid (lq.length = na) ∧ Below w.heap.size w wr ∧ Hid (AS / 4294967296 ^ k = val (lq.drop k) * V + val lr) ∧ Hid (val lr < V) ∧
          Below w3.heap.size w3 wr ∧ gq < wr.heap.size) (fun _ iv _ => (intOf iv + 1).toNat)
        case atStart => exact ⟨k0, d, _, _, Nat.le_refl _, rfl, HDK.out, hdb.1, hdb.2, HN10.out, by rw [List.length_drop, ← HNAE.out]; omega, HO0.out.base HB3.out.size, Lib.hid (by simp), HB4.out, Lib.hid (by rw [HV0.out, List.drop_replicate, val_zeros, Nat.zero_mul, Nat.zero_add]), Lib.hid (by rw [HV0.out]; exact HFR.out), HB34.out, hgqb.2⟩
        case round =>
          obtain ⟨k, iz, lr, lq, hk, rfl, hiz, hz1, hz2, hnr, hlr, hOq, hlq, hBr, hinv, hrV, hb3r, hgqr⟩ := hrel
          have hn2r := Lib.hid (HN2W.out.below hb3r)
          have hn3r := Lib.hid (HN3W.out.below hb3r)
          obtain ⟨wo, rfl⟩ : ∃ wo : World, wo = wr := ⟨_, rfl⟩
          by_cases hk0' : k = 0
          · subst hk0'
            have hneg : decide ((0 : Int) ≤ iz) = false := by simp; omega
            have hi0 := hinv.out
            rw [Nat.pow_zero, Nat.div_one, List.drop_zero, HAS.out, HV.out] at hi0
            have hr0 := hrV.out
            rw [HV.out] at hr0
            obtain ⟨g1, g2⟩ := div_scaled (Nat.two_pow_pos s) (show val lr + Bv * 2 ^ s * val lq = A * 2 ^ s by rw [hi0, Nat.mul_comm (val lq)]; omega) hr0
            have htr := rtrim_any _ _ _ hOq.num (by rw [hlq.out]; omega)
            rw [g1] at htr
            have HTR := Lib.hid htr; have G2 := Lib.hid g2; have HNR := Lib.hid hnr
            clear htr g1 g2 hi0 hr0 hnr hOq hiz
            go_wp2_with fail
            (with_reducible refine HTR.out.mono ?_); rintro e w5 ⟨v5, l5, rfl, hb5, hn5, hl5⟩
            have hrd := rdown_any _ lr s w5 (HNR.out.below hb5) (by omega) (by omega)
            rw [G2.out] at hrd
            have HRD := Lib.hid hrd; have HN5 := Lib.hid hn5; have HL5 := Lib.hid hl5
            clear hrd hn5 hl5
            go_wp2_with fail
            (with_reducible refine HRD.out.mono ?_); rintro e w6 ⟨v6, l6, rfl, hb6, hn6, hl6⟩
            go_wp2_with fail
            go_ret3
            have h1 := hBr.trans (hb5.mono hBr.size)
            exact ⟨_, _, rfl, h1.trans (hb6.mono h1.size), by rw [← HL5.out]; exact HN5.out.below hb6, by rw [← hl6]; exact hn6⟩
          · obtain ⟨j, rfl⟩ : ∃ j, k = j + 1 := ⟨k - 1, by omega⟩
            obtain rfl : iz = (j : Int) := by omega
            have hjna : j < na := by omega
            obtain ⟨b2, o2, rfl, _, hcell2⟩ := hn2r.out.at (by omega)
            have hxj := hcell2 j hjna
            have hxl := (u32_wd AS) j
            have hdig := val_digit (u32_wd AS) j
            rw [val_wd] at hdig
            obtain ⟨xj, hxje⟩ : ∃ xj, xj = gd (wd AS) j := ⟨_, rfl⟩
            rw [← hxje] at hxj hxl hdig
            have hlit := own_lit wo 38 wo.heap.size #[.int .u32 (xj : Nat)] [xj] 1 (Nat.le_refl _) (U32.cons hxl U32.nil) rfl (by simp) rfl
            have HLIT := Lib.hid hlit; have HNR := Lib.hid hnr; have HDIG := Lib.hid hdig; have HOQ := Lib.hid hOq
            clear hcell2 hxje hdig hlit hnr hOq
            go_wp2_with (at_builtin; refine wpList_appendN Tryd.wordsTy rfl (.tmp 62) (.tmp 63) rfl wo.heap.size _ _ [xj] lr rfl rfl HLIT.out (HNR.out.below ((Below.refl _ _).alloc (Nat.le_refl _) _)) ?c1 ?c2 ?_)
            case c1 => simp; omega
            case c2 => simp
            intro v5 w5 h1 h2 h3
            have hb5 := h2 wo ((Below.refl _ _).alloc (Nat.le_refl _) _)
            have hval5 : val (xj :: lr) = xj + 4294967296 * val lr := rfl
            have htr := rtrim_any _ _ _ h1.num (by simp; omega)
            rw [hval5] at htr
            obtain ⟨R, hR⟩ : ∃ R, R = xj + 4294967296 * val lr := ⟨_, rfl⟩
            rw [← hR] at htr
            have hRV : R < 4294967296 * V := by rw [hR]; have := hrV.out; omega
            have hstep := rdiv_step hinv.out hR
            rw [← HDIG.out] at hstep
            have hRn : R < 4294967296 ^ (n + 1) := by
              rw [Nat.pow_succ, Nat.mul_comm]
              exact Nat.lt_of_lt_of_le hRV (Nat.mul_le_mul_left _ (Nat.le_of_lt HVB.out))
            have hRl : (wd R).length ≤ n + 1 := wd_length_of_lt hRn
            have htwo := head_two hRn hnpos
            have htop := top_one HVB.out hnpos
            have HTR := Lib.hid htr; have HRV := Lib.hid hRV; have HSTEP := Lib.hid hstep
            have HOQ := Lib.hid (HOQ.out.below hb5); have HN2R := Lib.hid (hn2r.out.below hb5); have HN3R := Lib.hid (hn3r.out.below hb5); have HBR := Lib.hid (hBr.trans (hb5.mono hBr.size)); have HB3R := Lib.hid (hb3r.trans (hb5.mono hb3r.size))
            have hgq5 : gq < w5.heap.size := Nat.lt_of_lt_of_le hgqr hb5.size
            clear htr hRV hstep hval5 hR h1 h2 h3 hb5 hRn
            go_wp2_with fail
            (with_reducible refine HTR.out.mono ?_); rintro e w6 ⟨v6, l6, rfl, hb6, hn6, hl6⟩
            rw [hl6] at hn6
            have HOQ := Lib.hid (HOQ.out.below hb6); have HN2R := Lib.hid (HN2R.out.below hb6); have HN3R := Lib.hid (HN3R.out.below hb6); have HBR := Lib.hid (HBR.out.trans (hb6.mono HBR.out.size)); have HB3R := Lib.hid (HB3R.out.trans (hb6.mono HB3R.out.size))
            have hgq6 : gq < w6.heap.size := Nat.lt_of_lt_of_le hgq5 hb6.size
            have hw1 := rword_any _ _ (n : Int) w6 hn6 (by omega) (by omega)
            have hw2 := rword_any _ _ ((n : Int) - 1) w6 hn6 (by omega) (by omega)
            have hw3 := rword_any _ _ ((n : Int) - 1) w6 HN3R.out (by omega) (by omega)
            rw [Int.toNat_natCast] at hw1
            rw [show ((n : Int) - 1).toNat = n - 1 by omega] at hw2 hw3
            have hp1l := (u32_wd R) n
            have hp0l := (u32_wd R) (n - 1)
            have htl := (u32_wd V) (n - 1)
            obtain ⟨p1, hp1⟩ : ∃ p1, p1 = gd (wd R) n := ⟨_, rfl⟩
            obtain ⟨p0, hp0⟩ : ∃ p0, p0 = gd (wd R) (n - 1) := ⟨_, rfl⟩
            obtain ⟨top, htopE⟩ : ∃ top, top = gd (wd V) (n - 1) := ⟨_, rfl⟩
            rw [← hp1] at hw1 hp1l htwo
            rw [← hp0] at hw2 hp0l htwo
            rw [← htopE] at hw3 htl htop
            have hor := or_words' p0 p1 hp0l hp1l
            obtain ⟨H, hH⟩ : ∃ H, H = p1 * 4294967296 + p0 := ⟨_, rfl⟩
            have hHl : H < 18446744073709551616 := by omega
            rw [← hH] at hor htwo
            have ht31 : 2147483648 ≤ top := by
              rw [htop, Nat.le_div_iff_mul_le (Nat.pow_pos (by decide))]; exact HVLO.out
            have hgg := guess_ge (P := 4294967296 ^ (n - 1)) (Nat.pow_pos (by decide)) htwo htop (by omega) HRV.out
            obtain ⟨G0, hG0⟩ : ∃ G0, G0 = H / top := ⟨_, rfl⟩
            have hG0i : (H : Int) / (top : Int) = (G0 : Int) := by rw [hG0]; simp
            have hG0l : G0 < 18446744073709551616 := by rw [hG0]; exact Nat.lt_of_le_of_lt (Nat.div_le_self _ _) hHl
            rw [← hG0] at hgg
            obtain ⟨gs, hgs⟩ : ∃ gs, gs = min G0 4294967295 := ⟨_, rfl⟩
            have hmin : min (G0 : Int) 4294967295 = (gs : Int) := by omega
            have hgsl : gs < 4294967296 := by omega
            rw [← hgs] at hgg
            have hgmod : (gs : Int) % 4294967296 = (gs : Int) := by omega
            have HW1 := Lib.hid hw1; have HW2 := Lib.hid hw2; have HW3 := Lib.hid hw3; have HGG := Lib.hid hgg; have HN6 := Lib.hid hn6; have HG0I := Lib.hid hG0i; have HMIN := Lib.hid hmin
            clear hw1 hw2 hw3 hp1 hp0 htopE hH hG0 hgs hgg hn6 htwo htop hl6 hb6 hG0i hmin
            go_wp2_with fail
            (with_reducible refine HW1.out.mono ?_); rintro e wx ⟨rfl, rfl⟩
            go_wp2_with fail
            (with_reducible refine HW2.out.mono ?_); rintro e wx ⟨rfl, rfl⟩
            have hG0i := HG0I.out; have hmin := HMIN.out
            go_wp2_with fail
            (with_reducible refine HW3.out.mono ?_); rintro e wx ⟨rfl, rfl⟩
            have hone := num_one w6 38 gs hgsl
            have hal := (Below.refl w6.heap.size w6).alloc (Nat.le_refl _) (.cells #[.int .u32 (gs : Nat)] 38)
            have hmu := rmul_any _ _ _ _ _ (HN3R.out.below hal) hone (by rw [HVLEN.out]; omega) (by simp)
            rw [val_wd, show val [gs] = gs from rfl] at hmu
            have HMU := Lib.hid hmu
            clear hone hmu
            go_wp2_with fail
            (with_reducible refine HMU.out.mono ?_); rintro e w7 ⟨v7, l7, rfl, hb7, hn7, hl7⟩
            clear hG0i hmin
            rw [hl7] at hn7
            have hb67 := hal.trans (hb7.mono (by simp))
            have HOQ := Lib.hid (HOQ.out.below hb67); have HN2R := Lib.hid (HN2R.out.below hb67); have HN3R := Lib.hid (HN3R.out.below hb67); have HN6 := Lib.hid (HN6.out.below hb67); have HBR := Lib.hid (HBR.out.trans (hb67.mono HBR.out.size)); have HB3R := Lib.hid (HB3R.out.trans (hb67.mono HB3R.out.size))
            have hgq7 : gq < w7.heap.size := Nat.lt_of_lt_of_le hgq6 hb67.size
            have HN7 := Lib.hid hn7
            have hV0 : 0 < V := Nat.lt_of_lt_of_le (Nat.mul_pos (by decide) (Nat.pow_pos (by decide))) HVLO.out
            have hVl : (wd V).length = n := HVLEN.out
            have HVL := Lib.hid hVl
            clear hn7 hl7 hb7 hal hVl
            go_wp2_with fail
            go_loopw [12, 13] (fun gv pv wr => ∃ g : Nat, gv = .int .u64 g ∧ g < 4294967296 ∧ Hid (R / V ≤ g) ∧ Num wr pv (wd (V * g)) ∧ Below w7.heap.size w7 wr) (fun gv _ _ => (intOf gv).toNat)
            case atStart => exact ⟨gs, rfl, hgsl, HGG, HN7.out, Below.refl _ _⟩
            case round =>
              obtain ⟨g, rfl, hgl, hgR, hnp, hb8⟩ := hrel
              obtain ⟨w8, rfl⟩ : ∃ w8 : World, w8 = wr := ⟨_, rfl⟩
              have hpl : (wd (V * g)).length ≤ n + 1 := by
                have h1 := wd_mul_len V g
                have h2 : (wd g).length ≤ 1 := wd_length_of_lt (by rw [Nat.pow_one]; exact hgl)
                rw [HVL.out] at h1; omega
              have hcm := rcmp_any _ _ _ _ _ hnp (HN6.out.below hb8) (by omega) (by omega)
              rw [val_wd, val_wd] at hcm
              by_cases hgt : R < V * g
              · have hg1 : 1 ≤ g := by
                  rcases Nat.eq_zero_or_pos g with h | h
                  · rw [h, Nat.mul_zero] at hgt; omega
                  · exact h
                rw [cmpN_gt hgt] at hcm
                have hsu := rsub_ge _ _ _ _ _ hnp (HN3R.out.below hb8) (by omega) (by rw [HVL.out]; omega) (by rw [val_wd, val_wd]; exact Nat.le_mul_of_pos_right _ hg1)
                rw [val_wd, val_wd] at hsu
                obtain ⟨gm, hgm⟩ : ∃ gm, gm = g - 1 := ⟨_, rfl⟩
                have hgmi : (g : Int) - 1 = (gm : Int) := by omega
                have hpe : V * g - V = V * gm := by rw [hgm, Nat.mul_sub, Nat.mul_one]
                rw [hpe] at hsu
                have hgR2 : R / V ≤ gm := by
                  have h1 : R / V < g := by rw [Nat.div_lt_iff_lt_mul hV0, Nat.mul_comm]; exact hgt
                  omega
                have hgmg : gm < g := by omega
                have HCM := Lib.hid hcm; have HSU := Lib.hid hsu; have HGR2 := Lib.hid hgR2
                clear hcm hsu hgm hpe hgR2 hgt hnp
                go_wp2_with fail
                (with_reducible refine HCM.out.mono ?_); rintro e wx ⟨rfl, rfl⟩
                go_wp2_with fail
                (with_reducible refine HSU.out.mono ?_); rintro e w9 ⟨v9, rfl, hb9, hn9⟩
                have HN9 := Lib.hid hn9
                clear hn9
                go_wp2_with fail
                go_roundw
                case rel => exact ⟨gm, rfl, by omega, HGR2, HN9.out, hb8.trans (hb9.mono hb8.size)⟩
                case measure => simp [intOf]; omega
              · have hge : g = R / V := by
                  have h1 : g ≤ R / V := by rw [Nat.le_div_iff_mul_le hV0, Nat.mul_comm]; omega
                  have := hgR.out; omega
                have hcz : decide ((0 : Int) < cmpN (V * g) R) = false := by
                  unfold cmpN
                  by_cases h1 : V * g < R
                  · rw [if_pos h1]; rfl
                  · rw [if_neg h1, if_neg hgt]; rfl
                obtain ⟨cz, hcze⟩ : ∃ cz, cz = cmpN (V * g) R := ⟨_, rfl⟩
                rw [← hcze] at hcm hcz
                have hsu := rsub_own _ _ _ _ _ (HN6.out.below hb8) hnp (by omega) (by omega) (by rw [val_wd, val_wd]; omega)
                rw [val_wd, val_wd] at hsu
                have hrem : R - V * g = R % V := by
                  have := Nat.div_add_mod R V
                  rw [← hge] at this; omega
                rw [hrem] at hsu
                have hO8 := HOQ.out.below hb8
                have HO8 := Lib.hid hO8
                have HB8 := Lib.hid (HBR.out.trans (hb8.mono HBR.out.size)); have HB38 := Lib.hid (HB3R.out.trans (hb8.mono HB3R.out.size))
                have HCM := Lib.hid hcm; have HSU := Lib.hid hsu; have HGE := Lib.hid hge
                have hgq8 : gq < w8.heap.size := Nat.lt_of_lt_of_le hgq7 hb8.size
                have hgmod2 : (g : Int) % 4294967296 = (g : Int) := by omega
                clear hcm hsu hge hrem hgt hnp hO8 hcze
                go_wp2_with fail
                (with_reducible refine HCM.out.mono ?_); rintro e wx ⟨rfl, rfl⟩
                go_wp2_with fail
                (with_reducible refine HSU.out.mono ?_); rintro e w9 ⟨v9, rfl, hb9, ho9⟩
                have hO9 := HO8.out.below hb9
                have hcq := hO9.cell hlq.out j hjna
                have hfq := hO9.frozen hlq.out j
                have hgrw := hO9.grown hlq.out j g
                have HO9 := Lib.hid hO9; have HR9 := Lib.hid ho9; have HGRW := Lib.hid hgrw
                have HB9 := Lib.hid (HB8.out.trans (hb9.mono HB8.out.size)); have HB39 := Lib.hid (HB38.out.trans (hb9.mono HB38.out.size))
                have hsz9 := hb9.size
                clear hO9 ho9 hgrw hb9
                have hrl : R % V < V := Nat.mod_lt _ hV0
                have hrlen : (wd (R % V)).length ≤ 800001 := Nat.le_trans (wd_length_mono (Nat.le_of_lt hrl)) (by rw [HVL.out]; omega)
                have HRL := Lib.hid hrl; have HRLEN := Lib.hid hrlen
                clear hrl hrlen
                go_wp2_with fail
                go_roundw
                case rel =>
                  refine ⟨j, (j : Int) - 1, _, lq.set j g, by omega, rfl, .inl rfl, by omega, by omega, (HR9.out.keptFrom HGRW.out (fun k hk => by cases hk; exact hgq8)).num, HRLEN.out, HO9.out.stored hlq.out j g hgl, Lib.hid (by rw [List.length_set]; exact hlq.out), HB9.out.setCell hwin _, Lib.hid ?_, Lib.hid ?_, HB39.out.setCell hgq _, Nat.lt_of_lt_of_le hgq8 (Nat.le_trans hsz9 HGRW.out.size)⟩
                  · rw [val_drop_set _ _ _ (by rw [hlq.out]; exact hjna), val_wd, HGE.out]; exact HSTEP.out
                  · rw [val_wd]; exact HRL.out
                case measure => simp [intOf]
end Go.Proofs.YtdepoikifneggaaDoor
