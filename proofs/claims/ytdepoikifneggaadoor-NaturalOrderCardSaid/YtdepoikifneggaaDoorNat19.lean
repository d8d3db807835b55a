/-
  The reference's Shift: what it hands back.
  Conditions: each theorem's own.
-/
import Derived.Test.YtdepoikifneggaaDoorNat18
import Derived.Test.YtdepoikifneggaaDoorNatMath11
import Derived.StillTailTactics
import Derived.IntWalk
namespace Go.Proofs.YtdepoikifneggaaDoor
open Go.RowKit Go.ChangeShapes Go.WideShapes

set_option maxRecDepth 100000 in
set_option maxHeartbeats 400000 in
theorem rshift_err (va : Value) (n : Int) (w : World) (h : n < -131072 ∨ 131072 < n) :
    Calls Tryd.prog 35 #[va, .int .i64 n] w (RetNE w 0 (.int .i64 3)) := by
  have h1 : (decide (n < -131072) || decide ((131072 : Int) < n)) = true := by simp; omega
  by_cases h2 : n < -131072
  · have h3 : decide (n < -131072) = true := decide_eq_true h2
    clear h h1 h2
    go_enter Tryd.func35, Tryd.ntmps35
    go_wp2_with fail
    go_ret2
    exact ⟨_, rfl, Below.refl _ _, by rw [wd_zero]; exact Num.nil _⟩
  · have h3 : decide (n < -131072) = false := decide_eq_false h2
    have h4 : decide ((131072 : Int) < n) = true := decide_eq_true (by omega)
    clear h h1 h2
    go_enter Tryd.func35, Tryd.ntmps35
    go_wp2_with fail
    go_ret2
    exact ⟨_, rfl, Below.refl _ _, by rw [wd_zero]; exact Num.nil _⟩

theorem max_tdiv (t : Int) : max 0 (t.tdiv 32) = ((t / 32).toNat : Int) := by
  rcases Int.le_total 0 t with h | h
  · rw [Int.tdiv_eq_ediv_of_nonneg h]; omega
  · have e := Int.neg_tdiv (a := -t) (b := 32)
    have e2 := Int.tdiv_eq_ediv_of_nonneg (a := -t) (b := 32) (by omega)
    rw [Int.neg_neg, e2] at e
    rw [e]; omega

set_option maxRecDepth 100000 in
set_option maxHeartbeats 1600000 in
theorem rshift_in (va : Value) (a : List Nat) (n : Int) (w : World) (ha : Num w va a) (hla : a.length ≤ 800000) (h1 : -131072 ≤ n) (h2 : n ≤ 131072) :
    Calls Tryd.prog 35 #[va, .int .i64 n] w (RetNE w (if 0 ≤ n then val a * 2 ^ n.toNat else val a / 2 ^ (-n).toNat) (.int .i64 0)) := by
  have f1 : decide (n < -131072) = false := decide_eq_false (by omega)
  have f2 : decide ((131072 : Int) < n) = false := decide_eq_false (by omega)
  have hbits := rbits_any va a w ha (by omega)
  have hbl := blen_le_len ha.lt
  have hend := lt_of_blen (n := val a) (b := blen (val a)) (Nat.le_refl _)
  obtain ⟨A, hA⟩ : ∃ A, A = val a := ⟨_, rfl⟩
  rw [← hA] at hbits hbl hend ⊢
  obtain ⟨B, hB⟩ : ∃ B, B = blen A := ⟨_, rfl⟩
  rw [← hB] at hbits hbl hend
  obtain ⟨T, hT⟩ : ∃ T, T = if 0 ≤ n then A * 2 ^ n.toNat else A / 2 ^ (-n).toNat := ⟨_, rfl⟩
  rw [← hT]
  have hBu : B ≤ 25600000 := by omega
  obtain ⟨L, hL⟩ : ∃ L : Nat, L = (((B : Int) + n + 31) / 32).toNat := ⟨_, rfl⟩
  have hLb : L ≤ 1000000 := by omega
  have hLb' : L ≤ 70368744177664 := by omega
  have hmx : max 0 (((B : Int) + n + 31).tdiv 32) = (L : Int) := by rw [hL]; exact max_tdiv _
  have hLk : ∀ i k : Nat, i < B → (i : Int) + n = k → k / 32 < L := fun i k h1 h2 => by omega
  have HBITS := Lib.hid hbits; have HA := Lib.hid hA; have HBE := Lib.hid hB; have HEND := Lib.hid hend; have HNA := Lib.hid ha; have HT := Lib.hid hT; have HL := Lib.hid hL; have HLK := Lib.hid hLk; have HMX := Lib.hid hmx
  clear hbits hA hB hend ha hbl hT hL hLk hmx
  go_enter Tryd.func35, Tryd.ntmps35
  go_wp2_with fail
  (with_reducible refine HBITS.out.mono ?_); rintro e w1 ⟨rfl, rfl⟩
  go_wp2_with (at_make; refine wpList_makeN Tryd.wordsTy rfl _ _ rfl _ _ _ _ L rfl rfl ?c1 ?c2 hLb' ?_)
  case c1 => exact HMX.out
  case c2 => exact HMX.out
  intro w1 hO hB hsz
  go_wp2_with fail
  (with_reducible refine (rbits_any va a w1 (HNA.out.below hB) (by omega)).mono ?_); rintro e w2 ⟨rfl, rfl⟩
  rw [← HA.out, ← HBE.out]
  go_wp2_with fail
  go_loopw [7, 8, 25] (fun _ _ iv wr => ∃ (i : Nat) (l : List Nat), i ≤ B ∧ iv = .int .i64 i ∧ OwnW 38 wr w.heap.size (.slice (some ⟨w.heap.size, 0, none⟩) L L) l ∧ Hid (l.length = L) ∧ Below w.heap.size w wr ∧ Hid (val l = partS A n i)) (fun _ _ i _ => B - (intOf i).toNat)
  case atStart => exact ⟨0, _, Nat.zero_le _, rfl, hO, Lib.hid (by simp), hB, Lib.hid (by rw [val_zeros, partS_zero])⟩
  case round =>
    obtain ⟨i, l, hi, rfl, hOr, hll, hBr, hinv⟩ := hrel
    by_cases hin : i < B
    · have hst1 := hOr
      rcases Int.lt_or_le ((i : Int) + n) 0 with hk | hk
      · have hkf : decide (0 ≤ (i : Int) + n) = false := decide_eq_false (by omega)
        have hlow := partS_low (A := A) hk
        have HLOW := Lib.hid hlow; clear hlow
        go_wp2_with fail
        go_roundw
        case rel => exact ⟨i + 1, l, by omega, by go_num, hOr, hll, hBr, Lib.hid (by rw [HLOW.out]; exact hinv.out)⟩
        case measure => simp [intOf]; omega
      · obtain ⟨k, hk'⟩ := Int.eq_ofNat_of_zero_le hk
        have hkL := HLK.out i k hin hk'
        have hkf : decide (0 ≤ (i : Int) + n) = true := decide_eq_true (by omega)
        have hv := partS_lt (A := A) hk'
        have hvs := partS_succ (A := A) hk'
        rw [← hinv.out] at hv hvs
        have hol := put_small hOr.lt hv
        have hpb := fun b => put_bit (l := l) (k := k) (b := b) (by rw [hll.out]; exact hkL)
        obtain ⟨q, hq⟩ : ∃ q, q = k / 32 := ⟨_, rfl⟩
        obtain ⟨r, hr⟩ : ∃ r, r = k % 32 := ⟨_, rfl⟩
        have hr32 : r < 32 := by omega
        rw [← hq, ← hr] at hol hpb
        rw [← hq] at hkL
        have e1 : IntKind.i64.wrap ((i : Int) + n) = (k : Int) := by rw [IntWalk.i64_in _ (by omega)]; exact hk'
        have e2 : IntKind.i64.wrap ((k : Int) / 32) = (q : Int) := by rw [IntWalk.i64_in _ (by omega)]; omega
        have e3 : (k : Int).tmod 32 = (r : Int) := by rw [Int.tmod_eq_emod_of_nonneg (by omega)]; omega
        obtain ⟨b, hb⟩ : ∃ b, b = A / 2 ^ i % 2 := ⟨_, rfl⟩
        have hb1 : b ≤ 1 := by omega
        have hbit : ∀ wx, Below w.heap.size w wx → Calls Tryd.prog 61 #[va, .int .i64 i] wx (RetS wx (.int .u32 (b : Nat))) := fun wx hx => by
          have h := rbit_any va a i wx (HNA.out.below hx) (by omega)
          rw [← HA.out, ← hb] at h; exact h
        have hcell := hOr.cell hll.out q hkL
        have hfr := hOr.frozen hll.out q
        obtain ⟨o, ho⟩ : ∃ o, o = gd l q := ⟨_, rfl⟩
        rw [← ho] at hol hpb hcell
        obtain ⟨y, hy⟩ : ∃ y, y = b * 2 ^ r := ⟨_, rfl⟩
        have hor := or_low b r o hr32 hol
        have hyl : y < 4294967296 := by
          rw [hy]
          have h1 : 2 ^ r ≤ 2 ^ 31 := Nat.pow_le_pow_right (by decide) (by omega)
          have h2 := Nat.mul_le_mul hb1 h1
          omega
        rw [← hy, Nat.mod_eq_of_lt hyl] at hor
        have e4 : IntKind.u32.wrap ((b : Int) * 2 ^ r) = (y : Int) := by rw [hy]; exact shl32 b r (by rw [← hy]; exact hyl)
        have hor1 := hor.1
        rw [show ((y : Nat) : Int) % 4294967296 = (y : Int) from by omega] at hor1
        have hzl := hor.2
        obtain ⟨z, hz⟩ : ∃ z, z = o + y := ⟨_, rfl⟩
        rw [← hz] at hor1 hzl
        have hpb1 := hpb b
        rw [← hy, ← hz] at hpb1
        rw [← hb, ← hpb1] at hvs
        have HVS := Lib.hid hvs; have HBIT := Lib.hid hbit; have HZL := Lib.hid hzl; have HO := Lib.hid hOr
        have hbit2 : Calls Tryd.prog 61 #[va, .int .i64 i] wr.drew (fun e w'' => e = .returned (.int .u32 (b : Nat)) ∧ w'' = wr.drew) :=
          (HBIT.out _ hBr.drew).mono fun e w' h => by obtain ⟨rfl, rfl⟩ := h; exact ⟨rfl, rfl⟩
        have HBIT2 := Lib.hid hbit2; clear hbit2
        clear hv hvs hol hpb hpb1 hq hr hb ho hy hor hz hbit hzl hOr hst1
        go_upto_region 9 with fail
        go_still_tail 13, (by kernel_rfl)
        still_call HBIT2.out
        repeat still_step
        refine wpStill_nil ?_
        change wpList _ _ _ _ _ wr.drew
        obtain ⟨wd2, hwd2⟩ : ∃ x, x = wr.drew := ⟨_, rfl⟩
        have hcell2 : wd2.cell? ⟨w.heap.size, q, none⟩ = some (.int .u32 (o : Nat)) := by rw [hwd2]; exact hcell
        have hfr2 : wd2.frozen? ⟨w.heap.size, q, none⟩ = false := by rw [hwd2]; exact hfr
        have HOD : Hid (OwnW 38 wd2 w.heap.size (.slice (some ⟨w.heap.size, 0, none⟩) L L) l) := Lib.hid (by rw [hwd2]; exact HO.out.drew)
        have HBD : Hid (Below w.heap.size w wd2) := Lib.hid (by rw [hwd2]; exact hBr.drew)
        rw [← hwd2]
        clear hwd2 hcell hfr HO HBIT2 HBIT
        go_wp2_with fail
        go_roundw
        case rel => exact ⟨i + 1, l.set q z, by omega, by go_num, HOD.out.stored hll.out q z HZL.out, Lib.hid (by rw [List.length_set]; exact hll.out), HBD.out.setCell (Nat.le_refl _) _, Lib.hid HVS.out.symm⟩
        case measure => simp [intOf]; omega
    · obtain rfl : i = B := by omega
      have he := hinv.out
      rw [partS_end HEND.out, ← HT.out] at he
      have HE := Lib.hid he; clear he
      go_wp2_with fail
      (with_reducible refine (rtrim_any _ _ _ hOr.num (by rw [hll.out]; omega)).mono ?_); rintro e w5 ⟨v5, l5, rfl, hb5, hn5, hl5⟩
      rw [hl5, HE.out] at hn5
      go_wp2_with fail
      go_ret2
      exact ⟨_, rfl, hBr.trans (hb5.mono hBr.size), hn5⟩
theorem rshift_any (va : Value) (a : List Nat) (n : Int) (w : World) (ha : Num w va a) (hla : a.length ≤ 800000) :
    Calls Tryd.prog 35 #[va, .int .i64 n] w (RetNE w (shiftV (val a) n) (.int .i64 (shiftC n : Nat))) := by
  unfold shiftV shiftC
  by_cases h1 : n < -131072 ∨ 131072 < n
  · rw [if_pos h1, if_pos h1]; exact rshift_err va n w h1
  · rw [if_neg h1, if_neg h1]; exact rshift_in va a n w ha hla (by omega) (by omega)
end Go.Proofs.YtdepoikifneggaaDoor
