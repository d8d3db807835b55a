/-
  The reference's Text: what it hands back.
  Conditions: each theorem's own.
-/
import Derived.Test.YtdepoikifneggaaDoorText
import Derived.Test.YtdepoikifneggaaDoorNat14
namespace Go.Proofs.YtdepoikifneggaaDoor
open Go.RowKit Go.ChangeShapes Go.WideShapes

def emptyS : Value → Nat
  | .string b => if b.size = 0 then 1 else 0
  | _ => 0
theorem enc_digit {c : Int} {m : Nat} (hc : c = 48 + ((m % 10 : Nat) : Int)) : Utf8.encode c = ⟨#[digB m]⟩ := by
  subst hc
  have h : m % 10 < 10 := Nat.mod_lt _ (by decide)
  unfold digB
  generalize m % 10 = d at h ⊢
  match d, h with
  | 0, _ => rfl
  | 1, _ => rfl
  | 2, _ => rfl
  | 3, _ => rfl
  | 4, _ => rfl
  | 5, _ => rfl
  | 6, _ => rfl
  | 7, _ => rfl
  | 8, _ => rfl
  | 9, _ => rfl
theorem enc_put {c : Int} {m : Nat} {o : List UInt8} (hc : c = 48 + ((m % 10 : Nat) : Int)) : Utf8.encode c ++ ⟨o.toArray⟩ = ⟨(digB m :: o).toArray⟩ := by
  rw [enc_digit hc]
  apply ByteArray.ext
  simp
theorem emptyS_enc {c : Int} {m : Nat} {o : List UInt8} (hc : c = 48 + ((m % 10 : Nat) : Int)) : emptyS (.string (Utf8.encode c ++ ⟨o.toArray⟩)) = 0 := by
  rw [enc_put hc]
  show (if (ByteArray.mk (digB m :: o).toArray).size = 0 then 1 else 0) = 0
  rw [if_neg (by simp [ByteArray.size])]
set_option maxRecDepth 100000 in
theorem enc_le (c : Int) : (Utf8.encode c).size ≤ 4 := by
  unfold Utf8.encode
  dsimp only
  generalize (if Utf8.valid c = true then c.toNat else Utf8.runeError) = n
  split
  · exact Nat.le_of_ble_eq_true rfl
  · split
    · exact Nat.le_of_ble_eq_true rfl
    · split
      · exact Nat.le_of_ble_eq_true rfl
      · exact Nat.le_of_ble_eq_true rfl
theorem pow_ten (k : Nat) : 4294967296 ^ k ≤ 10 ^ (10 * k) := by
  rw [Nat.pow_mul]; exact Nat.pow_le_pow_left (by decide) k
theorem digD_len {n k : Nat} (h : n < 10 ^ k) : (digD n).length ≤ k := by
  induction k generalizing n with
  | zero => have : n = 0 := by simpa using h
            subst this; rw [digD_zero]; simp
  | succ k ih =>
    by_cases h0 : n = 0
    · subst h0; rw [digD_zero]; simp
    · have := ih (n := n / 10) (by rw [Nat.pow_succ] at h; omega)
      rw [digD_pos h0, List.length_cons]; omega
theorem first_len (m : Nat) : [digB m].length + (digD (m / 10)).length ≤ (digD m).length + 1 := by
  by_cases h : m = 0
  · subst h; rw [show (0 : Nat) / 10 = 0 from rfl, digD_zero]; decide
  · rw [digD_pos h]; simp only [List.length_cons, List.length_nil]; omega
theorem dec_first (m : Nat) : decB m = ⟨((digD (m / 10)).reverse ++ [digB m]).toArray⟩ := by
  unfold decB
  by_cases h : m = 0
  · subst h; rw [if_pos rfl, show (0 : Nat) / 10 = 0 from rfl, digD_zero]; rfl
  · rw [if_neg h, digD_pos h, List.reverse_cons]
set_option maxRecDepth 100000 in
set_option maxHeartbeats 1600000 in
theorem rtext_any (va : Value) (a : List Nat) (w : World) (ha : Num w va a) (hla : a.length ≤ 400000) :
    Calls Tryd.prog 47 #[va] w (RetV w (.string (decB (val a)))) := by
  have hl1 := wd_length_le ha.lt
  obtain ⟨N, hN⟩ : ∃ N, N = val a := ⟨_, rfl⟩
  rw [← hN] at hl1 ⊢
  have hdl : (digD N).length ≤ 4000000 := by
    have h1 := val_lt ha.lt
    rw [← hN] at h1
    have h2 := digD_len (Nat.lt_of_lt_of_le h1 (pow_ten _))
    omega
  have HDL := Lib.hid hdl; clear hdl
  have HN := Lib.hid hN; clear hN
  go_enter Tryd.func47, Tryd.ntmps47
  go_wp2_with fail
  (with_reducible refine (rtrim_any _ _ _ ha (by omega)).mono ?_); rintro e w1 ⟨v1, l1, rfl, hb1, hn1, hl1'⟩
  rw [hl1', ← HN.out] at hn1
  have HN1 := Lib.hid hn1; have HB1 := Lib.hid hb1
  clear hn1 hl1' hb1 ha
  go_wp2_with fail
  go_loopw [0, 3, 4, 5, 6] (fun av sv _ _ _ wr => ∃ (m : Nat) (o : List UInt8), sv = .string ⟨o.toArray⟩ ∧ Num wr av (wd m) ∧ Below w.heap.size w wr ∧ Hid (m ≤ N) ∧ Hid (o.length + (digD m).length ≤ (digD N).length + 1) ∧ (o = [] ∧ m = N ∨ o ≠ [] ∧ Hid (decB N = ⟨((digD m).reverse ++ o).toArray⟩))) (fun av sv _ _ _ wr => 2 * numOf wr av + emptyS sv)
  case atStart => exact ⟨N, [], rfl, HN1.out, HB1.out, Lib.hid (Nat.le_refl _), Lib.hid (by simp), .inl ⟨rfl, rfl⟩⟩
  case round =>
    obtain ⟨m, o, rfl, hr, hBr, hle, hlen, hor⟩ := hrel
    have HR := Lib.hid hr; have HBR := Lib.hid hBr
    clear hr hBr
    obtain ⟨ao, ca, rfl, hca, hca2, _⟩ := HR.out.shape
    obtain ⟨K, hK⟩ : ∃ K, K = (wd m).length := ⟨_, rfl⟩
    rw [← hK] at HR hca ⊢
    cases o with
    | nil =>
      obtain rfl : m = N := by
        rcases hor with ⟨_, h⟩ | ⟨h, _⟩
        · exact h
        · exact absurd rfl h
      clear hor
      by_cases hK0 : K = 0
      · subst hK0
        have HK := Lib.hid hK; clear hK
        have hs := rof_any 10 wr (by decide) (by decide)
        rw [show (10 : Int).toNat = 10 from rfl] at hs
        have HS := Lib.hid hs; clear hs
        go_wp2_with fail
        (with_reducible refine HS.out.mono ?_); rintro e w2 ⟨v2, l2, rfl, hb2, hn2, hl2⟩
        rw [hl2] at hn2
        have HB2 := Lib.hid (HBR.out.trans (hb2.mono HBR.out.size)); have HR2 := Lib.hid (HR.out.below hb2)
        have h10 : (wd 10).length ≤ 400000 := by rw [wd_one (by decide) (by decide)]; simp
        have hs := rdiv_any _ _ _ _ w2 HR2.out hn2 (by have := wd_length_mono hle.out; omega) h10 (by rw [val_wd]; decide)
        rw [val_wd, val_wd] at hs
        have HS := Lib.hid hs; clear hs hn2 hl2 hb2 h10
        go_wp2_with fail
        (with_reducible refine HS.out.mono ?_); rintro e w3 ⟨v3, u3, rfl, hb3, hq3, hr3⟩
        have HB3 := Lib.hid (HB2.out.trans (hb3.mono HB2.out.size))
        have hs := rword_any _ _ 0 w3 hr3 (by decide) (by decide)
        have hg : gd (wd (m % 10)) (0 : Int).toNat = m % 10 := by
          rw [show (0 : Int).toNat = 0 from rfl]
          by_cases hz : m % 10 = 0
          · rw [hz, wd_zero]; rfl
          · rw [wd_one (by omega) hz]; rfl
        rw [hg] at hs
        have HQ3 := Lib.hid hq3
        obtain ⟨d, hd⟩ : ∃ d, d = m % 10 := ⟨_, rfl⟩
        rw [← hd] at hs
        have hd9 : d < 10 := by omega
        have HD := Lib.hid hd; have HS := Lib.hid hs
        clear hs hr3 hq3 hb3 hg hd
        go_wp2_with fail
        (with_reducible refine HS.out.mono ?_); rintro e wx ⟨rfl, rfl⟩
        have hcase : d = 0 ∨ d = 1 ∨ d = 2 ∨ d = 3 ∨ d = 4 ∨ d = 5 ∨ d = 6 ∨ d = 7 ∨ d = 8 ∨ d = 9 := by omega
        rcases hcase with rfl | rfl | rfl | rfl | rfl | rfl | rfl | rfl | rfl | rfl
        all_goals
          go_wp2_with fail
          go_roundw
          case rel => exact ⟨m / 10, digB m :: [], congrArg Value.string (enc_put (o := []) (by have := HD.out; omega)), HQ3.out, HB3.out, Lib.hid (Nat.div_le_self _ _), Lib.hid (first_len m), .inr ⟨by simp, Lib.hid (dec_first m)⟩⟩
          case measure =>
            refine Nat.lt_of_le_of_lt (Nat.add_le_add_left (Nat.le_of_eq (emptyS_enc (m := m) (o := []) (by have := HD.out; omega))) _) ?_
            rw [numOf_eq HQ3.out, numOf_eq HR.out, val_wd, val_wd]
            show 2 * (m / 10) + 0 < 2 * m + 1; omega
      · have hkt : decide ((0 : Int) < (K : Int)) = true := decide_eq_true (by omega)
        have HK := Lib.hid hK; clear hK
        have hs := rof_any 10 wr (by decide) (by decide)
        rw [show (10 : Int).toNat = 10 from rfl] at hs
        have HS := Lib.hid hs; clear hs
        go_wp2_with fail
        (with_reducible refine HS.out.mono ?_); rintro e w2 ⟨v2, l2, rfl, hb2, hn2, hl2⟩
        rw [hl2] at hn2
        have HB2 := Lib.hid (HBR.out.trans (hb2.mono HBR.out.size)); have HR2 := Lib.hid (HR.out.below hb2)
        have h10 : (wd 10).length ≤ 400000 := by rw [wd_one (by decide) (by decide)]; simp
        have hs := rdiv_any _ _ _ _ w2 HR2.out hn2 (by have := wd_length_mono hle.out; omega) h10 (by rw [val_wd]; decide)
        rw [val_wd, val_wd] at hs
        have HS := Lib.hid hs; clear hs hn2 hl2 hb2 h10
        go_wp2_with fail
        (with_reducible refine HS.out.mono ?_); rintro e w3 ⟨v3, u3, rfl, hb3, hq3, hr3⟩
        have HB3 := Lib.hid (HB2.out.trans (hb3.mono HB2.out.size))
        have hs := rword_any _ _ 0 w3 hr3 (by decide) (by decide)
        have hg : gd (wd (m % 10)) (0 : Int).toNat = m % 10 := by
          rw [show (0 : Int).toNat = 0 from rfl]
          by_cases hz : m % 10 = 0
          · rw [hz, wd_zero]; rfl
          · rw [wd_one (by omega) hz]; rfl
        rw [hg] at hs
        have HQ3 := Lib.hid hq3
        obtain ⟨d, hd⟩ : ∃ d, d = m % 10 := ⟨_, rfl⟩
        rw [← hd] at hs
        have hd9 : d < 10 := by omega
        have HD := Lib.hid hd; have HS := Lib.hid hs
        clear hs hr3 hq3 hb3 hg hd
        go_wp2_with fail
        (with_reducible refine HS.out.mono ?_); rintro e wx ⟨rfl, rfl⟩
        have hcase : d = 0 ∨ d = 1 ∨ d = 2 ∨ d = 3 ∨ d = 4 ∨ d = 5 ∨ d = 6 ∨ d = 7 ∨ d = 8 ∨ d = 9 := by omega
        rcases hcase with rfl | rfl | rfl | rfl | rfl | rfl | rfl | rfl | rfl | rfl
        all_goals
          go_wp2_with fail
          go_roundw
          case rel => exact ⟨m / 10, digB m :: [], congrArg Value.string (enc_put (o := []) (by have := HD.out; omega)), HQ3.out, HB3.out, Lib.hid (Nat.div_le_self _ _), Lib.hid (first_len m), .inr ⟨by simp, Lib.hid (dec_first m)⟩⟩
          case measure =>
            refine Nat.lt_of_le_of_lt (Nat.add_le_add_left (Nat.le_of_eq (emptyS_enc (m := m) (o := []) (by have := HD.out; omega))) _) ?_
            rw [numOf_eq HQ3.out, numOf_eq HR.out, val_wd, val_wd]
            show 2 * (m / 10) + 0 < 2 * m + 1; omega
    | cons x o =>
      have hor2 : decB N = ⟨((digD m).reverse ++ x :: o).toArray⟩ := by
        rcases hor with ⟨h, _⟩ | ⟨_, h⟩
        · exact absurd h (by simp)
        · exact h.out
      have HOR := Lib.hid hor2
      clear hor hor2
      by_cases hK0 : K = 0
      · have hm0 : m = 0 := Decidable.byContradiction fun h => by have := wd_length_pos h; omega
        have hend : decB N = ⟨(x :: o).toArray⟩ := by rw [HOR.out, hm0, digD_zero]; rfl
        have HEND := Lib.hid hend
        subst hK0
        clear hm0 hend hK
        go_wp2_with fail
        go_ret
        exact ⟨by rw [HEND.out]; rfl, HBR.out⟩
      · have hm0 : m ≠ 0 := fun h => hK0 (by rw [hK, h, wd_zero]; rfl)
        have HM0 := Lib.hid hm0
        have hkt : decide ((0 : Int) < (K : Int)) = true := decide_eq_true (by omega)
        have HK := Lib.hid hK; clear hK hm0
        have hs := rof_any 10 wr (by decide) (by decide)
        rw [show (10 : Int).toNat = 10 from rfl] at hs
        have HS := Lib.hid hs; clear hs
        go_wp2_with fail
        (with_reducible refine HS.out.mono ?_); rintro e w2 ⟨v2, l2, rfl, hb2, hn2, hl2⟩
        rw [hl2] at hn2
        have HB2 := Lib.hid (HBR.out.trans (hb2.mono HBR.out.size)); have HR2 := Lib.hid (HR.out.below hb2)
        have h10 : (wd 10).length ≤ 400000 := by rw [wd_one (by decide) (by decide)]; simp
        have hs := rdiv_any _ _ _ _ w2 HR2.out hn2 (by have := wd_length_mono hle.out; omega) h10 (by rw [val_wd]; decide)
        rw [val_wd, val_wd] at hs
        have HS := Lib.hid hs; clear hs hn2 hl2 hb2 h10
        go_wp2_with fail
        (with_reducible refine HS.out.mono ?_); rintro e w3 ⟨v3, u3, rfl, hb3, hq3, hr3⟩
        have HB3 := Lib.hid (HB2.out.trans (hb3.mono HB2.out.size))
        have hs := rword_any _ _ 0 w3 hr3 (by decide) (by decide)
        have hg : gd (wd (m % 10)) (0 : Int).toNat = m % 10 := by
          rw [show (0 : Int).toNat = 0 from rfl]
          by_cases hz : m % 10 = 0
          · rw [hz, wd_zero]; rfl
          · rw [wd_one (by omega) hz]; rfl
        rw [hg] at hs
        have HQ3 := Lib.hid hq3
        obtain ⟨d, hd⟩ : ∃ d, d = m % 10 := ⟨_, rfl⟩
        rw [← hd] at hs
        have hd9 : d < 10 := by omega
        have HD := Lib.hid hd; have HS := Lib.hid hs
        clear hs hr3 hq3 hb3 hg hd
        go_wp2_with fail
        (with_reducible refine HS.out.mono ?_); rintro e wx ⟨rfl, rfl⟩
        have hcase : d = 0 ∨ d = 1 ∨ d = 2 ∨ d = 3 ∨ d = 4 ∨ d = 5 ∨ d = 6 ∨ d = 7 ∨ d = 8 ∨ d = 9 := by omega
        rcases hcase with rfl | rfl | rfl | rfl | rfl | rfl | rfl | rfl | rfl | rfl
        all_goals
          go_wp2_with fail
          case isTrue h => exact absurd h (Nat.not_lt.2 (Nat.le_trans (Nat.add_le_add_right (enc_le _) _) (by have h1 := hlen.out; have h2 := HDL.out; simp at h1; omega)))
          go_roundw
          case rel => exact ⟨m / 10, digB m :: (x :: o), congrArg Value.string (enc_put (o := (x :: o)) (by have := HD.out; omega)), HQ3.out, HB3.out, Lib.hid (Nat.le_trans (Nat.div_le_self _ _) hle.out), Lib.hid (by have h := hlen.out; rw [digD_pos HM0.out] at h; simp at h ⊢; omega), .inr ⟨by simp, Lib.hid (by rw [HOR.out, digD_pos HM0.out, List.reverse_cons, List.append_assoc]; rfl)⟩⟩
          case measure =>
            refine Nat.lt_of_le_of_lt (Nat.add_le_add_left (Nat.le_of_eq (emptyS_enc (m := m) (o := (x :: o)) (by have := HD.out; omega))) _) ?_
            rw [numOf_eq HQ3.out, numOf_eq HR.out, val_wd, val_wd]
            show 2 * (m / 10) + 0 < 2 * m + 0; have := HM0.out; omega
end Go.Proofs.YtdepoikifneggaaDoor
