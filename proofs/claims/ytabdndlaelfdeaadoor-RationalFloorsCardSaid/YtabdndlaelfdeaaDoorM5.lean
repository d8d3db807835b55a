/-
  The texts NatMath13, NatLaw0, Rat13, ShelfR, Cut, RatMath3, RatMath4, Trim, Nat24, Nat25, Dec, one behind the other.
  Conditions: each theorem's own.
-/
import Derived.Shelf.Strings.SlTrimAscii
import Derived.Laws.IdiomStrings
import Derived.Test.YtabdndlaelfdeaaDoorM4
/-
  Decimal texts there and back.
  Conditions: none.
-/
namespace Go.Proofs.YtabdndlaelfdeaaDoor

/-- the decimal text of a number, as a list -/
def decL (n : Nat) : List UInt8 := if n = 0 then [48] else (digD n).reverse
theorem decB_decL (n : Nat) : decB n = ⟨(decL n).toArray⟩ := by
  unfold decB decL; split <;> rfl
theorem decN_decL (n : Nat) : decN (decL n) = n := by
  unfold decL; split
  · rename_i h; rw [h]; rfl
  · exact decN_digD n
theorem isDig_digB (n : Nat) : isDig (digB n) = true := by
  unfold isDig
  rw [digB_toNat, Bool.and_eq_true]
  exact ⟨decide_eq_true (by omega), decide_eq_true (by omega)⟩
theorem all_digD (n : Nat) : (digD n).all isDig = true := by
  induction n using Nat.strongRecOn with
  | _ n ih =>
    by_cases h : n = 0
    · subst h; rw [digD_zero]; rfl
    · rw [digD_pos h, List.all_cons, isDig_digB, ih _ (Nat.div_lt_self (by omega) (by decide))]; rfl
theorem all_decL (n : Nat) : (decL n).all isDig = true := by
  unfold decL; split
  · rfl
  · rw [List.all_reverse]; exact all_digD n
theorem decL_head (n : Nat) : ¬ (decL n = [] ∨ ((decL n).head? = some 48 ∧ 1 < (decL n).length)) := by
  unfold decL; split
  · rintro (h | ⟨_, h⟩)
    · cases h
    · simp at h
  · rename_i h0
    obtain ⟨l, x, h1, h2⟩ := digD_last n h0
    rw [h1, List.reverse_append]
    rintro (h | ⟨h, _⟩)
    · simp at h
    · simp at h; exact h2 h
theorem parC_decL {n : Nat} (h : (decL n).length ≤ 65536) : parC (decL n) = 0 ∧ parV (decL n) = n := by
  have h1 : parC (decL n) = 0 := by
    unfold parC; rw [if_neg (by omega), if_neg (decL_head n), if_pos (all_decL n)]
  exact ⟨h1, by unfold parV; rw [if_pos h1, decN_decL]⟩
theorem decL_parV {l : List UInt8} (h : parC l = 0) : decL (parV l) = l := by
  have hv : parV l = decN l := by unfold parV; rw [if_pos h]
  rw [hv]
  unfold parC at h
  split at h
  · cases h
  · split at h
    · cases h
    · rename_i h1 h2
      split at h
      · rename_i h3
        have key : ∀ m : List UInt8, m.reverse = l → (∀ x, m.getLast? = some x → x ≠ 48) → decL (decN l) = l := by
          intro m hm hx
          subst hm
          have h4 := digD_rev m (by rwa [List.all_reverse] at h3) hx
          unfold decL
          by_cases h5 : decN m.reverse = 0
          · rw [h5, digD_zero] at h4
            subst h4
            exact absurd (.inl rfl) h2
          · rw [if_neg h5, h4]
        by_cases h6 : l = [48]
        · subst h6; rfl
        · refine key l.reverse (List.reverse_reverse l) ?_
          intro x hx
          rw [List.getLast?_reverse] at hx
          intro e
          subst e
          refine h2 (.inr ⟨hx, ?_⟩)
          cases l with
          | nil => cases hx
          | cons y l =>
            cases l with
            | nil => simp at hx; subst hx; exact absurd rfl h6
            | cons z l => simp
      · cases h
theorem parV_zero {l : List UInt8} (h : parC l ≠ 0) : parV l = 0 := by unfold parV; rw [if_neg h]
theorem decL_len {n k : Nat} (h : n < 10 ^ k) (hk : 0 < k) : (decL n).length ≤ k := by
  unfold decL; split
  · exact hk
  · rw [List.length_reverse]; exact digD_len h
/-- the length of the text of a number of few words -/
theorem decL_words {n k : Nat} (h : (wd n).length ≤ k) (hk : 0 < k) : (decL n).length ≤ 10 * k := by
  refine decL_len (Nat.lt_of_lt_of_le (m := 4294967296 ^ k) ?_ (pow_ten k)) (by omega)
  have h1 := val_lt (u32_wd n)
  rw [val_wd] at h1
  exact Nat.lt_of_lt_of_le h1 (Nat.pow_le_pow_right (by decide) h)
end Go.Proofs.YtabdndlaelfdeaaDoor
/-
  Small functions of the statements: words that are equal, numbers that are too long, errors by their numbers, the document's examples.
  Conditions: each theorem's own.
-/
namespace Go.Proofs.YtabdndlaelfdeaaDoor
open Go.RowKit Go.ChangeShapes Go.WideShapes

theorem assert_yes (c : Int) (w : World) : (Instr.typeAssert (.iface 55 (.int .i64 c)) 28 55 true).run Tryd.prog w = .ok (.tuple #[.int .i64 c, .bool true]) w := by kernel_rfl
theorem assert_no (w : World) : (Instr.typeAssert .nilIface 28 55 true).run Tryd.prog w = .ok (.tuple #[.int .i64 0, .bool false]) w := by kernel_rfl
set_option maxRecDepth 100000 in
theorem num_any (c : Nat) (w : World) (hc : c < 1000) : Calls Tryd.prog 18 #[errV c] w (RetS w (.int .i64 c)) := by
  by_cases h0 : c = 0
  · subst h0
    rw [errV_zero]
    go_enter Tryd.func18, Tryd.ntmps18
    go_wp2
    go_ret
    exact ⟨rfl, rfl⟩
  · have ha := assert_yes c
    rw [errV_pos h0]
    go_enter Tryd.func18, Tryd.ntmps18
    go_wp2
    go_ret
    exact ⟨rfl, rfl⟩
theorem is_eq (c k : Nat) : (((c : Int) == (k : Int)) : Bool) = decide (c = k) := by rw [Bool.eq_iff_iff]; simp; omega
set_option maxRecDepth 100000 in
theorem is_any (c : Nat) (kk : Int) (k : Nat) (w : World) (hk : kk = k) (hk0 : k ≠ 0) : Calls Tryd.prog 43 #[errV c, .int .i64 kk] w (RetS w (.bool (decide (c = k)))) := by
  have HK := Lib.hid hk; clear hk
  by_cases h0 : c = 0
  · subst h0
    have ha := assert_no
    rw [errV_zero]
    go_enter Tryd.func43, Tryd.ntmps43
    go_wp2
    go_ret
    exact ⟨ret_bool (by rw [eq_comm]; simp; omega), rfl⟩
  · have ha := assert_yes c
    rw [errV_pos h0]
    go_enter Tryd.func43, Tryd.ntmps43
    go_wp2
    go_ret
    exact ⟨ret_bool (by rw [HK.out, is_eq]), rfl⟩

set_option maxRecDepth 100000 in
set_option maxHeartbeats 1600000 in
theorem words_any (va vb : Value) (a b : List Nat) (w : World) (ha : Num w va a) (hb : Num w vb b) (hla : a.length ≤ 1000000) :
    Calls Tryd.prog 62 #[va, vb] w (RetV w (.bool (decide (a = b)))) := by
  obtain ⟨ao, ca, rfl, hca, hca2, _⟩ := ha.shape
  obtain ⟨bo, cb, rfl, hcb, hcb2, _⟩ := hb.shape
  by_cases hlen : a.length = b.length
  · obtain ⟨n, hn⟩ : ∃ n, n = a.length := ⟨_, rfl⟩
    have hnb : n = b.length := by omega
    rw [← hn] at hca hla ⊢
    rw [← hnb] at hcb ⊢
    rw [← hn] at ha
    rw [← hnb] at hb
    have HA := Lib.hid ha; have HB := Lib.hid hb; have HN := Lib.hid hn; have HNB := Lib.hid hnb
    clear ha hb hn hnb hlen
    obtain ⟨r, hr⟩ : ∃ r, r = decide (a = b) := ⟨_, rfl⟩
    rw [← hr]
    have HR := Lib.hid hr; clear hr
    go_enter Tryd.func62, Tryd.ntmps62
    go_wp2_with fail
    go_loopw [13] (fun iv wr => ∃ k : Nat, k ≤ n ∧ iv = .int .i64 k ∧ Hid (∀ j, j < k → gd a j = gd b j) ∧ Below w.heap.size w wr) (fun iv _ => n - (intOf iv).toNat)
    case atStart => exact ⟨0, Nat.zero_le _, rfl, Lib.hid (fun j hj => by omega), Below.refl _ _⟩
    case round =>
      obtain ⟨k, hk, rfl, hsame, hBr⟩ := hrel
      by_cases hkn : k < n
      · obtain ⟨b1, o1, rfl, _, hc1⟩ := (HA.out.below hBr).at (by omega)
        obtain ⟨b2, o2, rfl, _, hc2⟩ := (HB.out.below hBr).at (by omega)
        have hx1 := hc1 k (by omega)
        have hx2 := hc2 k (by omega)
        obtain ⟨x, hx⟩ : ∃ x, x = gd a k := ⟨_, rfl⟩
        obtain ⟨y, hy⟩ : ∃ y, y = gd b k := ⟨_, rfl⟩
        rw [← hx] at hx1
        rw [← hy] at hx2
        have HX := Lib.hid hx; have HY := Lib.hid hy
        clear hc1 hc2 hx hy
        by_cases hxy : x = y
        · subst hxy
          have hs2 : ∀ j, j < k + 1 → gd a j = gd b j := fun j hj => by
            by_cases hjk : j = k
            · rw [hjk, ← HX.out, ← HY.out]
            · exact hsame.out j (by omega)
          have HS2 := Lib.hid hs2; clear hs2
          go_wp2_with fail
          go_quiet (fail)
          go_wp2_with fail
          go_roundw
          case rel => exact ⟨k + 1, by omega, by go_num, HS2, below_drewN hBr _⟩
          case measure => simp [intOf]; omega
        · have hne : (bne (x : Int) (y : Int)) = true := by simp; omega
          have hv : r = false := by
            rw [HR.out]
            apply decide_eq_false
            intro h
            apply hxy
            rw [HX.out, HY.out, h]
          have HV := Lib.hid hv; clear hv hxy
          go_wp2_with fail
          go_quiet (fail)
          go_wp2_with fail
          go_ret
          exact ⟨by rw [HV.out]; rfl, below_drewN hBr _⟩
      · obtain rfl : k = n := by omega
        have hv : r = true := by
          rw [HR.out]
          apply decide_eq_true
          exact gd_ext (by rw [← HN.out, ← HNB.out]) (fun j hj => hsame.out j (by rw [HN.out]; exact hj))
        have HV := Lib.hid hv; clear hv
        go_wp2_with fail
        go_ret
        exact ⟨by rw [HV.out]; rfl, hBr⟩
  · have hne : (bne (a.length : Int) (b.length : Int)) = true := by simp; omega
    have hv : decide (a = b) = false := decide_eq_false fun h => hlen (by rw [h])
    rw [hv]
    clear hv hlen ha hb
    go_enter Tryd.func62, Tryd.ntmps62
    go_wp2_with fail
    go_ret
    exact ⟨rfl, Below.refl _ _⟩
theorem words_same (va vb : Value) (n : Nat) (w : World) (ha : Num w va (wd n)) (hb : Num w vb (wd n)) (hl : (wd n).length ≤ 1000000) :
    Calls Tryd.prog 62 #[va, vb] w (RetV w (.bool true)) := by
  have h := words_any va vb _ _ w ha hb hl
  rw [decide_eq_true rfl] at h; exact h

/-- one of the first n lengths is above 40 -/
def anyBig (ln : Nat → Nat) : Nat → Bool
  | 0 => false
  | n + 1 => anyBig ln n || decide (40 < ln n)
end Go.Proofs.YtabdndlaelfdeaaDoor
/-
  Text of a fraction; whether two fractions have the same fields.
  Conditions: each theorem's own.
-/
namespace Go.Proofs.YtabdndlaelfdeaaDoor
open Go.RowKit Go.ChangeShapes Go.WideShapes

/-- the text of a number -/
def rtx (p : Rat) : List UInt8 := (if ng p then [45] else []) ++ decL (nn p) ++ (if p.den = 1 then [] else 47 :: decL p.den)
theorem decB_size {n : Nat} (h : (wd n).length ≤ 100000) : (decB n).size ≤ 1000000 := by
  rw [decB_decL]
  have := decL_words h (by decide)
  simp [ByteArray.size]; omega
theorem bytes_app (a b : List UInt8) : (⟨a.toArray⟩ : ByteArray) ++ ⟨b.toArray⟩ = ⟨(a ++ b).toArray⟩ := by
  apply ByteArray.ext; simp
theorem cmpN_zero {m n : Nat} (h : cmpN m n = 0) : m = n := by
  unfold cmpN at h; split at h
  · cases h
  · split at h
    · cases h
    · omega
set_option maxRecDepth 100000 in
set_option maxHeartbeats 3200000 in
theorem text_f1 (vp : Value) (p : Rat) (w : World) (hp : RatIs w vp p) (hs : ng p = false) (hd : p.den = 1) :
    Calls Tryd.prog 15 #[vp] w (RetV w (.string ⟨(rtx p).toArray⟩)) := by
  obtain ⟨sp, op, np, cp, ap, mp, dp, rfl⟩ := hp.shape
  have hlp := hp.rl
  have hb0 := ((Below.refl w.heap.size w).alloc (by first | (simp; done) | (simp; omega)) (.cells #[.bool sp, .slice op np cp, .slice ap mp dp] 24))
  have hxp := nest1_0 w (.cells #[.bool sp, .slice op np cp, .slice ap mp dp] 24)
  have hpp := hp.below hb0
  obtain ⟨w0, hw0⟩ : ∃ w0, w0 = (w.alloc (.cells #[.bool sp, .slice op np cp, .slice ap mp dp] 24)) := ⟨_, rfl⟩
  rw [← hw0] at hb0 hxp hpp
  have HB0 := Lib.hid hb0; have HW0 := Lib.hid hw0
  have BXp := Lib.hid hxp
  have Fp := Lib.hid hpp
  clear hb0 hw0 hxp hpp hp
  have l1 := rl_n p; have l2 := rl_d p
  have hz1 := decB_size (n := nn p) (by omega); have hz2 := decB_size (n := p.den) (by omega)
  have heq : (⟨(rtx p).toArray⟩ : ByteArray) = decB (nn p) := by
    unfold rtx; rw [hs, if_pos hd, decB_decL]; apply ByteArray.ext; simp
  rw [heq]
  have hlo : (wd 1).length ≤ 1 := by rw [wd_one_len]; exact Nat.le_refl _
  obtain ⟨c, hc⟩ : ∃ c, c = cmpN p.den 1 := ⟨_, rfl⟩
  have hc0 : c = 0 := by rw [hc]; exact cmpN_eq hd
  have hcb : (c == 0) = true := by rw [hc0]; rfl
  have HC := Lib.hid hc; have HS := Lib.hid hs; have HSP := Lib.hid hs; clear hc hs heq hd hc0
  have ht1 := fun v wx (h : Num wx v (wd (nn p))) => text_any v _ wx h (by omega)
  rw [val_wd] at ht1
  obtain ⟨B, hB⟩ : ∃ B, B = decB (nn p) := ⟨_, rfl⟩; obtain ⟨D, hD⟩ : ∃ D, D = decB p.den := ⟨_, rfl⟩
  rw [← hB] at ht1 hz1 ⊢
  rw [← hD] at hz2
  have HT1 := Lib.hid ht1; clear ht1 hB hD
  go_enter Tryd.func15, Tryd.ntmps15
  have hs := parts_any _ p w0 Fp.out
  have HS := Lib.hid hs; clear hs
  go_wp2_with fail
  rw [← HW0.out]
  (with_reducible refine HS.out.mono ?_); rintro e w1 ⟨v1, u1, rfl, hb1, hn1, hm1⟩
  clear HS
  rw [HSP.out]
  have HB1 := Lib.hid (HB0.out.step hb1)
  have Fp := Lib.hid (Fp.out.below hb1)
  have BXp := Lib.hid (heap_below BXp.out hb1)
  have N := Lib.hid hn1
  have D0 := Lib.hid hm1
  clear hn1 hm1
  clear hb1
  have hs := HT1.out _ w1 N.out
  have HS := Lib.hid hs; clear hs
  go_wp2_with fail
  (with_reducible refine HS.out.mono ?_); rintro e w2 ⟨rfl, hb2⟩
  clear HS
  have HB2 := Lib.hid (HB1.out.step hb2)
  have Fp := Lib.hid (Fp.out.below hb2)
  have N := Lib.hid (N.out.below hb2)
  have D0 := Lib.hid (D0.out.below hb2)
  have BXp := Lib.hid (heap_below BXp.out hb2)
  clear hb2
  have hs := one_any w2
  have HS := Lib.hid hs; clear hs
  go_wp2_with fail
  (with_reducible refine HS.out.mono ?_); rintro e w3 ⟨v3, rfl, hb3, hn3⟩
  clear HS
  have HB3 := Lib.hid (HB2.out.step hb3)
  have Fp := Lib.hid (Fp.out.below hb3)
  have N := Lib.hid (N.out.below hb3)
  have D0 := Lib.hid (D0.out.below hb3)
  have BXp := Lib.hid (heap_below BXp.out hb3)
  have ONE := Lib.hid hn3; clear hn3
  clear hb3
  have hs := cmpN_ D0.out ONE.out (by omega) (by omega)
  rw [← HC.out] at hs
  have HS := Lib.hid hs; clear hs
  go_wp2_with fail
  (with_reducible refine HS.out.mono ?_); rintro e w4 ⟨rfl, hb4⟩
  clear HS
  have HB4 := Lib.hid (HB3.out.step hb4)
  have Fp := Lib.hid (Fp.out.below hb4)
  have N := Lib.hid (N.out.below hb4)
  have D0 := Lib.hid (D0.out.below hb4)
  have ONE := Lib.hid (ONE.out.below hb4)
  have BXp := Lib.hid (heap_below BXp.out hb4)
  clear hb4
  go_wp2_with fail
  all_goals first | (go_ret; exact ⟨by first | rfl | (simp; done), HB4.out⟩) | (rename_i h; exact absurd h (by simp; omega))
set_option maxRecDepth 100000 in
set_option maxHeartbeats 3200000 in
theorem text_f0 (vp : Value) (p : Rat) (w : World) (hp : RatIs w vp p) (hs : ng p = false) (hd : p.den ≠ 1) :
    Calls Tryd.prog 15 #[vp] w (RetV w (.string ⟨(rtx p).toArray⟩)) := by
  obtain ⟨sp, op, np, cp, ap, mp, dp, rfl⟩ := hp.shape
  have hlp := hp.rl
  have hb0 := ((Below.refl w.heap.size w).alloc (by first | (simp; done) | (simp; omega)) (.cells #[.bool sp, .slice op np cp, .slice ap mp dp] 24))
  have hxp := nest1_0 w (.cells #[.bool sp, .slice op np cp, .slice ap mp dp] 24)
  have hpp := hp.below hb0
  obtain ⟨w0, hw0⟩ : ∃ w0, w0 = (w.alloc (.cells #[.bool sp, .slice op np cp, .slice ap mp dp] 24)) := ⟨_, rfl⟩
  rw [← hw0] at hb0 hxp hpp
  have HB0 := Lib.hid hb0; have HW0 := Lib.hid hw0
  have BXp := Lib.hid hxp
  have Fp := Lib.hid hpp
  clear hb0 hw0 hxp hpp hp
  have l1 := rl_n p; have l2 := rl_d p
  have hz1 := decB_size (n := nn p) (by omega); have hz2 := decB_size (n := p.den) (by omega)
  have heq : (⟨(rtx p).toArray⟩ : ByteArray) = decB (nn p) ++ (⟨#[47]⟩ ++ decB p.den) := by
    unfold rtx; rw [hs, if_neg hd, decB_decL, decB_decL]; apply ByteArray.ext; simp
  rw [heq]
  have hlo : (wd 1).length ≤ 1 := by rw [wd_one_len]; exact Nat.le_refl _
  obtain ⟨c, hc⟩ : ∃ c, c = cmpN p.den 1 := ⟨_, rfl⟩
  have hcb : (c == 0) = false := by rw [hc, beq_eq_false_iff_ne]; exact fun e => hd (cmpN_zero e)
  have HC := Lib.hid hc; have HS := Lib.hid hs; have HSP := Lib.hid hs; clear hc hs heq hd
  have ht1 := fun v wx (h : Num wx v (wd (nn p))) => text_any v _ wx h (by omega)
  rw [val_wd] at ht1
  obtain ⟨B, hB⟩ : ∃ B, B = decB (nn p) := ⟨_, rfl⟩; obtain ⟨D, hD⟩ : ∃ D, D = decB p.den := ⟨_, rfl⟩
  rw [← hB] at ht1 hz1 ⊢
  rw [← hD] at hz2 ⊢
  have ht2 := fun v wx (h : Num wx v (wd p.den)) => text_any v _ wx h (by omega)
  rw [val_wd, ← hD] at ht2
  have HT2 := Lib.hid ht2; clear ht2
  have HT1 := Lib.hid ht1; clear ht1 hB hD
  go_enter Tryd.func15, Tryd.ntmps15
  have hs := parts_any _ p w0 Fp.out
  have HS := Lib.hid hs; clear hs
  go_wp2_with fail
  rw [← HW0.out]
  (with_reducible refine HS.out.mono ?_); rintro e w1 ⟨v1, u1, rfl, hb1, hn1, hm1⟩
  clear HS
  rw [HSP.out]
  have HB1 := Lib.hid (HB0.out.step hb1)
  have Fp := Lib.hid (Fp.out.below hb1)
  have BXp := Lib.hid (heap_below BXp.out hb1)
  have N := Lib.hid hn1
  have D0 := Lib.hid hm1
  clear hn1 hm1
  clear hb1
  have hs := HT1.out _ w1 N.out
  have HS := Lib.hid hs; clear hs
  go_wp2_with fail
  (with_reducible refine HS.out.mono ?_); rintro e w2 ⟨rfl, hb2⟩
  clear HS
  have HB2 := Lib.hid (HB1.out.step hb2)
  have Fp := Lib.hid (Fp.out.below hb2)
  have N := Lib.hid (N.out.below hb2)
  have D0 := Lib.hid (D0.out.below hb2)
  have BXp := Lib.hid (heap_below BXp.out hb2)
  clear hb2
  have hs := one_any w2
  have HS := Lib.hid hs; clear hs
  go_wp2_with fail
  (with_reducible refine HS.out.mono ?_); rintro e w3 ⟨v3, rfl, hb3, hn3⟩
  clear HS
  have HB3 := Lib.hid (HB2.out.step hb3)
  have Fp := Lib.hid (Fp.out.below hb3)
  have N := Lib.hid (N.out.below hb3)
  have D0 := Lib.hid (D0.out.below hb3)
  have BXp := Lib.hid (heap_below BXp.out hb3)
  have ONE := Lib.hid hn3; clear hn3
  clear hb3
  have hs := cmpN_ D0.out ONE.out (by omega) (by omega)
  rw [← HC.out] at hs
  have HS := Lib.hid hs; clear hs
  go_wp2_with fail
  (with_reducible refine HS.out.mono ?_); rintro e w4 ⟨rfl, hb4⟩
  clear HS
  have HB4 := Lib.hid (HB3.out.step hb4)
  have Fp := Lib.hid (Fp.out.below hb4)
  have N := Lib.hid (N.out.below hb4)
  have D0 := Lib.hid (D0.out.below hb4)
  have ONE := Lib.hid (ONE.out.below hb4)
  have BXp := Lib.hid (heap_below BXp.out hb4)
  clear hb4
  have hs := HT2.out _ w4 D0.out
  have HS := Lib.hid hs; clear hs
  go_wp2_with fail
  (with_reducible refine HS.out.mono ?_); rintro e w5 ⟨rfl, hb5⟩
  clear HS
  have HB5 := Lib.hid (HB4.out.step hb5)
  have Fp := Lib.hid (Fp.out.below hb5)
  have N := Lib.hid (N.out.below hb5)
  have D0 := Lib.hid (D0.out.below hb5)
  have ONE := Lib.hid (ONE.out.below hb5)
  have BXp := Lib.hid (heap_below BXp.out hb5)
  clear hb5
  go_wp2_with fail
  all_goals first | (go_ret; exact ⟨by first | rfl | (simp; done), HB5.out⟩) | (rename_i h; exact absurd h (by simp; omega))
set_option maxRecDepth 100000 in
set_option maxHeartbeats 3200000 in
theorem text_t1 (vp : Value) (p : Rat) (w : World) (hp : RatIs w vp p) (hs : ng p = true) (hd : p.den = 1) :
    Calls Tryd.prog 15 #[vp] w (RetV w (.string ⟨(rtx p).toArray⟩)) := by
  obtain ⟨sp, op, np, cp, ap, mp, dp, rfl⟩ := hp.shape
  have hlp := hp.rl
  have hb0 := ((Below.refl w.heap.size w).alloc (by first | (simp; done) | (simp; omega)) (.cells #[.bool sp, .slice op np cp, .slice ap mp dp] 24))
  have hxp := nest1_0 w (.cells #[.bool sp, .slice op np cp, .slice ap mp dp] 24)
  have hpp := hp.below hb0
  obtain ⟨w0, hw0⟩ : ∃ w0, w0 = (w.alloc (.cells #[.bool sp, .slice op np cp, .slice ap mp dp] 24)) := ⟨_, rfl⟩
  rw [← hw0] at hb0 hxp hpp
  have HB0 := Lib.hid hb0; have HW0 := Lib.hid hw0
  have BXp := Lib.hid hxp
  have Fp := Lib.hid hpp
  clear hb0 hw0 hxp hpp hp
  have l1 := rl_n p; have l2 := rl_d p
  have hz1 := decB_size (n := nn p) (by omega); have hz2 := decB_size (n := p.den) (by omega)
  have heq : (⟨(rtx p).toArray⟩ : ByteArray) = ⟨#[45]⟩ ++ decB (nn p) := by
    unfold rtx; rw [hs, if_pos hd, decB_decL]; apply ByteArray.ext; simp
  rw [heq]
  have hlo : (wd 1).length ≤ 1 := by rw [wd_one_len]; exact Nat.le_refl _
  obtain ⟨c, hc⟩ : ∃ c, c = cmpN p.den 1 := ⟨_, rfl⟩
  have hc0 : c = 0 := by rw [hc]; exact cmpN_eq hd
  have hcb : (c == 0) = true := by rw [hc0]; rfl
  have HC := Lib.hid hc; have HS := Lib.hid hs; have HSP := Lib.hid hs; clear hc hs heq hd hc0
  have ht1 := fun v wx (h : Num wx v (wd (nn p))) => text_any v _ wx h (by omega)
  rw [val_wd] at ht1
  obtain ⟨B, hB⟩ : ∃ B, B = decB (nn p) := ⟨_, rfl⟩; obtain ⟨D, hD⟩ : ∃ D, D = decB p.den := ⟨_, rfl⟩
  rw [← hB] at ht1 hz1 ⊢
  rw [← hD] at hz2
  have HT1 := Lib.hid ht1; clear ht1 hB hD
  go_enter Tryd.func15, Tryd.ntmps15
  have hs := parts_any _ p w0 Fp.out
  have HS := Lib.hid hs; clear hs
  go_wp2_with fail
  rw [← HW0.out]
  (with_reducible refine HS.out.mono ?_); rintro e w1 ⟨v1, u1, rfl, hb1, hn1, hm1⟩
  clear HS
  rw [HSP.out]
  have HB1 := Lib.hid (HB0.out.step hb1)
  have Fp := Lib.hid (Fp.out.below hb1)
  have BXp := Lib.hid (heap_below BXp.out hb1)
  have N := Lib.hid hn1
  have D0 := Lib.hid hm1
  clear hn1 hm1
  clear hb1
  have hs := HT1.out _ w1 N.out
  have HS := Lib.hid hs; clear hs
  go_wp2_with fail
  (with_reducible refine HS.out.mono ?_); rintro e w2 ⟨rfl, hb2⟩
  clear HS
  have HB2 := Lib.hid (HB1.out.step hb2)
  have Fp := Lib.hid (Fp.out.below hb2)
  have N := Lib.hid (N.out.below hb2)
  have D0 := Lib.hid (D0.out.below hb2)
  have BXp := Lib.hid (heap_below BXp.out hb2)
  clear hb2
  have hs := one_any w2
  have HS := Lib.hid hs; clear hs
  go_wp2_with fail
  (with_reducible refine HS.out.mono ?_); rintro e w3 ⟨v3, rfl, hb3, hn3⟩
  clear HS
  have HB3 := Lib.hid (HB2.out.step hb3)
  have Fp := Lib.hid (Fp.out.below hb3)
  have N := Lib.hid (N.out.below hb3)
  have D0 := Lib.hid (D0.out.below hb3)
  have BXp := Lib.hid (heap_below BXp.out hb3)
  have ONE := Lib.hid hn3; clear hn3
  clear hb3
  have hs := cmpN_ D0.out ONE.out (by omega) (by omega)
  rw [← HC.out] at hs
  have HS := Lib.hid hs; clear hs
  go_wp2_with fail
  (with_reducible refine HS.out.mono ?_); rintro e w4 ⟨rfl, hb4⟩
  clear HS
  have HB4 := Lib.hid (HB3.out.step hb4)
  have Fp := Lib.hid (Fp.out.below hb4)
  have N := Lib.hid (N.out.below hb4)
  have D0 := Lib.hid (D0.out.below hb4)
  have ONE := Lib.hid (ONE.out.below hb4)
  have BXp := Lib.hid (heap_below BXp.out hb4)
  clear hb4
  go_wp2_with fail
  all_goals first | (go_ret; exact ⟨by first | rfl | (simp; done), HB4.out⟩) | (rename_i h; exact absurd h (by simp; omega))
set_option maxRecDepth 100000 in
set_option maxHeartbeats 3200000 in
theorem text_t0 (vp : Value) (p : Rat) (w : World) (hp : RatIs w vp p) (hs : ng p = true) (hd : p.den ≠ 1) :
    Calls Tryd.prog 15 #[vp] w (RetV w (.string ⟨(rtx p).toArray⟩)) := by
  obtain ⟨sp, op, np, cp, ap, mp, dp, rfl⟩ := hp.shape
  have hlp := hp.rl
  have hb0 := ((Below.refl w.heap.size w).alloc (by first | (simp; done) | (simp; omega)) (.cells #[.bool sp, .slice op np cp, .slice ap mp dp] 24))
  have hxp := nest1_0 w (.cells #[.bool sp, .slice op np cp, .slice ap mp dp] 24)
  have hpp := hp.below hb0
  obtain ⟨w0, hw0⟩ : ∃ w0, w0 = (w.alloc (.cells #[.bool sp, .slice op np cp, .slice ap mp dp] 24)) := ⟨_, rfl⟩
  rw [← hw0] at hb0 hxp hpp
  have HB0 := Lib.hid hb0; have HW0 := Lib.hid hw0
  have BXp := Lib.hid hxp
  have Fp := Lib.hid hpp
  clear hb0 hw0 hxp hpp hp
  have l1 := rl_n p; have l2 := rl_d p
  have hz1 := decB_size (n := nn p) (by omega); have hz2 := decB_size (n := p.den) (by omega)
  have heq : (⟨(rtx p).toArray⟩ : ByteArray) = ⟨#[45]⟩ ++ decB (nn p) ++ (⟨#[47]⟩ ++ decB p.den) := by
    unfold rtx; rw [hs, if_neg hd, decB_decL, decB_decL]; apply ByteArray.ext; simp
  rw [heq]
  have hlo : (wd 1).length ≤ 1 := by rw [wd_one_len]; exact Nat.le_refl _
  obtain ⟨c, hc⟩ : ∃ c, c = cmpN p.den 1 := ⟨_, rfl⟩
  have hcb : (c == 0) = false := by rw [hc, beq_eq_false_iff_ne]; exact fun e => hd (cmpN_zero e)
  have HC := Lib.hid hc; have HS := Lib.hid hs; have HSP := Lib.hid hs; clear hc hs heq hd
  have ht1 := fun v wx (h : Num wx v (wd (nn p))) => text_any v _ wx h (by omega)
  rw [val_wd] at ht1
  obtain ⟨B, hB⟩ : ∃ B, B = decB (nn p) := ⟨_, rfl⟩; obtain ⟨D, hD⟩ : ∃ D, D = decB p.den := ⟨_, rfl⟩
  rw [← hB] at ht1 hz1 ⊢
  rw [← hD] at hz2 ⊢
  have ht2 := fun v wx (h : Num wx v (wd p.den)) => text_any v _ wx h (by omega)
  rw [val_wd, ← hD] at ht2
  have HT2 := Lib.hid ht2; clear ht2
  have HT1 := Lib.hid ht1; clear ht1 hB hD
  go_enter Tryd.func15, Tryd.ntmps15
  have hs := parts_any _ p w0 Fp.out
  have HS := Lib.hid hs; clear hs
  go_wp2_with fail
  rw [← HW0.out]
  (with_reducible refine HS.out.mono ?_); rintro e w1 ⟨v1, u1, rfl, hb1, hn1, hm1⟩
  clear HS
  rw [HSP.out]
  have HB1 := Lib.hid (HB0.out.step hb1)
  have Fp := Lib.hid (Fp.out.below hb1)
  have BXp := Lib.hid (heap_below BXp.out hb1)
  have N := Lib.hid hn1
  have D0 := Lib.hid hm1
  clear hn1 hm1
  clear hb1
  have hs := HT1.out _ w1 N.out
  have HS := Lib.hid hs; clear hs
  go_wp2_with fail
  (with_reducible refine HS.out.mono ?_); rintro e w2 ⟨rfl, hb2⟩
  clear HS
  have HB2 := Lib.hid (HB1.out.step hb2)
  have Fp := Lib.hid (Fp.out.below hb2)
  have N := Lib.hid (N.out.below hb2)
  have D0 := Lib.hid (D0.out.below hb2)
  have BXp := Lib.hid (heap_below BXp.out hb2)
  clear hb2
  have hs := one_any w2
  have HS := Lib.hid hs; clear hs
  go_wp2_with fail
  (with_reducible refine HS.out.mono ?_); rintro e w3 ⟨v3, rfl, hb3, hn3⟩
  clear HS
  have HB3 := Lib.hid (HB2.out.step hb3)
  have Fp := Lib.hid (Fp.out.below hb3)
  have N := Lib.hid (N.out.below hb3)
  have D0 := Lib.hid (D0.out.below hb3)
  have BXp := Lib.hid (heap_below BXp.out hb3)
  have ONE := Lib.hid hn3; clear hn3
  clear hb3
  have hs := cmpN_ D0.out ONE.out (by omega) (by omega)
  rw [← HC.out] at hs
  have HS := Lib.hid hs; clear hs
  go_wp2_with fail
  (with_reducible refine HS.out.mono ?_); rintro e w4 ⟨rfl, hb4⟩
  clear HS
  have HB4 := Lib.hid (HB3.out.step hb4)
  have Fp := Lib.hid (Fp.out.below hb4)
  have N := Lib.hid (N.out.below hb4)
  have D0 := Lib.hid (D0.out.below hb4)
  have ONE := Lib.hid (ONE.out.below hb4)
  have BXp := Lib.hid (heap_below BXp.out hb4)
  clear hb4
  have hs := HT2.out _ w4 D0.out
  have HS := Lib.hid hs; clear hs
  go_wp2_with fail
  (with_reducible refine HS.out.mono ?_); rintro e w5 ⟨rfl, hb5⟩
  clear HS
  have HB5 := Lib.hid (HB4.out.step hb5)
  have Fp := Lib.hid (Fp.out.below hb5)
  have N := Lib.hid (N.out.below hb5)
  have D0 := Lib.hid (D0.out.below hb5)
  have ONE := Lib.hid (ONE.out.below hb5)
  have BXp := Lib.hid (heap_below BXp.out hb5)
  clear hb5
  go_wp2_with fail
  all_goals first | (go_ret; exact ⟨by first | rfl | (simp; done), HB5.out⟩) | (rename_i h; exact absurd h (by simp; omega))
theorem textq_any (vp : Value) (p : Rat) (w : World) (hp : RatIs w vp p) : Calls Tryd.prog 15 #[vp] w (RetV w (.string ⟨(rtx p).toArray⟩)) := by
  by_cases h : ng p = true
  · by_cases h2 : p.den = 1
    · exact text_t1 vp p w hp h h2
    · exact text_t0 vp p w hp h h2
  · have h := Bool.eq_false_iff.2 h
    by_cases h2 : p.den = 1
    · exact text_f1 vp p w hp h h2
    · exact text_f0 vp p w hp h h2
set_option maxRecDepth 100000 in
set_option maxHeartbeats 3200000 in
theorem rtext_f1 (vp : Value) (p : Rat) (w : World) (hp : RatIs w vp p) (hs : ng p = false) (hd : p.den = 1) :
    Calls Tryd.prog 16 #[vp] w (RetV w (.string ⟨(rtx p).toArray⟩)) := by
  obtain ⟨sp, op, np, cp, ap, mp, dp, rfl⟩ := hp.shape
  have hlp := hp.rl
  have hb0 := ((Below.refl w.heap.size w).alloc (by first | (simp; done) | (simp; omega)) (.cells #[.bool sp, .slice op np cp, .slice ap mp dp] 24))
  have hxp := nest1_0 w (.cells #[.bool sp, .slice op np cp, .slice ap mp dp] 24)
  have hpp := hp.below hb0
  obtain ⟨w0, hw0⟩ : ∃ w0, w0 = (w.alloc (.cells #[.bool sp, .slice op np cp, .slice ap mp dp] 24)) := ⟨_, rfl⟩
  rw [← hw0] at hb0 hxp hpp
  have HB0 := Lib.hid hb0; have HW0 := Lib.hid hw0
  have BXp := Lib.hid hxp
  have Fp := Lib.hid hpp
  clear hb0 hw0 hxp hpp hp
  have l1 := rl_n p; have l2 := rl_d p
  have hz1 := decB_size (n := nn p) (by omega); have hz2 := decB_size (n := p.den) (by omega)
  have heq : (⟨(rtx p).toArray⟩ : ByteArray) = decB (nn p) := by
    unfold rtx; rw [hs, if_pos hd, decB_decL]; apply ByteArray.ext; simp
  rw [heq]
  have hlo : (wd 1).length ≤ 1 := by rw [wd_one_len]; exact Nat.le_refl _
  obtain ⟨c, hc⟩ : ∃ c, c = cmpN p.den 1 := ⟨_, rfl⟩
  have hc0 : c = 0 := by rw [hc]; exact cmpN_eq hd
  have hcb : (c == 0) = true := by rw [hc0]; rfl
  have HC := Lib.hid hc; have HS := Lib.hid hs; have HSP := Lib.hid hs; clear hc hs heq hd hc0
  have ht1 := fun v wx (h : Num wx v (wd (nn p))) => rtext_any v _ wx h (by omega)
  rw [val_wd] at ht1
  obtain ⟨B, hB⟩ : ∃ B, B = decB (nn p) := ⟨_, rfl⟩; obtain ⟨D, hD⟩ : ∃ D, D = decB p.den := ⟨_, rfl⟩
  rw [← hB] at ht1 hz1 ⊢
  rw [← hD] at hz2
  have HT1 := Lib.hid ht1; clear ht1 hB hD
  go_enter Tryd.func16, Tryd.ntmps16
  have hs := rparts_any _ p w0 Fp.out
  have HS := Lib.hid hs; clear hs
  go_wp2_with fail
  rw [← HW0.out]
  (with_reducible refine HS.out.mono ?_); rintro e w1 ⟨v1, u1, rfl, hb1, hn1, hm1⟩
  clear HS
  rw [HSP.out]
  have HB1 := Lib.hid (HB0.out.step hb1)
  have Fp := Lib.hid (Fp.out.below hb1)
  have BXp := Lib.hid (heap_below BXp.out hb1)
  have N := Lib.hid hn1
  have D0 := Lib.hid hm1
  clear hn1 hm1
  clear hb1
  have hs := HT1.out _ w1 N.out
  have HS := Lib.hid hs; clear hs
  go_wp2_with fail
  (with_reducible refine HS.out.mono ?_); rintro e w2 ⟨rfl, hb2⟩
  clear HS
  have HB2 := Lib.hid (HB1.out.step hb2)
  have Fp := Lib.hid (Fp.out.below hb2)
  have N := Lib.hid (N.out.below hb2)
  have D0 := Lib.hid (D0.out.below hb2)
  have BXp := Lib.hid (heap_below BXp.out hb2)
  clear hb2
  have hb90 : Below w2.heap.size w2 (w2.alloc (.cells #[.int .u32 1] 57)) := (Below.refl _ _).alloc (Nat.le_refl _) _
  have hs := rcmpN_ (D0.out.below hb90) (num_one1 w2) (by omega) (by omega)
  rw [← HC.out] at hs
  have HS := Lib.hid hs; clear hs
  go_wp2_with fail
  (with_reducible refine HS.out.mono ?_); rintro e wx ⟨rfl, rfl⟩
  clear HS
  obtain ⟨w90, hw90⟩ : ∃ w90, w90 = w2.alloc (.cells #[.int .u32 1] 57) := ⟨_, rfl⟩
  rw [← hw90] at hb90 ⊢
  have HB90 := Lib.hid (HB2.out.step hb90)
  have Fp := Lib.hid (Fp.out.below hb90)
  have N := Lib.hid (N.out.below hb90)
  have D0 := Lib.hid (D0.out.below hb90)
  have BXp := Lib.hid (heap_below BXp.out hb90)
  clear hw90 hb90
  go_wp2_with fail
  all_goals first | (go_ret; exact ⟨by first | rfl | (simp; done), HB90.out⟩) | (rename_i h; exact absurd h (by simp; omega))
set_option maxRecDepth 100000 in
set_option maxHeartbeats 3200000 in
theorem rtext_f0 (vp : Value) (p : Rat) (w : World) (hp : RatIs w vp p) (hs : ng p = false) (hd : p.den ≠ 1) :
    Calls Tryd.prog 16 #[vp] w (RetV w (.string ⟨(rtx p).toArray⟩)) := by
  obtain ⟨sp, op, np, cp, ap, mp, dp, rfl⟩ := hp.shape
  have hlp := hp.rl
  have hb0 := ((Below.refl w.heap.size w).alloc (by first | (simp; done) | (simp; omega)) (.cells #[.bool sp, .slice op np cp, .slice ap mp dp] 24))
  have hxp := nest1_0 w (.cells #[.bool sp, .slice op np cp, .slice ap mp dp] 24)
  have hpp := hp.below hb0
  obtain ⟨w0, hw0⟩ : ∃ w0, w0 = (w.alloc (.cells #[.bool sp, .slice op np cp, .slice ap mp dp] 24)) := ⟨_, rfl⟩
  rw [← hw0] at hb0 hxp hpp
  have HB0 := Lib.hid hb0; have HW0 := Lib.hid hw0
  have BXp := Lib.hid hxp
  have Fp := Lib.hid hpp
  clear hb0 hw0 hxp hpp hp
  have l1 := rl_n p; have l2 := rl_d p
  have hz1 := decB_size (n := nn p) (by omega); have hz2 := decB_size (n := p.den) (by omega)
  have heq : (⟨(rtx p).toArray⟩ : ByteArray) = decB (nn p) ++ (⟨#[47]⟩ ++ decB p.den) := by
    unfold rtx; rw [hs, if_neg hd, decB_decL, decB_decL]; apply ByteArray.ext; simp
  rw [heq]
  have hlo : (wd 1).length ≤ 1 := by rw [wd_one_len]; exact Nat.le_refl _
  obtain ⟨c, hc⟩ : ∃ c, c = cmpN p.den 1 := ⟨_, rfl⟩
  have hcb : (c == 0) = false := by rw [hc, beq_eq_false_iff_ne]; exact fun e => hd (cmpN_zero e)
  have HC := Lib.hid hc; have HS := Lib.hid hs; have HSP := Lib.hid hs; clear hc hs heq hd
  have ht1 := fun v wx (h : Num wx v (wd (nn p))) => rtext_any v _ wx h (by omega)
  rw [val_wd] at ht1
  obtain ⟨B, hB⟩ : ∃ B, B = decB (nn p) := ⟨_, rfl⟩; obtain ⟨D, hD⟩ : ∃ D, D = decB p.den := ⟨_, rfl⟩
  rw [← hB] at ht1 hz1 ⊢
  rw [← hD] at hz2 ⊢
  have ht2 := fun v wx (h : Num wx v (wd p.den)) => rtext_any v _ wx h (by omega)
  rw [val_wd, ← hD] at ht2
  have HT2 := Lib.hid ht2; clear ht2
  have HT1 := Lib.hid ht1; clear ht1 hB hD
  go_enter Tryd.func16, Tryd.ntmps16
  have hs := rparts_any _ p w0 Fp.out
  have HS := Lib.hid hs; clear hs
  go_wp2_with fail
  rw [← HW0.out]
  (with_reducible refine HS.out.mono ?_); rintro e w1 ⟨v1, u1, rfl, hb1, hn1, hm1⟩
  clear HS
  rw [HSP.out]
  have HB1 := Lib.hid (HB0.out.step hb1)
  have Fp := Lib.hid (Fp.out.below hb1)
  have BXp := Lib.hid (heap_below BXp.out hb1)
  have N := Lib.hid hn1
  have D0 := Lib.hid hm1
  clear hn1 hm1
  clear hb1
  have hs := HT1.out _ w1 N.out
  have HS := Lib.hid hs; clear hs
  go_wp2_with fail
  (with_reducible refine HS.out.mono ?_); rintro e w2 ⟨rfl, hb2⟩
  clear HS
  have HB2 := Lib.hid (HB1.out.step hb2)
  have Fp := Lib.hid (Fp.out.below hb2)
  have N := Lib.hid (N.out.below hb2)
  have D0 := Lib.hid (D0.out.below hb2)
  have BXp := Lib.hid (heap_below BXp.out hb2)
  clear hb2
  have hb90 : Below w2.heap.size w2 (w2.alloc (.cells #[.int .u32 1] 57)) := (Below.refl _ _).alloc (Nat.le_refl _) _
  have hs := rcmpN_ (D0.out.below hb90) (num_one1 w2) (by omega) (by omega)
  rw [← HC.out] at hs
  have HS := Lib.hid hs; clear hs
  go_wp2_with fail
  (with_reducible refine HS.out.mono ?_); rintro e wx ⟨rfl, rfl⟩
  clear HS
  obtain ⟨w90, hw90⟩ : ∃ w90, w90 = w2.alloc (.cells #[.int .u32 1] 57) := ⟨_, rfl⟩
  rw [← hw90] at hb90 ⊢
  have HB90 := Lib.hid (HB2.out.step hb90)
  have Fp := Lib.hid (Fp.out.below hb90)
  have N := Lib.hid (N.out.below hb90)
  have D0 := Lib.hid (D0.out.below hb90)
  have BXp := Lib.hid (heap_below BXp.out hb90)
  clear hw90 hb90
  have hs := HT2.out _ w90 D0.out
  have HS := Lib.hid hs; clear hs
  go_wp2_with fail
  (with_reducible refine HS.out.mono ?_); rintro e w4 ⟨rfl, hb4⟩
  clear HS
  have HB4 := Lib.hid (HB90.out.step hb4)
  have Fp := Lib.hid (Fp.out.below hb4)
  have N := Lib.hid (N.out.below hb4)
  have D0 := Lib.hid (D0.out.below hb4)
  have BXp := Lib.hid (heap_below BXp.out hb4)
  clear hb4
  go_wp2_with fail
  all_goals first | (go_ret; exact ⟨by first | rfl | (simp; done), HB4.out⟩) | (rename_i h; exact absurd h (by simp; omega))
set_option maxRecDepth 100000 in
set_option maxHeartbeats 3200000 in
theorem rtext_t1 (vp : Value) (p : Rat) (w : World) (hp : RatIs w vp p) (hs : ng p = true) (hd : p.den = 1) :
    Calls Tryd.prog 16 #[vp] w (RetV w (.string ⟨(rtx p).toArray⟩)) := by
  obtain ⟨sp, op, np, cp, ap, mp, dp, rfl⟩ := hp.shape
  have hlp := hp.rl
  have hb0 := ((Below.refl w.heap.size w).alloc (by first | (simp; done) | (simp; omega)) (.cells #[.bool sp, .slice op np cp, .slice ap mp dp] 24))
  have hxp := nest1_0 w (.cells #[.bool sp, .slice op np cp, .slice ap mp dp] 24)
  have hpp := hp.below hb0
  obtain ⟨w0, hw0⟩ : ∃ w0, w0 = (w.alloc (.cells #[.bool sp, .slice op np cp, .slice ap mp dp] 24)) := ⟨_, rfl⟩
  rw [← hw0] at hb0 hxp hpp
  have HB0 := Lib.hid hb0; have HW0 := Lib.hid hw0
  have BXp := Lib.hid hxp
  have Fp := Lib.hid hpp
  clear hb0 hw0 hxp hpp hp
  have l1 := rl_n p; have l2 := rl_d p
  have hz1 := decB_size (n := nn p) (by omega); have hz2 := decB_size (n := p.den) (by omega)
  have heq : (⟨(rtx p).toArray⟩ : ByteArray) = ⟨#[45]⟩ ++ decB (nn p) := by
    unfold rtx; rw [hs, if_pos hd, decB_decL]; apply ByteArray.ext; simp
  rw [heq]
  have hlo : (wd 1).length ≤ 1 := by rw [wd_one_len]; exact Nat.le_refl _
  obtain ⟨c, hc⟩ : ∃ c, c = cmpN p.den 1 := ⟨_, rfl⟩
  have hc0 : c = 0 := by rw [hc]; exact cmpN_eq hd
  have hcb : (c == 0) = true := by rw [hc0]; rfl
  have HC := Lib.hid hc; have HS := Lib.hid hs; have HSP := Lib.hid hs; clear hc hs heq hd hc0
  have ht1 := fun v wx (h : Num wx v (wd (nn p))) => rtext_any v _ wx h (by omega)
  rw [val_wd] at ht1
  obtain ⟨B, hB⟩ : ∃ B, B = decB (nn p) := ⟨_, rfl⟩; obtain ⟨D, hD⟩ : ∃ D, D = decB p.den := ⟨_, rfl⟩
  rw [← hB] at ht1 hz1 ⊢
  rw [← hD] at hz2
  have HT1 := Lib.hid ht1; clear ht1 hB hD
  go_enter Tryd.func16, Tryd.ntmps16
  have hs := rparts_any _ p w0 Fp.out
  have HS := Lib.hid hs; clear hs
  go_wp2_with fail
  rw [← HW0.out]
  (with_reducible refine HS.out.mono ?_); rintro e w1 ⟨v1, u1, rfl, hb1, hn1, hm1⟩
  clear HS
  rw [HSP.out]
  have HB1 := Lib.hid (HB0.out.step hb1)
  have Fp := Lib.hid (Fp.out.below hb1)
  have BXp := Lib.hid (heap_below BXp.out hb1)
  have N := Lib.hid hn1
  have D0 := Lib.hid hm1
  clear hn1 hm1
  clear hb1
  have hs := HT1.out _ w1 N.out
  have HS := Lib.hid hs; clear hs
  go_wp2_with fail
  (with_reducible refine HS.out.mono ?_); rintro e w2 ⟨rfl, hb2⟩
  clear HS
  have HB2 := Lib.hid (HB1.out.step hb2)
  have Fp := Lib.hid (Fp.out.below hb2)
  have N := Lib.hid (N.out.below hb2)
  have D0 := Lib.hid (D0.out.below hb2)
  have BXp := Lib.hid (heap_below BXp.out hb2)
  clear hb2
  have hb90 : Below w2.heap.size w2 (w2.alloc (.cells #[.int .u32 1] 57)) := (Below.refl _ _).alloc (Nat.le_refl _) _
  have hs := rcmpN_ (D0.out.below hb90) (num_one1 w2) (by omega) (by omega)
  rw [← HC.out] at hs
  have HS := Lib.hid hs; clear hs
  go_wp2_with fail
  (with_reducible refine HS.out.mono ?_); rintro e wx ⟨rfl, rfl⟩
  clear HS
  obtain ⟨w90, hw90⟩ : ∃ w90, w90 = w2.alloc (.cells #[.int .u32 1] 57) := ⟨_, rfl⟩
  rw [← hw90] at hb90 ⊢
  have HB90 := Lib.hid (HB2.out.step hb90)
  have Fp := Lib.hid (Fp.out.below hb90)
  have N := Lib.hid (N.out.below hb90)
  have D0 := Lib.hid (D0.out.below hb90)
  have BXp := Lib.hid (heap_below BXp.out hb90)
  clear hw90 hb90
  go_wp2_with fail
  all_goals first | (go_ret; exact ⟨by first | rfl | (simp; done), HB90.out⟩) | (rename_i h; exact absurd h (by simp; omega))
set_option maxRecDepth 100000 in
set_option maxHeartbeats 3200000 in
theorem rtext_t0 (vp : Value) (p : Rat) (w : World) (hp : RatIs w vp p) (hs : ng p = true) (hd : p.den ≠ 1) :
    Calls Tryd.prog 16 #[vp] w (RetV w (.string ⟨(rtx p).toArray⟩)) := by
  obtain ⟨sp, op, np, cp, ap, mp, dp, rfl⟩ := hp.shape
  have hlp := hp.rl
  have hb0 := ((Below.refl w.heap.size w).alloc (by first | (simp; done) | (simp; omega)) (.cells #[.bool sp, .slice op np cp, .slice ap mp dp] 24))
  have hxp := nest1_0 w (.cells #[.bool sp, .slice op np cp, .slice ap mp dp] 24)
  have hpp := hp.below hb0
  obtain ⟨w0, hw0⟩ : ∃ w0, w0 = (w.alloc (.cells #[.bool sp, .slice op np cp, .slice ap mp dp] 24)) := ⟨_, rfl⟩
  rw [← hw0] at hb0 hxp hpp
  have HB0 := Lib.hid hb0; have HW0 := Lib.hid hw0
  have BXp := Lib.hid hxp
  have Fp := Lib.hid hpp
  clear hb0 hw0 hxp hpp hp
  have l1 := rl_n p; have l2 := rl_d p
  have hz1 := decB_size (n := nn p) (by omega); have hz2 := decB_size (n := p.den) (by omega)
  have heq : (⟨(rtx p).toArray⟩ : ByteArray) = ⟨#[45]⟩ ++ decB (nn p) ++ (⟨#[47]⟩ ++ decB p.den) := by
    unfold rtx; rw [hs, if_neg hd, decB_decL, decB_decL]; apply ByteArray.ext; simp
  rw [heq]
  have hlo : (wd 1).length ≤ 1 := by rw [wd_one_len]; exact Nat.le_refl _
  obtain ⟨c, hc⟩ : ∃ c, c = cmpN p.den 1 := ⟨_, rfl⟩
  have hcb : (c == 0) = false := by rw [hc, beq_eq_false_iff_ne]; exact fun e => hd (cmpN_zero e)
  have HC := Lib.hid hc; have HS := Lib.hid hs; have HSP := Lib.hid hs; clear hc hs heq hd
  have ht1 := fun v wx (h : Num wx v (wd (nn p))) => rtext_any v _ wx h (by omega)
  rw [val_wd] at ht1
  obtain ⟨B, hB⟩ : ∃ B, B = decB (nn p) := ⟨_, rfl⟩; obtain ⟨D, hD⟩ : ∃ D, D = decB p.den := ⟨_, rfl⟩
  rw [← hB] at ht1 hz1 ⊢
  rw [← hD] at hz2 ⊢
  have ht2 := fun v wx (h : Num wx v (wd p.den)) => rtext_any v _ wx h (by omega)
  rw [val_wd, ← hD] at ht2
  have HT2 := Lib.hid ht2; clear ht2
  have HT1 := Lib.hid ht1; clear ht1 hB hD
  go_enter Tryd.func16, Tryd.ntmps16
  have hs := rparts_any _ p w0 Fp.out
  have HS := Lib.hid hs; clear hs
  go_wp2_with fail
  rw [← HW0.out]
  (with_reducible refine HS.out.mono ?_); rintro e w1 ⟨v1, u1, rfl, hb1, hn1, hm1⟩
  clear HS
  rw [HSP.out]
  have HB1 := Lib.hid (HB0.out.step hb1)
  have Fp := Lib.hid (Fp.out.below hb1)
  have BXp := Lib.hid (heap_below BXp.out hb1)
  have N := Lib.hid hn1
  have D0 := Lib.hid hm1
  clear hn1 hm1
  clear hb1
  have hs := HT1.out _ w1 N.out
  have HS := Lib.hid hs; clear hs
  go_wp2_with fail
  (with_reducible refine HS.out.mono ?_); rintro e w2 ⟨rfl, hb2⟩
  clear HS
  have HB2 := Lib.hid (HB1.out.step hb2)
  have Fp := Lib.hid (Fp.out.below hb2)
  have N := Lib.hid (N.out.below hb2)
  have D0 := Lib.hid (D0.out.below hb2)
  have BXp := Lib.hid (heap_below BXp.out hb2)
  clear hb2
  have hb90 : Below w2.heap.size w2 (w2.alloc (.cells #[.int .u32 1] 57)) := (Below.refl _ _).alloc (Nat.le_refl _) _
  have hs := rcmpN_ (D0.out.below hb90) (num_one1 w2) (by omega) (by omega)
  rw [← HC.out] at hs
  have HS := Lib.hid hs; clear hs
  go_wp2_with fail
  (with_reducible refine HS.out.mono ?_); rintro e wx ⟨rfl, rfl⟩
  clear HS
  obtain ⟨w90, hw90⟩ : ∃ w90, w90 = w2.alloc (.cells #[.int .u32 1] 57) := ⟨_, rfl⟩
  rw [← hw90] at hb90 ⊢
  have HB90 := Lib.hid (HB2.out.step hb90)
  have Fp := Lib.hid (Fp.out.below hb90)
  have N := Lib.hid (N.out.below hb90)
  have D0 := Lib.hid (D0.out.below hb90)
  have BXp := Lib.hid (heap_below BXp.out hb90)
  clear hw90 hb90
  have hs := HT2.out _ w90 D0.out
  have HS := Lib.hid hs; clear hs
  go_wp2_with fail
  (with_reducible refine HS.out.mono ?_); rintro e w4 ⟨rfl, hb4⟩
  clear HS
  have HB4 := Lib.hid (HB90.out.step hb4)
  have Fp := Lib.hid (Fp.out.below hb4)
  have N := Lib.hid (N.out.below hb4)
  have D0 := Lib.hid (D0.out.below hb4)
  have BXp := Lib.hid (heap_below BXp.out hb4)
  clear hb4
  go_wp2_with fail
  all_goals first | (go_ret; exact ⟨by first | rfl | (simp; done), HB4.out⟩) | (rename_i h; exact absurd h (by simp; omega))
theorem rtextq_any (vp : Value) (p : Rat) (w : World) (hp : RatIs w vp p) : Calls Tryd.prog 16 #[vp] w (RetV w (.string ⟨(rtx p).toArray⟩)) := by
  by_cases h : ng p = true
  · by_cases h2 : p.den = 1
    · exact rtext_t1 vp p w hp h h2
    · exact rtext_t0 vp p w hp h h2
  · have h := Bool.eq_false_iff.2 h
    by_cases h2 : p.den = 1
    · exact rtext_f1 vp p w hp h h2
    · exact rtext_f0 vp p w hp h h2
theorem IsR.fields {w : World} {s : Bool} {x y : Value} {q : Rat} (h : IsR w (.agg #[.bool s, x, y]) q) : s = ng q ∧ Num w x (wd (nn q)) ∧ Num w y (wd (dn q)) := by
  obtain ⟨va, vb, e, h1, h2⟩ := h
  cases e
  exact ⟨rfl, h1, h2⟩
theorem wd_inj {m n : Nat} (h : wd m = wd n) : m = n := by
  have := congrArg val h
  rwa [val_wd, val_wd] at this
set_option maxRecDepth 100000 in
set_option maxHeartbeats 3200000 in
theorem same_rat0 (vp : Value) (p : Rat) (vq : Value) (q : Rat) (w : World) (hp : RatIs w vp p) (hq : RatIs w vq q) (gp : IsR w vp p) (gq : IsR w vq q) (hs : ng p ≠ ng q) :
    Calls Tryd.prog 17 #[vp, vq] w (RetV w (.bool (decide (p = q)))) := by
  obtain ⟨sp, op, np, cp, ap, mp, dp, rfl⟩ := hp.shape
  have hlp := hp.rl
  obtain ⟨sq, oq, nq, cq, aq, mq, dq, rfl⟩ := hq.shape
  have hlq := hq.rl
  obtain ⟨e1, g1, g2⟩ := gp.fields
  obtain ⟨e2, g3, g4⟩ := gq.fields
  have hb0 := (((Below.refl w.heap.size w).alloc (by first | (simp; done) | (simp; omega)) (.cells #[.bool sp, .slice op np cp, .slice ap mp dp] 24)).alloc (by first | (simp; done) | (simp; omega)) (.cells #[.bool sq, .slice oq nq cq, .slice aq mq dq] 24))
  have hxp := nest2_0 w (.cells #[.bool sp, .slice op np cp, .slice ap mp dp] 24) (.cells #[.bool sq, .slice oq nq cq, .slice aq mq dq] 24)
  have hxq := nest2_1 w (.cells #[.bool sp, .slice op np cp, .slice ap mp dp] 24) (.cells #[.bool sq, .slice oq nq cq, .slice aq mq dq] 24)
  have hpp := hp.below hb0
  have hpq := hq.below hb0
  obtain ⟨w0, hw0⟩ : ∃ w0, w0 = ((w.alloc (.cells #[.bool sp, .slice op np cp, .slice ap mp dp] 24)).alloc (.cells #[.bool sq, .slice oq nq cq, .slice aq mq dq] 24)) := ⟨_, rfl⟩
  rw [← hw0] at hb0 hxp hxq hpp hpq
  have HB0 := Lib.hid hb0; have HW0 := Lib.hid hw0
  have BXp := Lib.hid hxp
  have BXq := Lib.hid hxq
  have Fp := Lib.hid hpp
  have Fq := Lib.hid hpq
  clear hb0 hw0 hxp hxq hpp hp hpq hq
  have N := Lib.hid (g1.below HB0.out)
  have D := Lib.hid (g2.below HB0.out)
  have M := Lib.hid (g3.below HB0.out)
  have E := Lib.hid (g4.below HB0.out)
  have l1 := rl_n p; have l2 := dn_len p
  have hd : decide (p = q) = false := decide_eq_false fun e => hs (by rw [e])
  rw [hd]
  have f1 : (sp == sq) = false := by rw [e1, e2, beq_eq_false_iff_ne]; exact hs
  clear hs e1 e2 hd gp gq g1 g2 g3 g4
  go_enter Tryd.func17, Tryd.ntmps17
  go_wp2_with fail
  rw [← HW0.out]
  go_ret
  exact ⟨by first | rfl | (simp; done), HB0.out⟩
set_option maxRecDepth 100000 in
set_option maxHeartbeats 3200000 in
theorem same_rat1 (vp : Value) (p : Rat) (vq : Value) (q : Rat) (w : World) (hp : RatIs w vp p) (hq : RatIs w vq q) (gp : IsR w vp p) (gq : IsR w vq q) (hs : ng p = ng q) (hn : nn p ≠ nn q) :
    Calls Tryd.prog 17 #[vp, vq] w (RetV w (.bool (decide (p = q)))) := by
  obtain ⟨sp, op, np, cp, ap, mp, dp, rfl⟩ := hp.shape
  have hlp := hp.rl
  obtain ⟨sq, oq, nq, cq, aq, mq, dq, rfl⟩ := hq.shape
  have hlq := hq.rl
  obtain ⟨e1, g1, g2⟩ := gp.fields
  obtain ⟨e2, g3, g4⟩ := gq.fields
  have hb0 := (((Below.refl w.heap.size w).alloc (by first | (simp; done) | (simp; omega)) (.cells #[.bool sp, .slice op np cp, .slice ap mp dp] 24)).alloc (by first | (simp; done) | (simp; omega)) (.cells #[.bool sq, .slice oq nq cq, .slice aq mq dq] 24))
  have hxp := nest2_0 w (.cells #[.bool sp, .slice op np cp, .slice ap mp dp] 24) (.cells #[.bool sq, .slice oq nq cq, .slice aq mq dq] 24)
  have hxq := nest2_1 w (.cells #[.bool sp, .slice op np cp, .slice ap mp dp] 24) (.cells #[.bool sq, .slice oq nq cq, .slice aq mq dq] 24)
  have hpp := hp.below hb0
  have hpq := hq.below hb0
  obtain ⟨w0, hw0⟩ : ∃ w0, w0 = ((w.alloc (.cells #[.bool sp, .slice op np cp, .slice ap mp dp] 24)).alloc (.cells #[.bool sq, .slice oq nq cq, .slice aq mq dq] 24)) := ⟨_, rfl⟩
  rw [← hw0] at hb0 hxp hxq hpp hpq
  have HB0 := Lib.hid hb0; have HW0 := Lib.hid hw0
  have BXp := Lib.hid hxp
  have BXq := Lib.hid hxq
  have Fp := Lib.hid hpp
  have Fq := Lib.hid hpq
  clear hb0 hw0 hxp hxq hpp hp hpq hq
  have N := Lib.hid (g1.below HB0.out)
  have D := Lib.hid (g2.below HB0.out)
  have M := Lib.hid (g3.below HB0.out)
  have E := Lib.hid (g4.below HB0.out)
  have l1 := rl_n p; have l2 := dn_len p
  have f1 : (sp == sq) = true := by rw [e1, e2, beq_iff_eq]; exact hs
  have hd : decide (p = q) = false := decide_eq_false fun e => hn (by rw [e])
  rw [hd]
  have hw : decide (wd (nn p) = wd (nn q)) = false := decide_eq_false fun e => hn (wd_inj e)
  have HW := Lib.hid hw; clear hw
  clear hs e1 e2 hd gp gq g1 g2 g3 g4 hn
  go_enter Tryd.func17, Tryd.ntmps17
  have hs := words_any _ _ _ _ w0 N.out M.out (by omega)
  rw [HW.out] at hs
  have HS := Lib.hid hs; clear hs
  go_wp2_with fail
  rw [← HW0.out]
  (with_reducible refine HS.out.mono ?_); rintro e w1 ⟨rfl, hb1⟩
  clear HS
  have HB1 := Lib.hid (HB0.out.step hb1)
  have Fp := Lib.hid (Fp.out.below hb1)
  have Fq := Lib.hid (Fq.out.below hb1)
  have N := Lib.hid (N.out.below hb1)
  have D := Lib.hid (D.out.below hb1)
  have M := Lib.hid (M.out.below hb1)
  have E := Lib.hid (E.out.below hb1)
  have BXp := Lib.hid (heap_below BXp.out hb1)
  have BXq := Lib.hid (heap_below BXq.out hb1)
  clear hb1
  go_wp2_with fail
  go_ret
  exact ⟨by first | rfl | (simp; done), HB1.out⟩
set_option maxRecDepth 100000 in
set_option maxHeartbeats 3200000 in
theorem same_rat2 (vp : Value) (p : Rat) (vq : Value) (q : Rat) (w : World) (hp : RatIs w vp p) (hq : RatIs w vq q) (gp : IsR w vp p) (gq : IsR w vq q) (hs : ng p = ng q) (hn : nn p = nn q) :
    Calls Tryd.prog 17 #[vp, vq] w (RetV w (.bool (decide (p = q)))) := by
  obtain ⟨sp, op, np, cp, ap, mp, dp, rfl⟩ := hp.shape
  have hlp := hp.rl
  obtain ⟨sq, oq, nq, cq, aq, mq, dq, rfl⟩ := hq.shape
  have hlq := hq.rl
  obtain ⟨e1, g1, g2⟩ := gp.fields
  obtain ⟨e2, g3, g4⟩ := gq.fields
  have hb0 := (((Below.refl w.heap.size w).alloc (by first | (simp; done) | (simp; omega)) (.cells #[.bool sp, .slice op np cp, .slice ap mp dp] 24)).alloc (by first | (simp; done) | (simp; omega)) (.cells #[.bool sq, .slice oq nq cq, .slice aq mq dq] 24))
  have hxp := nest2_0 w (.cells #[.bool sp, .slice op np cp, .slice ap mp dp] 24) (.cells #[.bool sq, .slice oq nq cq, .slice aq mq dq] 24)
  have hxq := nest2_1 w (.cells #[.bool sp, .slice op np cp, .slice ap mp dp] 24) (.cells #[.bool sq, .slice oq nq cq, .slice aq mq dq] 24)
  have hpp := hp.below hb0
  have hpq := hq.below hb0
  obtain ⟨w0, hw0⟩ : ∃ w0, w0 = ((w.alloc (.cells #[.bool sp, .slice op np cp, .slice ap mp dp] 24)).alloc (.cells #[.bool sq, .slice oq nq cq, .slice aq mq dq] 24)) := ⟨_, rfl⟩
  rw [← hw0] at hb0 hxp hxq hpp hpq
  have HB0 := Lib.hid hb0; have HW0 := Lib.hid hw0
  have BXp := Lib.hid hxp
  have BXq := Lib.hid hxq
  have Fp := Lib.hid hpp
  have Fq := Lib.hid hpq
  clear hb0 hw0 hxp hxq hpp hp hpq hq
  have N := Lib.hid (g1.below HB0.out)
  have D := Lib.hid (g2.below HB0.out)
  have M := Lib.hid (g3.below HB0.out)
  have E := Lib.hid (g4.below HB0.out)
  have l1 := rl_n p; have l2 := dn_len p
  have f1 : (sp == sq) = true := by rw [e1, e2, beq_iff_eq]; exact hs
  have hw : decide (wd (nn p) = wd (nn q)) = true := decide_eq_true (by rw [hn])
  have HW := Lib.hid hw; clear hw
  have hd : decide (p = q) = decide (wd (dn p) = wd (dn q)) := by rw [decide_eq_decide]; exact ⟨fun e => by rw [e], fun e => ext_fields hs hn (wd_inj e)⟩
  rw [hd]
  obtain ⟨r, hr⟩ : ∃ r, r = decide (wd (dn p) = wd (dn q)) := ⟨_, rfl⟩
  rw [← hr]
  have HR := Lib.hid hr; clear hr
  clear hs e1 e2 hd gp gq g1 g2 g3 g4 hn
  go_enter Tryd.func17, Tryd.ntmps17
  have hs := words_any _ _ _ _ w0 N.out M.out (by omega)
  rw [HW.out] at hs
  have HS := Lib.hid hs; clear hs
  go_wp2_with fail
  rw [← HW0.out]
  (with_reducible refine HS.out.mono ?_); rintro e w1 ⟨rfl, hb1⟩
  clear HS
  have HB1 := Lib.hid (HB0.out.step hb1)
  have Fp := Lib.hid (Fp.out.below hb1)
  have Fq := Lib.hid (Fq.out.below hb1)
  have N := Lib.hid (N.out.below hb1)
  have D := Lib.hid (D.out.below hb1)
  have M := Lib.hid (M.out.below hb1)
  have E := Lib.hid (E.out.below hb1)
  have BXp := Lib.hid (heap_below BXp.out hb1)
  have BXq := Lib.hid (heap_below BXq.out hb1)
  clear hb1
  have hs := words_any _ _ _ _ w1 D.out E.out (by omega)
  rw [← HR.out] at hs
  have HS := Lib.hid hs; clear hs
  obtain ⟨ep0, ep1, ep2⟩ := row3 BXp.out
  obtain ⟨eq0, eq1, eq2⟩ := row3 BXq.out
  go_wp2_with fail
  (with_reducible refine HS.out.mono ?_); rintro e w2 ⟨rfl, hb2⟩
  clear HS
  have HB2 := Lib.hid (HB1.out.step hb2)
  have Fp := Lib.hid (Fp.out.below hb2)
  have Fq := Lib.hid (Fq.out.below hb2)
  have N := Lib.hid (N.out.below hb2)
  have D := Lib.hid (D.out.below hb2)
  have M := Lib.hid (M.out.below hb2)
  have E := Lib.hid (E.out.below hb2)
  have BXp := Lib.hid (heap_below BXp.out hb2)
  have BXq := Lib.hid (heap_below BXq.out hb2)
  clear hb2
  go_wp2_with fail
  go_ret
  exact ⟨by first | rfl | (simp; done), HB2.out⟩
theorem rat_any (vp : Value) (p : Rat) (vq : Value) (q : Rat) (w : World) (hp : IsR w vp p) (hq : IsR w vq q) (lp : rl p ≤ 100000) (lq : rl q ≤ 100000) :
    Calls Tryd.prog 17 #[vp, vq] w (RetV w (.bool (decide (p = q)))) := by
  by_cases h : ng p = ng q
  · by_cases h2 : nn p = nn q
    · exact same_rat2 vp p vq q w (hp.is lp) (hq.is lq) hp hq h h2
    · exact same_rat1 vp p vq q w (hp.is lp) (hq.is lq) hp hq h h2
  · exact same_rat0 vp p vq q w (hp.is lp) (hq.is lq) hp hq h
theorem rat_same (vp : Value) (vq : Value) (q : Rat) (w : World) (hp : IsR w vp q) (hq : IsR w vq q) (lq : rl q ≤ 100000) :
    Calls Tryd.prog 17 #[vp, vq] w (RetV w (.bool true)) := by
  have h := rat_any vp q vq q w hp hq lq lq
  rw [decide_eq_true rfl] at h; exact h
end Go.Proofs.YtabdndlaelfdeaaDoor
/-
  DERIVED: THE SHELF's CONTRACTS AT THIS DUMP, IN PLAIN WORDS (tools/lay-plain.mjs out of 'TrydShelfPick.lean', which tools/lay-shelf.mjs wrote): THE SAME DECLARATIONS UNDER THE SAME NAMES: 'import', 'namespace', 'open', 'def', 'theorem' AND NOTHING ELSE: no command of the shelf's: FOR A HAND-IN. Each laying: the table of numbers ('.._ren') and one theorem, a field a fact of the dump's own or the kernel's comparison; each contract: ONE APPLICATION.
-/
namespace Go.Proofs
open Go.Shelf
def Tryd.lays160_ren : Go.Shelf.Ren := ⟨fun | 160 => 79 | 232 => 102 | 231 => 101 | 227 => 103 | 234 => 105 | 233 => 104 | 236 => 107 | 235 => 106 | 228 => 113 | 271 => 116 | 151 => 115 | 197 => 114 | 120 => 122 | 152 => 121 | 260 => 120 | 137 => 123 | 119 => 124 | 224 => 111 | 225 => 110 | 217 => 109 | 266 => 118 | n => n, fun | 9 => 9 | 4 => 4 | 3 => 3 | 5 => 5 | 117 => 115 | 116 => 114 | 0 => 0 | 124 => 118 | 21 => 21 | 105 => 123 | 46 => 93 | 119 => 131 | 139 => 134 | 138 => 133 | n => n, fun | 3 => 1 | 4 => 2 | n => n⟩
theorem Tryd.lays160 : Go.Proofs.Lays.n160 Tryd.prog Tryd.lays160_ren := {
  mixed := by kernel_rfl
  f119 := Tryd.func124.trans (congrArg some (by kernel_rfl))
  f120 := Tryd.func122.trans (congrArg some (by kernel_rfl))
  f137 := Tryd.func123.trans (congrArg some (by kernel_rfl))
  f151 := Tryd.func115.trans (congrArg some (by kernel_rfl))
  f152 := Tryd.func121.trans (congrArg some (by kernel_rfl))
  f160 := Tryd.func79.trans (congrArg some (by kernel_rfl))
  f197 := Tryd.func114.trans (congrArg some (by kernel_rfl))
  f217 := Tryd.func109.trans (congrArg some (by kernel_rfl))
  f224 := Tryd.func111.trans (congrArg some (by kernel_rfl))
  f225 := Tryd.func110.trans (congrArg some (by kernel_rfl))
  f227 := Tryd.func103.trans (congrArg some (by kernel_rfl))
  f228 := Tryd.func113.trans (congrArg some (by kernel_rfl))
  f231 := Tryd.func101.trans (congrArg some (by kernel_rfl))
  f232 := Tryd.func102.trans (congrArg some (by kernel_rfl))
  f233 := Tryd.func104.trans (congrArg some (by kernel_rfl))
  f234 := Tryd.func105.trans (congrArg some (by kernel_rfl))
  f235 := Tryd.func106.trans (congrArg some (by kernel_rfl))
  f236 := Tryd.func107.trans (congrArg some (by kernel_rfl))
  f260 := Tryd.func120.trans (congrArg some (by kernel_rfl))
  f266 := Tryd.func118.trans (congrArg some (by kernel_rfl))
  f271 := Tryd.func116.trans (congrArg some (by kernel_rfl))
  t0 := Tryd.underlying0
  a0 := Tryd.isAgg0
  z0 := Tryd.sizeOf0
  v0 := Tryd.zeroValue0
  t3 := Tryd.underlying3
  a3 := Tryd.isAgg3
  z3 := Tryd.sizeOf3
  v3 := Tryd.zeroValue3
  t4 := Tryd.underlying4
  a4 := Tryd.isAgg4
  z4 := Tryd.sizeOf4
  v4 := Tryd.zeroValue4
  t5 := Tryd.underlying5
  a5 := Tryd.isAgg5
  z5 := Tryd.sizeOf5
  v5 := Tryd.zeroValue5
  t9 := Tryd.underlying9
  a9 := Tryd.isAgg9
  z9 := Tryd.sizeOf9
  v9 := Tryd.zeroValue9
  t21 := Tryd.underlying21
  a21 := Tryd.isAgg21
  z21 := Tryd.sizeOf21
  v21 := Tryd.zeroValue21
  t46 := Tryd.underlying93
  a46 := Tryd.isAgg93
  z46 := Tryd.sizeOf93
  v46 := Tryd.zeroValue93
  t105 := Tryd.underlying123
  a105 := Tryd.isAgg123
  z105 := Tryd.sizeOf123
  v105 := Tryd.zeroValue123
  t116 := Tryd.underlying114
  a116 := Tryd.isAgg114
  z116 := Tryd.sizeOf114
  t117 := Tryd.underlying115
  a117 := Tryd.isAgg115
  z117 := Tryd.sizeOf115
  v117 := Tryd.zeroValue115
  t119 := Tryd.underlying131
  a119 := Tryd.isAgg131
  z119 := Tryd.sizeOf131
  t124 := Tryd.underlying118
  a124 := Tryd.isAgg118
  z124 := Tryd.sizeOf118
  v124 := Tryd.zeroValue118
  t138 := Tryd.underlying133
  a138 := Tryd.isAgg133
  z138 := Tryd.sizeOf133
  v138 := Tryd.zeroValue133
  t139 := Tryd.underlying134
  a139 := Tryd.isAgg134
  z139 := Tryd.sizeOf134
  v139 := Tryd.zeroValue134
  g3 := by kernel_rfl
  g4 := by kernel_rfl }
open Go.RowKit in
/-- strings.Trim: "Trim returns a slice of the string s with all leading and trailing Unicode code points contained in cutset removed.": AT A cutset OF ONE ASCII BYTE. THE WORLD BEHIND IT: as it was, or (where s is not empty) with ONE DRAW MORE off the tape: the statement 'return trimLeftByte(trimRightByte(s, c), c)' draws its order of evaluation. (LAID: no walk: one application.) -/
theorem Tryd.strings_Trim_one (s : ByteArray) (c : UInt8) (hc : c.toNat < 128) (w : World) (hs : s.size ≤ 9223372036854775807) :
    Calls Tryd.prog 79 #[.string s, .string ⟨#[c]⟩] w fun e w' => e = .returned (.string ⟨(Lib.trimB s.data.toList c).toArray⟩) ∧ (w' = w ∨ w' = w.drew) := Any.strings_Trim_one Tryd.lays160 s c hc w hs
def Tryd.lays219_ren : Go.Shelf.Ren := ⟨fun | 219 => 100 | 217 => 109 | 225 => 110 | 224 => 111 | 267 => 112 | 266 => 118 | 314 => 119 | n => n, fun | 9 => 9 | 3 => 3 | 4 => 4 | 5 => 5 | 46 => 93 | 146 => 128 | 51 => 57 | n => n, fun | 1 => 0 | n => n⟩
theorem Tryd.lays219 : Go.Proofs.Lays.n219 Tryd.prog Tryd.lays219_ren := {
  mixed := by kernel_rfl
  f217 := Tryd.func109.trans (congrArg some (by kernel_rfl))
  f219 := Tryd.func100.trans (congrArg some (by kernel_rfl))
  f224 := Tryd.func111.trans (congrArg some (by kernel_rfl))
  f225 := Tryd.func110.trans (congrArg some (by kernel_rfl))
  f266 := Tryd.func118.trans (congrArg some (by kernel_rfl))
  f267 := Tryd.func112.trans (congrArg some (by kernel_rfl))
  f314 := Tryd.func119.trans (congrArg some (by kernel_rfl))
  t3 := Tryd.underlying3
  a3 := Tryd.isAgg3
  z3 := Tryd.sizeOf3
  v3 := Tryd.zeroValue3
  t4 := Tryd.underlying4
  a4 := Tryd.isAgg4
  z4 := Tryd.sizeOf4
  v4 := Tryd.zeroValue4
  t5 := Tryd.underlying5
  a5 := Tryd.isAgg5
  z5 := Tryd.sizeOf5
  v5 := Tryd.zeroValue5
  t9 := Tryd.underlying9
  a9 := Tryd.isAgg9
  z9 := Tryd.sizeOf9
  v9 := Tryd.zeroValue9
  t46 := Tryd.underlying93
  a46 := Tryd.isAgg93
  z46 := Tryd.sizeOf93
  v46 := Tryd.zeroValue93
  t51 := Tryd.underlying57
  a51 := Tryd.isAgg57
  z51 := Tryd.sizeOf57
  v51 := Tryd.zeroValue57
  t146 := Tryd.underlying128
  a146 := Tryd.isAgg128
  z146 := Tryd.sizeOf128
  v146 := Tryd.zeroValue128
  g1 := by kernel_rfl }
open Go.RowKit Go.Lib in
/-- internal/stringslite.Index (what strings.Index calls) AT A substr OF ONE BYTE c: IT RETURNS 'Lib.indexByte s c'; the world is as it was. (LAID: no walk: one application.) -/
theorem Tryd.stringslite_Index_one (s : ByteArray) (c : UInt8) (w : World) :
    Calls Tryd.prog 100 #[.string s, .string ⟨#[c]⟩] w fun e w' => e = .returned (.int .i64 (Lib.indexByte s.data.toList c)) ∧ w' = w := Any.stringslite_Index_one Tryd.lays219 s c w
end Go.Proofs
/-
  strings.CutPrefix and strings.Cut at one byte: what they hand back.
  Conditions: the texts are no longer than a machine's.
-/
namespace Go.Proofs.YtabdndlaelfdeaaDoor
open Go.RowKit Go.ChangeShapes Go.WideShapes

/-- what lies ahead of the first byte c, and what lies behind it -/
def cutL (c : UInt8) : List UInt8 → Option (List UInt8 × List UInt8)
  | [] => none
  | x :: l => if x = c then some ([], l) else (cutL c l).map fun p => (x :: p.1, p.2)
/-- the text without a leading byte c, and whether it had one -/
def preL (c : UInt8) (l : List UInt8) : List UInt8 × Bool := if l.head? = some c then (l.tail, true) else (l, false)
theorem cutL_index (c : UInt8) (l : List UInt8) : (cutL c l = none ∧ Lib.indexByte l c = -1) ∨ (∃ i : Nat, i < l.length ∧ cutL c l = some (l.take i, l.drop (i + 1)) ∧ Lib.indexByte l c = (i : Int)) := by
  induction l with
  | nil => exact .inl ⟨rfl, rfl⟩
  | cons x l ih =>
    unfold cutL Lib.indexByte
    by_cases h : x = c
    · right
      subst h
      exact ⟨0, by simp, by simp, by simp⟩
    · have hb : (x == c) = false := by rw [beq_eq_false_iff_ne]; exact h
      rw [if_neg h, if_neg (by simp [hb])]
      rcases ih with ⟨h1, h2⟩ | ⟨i, h0, h1, h2⟩
      · left; rw [h1, h2]; exact ⟨rfl, rfl⟩
      · right
        refine ⟨i + 1, by simpa using h0, by rw [h1]; rfl, ?_⟩
        rw [h2, if_neg (by first | (simp; done) | (simp; omega))]; omega

set_option maxRecDepth 100000 in
set_option maxHeartbeats 400000 in
theorem prefix_nil (c : UInt8) (w : World) : Calls Tryd.prog 99 #[.string ⟨([] : List UInt8).toArray⟩, .string ⟨#[c]⟩] w (RetS w (.bool false)) := by
  go_enter Tryd.func99, Tryd.ntmps99
  go_wp2_with fail
  go_ret
  exact ⟨rfl, rfl⟩
set_option maxRecDepth 100000 in
set_option maxHeartbeats 400000 in
theorem prefix_cons (c x : UInt8) (l : List UInt8) (w : World) (hl : l.length < 9223372036854775807) :
    Calls Tryd.prog 99 #[.string ⟨(x :: l).toArray⟩, .string ⟨#[c]⟩] w (RetS w (.bool (decide (x = c)))) := by
  obtain ⟨S, hS⟩ : ∃ S : ByteArray, S = ⟨(x :: l).toArray⟩ := ⟨_, rfl⟩
  have hsz : S.size = l.length + 1 := by rw [hS]; simp [ByteArray.size]
  have hsl : ∀ wx : World, (Instr.slice 9 (.string S) none (some (.int .i64 1)) none).run Tryd.prog wx = .ok (.string ⟨#[x]⟩) wx := fun wx => by
    rw [run_slice_string_to_if (P := Tryd.prog) wx 9 S .i64 1 Tryd.underlying9, if_pos (by omega)]
    have e : S.extract 0 (1 : Int).toNat = ⟨#[x]⟩ := by rw [hS]; apply ByteArray.ext; simp [ByteArray.data_extract]
    rw [e]
  rw [← hS]
  have f1 : decide ((1 : Int) ≤ (S.size : Int)) = true := decide_eq_true (by omega)
  clear hS
  go_enter Tryd.func99, Tryd.ntmps99
  go_wp2_with fail
  go_ret
  refine ⟨ret_bool ?_, rfl⟩
  by_cases h : x = c
  · subst h; simp
  · rw [decide_eq_false h]; simp [h]
/-- a text cut around the first byte c: ahead, behind, whether there is one -/
def cut3 (c : UInt8) (l : List UInt8) : List UInt8 × List UInt8 × Bool := match cutL c l with | some p => (p.1, p.2, true) | none => (l, [], false)
set_option maxRecDepth 100000 in
set_option maxHeartbeats 400000 in
theorem lcutPrefix_any (c : UInt8) (l : List UInt8) (w : World) (hl : l.length ≤ 9223372036854775807) :
    Calls Tryd.prog 77 #[.string ⟨l.toArray⟩, .string ⟨#[c]⟩] w (RetS w (.tuple #[.string ⟨(preL c l).1.toArray⟩, .bool (preL c l).2])) := by
  cases l with
  | nil =>
    have e : preL c [] = ([], false) := rfl
    rw [e]
    have HP := Lib.hid (prefix_nil c)
    clear e
    go_enter Tryd.func77, Tryd.ntmps77
    go_wp2_with fail
    (with_reducible refine (HP.out _).mono ?_); rintro e wx ⟨rfl, rfl⟩
    go_wp2_with fail
    go_ret2
    exact ⟨rfl, rfl⟩
  | cons x l =>
    have HP := Lib.hid (fun wx => prefix_cons c x l wx (by simp at hl; omega))
    by_cases h : x = c
    · have e : preL c (x :: l) = (l, true) := by unfold preL; rw [if_pos (by simp [h])]; rfl
      rw [e]
      have hd : decide (x = c) = true := decide_eq_true h
      rw [hd] at HP
      obtain ⟨S, hS⟩ : ∃ S : ByteArray, S = ⟨(x :: l).toArray⟩ := ⟨_, rfl⟩
      have hsz : S.size = l.length + 1 := by rw [hS]; simp [ByteArray.size]
      have hsl : ∀ wx : World, (Instr.slice 9 (.string S) (some (.int .i64 1)) none none).run Tryd.prog wx = .ok (.string ⟨l.toArray⟩) wx := fun wx => by
        rw [run_slice_string_from_if (P := Tryd.prog) wx 9 S .i64 1 Tryd.underlying9, if_pos (by omega)]
        have e : S.extract (1 : Int).toNat S.size = ⟨l.toArray⟩ := by rw [hsz, hS]; apply ByteArray.ext; simp [ByteArray.data_extract]
        rw [e]
      rw [← hS] at HP ⊢
      clear hS e hd h
      go_enter Tryd.func77, Tryd.ntmps77
      go_wp2_with fail
      (with_reducible refine (HP.out _).mono ?_); rintro e wx ⟨rfl, rfl⟩
      go_wp2_with fail
      go_ret2
      exact ⟨rfl, rfl⟩
    · have e : preL c (x :: l) = (x :: l, false) := by unfold preL; rw [if_neg (by simp [h])]
      rw [e]
      have hd : decide (x = c) = false := decide_eq_false h
      rw [hd] at HP
      obtain ⟨S, hS⟩ : ∃ S : ByteArray, S = ⟨(x :: l).toArray⟩ := ⟨_, rfl⟩
      have HSS := Lib.hid hS
      rw [← hS] at HP
      clear e hd h
      rw [← hS]
      clear hS
      go_enter Tryd.func77, Tryd.ntmps77
      go_wp2_with fail
      (with_reducible refine (HP.out _).mono ?_); rintro e wx ⟨rfl, rfl⟩
      go_wp2_with fail
      go_ret2
      exact ⟨by first | rfl | (rw [HSS.out]; rfl), rfl⟩
set_option maxRecDepth 100000 in
set_option maxHeartbeats 400000 in
theorem cutPrefix_any (c : UInt8) (l : List UInt8) (w : World) (hl : l.length ≤ 9223372036854775807) :
    Calls Tryd.prog 46 #[.string ⟨l.toArray⟩, .string ⟨#[c]⟩] w (RetS w (.tuple #[.string ⟨(preL c l).1.toArray⟩, .bool (preL c l).2])) := by
  have HP := Lib.hid (lcutPrefix_any c l w hl)
  obtain ⟨a, ha⟩ : ∃ a : ByteArray, a = ⟨(preL c l).1.toArray⟩ := ⟨_, rfl⟩
  obtain ⟨b, hb⟩ : ∃ b, b = (preL c l).2 := ⟨_, rfl⟩
  obtain ⟨S, hS⟩ : ∃ S : ByteArray, S = ⟨l.toArray⟩ := ⟨_, rfl⟩
  rw [← ha, ← hb, ← hS] at HP ⊢
  clear ha hb hS
  go_enter Tryd.func46, Tryd.ntmps46
  go_wp2_with fail
  (with_reducible refine HP.out.mono ?_); rintro e wx ⟨rfl, rfl⟩
  go_wp2_with fail
  go_ret2
  exact ⟨rfl, rfl⟩
/-- a cut: nothing changes but the count of draws -/
def RetCut (w : World) (c : UInt8) (l : List UInt8) (e : Ending) (w' : World) : Prop :=
  e = .returned (.tuple #[.string ⟨(cut3 c l).1.toArray⟩, .string ⟨(cut3 c l).2.1.toArray⟩, .bool (cut3 c l).2.2]) ∧ Below w.heap.size w w'
set_option maxRecDepth 100000 in
set_option maxHeartbeats 800000 in
theorem lcut_any (c : UInt8) (l : List UInt8) (w : World) (hl : l.length ≤ 4611686018427387904) :
    Calls Tryd.prog 78 #[.string ⟨l.toArray⟩, .string ⟨#[c]⟩] w (RetCut w c l) := by
  have hix := Tryd.stringslite_Index_one ⟨l.toArray⟩ c w
  rw [show (⟨l.toArray⟩ : ByteArray).data.toList = l from rfl] at hix
  obtain ⟨S, hS⟩ : ∃ S : ByteArray, S = ⟨l.toArray⟩ := ⟨_, rfl⟩
  have hsz : S.size = l.length := by rw [hS]; simp [ByteArray.size]
  rcases cutL_index c l with ⟨h1, h2⟩ | ⟨i, h0, h1, h2⟩
  · rw [h2] at hix
    have e : cut3 c l = (l, [], false) := by unfold cut3; rw [h1]
    unfold RetCut
    rw [e]
    have HSS := Lib.hid hS
    rw [← hS] at hix
    have HIX := Lib.hid hix
    clear hix h1 h2 e
    rw [← hS]
    clear hS
    go_enter Tryd.func78, Tryd.ntmps78
    go_wp2_with fail
    (with_reducible refine HIX.out.mono ?_); rintro e wx ⟨rfl, rfl⟩
    go_wp2_with fail
    go_ret3
    exact ⟨rfl, Below.refl _ _⟩
  · rw [h2] at hix
    have e : cut3 c l = (l.take i, l.drop (i + 1), true) := by unfold cut3; rw [h1]
    unfold RetCut
    rw [e]
    have hs1 : ∀ wx : World, (Instr.slice 9 (.string S) none (some (.int .i64 (i : Int))) none).run Tryd.prog wx = .ok (.string ⟨(l.take i).toArray⟩) wx := fun wx => by
      rw [run_slice_string_to_if (P := Tryd.prog) wx 9 S .i64 i Tryd.underlying9, if_pos (by omega)]
      have e : S.extract 0 (i : Int).toNat = ⟨(l.take i).toArray⟩ := by rw [hS]; apply ByteArray.ext; simp [ByteArray.data_extract]
      rw [e]
    have hs2 : ∀ wx : World, (Instr.slice 9 (.string S) (some (.int .i64 ((i : Int) + 1))) none none).run Tryd.prog wx = .ok (.string ⟨(l.drop (i + 1)).toArray⟩) wx := fun wx => by
      rw [run_slice_string_from_if (P := Tryd.prog) wx 9 S .i64 _ Tryd.underlying9, if_pos (by omega)]
      have e : S.extract ((i : Int) + 1).toNat S.size = ⟨(l.drop (i + 1)).toArray⟩ := by
        rw [hsz, show ((i : Int) + 1).toNat = i + 1 by omega, hS]; apply ByteArray.ext; simp [ByteArray.data_extract, List.extract_eq_take_drop]
        exact List.take_of_length_le (by rw [List.length_drop]; exact Nat.le_refl _)
      rw [e]
    obtain ⟨a, ha⟩ : ∃ a : ByteArray, a = ⟨(l.take i).toArray⟩ := ⟨_, rfl⟩
    obtain ⟨b, hb⟩ : ∃ b : ByteArray, b = ⟨(l.drop (i + 1)).toArray⟩ := ⟨_, rfl⟩
    rw [← ha] at hs1; rw [← hb] at hs2
    show Calls _ _ _ _ fun e' w' => e' = .returned (.tuple #[.string ⟨(l.take i).toArray⟩, .string ⟨(l.drop (i + 1)).toArray⟩, .bool true]) ∧ Below w.heap.size w w'
    rw [← hS] at hix ⊢
    rw [← ha, ← hb]
    have HIX := Lib.hid hix
    have f1 : decide ((0 : Int) ≤ (i : Int)) = true := decide_eq_true (by omega)
    clear hix h1 h2 e hS ha hb
    go_enter Tryd.func78, Tryd.ntmps78
    go_wp2_with fail
    (with_reducible refine HIX.out.mono ?_); rintro e wx ⟨rfl, rfl⟩
    go_wp2_with fail
    go_quiet (fail)
    go_wp2_with fail
    go_ret3
    exact ⟨rfl, below_drewN (Below.refl _ _) _⟩
set_option maxRecDepth 100000 in
set_option maxHeartbeats 400000 in
theorem cut_any (c : UInt8) (l : List UInt8) (w : World) (hl : l.length ≤ 4611686018427387904) :
    Calls Tryd.prog 47 #[.string ⟨l.toArray⟩, .string ⟨#[c]⟩] w (RetCut w c l) := by
  have HP := Lib.hid (lcut_any c l w hl)
  unfold RetCut at HP ⊢
  obtain ⟨a, ha⟩ : ∃ a : ByteArray, a = ⟨(cut3 c l).1.toArray⟩ := ⟨_, rfl⟩
  obtain ⟨b, hb⟩ : ∃ b : ByteArray, b = ⟨(cut3 c l).2.1.toArray⟩ := ⟨_, rfl⟩
  obtain ⟨f, hf⟩ : ∃ f, f = (cut3 c l).2.2 := ⟨_, rfl⟩
  obtain ⟨S, hS⟩ : ∃ S : ByteArray, S = ⟨l.toArray⟩ := ⟨_, rfl⟩
  rw [← ha, ← hb, ← hf, ← hS] at HP
  rw [← ha, ← hb, ← hf, ← hS]
  clear ha hb hf hS
  go_enter Tryd.func47, Tryd.ntmps47
  go_wp2_with fail
  (with_reducible refine HP.out.mono ?_); rintro e wx ⟨rfl, hb1⟩
  go_wp2_with fail
  go_ret3
  exact ⟨rfl, hb1⟩
end Go.Proofs.YtabdndlaelfdeaaDoor
/-
  The number of a text of a fraction or of a decimal number.
  Conditions: none.
-/
namespace Go.Proofs.YtabdndlaelfdeaaDoor

/-- the number of a decimal text: its sign, what lies ahead of the point, what lies behind it -/
def dmV (neg : Bool) (a b : List UInt8) : Option Rat :=
  if b ≠ [] ∧ b.all isDig = true ∧ parC a = 0 then some (qm neg (parV a * 10 ^ b.length + decN b) (10 ^ b.length)) else none
/-- the number of a fraction's text -/
def frV (l : List UInt8) (neg : Bool) (a : List UInt8) (b : Option (List UInt8)) : Option Rat :=
  match b with
  | none => if parC a = 0 ∧ rtx (qm neg (parV a) 1) = l then some (qm neg (parV a) 1) else none
  | some b => if parC a = 0 ∧ parC b = 0 ∧ parV b ≠ 0 ∧ rtx (qm neg (parV a) (parV b)) = l then some (qm neg (parV a) (parV b)) else none
/-- the number of a text, if it is one -/
def prV (l : List UInt8) : Option Rat :=
  match cutL 46 (preL 45 l).1 with
  | some p => if l.length ≤ 64 then dmV (preL 45 l).2 p.1 p.2 else none
  | none =>
    match cutL 47 (preL 45 l).1 with
    | some p => frV l (preL 45 l).2 p.1 (some p.2)
    | none => frV l (preL 45 l).2 (preL 45 l).1 none
/-- the number of the error, and the number -/
def prC (l : List UInt8) : Nat := if 65536 < l.length then 4 else if (prV l).isSome then 0 else 2
def prQ (l : List UInt8) : Rat := if 65536 < l.length then 0 else (prV l).getD 0
/-- a byte that is no digit makes a text no number -/
theorem parC_bad {l : List UInt8} {c : UInt8} (h : c ∈ l) (hc : isDig c = false) : parC l ≠ 0 := by
  unfold parC
  split
  · decide
  · split
    · decide
    · split
      · rename_i h2
        rw [List.all_eq_true] at h2
        have := h2 c h
        rw [hc] at this; cases this
      · decide
theorem cutL_mem {c : UInt8} {l : List UInt8} {p : List UInt8 × List UInt8} (h : cutL c l = some p) : c ∈ l ∧ l = p.1 ++ c :: p.2 := by
  induction l generalizing p with
  | nil => cases h
  | cons x l ih =>
    unfold cutL at h
    by_cases hx : x = c
    · rw [if_pos hx] at h
      cases h
      subst hx
      exact ⟨List.mem_cons_self, rfl⟩
    · rw [if_neg hx] at h
      cases h2 : cutL c l with
      | none => rw [h2] at h; cases h
      | some q =>
        rw [h2] at h
        cases h
        obtain ⟨h3, h4⟩ := ih h2
        exact ⟨List.mem_cons_of_mem _ h3, by rw [List.cons_append, ← h4]⟩
theorem cutL_none {c : UInt8} {l : List UInt8} (h : cutL c l = none) : c ∉ l := by
  induction l with
  | nil => simp
  | cons x l ih =>
    unfold cutL at h
    by_cases hx : x = c
    · rw [if_pos hx] at h; cases h
    · rw [if_neg hx] at h
      cases h2 : cutL c l with
      | none =>
        intro h3
        rcases List.mem_cons.1 h3 with h4 | h4
        · exact hx h4.symm
        · exact ih h2 h4
      | some q => rw [h2] at h; cases h
end Go.Proofs.YtabdndlaelfdeaaDoor
/-
  Texts of fractions there and back.
  Conditions: none.
-/
namespace Go.Proofs.YtabdndlaelfdeaaDoor

theorem cutL_not {c : UInt8} {l : List UInt8} (h : c ∉ l) : cutL c l = none := by
  induction l with
  | nil => rfl
  | cons x l ih =>
    unfold cutL
    rw [if_neg (fun e => h (by rw [e]; exact List.mem_cons_self)), ih (fun e => h (List.mem_cons_of_mem _ e))]; rfl
theorem cutL_at {c : UInt8} {a b : List UInt8} (h : c ∉ a) : cutL c (a ++ c :: b) = some (a, b) := by
  induction a with
  | nil => show cutL c (c :: b) = _; unfold cutL; rw [if_pos rfl]
  | cons x a ih =>
    rw [List.cons_append]
    unfold cutL
    rw [if_neg (fun e => h (by rw [e]; exact List.mem_cons_self)), ih (fun e => h (List.mem_cons_of_mem _ e))]; rfl
theorem dig_not {l : List UInt8} {c : UInt8} (h : l.all isDig = true) (hc : isDig c = false) : c ∉ l := by
  intro hm
  rw [List.all_eq_true] at h
  have := h c hm
  rw [hc] at this; cases this
theorem decL_ne (n : Nat) : decL n ≠ [] := fun h => decL_head n (.inl h)
theorem decL_not (n : Nat) {c : UInt8} (hc : isDig c = false) : c ∉ decL n := dig_not (all_decL n) hc
theorem rtx_len {q : Rat} {k : Nat} (h : rl q ≤ k) (hk : 0 < k) : (rtx q).length ≤ 20 * k + 2 := by
  unfold rtx
  have h1 := decL_words (Nat.le_trans (rl_n q) h) hk
  have h2 := decL_words (Nat.le_trans (rl_d q) h) hk
  rw [List.length_append, List.length_append]
  have e1 : (if ng q = true then [(45 : UInt8)] else []).length ≤ 1 := by split <;> simp
  have e2 : (if q.den = 1 then [] else (47 : UInt8) :: decL q.den).length ≤ 1 + (decL q.den).length := by split <;> simp; omega
  omega
theorem preL_rtx (q : Rat) : preL 45 (rtx q) = (decL (nn q) ++ (if q.den = 1 then [] else 47 :: decL q.den), ng q) := by
  unfold preL rtx
  cases h : ng q with
  | true => rfl
  | false =>
    have hne := decL_ne (nn q)
    cases hd : decL (nn q) with
    | nil => exact absurd hd hne
    | cons x l =>
      have hx : x ≠ 45 := fun e => decL_not (nn q) (c := 45) (by decide) (by rw [hd, e]; exact List.mem_cons_self)
      rw [show (if false = true then [(45 : UInt8)] else []) = [] from rfl, List.nil_append, List.cons_append, List.head?_cons, if_neg (fun e => hx (Option.some.inj e))]
/-- what is printed is parsed as the number -/
theorem prV_rtx (q : Rat) (hl : (rtx q).length ≤ 65536) : prV (rtx q) = some q := by
  have hA : (decL (nn q)).length ≤ 65536 ∧ (q.den ≠ 1 → (decL q.den).length ≤ 65536) := by
    unfold rtx at hl
    rw [List.length_append, List.length_append] at hl
    refine ⟨by omega, fun h => ?_⟩
    rw [if_neg h, List.length_cons] at hl; omega
  obtain ⟨p1, p2⟩ := parC_decL hA.1
  have hq := qm_self q
  have hp := preL_rtx q
  obtain ⟨l, hl2⟩ : ∃ l, l = rtx q := ⟨_, rfl⟩
  rw [← hl2] at hp ⊢
  unfold prV
  rw [hp]
  by_cases hd : q.den = 1
  · rw [if_pos hd, List.append_nil]
    show (match cutL 46 (decL (nn q)) with | some p => _ | none => _) = _
    rw [cutL_not (decL_not (nn q) (c := 46) (by decide))]
    show (match cutL 47 (decL (nn q)) with | some p => _ | none => _) = _
    rw [cutL_not (decL_not (nn q) (c := 47) (by decide))]
    show frV l (ng q) (decL (nn q)) none = _
    unfold frV
    rw [hd] at hq
    show (if parC (decL (nn q)) = 0 ∧ rtx (qm (ng q) (parV (decL (nn q))) 1) = l then some (qm (ng q) (parV (decL (nn q))) 1) else none) = _
    rw [p2, hq, if_pos ⟨p1, hl2.symm⟩]
  · rw [if_neg hd]
    obtain ⟨d1, d2⟩ := parC_decL (hA.2 hd)
    show (match cutL 46 (decL (nn q) ++ 47 :: decL q.den) with | some p => _ | none => _) = _
    rw [cutL_not (fun e => by
      rcases List.mem_append.1 e with e | e
      · exact decL_not (nn q) (c := 46) (by decide) e
      · rcases List.mem_cons.1 e with e | e
        · cases e
        · exact decL_not q.den (c := 46) (by decide) e)]
    show (match cutL 47 (decL (nn q) ++ 47 :: decL q.den) with | some p => _ | none => _) = _
    rw [cutL_at (decL_not (nn q) (c := 47) (by decide))]
    show frV l (ng q) (decL (nn q)) (some (decL q.den)) = _
    unfold frV
    show (if parC (decL (nn q)) = 0 ∧ parC (decL q.den) = 0 ∧ parV (decL q.den) ≠ 0 ∧ rtx (qm (ng q) (parV (decL (nn q))) (parV (decL q.den))) = l then some (qm (ng q) (parV (decL (nn q))) (parV (decL q.den))) else none) = _
    rw [p2, d2, hq, if_pos ⟨p1, d1, q.den_nz, hl2.symm⟩]
theorem prQ_rtx (q : Rat) (hl : (rtx q).length ≤ 65536) : prQ (rtx q) = q ∧ prC (rtx q) = 0 := by
  unfold prQ prC
  rw [if_neg (by omega), if_neg (by omega), prV_rtx q hl]
  exact ⟨rfl, rfl⟩
theorem preL_mem {c d : UInt8} {l : List UInt8} (h : c ∈ (preL d l).1) : c ∈ l := by
  unfold preL at h; split at h
  · exact List.mem_of_mem_tail h
  · exact h
theorem frV_text {l a : List UInt8} {neg : Bool} {b : Option (List UInt8)} {q : Rat} (h : frV l neg a b = some q) : rtx q = l := by
  unfold frV at h
  cases b with
  | none =>
    by_cases hc : parC a = 0 ∧ rtx (qm neg (parV a) 1) = l
    · have h' : (if parC a = 0 ∧ rtx (qm neg (parV a) 1) = l then some (qm neg (parV a) 1) else none) = some q := h
      rw [if_pos hc] at h'; cases h'; exact hc.2
    · have h' : (if parC a = 0 ∧ rtx (qm neg (parV a) 1) = l then some (qm neg (parV a) 1) else none) = some q := h
      rw [if_neg hc] at h'; cases h'
  | some b =>
    have h' : (if parC a = 0 ∧ parC b = 0 ∧ parV b ≠ 0 ∧ rtx (qm neg (parV a) (parV b)) = l then some (qm neg (parV a) (parV b)) else none) = some q := h
    by_cases hc : parC a = 0 ∧ parC b = 0 ∧ parV b ≠ 0 ∧ rtx (qm neg (parV a) (parV b)) = l
    · rw [if_pos hc] at h'; cases h'; exact hc.2.2.2
    · rw [if_neg hc] at h'; cases h'
/-- a text with a number has a point, or is the number's own -/
theorem prV_text {l : List UInt8} {q : Rat} (h : prV l = some q) : 46 ∈ l ∨ rtx q = l := by
  cases h1 : cutL 46 (preL 45 l).1 with
  | some p => exact .inl (preL_mem (cutL_mem h1).1)
  | none =>
    right
    unfold prV at h
    rw [h1] at h
    cases h2 : cutL 47 (preL 45 l).1 with
    | some p => rw [h2] at h; exact frV_text h
    | none => rw [h2] at h; exact frV_text h
end Go.Proofs.YtabdndlaelfdeaaDoor
/-
  strings.Trim at the ten digits: what it hands back.
  Conditions: the text is no longer than a machine's.
-/
namespace Go.Proofs.YtabdndlaelfdeaaDoor
open Go.RowKit Go.ChangeShapes Go.WideShapes

def digits10 : List UInt8 := [48, 49, 50, 51, 52, 53, 54, 55, 56, 57]
theorem digits10_mem (x : UInt8) : digits10.contains x = isDig x := by
  rw [Bool.eq_iff_iff]
  unfold isDig digits10
  rw [List.contains_iff_mem]
  simp only [List.mem_cons, List.not_mem_nil, or_false, Bool.and_eq_true, decide_eq_true_eq]
  have key : ∀ n : Nat, n < 256 → (x = UInt8.ofNat n ↔ x.toNat = n) := fun n hn => by
    rw [← UInt8.toNat_inj, UInt8.toNat_ofNat_of_lt' hn]
  rw [show (48 : UInt8) = UInt8.ofNat 48 from rfl, show (49 : UInt8) = UInt8.ofNat 49 from rfl, show (50 : UInt8) = UInt8.ofNat 50 from rfl, show (51 : UInt8) = UInt8.ofNat 51 from rfl, show (52 : UInt8) = UInt8.ofNat 52 from rfl,
    show (53 : UInt8) = UInt8.ofNat 53 from rfl, show (54 : UInt8) = UInt8.ofNat 54 from rfl, show (55 : UInt8) = UInt8.ofNat 55 from rfl, show (56 : UInt8) = UInt8.ofNat 56 from rfl, show (57 : UInt8) = UInt8.ofNat 57 from rfl,
    key 48 (by decide), key 49 (by decide), key 50 (by decide), key 51 (by decide), key 52 (by decide), key 53 (by decide), key 54 (by decide), key 55 (by decide), key 56 (by decide), key 57 (by decide)]
  omega
theorem dropWhile_nil {p : UInt8 → Bool} {l : List UInt8} : l.dropWhile p = [] ↔ ∀ x ∈ l, p x = true := by
  induction l with
  | nil => simp
  | cons x l ih =>
    rw [List.dropWhile_cons]
    by_cases h : p x = true
    · rw [if_pos h, ih]; simp [h]
    · rw [if_neg h]; simp [h]
theorem trimS_digits (l : List UInt8) : Lib.trimS l digits10 = [] ↔ l.all isDig = true := by
  unfold Lib.trimS Lib.trimLeftS Lib.trimRightS
  rw [dropWhile_nil, List.all_eq_true]
  simp only [digits10_mem]
  constructor
  · intro h
    have h2 : (l.reverse.dropWhile isDig).reverse = [] := by
      rcases hq : l.reverse.dropWhile isDig with _ | ⟨y, m⟩
      · rfl
      · have h3 := List.head?_dropWhile_not isDig l.reverse
        rw [hq] at h3 h
        have h4 := h y (by simp)
        simp at h3
        rw [h4] at h3; cases h3
    have h5 : l.reverse.dropWhile isDig = [] := by simpa using h2
    rw [dropWhile_nil] at h5
    intro x hx
    exact h5 x (by simpa using hx)
  · intro h x hx
    have h5 : l.reverse.dropWhile isDig = [] := by rw [dropWhile_nil]; intro y hy; exact h y (by simpa using hy)
    rw [h5] at hx; simp at hx
theorem trim_digits (l : List UInt8) (w : World) (hl : l.length ≤ 9223372036854775807) :
    Calls Tryd.prog 79 #[.string ⟨l.toArray⟩, .string ⟨#[48, 49, 50, 51, 52, 53, 54, 55, 56, 57]⟩] w (RetV w (.string ⟨(Lib.trimS l digits10).toArray⟩)) := by
  have h := Any.strings_Trim_laid Tryd.lays160 (by kernel_rfl) ⟨l.toArray⟩ ⟨#[48, 49, 50, 51, 52, 53, 54, 55, 56, 57]⟩ w (by simpa [ByteArray.size] using hl) (by decide) (Go.Proofs.ascii_of_all (by decide))
  exact h
end Go.Proofs.YtabdndlaelfdeaaDoor
/-
  natural.Parse: its short ways, its bytes.
  Conditions: each theorem's own.
-/
namespace Go.Proofs.YtabdndlaelfdeaaDoor
open Go.RowKit Go.ChangeShapes Go.WideShapes

theorem parC_big {l : List UInt8} (h : 65536 < l.length) : parC l = 4 ∧ parV l = 0 := by
  have h1 : parC l = 4 := by unfold parC; rw [if_pos h]
  exact ⟨h1, by unfold parV; rw [h1, if_neg (by decide)]⟩
theorem parC_form {l : List UInt8} (h : l.length ≤ 65536) (h2 : l = [] ∨ (l.head? = some 48 ∧ 1 < l.length)) : parC l = 2 ∧ parV l = 0 := by
  have h1 : parC l = 2 := by unfold parC; rw [if_neg (by omega), if_pos h2]
  exact ⟨h1, by unfold parV; rw [h1, if_neg (by decide)]⟩
theorem parC_scan {l : List UInt8} (h : l.length ≤ 65536) (h2 : ¬ (l = [] ∨ (l.head? = some 48 ∧ 1 < l.length))) : parC l = (if l.all isDig then 0 else 2) ∧ parV l = if l.all isDig then decN l else 0 := by
  have h1 : parC l = if l.all isDig then 0 else 2 := by unfold parC; rw [if_neg (by omega), if_neg h2]
  refine ⟨h1, ?_⟩
  unfold parV; rw [h1]
  by_cases h3 : l.all isDig = true
  · rw [if_pos h3, if_pos h3, if_pos rfl]
  · rw [if_neg h3, if_neg h3, if_neg (by decide)]
/-- the ways of a text -/
theorem par_cases (l : List UInt8) : 65536 < l.length ∨ l = [] ∨ (∃ y m, l = 48 :: y :: m ∧ l.length ≤ 65536) ∨ (l.length ≤ 65536 ∧ ¬ (l = [] ∨ (l.head? = some 48 ∧ 1 < l.length)) ∧ ∃ h : 0 < l.length, l[0].toNat = 48 → l.length = 1) := by
  by_cases h1 : 65536 < l.length
  · exact .inl h1
  · cases l with
    | nil => exact .inr (.inl rfl)
    | cons x l =>
      by_cases h2 : x = 48 ∧ 0 < l.length
      · obtain ⟨rfl, h3⟩ := h2
        cases l with
        | nil => simp at h3
        | cons y l => exact .inr (.inr (.inl ⟨y, l, rfl, by omega⟩))
      · refine .inr (.inr (.inr ⟨by omega, ?_, by simp, ?_⟩))
        · rintro (h | ⟨h, h4⟩)
          · cases h
          · exact h2 ⟨by simpa using h, by simp at h4; omega⟩
        · intro e
          have e1 : x = 48 := UInt8.toNat_inj.1 e
          have h5 : ¬ 0 < l.length := fun h6 => h2 ⟨e1, h6⟩
          rw [List.length_cons]; omega

theorem rparse_any (l : List UInt8) (w : World) (h : l.length ≤ 400 ∨ 65536 < l.length ∧ l.length ≤ 9223372036854775807) :
    Calls Tryd.prog 55 #[.string ⟨l.toArray⟩] w (RetNE w (parV l) (.int .i64 (parC l : Nat))) := by
  rcases par_cases l with h1 | rfl | ⟨y, m, rfl, h1⟩ | ⟨h1, h2, h3, h4⟩
  · obtain ⟨e1, e2⟩ := parC_big h1
    rw [e1, e2]; exact rparse_large l w h1 (by omega)
  · obtain ⟨e1, e2⟩ := parC_form (l := []) (by decide) (.inl rfl)
    rw [e1, e2]; exact rparse_empty w
  · obtain ⟨e1, e2⟩ := parC_form (l := 48 :: y :: m) h1 (.inr ⟨rfl, by simp⟩)
    rw [e1, e2]; exact rparse_zero y m w (by simp at h1; omega)
  · obtain ⟨e1, e2⟩ := parC_scan h1 h2
    rw [e1, e2]; exact rparse_loop l w (by omega) h3 h4

/-- '[]byte(s)' -/
theorem conv_bytes (l : List UInt8) (wx : World) : ∃ c w2, (convert 9 91 (.string ⟨l.toArray⟩)).run Tryd.prog wx = .ok (.slice (some ⟨wx.heap.size, 0, none⟩) l.length c) w2 ∧ Below wx.heap.size wx w2 ∧
    ∀ k (h : k < l.length), w2.cell? ⟨wx.heap.size, k, none⟩ = some (.int .u8 ((l[k]).toNat : Nat)) := by
  have h := run_bytes_of_string (P := Tryd.prog) wx 9 91 5 ⟨l.toArray⟩ Tryd.underlying9 Tryd.underlying91 Tryd.underlying5
  have hs : (ByteArray.mk l.toArray).size = l.length := by simp [ByteArray.size]
  refine ⟨_, _, h.trans (by rw [hs]), (Below.refl _ _).drew.alloc (by simp) _, ?_⟩
  intro k hk
  have e : wx.heap.size = wx.drew.heap.size := by simp
  rw [e, cell_of_row _ _ _ _ _ _ (heap_alloc_new _ _)]
  unfold bytesRow
  rw [Array.getElem?_append_left (by simp; exact hk)]
  simp [hk]
set_option maxRecDepth 100000 in
set_option maxHeartbeats 400000 in
theorem parse_large (l : List UInt8) (w : World) (h : 65536 < l.length) (hm : l.length ≤ 9223372036854775807) :
    Calls Tryd.prog 49 #[.string ⟨l.toArray⟩] w (RetNE w 0 (errV 4)) := by
  rw [errV_pos (by decide)]
  have f1 : decide ((65536 : Int) < (l.length : Int)) = true := decide_eq_true (by omega)
  go_enter Tryd.func49, Tryd.ntmps49
  go_wp2_with fail
  go_ret2
  exact ⟨_, rfl, Below.refl _ _, by rw [wd_zero]; exact Num.nil _⟩
set_option maxRecDepth 100000 in
set_option maxHeartbeats 400000 in
theorem parse_empty (w : World) :
    Calls Tryd.prog 49 #[.string ⟨([] : List UInt8).toArray⟩] w (RetNE w 0 (errV 2)) := by
  rw [errV_pos (by decide)]
  go_enter Tryd.func49, Tryd.ntmps49
  go_wp2_with fail
  go_ret2
  exact ⟨_, rfl, Below.refl _ _, by rw [wd_zero]; exact Num.nil _⟩
set_option maxRecDepth 100000 in
set_option maxHeartbeats 400000 in
theorem parse_zero (y : UInt8) (l : List UInt8) (w : World) (h : l.length ≤ 65534) :
    Calls Tryd.prog 49 #[.string ⟨(48 :: y :: l).toArray⟩] w (RetNE w 0 (errV 2)) := by
  rw [errV_pos (by decide)]
  have f1 : decide ((65536 : Int) < (l.length : Int) + 1 + 1) = false := decide_eq_false (by omega)
  have f2 : decide ((1 : Int) < (l.length : Int) + 1 + 1) = true := decide_eq_true (by omega)
  go_enter Tryd.func49, Tryd.ntmps49
  go_wp2_with fail
  go_ret2
  exact ⟨_, rfl, Below.refl _ _, by rw [wd_zero]; exact Num.nil _⟩
end Go.Proofs.YtabdndlaelfdeaaDoor
/-
  natural.Parse: its loop.
  Conditions: each theorem's own.
-/
namespace Go.Proofs.YtabdndlaelfdeaaDoor
open Go.RowKit Go.ChangeShapes Go.WideShapes

theorem chunk_len {l : List UInt8} {i n : Nat} (h : i + n ≤ l.length) : ((l.drop i).take n).length = n := by
  rw [List.length_take, List.length_drop]; omega
theorem chunk_get {l : List UInt8} {i n k : Nat} (h : i + n ≤ l.length) (hk : k < n) : ((l.drop i).take n)[k]'(by rw [chunk_len h]; exact hk) = l[i + k]'(by omega) := by
  rw [List.getElem_take, List.getElem_drop]
theorem decN_chunk {l : List UInt8} {i n : Nat} (h : i + n ≤ l.length) : decN (l.take (i + n)) = decN (l.take i) * 10 ^ n + decN ((l.drop i).take n) := by
  rw [List.take_add, decN_app, chunk_len h]
theorem all_chunk {l : List UInt8} {i n : Nat} : (l.take (i + n)).all isDig = ((l.take i).all isDig && ((l.drop i).take n).all isDig) := by
  rw [List.take_add, List.all_append]
/-- a round of the words' loop -/
theorem mulAdd_step {V W B v x s v' d : Nat} (h : V + B * v = W) (hs : d + 4294967296 * v' = v + x * s) : (V + B * d) + B * 4294967296 * v' = W + B * x * s := by
  have e1 : B * 4294967296 * v' = B * (4294967296 * v') := by ac_rfl
  have e2 : B * x * s = B * (x * s) := by ac_rfl
  rw [e1, e2, ← h, Nat.add_assoc V, ← Nat.mul_add, hs, Nat.mul_add]; omega
/-- the group's size -/
def grp (i L : Nat) : Nat := if i = 0 ∧ L % 9 ≠ 0 then L % 9 else 9
theorem grp_le {i L : Nat} (h : i < L) (h2 : i = 0 ∨ (L - i) % 9 = 0) : 1 ≤ grp i L ∧ grp i L ≤ 9 ∧ i + grp i L ≤ L ∧ (L - (i + grp i L)) % 9 = 0 := by
  unfold grp; split <;> omega

set_option maxRecDepth 100000 in
set_option maxHeartbeats 3200000 in
theorem parse_loop (l : List UInt8) (w : World) (hl : l.length ≤ 65536) (h0 : 0 < l.length) (hz : l[0].toNat = 48 → l.length = 1) :
    Calls Tryd.prog 49 #[.string ⟨l.toArray⟩] w (RetNE w (if l.all isDig then decN l else 0) (errV (if l.all isDig then 0 else 2))) := by
  obtain ⟨S, hS⟩ : ∃ S : ByteArray, S = ⟨l.toArray⟩ := ⟨_, rfl⟩
  have hsz : S.size = l.length := by rw [hS]; simp [ByteArray.size]
  have hix := run_index_l l
  have hsl : ∀ (a b : Nat) (wx : World), a ≤ b → b ≤ l.length → (Instr.slice 9 (.string S) (some (.int .i64 (a : Int))) (some (.int .i64 (b : Int))) none).run Tryd.prog wx = .ok (.string ⟨((l.drop a).take (b - a)).toArray⟩) wx := by
    intro a b wx h1 h2
    rw [run_slice_string_if (P := Tryd.prog) wx 9 S .i64 .i64 a b Tryd.underlying9, if_pos (by omega), if_pos (by omega)]
    have e : S.extract (a : Int).toNat (b : Int).toNat = ⟨((l.drop a).take (b - a)).toArray⟩ := by
      rw [hS]; apply ByteArray.ext
      simp [ByteArray.data_extract, List.extract_eq_take_drop]
    rw [e]
  rw [← hS] at hix ⊢
  obtain ⟨V, hV⟩ : ∃ V, V = if l.all isDig then decN l else 0 := ⟨_, rfl⟩
  obtain ⟨C, hC⟩ : ∃ C : Nat, C = if l.all isDig then 0 else 2 := ⟨_, rfl⟩
  rw [← hV, ← hC]
  obtain ⟨x, hx⟩ : ∃ x, x = l[0].toNat := ⟨_, rfl⟩
  have hix0 : ∀ wx, (Instr.index 9 (.string S) (.int .i64 0)).run Tryd.prog wx = .ok (.int .u8 (x : Nat)) wx := fun wx => by rw [hx]; exact hix 0 h0 wx
  have hS2 : S.toList.isEmpty = false := by
    rw [ByteArray.toList_eq]
    have h9 : S.data.toList.length = S.size := rfl
    cases h8 : S.data.toList with
    | nil => rw [h8] at h9; simp only [List.length_nil] at h9; omega
    | cons _ _ => rfl
  rw [← hx] at hz
  have f1 : decide ((65536 : Int) < (l.length : Int)) = false := decide_eq_false (by omega)
  have HIX := Lib.hid hix; have HSZ := Lib.hid hsz; have HVV := Lib.hid hV; have HCC := Lib.hid hC; have HSL := Lib.hid hsl
  have hx48 : decide ((1 : Int) < (l.length : Int)) = false ∨ decide ((1 : Int) < (l.length : Int)) = true ∧ ((x : Int) == 48) = false := by
    by_cases h : l.length = 1
    · left; exact decide_eq_false (by omega)
    · right; exact ⟨decide_eq_true (by omega), by rw [beq_eq_false_iff_ne]; omega⟩
  clear hix hV hC hx hS hz hsl
  rcases hx48 with hx | ⟨hx, hx2⟩
  · go_enter Tryd.func49, Tryd.ntmps49
    go_wp2_with fail
    clear hix0 f1 hx hS2
    go_loopw [4, 5] (fun ov iv wr => ∃ (i : Nat) (lo : List Nat), i ≤ l.length ∧ iv = .int .i64 i ∧ OwnW 57 wr w.heap.size ov lo ∧ Hid (lo.length ≤ i) ∧ Hid (val lo = decN (l.take i)) ∧ Hid ((l.take i).all isDig = true) ∧ Hid (i = 0 ∨ (l.length - i) % 9 = 0) ∧ Below w.heap.size w wr) (fun _ iv _ => l.length - (intOf iv).toNat)
    case atStart => exact ⟨0, [], Nat.zero_le _, rfl, OwnW.nil _ _ _, Lib.hid (Nat.le_refl _), Lib.hid rfl, Lib.hid rfl, Lib.hid (.inl rfl), Below.refl _ _⟩
    case round =>
      obtain ⟨i, lo, hi, rfl, hO, hll, hval, had, h9, hBr⟩ := hrel
      obtain ⟨ao, ca, rfl, hca, hca2, _⟩ := hO.num.shape
      have HO := Lib.hid hO; have HBR := Lib.hid hBr; clear hO hBr
      obtain ⟨wo, rfl⟩ : ∃ wo : World, wo = wr := ⟨_, rfl⟩
      by_cases hin : i < l.length
      · have hf1 : decide ((i : Int) < (l.length : Int)) = true := decide_eq_true (by omega)
        obtain ⟨g1, g2, g3, g4⟩ := grp_le hin h9.out
        obtain ⟨n, hn⟩ : ∃ n, n = grp i l.length := ⟨_, rfl⟩
        rw [← hn] at g1 g2 g3 g4
        have HNG := Lib.hid hn; clear hn
        have G4 := Lib.hid g4; clear g4
        go_upto_region 9 with fail
        clear hf1
        go_cut [40] (fun cv wx => cv = .bool (decide (i = 0 ∧ l.length % 9 ≠ 0)) ∧ wo = wx)
        case first =>
          by_cases hi0 : i = 0
          · subst hi0
            by_cases hr : l.length % 9 = 0
            · have f2 : ((l.length : Int) % 9 != 0) = false := by rw [bne_eq_false_iff_eq]; omega
              have f3 : decide ((0 : Nat) = 0 ∧ l.length % 9 ≠ 0) = false := decide_eq_false (by omega)
              have HR := Lib.hid hr; have F3 := Lib.hid f3; clear hr f3
              go_wp2_with fail
              go_meet
              exact ⟨congrArg Value.bool F3.out.symm, rfl⟩
            · have f2 : ((l.length : Int) % 9 != 0) = true := by rw [bne_iff_ne]; omega
              have f3 : decide ((0 : Nat) = 0 ∧ l.length % 9 ≠ 0) = true := decide_eq_true (by omega)
              have HR := Lib.hid hr; have F3 := Lib.hid f3; clear hr f3
              go_wp2_with fail
              go_meet
              exact ⟨congrArg Value.bool F3.out.symm, rfl⟩
          · have f2 : ((i : Int) == 0) = false := by rw [beq_eq_false_iff_ne]; omega
            have f3 : decide (i = 0 ∧ l.length % 9 ≠ 0) = false := decide_eq_false (by omega)
            have F3 := Lib.hid f3; clear f3
            go_wp2_with fail
            go_meet
            exact ⟨congrArg Value.bool F3.out.symm, rfl⟩
        case rest =>
          obtain ⟨rfl, rfl⟩ := hcut
          obtain ⟨bb, hbb⟩ : ∃ bb, bb = decide (i = 0 ∧ l.length % 9 ≠ 0) := ⟨_, rfl⟩
          rw [← hbb]
          have HBB := Lib.hid hbb; clear hbb
          go_upto_if 40 with fail
          go_cut [6] (fun nv wx => nv = .int .i64 n ∧ wo = wx)
          case first =>
            cases bb with
            | true =>
              have hc := of_decide_eq_true HBB.out.symm
              have hnn : n = l.length % 9 := by rw [HNG.out]; unfold grp; rw [if_pos hc]
              have HNN := Lib.hid hnn
              clear hc hnn
              go_wp2_with fail
              go_meet
              exact ⟨by rw [HNN.out]; go_num, rfl⟩
            | false =>
              have hc := of_decide_eq_false HBB.out.symm
              have hnn : n = 9 := by rw [HNG.out]; unfold grp; rw [if_neg hc]
              have HNN := Lib.hid hnn
              clear hc hnn
              go_wp2_with fail
              go_meet
              exact ⟨by rw [HNN.out]; rfl, rfl⟩
          case rest =>
            obtain ⟨rfl, rfl⟩ := hcut
            clear HBB
            have hcs := HSL.out i (i + n) wo (by omega) g3
            rw [Nat.add_sub_cancel_left, show ((i + n : Nat) : Int) = (i : Int) + (n : Int) from by omega] at hcs
            obtain ⟨cc, w2, hcv, hB2, hcell⟩ := conv_bytes ((l.drop i).take n) wo
            rw [chunk_len g3] at hcv
            have hcl : ∀ k (h : k < n), w2.cell? ⟨wo.heap.size, k, none⟩ = some (.int .u8 ((l[i + k]'(by omega)).toNat : Nat)) := by
              intro k h
              have := hcell k (by rw [chunk_len g3]; exact h)
              rw [chunk_get g3 h] at this; exact this
            have HCL := Lib.hid hcl; have HB2 := Lib.hid hB2; have HO2 := Lib.hid (HO.out.below hB2)
            clear hcl hB2 hcell
            go_wp2_with fail
            clear hcs hcv
            go_loopw [7, 8, 52] (fun vv sv kv wx => ∃ k v s : Nat, k ≤ n ∧ kv = .int .i64 k ∧ vv = .int .u64 v ∧ sv = .int .u64 s ∧ v < 1000000000 ∧ s ≤ 1000000000 ∧ Hid (v = decN (((l.drop i).take n).take k)) ∧ Hid (s = 10 ^ k) ∧ Hid ((((l.drop i).take n).take k).all isDig = true) ∧ w2 = wx) (fun _ _ kv _ => n - (intOf kv).toNat)
            case atStart => exact ⟨0, 0, 1, Nat.zero_le _, rfl, rfl, rfl, by decide, by decide, Lib.hid rfl, Lib.hid rfl, Lib.hid rfl, rfl⟩
            case round =>
              obtain ⟨k, v, s, hk, rfl, rfl, rfl, hv9, hs9, hve, hse, hdg, rfl⟩ := hrel
              by_cases hkn : k < n
              · have hcell := HCL.out k hkn
                have hik : i + k < l.length := by omega
                obtain ⟨c, hc⟩ : ∃ c, c = (l[i + k]'hik).toNat := ⟨_, rfl⟩
                rw [← hc] at hcell
                have hdgc : isDig (l[i + k]'hik) = (decide (48 ≤ c) && decide (c ≤ 57)) := by rw [hc]; rfl
                have hcb : c < 256 := by rw [hc]; exact (l[i + k]'hik).toNat_lt
                have hkc : k < ((l.drop i).take n).length := by rw [chunk_len g3]; exact hkn
                have hget : ((l.drop i).take n)[k]'hkc = l[i + k]'hik := chunk_get g3 hkn
                have hf1 : decide ((k : Int) < (n : Int)) = true := decide_eq_true (by omega)
                have HDG := Lib.hid hdgc; have HC := Lib.hid hc; have HGET := Lib.hid hget
                clear hdgc hc hget
                by_cases hc1 : c < 48
                · have hf2 : decide ((c : Int) < 48) = true := decide_eq_true (by omega)
                  have hbad : l.all isDig = false := not_all hik (by rw [HDG.out]; simp; omega)
                  have HBAD := Lib.hid hbad; clear hbad
                  go_wp2_with fail
                  go_ret2
                  rw [HCC.out, HVV.out, HBAD.out]
                  exact ⟨_, by rw [if_neg (by decide)]; rfl, HBR.out.step HB2.out, by rw [if_neg (by decide), wd_zero]; exact Num.nil _⟩
                · have hf2 : decide ((c : Int) < 48) = false := decide_eq_false (by omega)
                  by_cases hc2 : 57 < c
                  · have hf3 : decide ((57 : Int) < (c : Int)) = true := decide_eq_true (by omega)
                    have hbad : l.all isDig = false := not_all hik (by rw [HDG.out]; simp; omega)
                    have HBAD := Lib.hid hbad; clear hbad
                    go_wp2_with fail
                    go_ret2
                    rw [HCC.out, HVV.out, HBAD.out]
                    exact ⟨_, by rw [if_neg (by decide)]; rfl, HBR.out.step HB2.out, by rw [if_neg (by decide), wd_zero]; exact Num.nil _⟩
                  · have hf3 : decide ((57 : Int) < (c : Int)) = false := decide_eq_false (by omega)
                    have hdg1 : (((l.drop i).take n).take (k + 1)).all isDig = true := by
                      rw [all_take_succ hkc, hdg.out, HGET.out, HDG.out]; simp; omega
                    have hv1 : 10 * v + (c - 48) = decN (((l.drop i).take n).take (k + 1)) := by
                      rw [decN_take_succ hkc, ← hve.out, HGET.out, ← HC.out]
                    have hb1 := decN_len hdg1
                    have hp1 : 10 ^ (k + 1) ≤ 10 ^ 9 := Nat.pow_le_pow_right (by decide) (by omega)
                    have hp2 : ((((l.drop i).take n).take (k + 1))).length ≤ 9 := by rw [List.length_take]; omega
                    have hp3 : 10 ^ (((l.drop i).take n).take (k + 1)).length ≤ 10 ^ 9 := Nat.pow_le_pow_right (by decide) hp2
                    rw [show (10 ^ 9 : Nat) = 1000000000 from rfl] at hp1 hp3
                    have hv2 : 10 * v + (c - 48) < 1000000000 := by omega
                    have hs2 : s * 10 = 10 ^ (k + 1) := by rw [hse.out, Nat.pow_succ]
                    have hs3 : s * 10 ≤ 1000000000 := by omega
                    have HV1 := Lib.hid hv1; have HS2 := Lib.hid hs2; have HDG1 := Lib.hid hdg1
                    clear hv1 hb1 hp1 hp2 hp3 hs2 hdg1
                    go_wp2_with fail
                    go_roundw
                    case rel => exact ⟨k + 1, 10 * v + (c - 48), s * 10, by omega, by go_num, by go_num, by go_num, hv2, hs3, HV1, HS2, HDG1, trivial⟩
                    case measure => simp [intOf]; omega
              · obtain rfl : k = n := by omega
                have hdg0 := hdg.out
                have hve0 := hve.out
                rw [List.take_of_length_le (by rw [chunk_len g3]; exact Nat.le_refl _)] at hdg0 hve0
                have hdgT : (l.take (i + k)).all isDig = true := by rw [all_chunk, had.out, hdg0]; rfl
                have hvT : val lo * s + v = decN (l.take (i + k)) := by rw [decN_chunk g3, ← hve0, ← hse.out, hval.out]
                have HDGT := Lib.hid hdgT; have HVT := Lib.hid hvT
                clear hdg0 hve0 hdgT hvT
                go_wp2_with fail
                go_loopw [7, 74] (fun vv kv wr => ∃ (j y : Nat) (m : List Nat), j ≤ lo.length ∧ kv = .int .i64 j ∧ vv = .int .u64 y ∧ y < 4294967296 ∧ OwnW 57 wr w.heap.size (.slice ao lo.length ca) m ∧ Hid (m.length = lo.length) ∧ Hid (val (m.take j) + 4294967296 ^ j * y = val (lo.take j) * s + v) ∧ Hid (∀ x, j ≤ x → gd m x = gd lo x) ∧ Below w.heap.size w wr) (fun _ kv _ => lo.length - (intOf kv).toNat)
                case atStart => exact ⟨0, v, lo, Nat.zero_le _, rfl, rfl, by omega, HO2.out, Lib.hid rfl, Lib.hid (by simp [val]), Lib.hid (fun _ _ => rfl), HBR.out.step HB2.out⟩
                case round =>
                  obtain ⟨j, y, m, hj, rfl, rfl, hy, hOm, hml, hinv, hsame, hBm⟩ := hrel
                  by_cases hjn : j < lo.length
                  · obtain ⟨g, c', e', hg⟩ := hOm.head (by rw [hml.out]; omega)
                    obtain ⟨rfl, _, _⟩ := Value.slice.inj e'
                    have hcell := hOm.cell hml.out j hjn
                    have hfr := hOm.frozen hml.out j
                    have hxl := hOm.lt j
                    have hxe := hsame.out j (Nat.le_refl _)
                    obtain ⟨x', hx'⟩ : ∃ x', x' = gd m j := ⟨_, rfl⟩
                    rw [← hx'] at hcell hxl hxe
                    obtain ⟨p, hpe⟩ : ∃ p, p = x' * s := ⟨_, rfl⟩
                    have hpi : (x' : Int) * (s : Int) = (p : Int) := by rw [hpe]; rfl
                    have hpl := word_mul hxl (show s < 4294967296 by omega)
                    rw [← hpe] at hpl
                    obtain ⟨s1, s2, s3⟩ := take_bounds hy hpl
                    have HOM := Lib.hid hOm; have HXE := Lib.hid hxe; have HPE := Lib.hid hpe; have S1 := Lib.hid s1; have S2 := Lib.hid s2
                    clear e' hx' hpe s1 s2 hOm hxe
                    have hf1 : decide ((j : Int) < (lo.length : Int)) = true := decide_eq_true (by omega)
                    go_wp2_with fail
                    go_roundw
                    case rel =>
                      have hst := HOM.out.stored hml.out j ((y + p) % 4294967296) S2.out
                      refine ⟨j + 1, (y + p) / 4294967296, m.set j ((y + p) % 4294967296), hjn, by go_num, rfl, S1.out, hst, Lib.hid (by rw [List.length_set]; exact hml.out), Lib.hid ?_, Lib.hid ?_, hBm.setCell hg _⟩
                      · have h3 := mulAdd_step (x := x') (s := s) (v' := (y + p) / 4294967296) (d := (y + p) % 4294967296) hinv.out (by rw [← HPE.out]; omega)
                        rw [val_take_set _ _ _ (by rw [hml.out]; exact hjn), val_take_succ, ← HXE.out, Nat.pow_succ, h3, Nat.add_mul]; omega
                      · intro q hq
                        rw [gd_set, if_neg (by omega)]; exact hsame.out q (by omega)
                    case measure => simp [intOf]; omega
                  · obtain rfl : j = lo.length := by omega
                    have hend : val m + 4294967296 ^ lo.length * y = decN (l.take (i + k)) := by
                      have := hinv.out
                      rw [val_take_full lo (Nat.le_refl _), HVT.out, ← hml.out, val_take_full m (Nat.le_refl _)] at this
                      rw [← hml.out]; exact this
                    have HEND := Lib.hid hend; have HOM := Lib.hid hOm
                    clear hend hOm
                    have hf1 : decide ((lo.length : Int) < (lo.length : Int)) = false := decide_eq_false (by omega)
                    by_cases hy0 : y = 0
                    · subst hy0
                      have hvm : val m = decN (l.take (i + k)) := by have := HEND.out; rw [Nat.mul_zero, Nat.add_zero] at this; exact this
                      have HVM := Lib.hid hvm; clear hvm
                      go_wp2_with fail
                      go_roundw
                      case rel => exact ⟨i + k, m, g3, by go_num, HOM.out, Lib.hid (by have := hll.out; rw [hml.out]; omega), HVM, HDGT, Lib.hid (.inr G4.out), hBm⟩
                      case measure => simp [intOf]; omega
                    · have hf2 : decide ((0 : Int) < (y : Int)) = true := decide_eq_true (by omega)
                      have hci : (y : Int) % 4294967296 = (y : Int) := by omega
                      have hone := num_one wr 57 y hy
                      have HONE := Lib.hid hone; clear hone
                      go_wp2_with (at_builtin; refine wpList_appendN Tryd.wordsTy rfl (.tmp 96) (.tmp 99) rfl w.heap.size _ _ m [y] rfl rfl (HOM.out.alloc _) HONE.out ?c1 ?c2 ?_)
                      case c1 => have := hll.out; rw [hml.out]; simp; omega
                      case c2 => have := hBm.size; simp; omega
                      intro v' w4 h1 h2 h3
                      have hvs : val (m ++ [y]) = decN (l.take (i + k)) := by rw [val_snoc, hml.out]; exact HEND.out
                      have h4 := h2 w (hBm.alloc hBm.size _)
                      have HVS := Lib.hid hvs
                      clear h2 hvs
                      go_wp2_with fail
                      go_roundw
                      case rel => exact ⟨i + k, m ++ [y], g3, by go_num, h1, Lib.hid (by have := hll.out; rw [List.length_append, hml.out]; simp; omega), HVS, HDGT, Lib.hid (.inr G4.out), h4⟩
                      case measure => simp [intOf]; omega
      · obtain rfl : i = l.length := by omega
        have hf1 : decide ((l.length : Int) < (l.length : Int)) = false := decide_eq_false (by omega)
        have htr := trim_any _ _ _ HO.out.num (by have := hll.out; omega)
        have hall : l.all isDig = true := by have := had.out; rwa [List.take_length] at this
        rw [hval.out, List.take_length] at htr
        have HT := Lib.hid htr; have HALL := Lib.hid hall
        clear htr hall
        go_wp2_with fail
        (with_reducible refine HT.out.mono ?_); rintro e w3 ⟨v3, l3, rfl, hb3, hn3, rfl⟩
        go_wp2_with fail
        go_ret2
        rw [HCC.out, HVV.out, HALL.out]
        exact ⟨_, rfl, HBR.out.step hb3, hn3⟩
  · go_enter Tryd.func49, Tryd.ntmps49
    go_wp2_with fail
    clear hix0 f1 hx hx2 hS2
    go_loopw [4, 5] (fun ov iv wr => ∃ (i : Nat) (lo : List Nat), i ≤ l.length ∧ iv = .int .i64 i ∧ OwnW 57 wr w.heap.size ov lo ∧ Hid (lo.length ≤ i) ∧ Hid (val lo = decN (l.take i)) ∧ Hid ((l.take i).all isDig = true) ∧ Hid (i = 0 ∨ (l.length - i) % 9 = 0) ∧ Below w.heap.size w wr) (fun _ iv _ => l.length - (intOf iv).toNat)
    case atStart => exact ⟨0, [], Nat.zero_le _, rfl, OwnW.nil _ _ _, Lib.hid (Nat.le_refl _), Lib.hid rfl, Lib.hid rfl, Lib.hid (.inl rfl), Below.refl _ _⟩
    case round =>
      obtain ⟨i, lo, hi, rfl, hO, hll, hval, had, h9, hBr⟩ := hrel
      obtain ⟨ao, ca, rfl, hca, hca2, _⟩ := hO.num.shape
      have HO := Lib.hid hO; have HBR := Lib.hid hBr; clear hO hBr
      obtain ⟨wo, rfl⟩ : ∃ wo : World, wo = wr := ⟨_, rfl⟩
      by_cases hin : i < l.length
      · have hf1 : decide ((i : Int) < (l.length : Int)) = true := decide_eq_true (by omega)
        obtain ⟨g1, g2, g3, g4⟩ := grp_le hin h9.out
        obtain ⟨n, hn⟩ : ∃ n, n = grp i l.length := ⟨_, rfl⟩
        rw [← hn] at g1 g2 g3 g4
        have HNG := Lib.hid hn; clear hn
        have G4 := Lib.hid g4; clear g4
        go_upto_region 9 with fail
        clear hf1
        go_cut [40] (fun cv wx => cv = .bool (decide (i = 0 ∧ l.length % 9 ≠ 0)) ∧ wo = wx)
        case first =>
          by_cases hi0 : i = 0
          · subst hi0
            by_cases hr : l.length % 9 = 0
            · have f2 : ((l.length : Int) % 9 != 0) = false := by rw [bne_eq_false_iff_eq]; omega
              have f3 : decide ((0 : Nat) = 0 ∧ l.length % 9 ≠ 0) = false := decide_eq_false (by omega)
              have HR := Lib.hid hr; have F3 := Lib.hid f3; clear hr f3
              go_wp2_with fail
              go_meet
              exact ⟨congrArg Value.bool F3.out.symm, rfl⟩
            · have f2 : ((l.length : Int) % 9 != 0) = true := by rw [bne_iff_ne]; omega
              have f3 : decide ((0 : Nat) = 0 ∧ l.length % 9 ≠ 0) = true := decide_eq_true (by omega)
              have HR := Lib.hid hr; have F3 := Lib.hid f3; clear hr f3
              go_wp2_with fail
              go_meet
              exact ⟨congrArg Value.bool F3.out.symm, rfl⟩
          · have f2 : ((i : Int) == 0) = false := by rw [beq_eq_false_iff_ne]; omega
            have f3 : decide (i = 0 ∧ l.length % 9 ≠ 0) = false := decide_eq_false (by omega)
            have F3 := Lib.hid f3; clear f3
            go_wp2_with fail
            go_meet
            exact ⟨congrArg Value.bool F3.out.symm, rfl⟩
        case rest =>
          obtain ⟨rfl, rfl⟩ := hcut
          obtain ⟨bb, hbb⟩ : ∃ bb, bb = decide (i = 0 ∧ l.length % 9 ≠ 0) := ⟨_, rfl⟩
          rw [← hbb]
          have HBB := Lib.hid hbb; clear hbb
          go_upto_if 40 with fail
          go_cut [6] (fun nv wx => nv = .int .i64 n ∧ wo = wx)
          case first =>
            cases bb with
            | true =>
              have hc := of_decide_eq_true HBB.out.symm
              have hnn : n = l.length % 9 := by rw [HNG.out]; unfold grp; rw [if_pos hc]
              have HNN := Lib.hid hnn
              clear hc hnn
              go_wp2_with fail
              go_meet
              exact ⟨by rw [HNN.out]; go_num, rfl⟩
            | false =>
              have hc := of_decide_eq_false HBB.out.symm
              have hnn : n = 9 := by rw [HNG.out]; unfold grp; rw [if_neg hc]
              have HNN := Lib.hid hnn
              clear hc hnn
              go_wp2_with fail
              go_meet
              exact ⟨by rw [HNN.out]; rfl, rfl⟩
          case rest =>
            obtain ⟨rfl, rfl⟩ := hcut
            clear HBB
            have hcs := HSL.out i (i + n) wo (by omega) g3
            rw [Nat.add_sub_cancel_left, show ((i + n : Nat) : Int) = (i : Int) + (n : Int) from by omega] at hcs
            obtain ⟨cc, w2, hcv, hB2, hcell⟩ := conv_bytes ((l.drop i).take n) wo
            rw [chunk_len g3] at hcv
            have hcl : ∀ k (h : k < n), w2.cell? ⟨wo.heap.size, k, none⟩ = some (.int .u8 ((l[i + k]'(by omega)).toNat : Nat)) := by
              intro k h
              have := hcell k (by rw [chunk_len g3]; exact h)
              rw [chunk_get g3 h] at this; exact this
            have HCL := Lib.hid hcl; have HB2 := Lib.hid hB2; have HO2 := Lib.hid (HO.out.below hB2)
            clear hcl hB2 hcell
            go_wp2_with fail
            clear hcs hcv
            go_loopw [7, 8, 52] (fun vv sv kv wx => ∃ k v s : Nat, k ≤ n ∧ kv = .int .i64 k ∧ vv = .int .u64 v ∧ sv = .int .u64 s ∧ v < 1000000000 ∧ s ≤ 1000000000 ∧ Hid (v = decN (((l.drop i).take n).take k)) ∧ Hid (s = 10 ^ k) ∧ Hid ((((l.drop i).take n).take k).all isDig = true) ∧ w2 = wx) (fun _ _ kv _ => n - (intOf kv).toNat)
            case atStart => exact ⟨0, 0, 1, Nat.zero_le _, rfl, rfl, rfl, by decide, by decide, Lib.hid rfl, Lib.hid rfl, Lib.hid rfl, rfl⟩
            case round =>
              obtain ⟨k, v, s, hk, rfl, rfl, rfl, hv9, hs9, hve, hse, hdg, rfl⟩ := hrel
              by_cases hkn : k < n
              · have hcell := HCL.out k hkn
                have hik : i + k < l.length := by omega
                obtain ⟨c, hc⟩ : ∃ c, c = (l[i + k]'hik).toNat := ⟨_, rfl⟩
                rw [← hc] at hcell
                have hdgc : isDig (l[i + k]'hik) = (decide (48 ≤ c) && decide (c ≤ 57)) := by rw [hc]; rfl
                have hcb : c < 256 := by rw [hc]; exact (l[i + k]'hik).toNat_lt
                have hkc : k < ((l.drop i).take n).length := by rw [chunk_len g3]; exact hkn
                have hget : ((l.drop i).take n)[k]'hkc = l[i + k]'hik := chunk_get g3 hkn
                have hf1 : decide ((k : Int) < (n : Int)) = true := decide_eq_true (by omega)
                have HDG := Lib.hid hdgc; have HC := Lib.hid hc; have HGET := Lib.hid hget
                clear hdgc hc hget
                by_cases hc1 : c < 48
                · have hf2 : decide ((c : Int) < 48) = true := decide_eq_true (by omega)
                  have hbad : l.all isDig = false := not_all hik (by rw [HDG.out]; simp; omega)
                  have HBAD := Lib.hid hbad; clear hbad
                  go_wp2_with fail
                  go_ret2
                  rw [HCC.out, HVV.out, HBAD.out]
                  exact ⟨_, by rw [if_neg (by decide)]; rfl, HBR.out.step HB2.out, by rw [if_neg (by decide), wd_zero]; exact Num.nil _⟩
                · have hf2 : decide ((c : Int) < 48) = false := decide_eq_false (by omega)
                  by_cases hc2 : 57 < c
                  · have hf3 : decide ((57 : Int) < (c : Int)) = true := decide_eq_true (by omega)
                    have hbad : l.all isDig = false := not_all hik (by rw [HDG.out]; simp; omega)
                    have HBAD := Lib.hid hbad; clear hbad
                    go_wp2_with fail
                    go_ret2
                    rw [HCC.out, HVV.out, HBAD.out]
                    exact ⟨_, by rw [if_neg (by decide)]; rfl, HBR.out.step HB2.out, by rw [if_neg (by decide), wd_zero]; exact Num.nil _⟩
                  · have hf3 : decide ((57 : Int) < (c : Int)) = false := decide_eq_false (by omega)
                    have hdg1 : (((l.drop i).take n).take (k + 1)).all isDig = true := by
                      rw [all_take_succ hkc, hdg.out, HGET.out, HDG.out]; simp; omega
                    have hv1 : 10 * v + (c - 48) = decN (((l.drop i).take n).take (k + 1)) := by
                      rw [decN_take_succ hkc, ← hve.out, HGET.out, ← HC.out]
                    have hb1 := decN_len hdg1
                    have hp1 : 10 ^ (k + 1) ≤ 10 ^ 9 := Nat.pow_le_pow_right (by decide) (by omega)
                    have hp2 : ((((l.drop i).take n).take (k + 1))).length ≤ 9 := by rw [List.length_take]; omega
                    have hp3 : 10 ^ (((l.drop i).take n).take (k + 1)).length ≤ 10 ^ 9 := Nat.pow_le_pow_right (by decide) hp2
                    rw [show (10 ^ 9 : Nat) = 1000000000 from rfl] at hp1 hp3
                    have hv2 : 10 * v + (c - 48) < 1000000000 := by omega
                    have hs2 : s * 10 = 10 ^ (k + 1) := by rw [hse.out, Nat.pow_succ]
                    have hs3 : s * 10 ≤ 1000000000 := by omega
                    have HV1 := Lib.hid hv1; have HS2 := Lib.hid hs2; have HDG1 := Lib.hid hdg1
                    clear hv1 hb1 hp1 hp2 hp3 hs2 hdg1
                    go_wp2_with fail
                    go_roundw
                    case rel => exact ⟨k + 1, 10 * v + (c - 48), s * 10, by omega, by go_num, by go_num, by go_num, hv2, hs3, HV1, HS2, HDG1, trivial⟩
                    case measure => simp [intOf]; omega
              · obtain rfl : k = n := by omega
                have hdg0 := hdg.out
                have hve0 := hve.out
                rw [List.take_of_length_le (by rw [chunk_len g3]; exact Nat.le_refl _)] at hdg0 hve0
                have hdgT : (l.take (i + k)).all isDig = true := by rw [all_chunk, had.out, hdg0]; rfl
                have hvT : val lo * s + v = decN (l.take (i + k)) := by rw [decN_chunk g3, ← hve0, ← hse.out, hval.out]
                have HDGT := Lib.hid hdgT; have HVT := Lib.hid hvT
                clear hdg0 hve0 hdgT hvT
                go_wp2_with fail
                go_loopw [7, 74] (fun vv kv wr => ∃ (j y : Nat) (m : List Nat), j ≤ lo.length ∧ kv = .int .i64 j ∧ vv = .int .u64 y ∧ y < 4294967296 ∧ OwnW 57 wr w.heap.size (.slice ao lo.length ca) m ∧ Hid (m.length = lo.length) ∧ Hid (val (m.take j) + 4294967296 ^ j * y = val (lo.take j) * s + v) ∧ Hid (∀ x, j ≤ x → gd m x = gd lo x) ∧ Below w.heap.size w wr) (fun _ kv _ => lo.length - (intOf kv).toNat)
                case atStart => exact ⟨0, v, lo, Nat.zero_le _, rfl, rfl, by omega, HO2.out, Lib.hid rfl, Lib.hid (by simp [val]), Lib.hid (fun _ _ => rfl), HBR.out.step HB2.out⟩
                case round =>
                  obtain ⟨j, y, m, hj, rfl, rfl, hy, hOm, hml, hinv, hsame, hBm⟩ := hrel
                  by_cases hjn : j < lo.length
                  · obtain ⟨g, c', e', hg⟩ := hOm.head (by rw [hml.out]; omega)
                    obtain ⟨rfl, _, _⟩ := Value.slice.inj e'
                    have hcell := hOm.cell hml.out j hjn
                    have hfr := hOm.frozen hml.out j
                    have hxl := hOm.lt j
                    have hxe := hsame.out j (Nat.le_refl _)
                    obtain ⟨x', hx'⟩ : ∃ x', x' = gd m j := ⟨_, rfl⟩
                    rw [← hx'] at hcell hxl hxe
                    obtain ⟨p, hpe⟩ : ∃ p, p = x' * s := ⟨_, rfl⟩
                    have hpi : (x' : Int) * (s : Int) = (p : Int) := by rw [hpe]; rfl
                    have hpl := word_mul hxl (show s < 4294967296 by omega)
                    rw [← hpe] at hpl
                    obtain ⟨s1, s2, s3⟩ := take_bounds hy hpl
                    have HOM := Lib.hid hOm; have HXE := Lib.hid hxe; have HPE := Lib.hid hpe; have S1 := Lib.hid s1; have S2 := Lib.hid s2
                    clear e' hx' hpe s1 s2 hOm hxe
                    have hf1 : decide ((j : Int) < (lo.length : Int)) = true := decide_eq_true (by omega)
                    go_wp2_with fail
                    go_roundw
                    case rel =>
                      have hst := HOM.out.stored hml.out j ((y + p) % 4294967296) S2.out
                      refine ⟨j + 1, (y + p) / 4294967296, m.set j ((y + p) % 4294967296), hjn, by go_num, rfl, S1.out, hst, Lib.hid (by rw [List.length_set]; exact hml.out), Lib.hid ?_, Lib.hid ?_, hBm.setCell hg _⟩
                      · have h3 := mulAdd_step (x := x') (s := s) (v' := (y + p) / 4294967296) (d := (y + p) % 4294967296) hinv.out (by rw [← HPE.out]; omega)
                        rw [val_take_set _ _ _ (by rw [hml.out]; exact hjn), val_take_succ, ← HXE.out, Nat.pow_succ, h3, Nat.add_mul]; omega
                      · intro q hq
                        rw [gd_set, if_neg (by omega)]; exact hsame.out q (by omega)
                    case measure => simp [intOf]; omega
                  · obtain rfl : j = lo.length := by omega
                    have hend : val m + 4294967296 ^ lo.length * y = decN (l.take (i + k)) := by
                      have := hinv.out
                      rw [val_take_full lo (Nat.le_refl _), HVT.out, ← hml.out, val_take_full m (Nat.le_refl _)] at this
                      rw [← hml.out]; exact this
                    have HEND := Lib.hid hend; have HOM := Lib.hid hOm
                    clear hend hOm
                    have hf1 : decide ((lo.length : Int) < (lo.length : Int)) = false := decide_eq_false (by omega)
                    by_cases hy0 : y = 0
                    · subst hy0
                      have hvm : val m = decN (l.take (i + k)) := by have := HEND.out; rw [Nat.mul_zero, Nat.add_zero] at this; exact this
                      have HVM := Lib.hid hvm; clear hvm
                      go_wp2_with fail
                      go_roundw
                      case rel => exact ⟨i + k, m, g3, by go_num, HOM.out, Lib.hid (by have := hll.out; rw [hml.out]; omega), HVM, HDGT, Lib.hid (.inr G4.out), hBm⟩
                      case measure => simp [intOf]; omega
                    · have hf2 : decide ((0 : Int) < (y : Int)) = true := decide_eq_true (by omega)
                      have hci : (y : Int) % 4294967296 = (y : Int) := by omega
                      have hone := num_one wr 57 y hy
                      have HONE := Lib.hid hone; clear hone
                      go_wp2_with (at_builtin; refine wpList_appendN Tryd.wordsTy rfl (.tmp 96) (.tmp 99) rfl w.heap.size _ _ m [y] rfl rfl (HOM.out.alloc _) HONE.out ?c1 ?c2 ?_)
                      case c1 => have := hll.out; rw [hml.out]; simp; omega
                      case c2 => have := hBm.size; simp; omega
                      intro v' w4 h1 h2 h3
                      have hvs : val (m ++ [y]) = decN (l.take (i + k)) := by rw [val_snoc, hml.out]; exact HEND.out
                      have h4 := h2 w (hBm.alloc hBm.size _)
                      have HVS := Lib.hid hvs
                      clear h2 hvs
                      go_wp2_with fail
                      go_roundw
                      case rel => exact ⟨i + k, m ++ [y], g3, by go_num, h1, Lib.hid (by have := hll.out; rw [List.length_append, hml.out]; simp; omega), HVS, HDGT, Lib.hid (.inr G4.out), h4⟩
                      case measure => simp [intOf]; omega
      · obtain rfl : i = l.length := by omega
        have hf1 : decide ((l.length : Int) < (l.length : Int)) = false := decide_eq_false (by omega)
        have htr := trim_any _ _ _ HO.out.num (by have := hll.out; omega)
        have hall : l.all isDig = true := by have := had.out; rwa [List.take_length] at this
        rw [hval.out, List.take_length] at htr
        have HT := Lib.hid htr; have HALL := Lib.hid hall
        clear htr hall
        go_wp2_with fail
        (with_reducible refine HT.out.mono ?_); rintro e w3 ⟨v3, l3, rfl, hb3, hn3, rfl⟩
        go_wp2_with fail
        go_ret2
        rw [HCC.out, HVV.out, HALL.out]
        exact ⟨_, rfl, HBR.out.step hb3, hn3⟩
theorem parse_any (l : List UInt8) (w : World) (h : l.length ≤ 9223372036854775807) :
    Calls Tryd.prog 49 #[.string ⟨l.toArray⟩] w (RetNE w (parV l) (errV (parC l))) := by
  rcases par_cases l with h1 | rfl | ⟨y, m, rfl, h1⟩ | ⟨h1, h2, h3, h4⟩
  · obtain ⟨e1, e2⟩ := parC_big h1
    rw [e1, e2]; exact parse_large l w h1 h
  · obtain ⟨e1, e2⟩ := parC_form (l := []) (by decide) (.inl rfl)
    rw [e1, e2]; exact parse_empty w
  · obtain ⟨e1, e2⟩ := parC_form (l := 48 :: y :: m) h1 (.inr ⟨rfl, by simp⟩)
    rw [e1, e2]; exact parse_zero y m w (by simp at h1; omega)
  · obtain ⟨e1, e2⟩ := parC_scan h1 h2
    rw [e1, e2]; exact parse_loop l w h1 h3 h4
theorem parC_small (l : List UInt8) : parC l ≤ 4 := by
  unfold parC; split
  · decide
  · split
    · decide
    · split <;> decide
theorem parV_len {l : List UInt8} {K : Nat} (h : l.length ≤ K) : (wd (parV l)).length ≤ K := by
  unfold parV; split
  · rename_i h1
    unfold parC at h1
    split at h1
    · cases h1
    · split at h1
      · cases h1
      · split at h1
        · rename_i h3
          have := decN_words' (l := l) (k := l.length) h (by rw [List.take_length]; exact h3)
          rwa [List.take_length] at this
        · cases h1
  · rw [wd_zero]; exact Nat.zero_le _
end Go.Proofs.YtabdndlaelfdeaaDoor
/-
  rational.decimal: what it hands back.
  Conditions: each theorem's own.
-/
namespace Go.Proofs.YtabdndlaelfdeaaDoor
open Go.RowKit Go.ChangeShapes Go.WideShapes

theorem bytes_ne {l : List UInt8} (h : l ≠ []) : (⟨l.toArray⟩ : ByteArray).toList.isEmpty = false := by
  rw [ByteArray.toList_eq]
  show l.isEmpty = false
  cases l with
  | nil => exact absurd rfl h
  | cons _ _ => rfl
set_option maxRecDepth 100000 in
set_option maxHeartbeats 3200000 in
theorem dec_long (neg : Bool) (a : List UInt8) (b : List UInt8) (n : Int) (w : World)  (hn : 64 < n) :
    Calls Tryd.prog 48 #[.bool neg, .string ⟨a.toArray⟩, .string ⟨b.toArray⟩, .int .i64 n] w (RetRE w 0 (errV 2)) := by
  rw [errV_pos (by decide)]
  have hb0 := ((Below.refl w.heap.size w).alloc (by first | (simp; done) | (simp; omega)) (.cells #[.bool false, .slice none 0 0, .slice none 0 0] 24))
  have hxR := nest1_0 w (.cells #[.bool false, .slice none 0 0, .slice none 0 0] 24)
  obtain ⟨w0, hw0⟩ : ∃ w0, w0 = (w.alloc (.cells #[.bool false, .slice none 0 0, .slice none 0 0] 24)) := ⟨_, rfl⟩
  rw [← hw0] at hb0 hxR
  have HB0 := Lib.hid hb0; have HW0 := Lib.hid hw0
  have BXR := Lib.hid hxR
  clear hb0 hw0 hxR
  have f1 : decide (64 < n) = true := decide_eq_true hn
  go_enter Tryd.func48, Tryd.ntmps48
  go_wp2_with fail
  rw [← HW0.out]
  refine ret_rat2 rfl w.heap.size _ _ _ rfl BXR.out rfl ?_
  exact ⟨_, rfl, HB0.out, isR_zero _⟩
set_option maxRecDepth 100000 in
set_option maxHeartbeats 3200000 in
theorem dec_empty (neg : Bool) (a : List UInt8) (b : List UInt8) (n : Int) (w : World)  (hn : n ≤ 64) (hb : b = []) :
    Calls Tryd.prog 48 #[.bool neg, .string ⟨a.toArray⟩, .string ⟨b.toArray⟩, .int .i64 n] w (RetRE w 0 (errV 2)) := by
  rw [errV_pos (by decide)]
  subst hb
  have hb0 := ((Below.refl w.heap.size w).alloc (by first | (simp; done) | (simp; omega)) (.cells #[.bool false, .slice none 0 0, .slice none 0 0] 24))
  have hxR := nest1_0 w (.cells #[.bool false, .slice none 0 0, .slice none 0 0] 24)
  obtain ⟨w0, hw0⟩ : ∃ w0, w0 = (w.alloc (.cells #[.bool false, .slice none 0 0, .slice none 0 0] 24)) := ⟨_, rfl⟩
  rw [← hw0] at hb0 hxR
  have HB0 := Lib.hid hb0; have HW0 := Lib.hid hw0
  have BXR := Lib.hid hxR
  clear hb0 hw0 hxR
  have f1 : decide (64 < n) = false := decide_eq_false (by omega)
  go_enter Tryd.func48, Tryd.ntmps48
  go_wp2_with fail
  rw [← HW0.out]
  refine ret_rat2 rfl w.heap.size _ _ _ rfl BXR.out rfl ?_
  exact ⟨_, rfl, HB0.out, isR_zero _⟩
set_option maxRecDepth 100000 in
set_option maxHeartbeats 3200000 in
theorem dec_bad (neg : Bool) (a : List UInt8) (b : List UInt8) (n : Int) (w : World)  (hn : n ≤ 64) (hb : b ≠ []) (hbl : b.length ≤ 200) (hd : b.all isDig = false) :
    Calls Tryd.prog 48 #[.bool neg, .string ⟨a.toArray⟩, .string ⟨b.toArray⟩, .int .i64 n] w (RetRE w 0 (errV 2)) := by
  rw [errV_pos (by decide)]
  have hb0 := ((Below.refl w.heap.size w).alloc (by first | (simp; done) | (simp; omega)) (.cells #[.bool false, .slice none 0 0, .slice none 0 0] 24))
  have hxR := nest1_0 w (.cells #[.bool false, .slice none 0 0, .slice none 0 0] 24)
  obtain ⟨w0, hw0⟩ : ∃ w0, w0 = (w.alloc (.cells #[.bool false, .slice none 0 0, .slice none 0 0] 24)) := ⟨_, rfl⟩
  rw [← hw0] at hb0 hxR
  have HB0 := Lib.hid hb0; have HW0 := Lib.hid hw0
  have BXR := Lib.hid hxR
  clear hb0 hw0 hxR
  have f1 : decide (64 < n) = false := decide_eq_false (by omega)
  have hs2 := bytes_ne hb
  have htn : Lib.trimS b digits10 ≠ [] := fun e => by have := (trimS_digits b).1 e; rw [hd] at this; cases this
  have ht2 := bytes_ne htn
  have htr := fun wx => trim_digits b wx (by omega)
  obtain ⟨T, hT⟩ : ∃ T : ByteArray, T = ⟨(Lib.trimS b digits10).toArray⟩ := ⟨_, rfl⟩; obtain ⟨S, hS⟩ : ∃ S : ByteArray, S = ⟨b.toArray⟩ := ⟨_, rfl⟩
  rw [← hT] at ht2 htr; rw [← hS] at hs2 htr ⊢
  have HT := Lib.hid htr; clear htr hT hS htn hd hb
  go_enter Tryd.func48, Tryd.ntmps48
  have hs := HT.out w0
  have HS := Lib.hid hs; clear hs
  go_wp2_with fail
  rw [← HW0.out]
  (with_reducible refine HS.out.mono ?_); rintro e w1 ⟨rfl, hb1⟩
  clear HS
  have HB1 := Lib.hid (HB0.out.step hb1)
  have BXR := Lib.hid (heap_below BXR.out hb1)
  clear hb1
  obtain ⟨eR0, eR1, eR2⟩ := row3 BXR.out
  obtain ⟨fR0, fR1, fR2⟩ := froz3 BXR.out
  go_wp2_with fail
  refine ret_rat2 rfl w.heap.size _ _ _ rfl (put3_heap BXR.out) rfl ?_
  exact ⟨_, rfl, put3_below HB1.out (by omega) _ _ _, isR_zero _⟩
set_option maxRecDepth 100000 in
set_option maxHeartbeats 3200000 in
theorem dec_whole (neg : Bool) (a : List UInt8) (b : List UInt8) (n : Int) (w : World)  (hn : n ≤ 64) (hb : b ≠ []) (hbl : b.length ≤ 200) (hd : b.all isDig = true) (hal : a.length ≤ 200) (ha : parC a ≠ 0) :
    Calls Tryd.prog 48 #[.bool neg, .string ⟨a.toArray⟩, .string ⟨b.toArray⟩, .int .i64 n] w (RetRE w 0 (errV 2)) := by
  rw [errV_pos (by decide)]
  have hb0 := ((Below.refl w.heap.size w).alloc (by first | (simp; done) | (simp; omega)) (.cells #[.bool false, .slice none 0 0, .slice none 0 0] 24))
  have hxR := nest1_0 w (.cells #[.bool false, .slice none 0 0, .slice none 0 0] 24)
  obtain ⟨w0, hw0⟩ : ∃ w0, w0 = (w.alloc (.cells #[.bool false, .slice none 0 0, .slice none 0 0] 24)) := ⟨_, rfl⟩
  rw [← hw0] at hb0 hxR
  have HB0 := Lib.hid hb0; have HW0 := Lib.hid hw0
  have BXR := Lib.hid hxR
  clear hb0 hw0 hxR
  have f1 : decide (64 < n) = false := decide_eq_false (by omega)
  have hs2 := bytes_ne hb
  have htn : Lib.trimS b digits10 = [] := (trimS_digits b).2 hd
  have htr := fun wx => trim_digits b wx (by omega)
  rw [htn] at htr
  have hpa := fun wx => parse_any a wx (by omega)
  rw [errV_pos ha] at hpa
  obtain ⟨S, hS⟩ : ∃ S : ByteArray, S = ⟨b.toArray⟩ := ⟨_, rfl⟩; obtain ⟨A, hA⟩ : ∃ A : ByteArray, A = ⟨a.toArray⟩ := ⟨_, rfl⟩
  rw [← hS] at hs2 htr ⊢; rw [← hA] at hpa ⊢
  have HT := Lib.hid htr; have HP := Lib.hid hpa; clear htr hpa hS hA htn hd hb ha
  go_enter Tryd.func48, Tryd.ntmps48
  have hs := HT.out w0
  have HS := Lib.hid hs; clear hs
  go_wp2_with fail
  rw [← HW0.out]
  (with_reducible refine HS.out.mono ?_); rintro e w1 ⟨rfl, hb1⟩
  clear HS
  have HB1 := Lib.hid (HB0.out.step hb1)
  have BXR := Lib.hid (heap_below BXR.out hb1)
  clear hb1
  have hs := HP.out w1
  have HS := Lib.hid hs; clear hs
  go_wp2_with fail
  (with_reducible refine HS.out.mono ?_); rintro e w2 ⟨v2, rfl, hb2, hn2⟩
  clear HS
  have HB2 := Lib.hid (HB1.out.step hb2)
  have BXR := Lib.hid (heap_below BXR.out hb2)
  clear hn2
  clear hb2
  obtain ⟨eR0, eR1, eR2⟩ := row3 BXR.out
  obtain ⟨fR0, fR1, fR2⟩ := froz3 BXR.out
  go_wp2_with fail
  refine ret_rat2 rfl w.heap.size _ _ _ rfl (put3_heap BXR.out) rfl ?_
  exact ⟨_, rfl, put3_below HB2.out (by omega) _ _ _, isR_zero _⟩
set_option maxRecDepth 100000 in
set_option maxHeartbeats 6400000 in
theorem dec_ok (neg : Bool) (a : List UInt8) (b : List UInt8) (n : Int) (w : World)  (hn : n ≤ 64) (hb : b ≠ []) (hbl : b.length ≤ 200) (hd : b.all isDig = true) (hal : a.length ≤ 200) (ha : parC a = 0) :
    Calls Tryd.prog 48 #[.bool neg, .string ⟨a.toArray⟩, .string ⟨b.toArray⟩, .int .i64 n] w (RetRE w (qm neg (parV a * 10 ^ b.length + decN b) (10 ^ b.length)) (errV 0)) := by
  rw [errV_zero]
  have hb0 := ((Below.refl w.heap.size w).alloc (by first | (simp; done) | (simp; omega)) (.cells #[.bool false, .slice none 0 0, .slice none 0 0] 24))
  have hxR := nest1_0 w (.cells #[.bool false, .slice none 0 0, .slice none 0 0] 24)
  obtain ⟨w0, hw0⟩ : ∃ w0, w0 = (w.alloc (.cells #[.bool false, .slice none 0 0, .slice none 0 0] 24)) := ⟨_, rfl⟩
  rw [← hw0] at hb0 hxR
  have HB0 := Lib.hid hb0; have HW0 := Lib.hid hw0
  have BXR := Lib.hid hxR
  clear hb0 hw0 hxR
  have f1 : decide (64 < n) = false := decide_eq_false (by omega)
  have hs2 := bytes_ne hb
  have htn : Lib.trimS b digits10 = [] := (trimS_digits b).2 hd
  have htr := fun wx => trim_digits b wx (by omega)
  rw [htn] at htr
  have hpa := fun wx => parse_any a wx (by omega)
  rw [ha, errV_zero] at hpa
  have hcv := conv_bytes b
  obtain ⟨S, hS⟩ : ∃ S : ByteArray, S = ⟨b.toArray⟩ := ⟨_, rfl⟩; obtain ⟨A, hA⟩ : ∃ A : ByteArray, A = ⟨a.toArray⟩ := ⟨_, rfl⟩; obtain ⟨V, hV⟩ : ∃ V, V = parV a := ⟨_, rfl⟩
  have hvl : (wd V).length ≤ 200 := by rw [hV]; exact parV_len hal
  rw [← hS] at hs2 htr hcv ⊢; rw [← hA, ← hV] at hpa; rw [← hA, ← hV]
  have HT := Lib.hid htr; have HP := Lib.hid hpa; have HCV := Lib.hid hcv; have HDG := Lib.hid hd; clear htr hpa hcv hS hA hV htn hd hb ha
  go_enter Tryd.func48, Tryd.ntmps48
  have hs := HT.out w0
  have HS := Lib.hid hs; clear hs
  go_wp2_with fail
  rw [← HW0.out]
  (with_reducible refine HS.out.mono ?_); rintro e w1 ⟨rfl, hb1⟩
  clear HS
  have HB1 := Lib.hid (HB0.out.step hb1)
  have BXR := Lib.hid (heap_below BXR.out hb1)
  clear hb1
  have hs := HP.out w1
  have HS := Lib.hid hs; clear hs
  go_wp2_with fail
  (with_reducible refine HS.out.mono ?_); rintro e w2 ⟨v2, rfl, hb2, hn2⟩
  clear HS
  have HB2 := Lib.hid (HB1.out.step hb2)
  have BXR := Lib.hid (heap_below BXR.out hb2)
  have N := Lib.hid hn2; clear hn2
  clear hb2
  have hs := one_any w2
  have HS := Lib.hid hs; clear hs
  go_wp2_with fail
  (with_reducible refine HS.out.mono ?_); rintro e w3 ⟨v3, rfl, hb3, hn3⟩
  clear HS
  have HB3 := Lib.hid (HB2.out.step hb3)
  have N := Lib.hid (N.out.below hb3)
  have BXR := Lib.hid (heap_below BXR.out hb3)
  have D := Lib.hid hn3; clear hn3
  clear hb3
  obtain ⟨cc, w5, hcv, hb5, hcell⟩ := HCV.out w3
  have HCELL := Lib.hid hcell; clear hcell
  go_wp2_with fail
  clear hcv hs2 f1
  have HB5 := Lib.hid (HB3.out.step hb5); have N := Lib.hid (N.out.below hb5); have D := Lib.hid (D.out.below hb5); have BXR := Lib.hid (heap_below BXR.out hb5)
  clear hb5
  go_loopw [10, 12, 41] (fun nv dv kv wr => ∃ k : Nat, k ≤ b.length ∧ kv = .int .i64 k ∧ Num wr nv (wd (V * 10 ^ k + decN (b.take k))) ∧ Num wr dv (wd (10 ^ k)) ∧ Below w5.heap.size w5 wr) (fun _ _ kv _ => b.length - (intOf kv).toNat)
  case atStart => exact ⟨0, Nat.zero_le _, rfl, by rw [Nat.pow_zero, Nat.mul_one, List.take_zero, decN_nil, Nat.add_zero]; exact N.out, by rw [Nat.pow_zero]; exact D.out, Below.refl _ _⟩
  case round =>
    obtain ⟨k, hk, rfl, hno, hdo, hBr⟩ := hrel
    have HNO := Lib.hid hno; have HDO := Lib.hid hdo; have HBR := Lib.hid hBr; clear hno hdo hBr
    by_cases hkn : k < b.length
    · have hcell := (HBR.out.cell (p := ⟨w3.heap.size, k, none⟩) (World.block_lt_of_cell? _ _ (HCELL.out k hkn))).trans (HCELL.out k hkn)
      obtain ⟨c, hc⟩ : ∃ c, c = (b[k]).toNat := ⟨_, rfl⟩
      rw [← hc] at hcell
      have hdg : isDig b[k] = true := List.all_eq_true.1 HDG.out _ (List.getElem_mem hkn)
      have hcb : 48 ≤ c ∧ c ≤ 57 := by rw [hc]; simpa [isDig] using hdg
      obtain ⟨hcb1, hcb2⟩ := hcb
      have hval : (V * 10 ^ k + decN (b.take k)) * 10 + (c - 48) = V * 10 ^ (k + 1) + decN (b.take (k + 1)) := by
        rw [decN_take_succ hkn, ← hc, Nat.pow_succ, ← Nat.mul_assoc, Nat.add_mul]; omega
      have hall : (b.take k).all isDig = true := List.all_eq_true.2 fun x hx => List.all_eq_true.1 HDG.out x (List.mem_of_mem_take hx)
      have hl1 := decN_words' (K := 200) hbl hall
      have hl2 : (wd (10 ^ k)).length ≤ 200 := wd_length_of_lt (Nat.lt_of_le_of_lt (Nat.pow_le_pow_right (by decide) (show k ≤ 199 by omega)) (by decide))
      have hl3 := wd_mul_len V (10 ^ k)
      have hl4 := wd_add_len (V * 10 ^ k) (decN (b.take k))
      obtain ⟨M, hM⟩ : ∃ M, M = V * 10 ^ k + decN (b.take k) := ⟨_, rfl⟩
      obtain ⟨T, hT⟩ : ∃ T, T = 10 ^ k := ⟨_, rfl⟩
      rw [← hM] at hval hl4 HNO; rw [← hT] at hl2 HDO hl3
      have hml : (wd M).length ≤ 402 := by rw [← hT] at hl4; omega
      have HVAL := Lib.hid hval; have HTT := Lib.hid hT
      clear hval hc hdg hall hl1 hl3 hl4 hM hT
      have h10 : (wd 10).length ≤ 1 := by rw [wd_one (by decide) (by decide)]; simp
      have hf1 : decide ((k : Int) < (b.length : Int)) = true := decide_eq_true (by omega)
      have ht0 := num_one wr 57 10 (by decide)
      rw [← wd_one (n := 10) (by decide) (by decide), show ((10 : Nat) : Int) = 10 from rfl] at ht0
      have hal : Below wr.heap.size wr (wr.alloc (.cells #[.int .u32 10] 57)) := (Below.refl _ _).alloc (Nat.le_refl _) _
      have hs := mulN (HNO.out.below hal) ht0 (by omega) (by omega)
      have HAL := Lib.hid hal
      have HS := Lib.hid hs; clear hs ht0 hal
      go_wp2_with fail
      (with_reducible refine HS.out.mono ?_); rintro e w6 ⟨v6, rfl, hb6, hn6⟩
      have HB6 := Lib.hid (HAL.out.step hb6); have HN6 := Lib.hid hn6; clear hb6 hn6 HS
      have hs := of_any ((c : Int) - 48) w6 (by omega) (by omega)
      rw [show ((c : Int) - 48).toNat = c - 48 by omega] at hs
      have HS := Lib.hid hs; clear hs
      go_wp2_with fail
      (with_reducible refine HS.out.mono ?_); rintro e w7 ⟨v7, l7, rfl, hb7, hn7, rfl⟩
      have hwc : (wd (c - 48)).length ≤ 1 := wd_length_of_lt (by omega)
      have hwm : (wd (M * 10)).length ≤ 403 := by have := wd_mul_len M 10; omega
      have hs := addN (HN6.out.below hb7) hn7 (by omega) (by omega)
      rw [HVAL.out] at hs
      have HB7 := Lib.hid (HB6.out.step hb7)
      have HS := Lib.hid hs; clear hs hb7 hn7
      go_wp2_with fail
      (with_reducible refine HS.out.mono ?_); rintro e w8 ⟨v8, rfl, hb8, hn8⟩
      have HB8 := Lib.hid (HB7.out.step hb8); have HN8 := Lib.hid hn8; clear hb8 hn8 HS
      have ht0 := num_one w8 57 10 (by decide)
      rw [← wd_one (n := 10) (by decide) (by decide), show ((10 : Nat) : Int) = 10 from rfl] at ht0
      have hal : Below w8.heap.size w8 (w8.alloc (.cells #[.int .u32 10] 57)) := (Below.refl _ _).alloc (Nat.le_refl _) _
      have hs := mulN ((HDO.out.below HB8.out).below hal) ht0 (by omega) (by omega)
      have HAL := Lib.hid hal
      have HS := Lib.hid hs; clear hs ht0 hal
      go_wp2_with fail
      (with_reducible refine HS.out.mono ?_); rintro e w9 ⟨v9, rfl, hb9, hn9⟩
      have HB9 := Lib.hid (HAL.out.step hb9); have HN9 := Lib.hid hn9; clear hb9 hn9 HS
      go_wp2_with fail
      go_roundw
      case rel => exact ⟨k + 1, hkn, by go_num, HN8.out.below HB9.out, by rw [Nat.pow_succ, ← HTT.out]; exact HN9.out, (HBR.out.step HB8.out).step HB9.out⟩
      case measure => simp [intOf]; omega
    · obtain rfl : k = b.length := by omega
      have hf1 : decide ((b.length : Int) < (b.length : Int)) = false := decide_eq_false (by omega)
      have htk : b.take b.length = b := List.take_length
      rw [htk] at HNO
      have hl1 := decN_words' (l := b) (k := b.length) (K := 200) hbl (by rw [htk]; exact HDG.out)
      rw [htk] at hl1
      have hl2 : (wd (10 ^ b.length)).length ≤ 201 := wd_length_of_lt (Nat.lt_of_le_of_lt (Nat.pow_le_pow_right (by decide) hbl) (by decide))
      have hl3 := wd_mul_len V (10 ^ b.length)
      have hl4 := wd_add_len (V * 10 ^ b.length) (decN b)
      have hp0 : 10 ^ b.length ≠ 0 := Nat.ne_of_gt (Nat.pow_pos (by decide))
      obtain ⟨T, hT⟩ : ∃ T, T = 10 ^ b.length := ⟨_, rfl⟩
      obtain ⟨M, hM⟩ : ∃ M, M = V * T + decN b := ⟨_, rfl⟩
      have hqe : qm neg M T = qm neg (V * 10 ^ b.length + decN b) (10 ^ b.length) := by rw [hM, hT]
      have HQE := Lib.hid hqe; clear hqe
      rw [← hT] at hl2 HDO hl3 hl4 HNO hp0
      rw [← hM] at hl4 HNO
      have hs := formN neg HNO.out HDO.out (by omega) (by omega) hp0
      have HS := Lib.hid hs; clear hs hp0 hT hM hl1 hl2 hl3 hl4 htk
      go_wp2_with fail
      (with_reducible refine HS.out.mono ?_); rintro e w6 ⟨v6, rfl, hb6, hn6⟩
      have BXR := Lib.hid (heap_below (heap_below BXR.out HBR.out) hb6); have HB6 := Lib.hid ((HB5.out.step HBR.out).step hb6); have Q := Lib.hid hn6
      clear hb6 hn6 HS
      obtain ⟨sQ, oQ, nQ, cQ, aQ, mQ, dQ, rfl⟩ := Q.out.shape
      obtain ⟨eR0, eR1, eR2⟩ := row3 BXR.out
      obtain ⟨fR0, fR1, fR2⟩ := froz3 BXR.out
      go_wp2_with fail
      refine ret_rat2 rfl w.heap.size _ _ _ rfl (put3_heap BXR.out) rfl ?_
      exact ⟨_, rfl, put3_below HB6.out (by omega) _ _ _, by rw [← HQE.out]; exact isR_put Q.out BXR.out⟩
/-- what decimal comes to -/
def dcO (neg : Bool) (a b : List UInt8) (n : Int) : Option Rat := if n ≤ 64 then dmV neg a b else none
def oQ (o : Option Rat) : Rat := o.getD 0
def oC (o : Option Rat) : Nat := if o.isSome then 0 else 2
theorem dec_any (neg : Bool) (a b : List UInt8) (n : Int) (w : World) (hal' : n ≤ 64 → a.length ≤ 200) (hbl' : n ≤ 64 → b.length ≤ 200) :
    Calls Tryd.prog 48 #[.bool neg, .string ⟨a.toArray⟩, .string ⟨b.toArray⟩, .int .i64 n] w (RetRE w (oQ (dcO neg a b n)) (errV (oC (dcO neg a b n)))) := by
  unfold dcO dmV
  by_cases h1 : n ≤ 64
  · rw [if_pos h1]
    have hal := hal' h1
    have hbl := hbl' h1
    by_cases h2 : b = []
    · rw [if_neg (fun h => h.1 h2)]; exact dec_empty neg a b n w h1 h2
    · by_cases h3 : b.all isDig = true
      · by_cases h4 : parC a = 0
        · rw [if_pos ⟨h2, h3, h4⟩]; exact dec_ok neg a b n w h1 h2 hbl h3 hal h4
        · rw [if_neg (fun h => h4 h.2.2)]; exact dec_whole neg a b n w h1 h2 hbl h3 hal h4
      · rw [if_neg (fun h => h3 h.2.1)]; exact dec_bad neg a b n w h1 h2 hbl (Bool.eq_false_iff.2 h3)
  · rw [if_neg h1]; exact dec_long neg a b n w (by omega)
end Go.Proofs.YtabdndlaelfdeaaDoor
