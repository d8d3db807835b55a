/-
  RationalBack: the walk of the statement.
  Conditions: each theorem's own.
-/
import Derived.Test.YtabdndlaelfdeaaDoorRatLaw6m
import Derived.Test.YtabdndlaelfdeaaDoorM7
namespace Go.Proofs.YtabdndlaelfdeaaDoor
open Go.RowKit Go.ChangeShapes Go.WideShapes

theorem prQ_bad {l : List UInt8} (h : prC l ≠ 0) : prQ l = 0 := by
  unfold prC at h; unfold prQ
  by_cases h1 : 65536 < l.length
  · rw [if_pos h1]
  · rw [if_neg h1] at h ⊢
    cases hp : prV l with
    | none => rfl
    | some q => rw [hp] at h; exact absurd rfl h
theorem prQ_good {l : List UInt8} (h : prC l = 0) : prV l = some (prQ l) := by
  unfold prC at h; unfold prQ
  by_cases h1 : 65536 < l.length
  · rw [if_pos h1] at h; cases h
  · rw [if_neg h1] at h ⊢
    cases hp : prV l with
    | none => rw [hp] at h; cases h
    | some q => rfl
theorem rl_prV {l : List UInt8} {q : Rat} (hl : l.length ≤ 300) (h : prV l = some q) : rl q ≤ 1000 := by
  have hp := preL_len 45 l
  have h10 : ∀ n : Nat, n ≤ 64 → (wd (10 ^ n)).length ≤ 65 := fun n hn => wd_length_of_lt (Nat.lt_of_le_of_lt (Nat.pow_le_pow_right (by decide) hn) (by decide))
  have hfr : ∀ a b, frV l (preL 45 l).2 a b = some q → a.length ≤ 300 → (∀ c, b = some c → c.length ≤ 300) → rl q ≤ 1000 := by
    intro a b hf ha hb
    unfold frV at hf
    cases b with
    | none =>
      by_cases hc : parC a = 0 ∧ rtx (qm (preL 45 l).2 (parV a) 1) = l
      · have h' : (if parC a = 0 ∧ rtx (qm (preL 45 l).2 (parV a) 1) = l then some (qm (preL 45 l).2 (parV a) 1) else none) = some q := hf
        rw [if_pos hc] at h'; cases h'
        exact Nat.le_trans (rl_qm (L := 300) (by decide) (parV_len ha) (by rw [wd_one_len]; decide)) (by decide)
      · have h' : (if parC a = 0 ∧ rtx (qm (preL 45 l).2 (parV a) 1) = l then some (qm (preL 45 l).2 (parV a) 1) else none) = some q := hf
        rw [if_neg hc] at h'; cases h'
    | some b =>
      have h' : (if parC a = 0 ∧ parC b = 0 ∧ parV b ≠ 0 ∧ rtx (qm (preL 45 l).2 (parV a) (parV b)) = l then some (qm (preL 45 l).2 (parV a) (parV b)) else none) = some q := hf
      by_cases hc : parC a = 0 ∧ parC b = 0 ∧ parV b ≠ 0 ∧ rtx (qm (preL 45 l).2 (parV a) (parV b)) = l
      · rw [if_pos hc] at h'; cases h'
        exact Nat.le_trans (rl_qm (L := 300) hc.2.2.1 (parV_len ha) (parV_len (hb b rfl))) (by decide)
      · rw [if_neg hc] at h'; cases h'
  cases h1 : cutL 46 (preL 45 l).1 with
  | some p =>
    unfold prV at h
    rw [h1] at h
    have h2 := congrArg List.length (cutL_mem h1).2
    rw [List.length_append, List.length_cons] at h2
    by_cases h6 : l.length ≤ 64
    · have h' : (if l.length ≤ 64 then dmV (preL 45 l).2 p.1 p.2 else none) = some q := h
      rw [if_pos h6] at h'
      unfold dmV at h'
      by_cases hc : p.2 ≠ [] ∧ p.2.all isDig = true ∧ parC p.1 = 0
      · rw [if_pos hc] at h'; cases h'
        have a1 := parV_len (l := p.1) (K := 300) (by omega)
        have a2 := h10 p.2.length (by omega)
        have a3 := wd_mul_len (parV p.1) (10 ^ p.2.length)
        have a4 := decN_words' (l := p.2) (k := p.2.length) (K := 300) (by omega) (by rw [List.take_length]; exact hc.2.1)
        rw [List.take_length] at a4
        have a5 := wd_add_len (parV p.1 * 10 ^ p.2.length) (decN p.2)
        exact rl_qm (Nat.ne_of_gt (Nat.pow_pos (by decide))) (by omega) (by omega)
      · rw [if_neg hc] at h'; cases h'
    · have h' : (if l.length ≤ 64 then dmV (preL 45 l).2 p.1 p.2 else none) = some q := h
      rw [if_neg h6] at h'; cases h'
  | none =>
    unfold prV at h
    rw [h1] at h
    cases h2 : cutL 47 (preL 45 l).1 with
    | some p =>
      rw [h2] at h
      have h3 := congrArg List.length (cutL_mem h2).2
      rw [List.length_append, List.length_cons] at h3
      exact hfr _ _ h (by omega) (fun c hc => by cases hc; omega)
    | none => rw [h2] at h; exact hfr _ _ h (by omega) (fun c hc => by cases hc)
theorem rl_prQ {l : List UInt8} (hl : l.length ≤ 300) : rl (prQ l) ≤ 1000 := by
  by_cases h : prC l = 0
  · exact rl_prV hl (prQ_good h)
  · rw [prQ_bad h, rl_zero]; decide
/-- a point among the first k bytes -/
def hasP (l : List UInt8) (k : Nat) : Bool := (l.take k).any (fun b => b == 46)
theorem hasP_succ {l : List UInt8} {k : Nat} (h : k < l.length) : hasP l (k + 1) = (hasP l k || l[k] == 46) := by
  unfold hasP; rw [List.take_succ_eq_append_getElem h, List.any_append]; simp
theorem hasP_end {l : List UInt8} (h : hasP l l.length = false) : 46 ∉ l := by
  intro hm
  unfold hasP at h
  rw [List.take_length, Bool.eq_false_iff] at h
  exact h (List.any_eq_true.2 ⟨46, hm, by rfl⟩)
theorem byte_is {b : UInt8} {n : Nat} (hn : n < 256) : (((b.toNat : Int) == (n : Int)) : Bool) = (b == UInt8.ofNat n) := by
  rw [Bool.eq_iff_iff]; simp only [beq_iff_eq]
  rw [← UInt8.toNat_inj, UInt8.toNat_ofNat_of_lt' hn]; omega

set_option maxRecDepth 100000 in
set_option maxHeartbeats 12800000 in
theorem back_small0 (vp : Value) (p : Rat) (l : List UInt8) (w : World) (hp : RatIs w vp p) (lp : rl p ≤ 12) (zp : (szR vp).1 ≤ 12 ∧ (szR vp).2 ≤ 12) (hl : 200 < l.length) (hm : l.length ≤ 9223372036854775807) :
    Calls Tryd.prog 7 #[vp, .string ⟨l.toArray⟩] w (RetV w (.bool true)) := by
  obtain ⟨sp, op, np, cp, ap, mp, dp, rfl⟩ := hp.shape
  have hlp := hp.rl
  obtain ⟨S, hS⟩ : ∃ S : ByteArray, S = ⟨l.toArray⟩ := ⟨_, rfl⟩
  have hsz : S.size = l.length := by rw [hS]; simp [ByteArray.size]
  have f1 : decide ((200 : Int) < (l.length : Int)) = true := decide_eq_true (by omega)
  rw [← hS]; clear hS
  have hb0 := ((Below.refl w.heap.size w).alloc (by first | (simp; done) | (simp; omega)) (.cells #[.bool sp, .slice op np cp, .slice ap mp dp] 24))
  have hxp := nest1_0 w (.cells #[.bool sp, .slice op np cp, .slice ap mp dp] 24)
  have hpp := hp.below hb0
  obtain ⟨w0, hw0⟩ : ∃ w0, w0 = (w.alloc (.cells #[.bool sp, .slice op np cp, .slice ap mp dp] 24)) := ⟨_, rfl⟩
  rw [← hw0] at hb0 hxp hpp
  have HB0 := Lib.hid hb0; have HW0 := Lib.hid hw0
  have BXp := Lib.hid hxp
  have Fp := Lib.hid hpp
  clear hb0 hw0 hxp hpp hp
  have zzp : np ≤ 12 ∧ mp ≤ 12 := zp; clear zp
  have _lp := lp
  go_enter Tryd.func7, Tryd.ntmps7
  have hs := awake02 w0
  have HS := Lib.hid hs; clear hs
  go_wp2_with fail
  rw [← HW0.out]
  (with_reducible refine HS.out.mono ?_); rintro e w1 ⟨rfl, hb1⟩
  clear HS
  have HB1 := Lib.hid (HB0.out.step hb1)
  have Fp := Lib.hid (Fp.out.below hb1)
  have BXp := Lib.hid (heap_below BXp.out hb1)
  clear hb1
  obtain ⟨ep0, ep1, ep2⟩ := row3 BXp.out
  obtain ⟨w2, hw2⟩ : ∃ w2, w2 = w1.alloc (.cells #[.bool sp, .slice op np cp, .slice ap mp dp] 24) := ⟨_, rfl⟩
  have hb2 : Below w1.heap.size w1 w2 := by rw [hw2]; exact (Below.refl _ _).alloc (Nat.le_refl _) _
  have hxLS := heap_alloc_new w1 (.cells #[.bool sp, .slice op np cp, .slice ap mp dp] 24)
  obtain ⟨gLS, hgLS⟩ : ∃ gLS, gLS = w1.heap.size := ⟨_, rfl⟩
  rw [← hw2, ← hgLS] at hxLS
  have HW2 := Lib.hid hw2; have HGLS := Lib.hid hgLS; clear hw2 hgLS
  have HB2 := Lib.hid (HB1.out.step hb2)
  have Fp := Lib.hid (Fp.out.below hb2)
  have BXp := Lib.hid (heap_below BXp.out hb2)
  clear hb2
  have BXLS := Lib.hid hxLS; clear hxLS
  have hs := rlarge1s BXLS.out zzp
  have HS := Lib.hid hs; clear hs
  go_wp2_with fail
  rw [← HW2.out]
  try rw [← HGLS.out]
  (with_reducible refine HS.out.mono ?_); rintro e w3 ⟨rfl, hb3⟩
  clear HS
  have HB3 := Lib.hid (HB2.out.step hb3)
  have Fp := Lib.hid (Fp.out.below hb3)
  have BXp := Lib.hid (heap_below BXp.out hb3)
  clear hb3
  clear BXLS
  have hs := awake02 w3
  have HS := Lib.hid hs; clear hs
  go_wp2_with fail
  (with_reducible refine HS.out.mono ?_); rintro e w4 ⟨rfl, hb4⟩
  clear HS
  have HB4 := Lib.hid (HB3.out.step hb4)
  have Fp := Lib.hid (Fp.out.below hb4)
  have BXp := Lib.hid (heap_below BXp.out hb4)
  clear hb4
  go_wp2_with fail
  go_ret
  exact ⟨rfl, HB4.out⟩
set_option maxRecDepth 100000 in
set_option maxHeartbeats 12800000 in
theorem back_small1 (vp : Value) (p : Rat) (l : List UInt8) (w : World) (hp : RatIs w vp p) (lp : rl p ≤ 12) (zp : (szR vp).1 ≤ 12 ∧ (szR vp).2 ≤ 12) (hl : l.length ≤ 200) (hc : prC l ≠ 0) :
    Calls Tryd.prog 7 #[vp, .string ⟨l.toArray⟩] w (RetV w (.bool true)) := by
  obtain ⟨sp, op, np, cp, ap, mp, dp, rfl⟩ := hp.shape
  have hlp := hp.rl
  obtain ⟨S, hS⟩ : ∃ S : ByteArray, S = ⟨l.toArray⟩ := ⟨_, rfl⟩
  have hsz : S.size = l.length := by rw [hS]; simp [ByteArray.size]
  have f1 : decide ((200 : Int) < (l.length : Int)) = false := decide_eq_false (by omega)
  have hrx := rtx_len lp (by decide)
  have hq := prQ_rtx p (by omega)
  have hpr := fun wx => parseq_any (rtx p) wx (.inl (by omega)) (by omega)
  rw [hq.1, hq.2, errV_zero] at hpr
  have HPR := Lib.hid hpr
  have hps := fun wx => parseq_any l wx (.inl (by omega)) (by omega)
  have hix := run_index_l l
  have hlq := rl_prQ (l := l) (by omega)
  have r5 : Hid (cq p p = 0) := Lib.hid ((cq_eq p p).2 rfl)
  obtain ⟨TX, hTX⟩ : ∃ T : ByteArray, T = ⟨(rtx p).toArray⟩ := ⟨_, rfl⟩
  rw [← hTX] at HPR
  have HTX := Lib.hid hTX; clear hTX hrx hq hpr
  rw [prQ_bad hc, errV_pos hc] at hps
  have R0 : Hid (sg 0 = 0) := Lib.hid sg_zero
  obtain ⟨E, hE⟩ : ∃ E, E = prC l := ⟨_, rfl⟩; rw [← hE] at hps; clear hc hE hix hlq
  rw [← hS] at hps ⊢; clear hS
  have HPS := Lib.hid hps; clear hps
  have hb0 := ((Below.refl w.heap.size w).alloc (by first | (simp; done) | (simp; omega)) (.cells #[.bool sp, .slice op np cp, .slice ap mp dp] 24))
  have hxp := nest1_0 w (.cells #[.bool sp, .slice op np cp, .slice ap mp dp] 24)
  have hpp := hp.below hb0
  obtain ⟨w0, hw0⟩ : ∃ w0, w0 = (w.alloc (.cells #[.bool sp, .slice op np cp, .slice ap mp dp] 24)) := ⟨_, rfl⟩
  rw [← hw0] at hb0 hxp hpp
  have HB0 := Lib.hid hb0; have HW0 := Lib.hid hw0
  have BXp := Lib.hid hxp
  have Fp := Lib.hid hpp
  clear hb0 hw0 hxp hpp hp
  have zzp : np ≤ 12 ∧ mp ≤ 12 := zp; clear zp
  have _lp := lp
  go_enter Tryd.func7, Tryd.ntmps7
  have hs := awake02 w0
  have HS := Lib.hid hs; clear hs
  go_wp2_with fail
  rw [← HW0.out]
  (with_reducible refine HS.out.mono ?_); rintro e w1 ⟨rfl, hb1⟩
  clear HS
  have HB1 := Lib.hid (HB0.out.step hb1)
  have Fp := Lib.hid (Fp.out.below hb1)
  have BXp := Lib.hid (heap_below BXp.out hb1)
  clear hb1
  obtain ⟨ep0, ep1, ep2⟩ := row3 BXp.out
  obtain ⟨w2, hw2⟩ : ∃ w2, w2 = w1.alloc (.cells #[.bool sp, .slice op np cp, .slice ap mp dp] 24) := ⟨_, rfl⟩
  have hb2 : Below w1.heap.size w1 w2 := by rw [hw2]; exact (Below.refl _ _).alloc (Nat.le_refl _) _
  have hxLS := heap_alloc_new w1 (.cells #[.bool sp, .slice op np cp, .slice ap mp dp] 24)
  obtain ⟨gLS, hgLS⟩ : ∃ gLS, gLS = w1.heap.size := ⟨_, rfl⟩
  rw [← hw2, ← hgLS] at hxLS
  have HW2 := Lib.hid hw2; have HGLS := Lib.hid hgLS; clear hw2 hgLS
  have HB2 := Lib.hid (HB1.out.step hb2)
  have Fp := Lib.hid (Fp.out.below hb2)
  have BXp := Lib.hid (heap_below BXp.out hb2)
  clear hb2
  have BXLS := Lib.hid hxLS; clear hxLS
  have hs := rlarge1s BXLS.out zzp
  have HS := Lib.hid hs; clear hs
  go_wp2_with fail
  rw [← HW2.out]
  try rw [← HGLS.out]
  (with_reducible refine HS.out.mono ?_); rintro e w3 ⟨rfl, hb3⟩
  clear HS
  have HB3 := Lib.hid (HB2.out.step hb3)
  have Fp := Lib.hid (Fp.out.below hb3)
  have BXp := Lib.hid (heap_below BXp.out hb3)
  clear hb3
  clear BXLS
  have hs := textq_any _ p w3 Fp.out
  rw [← HTX.out] at hs
  have HS := Lib.hid hs; clear hs
  obtain ⟨ep0, ep1, ep2⟩ := row3 BXp.out
  go_wp2_with fail
  clear ep0 ep1 ep2
  (with_reducible refine HS.out.mono ?_); rintro e w4 ⟨rfl, hb4⟩
  clear HS
  have HB4 := Lib.hid (HB3.out.step hb4)
  have Fp := Lib.hid (Fp.out.below hb4)
  have BXp := Lib.hid (heap_below BXp.out hb4)
  clear hb4
  have hs := HPR.out w4
  have HS := Lib.hid hs; clear hs
  go_wp2_with fail
  (with_reducible refine HS.out.mono ?_); rintro e w5 ⟨v5, rfl, hb5, hn5⟩
  clear HS
  have HB5 := Lib.hid (HB4.out.step hb5)
  have Fp := Lib.hid (Fp.out.below hb5)
  have BXp := Lib.hid (heap_below BXp.out hb5)
  have X := Lib.hid hn5; clear hn5
  clear hb5
  obtain ⟨sX, oX, nX, cX, aX, mX, dX, rfl⟩ := X.out.shape
  obtain ⟨w6, hw6⟩ : ∃ w6, w6 = w5.alloc (.cells #[.bool sX, .slice oX nX cX, .slice aX mX dX] 24) := ⟨_, rfl⟩
  have hb6 : Below w5.heap.size w5 w6 := by rw [hw6]; exact (Below.refl _ _).alloc (Nat.le_refl _) _
  have hxx := heap_alloc_new w5 (.cells #[.bool sX, .slice oX nX cX, .slice aX mX dX] 24)
  obtain ⟨gx, hgx⟩ : ∃ gx, gx = w5.heap.size := ⟨_, rfl⟩
  rw [← hw6, ← hgx] at hxx
  have HW6 := Lib.hid hw6; have HGx := Lib.hid hgx; clear hw6 hgx
  have HB6 := Lib.hid (HB5.out.step hb6)
  have Fp := Lib.hid (Fp.out.below hb6)
  have X := Lib.hid (X.out.below hb6)
  have BXp := Lib.hid (heap_below BXp.out hb6)
  clear hb6
  have BXx := Lib.hid hxx; clear hxx
  have hs := valid_any _ (ng p) (wd (nn p)) (wd (dn p)) w6 X.out (by have := rl_n p; omega) (by have := dn_len p; omega)
  rw [decide_eq_true (vld_self p).1] at hs
  have HS := Lib.hid hs; clear hs
  obtain ⟨ex0, ex1, ex2⟩ := row3 BXx.out
  rw [HW6.out] at ex0
  rw [HGx.out] at ex0
  rw [HW6.out] at ex1
  rw [HGx.out] at ex1
  rw [HW6.out] at ex2
  rw [HGx.out] at ex2
  go_wp2_with fail
  rw [← HW6.out]
  try rw [← HGx.out]
  clear ex0 ex1 ex2
  (with_reducible refine HS.out.mono ?_); rintro e w7 ⟨rfl, hb7⟩
  clear HS
  have HB7 := Lib.hid (HB6.out.step hb7)
  have Fp := Lib.hid (Fp.out.below hb7)
  have X := Lib.hid (X.out.below hb7)
  have BXp := Lib.hid (heap_below BXp.out hb7)
  have BXx := Lib.hid (heap_below BXx.out hb7)
  clear hb7
  have hs := cmpq_any _ p _ p w7 (X.out.is (by omega)) Fp.out (by omega) (by omega)
  rw [r5.out] at hs
  have HS := Lib.hid hs; clear hs
  obtain ⟨ex0, ex1, ex2⟩ := row3 BXx.out
  obtain ⟨ep0, ep1, ep2⟩ := row3 BXp.out
  go_wp2_with fail
  clear ex0 ex1 ex2 ep0 ep1 ep2
  (with_reducible refine HS.out.mono ?_); rintro e w8 ⟨rfl, hb8⟩
  clear HS
  have HB8 := Lib.hid (HB7.out.step hb8)
  have Fp := Lib.hid (Fp.out.below hb8)
  have X := Lib.hid (X.out.below hb8)
  have BXp := Lib.hid (heap_below BXp.out hb8)
  have BXx := Lib.hid (heap_below BXx.out hb8)
  clear hb8
  have hs := HPS.out w8
  have HS := Lib.hid hs; clear hs
  go_wp2_with fail
  (with_reducible refine HS.out.mono ?_); rintro e w9 ⟨v9, rfl, hb9, hn9⟩
  clear HS
  have HB9 := Lib.hid (HB8.out.step hb9)
  have Fp := Lib.hid (Fp.out.below hb9)
  have X := Lib.hid (X.out.below hb9)
  have BXp := Lib.hid (heap_below BXp.out hb9)
  have BXx := Lib.hid (heap_below BXx.out hb9)
  have Y := Lib.hid hn9; clear hn9
  clear hb9
  obtain ⟨sY, oY, nY, cY, aY, mY, dY, rfl⟩ := Y.out.shape
  obtain ⟨w10, hw10⟩ : ∃ w10, w10 = w9.alloc (.cells #[.bool sY, .slice oY nY cY, .slice aY mY dY] 24) := ⟨_, rfl⟩
  have hb10 : Below w9.heap.size w9 w10 := by rw [hw10]; exact (Below.refl _ _).alloc (Nat.le_refl _) _
  have hxy := heap_alloc_new w9 (.cells #[.bool sY, .slice oY nY cY, .slice aY mY dY] 24)
  obtain ⟨gy, hgy⟩ : ∃ gy, gy = w9.heap.size := ⟨_, rfl⟩
  rw [← hw10, ← hgy] at hxy
  have HW10 := Lib.hid hw10; have HGy := Lib.hid hgy; clear hw10 hgy
  have HB10 := Lib.hid (HB9.out.step hb10)
  have Fp := Lib.hid (Fp.out.below hb10)
  have X := Lib.hid (X.out.below hb10)
  have Y := Lib.hid (Y.out.below hb10)
  have BXp := Lib.hid (heap_below BXp.out hb10)
  have BXx := Lib.hid (heap_below BXx.out hb10)
  clear hb10
  have BXy := Lib.hid hxy; clear hxy
  have hs := sign_any _ 0 w10 (Y.out.is (by rw [rl_zero]; decide))
  rw [R0.out] at hs
  have HS := Lib.hid hs; clear hs
  obtain ⟨ey0, ey1, ey2⟩ := row3 BXy.out
  rw [HW10.out] at ey0
  rw [HGy.out] at ey0
  rw [HW10.out] at ey1
  rw [HGy.out] at ey1
  rw [HW10.out] at ey2
  rw [HGy.out] at ey2
  go_wp2_with fail
  rw [← HW10.out]
  try rw [← HGy.out]
  clear ey0 ey1 ey2
  (with_reducible refine HS.out.mono ?_); rintro e w11 ⟨rfl, hb11⟩
  clear HS
  have HB11 := Lib.hid (HB10.out.step hb11)
  have Fp := Lib.hid (Fp.out.below hb11)
  have X := Lib.hid (X.out.below hb11)
  have Y := Lib.hid (Y.out.below hb11)
  have BXp := Lib.hid (heap_below BXp.out hb11)
  have BXx := Lib.hid (heap_below BXx.out hb11)
  have BXy := Lib.hid (heap_below BXy.out hb11)
  clear hb11
  go_wp2_with fail
  go_ret
  exact ⟨by first | rfl | (simp; done), HB11.out⟩
set_option maxRecDepth 100000 in
set_option maxHeartbeats 12800000 in
theorem back_small2 (vp : Value) (p : Rat) (l : List UInt8) (w : World) (hp : RatIs w vp p) (lp : rl p ≤ 12) (zp : (szR vp).1 ≤ 12 ∧ (szR vp).2 ≤ 12) (hl : l.length ≤ 200) (hc : prC l = 0) :
    Calls Tryd.prog 7 #[vp, .string ⟨l.toArray⟩] w (RetV w (.bool true)) := by
  obtain ⟨sp, op, np, cp, ap, mp, dp, rfl⟩ := hp.shape
  have hlp := hp.rl
  obtain ⟨S, hS⟩ : ∃ S : ByteArray, S = ⟨l.toArray⟩ := ⟨_, rfl⟩
  have hsz : S.size = l.length := by rw [hS]; simp [ByteArray.size]
  have f1 : decide ((200 : Int) < (l.length : Int)) = false := decide_eq_false (by omega)
  have hrx := rtx_len lp (by decide)
  have hq := prQ_rtx p (by omega)
  have hpr := fun wx => parseq_any (rtx p) wx (.inl (by omega)) (by omega)
  rw [hq.1, hq.2, errV_zero] at hpr
  have HPR := Lib.hid hpr
  have hps := fun wx => parseq_any l wx (.inl (by omega)) (by omega)
  have hix := run_index_l l
  have hlq := rl_prQ (l := l) (by omega)
  have r5 : Hid (cq p p = 0) := Lib.hid ((cq_eq p p).2 rfl)
  obtain ⟨TX, hTX⟩ : ∃ T : ByteArray, T = ⟨(rtx p).toArray⟩ := ⟨_, rfl⟩
  rw [← hTX] at HPR
  have HTX := Lib.hid hTX; clear hTX hrx hq hpr
  rw [hc, errV_zero] at hps
  have htx := prV_text (prQ_good hc)
  obtain ⟨q, hqe⟩ : ∃ q, q = prQ l := ⟨_, rfl⟩; rw [← hqe] at hps hlq htx; clear hqe hc
  obtain ⟨TQ, hTQ⟩ : ∃ T : ByteArray, T = ⟨(rtx q).toArray⟩ := ⟨_, rfl⟩
  have hTS : rtx q = l → TQ = S := fun h => by rw [hTQ, hS, h]
  have HTQ := Lib.hid hTQ; have HTS := Lib.hid hTS; have HT := Lib.hid htx; clear htx hTQ hTS
  rw [← hS] at hps hix ⊢; clear hS
  have HPS := Lib.hid hps; have HIX := Lib.hid hix; clear hps hix
  have hb0 := ((Below.refl w.heap.size w).alloc (by first | (simp; done) | (simp; omega)) (.cells #[.bool sp, .slice op np cp, .slice ap mp dp] 24))
  have hxp := nest1_0 w (.cells #[.bool sp, .slice op np cp, .slice ap mp dp] 24)
  have hpp := hp.below hb0
  obtain ⟨w0, hw0⟩ : ∃ w0, w0 = (w.alloc (.cells #[.bool sp, .slice op np cp, .slice ap mp dp] 24)) := ⟨_, rfl⟩
  rw [← hw0] at hb0 hxp hpp
  have HB0 := Lib.hid hb0; have HW0 := Lib.hid hw0
  have BXp := Lib.hid hxp
  have Fp := Lib.hid hpp
  clear hb0 hw0 hxp hpp hp
  have zzp : np ≤ 12 ∧ mp ≤ 12 := zp; clear zp
  have _lp := lp
  go_enter Tryd.func7, Tryd.ntmps7
  have hs := awake02 w0
  have HS := Lib.hid hs; clear hs
  go_wp2_with fail
  rw [← HW0.out]
  (with_reducible refine HS.out.mono ?_); rintro e w1 ⟨rfl, hb1⟩
  clear HS
  have HB1 := Lib.hid (HB0.out.step hb1)
  have Fp := Lib.hid (Fp.out.below hb1)
  have BXp := Lib.hid (heap_below BXp.out hb1)
  clear hb1
  obtain ⟨ep0, ep1, ep2⟩ := row3 BXp.out
  obtain ⟨w2, hw2⟩ : ∃ w2, w2 = w1.alloc (.cells #[.bool sp, .slice op np cp, .slice ap mp dp] 24) := ⟨_, rfl⟩
  have hb2 : Below w1.heap.size w1 w2 := by rw [hw2]; exact (Below.refl _ _).alloc (Nat.le_refl _) _
  have hxLS := heap_alloc_new w1 (.cells #[.bool sp, .slice op np cp, .slice ap mp dp] 24)
  obtain ⟨gLS, hgLS⟩ : ∃ gLS, gLS = w1.heap.size := ⟨_, rfl⟩
  rw [← hw2, ← hgLS] at hxLS
  have HW2 := Lib.hid hw2; have HGLS := Lib.hid hgLS; clear hw2 hgLS
  have HB2 := Lib.hid (HB1.out.step hb2)
  have Fp := Lib.hid (Fp.out.below hb2)
  have BXp := Lib.hid (heap_below BXp.out hb2)
  clear hb2
  have BXLS := Lib.hid hxLS; clear hxLS
  have hs := rlarge1s BXLS.out zzp
  have HS := Lib.hid hs; clear hs
  go_wp2_with fail
  rw [← HW2.out]
  try rw [← HGLS.out]
  (with_reducible refine HS.out.mono ?_); rintro e w3 ⟨rfl, hb3⟩
  clear HS
  have HB3 := Lib.hid (HB2.out.step hb3)
  have Fp := Lib.hid (Fp.out.below hb3)
  have BXp := Lib.hid (heap_below BXp.out hb3)
  clear hb3
  clear BXLS
  have hs := textq_any _ p w3 Fp.out
  rw [← HTX.out] at hs
  have HS := Lib.hid hs; clear hs
  obtain ⟨ep0, ep1, ep2⟩ := row3 BXp.out
  go_wp2_with fail
  clear ep0 ep1 ep2
  (with_reducible refine HS.out.mono ?_); rintro e w4 ⟨rfl, hb4⟩
  clear HS
  have HB4 := Lib.hid (HB3.out.step hb4)
  have Fp := Lib.hid (Fp.out.below hb4)
  have BXp := Lib.hid (heap_below BXp.out hb4)
  clear hb4
  have hs := HPR.out w4
  have HS := Lib.hid hs; clear hs
  go_wp2_with fail
  (with_reducible refine HS.out.mono ?_); rintro e w5 ⟨v5, rfl, hb5, hn5⟩
  clear HS
  have HB5 := Lib.hid (HB4.out.step hb5)
  have Fp := Lib.hid (Fp.out.below hb5)
  have BXp := Lib.hid (heap_below BXp.out hb5)
  have X := Lib.hid hn5; clear hn5
  clear hb5
  obtain ⟨sX, oX, nX, cX, aX, mX, dX, rfl⟩ := X.out.shape
  obtain ⟨w6, hw6⟩ : ∃ w6, w6 = w5.alloc (.cells #[.bool sX, .slice oX nX cX, .slice aX mX dX] 24) := ⟨_, rfl⟩
  have hb6 : Below w5.heap.size w5 w6 := by rw [hw6]; exact (Below.refl _ _).alloc (Nat.le_refl _) _
  have hxx := heap_alloc_new w5 (.cells #[.bool sX, .slice oX nX cX, .slice aX mX dX] 24)
  obtain ⟨gx, hgx⟩ : ∃ gx, gx = w5.heap.size := ⟨_, rfl⟩
  rw [← hw6, ← hgx] at hxx
  have HW6 := Lib.hid hw6; have HGx := Lib.hid hgx; clear hw6 hgx
  have HB6 := Lib.hid (HB5.out.step hb6)
  have Fp := Lib.hid (Fp.out.below hb6)
  have X := Lib.hid (X.out.below hb6)
  have BXp := Lib.hid (heap_below BXp.out hb6)
  clear hb6
  have BXx := Lib.hid hxx; clear hxx
  have hs := valid_any _ (ng p) (wd (nn p)) (wd (dn p)) w6 X.out (by have := rl_n p; omega) (by have := dn_len p; omega)
  rw [decide_eq_true (vld_self p).1] at hs
  have HS := Lib.hid hs; clear hs
  obtain ⟨ex0, ex1, ex2⟩ := row3 BXx.out
  rw [HW6.out] at ex0
  rw [HGx.out] at ex0
  rw [HW6.out] at ex1
  rw [HGx.out] at ex1
  rw [HW6.out] at ex2
  rw [HGx.out] at ex2
  go_wp2_with fail
  rw [← HW6.out]
  try rw [← HGx.out]
  clear ex0 ex1 ex2
  (with_reducible refine HS.out.mono ?_); rintro e w7 ⟨rfl, hb7⟩
  clear HS
  have HB7 := Lib.hid (HB6.out.step hb7)
  have Fp := Lib.hid (Fp.out.below hb7)
  have X := Lib.hid (X.out.below hb7)
  have BXp := Lib.hid (heap_below BXp.out hb7)
  have BXx := Lib.hid (heap_below BXx.out hb7)
  clear hb7
  have hs := cmpq_any _ p _ p w7 (X.out.is (by omega)) Fp.out (by omega) (by omega)
  rw [r5.out] at hs
  have HS := Lib.hid hs; clear hs
  obtain ⟨ex0, ex1, ex2⟩ := row3 BXx.out
  obtain ⟨ep0, ep1, ep2⟩ := row3 BXp.out
  go_wp2_with fail
  clear ex0 ex1 ex2 ep0 ep1 ep2
  (with_reducible refine HS.out.mono ?_); rintro e w8 ⟨rfl, hb8⟩
  clear HS
  have HB8 := Lib.hid (HB7.out.step hb8)
  have Fp := Lib.hid (Fp.out.below hb8)
  have X := Lib.hid (X.out.below hb8)
  have BXp := Lib.hid (heap_below BXp.out hb8)
  have BXx := Lib.hid (heap_below BXx.out hb8)
  clear hb8
  have hs := HPS.out w8
  have HS := Lib.hid hs; clear hs
  go_wp2_with fail
  (with_reducible refine HS.out.mono ?_); rintro e w9 ⟨v9, rfl, hb9, hn9⟩
  clear HS
  have HB9 := Lib.hid (HB8.out.step hb9)
  have Fp := Lib.hid (Fp.out.below hb9)
  have X := Lib.hid (X.out.below hb9)
  have BXp := Lib.hid (heap_below BXp.out hb9)
  have BXx := Lib.hid (heap_below BXx.out hb9)
  have Y := Lib.hid hn9; clear hn9
  clear hb9
  obtain ⟨sY, oY, nY, cY, aY, mY, dY, rfl⟩ := Y.out.shape
  obtain ⟨w10, hw10⟩ : ∃ w10, w10 = w9.alloc (.cells #[.bool sY, .slice oY nY cY, .slice aY mY dY] 24) := ⟨_, rfl⟩
  have hb10 : Below w9.heap.size w9 w10 := by rw [hw10]; exact (Below.refl _ _).alloc (Nat.le_refl _) _
  have hxy := heap_alloc_new w9 (.cells #[.bool sY, .slice oY nY cY, .slice aY mY dY] 24)
  obtain ⟨gy, hgy⟩ : ∃ gy, gy = w9.heap.size := ⟨_, rfl⟩
  rw [← hw10, ← hgy] at hxy
  have HW10 := Lib.hid hw10; have HGy := Lib.hid hgy; clear hw10 hgy
  have HB10 := Lib.hid (HB9.out.step hb10)
  have Fp := Lib.hid (Fp.out.below hb10)
  have X := Lib.hid (X.out.below hb10)
  have Y := Lib.hid (Y.out.below hb10)
  have BXp := Lib.hid (heap_below BXp.out hb10)
  have BXx := Lib.hid (heap_below BXx.out hb10)
  clear hb10
  have BXy := Lib.hid hxy; clear hxy
  go_wp2_with fail
  rw [← HW10.out]
  try rw [← HGy.out]
  clear f1
  go_loop [9, 55] (fun pv iv => ∃ k : Nat, k ≤ l.length ∧ iv = .int .i64 k ∧ pv = .bool (hasP l k)) (fun _ iv => l.length - (intOf iv).toNat)
  case atStart => exact ⟨0, Nat.zero_le _, rfl, rfl⟩
  case round =>
    obtain ⟨k, hk, rfl, rfl⟩ := hrel
    by_cases hkn : k < l.length
    · have hf1 : decide ((k : Int) < (l.length : Int)) = true := decide_eq_true (by omega)
      have hix := HIX.out k hkn
      have hn : hasP l (k + 1) = (hasP l k || l[k] == UInt8.ofNat 46) := hasP_succ hkn
      rw [← byte_is (b := l[k]) (n := 46) (by decide)] at hn
      obtain ⟨x, hx⟩ : ∃ x, x = (l[k]).toNat := ⟨_, rfl⟩
      have hx256 : x < 256 := by rw [hx]; exact (l[k]).toNat_lt
      rw [← hx] at hix hn
      rw [show ((46 : Nat) : Int) = 46 from rfl] at hn
      obtain ⟨b, hb⟩ : ∃ b, b = hasP l k := ⟨_, rfl⟩
      rw [← hb] at hn ⊢
      have HN := Lib.hid hn; clear hn hb hx
      cases b
      all_goals
        go_wp2_with fail
        go_round
        case rel => exact ⟨k + 1, by omega, by go_num, by rw [HN.out]; simp⟩
        case measure => simp [intOf]; omega
    · obtain rfl : k = l.length := by omega
      have hf1 : decide ((l.length : Int) < (l.length : Int)) = false := decide_eq_false (by omega)
      cases hh : hasP l l.length
      · have hts : TQ = S := HTS.out (HT.out.resolve_left (hasP_end hh))
        have hbq : (S.toList == S.toList) = true := by simp
        have HTS2 := Lib.hid hts; clear hh hts
        have hs := textq_any _ q w10 (Y.out.is (by omega))
        rw [← HTQ.out, HTS2.out] at hs
        have HS := Lib.hid hs; clear hs
        obtain ⟨ey0, ey1, ey2⟩ := row3 BXy.out
        go_wp2_with fail
        clear ey0 ey1 ey2
        (with_reducible refine HS.out.mono ?_); rintro e w11 ⟨rfl, hb11⟩
        clear HS
        have HB11 := Lib.hid (HB10.out.step hb11)
        have Fp := Lib.hid (Fp.out.below hb11)
        have X := Lib.hid (X.out.below hb11)
        have Y := Lib.hid (Y.out.below hb11)
        have BXp := Lib.hid (heap_below BXp.out hb11)
        have BXx := Lib.hid (heap_below BXx.out hb11)
        have BXy := Lib.hid (heap_below BXy.out hb11)
        clear hb11
        go_wp2_with fail
        go_ret
        exact ⟨by first | rfl | (simp; done), HB11.out⟩
      · clear hh
        go_wp2_with fail
        go_ret
        exact ⟨by first | rfl | (simp; done), HB10.out⟩
theorem back_small (vp : Value) (p : Rat) (l : List UInt8) (w : World) (hp : RatIs w vp p) (lp : rl p ≤ 12) (zp : (szR vp).1 ≤ 12 ∧ (szR vp).2 ≤ 12) (hm : l.length ≤ 9223372036854775807) :
    Calls Tryd.prog 7 #[vp, .string ⟨l.toArray⟩] w (RetV w (.bool true)) := by
  by_cases h : 200 < l.length
  · exact back_small0 vp p l w hp lp zp h hm
  · by_cases hc : prC l = 0
    · exact back_small2 vp p l w hp lp zp (by omega) hc
    · exact back_small1 vp p l w hp lp zp (by omega) hc
set_option maxRecDepth 100000 in
set_option maxHeartbeats 3200000 in
theorem back_big (vp : Value) (np mp : Nat) (l : List UInt8) (w : World) (hp : RatSz vp np mp) (hb : 12 < np ∨ 12 < mp) :
    Calls Tryd.prog 7 #[vp, .string ⟨l.toArray⟩] w (RetV w (.bool true)) := by
  obtain ⟨sp, op, cp, ap, dp, rfl, zp⟩ := hp
  have HBIG := Lib.hid hb; clear hb
  have hb0 := ((Below.refl w.heap.size w).alloc (by first | (simp; done) | (simp; omega)) (.cells #[.bool sp, .slice op np cp, .slice ap mp dp] 24))
  have hxp := nest1_0 w (.cells #[.bool sp, .slice op np cp, .slice ap mp dp] 24)
  obtain ⟨w0, hw0⟩ : ∃ w0, w0 = (w.alloc (.cells #[.bool sp, .slice op np cp, .slice ap mp dp] 24)) := ⟨_, rfl⟩
  rw [← hw0] at hb0 hxp
  have HB0 := Lib.hid hb0; have HW0 := Lib.hid hw0
  have BXp := Lib.hid hxp
  clear hb0 hw0 hxp
  go_enter Tryd.func7, Tryd.ntmps7
  have hs := awake02 w0
  have HS := Lib.hid hs; clear hs
  go_wp2_with fail
  rw [← HW0.out]
  (with_reducible refine HS.out.mono ?_); rintro e w1 ⟨rfl, hb1⟩
  clear HS
  have HB1 := Lib.hid (HB0.out.step hb1)
  have BXp := Lib.hid (heap_below BXp.out hb1)
  clear hb1
  obtain ⟨ep0, ep1, ep2⟩ := row3 BXp.out
  obtain ⟨w2, hw2⟩ : ∃ w2, w2 = w1.alloc (.cells #[.bool sp, .slice op np cp, .slice ap mp dp] 24) := ⟨_, rfl⟩
  have hb2 : Below w1.heap.size w1 w2 := by rw [hw2]; exact (Below.refl _ _).alloc (Nat.le_refl _) _
  have hxLS := heap_alloc_new w1 (.cells #[.bool sp, .slice op np cp, .slice ap mp dp] 24)
  obtain ⟨gLS, hgLS⟩ : ∃ gLS, gLS = w1.heap.size := ⟨_, rfl⟩
  rw [← hw2, ← hgLS] at hxLS
  have HW2 := Lib.hid hw2; have HGLS := Lib.hid hgLS; clear hw2 hgLS
  have HB2 := Lib.hid (HB1.out.step hb2)
  have BXp := Lib.hid (heap_below BXp.out hb2)
  clear hb2
  have BXLS := Lib.hid hxLS; clear hxLS
  have hs := rlarge1b BXLS.out zp HBIG.out
  have HS := Lib.hid hs; clear hs
  go_wp2_with fail
  rw [← HW2.out]
  try rw [← HGLS.out]
  (with_reducible refine HS.out.mono ?_); rintro e w3 ⟨rfl, hb3⟩
  clear HS
  have HB3 := Lib.hid (HB2.out.step hb3)
  have BXp := Lib.hid (heap_below BXp.out hb3)
  clear hb3
  clear BXLS
  have hs := awake02 w3
  have HS := Lib.hid hs; clear hs
  go_wp2_with fail
  (with_reducible refine HS.out.mono ?_); rintro e w4 ⟨rfl, hb4⟩
  clear HS
  have HB4 := Lib.hid (HB3.out.step hb4)
  have BXp := Lib.hid (heap_below BXp.out hb4)
  clear hb4
  go_wp2_with fail
  go_ret
  exact ⟨rfl, HB4.out⟩
theorem back02_walkl (vp : Value) (sp : Bool) (ap bp : List Nat) (l : List UInt8) (w : World) (hp : RatV w vp sp ap bp) (hm : l.length ≤ 9223372036854775807) :
    Calls Tryd.prog 7 #[vp, .string ⟨l.toArray⟩] w (RetV w (.bool true)) := by
  obtain ⟨yp, ep⟩ := hp.sz
  by_cases hb : 12 < ap.length ∨ 12 < bp.length
  · exact back_big vp ap.length bp.length l w yp hb
  · obtain ⟨up, tp⟩ := hp.lt
    exact back_small vp (rq sp ap bp) l w (hp.is (by omega) (by omega)) (rl_rq up tp (by omega) (by omega) (by decide)) (by rw [ep]; exact ⟨by show ap.length ≤ 12; omega, by show bp.length ≤ 12; omega⟩) hm
theorem back02_walk (vp : Value) (sp : Bool) (ap bp : List Nat) (t : ByteArray) (w : World) (hp : RatV w vp sp ap bp) (hm : t.size ≤ 9223372036854775807) :
    Calls Tryd.prog 7 #[vp, .string t] w (RetV w (.bool true)) := by
  obtain ⟨⟨l⟩⟩ := t
  exact back02_walkl vp sp ap bp l w hp hm
end Go.Proofs.YtabdndlaelfdeaaDoor
