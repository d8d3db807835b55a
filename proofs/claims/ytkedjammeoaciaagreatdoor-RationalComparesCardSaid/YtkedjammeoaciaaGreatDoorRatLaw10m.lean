/-
  RationalCompares: the walk of the statement.
  Conditions: each theorem's own.
-/
import Derived.Test.YtkedjammeoaciaaGreatDoorM7
namespace Go.Proofs.YtkedjammeoaciaaGreatDoor
open Go.RowKit Go.ChangeShapes Go.WideShapes

set_option maxRecDepth 100000 in
set_option maxHeartbeats 12800000 in
theorem compares_small (vp : Value) (p : Rat) (vu : Value) (u : Rat) (w : World) (hp : RatIs w vp p) (hu : RatIs w vu u) (lp : rl p ≤ 12) (zp : (szR vp).1 ≤ 12 ∧ (szR vp).2 ≤ 12) (lu : rl u ≤ 12) (zu : (szR vu).1 ≤ 12 ∧ (szR vu).2 ≤ 12) {sr : Bool} {ar br : List Nat} (hr : RatV w vp sr ar br) (hla : ar.length ≤ 40000) (hlb : br.length ≤ 40000) :
    Calls Tryz.prog 4 #[vp, vu] w (RetV w (.bool true)) := by
  obtain ⟨sp, op, np, cp, ap, mp, dp, rfl⟩ := hp.shape
  have hlp := hp.rl
  obtain ⟨su, ou, nu, cu, au, mu, du, rfl⟩ := hu.shape
  have hlu := hu.rl
  obtain ⟨s, hs⟩ : ∃ s, s = sg p := ⟨_, rfl⟩; obtain ⟨c, hc⟩ : ∃ c, c = cq p u := ⟨_, rfl⟩; obtain ⟨b, hbb⟩ : ∃ b, b = prB sr ar br := ⟨_, rfl⟩
  have kmn : rl (mn p u) ≤ 12 := by unfold mn; split <;> assumption
  have kmx : rl (mx p u) ≤ 12 := by unfold mx; split <;> assumption
  obtain ⟨M, hM⟩ : ∃ M, M = mn p u := ⟨_, rfl⟩; obtain ⟨X, hX⟩ : ∃ X, X = mx p u := ⟨_, rfl⟩
  rw [← hM] at kmn; rw [← hX] at kmx
  have g1 : (s == s) = true := by simp
  have g2 : (c == c) = true := by simp
  have g3 : (b == b) = true := by simp
  have HS := Lib.hid hs; have HC := Lib.hid hc; have HP := Lib.hid hbb; have HM := Lib.hid hM; have HX := Lib.hid hX
  clear hs hc hbb hM hX
  have hb0 := (((Below.refl w.heap.size w).alloc (by first | (simp; done) | (simp; omega)) (.cells #[.bool sp, .slice op np cp, .slice ap mp dp] 24)).alloc (by first | (simp; done) | (simp; omega)) (.cells #[.bool su, .slice ou nu cu, .slice au mu du] 24))
  have hxp := nest2_0 w (.cells #[.bool sp, .slice op np cp, .slice ap mp dp] 24) (.cells #[.bool su, .slice ou nu cu, .slice au mu du] 24)
  have hxu := nest2_1 w (.cells #[.bool sp, .slice op np cp, .slice ap mp dp] 24) (.cells #[.bool su, .slice ou nu cu, .slice au mu du] 24)
  have hpp := hp.below hb0
  have hpu := hu.below hb0
  have hpraw := hr.below hb0
  obtain ⟨w0, hw0⟩ : ∃ w0, w0 = ((w.alloc (.cells #[.bool sp, .slice op np cp, .slice ap mp dp] 24)).alloc (.cells #[.bool su, .slice ou nu cu, .slice au mu du] 24)) := ⟨_, rfl⟩
  rw [← hw0] at hb0 hxp hxu hpp hpu hpraw
  have HB0 := Lib.hid hb0; have HW0 := Lib.hid hw0
  have BXp := Lib.hid hxp
  have BXu := Lib.hid hxu
  have Fp := Lib.hid hpp
  have Fu := Lib.hid hpu
  have Fraw := Lib.hid hpraw; clear hpraw hr
  clear hb0 hw0 hxp hxu hpp hp hpu hu
  have zzp : np ≤ 12 ∧ mp ≤ 12 := zp; clear zp
  have _lp := lp
  have zzu : nu ≤ 12 ∧ mu ≤ 12 := zu; clear zu
  have _lu := lu
  go_enter Tryz.func4, Tryz.ntmps4
  have hs := awake02 w0
  have HS := Lib.hid hs; clear hs
  go_wp2_with fail
  rw [← HW0.out]
  (with_reducible refine HS.out.mono ?_); rintro e w1 ⟨rfl, hb1⟩
  clear HS
  have HB1 := Lib.hid (HB0.out.step hb1)
  have Fp := Lib.hid (Fp.out.below hb1)
  have Fu := Lib.hid (Fu.out.below hb1)
  have Fraw := Lib.hid (Fraw.out.below hb1)
  have BXp := Lib.hid (heap_below BXp.out hb1)
  have BXu := Lib.hid (heap_below BXu.out hb1)
  clear hb1
  obtain ⟨ep0, ep1, ep2⟩ := row3 BXp.out
  obtain ⟨eu0, eu1, eu2⟩ := row3 BXu.out
  obtain ⟨w2, hw2⟩ : ∃ w2, w2 = w1.alloc (.cells #[.bool sp, .slice op np cp, .slice ap mp dp, .bool su, .slice ou nu cu, .slice au mu du] 24) := ⟨_, rfl⟩
  have hb2 : Below w1.heap.size w1 w2 := by rw [hw2]; exact (Below.refl _ _).alloc (Nat.le_refl _) _
  have hxLS := heap_alloc_new w1 (.cells #[.bool sp, .slice op np cp, .slice ap mp dp, .bool su, .slice ou nu cu, .slice au mu du] 24)
  obtain ⟨gLS, hgLS⟩ : ∃ gLS, gLS = w1.heap.size := ⟨_, rfl⟩
  rw [← hw2, ← hgLS] at hxLS
  have HW2 := Lib.hid hw2; have HGLS := Lib.hid hgLS; clear hw2 hgLS
  have HB2 := Lib.hid (HB1.out.step hb2)
  have Fp := Lib.hid (Fp.out.below hb2)
  have Fu := Lib.hid (Fu.out.below hb2)
  have Fraw := Lib.hid (Fraw.out.below hb2)
  have BXp := Lib.hid (heap_below BXp.out hb2)
  have BXu := Lib.hid (heap_below BXu.out hb2)
  clear hb2
  have BXLS := Lib.hid hxLS; clear hxLS
  have hs := rlarge2s BXLS.out zzp zzu
  have HS := Lib.hid hs; clear hs
  go_wp2_with fail
  rw [← HW2.out]
  try rw [← HGLS.out]
  (with_reducible refine HS.out.mono ?_); rintro e w3 ⟨rfl, hb3⟩
  clear HS
  have HB3 := Lib.hid (HB2.out.step hb3)
  have Fp := Lib.hid (Fp.out.below hb3)
  have Fu := Lib.hid (Fu.out.below hb3)
  have Fraw := Lib.hid (Fraw.out.below hb3)
  have BXp := Lib.hid (heap_below BXp.out hb3)
  have BXu := Lib.hid (heap_below BXu.out hb3)
  clear hb3
  clear BXLS
  have HBC := Lib.hid ((Below.refl w3.heap.size w3).drew)
  have hc := fun w1 (h1 : Below w3.heap.size w3 w1) => sign_any _ p w1 (Fp.out.below h1)
  rw [← HS.out] at hc
  have C1 := Lib.hid hc; clear hc
  have hc := fun w1 (h1 : Below w3.heap.size w3 w1) => rsign_any _ p w1 (Fp.out.below h1)
  rw [← HS.out] at hc
  have C2 := Lib.hid hc; clear hc
  have hc := fun w1 (h1 : Below w3.heap.size w3 w1) => cmpq_any _ p _ u w1 (Fp.out.below h1) (Fu.out.below h1) (by omega) (by omega)
  rw [← HC.out] at hc
  have C3 := Lib.hid hc; clear hc
  have hc := fun w1 (h1 : Below w3.heap.size w3 w1) => rcmpq_any _ p _ u w1 (Fp.out.below h1) (Fu.out.below h1) (by omega) (by omega)
  rw [← HC.out] at hc
  have C4 := Lib.hid hc; clear hc
  have hc := fun w1 (h1 : Below w3.heap.size w3 w1) => minq_any _ p _ u w1 (Fp.out.below h1) (Fu.out.below h1) (by omega) (by omega)
  rw [← HM.out] at hc
  have C5 := Lib.hid hc; clear hc
  have hc := fun w1 (h1 : Below w3.heap.size w3 w1) => rminq_any _ p _ u w1 (Fp.out.below h1) (Fu.out.below h1) (by omega) (by omega)
  rw [← HM.out] at hc
  have C6 := Lib.hid hc; clear hc
  have hc := fun va vb w1 (ha : IsR w1 va M) (hb : IsR w1 vb M) => rat_any va M vb M w1 ha hb (by omega) (by omega)
  rw [show decide (M = M) = true from decide_eq_true rfl] at hc
  have C7 := Lib.hid hc; clear hc
  have hc := fun w1 (h1 : Below w3.heap.size w3 w1) => maxq_any _ p _ u w1 (Fp.out.below h1) (Fu.out.below h1) (by omega) (by omega)
  rw [← HX.out] at hc
  have C8 := Lib.hid hc; clear hc
  have hc := fun w1 (h1 : Below w3.heap.size w3 w1) => rmaxq_any _ p _ u w1 (Fp.out.below h1) (Fu.out.below h1) (by omega) (by omega)
  rw [← HX.out] at hc
  have C9 := Lib.hid hc; clear hc
  have hc := fun va vb w1 (ha : IsR w1 va X) (hb : IsR w1 vb X) => rat_any va X vb X w1 ha hb (by omega) (by omega)
  rw [show decide (X = X) = true from decide_eq_true rfl] at hc
  have C10 := Lib.hid hc; clear hc
  have hc := fun w1 (h1 : Below w3.heap.size w3 w1) => prob_any _ sr ar br w1 (Fraw.out.below h1) hla hlb
  rw [← HP.out] at hc
  have C11 := Lib.hid hc; clear hc
  have hc := fun w1 (h1 : Below w3.heap.size w3 w1) => rprob_any _ sr ar br w1 (Fraw.out.below h1) hla hlb
  rw [← HP.out] at hc
  have C12 := Lib.hid hc; clear hc
  have Zp := Lib.hid (fun w1 (h1 : Below w3.heap.size w3 w1) => row3 (heap_below BXp.out h1))
  have Zu := Lib.hid (fun w1 (h1 : Below w3.heap.size w3 w1) => row3 (heap_below BXu.out h1))
  go_wp2_with fail
  obtain ⟨zp0, zp1, zp2⟩ := Zp.out _ HBC.out
  obtain ⟨zu0, zu1, zu2⟩ := Zu.out _ HBC.out
  go_region_held3 (fun wx => wx.cell? ⟨w.heap.size, 0, none⟩ = some (.bool sp) ∧ wx.cell? ⟨w.heap.size, 1, none⟩ = some (.slice op np cp) ∧ wx.cell? ⟨w.heap.size, 2, none⟩ = some (.slice ap mp dp) ∧ wx.cell? ⟨w.heap.size + 1, 0, none⟩ = some (.bool su) ∧ wx.cell? ⟨w.heap.size + 1, 1, none⟩ = some (.slice ou nu cu) ∧ wx.cell? ⟨w.heap.size + 1, 2, none⟩ = some (.slice au mu du)) (first | exact ⟨zp0, zp1, zp2, zu0, zu1, zu2⟩ | exact put6 (by omega) (by omega) ⟨zp0, zp1, zp2, zu0, zu1, zu2⟩ | exact al3 ⟨zp0, zp1, zp2, zu0, zu1, zu2⟩ | exact put3c (by omega) (al3 ⟨zp0, zp1, zp2, zu0, zu1, zu2⟩)) (first
    | (go_at_call 19; (with_reducible refine (C1.out _ HBC.out).mono ?_); rintro e wr0 ⟨rfl, hb⟩; (have HBC := Lib.hid (HBC.out.step hb)); (try have F1 := Lib.hid (F1.out.below hb)); (try have F2 := Lib.hid (F2.out.below hb)); (try have F3 := Lib.hid (F3.out.below hb)); (try have F4 := Lib.hid (F4.out.below hb)); clear hb; (obtain ⟨zp0, zp1, zp2⟩ := Zp.out _ HBC.out); (obtain ⟨zu0, zu1, zu2⟩ := Zu.out _ HBC.out))
    | (go_at_call 20; (with_reducible refine (C2.out _ HBC.out).mono ?_); rintro e wr1 ⟨rfl, hb⟩; (have HBC := Lib.hid (HBC.out.step hb)); (try have F1 := Lib.hid (F1.out.below hb)); (try have F2 := Lib.hid (F2.out.below hb)); (try have F3 := Lib.hid (F3.out.below hb)); (try have F4 := Lib.hid (F4.out.below hb)); clear hb; (obtain ⟨zp0, zp1, zp2⟩ := Zp.out _ HBC.out); (obtain ⟨zu0, zu1, zu2⟩ := Zu.out _ HBC.out))
    | (go_at_call 21; (with_reducible refine (C3.out _ HBC.out).mono ?_); rintro e wr2 ⟨rfl, hb⟩; (have HBC := Lib.hid (HBC.out.step hb)); (try have F1 := Lib.hid (F1.out.below hb)); (try have F2 := Lib.hid (F2.out.below hb)); (try have F3 := Lib.hid (F3.out.below hb)); (try have F4 := Lib.hid (F4.out.below hb)); clear hb; (obtain ⟨zp0, zp1, zp2⟩ := Zp.out _ HBC.out); (obtain ⟨zu0, zu1, zu2⟩ := Zu.out _ HBC.out))
    | (go_at_call 22; (with_reducible refine (C4.out _ HBC.out).mono ?_); rintro e wr3 ⟨rfl, hb⟩; (have HBC := Lib.hid (HBC.out.step hb)); (try have F1 := Lib.hid (F1.out.below hb)); (try have F2 := Lib.hid (F2.out.below hb)); (try have F3 := Lib.hid (F3.out.below hb)); (try have F4 := Lib.hid (F4.out.below hb)); clear hb; (obtain ⟨zp0, zp1, zp2⟩ := Zp.out _ HBC.out); (obtain ⟨zu0, zu1, zu2⟩ := Zu.out _ HBC.out))
    | (go_at_call 23; (with_reducible refine (C5.out _ HBC.out).mono ?_); rintro e wr4 ⟨v4r, rfl, hb, hn⟩; (have HBC := Lib.hid (HBC.out.step hb)); (try have F1 := Lib.hid (F1.out.below hb)); (try have F2 := Lib.hid (F2.out.below hb)); (try have F3 := Lib.hid (F3.out.below hb)); (try have F4 := Lib.hid (F4.out.below hb)); (have F1 := Lib.hid hn); clear hn; clear hb; (obtain ⟨zp0, zp1, zp2⟩ := Zp.out _ HBC.out); (obtain ⟨zu0, zu1, zu2⟩ := Zu.out _ HBC.out))
    | (go_at_call 24; (with_reducible refine (C6.out _ HBC.out).mono ?_); rintro e wr5 ⟨v5r, rfl, hb, hn⟩; (have HBC := Lib.hid (HBC.out.step hb)); (try have F1 := Lib.hid (F1.out.below hb)); (try have F2 := Lib.hid (F2.out.below hb)); (try have F3 := Lib.hid (F3.out.below hb)); (try have F4 := Lib.hid (F4.out.below hb)); (have F2 := Lib.hid hn); clear hn; clear hb; (obtain ⟨zp0, zp1, zp2⟩ := Zp.out _ HBC.out); (obtain ⟨zu0, zu1, zu2⟩ := Zu.out _ HBC.out))
    | (go_at_call 15; (with_reducible refine (C7.out _ _ _ F1.out F2.out).mono ?_); rintro e wr6 ⟨rfl, hb⟩; (have HBC := Lib.hid (HBC.out.step hb)); (try have F1 := Lib.hid (F1.out.below hb)); (try have F2 := Lib.hid (F2.out.below hb)); (try have F3 := Lib.hid (F3.out.below hb)); (try have F4 := Lib.hid (F4.out.below hb)); clear hb; (obtain ⟨zp0, zp1, zp2⟩ := Zp.out _ HBC.out); (obtain ⟨zu0, zu1, zu2⟩ := Zu.out _ HBC.out))
    | (go_at_call 25; (with_reducible refine (C8.out _ HBC.out).mono ?_); rintro e wr7 ⟨v7r, rfl, hb, hn⟩; (have HBC := Lib.hid (HBC.out.step hb)); (try have F1 := Lib.hid (F1.out.below hb)); (try have F2 := Lib.hid (F2.out.below hb)); (try have F3 := Lib.hid (F3.out.below hb)); (try have F4 := Lib.hid (F4.out.below hb)); (have F3 := Lib.hid hn); clear hn; clear hb; (obtain ⟨zp0, zp1, zp2⟩ := Zp.out _ HBC.out); (obtain ⟨zu0, zu1, zu2⟩ := Zu.out _ HBC.out))
    | (go_at_call 26; (with_reducible refine (C9.out _ HBC.out).mono ?_); rintro e wr8 ⟨v8r, rfl, hb, hn⟩; (have HBC := Lib.hid (HBC.out.step hb)); (try have F1 := Lib.hid (F1.out.below hb)); (try have F2 := Lib.hid (F2.out.below hb)); (try have F3 := Lib.hid (F3.out.below hb)); (try have F4 := Lib.hid (F4.out.below hb)); (have F4 := Lib.hid hn); clear hn; clear hb; (obtain ⟨zp0, zp1, zp2⟩ := Zp.out _ HBC.out); (obtain ⟨zu0, zu1, zu2⟩ := Zu.out _ HBC.out))
    | (go_at_call 15; (with_reducible refine (C10.out _ _ _ F3.out F4.out).mono ?_); rintro e wr9 ⟨rfl, hb⟩; (have HBC := Lib.hid (HBC.out.step hb)); (try have F1 := Lib.hid (F1.out.below hb)); (try have F2 := Lib.hid (F2.out.below hb)); (try have F3 := Lib.hid (F3.out.below hb)); (try have F4 := Lib.hid (F4.out.below hb)); clear hb; (obtain ⟨zp0, zp1, zp2⟩ := Zp.out _ HBC.out); (obtain ⟨zu0, zu1, zu2⟩ := Zu.out _ HBC.out))
    | (go_at_call 27; (with_reducible refine (C11.out _ HBC.out).mono ?_); rintro e wr10 ⟨rfl, hb⟩; (have HBC := Lib.hid (HBC.out.step hb)); (try have F1 := Lib.hid (F1.out.below hb)); (try have F2 := Lib.hid (F2.out.below hb)); (try have F3 := Lib.hid (F3.out.below hb)); (try have F4 := Lib.hid (F4.out.below hb)); clear hb; (obtain ⟨zp0, zp1, zp2⟩ := Zp.out _ HBC.out); (obtain ⟨zu0, zu1, zu2⟩ := Zu.out _ HBC.out))
    | (go_at_call 28; (with_reducible refine (C12.out _ HBC.out).mono ?_); rintro e wr11 ⟨rfl, hb⟩; (have HBC := Lib.hid (HBC.out.step hb)); (try have F1 := Lib.hid (F1.out.below hb)); (try have F2 := Lib.hid (F2.out.below hb)); (try have F3 := Lib.hid (F3.out.below hb)); (try have F4 := Lib.hid (F4.out.below hb)); clear hb; (obtain ⟨zp0, zp1, zp2⟩ := Zp.out _ HBC.out); (obtain ⟨zu0, zu1, zu2⟩ := Zu.out _ HBC.out)))
  have Fp := Lib.hid (Fp.out.below HBC.out)
  have Fu := Lib.hid (Fu.out.below HBC.out)
  have Fraw := Lib.hid (Fraw.out.below HBC.out)
  have BXp := Lib.hid (heap_below BXp.out HBC.out)
  have BXu := Lib.hid (heap_below BXu.out HBC.out)
  have HB4 := Lib.hid (HB3.out.step HBC.out)
  go_wp2_with fail
  go_ret
  exact ⟨by first | rfl | (simp; done), HB4.out⟩
set_option maxRecDepth 100000 in
set_option maxHeartbeats 3200000 in
theorem compares_big (vp : Value) (np mp : Nat) (vu : Value) (nu mu : Nat) (w : World) (hp : RatSz vp np mp) (hu : RatSz vu nu mu) (hb : 12 < np ∨ 12 < mp ∨ 12 < nu ∨ 12 < mu) :
    Calls Tryz.prog 4 #[vp, vu] w (RetV w (.bool true)) := by
  obtain ⟨sp, op, cp, ap, dp, rfl, zp⟩ := hp
  obtain ⟨su, ou, cu, au, du, rfl, zu⟩ := hu
  have HBIG := Lib.hid hb; clear hb
  have hb0 := (((Below.refl w.heap.size w).alloc (by first | (simp; done) | (simp; omega)) (.cells #[.bool sp, .slice op np cp, .slice ap mp dp] 24)).alloc (by first | (simp; done) | (simp; omega)) (.cells #[.bool su, .slice ou nu cu, .slice au mu du] 24))
  have hxp := nest2_0 w (.cells #[.bool sp, .slice op np cp, .slice ap mp dp] 24) (.cells #[.bool su, .slice ou nu cu, .slice au mu du] 24)
  have hxu := nest2_1 w (.cells #[.bool sp, .slice op np cp, .slice ap mp dp] 24) (.cells #[.bool su, .slice ou nu cu, .slice au mu du] 24)
  obtain ⟨w0, hw0⟩ : ∃ w0, w0 = ((w.alloc (.cells #[.bool sp, .slice op np cp, .slice ap mp dp] 24)).alloc (.cells #[.bool su, .slice ou nu cu, .slice au mu du] 24)) := ⟨_, rfl⟩
  rw [← hw0] at hb0 hxp hxu
  have HB0 := Lib.hid hb0; have HW0 := Lib.hid hw0
  have BXp := Lib.hid hxp
  have BXu := Lib.hid hxu
  clear hb0 hw0 hxp hxu
  go_enter Tryz.func4, Tryz.ntmps4
  have hs := awake02 w0
  have HS := Lib.hid hs; clear hs
  go_wp2_with fail
  rw [← HW0.out]
  (with_reducible refine HS.out.mono ?_); rintro e w1 ⟨rfl, hb1⟩
  clear HS
  have HB1 := Lib.hid (HB0.out.step hb1)
  have BXp := Lib.hid (heap_below BXp.out hb1)
  have BXu := Lib.hid (heap_below BXu.out hb1)
  clear hb1
  obtain ⟨ep0, ep1, ep2⟩ := row3 BXp.out
  obtain ⟨eu0, eu1, eu2⟩ := row3 BXu.out
  obtain ⟨w2, hw2⟩ : ∃ w2, w2 = w1.alloc (.cells #[.bool sp, .slice op np cp, .slice ap mp dp, .bool su, .slice ou nu cu, .slice au mu du] 24) := ⟨_, rfl⟩
  have hb2 : Below w1.heap.size w1 w2 := by rw [hw2]; exact (Below.refl _ _).alloc (Nat.le_refl _) _
  have hxLS := heap_alloc_new w1 (.cells #[.bool sp, .slice op np cp, .slice ap mp dp, .bool su, .slice ou nu cu, .slice au mu du] 24)
  obtain ⟨gLS, hgLS⟩ : ∃ gLS, gLS = w1.heap.size := ⟨_, rfl⟩
  rw [← hw2, ← hgLS] at hxLS
  have HW2 := Lib.hid hw2; have HGLS := Lib.hid hgLS; clear hw2 hgLS
  have HB2 := Lib.hid (HB1.out.step hb2)
  have BXp := Lib.hid (heap_below BXp.out hb2)
  have BXu := Lib.hid (heap_below BXu.out hb2)
  clear hb2
  have BXLS := Lib.hid hxLS; clear hxLS
  have hs := rlarge2b BXLS.out zp zu HBIG.out
  have HS := Lib.hid hs; clear hs
  go_wp2_with fail
  rw [← HW2.out]
  try rw [← HGLS.out]
  (with_reducible refine HS.out.mono ?_); rintro e w3 ⟨rfl, hb3⟩
  clear HS
  have HB3 := Lib.hid (HB2.out.step hb3)
  have BXp := Lib.hid (heap_below BXp.out hb3)
  have BXu := Lib.hid (heap_below BXu.out hb3)
  clear hb3
  clear BXLS
  have hs := awake02 w3
  have HS := Lib.hid hs; clear hs
  go_wp2_with fail
  (with_reducible refine HS.out.mono ?_); rintro e w4 ⟨rfl, hb4⟩
  clear HS
  have HB4 := Lib.hid (HB3.out.step hb4)
  have BXp := Lib.hid (heap_below BXp.out hb4)
  have BXu := Lib.hid (heap_below BXu.out hb4)
  clear hb4
  go_wp2_with fail
  go_ret
  exact ⟨rfl, HB4.out⟩
theorem compares02_walk (vp : Value) (sp : Bool) (ap bp : List Nat) (vu : Value) (su : Bool) (au bu : List Nat) (w : World) (hp : RatV w vp sp ap bp) (hu : RatV w vu su au bu)  :
    Calls Tryz.prog 4 #[vp, vu] w (RetV w (.bool true)) := by
  obtain ⟨yp, ep⟩ := hp.sz
  obtain ⟨yu, eu⟩ := hu.sz
  by_cases hb : 12 < ap.length ∨ 12 < bp.length ∨ 12 < au.length ∨ 12 < bu.length
  · exact compares_big vp ap.length bp.length vu au.length bu.length w yp yu hb
  · obtain ⟨up, tp⟩ := hp.lt
    obtain ⟨uu, tu⟩ := hu.lt
    exact compares_small vp (rq sp ap bp) vu (rq su au bu) w (hp.is (by omega) (by omega)) (hu.is (by omega) (by omega)) (rl_rq up tp (by omega) (by omega) (by decide)) (by rw [ep]; exact ⟨by show ap.length ≤ 12; omega, by show bp.length ≤ 12; omega⟩) (rl_rq uu tu (by omega) (by omega) (by decide)) (by rw [eu]; exact ⟨by show au.length ≤ 12; omega, by show bu.length ≤ 12; omega⟩) hp (by omega) (by omega)
end Go.Proofs.YtkedjammeoaciaaGreatDoor
