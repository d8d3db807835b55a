/-
  The reference's Parse: what it hands back.
  Conditions: each theorem's own.
-/
import Derived.Test.YtabdndlaelfdeaaDoorRatParm
namespace Go.Proofs.YtabdndlaelfdeaaDoor
open Go.RowKit Go.ChangeShapes Go.WideShapes

theorem rdO_some {l : List UInt8} {q : Rat} (h : rdO l = some q) (hl : l.length ≤ 64) : prV l = some q := by
  unfold rdO at h
  unfold prV
  cases hc : cutL 46 (preL 45 l).1 with
  | none => rw [hc] at h; cases h
  | some p =>
    rw [hc] at h
    show (if l.length ≤ 64 then dmV (preL 45 l).2 p.1 p.2 else none) = some q
    rw [if_pos hl]; exact h
theorem mem_parts {c d : UInt8} {l : List UInt8} (hne : c ≠ d) (h : c ∈ l) : ∀ p, cutL d l = some p → c ∈ p.1 ∨ c ∈ p.2 := by
  intro p hp
  have := (cutL_mem hp).2
  rw [this] at h
  rcases List.mem_append.1 h with h | h
  · exact .inl h
  · rcases List.mem_cons.1 h with h | h
    · exact absurd h hne
    · exact .inr h
/-- where the text is no decimal number that counts, it is a fraction or nothing -/
theorem prV_rest {l : List UInt8} (h : ¬ (l.length ≤ 64 ∧ (rdO l).isSome = true)) :
    prV l = match cutL 47 (preL 45 l).1 with | some p => frV l (preL 45 l).2 p.1 (some p.2) | none => frV l (preL 45 l).2 (preL 45 l).1 none := by
  cases hc : cutL 46 (preL 45 l).1 with
  | none => unfold prV; rw [hc]; cases cutL 47 (preL 45 l).1 <;> rfl
  | some p =>
    have hm := (cutL_mem hc).1
    have h1 : prV l = none := by
      unfold prV; rw [hc]
      show (if l.length ≤ 64 then dmV (preL 45 l).2 p.1 p.2 else none) = none
      by_cases hl : l.length ≤ 64
      · rw [if_pos hl]
        cases hd : dmV (preL 45 l).2 p.1 p.2 with
        | none => rfl
        | some q =>
          exfalso; apply h
          refine ⟨hl, ?_⟩
          unfold rdO; rw [hc]
          show (dmV (preL 45 l).2 p.1 p.2).isSome = true
          rw [hd]; rfl
      · rw [if_neg hl]
    rw [h1]
    cases h2 : cutL 47 (preL 45 l).1 with
    | none => exact (frV_none1 (parC_bad hm (by decide))).symm
    | some r =>
      show none = frV l (preL 45 l).2 r.1 (some r.2)
      rcases mem_parts (by decide) hm r h2 with h3 | h3
      · exact (frV_none1 (parC_bad h3 (by decide))).symm
      · have : parC r.2 ≠ 0 := parC_bad h3 (by decide)
        unfold frV
        exact (if_neg fun k => this k.2.1).symm

set_option maxRecDepth 100000 in
set_option maxHeartbeats 3200000 in
theorem rpq_large (l : List UInt8) (w : World)  (hl : 65536 < l.length) (hm : l.length ≤ 9223372036854775807) :
    Calls Tryd.prog 14 #[.string ⟨l.toArray⟩] w (RetRE w 0 (.int .i64 4)) := by
  have hb0 := ((Below.refl w.heap.size w).alloc (by first | (simp; done) | (simp; omega)) (.cells #[.bool false, .slice none 0 0, .slice none 0 0] 24))
  have hxR := nest1_0 w (.cells #[.bool false, .slice none 0 0, .slice none 0 0] 24)
  obtain ⟨w0, hw0⟩ : ∃ w0, w0 = (w.alloc (.cells #[.bool false, .slice none 0 0, .slice none 0 0] 24)) := ⟨_, rfl⟩
  rw [← hw0] at hb0 hxR
  have HB0 := Lib.hid hb0; have HW0 := Lib.hid hw0
  have BXR := Lib.hid hxR
  clear hb0 hw0 hxR
  have f1 : decide ((65536 : Int) < (l.length : Int)) = true := decide_eq_true (by omega)
  go_enter Tryd.func14, Tryd.ntmps14
  go_wp2_with fail
  rw [← HW0.out]
  refine ret_rat2 rfl w.heap.size _ _ _ rfl BXR.out rfl ?_
  exact ⟨_, rfl, HB0.out, isR_zero _⟩
set_option maxRecDepth 100000 in
set_option maxHeartbeats 3200000 in
theorem rpq_dec (l : List UInt8) (w : World)  (q : Rat) (hl : l.length ≤ 64) (hq : rdO l = some q) :
    Calls Tryd.prog 14 #[.string ⟨l.toArray⟩] w (RetRE w q (.int .i64 0)) := by
  have hb0 := ((Below.refl w.heap.size w).alloc (by first | (simp; done) | (simp; omega)) (.cells #[.bool false, .slice none 0 0, .slice none 0 0] 24))
  have hxR := nest1_0 w (.cells #[.bool false, .slice none 0 0, .slice none 0 0] 24)
  obtain ⟨w0, hw0⟩ : ∃ w0, w0 = (w.alloc (.cells #[.bool false, .slice none 0 0, .slice none 0 0] 24)) := ⟨_, rfl⟩
  rw [← hw0] at hb0 hxR
  have HB0 := Lib.hid hb0; have HW0 := Lib.hid hw0
  have BXR := Lib.hid hxR
  clear hb0 hw0 hxR
  have f1 : decide ((65536 : Int) < (l.length : Int)) = false := decide_eq_false (by omega)
  have f2 : decide ((l.length : Int) ≤ 64) = true := decide_eq_true (by omega)
  have hdc := fun wx => rdec_any l wx (by omega)
  rw [hq] at hdc
  obtain ⟨S, hS⟩ : ∃ S : ByteArray, S = ⟨l.toArray⟩ := ⟨_, rfl⟩
  have hsz : S.size = l.length := by rw [hS]; simp [ByteArray.size]
  rw [← hS] at hdc ⊢
  have HDC : Hid (∀ wx, Calls Tryd.prog 53 #[.string S] wx (RetRE wx q (.bool true))) := Lib.hid hdc
  clear hdc hS hq
  go_enter Tryd.func14, Tryd.ntmps14
  have hs := HDC.out w0
  have HS := Lib.hid hs; clear hs
  go_wp2_with fail
  rw [← HW0.out]
  (with_reducible refine HS.out.mono ?_); rintro e w1 ⟨v1, rfl, hb1, hn1⟩
  clear HS
  have HB1 := Lib.hid (HB0.out.step hb1)
  have BXR := Lib.hid (heap_below BXR.out hb1)
  have Q := Lib.hid hn1; clear hn1
  clear hb1
  obtain ⟨sQ, oQ, nQ, cQ, aQ, mQ, dQ, rfl⟩ := Q.out.shape
  obtain ⟨w2, hw2⟩ : ∃ w2, w2 = w1.alloc (.cells #[.bool sQ, .slice oQ nQ cQ, .slice aQ mQ dQ] 24) := ⟨_, rfl⟩
  have hb2 : Below w1.heap.size w1 w2 := by rw [hw2]; exact (Below.refl _ _).alloc (Nat.le_refl _) _
  have hxo := heap_alloc_new w1 (.cells #[.bool sQ, .slice oQ nQ cQ, .slice aQ mQ dQ] 24)
  obtain ⟨go, hgo⟩ : ∃ go, go = w1.heap.size := ⟨_, rfl⟩
  rw [← hw2, ← hgo] at hxo
  have HW2 := Lib.hid hw2; have HGo := Lib.hid hgo; clear hw2 hgo
  have HB2 := Lib.hid (HB1.out.step hb2)
  have Q := Lib.hid (Q.out.below hb2)
  have BXR := Lib.hid (heap_below BXR.out hb2)
  clear hb2
  have BXo := Lib.hid hxo; clear hxo
  obtain ⟨eo0, eo1, eo2⟩ := row3 BXo.out
  obtain ⟨eR0, eR1, eR2⟩ := row3 BXR.out
  obtain ⟨fR0, fR1, fR2⟩ := froz3 BXR.out
  rw [HW2.out] at eo0
  rw [HGo.out] at eo0
  rw [HW2.out] at eo1
  rw [HGo.out] at eo1
  rw [HW2.out] at eo2
  rw [HGo.out] at eo2
  rw [HW2.out] at eR0
  rw [HW2.out] at eR1
  rw [HW2.out] at eR2
  rw [HW2.out] at fR0
  rw [HW2.out] at fR1
  rw [HW2.out] at fR2
  go_wp2_with fail
  rw [← HW2.out]
  try rw [← HGo.out]
  clear eo0 eo1 eo2 eR0 eR1 eR2 fR0 fR1 fR2
  refine ret_rat2 rfl w.heap.size _ _ _ rfl (put3_heap BXR.out) rfl ?_
  exact ⟨_, rfl, put3_below HB2.out (by omega) _ _ _, isR_put Q.out BXR.out⟩
set_option maxRecDepth 100000 in
set_option maxHeartbeats 6400000 in
theorem rpq_badx1_nil (l : List UInt8) (w : World)  (hl : l.length ≤ 300) (hdec : ¬ (l.length ≤ 64 ∧ (rdO l).isSome = true)) (hlm : l = []) (hcut : cutL 47 l = none) (hbad : parC l ≠ 0)  :
    Calls Tryd.prog 14 #[.string ⟨l.toArray⟩] w (RetRE w 0 (.int .i64 2)) := by
  have hb0 := ((Below.refl w.heap.size w).alloc (by first | (simp; done) | (simp; omega)) (.cells #[.bool false, .slice none 0 0, .slice none 0 0] 24))
  have hxR := nest1_0 w (.cells #[.bool false, .slice none 0 0, .slice none 0 0] 24)
  obtain ⟨w0, hw0⟩ : ∃ w0, w0 = (w.alloc (.cells #[.bool false, .slice none 0 0, .slice none 0 0] 24)) := ⟨_, rfl⟩
  rw [← hw0] at hb0 hxR
  have HB0 := Lib.hid hb0; have HW0 := Lib.hid hw0
  have BXR := Lib.hid hxR
  clear hb0 hw0 hxR
  have f1 : decide ((65536 : Int) < (l.length : Int)) = false := decide_eq_false (by omega)
  have hdc := fun wx => rdec_any l wx hl
  obtain ⟨S, hS⟩ : ∃ S : ByteArray, S = ⟨l.toArray⟩ := ⟨_, rfl⟩
  have hsz : S.size = l.length := by rw [hS]; simp [ByteArray.size]
  obtain ⟨oq, hoq⟩ : ∃ oq, oq = oQ (rdO l) := ⟨_, rfl⟩; obtain ⟨ob, hob⟩ : ∃ ob, ob = (rdO l).isSome := ⟨_, rfl⟩
  rw [← hoq, ← hob] at hdc; rw [← hob] at hdec; clear hoq hob
  have hdc2 : ob = false ∨ (ob = true ∧ decide ((l.length : Int) ≤ 64) = false) := by
    cases ob with
    | false => exact .inl rfl
    | true => exact .inr ⟨rfl, decide_eq_false (fun h => hdec ⟨by omega, rfl⟩)⟩
  clear hdec
  have hne : S.toList.isEmpty = true := by rw [hS, hlm, ByteArray.toList_eq]; rfl
  have hne2 : S.toList = [] := by rw [hS, hlm, ByteArray.toList_eq]
  obtain ⟨T, hT⟩ : ∃ T : ByteArray, T = ⟨l.toArray⟩ := ⟨_, rfl⟩
  have htz : T.size = l.length := by rw [hT]; simp [ByteArray.size]
  have hTS : T = S := by rw [hT, hS]
  have hfd := fun wx => rfind_any 47 47 l wx rfl (by omega)
  have hfn : fnd 47 l = -1 := by unfold fnd; rw [hcut]
  rw [hfn] at hfd
  have hpX := fun wx => rparse_any l wx (.inl (by omega))
  have hwx := parV_len (l := l) (K := 300) (by omega)
  rw [← hT] at hpX
  obtain ⟨EX, hEX⟩ : ∃ E, E = parC l := ⟨_, rfl⟩; obtain ⟨VX, hVX⟩ : ∃ V, V = parV l := ⟨_, rfl⟩
  rw [← hEX, ← hVX] at hpX; rw [← hVX] at hwx
  rw [← hEX] at hbad
  have g9 : ((EX : Int) != 0) = true := by simp; omega
  clear hEX hVX
  rw [← hS] at hdc; rw [← hT] at hfd; rw [← hS]
  subst hTS
  have HDC := Lib.hid hdc; have HFD := Lib.hid hfd; have HPX := Lib.hid hpX; clear hdc hfd hfn hS hlm hcut hpX hT
  clear htz
  rcases hdc2 with rfl | ⟨rfl, f2⟩
  · go_enter Tryd.func14, Tryd.ntmps14
    have hs := HDC.out w0
    have HS := Lib.hid hs; clear hs
    go_wp2_with fail
    rw [← HW0.out]
    (with_reducible refine HS.out.mono ?_); rintro e w1 ⟨v1, rfl, hb1, hn1⟩
    clear HS
    have HB1 := Lib.hid (HB0.out.step hb1)
    have BXR := Lib.hid (heap_below BXR.out hb1)
    have O := Lib.hid hn1; clear hn1
    clear hb1
    obtain ⟨sO, oO, nO, cO, aO, mO, dO, rfl⟩ := O.out.shape
    obtain ⟨w2, hw2⟩ : ∃ w2, w2 = w1.alloc (.cells #[.bool sO, .slice oO nO cO, .slice aO mO dO] 24) := ⟨_, rfl⟩
    have hb2 : Below w1.heap.size w1 w2 := by rw [hw2]; exact (Below.refl _ _).alloc (Nat.le_refl _) _
    have hxo := heap_alloc_new w1 (.cells #[.bool sO, .slice oO nO cO, .slice aO mO dO] 24)
    obtain ⟨go, hgo⟩ : ∃ go, go = w1.heap.size := ⟨_, rfl⟩
    rw [← hw2, ← hgo] at hxo
    have HW2 := Lib.hid hw2; have HGo := Lib.hid hgo; clear hw2 hgo
    have HB2 := Lib.hid (HB1.out.step hb2)
    have O := Lib.hid (O.out.below hb2)
    have BXR := Lib.hid (heap_below BXR.out hb2)
    clear hb2
    have BXo := Lib.hid hxo; clear hxo
    go_wp2_with fail
    rw [← HW2.out]
    try rw [← HGo.out]
    go_quiet (fail)
    have hb30 : Below w2.heap.size w2 (w2.drewN nq) := below_drewN (Below.refl _ _) _
    obtain ⟨w30, hw30⟩ : ∃ w30, w30 = w2.drewN nq := ⟨_, rfl⟩
    rw [← hw30] at hb30 ⊢; clear hw30
    have HB30 := Lib.hid (HB2.out.step hb30)
    have O := Lib.hid (O.out.below hb30)
    have BXR := Lib.hid (heap_below BXR.out hb30)
    have BXo := Lib.hid (heap_below BXo.out hb30)
    clear hb30
    obtain ⟨w31, hw31⟩ : ∃ w31, w31 = w30.alloc (.cells #[.int .u32 1] 57) := ⟨_, rfl⟩
    have hb31 : Below w30.heap.size w30 w31 := by rw [hw31]; exact (Below.refl _ _).alloc (Nat.le_refl _) _
    have hxD1 := heap_alloc_new w30 (.cells #[.int .u32 1] 57)
    obtain ⟨gD1, hgD1⟩ : ∃ gD1, gD1 = w30.heap.size := ⟨_, rfl⟩
    rw [← hw31, ← hgD1] at hxD1
    have HW31 := Lib.hid hw31; have HGD1 := Lib.hid hgD1; clear hw31 hgD1
    have HB31 := Lib.hid (HB30.out.step hb31)
    have O := Lib.hid (O.out.below hb31)
    have BXR := Lib.hid (heap_below BXR.out hb31)
    have BXo := Lib.hid (heap_below BXo.out hb31)
    clear hb31
    have hnD := num_one1 w30
    rw [← HW31.out, ← HGD1.out] at hnD
    have D := Lib.hid hnD; clear hnD hxD1
    have hs := HFD.out w31
    have HS := Lib.hid hs; clear hs
    go_wp2_with fail
    rw [← HW31.out]
    try rw [← HGD1.out]
    (with_reducible refine HS.out.mono ?_); rintro e wx ⟨rfl, rfl⟩
    clear HS
    have hs := HPX.out w31
    have HS := Lib.hid hs; clear hs
    go_wp2_with fail
    (with_reducible refine HS.out.mono ?_); rintro e w33 ⟨v33, rfl, hb33, hn33⟩
    clear HS
    have HB33 := Lib.hid (HB31.out.step hb33)
    have O := Lib.hid (O.out.below hb33)
    have D := Lib.hid (D.out.below hb33)
    have BXR := Lib.hid (heap_below BXR.out hb33)
    have BXo := Lib.hid (heap_below BXo.out hb33)
    have NX := Lib.hid hn33; clear hn33
    clear hb33
    obtain ⟨eR0, eR1, eR2⟩ := row3 BXR.out
    obtain ⟨fR0, fR1, fR2⟩ := froz3 BXR.out
    go_wp2_with fail
    clear eR0 eR1 eR2 fR0 fR1 fR2
    refine ret_rat2 rfl w.heap.size _ _ _ rfl (put3_heap BXR.out) rfl ?_
    exact ⟨_, rfl, put3_below HB33.out (by omega) _ _ _, isR_zero _⟩
  · go_enter Tryd.func14, Tryd.ntmps14
    have hs := HDC.out w0
    have HS := Lib.hid hs; clear hs
    go_wp2_with fail
    rw [← HW0.out]
    (with_reducible refine HS.out.mono ?_); rintro e w1 ⟨v1, rfl, hb1, hn1⟩
    clear HS
    have HB1 := Lib.hid (HB0.out.step hb1)
    have BXR := Lib.hid (heap_below BXR.out hb1)
    have O := Lib.hid hn1; clear hn1
    clear hb1
    obtain ⟨sO, oO, nO, cO, aO, mO, dO, rfl⟩ := O.out.shape
    obtain ⟨w2, hw2⟩ : ∃ w2, w2 = w1.alloc (.cells #[.bool sO, .slice oO nO cO, .slice aO mO dO] 24) := ⟨_, rfl⟩
    have hb2 : Below w1.heap.size w1 w2 := by rw [hw2]; exact (Below.refl _ _).alloc (Nat.le_refl _) _
    have hxo := heap_alloc_new w1 (.cells #[.bool sO, .slice oO nO cO, .slice aO mO dO] 24)
    obtain ⟨go, hgo⟩ : ∃ go, go = w1.heap.size := ⟨_, rfl⟩
    rw [← hw2, ← hgo] at hxo
    have HW2 := Lib.hid hw2; have HGo := Lib.hid hgo; clear hw2 hgo
    have HB2 := Lib.hid (HB1.out.step hb2)
    have O := Lib.hid (O.out.below hb2)
    have BXR := Lib.hid (heap_below BXR.out hb2)
    clear hb2
    have BXo := Lib.hid hxo; clear hxo
    go_wp2_with fail
    rw [← HW2.out]
    try rw [← HGo.out]
    go_quiet (fail)
    have hb30 : Below w2.heap.size w2 (w2.drewN nq) := below_drewN (Below.refl _ _) _
    obtain ⟨w30, hw30⟩ : ∃ w30, w30 = w2.drewN nq := ⟨_, rfl⟩
    rw [← hw30] at hb30 ⊢; clear hw30
    have HB30 := Lib.hid (HB2.out.step hb30)
    have O := Lib.hid (O.out.below hb30)
    have BXR := Lib.hid (heap_below BXR.out hb30)
    have BXo := Lib.hid (heap_below BXo.out hb30)
    clear hb30
    obtain ⟨w31, hw31⟩ : ∃ w31, w31 = w30.alloc (.cells #[.int .u32 1] 57) := ⟨_, rfl⟩
    have hb31 : Below w30.heap.size w30 w31 := by rw [hw31]; exact (Below.refl _ _).alloc (Nat.le_refl _) _
    have hxD1 := heap_alloc_new w30 (.cells #[.int .u32 1] 57)
    obtain ⟨gD1, hgD1⟩ : ∃ gD1, gD1 = w30.heap.size := ⟨_, rfl⟩
    rw [← hw31, ← hgD1] at hxD1
    have HW31 := Lib.hid hw31; have HGD1 := Lib.hid hgD1; clear hw31 hgD1
    have HB31 := Lib.hid (HB30.out.step hb31)
    have O := Lib.hid (O.out.below hb31)
    have BXR := Lib.hid (heap_below BXR.out hb31)
    have BXo := Lib.hid (heap_below BXo.out hb31)
    clear hb31
    have hnD := num_one1 w30
    rw [← HW31.out, ← HGD1.out] at hnD
    have D := Lib.hid hnD; clear hnD hxD1
    have hs := HFD.out w31
    have HS := Lib.hid hs; clear hs
    go_wp2_with fail
    rw [← HW31.out]
    try rw [← HGD1.out]
    (with_reducible refine HS.out.mono ?_); rintro e wx ⟨rfl, rfl⟩
    clear HS
    have hs := HPX.out w31
    have HS := Lib.hid hs; clear hs
    go_wp2_with fail
    (with_reducible refine HS.out.mono ?_); rintro e w33 ⟨v33, rfl, hb33, hn33⟩
    clear HS
    have HB33 := Lib.hid (HB31.out.step hb33)
    have O := Lib.hid (O.out.below hb33)
    have D := Lib.hid (D.out.below hb33)
    have BXR := Lib.hid (heap_below BXR.out hb33)
    have BXo := Lib.hid (heap_below BXo.out hb33)
    have NX := Lib.hid hn33; clear hn33
    clear hb33
    obtain ⟨eR0, eR1, eR2⟩ := row3 BXR.out
    obtain ⟨fR0, fR1, fR2⟩ := froz3 BXR.out
    go_wp2_with fail
    clear eR0 eR1 eR2 fR0 fR1 fR2
    refine ret_rat2 rfl w.heap.size _ _ _ rfl (put3_heap BXR.out) rfl ?_
    exact ⟨_, rfl, put3_below HB33.out (by omega) _ _ _, isR_zero _⟩
set_option maxRecDepth 100000 in
set_option maxHeartbeats 6400000 in
theorem rpq_badx1_t (l : List UInt8) (w : World)  (hl : l.length ≤ 300) (hdec : ¬ (l.length ≤ 64 ∧ (rdO l).isSome = true)) (m : List UInt8) (hlm : l = 45 :: m) (hcut : cutL 47 m = none) (hbad : parC m ≠ 0)  :
    Calls Tryd.prog 14 #[.string ⟨l.toArray⟩] w (RetRE w 0 (.int .i64 2)) := by
  have hb0 := ((Below.refl w.heap.size w).alloc (by first | (simp; done) | (simp; omega)) (.cells #[.bool false, .slice none 0 0, .slice none 0 0] 24))
  have hxR := nest1_0 w (.cells #[.bool false, .slice none 0 0, .slice none 0 0] 24)
  obtain ⟨w0, hw0⟩ : ∃ w0, w0 = (w.alloc (.cells #[.bool false, .slice none 0 0, .slice none 0 0] 24)) := ⟨_, rfl⟩
  rw [← hw0] at hb0 hxR
  have HB0 := Lib.hid hb0; have HW0 := Lib.hid hw0
  have BXR := Lib.hid hxR
  clear hb0 hw0 hxR
  have f1 : decide ((65536 : Int) < (l.length : Int)) = false := decide_eq_false (by omega)
  have hdc := fun wx => rdec_any l wx hl
  obtain ⟨S, hS⟩ : ∃ S : ByteArray, S = ⟨l.toArray⟩ := ⟨_, rfl⟩
  have hsz : S.size = l.length := by rw [hS]; simp [ByteArray.size]
  obtain ⟨oq, hoq⟩ : ∃ oq, oq = oQ (rdO l) := ⟨_, rfl⟩; obtain ⟨ob, hob⟩ : ∃ ob, ob = (rdO l).isSome := ⟨_, rfl⟩
  rw [← hoq, ← hob] at hdc; rw [← hob] at hdec; clear hoq hob
  have hdc2 : ob = false ∨ (ob = true ∧ decide ((l.length : Int) ≤ 64) = false) := by
    cases ob with
    | false => exact .inl rfl
    | true => exact .inr ⟨rfl, decide_eq_false (fun h => hdec ⟨by omega, rfl⟩)⟩
  clear hdec
  have hlm1 : l.length = m.length + 1 := by rw [hlm]; rfl
  have hne : S.toList.isEmpty = false := by rw [hS]; exact bytes_ne (by rw [hlm]; simp)
  have hi0 : ∀ wx : World, (Instr.index 9 (.string S) (.int .i64 0)).run Tryd.prog wx = .ok (.int .u8 45) wx := fun wx => by
    rw [hS]; subst hlm; exact run_index_l (45 :: m) 0 (by simp) wx
  obtain ⟨T, hT⟩ : ∃ T : ByteArray, T = ⟨m.toArray⟩ := ⟨_, rfl⟩
  have htz : T.size = m.length := by rw [hT]; simp [ByteArray.size]
  have hsl : ∀ wx : World, (Instr.slice 9 (.string S) (some (.int .i64 1)) none none).run Tryd.prog wx = .ok (.string T) wx := fun wx => by rw [hS, hT, hlm]; exact run_from1 45 m (by omega) wx
  have hfd := fun wx => rfind_any 47 47 m wx rfl (by omega)
  have hfn : fnd 47 m = -1 := by unfold fnd; rw [hcut]
  rw [hfn] at hfd
  have hpX := fun wx => rparse_any m wx (.inl (by omega))
  have hwx := parV_len (l := m) (K := 300) (by omega)
  rw [← hT] at hpX
  obtain ⟨EX, hEX⟩ : ∃ E, E = parC m := ⟨_, rfl⟩; obtain ⟨VX, hVX⟩ : ∃ V, V = parV m := ⟨_, rfl⟩
  rw [← hEX, ← hVX] at hpX; rw [← hVX] at hwx
  rw [← hEX] at hbad
  have g9 : ((EX : Int) != 0) = true := by simp; omega
  clear hEX hVX
  rw [← hS] at hdc; rw [← hT] at hfd; rw [← hS]
  have HDC := Lib.hid hdc; have HFD := Lib.hid hfd; have HPX := Lib.hid hpX; clear hdc hfd hfn hS hlm hcut hpX hT
  clear htz hlm1
  rcases hdc2 with rfl | ⟨rfl, f2⟩
  · go_enter Tryd.func14, Tryd.ntmps14
    have hs := HDC.out w0
    have HS := Lib.hid hs; clear hs
    go_wp2_with fail
    rw [← HW0.out]
    (with_reducible refine HS.out.mono ?_); rintro e w1 ⟨v1, rfl, hb1, hn1⟩
    clear HS
    have HB1 := Lib.hid (HB0.out.step hb1)
    have BXR := Lib.hid (heap_below BXR.out hb1)
    have O := Lib.hid hn1; clear hn1
    clear hb1
    obtain ⟨sO, oO, nO, cO, aO, mO, dO, rfl⟩ := O.out.shape
    obtain ⟨w2, hw2⟩ : ∃ w2, w2 = w1.alloc (.cells #[.bool sO, .slice oO nO cO, .slice aO mO dO] 24) := ⟨_, rfl⟩
    have hb2 : Below w1.heap.size w1 w2 := by rw [hw2]; exact (Below.refl _ _).alloc (Nat.le_refl _) _
    have hxo := heap_alloc_new w1 (.cells #[.bool sO, .slice oO nO cO, .slice aO mO dO] 24)
    obtain ⟨go, hgo⟩ : ∃ go, go = w1.heap.size := ⟨_, rfl⟩
    rw [← hw2, ← hgo] at hxo
    have HW2 := Lib.hid hw2; have HGo := Lib.hid hgo; clear hw2 hgo
    have HB2 := Lib.hid (HB1.out.step hb2)
    have O := Lib.hid (O.out.below hb2)
    have BXR := Lib.hid (heap_below BXR.out hb2)
    clear hb2
    have BXo := Lib.hid hxo; clear hxo
    go_wp2_with fail
    rw [← HW2.out]
    try rw [← HGo.out]
    go_quiet (fail)
    have hb30 : Below w2.heap.size w2 (w2.drewN nq) := below_drewN (Below.refl _ _) _
    obtain ⟨w30, hw30⟩ : ∃ w30, w30 = w2.drewN nq := ⟨_, rfl⟩
    rw [← hw30] at hb30 ⊢; clear hw30
    have HB30 := Lib.hid (HB2.out.step hb30)
    have O := Lib.hid (O.out.below hb30)
    have BXR := Lib.hid (heap_below BXR.out hb30)
    have BXo := Lib.hid (heap_below BXo.out hb30)
    clear hb30
    obtain ⟨w31, hw31⟩ : ∃ w31, w31 = w30.alloc (.cells #[.int .u32 1] 57) := ⟨_, rfl⟩
    have hb31 : Below w30.heap.size w30 w31 := by rw [hw31]; exact (Below.refl _ _).alloc (Nat.le_refl _) _
    have hxD1 := heap_alloc_new w30 (.cells #[.int .u32 1] 57)
    obtain ⟨gD1, hgD1⟩ : ∃ gD1, gD1 = w30.heap.size := ⟨_, rfl⟩
    rw [← hw31, ← hgD1] at hxD1
    have HW31 := Lib.hid hw31; have HGD1 := Lib.hid hgD1; clear hw31 hgD1
    have HB31 := Lib.hid (HB30.out.step hb31)
    have O := Lib.hid (O.out.below hb31)
    have BXR := Lib.hid (heap_below BXR.out hb31)
    have BXo := Lib.hid (heap_below BXo.out hb31)
    clear hb31
    have hnD := num_one1 w30
    rw [← HW31.out, ← HGD1.out] at hnD
    have D := Lib.hid hnD; clear hnD hxD1
    have hs := HFD.out w31
    have HS := Lib.hid hs; clear hs
    go_wp2_with fail
    rw [← HW31.out]
    try rw [← HGD1.out]
    (with_reducible refine HS.out.mono ?_); rintro e wx ⟨rfl, rfl⟩
    clear HS
    have hs := HPX.out w31
    have HS := Lib.hid hs; clear hs
    go_wp2_with fail
    (with_reducible refine HS.out.mono ?_); rintro e w33 ⟨v33, rfl, hb33, hn33⟩
    clear HS
    have HB33 := Lib.hid (HB31.out.step hb33)
    have O := Lib.hid (O.out.below hb33)
    have D := Lib.hid (D.out.below hb33)
    have BXR := Lib.hid (heap_below BXR.out hb33)
    have BXo := Lib.hid (heap_below BXo.out hb33)
    have NX := Lib.hid hn33; clear hn33
    clear hb33
    obtain ⟨eR0, eR1, eR2⟩ := row3 BXR.out
    obtain ⟨fR0, fR1, fR2⟩ := froz3 BXR.out
    go_wp2_with fail
    clear eR0 eR1 eR2 fR0 fR1 fR2
    refine ret_rat2 rfl w.heap.size _ _ _ rfl (put3_heap BXR.out) rfl ?_
    exact ⟨_, rfl, put3_below HB33.out (by omega) _ _ _, isR_zero _⟩
  · go_enter Tryd.func14, Tryd.ntmps14
    have hs := HDC.out w0
    have HS := Lib.hid hs; clear hs
    go_wp2_with fail
    rw [← HW0.out]
    (with_reducible refine HS.out.mono ?_); rintro e w1 ⟨v1, rfl, hb1, hn1⟩
    clear HS
    have HB1 := Lib.hid (HB0.out.step hb1)
    have BXR := Lib.hid (heap_below BXR.out hb1)
    have O := Lib.hid hn1; clear hn1
    clear hb1
    obtain ⟨sO, oO, nO, cO, aO, mO, dO, rfl⟩ := O.out.shape
    obtain ⟨w2, hw2⟩ : ∃ w2, w2 = w1.alloc (.cells #[.bool sO, .slice oO nO cO, .slice aO mO dO] 24) := ⟨_, rfl⟩
    have hb2 : Below w1.heap.size w1 w2 := by rw [hw2]; exact (Below.refl _ _).alloc (Nat.le_refl _) _
    have hxo := heap_alloc_new w1 (.cells #[.bool sO, .slice oO nO cO, .slice aO mO dO] 24)
    obtain ⟨go, hgo⟩ : ∃ go, go = w1.heap.size := ⟨_, rfl⟩
    rw [← hw2, ← hgo] at hxo
    have HW2 := Lib.hid hw2; have HGo := Lib.hid hgo; clear hw2 hgo
    have HB2 := Lib.hid (HB1.out.step hb2)
    have O := Lib.hid (O.out.below hb2)
    have BXR := Lib.hid (heap_below BXR.out hb2)
    clear hb2
    have BXo := Lib.hid hxo; clear hxo
    go_wp2_with fail
    rw [← HW2.out]
    try rw [← HGo.out]
    go_quiet (fail)
    have hb30 : Below w2.heap.size w2 (w2.drewN nq) := below_drewN (Below.refl _ _) _
    obtain ⟨w30, hw30⟩ : ∃ w30, w30 = w2.drewN nq := ⟨_, rfl⟩
    rw [← hw30] at hb30 ⊢; clear hw30
    have HB30 := Lib.hid (HB2.out.step hb30)
    have O := Lib.hid (O.out.below hb30)
    have BXR := Lib.hid (heap_below BXR.out hb30)
    have BXo := Lib.hid (heap_below BXo.out hb30)
    clear hb30
    obtain ⟨w31, hw31⟩ : ∃ w31, w31 = w30.alloc (.cells #[.int .u32 1] 57) := ⟨_, rfl⟩
    have hb31 : Below w30.heap.size w30 w31 := by rw [hw31]; exact (Below.refl _ _).alloc (Nat.le_refl _) _
    have hxD1 := heap_alloc_new w30 (.cells #[.int .u32 1] 57)
    obtain ⟨gD1, hgD1⟩ : ∃ gD1, gD1 = w30.heap.size := ⟨_, rfl⟩
    rw [← hw31, ← hgD1] at hxD1
    have HW31 := Lib.hid hw31; have HGD1 := Lib.hid hgD1; clear hw31 hgD1
    have HB31 := Lib.hid (HB30.out.step hb31)
    have O := Lib.hid (O.out.below hb31)
    have BXR := Lib.hid (heap_below BXR.out hb31)
    have BXo := Lib.hid (heap_below BXo.out hb31)
    clear hb31
    have hnD := num_one1 w30
    rw [← HW31.out, ← HGD1.out] at hnD
    have D := Lib.hid hnD; clear hnD hxD1
    have hs := HFD.out w31
    have HS := Lib.hid hs; clear hs
    go_wp2_with fail
    rw [← HW31.out]
    try rw [← HGD1.out]
    (with_reducible refine HS.out.mono ?_); rintro e wx ⟨rfl, rfl⟩
    clear HS
    have hs := HPX.out w31
    have HS := Lib.hid hs; clear hs
    go_wp2_with fail
    (with_reducible refine HS.out.mono ?_); rintro e w33 ⟨v33, rfl, hb33, hn33⟩
    clear HS
    have HB33 := Lib.hid (HB31.out.step hb33)
    have O := Lib.hid (O.out.below hb33)
    have D := Lib.hid (D.out.below hb33)
    have BXR := Lib.hid (heap_below BXR.out hb33)
    have BXo := Lib.hid (heap_below BXo.out hb33)
    have NX := Lib.hid hn33; clear hn33
    clear hb33
    obtain ⟨eR0, eR1, eR2⟩ := row3 BXR.out
    obtain ⟨fR0, fR1, fR2⟩ := froz3 BXR.out
    go_wp2_with fail
    clear eR0 eR1 eR2 fR0 fR1 fR2
    refine ret_rat2 rfl w.heap.size _ _ _ rfl (put3_heap BXR.out) rfl ?_
    exact ⟨_, rfl, put3_below HB33.out (by omega) _ _ _, isR_zero _⟩
set_option maxRecDepth 100000 in
set_option maxHeartbeats 6400000 in
theorem rpq_differs1_t (l : List UInt8) (w : World)  (hl : l.length ≤ 300) (hdec : ¬ (l.length ≤ 64 ∧ (rdO l).isSome = true)) (m : List UInt8) (hlm : l = 45 :: m) (hcut : cutL 47 m = none) (hpx : parC m = 0) (hr : rtx (qm true (parV m) 1) ≠ l) :
    Calls Tryd.prog 14 #[.string ⟨l.toArray⟩] w (RetRE w 0 (.int .i64 2)) := by
  have hb0 := ((Below.refl w.heap.size w).alloc (by first | (simp; done) | (simp; omega)) (.cells #[.bool false, .slice none 0 0, .slice none 0 0] 24))
  have hxR := nest1_0 w (.cells #[.bool false, .slice none 0 0, .slice none 0 0] 24)
  obtain ⟨w0, hw0⟩ : ∃ w0, w0 = (w.alloc (.cells #[.bool false, .slice none 0 0, .slice none 0 0] 24)) := ⟨_, rfl⟩
  rw [← hw0] at hb0 hxR
  have HB0 := Lib.hid hb0; have HW0 := Lib.hid hw0
  have BXR := Lib.hid hxR
  clear hb0 hw0 hxR
  have f1 : decide ((65536 : Int) < (l.length : Int)) = false := decide_eq_false (by omega)
  have hdc := fun wx => rdec_any l wx hl
  obtain ⟨S, hS⟩ : ∃ S : ByteArray, S = ⟨l.toArray⟩ := ⟨_, rfl⟩
  have hsz : S.size = l.length := by rw [hS]; simp [ByteArray.size]
  obtain ⟨oq, hoq⟩ : ∃ oq, oq = oQ (rdO l) := ⟨_, rfl⟩; obtain ⟨ob, hob⟩ : ∃ ob, ob = (rdO l).isSome := ⟨_, rfl⟩
  rw [← hoq, ← hob] at hdc; rw [← hob] at hdec; clear hoq hob
  have hdc2 : ob = false ∨ (ob = true ∧ decide ((l.length : Int) ≤ 64) = false) := by
    cases ob with
    | false => exact .inl rfl
    | true => exact .inr ⟨rfl, decide_eq_false (fun h => hdec ⟨by omega, rfl⟩)⟩
  clear hdec
  have hlm1 : l.length = m.length + 1 := by rw [hlm]; rfl
  have hne : S.toList.isEmpty = false := by rw [hS]; exact bytes_ne (by rw [hlm]; simp)
  have hi0 : ∀ wx : World, (Instr.index 9 (.string S) (.int .i64 0)).run Tryd.prog wx = .ok (.int .u8 45) wx := fun wx => by
    rw [hS]; subst hlm; exact run_index_l (45 :: m) 0 (by simp) wx
  obtain ⟨T, hT⟩ : ∃ T : ByteArray, T = ⟨m.toArray⟩ := ⟨_, rfl⟩
  have htz : T.size = m.length := by rw [hT]; simp [ByteArray.size]
  have hsl : ∀ wx : World, (Instr.slice 9 (.string S) (some (.int .i64 1)) none none).run Tryd.prog wx = .ok (.string T) wx := fun wx => by rw [hS, hT, hlm]; exact run_from1 45 m (by omega) wx
  have hfd := fun wx => rfind_any 47 47 m wx rfl (by omega)
  have hfn : fnd 47 m = -1 := by unfold fnd; rw [hcut]
  rw [hfn] at hfd
  have hpX := fun wx => rparse_any m wx (.inl (by omega))
  have hwx := parV_len (l := m) (K := 300) (by omega)
  rw [← hT] at hpX
  obtain ⟨EX, hEX⟩ : ∃ E, E = parC m := ⟨_, rfl⟩; obtain ⟨VX, hVX⟩ : ∃ V, V = parV m := ⟨_, rfl⟩
  rw [← hEX, ← hVX] at hpX; rw [← hVX] at hwx
  rw [← hEX] at hpx
  rw [← hVX] at hr
  clear hEX hVX
  subst hpx
  skip
  obtain ⟨q, hq⟩ : ∃ q, q = qm true VX 1 := ⟨_, rfl⟩
  rw [← hq] at hr
  have hrl : rl q ≤ 300 := by rw [hq]; exact rl_qm (by decide) hwx (by rw [wd_one_len]; decide)
  obtain ⟨TX, hTX⟩ : ∃ A : ByteArray, A = ⟨(rtx q).toArray⟩ := ⟨_, rfl⟩
  have hnx : TX ≠ S := fun e => hr (by rw [hTX, hS] at e; have := congrArg (fun z : ByteArray => z.data.toList) e; simpa using this)
  have hbq : (TX.toList == S.toList) = false := by rw [beq_eq_false_iff_ne, ByteArray.toList_eq, ByteArray.toList_eq]; intro e; exact hnx (ByteArray.ext (Array.toList_inj.1 e))
  have hbq2 : (TX.toList != S.toList) = true := by simp only [bne, hbq, Bool.not_false]
  clear hnx
  have HQ := Lib.hid hq; have HTX := Lib.hid hTX; clear hq hTX hr
  rw [← hS] at hdc; rw [← hT] at hfd; rw [← hS]
  have HDC := Lib.hid hdc; have HFD := Lib.hid hfd; have HPX := Lib.hid hpX; clear hdc hfd hfn hS hlm hcut hpX hT
  clear htz hlm1
  rcases hdc2 with rfl | ⟨rfl, f2⟩
  · go_enter Tryd.func14, Tryd.ntmps14
    have hs := HDC.out w0
    have HS := Lib.hid hs; clear hs
    go_wp2_with fail
    rw [← HW0.out]
    (with_reducible refine HS.out.mono ?_); rintro e w1 ⟨v1, rfl, hb1, hn1⟩
    clear HS
    have HB1 := Lib.hid (HB0.out.step hb1)
    have BXR := Lib.hid (heap_below BXR.out hb1)
    have O := Lib.hid hn1; clear hn1
    clear hb1
    obtain ⟨sO, oO, nO, cO, aO, mO, dO, rfl⟩ := O.out.shape
    obtain ⟨w2, hw2⟩ : ∃ w2, w2 = w1.alloc (.cells #[.bool sO, .slice oO nO cO, .slice aO mO dO] 24) := ⟨_, rfl⟩
    have hb2 : Below w1.heap.size w1 w2 := by rw [hw2]; exact (Below.refl _ _).alloc (Nat.le_refl _) _
    have hxo := heap_alloc_new w1 (.cells #[.bool sO, .slice oO nO cO, .slice aO mO dO] 24)
    obtain ⟨go, hgo⟩ : ∃ go, go = w1.heap.size := ⟨_, rfl⟩
    rw [← hw2, ← hgo] at hxo
    have HW2 := Lib.hid hw2; have HGo := Lib.hid hgo; clear hw2 hgo
    have HB2 := Lib.hid (HB1.out.step hb2)
    have O := Lib.hid (O.out.below hb2)
    have BXR := Lib.hid (heap_below BXR.out hb2)
    clear hb2
    have BXo := Lib.hid hxo; clear hxo
    go_wp2_with fail
    rw [← HW2.out]
    try rw [← HGo.out]
    go_quiet (fail)
    have hb30 : Below w2.heap.size w2 (w2.drewN nq) := below_drewN (Below.refl _ _) _
    obtain ⟨w30, hw30⟩ : ∃ w30, w30 = w2.drewN nq := ⟨_, rfl⟩
    rw [← hw30] at hb30 ⊢; clear hw30
    have HB30 := Lib.hid (HB2.out.step hb30)
    have O := Lib.hid (O.out.below hb30)
    have BXR := Lib.hid (heap_below BXR.out hb30)
    have BXo := Lib.hid (heap_below BXo.out hb30)
    clear hb30
    obtain ⟨w31, hw31⟩ : ∃ w31, w31 = w30.alloc (.cells #[.int .u32 1] 57) := ⟨_, rfl⟩
    have hb31 : Below w30.heap.size w30 w31 := by rw [hw31]; exact (Below.refl _ _).alloc (Nat.le_refl _) _
    have hxD1 := heap_alloc_new w30 (.cells #[.int .u32 1] 57)
    obtain ⟨gD1, hgD1⟩ : ∃ gD1, gD1 = w30.heap.size := ⟨_, rfl⟩
    rw [← hw31, ← hgD1] at hxD1
    have HW31 := Lib.hid hw31; have HGD1 := Lib.hid hgD1; clear hw31 hgD1
    have HB31 := Lib.hid (HB30.out.step hb31)
    have O := Lib.hid (O.out.below hb31)
    have BXR := Lib.hid (heap_below BXR.out hb31)
    have BXo := Lib.hid (heap_below BXo.out hb31)
    clear hb31
    have hnD := num_one1 w30
    rw [← HW31.out, ← HGD1.out] at hnD
    have D := Lib.hid hnD; clear hnD hxD1
    have hs := HFD.out w31
    have HS := Lib.hid hs; clear hs
    go_wp2_with fail
    rw [← HW31.out]
    try rw [← HGD1.out]
    (with_reducible refine HS.out.mono ?_); rintro e wx ⟨rfl, rfl⟩
    clear HS
    have hs := HPX.out w31
    have HS := Lib.hid hs; clear hs
    go_wp2_with fail
    (with_reducible refine HS.out.mono ?_); rintro e w33 ⟨v33, rfl, hb33, hn33⟩
    clear HS
    have HB33 := Lib.hid (HB31.out.step hb33)
    have O := Lib.hid (O.out.below hb33)
    have D := Lib.hid (D.out.below hb33)
    have BXR := Lib.hid (heap_below BXR.out hb33)
    have BXo := Lib.hid (heap_below BXo.out hb33)
    have NX := Lib.hid hn33; clear hn33
    clear hb33
    have hs := rfromN true NX.out D.out (by omega) (by have := wd_one_len; omega)
    rw [show zc 1 = 0 from rfl, ← HQ.out] at hs
    have HS := Lib.hid hs; clear hs
    go_wp2_with fail
    (with_reducible refine HS.out.mono ?_); rintro e w34 ⟨v34, rfl, hb34, hn34⟩
    clear HS
    have HB34 := Lib.hid (HB33.out.step hb34)
    have O := Lib.hid (O.out.below hb34)
    have D := Lib.hid (D.out.below hb34)
    have NX := Lib.hid (NX.out.below hb34)
    have BXR := Lib.hid (heap_below BXR.out hb34)
    have BXo := Lib.hid (heap_below BXo.out hb34)
    have Q := Lib.hid hn34; clear hn34
    clear hb34
    obtain ⟨sQ, oQ, nQ, cQ, aQ, mQ, dQ, rfl⟩ := Q.out.shape
    obtain ⟨w35, hw35⟩ : ∃ w35, w35 = w34.alloc (.cells #[.bool sQ, .slice oQ nQ cQ, .slice aQ mQ dQ] 24) := ⟨_, rfl⟩
    have hb35 : Below w34.heap.size w34 w35 := by rw [hw35]; exact (Below.refl _ _).alloc (Nat.le_refl _) _
    have hxx := heap_alloc_new w34 (.cells #[.bool sQ, .slice oQ nQ cQ, .slice aQ mQ dQ] 24)
    obtain ⟨gx, hgx⟩ : ∃ gx, gx = w34.heap.size := ⟨_, rfl⟩
    rw [← hw35, ← hgx] at hxx
    have HW35 := Lib.hid hw35; have HGx := Lib.hid hgx; clear hw35 hgx
    have HB35 := Lib.hid (HB34.out.step hb35)
    have O := Lib.hid (O.out.below hb35)
    have D := Lib.hid (D.out.below hb35)
    have NX := Lib.hid (NX.out.below hb35)
    have Q := Lib.hid (Q.out.below hb35)
    have BXR := Lib.hid (heap_below BXR.out hb35)
    have BXo := Lib.hid (heap_below BXo.out hb35)
    clear hb35
    have BXx := Lib.hid hxx; clear hxx
    have hs := rtextq_any _ q w35 (IsR.is Q.out (by omega))
    rw [← HTX.out] at hs
    have HS := Lib.hid hs; clear hs
    obtain ⟨ex0, ex1, ex2⟩ := row3 BXx.out
    rw [HW35.out] at ex0
    rw [HGx.out] at ex0
    rw [HW35.out] at ex1
    rw [HGx.out] at ex1
    rw [HW35.out] at ex2
    rw [HGx.out] at ex2
    go_wp2_with fail
    rw [← HW35.out]
    try rw [← HGx.out]
    clear ex0 ex1 ex2
    (with_reducible refine HS.out.mono ?_); rintro e w36 ⟨rfl, hb36⟩
    clear HS
    have HB36 := Lib.hid (HB35.out.step hb36)
    have O := Lib.hid (O.out.below hb36)
    have D := Lib.hid (D.out.below hb36)
    have NX := Lib.hid (NX.out.below hb36)
    have Q := Lib.hid (Q.out.below hb36)
    have BXR := Lib.hid (heap_below BXR.out hb36)
    have BXo := Lib.hid (heap_below BXo.out hb36)
    have BXx := Lib.hid (heap_below BXx.out hb36)
    clear hb36
    obtain ⟨eR0, eR1, eR2⟩ := row3 BXR.out
    obtain ⟨fR0, fR1, fR2⟩ := froz3 BXR.out
    go_wp2_with fail
    clear eR0 eR1 eR2 fR0 fR1 fR2
    refine ret_rat2 rfl w.heap.size _ _ _ rfl (put3_heap BXR.out) rfl ?_
    exact ⟨_, rfl, put3_below HB36.out (by omega) _ _ _, isR_zero _⟩
  · go_enter Tryd.func14, Tryd.ntmps14
    have hs := HDC.out w0
    have HS := Lib.hid hs; clear hs
    go_wp2_with fail
    rw [← HW0.out]
    (with_reducible refine HS.out.mono ?_); rintro e w1 ⟨v1, rfl, hb1, hn1⟩
    clear HS
    have HB1 := Lib.hid (HB0.out.step hb1)
    have BXR := Lib.hid (heap_below BXR.out hb1)
    have O := Lib.hid hn1; clear hn1
    clear hb1
    obtain ⟨sO, oO, nO, cO, aO, mO, dO, rfl⟩ := O.out.shape
    obtain ⟨w2, hw2⟩ : ∃ w2, w2 = w1.alloc (.cells #[.bool sO, .slice oO nO cO, .slice aO mO dO] 24) := ⟨_, rfl⟩
    have hb2 : Below w1.heap.size w1 w2 := by rw [hw2]; exact (Below.refl _ _).alloc (Nat.le_refl _) _
    have hxo := heap_alloc_new w1 (.cells #[.bool sO, .slice oO nO cO, .slice aO mO dO] 24)
    obtain ⟨go, hgo⟩ : ∃ go, go = w1.heap.size := ⟨_, rfl⟩
    rw [← hw2, ← hgo] at hxo
    have HW2 := Lib.hid hw2; have HGo := Lib.hid hgo; clear hw2 hgo
    have HB2 := Lib.hid (HB1.out.step hb2)
    have O := Lib.hid (O.out.below hb2)
    have BXR := Lib.hid (heap_below BXR.out hb2)
    clear hb2
    have BXo := Lib.hid hxo; clear hxo
    go_wp2_with fail
    rw [← HW2.out]
    try rw [← HGo.out]
    go_quiet (fail)
    have hb30 : Below w2.heap.size w2 (w2.drewN nq) := below_drewN (Below.refl _ _) _
    obtain ⟨w30, hw30⟩ : ∃ w30, w30 = w2.drewN nq := ⟨_, rfl⟩
    rw [← hw30] at hb30 ⊢; clear hw30
    have HB30 := Lib.hid (HB2.out.step hb30)
    have O := Lib.hid (O.out.below hb30)
    have BXR := Lib.hid (heap_below BXR.out hb30)
    have BXo := Lib.hid (heap_below BXo.out hb30)
    clear hb30
    obtain ⟨w31, hw31⟩ : ∃ w31, w31 = w30.alloc (.cells #[.int .u32 1] 57) := ⟨_, rfl⟩
    have hb31 : Below w30.heap.size w30 w31 := by rw [hw31]; exact (Below.refl _ _).alloc (Nat.le_refl _) _
    have hxD1 := heap_alloc_new w30 (.cells #[.int .u32 1] 57)
    obtain ⟨gD1, hgD1⟩ : ∃ gD1, gD1 = w30.heap.size := ⟨_, rfl⟩
    rw [← hw31, ← hgD1] at hxD1
    have HW31 := Lib.hid hw31; have HGD1 := Lib.hid hgD1; clear hw31 hgD1
    have HB31 := Lib.hid (HB30.out.step hb31)
    have O := Lib.hid (O.out.below hb31)
    have BXR := Lib.hid (heap_below BXR.out hb31)
    have BXo := Lib.hid (heap_below BXo.out hb31)
    clear hb31
    have hnD := num_one1 w30
    rw [← HW31.out, ← HGD1.out] at hnD
    have D := Lib.hid hnD; clear hnD hxD1
    have hs := HFD.out w31
    have HS := Lib.hid hs; clear hs
    go_wp2_with fail
    rw [← HW31.out]
    try rw [← HGD1.out]
    (with_reducible refine HS.out.mono ?_); rintro e wx ⟨rfl, rfl⟩
    clear HS
    have hs := HPX.out w31
    have HS := Lib.hid hs; clear hs
    go_wp2_with fail
    (with_reducible refine HS.out.mono ?_); rintro e w33 ⟨v33, rfl, hb33, hn33⟩
    clear HS
    have HB33 := Lib.hid (HB31.out.step hb33)
    have O := Lib.hid (O.out.below hb33)
    have D := Lib.hid (D.out.below hb33)
    have BXR := Lib.hid (heap_below BXR.out hb33)
    have BXo := Lib.hid (heap_below BXo.out hb33)
    have NX := Lib.hid hn33; clear hn33
    clear hb33
    have hs := rfromN true NX.out D.out (by omega) (by have := wd_one_len; omega)
    rw [show zc 1 = 0 from rfl, ← HQ.out] at hs
    have HS := Lib.hid hs; clear hs
    go_wp2_with fail
    (with_reducible refine HS.out.mono ?_); rintro e w34 ⟨v34, rfl, hb34, hn34⟩
    clear HS
    have HB34 := Lib.hid (HB33.out.step hb34)
    have O := Lib.hid (O.out.below hb34)
    have D := Lib.hid (D.out.below hb34)
    have NX := Lib.hid (NX.out.below hb34)
    have BXR := Lib.hid (heap_below BXR.out hb34)
    have BXo := Lib.hid (heap_below BXo.out hb34)
    have Q := Lib.hid hn34; clear hn34
    clear hb34
    obtain ⟨sQ, oQ, nQ, cQ, aQ, mQ, dQ, rfl⟩ := Q.out.shape
    obtain ⟨w35, hw35⟩ : ∃ w35, w35 = w34.alloc (.cells #[.bool sQ, .slice oQ nQ cQ, .slice aQ mQ dQ] 24) := ⟨_, rfl⟩
    have hb35 : Below w34.heap.size w34 w35 := by rw [hw35]; exact (Below.refl _ _).alloc (Nat.le_refl _) _
    have hxx := heap_alloc_new w34 (.cells #[.bool sQ, .slice oQ nQ cQ, .slice aQ mQ dQ] 24)
    obtain ⟨gx, hgx⟩ : ∃ gx, gx = w34.heap.size := ⟨_, rfl⟩
    rw [← hw35, ← hgx] at hxx
    have HW35 := Lib.hid hw35; have HGx := Lib.hid hgx; clear hw35 hgx
    have HB35 := Lib.hid (HB34.out.step hb35)
    have O := Lib.hid (O.out.below hb35)
    have D := Lib.hid (D.out.below hb35)
    have NX := Lib.hid (NX.out.below hb35)
    have Q := Lib.hid (Q.out.below hb35)
    have BXR := Lib.hid (heap_below BXR.out hb35)
    have BXo := Lib.hid (heap_below BXo.out hb35)
    clear hb35
    have BXx := Lib.hid hxx; clear hxx
    have hs := rtextq_any _ q w35 (IsR.is Q.out (by omega))
    rw [← HTX.out] at hs
    have HS := Lib.hid hs; clear hs
    obtain ⟨ex0, ex1, ex2⟩ := row3 BXx.out
    rw [HW35.out] at ex0
    rw [HGx.out] at ex0
    rw [HW35.out] at ex1
    rw [HGx.out] at ex1
    rw [HW35.out] at ex2
    rw [HGx.out] at ex2
    go_wp2_with fail
    rw [← HW35.out]
    try rw [← HGx.out]
    clear ex0 ex1 ex2
    (with_reducible refine HS.out.mono ?_); rintro e w36 ⟨rfl, hb36⟩
    clear HS
    have HB36 := Lib.hid (HB35.out.step hb36)
    have O := Lib.hid (O.out.below hb36)
    have D := Lib.hid (D.out.below hb36)
    have NX := Lib.hid (NX.out.below hb36)
    have Q := Lib.hid (Q.out.below hb36)
    have BXR := Lib.hid (heap_below BXR.out hb36)
    have BXo := Lib.hid (heap_below BXo.out hb36)
    have BXx := Lib.hid (heap_below BXx.out hb36)
    clear hb36
    obtain ⟨eR0, eR1, eR2⟩ := row3 BXR.out
    obtain ⟨fR0, fR1, fR2⟩ := froz3 BXR.out
    go_wp2_with fail
    clear eR0 eR1 eR2 fR0 fR1 fR2
    refine ret_rat2 rfl w.heap.size _ _ _ rfl (put3_heap BXR.out) rfl ?_
    exact ⟨_, rfl, put3_below HB36.out (by omega) _ _ _, isR_zero _⟩
set_option maxRecDepth 100000 in
set_option maxHeartbeats 6400000 in
theorem rpq_fits1_t (l : List UInt8) (w : World)  (hl : l.length ≤ 300) (hdec : ¬ (l.length ≤ 64 ∧ (rdO l).isSome = true)) (m : List UInt8) (hlm : l = 45 :: m) (hcut : cutL 47 m = none) (hpx : parC m = 0) (hr : rtx (qm true (parV m) 1) = l) :
    Calls Tryd.prog 14 #[.string ⟨l.toArray⟩] w (RetRE w (qm true (parV m) 1) (.int .i64 0)) := by
  have hb0 := ((Below.refl w.heap.size w).alloc (by first | (simp; done) | (simp; omega)) (.cells #[.bool false, .slice none 0 0, .slice none 0 0] 24))
  have hxR := nest1_0 w (.cells #[.bool false, .slice none 0 0, .slice none 0 0] 24)
  obtain ⟨w0, hw0⟩ : ∃ w0, w0 = (w.alloc (.cells #[.bool false, .slice none 0 0, .slice none 0 0] 24)) := ⟨_, rfl⟩
  rw [← hw0] at hb0 hxR
  have HB0 := Lib.hid hb0; have HW0 := Lib.hid hw0
  have BXR := Lib.hid hxR
  clear hb0 hw0 hxR
  have f1 : decide ((65536 : Int) < (l.length : Int)) = false := decide_eq_false (by omega)
  have hdc := fun wx => rdec_any l wx hl
  obtain ⟨S, hS⟩ : ∃ S : ByteArray, S = ⟨l.toArray⟩ := ⟨_, rfl⟩
  have hsz : S.size = l.length := by rw [hS]; simp [ByteArray.size]
  obtain ⟨oq, hoq⟩ : ∃ oq, oq = oQ (rdO l) := ⟨_, rfl⟩; obtain ⟨ob, hob⟩ : ∃ ob, ob = (rdO l).isSome := ⟨_, rfl⟩
  rw [← hoq, ← hob] at hdc; rw [← hob] at hdec; clear hoq hob
  have hdc2 : ob = false ∨ (ob = true ∧ decide ((l.length : Int) ≤ 64) = false) := by
    cases ob with
    | false => exact .inl rfl
    | true => exact .inr ⟨rfl, decide_eq_false (fun h => hdec ⟨by omega, rfl⟩)⟩
  clear hdec
  have hlm1 : l.length = m.length + 1 := by rw [hlm]; rfl
  have hne : S.toList.isEmpty = false := by rw [hS]; exact bytes_ne (by rw [hlm]; simp)
  have hi0 : ∀ wx : World, (Instr.index 9 (.string S) (.int .i64 0)).run Tryd.prog wx = .ok (.int .u8 45) wx := fun wx => by
    rw [hS]; subst hlm; exact run_index_l (45 :: m) 0 (by simp) wx
  obtain ⟨T, hT⟩ : ∃ T : ByteArray, T = ⟨m.toArray⟩ := ⟨_, rfl⟩
  have htz : T.size = m.length := by rw [hT]; simp [ByteArray.size]
  have hsl : ∀ wx : World, (Instr.slice 9 (.string S) (some (.int .i64 1)) none none).run Tryd.prog wx = .ok (.string T) wx := fun wx => by rw [hS, hT, hlm]; exact run_from1 45 m (by omega) wx
  have hfd := fun wx => rfind_any 47 47 m wx rfl (by omega)
  have hfn : fnd 47 m = -1 := by unfold fnd; rw [hcut]
  rw [hfn] at hfd
  have hpX := fun wx => rparse_any m wx (.inl (by omega))
  have hwx := parV_len (l := m) (K := 300) (by omega)
  rw [← hT] at hpX
  obtain ⟨EX, hEX⟩ : ∃ E, E = parC m := ⟨_, rfl⟩; obtain ⟨VX, hVX⟩ : ∃ V, V = parV m := ⟨_, rfl⟩
  rw [← hEX, ← hVX] at hpX; rw [← hVX] at hwx
  rw [← hEX] at hpx
  rw [← hVX] at hr
  rw [← hVX]
  clear hEX hVX
  subst hpx
  skip
  obtain ⟨q, hq⟩ : ∃ q, q = qm true VX 1 := ⟨_, rfl⟩
  rw [← hq] at hr ⊢
  have hrl : rl q ≤ 300 := by rw [hq]; exact rl_qm (by decide) hwx (by rw [wd_one_len]; decide)
  obtain ⟨TX, hTX⟩ : ∃ A : ByteArray, A = ⟨(rtx q).toArray⟩ := ⟨_, rfl⟩
  have htx : TX = S := by rw [hTX, hr, hS]
  have hbq : (S.toList != S.toList) = false := by simp
  have hbq2 : (S.toList == S.toList) = true := by simp
  have HQ := Lib.hid hq; have HTX := Lib.hid hTX; clear hq hTX hr
  have HTS := Lib.hid htx; clear htx
  rw [← hS] at hdc; rw [← hT] at hfd; rw [← hS]
  have HDC := Lib.hid hdc; have HFD := Lib.hid hfd; have HPX := Lib.hid hpX; clear hdc hfd hfn hS hlm hcut hpX hT
  clear htz hlm1
  rcases hdc2 with rfl | ⟨rfl, f2⟩
  · go_enter Tryd.func14, Tryd.ntmps14
    have hs := HDC.out w0
    have HS := Lib.hid hs; clear hs
    go_wp2_with fail
    rw [← HW0.out]
    (with_reducible refine HS.out.mono ?_); rintro e w1 ⟨v1, rfl, hb1, hn1⟩
    clear HS
    have HB1 := Lib.hid (HB0.out.step hb1)
    have BXR := Lib.hid (heap_below BXR.out hb1)
    have O := Lib.hid hn1; clear hn1
    clear hb1
    obtain ⟨sO, oO, nO, cO, aO, mO, dO, rfl⟩ := O.out.shape
    obtain ⟨w2, hw2⟩ : ∃ w2, w2 = w1.alloc (.cells #[.bool sO, .slice oO nO cO, .slice aO mO dO] 24) := ⟨_, rfl⟩
    have hb2 : Below w1.heap.size w1 w2 := by rw [hw2]; exact (Below.refl _ _).alloc (Nat.le_refl _) _
    have hxo := heap_alloc_new w1 (.cells #[.bool sO, .slice oO nO cO, .slice aO mO dO] 24)
    obtain ⟨go, hgo⟩ : ∃ go, go = w1.heap.size := ⟨_, rfl⟩
    rw [← hw2, ← hgo] at hxo
    have HW2 := Lib.hid hw2; have HGo := Lib.hid hgo; clear hw2 hgo
    have HB2 := Lib.hid (HB1.out.step hb2)
    have O := Lib.hid (O.out.below hb2)
    have BXR := Lib.hid (heap_below BXR.out hb2)
    clear hb2
    have BXo := Lib.hid hxo; clear hxo
    go_wp2_with fail
    rw [← HW2.out]
    try rw [← HGo.out]
    go_quiet (fail)
    have hb30 : Below w2.heap.size w2 (w2.drewN nq) := below_drewN (Below.refl _ _) _
    obtain ⟨w30, hw30⟩ : ∃ w30, w30 = w2.drewN nq := ⟨_, rfl⟩
    rw [← hw30] at hb30 ⊢; clear hw30
    have HB30 := Lib.hid (HB2.out.step hb30)
    have O := Lib.hid (O.out.below hb30)
    have BXR := Lib.hid (heap_below BXR.out hb30)
    have BXo := Lib.hid (heap_below BXo.out hb30)
    clear hb30
    obtain ⟨w31, hw31⟩ : ∃ w31, w31 = w30.alloc (.cells #[.int .u32 1] 57) := ⟨_, rfl⟩
    have hb31 : Below w30.heap.size w30 w31 := by rw [hw31]; exact (Below.refl _ _).alloc (Nat.le_refl _) _
    have hxD1 := heap_alloc_new w30 (.cells #[.int .u32 1] 57)
    obtain ⟨gD1, hgD1⟩ : ∃ gD1, gD1 = w30.heap.size := ⟨_, rfl⟩
    rw [← hw31, ← hgD1] at hxD1
    have HW31 := Lib.hid hw31; have HGD1 := Lib.hid hgD1; clear hw31 hgD1
    have HB31 := Lib.hid (HB30.out.step hb31)
    have O := Lib.hid (O.out.below hb31)
    have BXR := Lib.hid (heap_below BXR.out hb31)
    have BXo := Lib.hid (heap_below BXo.out hb31)
    clear hb31
    have hnD := num_one1 w30
    rw [← HW31.out, ← HGD1.out] at hnD
    have D := Lib.hid hnD; clear hnD hxD1
    have hs := HFD.out w31
    have HS := Lib.hid hs; clear hs
    go_wp2_with fail
    rw [← HW31.out]
    try rw [← HGD1.out]
    (with_reducible refine HS.out.mono ?_); rintro e wx ⟨rfl, rfl⟩
    clear HS
    have hs := HPX.out w31
    have HS := Lib.hid hs; clear hs
    go_wp2_with fail
    (with_reducible refine HS.out.mono ?_); rintro e w33 ⟨v33, rfl, hb33, hn33⟩
    clear HS
    have HB33 := Lib.hid (HB31.out.step hb33)
    have O := Lib.hid (O.out.below hb33)
    have D := Lib.hid (D.out.below hb33)
    have BXR := Lib.hid (heap_below BXR.out hb33)
    have BXo := Lib.hid (heap_below BXo.out hb33)
    have NX := Lib.hid hn33; clear hn33
    clear hb33
    have hs := rfromN true NX.out D.out (by omega) (by have := wd_one_len; omega)
    rw [show zc 1 = 0 from rfl, ← HQ.out] at hs
    have HS := Lib.hid hs; clear hs
    go_wp2_with fail
    (with_reducible refine HS.out.mono ?_); rintro e w34 ⟨v34, rfl, hb34, hn34⟩
    clear HS
    have HB34 := Lib.hid (HB33.out.step hb34)
    have O := Lib.hid (O.out.below hb34)
    have D := Lib.hid (D.out.below hb34)
    have NX := Lib.hid (NX.out.below hb34)
    have BXR := Lib.hid (heap_below BXR.out hb34)
    have BXo := Lib.hid (heap_below BXo.out hb34)
    have Q := Lib.hid hn34; clear hn34
    clear hb34
    obtain ⟨sQ, oQ, nQ, cQ, aQ, mQ, dQ, rfl⟩ := Q.out.shape
    obtain ⟨w35, hw35⟩ : ∃ w35, w35 = w34.alloc (.cells #[.bool sQ, .slice oQ nQ cQ, .slice aQ mQ dQ] 24) := ⟨_, rfl⟩
    have hb35 : Below w34.heap.size w34 w35 := by rw [hw35]; exact (Below.refl _ _).alloc (Nat.le_refl _) _
    have hxx := heap_alloc_new w34 (.cells #[.bool sQ, .slice oQ nQ cQ, .slice aQ mQ dQ] 24)
    obtain ⟨gx, hgx⟩ : ∃ gx, gx = w34.heap.size := ⟨_, rfl⟩
    rw [← hw35, ← hgx] at hxx
    have HW35 := Lib.hid hw35; have HGx := Lib.hid hgx; clear hw35 hgx
    have HB35 := Lib.hid (HB34.out.step hb35)
    have O := Lib.hid (O.out.below hb35)
    have D := Lib.hid (D.out.below hb35)
    have NX := Lib.hid (NX.out.below hb35)
    have Q := Lib.hid (Q.out.below hb35)
    have BXR := Lib.hid (heap_below BXR.out hb35)
    have BXo := Lib.hid (heap_below BXo.out hb35)
    clear hb35
    have BXx := Lib.hid hxx; clear hxx
    have hs := rtextq_any _ q w35 (IsR.is Q.out (by omega))
    rw [← HTX.out] at hs
    have HS := Lib.hid hs; clear hs
    obtain ⟨ex0, ex1, ex2⟩ := row3 BXx.out
    rw [HW35.out] at ex0
    rw [HGx.out] at ex0
    rw [HW35.out] at ex1
    rw [HGx.out] at ex1
    rw [HW35.out] at ex2
    rw [HGx.out] at ex2
    go_wp2_with fail
    rw [← HW35.out]
    try rw [← HGx.out]
    clear ex0 ex1 ex2
    (with_reducible refine HS.out.mono ?_); rintro e w36 ⟨rfl, hb36⟩
    clear HS
    have HB36 := Lib.hid (HB35.out.step hb36)
    have O := Lib.hid (O.out.below hb36)
    have D := Lib.hid (D.out.below hb36)
    have NX := Lib.hid (NX.out.below hb36)
    have Q := Lib.hid (Q.out.below hb36)
    have BXR := Lib.hid (heap_below BXR.out hb36)
    have BXo := Lib.hid (heap_below BXo.out hb36)
    have BXx := Lib.hid (heap_below BXx.out hb36)
    clear hb36
    have htx := HTS.out; subst htx
    obtain ⟨ex0, ex1, ex2⟩ := row3 BXx.out
    obtain ⟨eR0, eR1, eR2⟩ := row3 BXR.out
    obtain ⟨fR0, fR1, fR2⟩ := froz3 BXR.out
    go_wp2_with fail
    clear ex0 ex1 ex2 eR0 eR1 eR2 fR0 fR1 fR2
    refine ret_rat2 rfl w.heap.size _ _ _ rfl (put3_heap BXR.out) rfl ?_
    exact ⟨_, rfl, put3_below HB36.out (by omega) _ _ _, isR_put Q.out BXR.out⟩
  · go_enter Tryd.func14, Tryd.ntmps14
    have hs := HDC.out w0
    have HS := Lib.hid hs; clear hs
    go_wp2_with fail
    rw [← HW0.out]
    (with_reducible refine HS.out.mono ?_); rintro e w1 ⟨v1, rfl, hb1, hn1⟩
    clear HS
    have HB1 := Lib.hid (HB0.out.step hb1)
    have BXR := Lib.hid (heap_below BXR.out hb1)
    have O := Lib.hid hn1; clear hn1
    clear hb1
    obtain ⟨sO, oO, nO, cO, aO, mO, dO, rfl⟩ := O.out.shape
    obtain ⟨w2, hw2⟩ : ∃ w2, w2 = w1.alloc (.cells #[.bool sO, .slice oO nO cO, .slice aO mO dO] 24) := ⟨_, rfl⟩
    have hb2 : Below w1.heap.size w1 w2 := by rw [hw2]; exact (Below.refl _ _).alloc (Nat.le_refl _) _
    have hxo := heap_alloc_new w1 (.cells #[.bool sO, .slice oO nO cO, .slice aO mO dO] 24)
    obtain ⟨go, hgo⟩ : ∃ go, go = w1.heap.size := ⟨_, rfl⟩
    rw [← hw2, ← hgo] at hxo
    have HW2 := Lib.hid hw2; have HGo := Lib.hid hgo; clear hw2 hgo
    have HB2 := Lib.hid (HB1.out.step hb2)
    have O := Lib.hid (O.out.below hb2)
    have BXR := Lib.hid (heap_below BXR.out hb2)
    clear hb2
    have BXo := Lib.hid hxo; clear hxo
    go_wp2_with fail
    rw [← HW2.out]
    try rw [← HGo.out]
    go_quiet (fail)
    have hb30 : Below w2.heap.size w2 (w2.drewN nq) := below_drewN (Below.refl _ _) _
    obtain ⟨w30, hw30⟩ : ∃ w30, w30 = w2.drewN nq := ⟨_, rfl⟩
    rw [← hw30] at hb30 ⊢; clear hw30
    have HB30 := Lib.hid (HB2.out.step hb30)
    have O := Lib.hid (O.out.below hb30)
    have BXR := Lib.hid (heap_below BXR.out hb30)
    have BXo := Lib.hid (heap_below BXo.out hb30)
    clear hb30
    obtain ⟨w31, hw31⟩ : ∃ w31, w31 = w30.alloc (.cells #[.int .u32 1] 57) := ⟨_, rfl⟩
    have hb31 : Below w30.heap.size w30 w31 := by rw [hw31]; exact (Below.refl _ _).alloc (Nat.le_refl _) _
    have hxD1 := heap_alloc_new w30 (.cells #[.int .u32 1] 57)
    obtain ⟨gD1, hgD1⟩ : ∃ gD1, gD1 = w30.heap.size := ⟨_, rfl⟩
    rw [← hw31, ← hgD1] at hxD1
    have HW31 := Lib.hid hw31; have HGD1 := Lib.hid hgD1; clear hw31 hgD1
    have HB31 := Lib.hid (HB30.out.step hb31)
    have O := Lib.hid (O.out.below hb31)
    have BXR := Lib.hid (heap_below BXR.out hb31)
    have BXo := Lib.hid (heap_below BXo.out hb31)
    clear hb31
    have hnD := num_one1 w30
    rw [← HW31.out, ← HGD1.out] at hnD
    have D := Lib.hid hnD; clear hnD hxD1
    have hs := HFD.out w31
    have HS := Lib.hid hs; clear hs
    go_wp2_with fail
    rw [← HW31.out]
    try rw [← HGD1.out]
    (with_reducible refine HS.out.mono ?_); rintro e wx ⟨rfl, rfl⟩
    clear HS
    have hs := HPX.out w31
    have HS := Lib.hid hs; clear hs
    go_wp2_with fail
    (with_reducible refine HS.out.mono ?_); rintro e w33 ⟨v33, rfl, hb33, hn33⟩
    clear HS
    have HB33 := Lib.hid (HB31.out.step hb33)
    have O := Lib.hid (O.out.below hb33)
    have D := Lib.hid (D.out.below hb33)
    have BXR := Lib.hid (heap_below BXR.out hb33)
    have BXo := Lib.hid (heap_below BXo.out hb33)
    have NX := Lib.hid hn33; clear hn33
    clear hb33
    have hs := rfromN true NX.out D.out (by omega) (by have := wd_one_len; omega)
    rw [show zc 1 = 0 from rfl, ← HQ.out] at hs
    have HS := Lib.hid hs; clear hs
    go_wp2_with fail
    (with_reducible refine HS.out.mono ?_); rintro e w34 ⟨v34, rfl, hb34, hn34⟩
    clear HS
    have HB34 := Lib.hid (HB33.out.step hb34)
    have O := Lib.hid (O.out.below hb34)
    have D := Lib.hid (D.out.below hb34)
    have NX := Lib.hid (NX.out.below hb34)
    have BXR := Lib.hid (heap_below BXR.out hb34)
    have BXo := Lib.hid (heap_below BXo.out hb34)
    have Q := Lib.hid hn34; clear hn34
    clear hb34
    obtain ⟨sQ, oQ, nQ, cQ, aQ, mQ, dQ, rfl⟩ := Q.out.shape
    obtain ⟨w35, hw35⟩ : ∃ w35, w35 = w34.alloc (.cells #[.bool sQ, .slice oQ nQ cQ, .slice aQ mQ dQ] 24) := ⟨_, rfl⟩
    have hb35 : Below w34.heap.size w34 w35 := by rw [hw35]; exact (Below.refl _ _).alloc (Nat.le_refl _) _
    have hxx := heap_alloc_new w34 (.cells #[.bool sQ, .slice oQ nQ cQ, .slice aQ mQ dQ] 24)
    obtain ⟨gx, hgx⟩ : ∃ gx, gx = w34.heap.size := ⟨_, rfl⟩
    rw [← hw35, ← hgx] at hxx
    have HW35 := Lib.hid hw35; have HGx := Lib.hid hgx; clear hw35 hgx
    have HB35 := Lib.hid (HB34.out.step hb35)
    have O := Lib.hid (O.out.below hb35)
    have D := Lib.hid (D.out.below hb35)
    have NX := Lib.hid (NX.out.below hb35)
    have Q := Lib.hid (Q.out.below hb35)
    have BXR := Lib.hid (heap_below BXR.out hb35)
    have BXo := Lib.hid (heap_below BXo.out hb35)
    clear hb35
    have BXx := Lib.hid hxx; clear hxx
    have hs := rtextq_any _ q w35 (IsR.is Q.out (by omega))
    rw [← HTX.out] at hs
    have HS := Lib.hid hs; clear hs
    obtain ⟨ex0, ex1, ex2⟩ := row3 BXx.out
    rw [HW35.out] at ex0
    rw [HGx.out] at ex0
    rw [HW35.out] at ex1
    rw [HGx.out] at ex1
    rw [HW35.out] at ex2
    rw [HGx.out] at ex2
    go_wp2_with fail
    rw [← HW35.out]
    try rw [← HGx.out]
    clear ex0 ex1 ex2
    (with_reducible refine HS.out.mono ?_); rintro e w36 ⟨rfl, hb36⟩
    clear HS
    have HB36 := Lib.hid (HB35.out.step hb36)
    have O := Lib.hid (O.out.below hb36)
    have D := Lib.hid (D.out.below hb36)
    have NX := Lib.hid (NX.out.below hb36)
    have Q := Lib.hid (Q.out.below hb36)
    have BXR := Lib.hid (heap_below BXR.out hb36)
    have BXo := Lib.hid (heap_below BXo.out hb36)
    have BXx := Lib.hid (heap_below BXx.out hb36)
    clear hb36
    have htx := HTS.out; subst htx
    obtain ⟨ex0, ex1, ex2⟩ := row3 BXx.out
    obtain ⟨eR0, eR1, eR2⟩ := row3 BXR.out
    obtain ⟨fR0, fR1, fR2⟩ := froz3 BXR.out
    go_wp2_with fail
    clear ex0 ex1 ex2 eR0 eR1 eR2 fR0 fR1 fR2
    refine ret_rat2 rfl w.heap.size _ _ _ rfl (put3_heap BXR.out) rfl ?_
    exact ⟨_, rfl, put3_below HB36.out (by omega) _ _ _, isR_put Q.out BXR.out⟩
set_option maxRecDepth 100000 in
set_option maxHeartbeats 6400000 in
theorem rpq_badx2_t (l : List UInt8) (w : World)  (hl : l.length ≤ 300) (hdec : ¬ (l.length ≤ 64 ∧ (rdO l).isSome = true)) (m : List UInt8) (hlm : l = 45 :: m) (a b : List UInt8) (hcut : m = a ++ 47 :: b) (hcl : cutL 47 m = some (a, b)) (hbad : parC a ≠ 0) (hpy : parC b = 0) :
    Calls Tryd.prog 14 #[.string ⟨l.toArray⟩] w (RetRE w 0 (.int .i64 2)) := by
  have hb0 := ((Below.refl w.heap.size w).alloc (by first | (simp; done) | (simp; omega)) (.cells #[.bool false, .slice none 0 0, .slice none 0 0] 24))
  have hxR := nest1_0 w (.cells #[.bool false, .slice none 0 0, .slice none 0 0] 24)
  obtain ⟨w0, hw0⟩ : ∃ w0, w0 = (w.alloc (.cells #[.bool false, .slice none 0 0, .slice none 0 0] 24)) := ⟨_, rfl⟩
  rw [← hw0] at hb0 hxR
  have HB0 := Lib.hid hb0; have HW0 := Lib.hid hw0
  have BXR := Lib.hid hxR
  clear hb0 hw0 hxR
  have f1 : decide ((65536 : Int) < (l.length : Int)) = false := decide_eq_false (by omega)
  have hdc := fun wx => rdec_any l wx hl
  obtain ⟨S, hS⟩ : ∃ S : ByteArray, S = ⟨l.toArray⟩ := ⟨_, rfl⟩
  have hsz : S.size = l.length := by rw [hS]; simp [ByteArray.size]
  obtain ⟨oq, hoq⟩ : ∃ oq, oq = oQ (rdO l) := ⟨_, rfl⟩; obtain ⟨ob, hob⟩ : ∃ ob, ob = (rdO l).isSome := ⟨_, rfl⟩
  rw [← hoq, ← hob] at hdc; rw [← hob] at hdec; clear hoq hob
  have hdc2 : ob = false ∨ (ob = true ∧ decide ((l.length : Int) ≤ 64) = false) := by
    cases ob with
    | false => exact .inl rfl
    | true => exact .inr ⟨rfl, decide_eq_false (fun h => hdec ⟨by omega, rfl⟩)⟩
  clear hdec
  have hlm1 : l.length = m.length + 1 := by rw [hlm]; rfl
  have hne : S.toList.isEmpty = false := by rw [hS]; exact bytes_ne (by rw [hlm]; simp)
  have hi0 : ∀ wx : World, (Instr.index 9 (.string S) (.int .i64 0)).run Tryd.prog wx = .ok (.int .u8 45) wx := fun wx => by
    rw [hS]; subst hlm; exact run_index_l (45 :: m) 0 (by simp) wx
  obtain ⟨T, hT⟩ : ∃ T : ByteArray, T = ⟨m.toArray⟩ := ⟨_, rfl⟩
  have htz : T.size = m.length := by rw [hT]; simp [ByteArray.size]
  have hsl : ∀ wx : World, (Instr.slice 9 (.string S) (some (.int .i64 1)) none none).run Tryd.prog wx = .ok (.string T) wx := fun wx => by rw [hS, hT, hlm]; exact run_from1 45 m (by omega) wx
  have hfd := fun wx => rfind_any 47 47 m wx rfl (by omega)
  have hfn : fnd 47 m = (a.length : Int) := by unfold fnd; rw [hcl]
  rw [hfn] at hfd
  have htl : m.length = a.length + (b.length + 1) := by rw [hcut]; simp
  have g1 : decide ((0 : Int) ≤ (a.length : Int)) = true := decide_eq_true (by omega)
  obtain ⟨A, hA⟩ : ∃ A : ByteArray, A = ⟨a.toArray⟩ := ⟨_, rfl⟩; obtain ⟨B, hB⟩ : ∃ B : ByteArray, B = ⟨b.toArray⟩ := ⟨_, rfl⟩
  have hs1 : ∀ wx : World, (Instr.slice 9 (.string T) none (some (.int .i64 (a.length : Int))) none).run Tryd.prog wx = .ok (.string A) wx := fun wx => by rw [hT, hA, hcut]; exact run_to a _ wx
  have hs2 : ∀ wx : World, (Instr.slice 9 (.string T) (some (.int .i64 ((a.length : Int) + 1))) none none).run Tryd.prog wx = .ok (.string B) wx := fun wx => by rw [hT, hB, hcut]; exact run_from a 47 b wx
  have hpX := fun wx => rparse_any a wx (.inl (by omega)); have hpY := fun wx => rparse_any b wx (.inl (by omega))
  have hwx := parV_len (l := a) (K := 300) (by omega); have hwy := parV_len (l := b) (K := 300) (by omega)
  rw [← hA] at hpX; rw [← hB] at hpY
  obtain ⟨EX, hEX⟩ : ∃ E, E = parC a := ⟨_, rfl⟩; obtain ⟨VX, hVX⟩ : ∃ V, V = parV a := ⟨_, rfl⟩
  rw [← hEX, ← hVX] at hpX; rw [← hVX] at hwx
  obtain ⟨EY, hEY⟩ : ∃ E, E = parC b := ⟨_, rfl⟩; obtain ⟨VY, hVY⟩ : ∃ V, V = parV b := ⟨_, rfl⟩
  rw [← hEY, ← hVY] at hpY; rw [← hVY] at hwy
  rw [← hEX] at hbad
  have g9 : ((EX : Int) != 0) = true := by simp; omega
  rw [← hEY] at hpy; subst hpy
  clear hEX hVX hEY hVY
  rw [← hS] at hdc; rw [← hT] at hfd; rw [← hS]
  have HDC := Lib.hid hdc; have HFD := Lib.hid hfd; have HPX := Lib.hid hpX; clear hdc hfd hfn hS hlm hcut hpX hT
  have HPY := Lib.hid hpY; clear hpY hA hB hcl
  have hla : a.length ≤ 300 := by omega
  clear htz hlm1 htl
  rcases hdc2 with rfl | ⟨rfl, f2⟩
  · go_enter Tryd.func14, Tryd.ntmps14
    have hs := HDC.out w0
    have HS := Lib.hid hs; clear hs
    go_wp2_with fail
    rw [← HW0.out]
    (with_reducible refine HS.out.mono ?_); rintro e w1 ⟨v1, rfl, hb1, hn1⟩
    clear HS
    have HB1 := Lib.hid (HB0.out.step hb1)
    have BXR := Lib.hid (heap_below BXR.out hb1)
    have O := Lib.hid hn1; clear hn1
    clear hb1
    obtain ⟨sO, oO, nO, cO, aO, mO, dO, rfl⟩ := O.out.shape
    obtain ⟨w2, hw2⟩ : ∃ w2, w2 = w1.alloc (.cells #[.bool sO, .slice oO nO cO, .slice aO mO dO] 24) := ⟨_, rfl⟩
    have hb2 : Below w1.heap.size w1 w2 := by rw [hw2]; exact (Below.refl _ _).alloc (Nat.le_refl _) _
    have hxo := heap_alloc_new w1 (.cells #[.bool sO, .slice oO nO cO, .slice aO mO dO] 24)
    obtain ⟨go, hgo⟩ : ∃ go, go = w1.heap.size := ⟨_, rfl⟩
    rw [← hw2, ← hgo] at hxo
    have HW2 := Lib.hid hw2; have HGo := Lib.hid hgo; clear hw2 hgo
    have HB2 := Lib.hid (HB1.out.step hb2)
    have O := Lib.hid (O.out.below hb2)
    have BXR := Lib.hid (heap_below BXR.out hb2)
    clear hb2
    have BXo := Lib.hid hxo; clear hxo
    go_wp2_with fail
    rw [← HW2.out]
    try rw [← HGo.out]
    go_quiet (fail)
    have hb30 : Below w2.heap.size w2 (w2.drewN nq) := below_drewN (Below.refl _ _) _
    obtain ⟨w30, hw30⟩ : ∃ w30, w30 = w2.drewN nq := ⟨_, rfl⟩
    rw [← hw30] at hb30 ⊢; clear hw30
    have HB30 := Lib.hid (HB2.out.step hb30)
    have O := Lib.hid (O.out.below hb30)
    have BXR := Lib.hid (heap_below BXR.out hb30)
    have BXo := Lib.hid (heap_below BXo.out hb30)
    clear hb30
    obtain ⟨w31, hw31⟩ : ∃ w31, w31 = w30.alloc (.cells #[.int .u32 1] 57) := ⟨_, rfl⟩
    have hb31 : Below w30.heap.size w30 w31 := by rw [hw31]; exact (Below.refl _ _).alloc (Nat.le_refl _) _
    have hxD1 := heap_alloc_new w30 (.cells #[.int .u32 1] 57)
    obtain ⟨gD1, hgD1⟩ : ∃ gD1, gD1 = w30.heap.size := ⟨_, rfl⟩
    rw [← hw31, ← hgD1] at hxD1
    have HW31 := Lib.hid hw31; have HGD1 := Lib.hid hgD1; clear hw31 hgD1
    have HB31 := Lib.hid (HB30.out.step hb31)
    have O := Lib.hid (O.out.below hb31)
    have BXR := Lib.hid (heap_below BXR.out hb31)
    have BXo := Lib.hid (heap_below BXo.out hb31)
    clear hb31
    have hnD := num_one1 w30
    rw [← HW31.out, ← HGD1.out] at hnD
    have D := Lib.hid hnD; clear hnD hxD1
    have hs := HFD.out w31
    have HS := Lib.hid hs; clear hs
    go_wp2_with fail
    rw [← HW31.out]
    try rw [← HGD1.out]
    (with_reducible refine HS.out.mono ?_); rintro e wx ⟨rfl, rfl⟩
    clear HS
    have hs := HPY.out w31
    have HS := Lib.hid hs; clear hs
    go_wp2_with fail
    (with_reducible refine HS.out.mono ?_); rintro e w33 ⟨v33, rfl, hb33, hn33⟩
    clear HS
    have HB33 := Lib.hid (HB31.out.step hb33)
    have O := Lib.hid (O.out.below hb33)
    have D := Lib.hid (D.out.below hb33)
    have BXR := Lib.hid (heap_below BXR.out hb33)
    have BXo := Lib.hid (heap_below BXo.out hb33)
    have NY := Lib.hid hn33; clear hn33
    clear hb33
    have hs := HPX.out w33
    have HS := Lib.hid hs; clear hs
    go_wp2_with fail
    (with_reducible refine HS.out.mono ?_); rintro e w34 ⟨v34, rfl, hb34, hn34⟩
    clear HS
    have HB34 := Lib.hid (HB33.out.step hb34)
    have O := Lib.hid (O.out.below hb34)
    have D := Lib.hid (D.out.below hb34)
    have NY := Lib.hid (NY.out.below hb34)
    have BXR := Lib.hid (heap_below BXR.out hb34)
    have BXo := Lib.hid (heap_below BXo.out hb34)
    have NX := Lib.hid hn34; clear hn34
    clear hb34
    obtain ⟨eR0, eR1, eR2⟩ := row3 BXR.out
    obtain ⟨fR0, fR1, fR2⟩ := froz3 BXR.out
    go_wp2_with fail
    clear eR0 eR1 eR2 fR0 fR1 fR2
    refine ret_rat2 rfl w.heap.size _ _ _ rfl (put3_heap BXR.out) rfl ?_
    exact ⟨_, rfl, put3_below HB34.out (by omega) _ _ _, isR_zero _⟩
  · go_enter Tryd.func14, Tryd.ntmps14
    have hs := HDC.out w0
    have HS := Lib.hid hs; clear hs
    go_wp2_with fail
    rw [← HW0.out]
    (with_reducible refine HS.out.mono ?_); rintro e w1 ⟨v1, rfl, hb1, hn1⟩
    clear HS
    have HB1 := Lib.hid (HB0.out.step hb1)
    have BXR := Lib.hid (heap_below BXR.out hb1)
    have O := Lib.hid hn1; clear hn1
    clear hb1
    obtain ⟨sO, oO, nO, cO, aO, mO, dO, rfl⟩ := O.out.shape
    obtain ⟨w2, hw2⟩ : ∃ w2, w2 = w1.alloc (.cells #[.bool sO, .slice oO nO cO, .slice aO mO dO] 24) := ⟨_, rfl⟩
    have hb2 : Below w1.heap.size w1 w2 := by rw [hw2]; exact (Below.refl _ _).alloc (Nat.le_refl _) _
    have hxo := heap_alloc_new w1 (.cells #[.bool sO, .slice oO nO cO, .slice aO mO dO] 24)
    obtain ⟨go, hgo⟩ : ∃ go, go = w1.heap.size := ⟨_, rfl⟩
    rw [← hw2, ← hgo] at hxo
    have HW2 := Lib.hid hw2; have HGo := Lib.hid hgo; clear hw2 hgo
    have HB2 := Lib.hid (HB1.out.step hb2)
    have O := Lib.hid (O.out.below hb2)
    have BXR := Lib.hid (heap_below BXR.out hb2)
    clear hb2
    have BXo := Lib.hid hxo; clear hxo
    go_wp2_with fail
    rw [← HW2.out]
    try rw [← HGo.out]
    go_quiet (fail)
    have hb30 : Below w2.heap.size w2 (w2.drewN nq) := below_drewN (Below.refl _ _) _
    obtain ⟨w30, hw30⟩ : ∃ w30, w30 = w2.drewN nq := ⟨_, rfl⟩
    rw [← hw30] at hb30 ⊢; clear hw30
    have HB30 := Lib.hid (HB2.out.step hb30)
    have O := Lib.hid (O.out.below hb30)
    have BXR := Lib.hid (heap_below BXR.out hb30)
    have BXo := Lib.hid (heap_below BXo.out hb30)
    clear hb30
    obtain ⟨w31, hw31⟩ : ∃ w31, w31 = w30.alloc (.cells #[.int .u32 1] 57) := ⟨_, rfl⟩
    have hb31 : Below w30.heap.size w30 w31 := by rw [hw31]; exact (Below.refl _ _).alloc (Nat.le_refl _) _
    have hxD1 := heap_alloc_new w30 (.cells #[.int .u32 1] 57)
    obtain ⟨gD1, hgD1⟩ : ∃ gD1, gD1 = w30.heap.size := ⟨_, rfl⟩
    rw [← hw31, ← hgD1] at hxD1
    have HW31 := Lib.hid hw31; have HGD1 := Lib.hid hgD1; clear hw31 hgD1
    have HB31 := Lib.hid (HB30.out.step hb31)
    have O := Lib.hid (O.out.below hb31)
    have BXR := Lib.hid (heap_below BXR.out hb31)
    have BXo := Lib.hid (heap_below BXo.out hb31)
    clear hb31
    have hnD := num_one1 w30
    rw [← HW31.out, ← HGD1.out] at hnD
    have D := Lib.hid hnD; clear hnD hxD1
    have hs := HFD.out w31
    have HS := Lib.hid hs; clear hs
    go_wp2_with fail
    rw [← HW31.out]
    try rw [← HGD1.out]
    (with_reducible refine HS.out.mono ?_); rintro e wx ⟨rfl, rfl⟩
    clear HS
    have hs := HPY.out w31
    have HS := Lib.hid hs; clear hs
    go_wp2_with fail
    (with_reducible refine HS.out.mono ?_); rintro e w33 ⟨v33, rfl, hb33, hn33⟩
    clear HS
    have HB33 := Lib.hid (HB31.out.step hb33)
    have O := Lib.hid (O.out.below hb33)
    have D := Lib.hid (D.out.below hb33)
    have BXR := Lib.hid (heap_below BXR.out hb33)
    have BXo := Lib.hid (heap_below BXo.out hb33)
    have NY := Lib.hid hn33; clear hn33
    clear hb33
    have hs := HPX.out w33
    have HS := Lib.hid hs; clear hs
    go_wp2_with fail
    (with_reducible refine HS.out.mono ?_); rintro e w34 ⟨v34, rfl, hb34, hn34⟩
    clear HS
    have HB34 := Lib.hid (HB33.out.step hb34)
    have O := Lib.hid (O.out.below hb34)
    have D := Lib.hid (D.out.below hb34)
    have NY := Lib.hid (NY.out.below hb34)
    have BXR := Lib.hid (heap_below BXR.out hb34)
    have BXo := Lib.hid (heap_below BXo.out hb34)
    have NX := Lib.hid hn34; clear hn34
    clear hb34
    obtain ⟨eR0, eR1, eR2⟩ := row3 BXR.out
    obtain ⟨fR0, fR1, fR2⟩ := froz3 BXR.out
    go_wp2_with fail
    clear eR0 eR1 eR2 fR0 fR1 fR2
    refine ret_rat2 rfl w.heap.size _ _ _ rfl (put3_heap BXR.out) rfl ?_
    exact ⟨_, rfl, put3_below HB34.out (by omega) _ _ _, isR_zero _⟩
set_option maxRecDepth 100000 in
set_option maxHeartbeats 6400000 in
theorem rpq_bady2_t (l : List UInt8) (w : World)  (hl : l.length ≤ 300) (hdec : ¬ (l.length ≤ 64 ∧ (rdO l).isSome = true)) (m : List UInt8) (hlm : l = 45 :: m) (a b : List UInt8) (hcut : m = a ++ 47 :: b) (hcl : cutL 47 m = some (a, b)) (hbad : parC b ≠ 0) :
    Calls Tryd.prog 14 #[.string ⟨l.toArray⟩] w (RetRE w 0 (.int .i64 2)) := by
  have hb0 := ((Below.refl w.heap.size w).alloc (by first | (simp; done) | (simp; omega)) (.cells #[.bool false, .slice none 0 0, .slice none 0 0] 24))
  have hxR := nest1_0 w (.cells #[.bool false, .slice none 0 0, .slice none 0 0] 24)
  obtain ⟨w0, hw0⟩ : ∃ w0, w0 = (w.alloc (.cells #[.bool false, .slice none 0 0, .slice none 0 0] 24)) := ⟨_, rfl⟩
  rw [← hw0] at hb0 hxR
  have HB0 := Lib.hid hb0; have HW0 := Lib.hid hw0
  have BXR := Lib.hid hxR
  clear hb0 hw0 hxR
  have f1 : decide ((65536 : Int) < (l.length : Int)) = false := decide_eq_false (by omega)
  have hdc := fun wx => rdec_any l wx hl
  obtain ⟨S, hS⟩ : ∃ S : ByteArray, S = ⟨l.toArray⟩ := ⟨_, rfl⟩
  have hsz : S.size = l.length := by rw [hS]; simp [ByteArray.size]
  obtain ⟨oq, hoq⟩ : ∃ oq, oq = oQ (rdO l) := ⟨_, rfl⟩; obtain ⟨ob, hob⟩ : ∃ ob, ob = (rdO l).isSome := ⟨_, rfl⟩
  rw [← hoq, ← hob] at hdc; rw [← hob] at hdec; clear hoq hob
  have hdc2 : ob = false ∨ (ob = true ∧ decide ((l.length : Int) ≤ 64) = false) := by
    cases ob with
    | false => exact .inl rfl
    | true => exact .inr ⟨rfl, decide_eq_false (fun h => hdec ⟨by omega, rfl⟩)⟩
  clear hdec
  have hlm1 : l.length = m.length + 1 := by rw [hlm]; rfl
  have hne : S.toList.isEmpty = false := by rw [hS]; exact bytes_ne (by rw [hlm]; simp)
  have hi0 : ∀ wx : World, (Instr.index 9 (.string S) (.int .i64 0)).run Tryd.prog wx = .ok (.int .u8 45) wx := fun wx => by
    rw [hS]; subst hlm; exact run_index_l (45 :: m) 0 (by simp) wx
  obtain ⟨T, hT⟩ : ∃ T : ByteArray, T = ⟨m.toArray⟩ := ⟨_, rfl⟩
  have htz : T.size = m.length := by rw [hT]; simp [ByteArray.size]
  have hsl : ∀ wx : World, (Instr.slice 9 (.string S) (some (.int .i64 1)) none none).run Tryd.prog wx = .ok (.string T) wx := fun wx => by rw [hS, hT, hlm]; exact run_from1 45 m (by omega) wx
  have hfd := fun wx => rfind_any 47 47 m wx rfl (by omega)
  have hfn : fnd 47 m = (a.length : Int) := by unfold fnd; rw [hcl]
  rw [hfn] at hfd
  have htl : m.length = a.length + (b.length + 1) := by rw [hcut]; simp
  have g1 : decide ((0 : Int) ≤ (a.length : Int)) = true := decide_eq_true (by omega)
  obtain ⟨A, hA⟩ : ∃ A : ByteArray, A = ⟨a.toArray⟩ := ⟨_, rfl⟩; obtain ⟨B, hB⟩ : ∃ B : ByteArray, B = ⟨b.toArray⟩ := ⟨_, rfl⟩
  have hs1 : ∀ wx : World, (Instr.slice 9 (.string T) none (some (.int .i64 (a.length : Int))) none).run Tryd.prog wx = .ok (.string A) wx := fun wx => by rw [hT, hA, hcut]; exact run_to a _ wx
  have hs2 : ∀ wx : World, (Instr.slice 9 (.string T) (some (.int .i64 ((a.length : Int) + 1))) none none).run Tryd.prog wx = .ok (.string B) wx := fun wx => by rw [hT, hB, hcut]; exact run_from a 47 b wx
  have hpX := fun wx => rparse_any a wx (.inl (by omega)); have hpY := fun wx => rparse_any b wx (.inl (by omega))
  have hwx := parV_len (l := a) (K := 300) (by omega); have hwy := parV_len (l := b) (K := 300) (by omega)
  rw [← hA] at hpX; rw [← hB] at hpY
  obtain ⟨EX, hEX⟩ : ∃ E, E = parC a := ⟨_, rfl⟩; obtain ⟨VX, hVX⟩ : ∃ V, V = parV a := ⟨_, rfl⟩
  rw [← hEX, ← hVX] at hpX; rw [← hVX] at hwx
  obtain ⟨EY, hEY⟩ : ∃ E, E = parC b := ⟨_, rfl⟩; obtain ⟨VY, hVY⟩ : ∃ V, V = parV b := ⟨_, rfl⟩
  rw [← hEY, ← hVY] at hpY; rw [← hVY] at hwy
  rw [← hEY] at hbad
  have g9 : ((EY : Int) != 0) = true := by simp; omega
  clear hEX hVX hEY hVY
  rw [← hS] at hdc; rw [← hT] at hfd; rw [← hS]
  have HDC := Lib.hid hdc; have HFD := Lib.hid hfd; have HPX := Lib.hid hpX; clear hdc hfd hfn hS hlm hcut hpX hT
  have HPY := Lib.hid hpY; clear hpY hA hB hcl
  have hla : a.length ≤ 300 := by omega
  clear htz hlm1 htl
  rcases hdc2 with rfl | ⟨rfl, f2⟩
  · go_enter Tryd.func14, Tryd.ntmps14
    have hs := HDC.out w0
    have HS := Lib.hid hs; clear hs
    go_wp2_with fail
    rw [← HW0.out]
    (with_reducible refine HS.out.mono ?_); rintro e w1 ⟨v1, rfl, hb1, hn1⟩
    clear HS
    have HB1 := Lib.hid (HB0.out.step hb1)
    have BXR := Lib.hid (heap_below BXR.out hb1)
    have O := Lib.hid hn1; clear hn1
    clear hb1
    obtain ⟨sO, oO, nO, cO, aO, mO, dO, rfl⟩ := O.out.shape
    obtain ⟨w2, hw2⟩ : ∃ w2, w2 = w1.alloc (.cells #[.bool sO, .slice oO nO cO, .slice aO mO dO] 24) := ⟨_, rfl⟩
    have hb2 : Below w1.heap.size w1 w2 := by rw [hw2]; exact (Below.refl _ _).alloc (Nat.le_refl _) _
    have hxo := heap_alloc_new w1 (.cells #[.bool sO, .slice oO nO cO, .slice aO mO dO] 24)
    obtain ⟨go, hgo⟩ : ∃ go, go = w1.heap.size := ⟨_, rfl⟩
    rw [← hw2, ← hgo] at hxo
    have HW2 := Lib.hid hw2; have HGo := Lib.hid hgo; clear hw2 hgo
    have HB2 := Lib.hid (HB1.out.step hb2)
    have O := Lib.hid (O.out.below hb2)
    have BXR := Lib.hid (heap_below BXR.out hb2)
    clear hb2
    have BXo := Lib.hid hxo; clear hxo
    go_wp2_with fail
    rw [← HW2.out]
    try rw [← HGo.out]
    go_quiet (fail)
    have hb30 : Below w2.heap.size w2 (w2.drewN nq) := below_drewN (Below.refl _ _) _
    obtain ⟨w30, hw30⟩ : ∃ w30, w30 = w2.drewN nq := ⟨_, rfl⟩
    rw [← hw30] at hb30 ⊢; clear hw30
    have HB30 := Lib.hid (HB2.out.step hb30)
    have O := Lib.hid (O.out.below hb30)
    have BXR := Lib.hid (heap_below BXR.out hb30)
    have BXo := Lib.hid (heap_below BXo.out hb30)
    clear hb30
    obtain ⟨w31, hw31⟩ : ∃ w31, w31 = w30.alloc (.cells #[.int .u32 1] 57) := ⟨_, rfl⟩
    have hb31 : Below w30.heap.size w30 w31 := by rw [hw31]; exact (Below.refl _ _).alloc (Nat.le_refl _) _
    have hxD1 := heap_alloc_new w30 (.cells #[.int .u32 1] 57)
    obtain ⟨gD1, hgD1⟩ : ∃ gD1, gD1 = w30.heap.size := ⟨_, rfl⟩
    rw [← hw31, ← hgD1] at hxD1
    have HW31 := Lib.hid hw31; have HGD1 := Lib.hid hgD1; clear hw31 hgD1
    have HB31 := Lib.hid (HB30.out.step hb31)
    have O := Lib.hid (O.out.below hb31)
    have BXR := Lib.hid (heap_below BXR.out hb31)
    have BXo := Lib.hid (heap_below BXo.out hb31)
    clear hb31
    have hnD := num_one1 w30
    rw [← HW31.out, ← HGD1.out] at hnD
    have D := Lib.hid hnD; clear hnD hxD1
    have hs := HFD.out w31
    have HS := Lib.hid hs; clear hs
    go_wp2_with fail
    rw [← HW31.out]
    try rw [← HGD1.out]
    (with_reducible refine HS.out.mono ?_); rintro e wx ⟨rfl, rfl⟩
    clear HS
    have hs := HPY.out w31
    have HS := Lib.hid hs; clear hs
    go_wp2_with fail
    (with_reducible refine HS.out.mono ?_); rintro e w33 ⟨v33, rfl, hb33, hn33⟩
    clear HS
    have HB33 := Lib.hid (HB31.out.step hb33)
    have O := Lib.hid (O.out.below hb33)
    have D := Lib.hid (D.out.below hb33)
    have BXR := Lib.hid (heap_below BXR.out hb33)
    have BXo := Lib.hid (heap_below BXo.out hb33)
    have NY := Lib.hid hn33; clear hn33
    clear hb33
    have hs := HPX.out w33
    have HS := Lib.hid hs; clear hs
    go_wp2_with fail
    (with_reducible refine HS.out.mono ?_); rintro e w34 ⟨v34, rfl, hb34, hn34⟩
    clear HS
    have HB34 := Lib.hid (HB33.out.step hb34)
    have O := Lib.hid (O.out.below hb34)
    have D := Lib.hid (D.out.below hb34)
    have NY := Lib.hid (NY.out.below hb34)
    have BXR := Lib.hid (heap_below BXR.out hb34)
    have BXo := Lib.hid (heap_below BXo.out hb34)
    have NX := Lib.hid hn34; clear hn34
    clear hb34
    obtain ⟨eR0, eR1, eR2⟩ := row3 BXR.out
    obtain ⟨fR0, fR1, fR2⟩ := froz3 BXR.out
    go_wp2_with fail
    clear eR0 eR1 eR2 fR0 fR1 fR2
    refine ret_rat2 rfl w.heap.size _ _ _ rfl (put3_heap BXR.out) rfl ?_
    exact ⟨_, rfl, put3_below HB34.out (by omega) _ _ _, isR_zero _⟩
  · go_enter Tryd.func14, Tryd.ntmps14
    have hs := HDC.out w0
    have HS := Lib.hid hs; clear hs
    go_wp2_with fail
    rw [← HW0.out]
    (with_reducible refine HS.out.mono ?_); rintro e w1 ⟨v1, rfl, hb1, hn1⟩
    clear HS
    have HB1 := Lib.hid (HB0.out.step hb1)
    have BXR := Lib.hid (heap_below BXR.out hb1)
    have O := Lib.hid hn1; clear hn1
    clear hb1
    obtain ⟨sO, oO, nO, cO, aO, mO, dO, rfl⟩ := O.out.shape
    obtain ⟨w2, hw2⟩ : ∃ w2, w2 = w1.alloc (.cells #[.bool sO, .slice oO nO cO, .slice aO mO dO] 24) := ⟨_, rfl⟩
    have hb2 : Below w1.heap.size w1 w2 := by rw [hw2]; exact (Below.refl _ _).alloc (Nat.le_refl _) _
    have hxo := heap_alloc_new w1 (.cells #[.bool sO, .slice oO nO cO, .slice aO mO dO] 24)
    obtain ⟨go, hgo⟩ : ∃ go, go = w1.heap.size := ⟨_, rfl⟩
    rw [← hw2, ← hgo] at hxo
    have HW2 := Lib.hid hw2; have HGo := Lib.hid hgo; clear hw2 hgo
    have HB2 := Lib.hid (HB1.out.step hb2)
    have O := Lib.hid (O.out.below hb2)
    have BXR := Lib.hid (heap_below BXR.out hb2)
    clear hb2
    have BXo := Lib.hid hxo; clear hxo
    go_wp2_with fail
    rw [← HW2.out]
    try rw [← HGo.out]
    go_quiet (fail)
    have hb30 : Below w2.heap.size w2 (w2.drewN nq) := below_drewN (Below.refl _ _) _
    obtain ⟨w30, hw30⟩ : ∃ w30, w30 = w2.drewN nq := ⟨_, rfl⟩
    rw [← hw30] at hb30 ⊢; clear hw30
    have HB30 := Lib.hid (HB2.out.step hb30)
    have O := Lib.hid (O.out.below hb30)
    have BXR := Lib.hid (heap_below BXR.out hb30)
    have BXo := Lib.hid (heap_below BXo.out hb30)
    clear hb30
    obtain ⟨w31, hw31⟩ : ∃ w31, w31 = w30.alloc (.cells #[.int .u32 1] 57) := ⟨_, rfl⟩
    have hb31 : Below w30.heap.size w30 w31 := by rw [hw31]; exact (Below.refl _ _).alloc (Nat.le_refl _) _
    have hxD1 := heap_alloc_new w30 (.cells #[.int .u32 1] 57)
    obtain ⟨gD1, hgD1⟩ : ∃ gD1, gD1 = w30.heap.size := ⟨_, rfl⟩
    rw [← hw31, ← hgD1] at hxD1
    have HW31 := Lib.hid hw31; have HGD1 := Lib.hid hgD1; clear hw31 hgD1
    have HB31 := Lib.hid (HB30.out.step hb31)
    have O := Lib.hid (O.out.below hb31)
    have BXR := Lib.hid (heap_below BXR.out hb31)
    have BXo := Lib.hid (heap_below BXo.out hb31)
    clear hb31
    have hnD := num_one1 w30
    rw [← HW31.out, ← HGD1.out] at hnD
    have D := Lib.hid hnD; clear hnD hxD1
    have hs := HFD.out w31
    have HS := Lib.hid hs; clear hs
    go_wp2_with fail
    rw [← HW31.out]
    try rw [← HGD1.out]
    (with_reducible refine HS.out.mono ?_); rintro e wx ⟨rfl, rfl⟩
    clear HS
    have hs := HPY.out w31
    have HS := Lib.hid hs; clear hs
    go_wp2_with fail
    (with_reducible refine HS.out.mono ?_); rintro e w33 ⟨v33, rfl, hb33, hn33⟩
    clear HS
    have HB33 := Lib.hid (HB31.out.step hb33)
    have O := Lib.hid (O.out.below hb33)
    have D := Lib.hid (D.out.below hb33)
    have BXR := Lib.hid (heap_below BXR.out hb33)
    have BXo := Lib.hid (heap_below BXo.out hb33)
    have NY := Lib.hid hn33; clear hn33
    clear hb33
    have hs := HPX.out w33
    have HS := Lib.hid hs; clear hs
    go_wp2_with fail
    (with_reducible refine HS.out.mono ?_); rintro e w34 ⟨v34, rfl, hb34, hn34⟩
    clear HS
    have HB34 := Lib.hid (HB33.out.step hb34)
    have O := Lib.hid (O.out.below hb34)
    have D := Lib.hid (D.out.below hb34)
    have NY := Lib.hid (NY.out.below hb34)
    have BXR := Lib.hid (heap_below BXR.out hb34)
    have BXo := Lib.hid (heap_below BXo.out hb34)
    have NX := Lib.hid hn34; clear hn34
    clear hb34
    obtain ⟨eR0, eR1, eR2⟩ := row3 BXR.out
    obtain ⟨fR0, fR1, fR2⟩ := froz3 BXR.out
    go_wp2_with fail
    clear eR0 eR1 eR2 fR0 fR1 fR2
    refine ret_rat2 rfl w.heap.size _ _ _ rfl (put3_heap BXR.out) rfl ?_
    exact ⟨_, rfl, put3_below HB34.out (by omega) _ _ _, isR_zero _⟩
set_option maxRecDepth 100000 in
set_option maxHeartbeats 6400000 in
theorem rpq_zero2_t (l : List UInt8) (w : World)  (hl : l.length ≤ 300) (hdec : ¬ (l.length ≤ 64 ∧ (rdO l).isSome = true)) (m : List UInt8) (hlm : l = 45 :: m) (a b : List UInt8) (hcut : m = a ++ 47 :: b) (hcl : cutL 47 m = some (a, b)) (hpx : parC a = 0) (hpy : parC b = 0) (hvy : parV b = 0) :
    Calls Tryd.prog 14 #[.string ⟨l.toArray⟩] w (RetRE w 0 (.int .i64 2)) := by
  have hb0 := ((Below.refl w.heap.size w).alloc (by first | (simp; done) | (simp; omega)) (.cells #[.bool false, .slice none 0 0, .slice none 0 0] 24))
  have hxR := nest1_0 w (.cells #[.bool false, .slice none 0 0, .slice none 0 0] 24)
  obtain ⟨w0, hw0⟩ : ∃ w0, w0 = (w.alloc (.cells #[.bool false, .slice none 0 0, .slice none 0 0] 24)) := ⟨_, rfl⟩
  rw [← hw0] at hb0 hxR
  have HB0 := Lib.hid hb0; have HW0 := Lib.hid hw0
  have BXR := Lib.hid hxR
  clear hb0 hw0 hxR
  have f1 : decide ((65536 : Int) < (l.length : Int)) = false := decide_eq_false (by omega)
  have hdc := fun wx => rdec_any l wx hl
  obtain ⟨S, hS⟩ : ∃ S : ByteArray, S = ⟨l.toArray⟩ := ⟨_, rfl⟩
  have hsz : S.size = l.length := by rw [hS]; simp [ByteArray.size]
  obtain ⟨oq, hoq⟩ : ∃ oq, oq = oQ (rdO l) := ⟨_, rfl⟩; obtain ⟨ob, hob⟩ : ∃ ob, ob = (rdO l).isSome := ⟨_, rfl⟩
  rw [← hoq, ← hob] at hdc; rw [← hob] at hdec; clear hoq hob
  have hdc2 : ob = false ∨ (ob = true ∧ decide ((l.length : Int) ≤ 64) = false) := by
    cases ob with
    | false => exact .inl rfl
    | true => exact .inr ⟨rfl, decide_eq_false (fun h => hdec ⟨by omega, rfl⟩)⟩
  clear hdec
  have hlm1 : l.length = m.length + 1 := by rw [hlm]; rfl
  have hne : S.toList.isEmpty = false := by rw [hS]; exact bytes_ne (by rw [hlm]; simp)
  have hi0 : ∀ wx : World, (Instr.index 9 (.string S) (.int .i64 0)).run Tryd.prog wx = .ok (.int .u8 45) wx := fun wx => by
    rw [hS]; subst hlm; exact run_index_l (45 :: m) 0 (by simp) wx
  obtain ⟨T, hT⟩ : ∃ T : ByteArray, T = ⟨m.toArray⟩ := ⟨_, rfl⟩
  have htz : T.size = m.length := by rw [hT]; simp [ByteArray.size]
  have hsl : ∀ wx : World, (Instr.slice 9 (.string S) (some (.int .i64 1)) none none).run Tryd.prog wx = .ok (.string T) wx := fun wx => by rw [hS, hT, hlm]; exact run_from1 45 m (by omega) wx
  have hfd := fun wx => rfind_any 47 47 m wx rfl (by omega)
  have hfn : fnd 47 m = (a.length : Int) := by unfold fnd; rw [hcl]
  rw [hfn] at hfd
  have htl : m.length = a.length + (b.length + 1) := by rw [hcut]; simp
  have g1 : decide ((0 : Int) ≤ (a.length : Int)) = true := decide_eq_true (by omega)
  obtain ⟨A, hA⟩ : ∃ A : ByteArray, A = ⟨a.toArray⟩ := ⟨_, rfl⟩; obtain ⟨B, hB⟩ : ∃ B : ByteArray, B = ⟨b.toArray⟩ := ⟨_, rfl⟩
  have hs1 : ∀ wx : World, (Instr.slice 9 (.string T) none (some (.int .i64 (a.length : Int))) none).run Tryd.prog wx = .ok (.string A) wx := fun wx => by rw [hT, hA, hcut]; exact run_to a _ wx
  have hs2 : ∀ wx : World, (Instr.slice 9 (.string T) (some (.int .i64 ((a.length : Int) + 1))) none none).run Tryd.prog wx = .ok (.string B) wx := fun wx => by rw [hT, hB, hcut]; exact run_from a 47 b wx
  have hpX := fun wx => rparse_any a wx (.inl (by omega)); have hpY := fun wx => rparse_any b wx (.inl (by omega))
  have hwx := parV_len (l := a) (K := 300) (by omega); have hwy := parV_len (l := b) (K := 300) (by omega)
  rw [← hA] at hpX; rw [← hB] at hpY
  obtain ⟨EX, hEX⟩ : ∃ E, E = parC a := ⟨_, rfl⟩; obtain ⟨VX, hVX⟩ : ∃ V, V = parV a := ⟨_, rfl⟩
  rw [← hEX, ← hVX] at hpX; rw [← hVX] at hwx
  obtain ⟨EY, hEY⟩ : ∃ E, E = parC b := ⟨_, rfl⟩; obtain ⟨VY, hVY⟩ : ∃ V, V = parV b := ⟨_, rfl⟩
  rw [← hEY, ← hVY] at hpY; rw [← hVY] at hwy
  rw [← hEX] at hpx
  rw [← hEY] at hpy
  rw [← hVY] at hvy
  clear hEX hVX hEY hVY
  subst hpx
  subst hpy
  subst hvy
  rw [← hS] at hdc; rw [← hT] at hfd; rw [← hS]
  have HDC := Lib.hid hdc; have HFD := Lib.hid hfd; have HPX := Lib.hid hpX; clear hdc hfd hfn hS hlm hcut hpX hT
  have HPY := Lib.hid hpY; clear hpY hA hB hcl
  have hla : a.length ≤ 300 := by omega
  clear htz hlm1 htl
  rcases hdc2 with rfl | ⟨rfl, f2⟩
  · go_enter Tryd.func14, Tryd.ntmps14
    have hs := HDC.out w0
    have HS := Lib.hid hs; clear hs
    go_wp2_with fail
    rw [← HW0.out]
    (with_reducible refine HS.out.mono ?_); rintro e w1 ⟨v1, rfl, hb1, hn1⟩
    clear HS
    have HB1 := Lib.hid (HB0.out.step hb1)
    have BXR := Lib.hid (heap_below BXR.out hb1)
    have O := Lib.hid hn1; clear hn1
    clear hb1
    obtain ⟨sO, oO, nO, cO, aO, mO, dO, rfl⟩ := O.out.shape
    obtain ⟨w2, hw2⟩ : ∃ w2, w2 = w1.alloc (.cells #[.bool sO, .slice oO nO cO, .slice aO mO dO] 24) := ⟨_, rfl⟩
    have hb2 : Below w1.heap.size w1 w2 := by rw [hw2]; exact (Below.refl _ _).alloc (Nat.le_refl _) _
    have hxo := heap_alloc_new w1 (.cells #[.bool sO, .slice oO nO cO, .slice aO mO dO] 24)
    obtain ⟨go, hgo⟩ : ∃ go, go = w1.heap.size := ⟨_, rfl⟩
    rw [← hw2, ← hgo] at hxo
    have HW2 := Lib.hid hw2; have HGo := Lib.hid hgo; clear hw2 hgo
    have HB2 := Lib.hid (HB1.out.step hb2)
    have O := Lib.hid (O.out.below hb2)
    have BXR := Lib.hid (heap_below BXR.out hb2)
    clear hb2
    have BXo := Lib.hid hxo; clear hxo
    go_wp2_with fail
    rw [← HW2.out]
    try rw [← HGo.out]
    go_quiet (fail)
    have hb30 : Below w2.heap.size w2 (w2.drewN nq) := below_drewN (Below.refl _ _) _
    obtain ⟨w30, hw30⟩ : ∃ w30, w30 = w2.drewN nq := ⟨_, rfl⟩
    rw [← hw30] at hb30 ⊢; clear hw30
    have HB30 := Lib.hid (HB2.out.step hb30)
    have O := Lib.hid (O.out.below hb30)
    have BXR := Lib.hid (heap_below BXR.out hb30)
    have BXo := Lib.hid (heap_below BXo.out hb30)
    clear hb30
    obtain ⟨w31, hw31⟩ : ∃ w31, w31 = w30.alloc (.cells #[.int .u32 1] 57) := ⟨_, rfl⟩
    have hb31 : Below w30.heap.size w30 w31 := by rw [hw31]; exact (Below.refl _ _).alloc (Nat.le_refl _) _
    have hxD1 := heap_alloc_new w30 (.cells #[.int .u32 1] 57)
    obtain ⟨gD1, hgD1⟩ : ∃ gD1, gD1 = w30.heap.size := ⟨_, rfl⟩
    rw [← hw31, ← hgD1] at hxD1
    have HW31 := Lib.hid hw31; have HGD1 := Lib.hid hgD1; clear hw31 hgD1
    have HB31 := Lib.hid (HB30.out.step hb31)
    have O := Lib.hid (O.out.below hb31)
    have BXR := Lib.hid (heap_below BXR.out hb31)
    have BXo := Lib.hid (heap_below BXo.out hb31)
    clear hb31
    have hnD := num_one1 w30
    rw [← HW31.out, ← HGD1.out] at hnD
    have D := Lib.hid hnD; clear hnD hxD1
    have hs := HFD.out w31
    have HS := Lib.hid hs; clear hs
    go_wp2_with fail
    rw [← HW31.out]
    try rw [← HGD1.out]
    (with_reducible refine HS.out.mono ?_); rintro e wx ⟨rfl, rfl⟩
    clear HS
    have hs := HPY.out w31
    have HS := Lib.hid hs; clear hs
    go_wp2_with fail
    (with_reducible refine HS.out.mono ?_); rintro e w33 ⟨v33, rfl, hb33, hn33⟩
    clear HS
    have HB33 := Lib.hid (HB31.out.step hb33)
    have O := Lib.hid (O.out.below hb33)
    have D := Lib.hid (D.out.below hb33)
    have BXR := Lib.hid (heap_below BXR.out hb33)
    have BXo := Lib.hid (heap_below BXo.out hb33)
    have NY := Lib.hid hn33; clear hn33
    clear hb33
    have hs := HPX.out w33
    have HS := Lib.hid hs; clear hs
    go_wp2_with fail
    (with_reducible refine HS.out.mono ?_); rintro e w34 ⟨v34, rfl, hb34, hn34⟩
    clear HS
    have HB34 := Lib.hid (HB33.out.step hb34)
    have O := Lib.hid (O.out.below hb34)
    have D := Lib.hid (D.out.below hb34)
    have NY := Lib.hid (NY.out.below hb34)
    have BXR := Lib.hid (heap_below BXR.out hb34)
    have BXo := Lib.hid (heap_below BXo.out hb34)
    have NX := Lib.hid hn34; clear hn34
    clear hb34
    have hs := rfromN true NX.out NY.out (by omega) (by have := wd_one_len; omega)
    rw [show zc 0 = 8 from rfl] at hs
    have HS := Lib.hid hs; clear hs
    go_wp2_with fail
    (with_reducible refine HS.out.mono ?_); rintro e w35 ⟨v35, rfl, hb35, hn35⟩
    clear HS
    have HB35 := Lib.hid (HB34.out.step hb35)
    have O := Lib.hid (O.out.below hb35)
    have D := Lib.hid (D.out.below hb35)
    have NY := Lib.hid (NY.out.below hb35)
    have NX := Lib.hid (NX.out.below hb35)
    have BXR := Lib.hid (heap_below BXR.out hb35)
    have BXo := Lib.hid (heap_below BXo.out hb35)
    have Q := Lib.hid hn35; clear hn35
    clear hb35
    obtain ⟨sQ, oQ, nQ, cQ, aQ, mQ, dQ, rfl⟩ := Q.out.shape
    obtain ⟨w36, hw36⟩ : ∃ w36, w36 = w35.alloc (.cells #[.bool sQ, .slice oQ nQ cQ, .slice aQ mQ dQ] 24) := ⟨_, rfl⟩
    have hb36 : Below w35.heap.size w35 w36 := by rw [hw36]; exact (Below.refl _ _).alloc (Nat.le_refl _) _
    have hxx := heap_alloc_new w35 (.cells #[.bool sQ, .slice oQ nQ cQ, .slice aQ mQ dQ] 24)
    obtain ⟨gx, hgx⟩ : ∃ gx, gx = w35.heap.size := ⟨_, rfl⟩
    rw [← hw36, ← hgx] at hxx
    have HW36 := Lib.hid hw36; have HGx := Lib.hid hgx; clear hw36 hgx
    have HB36 := Lib.hid (HB35.out.step hb36)
    have O := Lib.hid (O.out.below hb36)
    have D := Lib.hid (D.out.below hb36)
    have NY := Lib.hid (NY.out.below hb36)
    have NX := Lib.hid (NX.out.below hb36)
    have Q := Lib.hid (Q.out.below hb36)
    have BXR := Lib.hid (heap_below BXR.out hb36)
    have BXo := Lib.hid (heap_below BXo.out hb36)
    clear hb36
    have BXx := Lib.hid hxx; clear hxx
    obtain ⟨eR0, eR1, eR2⟩ := row3 BXR.out
    obtain ⟨fR0, fR1, fR2⟩ := froz3 BXR.out
    rw [HW36.out] at eR0
    rw [HW36.out] at eR1
    rw [HW36.out] at eR2
    rw [HW36.out] at fR0
    rw [HW36.out] at fR1
    rw [HW36.out] at fR2
    go_wp2_with fail
    rw [← HW36.out]
    try rw [← HGx.out]
    clear eR0 eR1 eR2 fR0 fR1 fR2
    refine ret_rat2 rfl w.heap.size _ _ _ rfl (put3_heap BXR.out) rfl ?_
    exact ⟨_, rfl, put3_below HB36.out (by omega) _ _ _, isR_zero _⟩
  · go_enter Tryd.func14, Tryd.ntmps14
    have hs := HDC.out w0
    have HS := Lib.hid hs; clear hs
    go_wp2_with fail
    rw [← HW0.out]
    (with_reducible refine HS.out.mono ?_); rintro e w1 ⟨v1, rfl, hb1, hn1⟩
    clear HS
    have HB1 := Lib.hid (HB0.out.step hb1)
    have BXR := Lib.hid (heap_below BXR.out hb1)
    have O := Lib.hid hn1; clear hn1
    clear hb1
    obtain ⟨sO, oO, nO, cO, aO, mO, dO, rfl⟩ := O.out.shape
    obtain ⟨w2, hw2⟩ : ∃ w2, w2 = w1.alloc (.cells #[.bool sO, .slice oO nO cO, .slice aO mO dO] 24) := ⟨_, rfl⟩
    have hb2 : Below w1.heap.size w1 w2 := by rw [hw2]; exact (Below.refl _ _).alloc (Nat.le_refl _) _
    have hxo := heap_alloc_new w1 (.cells #[.bool sO, .slice oO nO cO, .slice aO mO dO] 24)
    obtain ⟨go, hgo⟩ : ∃ go, go = w1.heap.size := ⟨_, rfl⟩
    rw [← hw2, ← hgo] at hxo
    have HW2 := Lib.hid hw2; have HGo := Lib.hid hgo; clear hw2 hgo
    have HB2 := Lib.hid (HB1.out.step hb2)
    have O := Lib.hid (O.out.below hb2)
    have BXR := Lib.hid (heap_below BXR.out hb2)
    clear hb2
    have BXo := Lib.hid hxo; clear hxo
    go_wp2_with fail
    rw [← HW2.out]
    try rw [← HGo.out]
    go_quiet (fail)
    have hb30 : Below w2.heap.size w2 (w2.drewN nq) := below_drewN (Below.refl _ _) _
    obtain ⟨w30, hw30⟩ : ∃ w30, w30 = w2.drewN nq := ⟨_, rfl⟩
    rw [← hw30] at hb30 ⊢; clear hw30
    have HB30 := Lib.hid (HB2.out.step hb30)
    have O := Lib.hid (O.out.below hb30)
    have BXR := Lib.hid (heap_below BXR.out hb30)
    have BXo := Lib.hid (heap_below BXo.out hb30)
    clear hb30
    obtain ⟨w31, hw31⟩ : ∃ w31, w31 = w30.alloc (.cells #[.int .u32 1] 57) := ⟨_, rfl⟩
    have hb31 : Below w30.heap.size w30 w31 := by rw [hw31]; exact (Below.refl _ _).alloc (Nat.le_refl _) _
    have hxD1 := heap_alloc_new w30 (.cells #[.int .u32 1] 57)
    obtain ⟨gD1, hgD1⟩ : ∃ gD1, gD1 = w30.heap.size := ⟨_, rfl⟩
    rw [← hw31, ← hgD1] at hxD1
    have HW31 := Lib.hid hw31; have HGD1 := Lib.hid hgD1; clear hw31 hgD1
    have HB31 := Lib.hid (HB30.out.step hb31)
    have O := Lib.hid (O.out.below hb31)
    have BXR := Lib.hid (heap_below BXR.out hb31)
    have BXo := Lib.hid (heap_below BXo.out hb31)
    clear hb31
    have hnD := num_one1 w30
    rw [← HW31.out, ← HGD1.out] at hnD
    have D := Lib.hid hnD; clear hnD hxD1
    have hs := HFD.out w31
    have HS := Lib.hid hs; clear hs
    go_wp2_with fail
    rw [← HW31.out]
    try rw [← HGD1.out]
    (with_reducible refine HS.out.mono ?_); rintro e wx ⟨rfl, rfl⟩
    clear HS
    have hs := HPY.out w31
    have HS := Lib.hid hs; clear hs
    go_wp2_with fail
    (with_reducible refine HS.out.mono ?_); rintro e w33 ⟨v33, rfl, hb33, hn33⟩
    clear HS
    have HB33 := Lib.hid (HB31.out.step hb33)
    have O := Lib.hid (O.out.below hb33)
    have D := Lib.hid (D.out.below hb33)
    have BXR := Lib.hid (heap_below BXR.out hb33)
    have BXo := Lib.hid (heap_below BXo.out hb33)
    have NY := Lib.hid hn33; clear hn33
    clear hb33
    have hs := HPX.out w33
    have HS := Lib.hid hs; clear hs
    go_wp2_with fail
    (with_reducible refine HS.out.mono ?_); rintro e w34 ⟨v34, rfl, hb34, hn34⟩
    clear HS
    have HB34 := Lib.hid (HB33.out.step hb34)
    have O := Lib.hid (O.out.below hb34)
    have D := Lib.hid (D.out.below hb34)
    have NY := Lib.hid (NY.out.below hb34)
    have BXR := Lib.hid (heap_below BXR.out hb34)
    have BXo := Lib.hid (heap_below BXo.out hb34)
    have NX := Lib.hid hn34; clear hn34
    clear hb34
    have hs := rfromN true NX.out NY.out (by omega) (by have := wd_one_len; omega)
    rw [show zc 0 = 8 from rfl] at hs
    have HS := Lib.hid hs; clear hs
    go_wp2_with fail
    (with_reducible refine HS.out.mono ?_); rintro e w35 ⟨v35, rfl, hb35, hn35⟩
    clear HS
    have HB35 := Lib.hid (HB34.out.step hb35)
    have O := Lib.hid (O.out.below hb35)
    have D := Lib.hid (D.out.below hb35)
    have NY := Lib.hid (NY.out.below hb35)
    have NX := Lib.hid (NX.out.below hb35)
    have BXR := Lib.hid (heap_below BXR.out hb35)
    have BXo := Lib.hid (heap_below BXo.out hb35)
    have Q := Lib.hid hn35; clear hn35
    clear hb35
    obtain ⟨sQ, oQ, nQ, cQ, aQ, mQ, dQ, rfl⟩ := Q.out.shape
    obtain ⟨w36, hw36⟩ : ∃ w36, w36 = w35.alloc (.cells #[.bool sQ, .slice oQ nQ cQ, .slice aQ mQ dQ] 24) := ⟨_, rfl⟩
    have hb36 : Below w35.heap.size w35 w36 := by rw [hw36]; exact (Below.refl _ _).alloc (Nat.le_refl _) _
    have hxx := heap_alloc_new w35 (.cells #[.bool sQ, .slice oQ nQ cQ, .slice aQ mQ dQ] 24)
    obtain ⟨gx, hgx⟩ : ∃ gx, gx = w35.heap.size := ⟨_, rfl⟩
    rw [← hw36, ← hgx] at hxx
    have HW36 := Lib.hid hw36; have HGx := Lib.hid hgx; clear hw36 hgx
    have HB36 := Lib.hid (HB35.out.step hb36)
    have O := Lib.hid (O.out.below hb36)
    have D := Lib.hid (D.out.below hb36)
    have NY := Lib.hid (NY.out.below hb36)
    have NX := Lib.hid (NX.out.below hb36)
    have Q := Lib.hid (Q.out.below hb36)
    have BXR := Lib.hid (heap_below BXR.out hb36)
    have BXo := Lib.hid (heap_below BXo.out hb36)
    clear hb36
    have BXx := Lib.hid hxx; clear hxx
    obtain ⟨eR0, eR1, eR2⟩ := row3 BXR.out
    obtain ⟨fR0, fR1, fR2⟩ := froz3 BXR.out
    rw [HW36.out] at eR0
    rw [HW36.out] at eR1
    rw [HW36.out] at eR2
    rw [HW36.out] at fR0
    rw [HW36.out] at fR1
    rw [HW36.out] at fR2
    go_wp2_with fail
    rw [← HW36.out]
    try rw [← HGx.out]
    clear eR0 eR1 eR2 fR0 fR1 fR2
    refine ret_rat2 rfl w.heap.size _ _ _ rfl (put3_heap BXR.out) rfl ?_
    exact ⟨_, rfl, put3_below HB36.out (by omega) _ _ _, isR_zero _⟩
set_option maxRecDepth 100000 in
set_option maxHeartbeats 6400000 in
theorem rpq_differs2_t (l : List UInt8) (w : World)  (hl : l.length ≤ 300) (hdec : ¬ (l.length ≤ 64 ∧ (rdO l).isSome = true)) (m : List UInt8) (hlm : l = 45 :: m) (a b : List UInt8) (hcut : m = a ++ 47 :: b) (hcl : cutL 47 m = some (a, b)) (hpx : parC a = 0) (hpy : parC b = 0) (hvy : parV b ≠ 0) (hr : rtx (qm true (parV a) (parV b)) ≠ l) :
    Calls Tryd.prog 14 #[.string ⟨l.toArray⟩] w (RetRE w 0 (.int .i64 2)) := by
  have hb0 := ((Below.refl w.heap.size w).alloc (by first | (simp; done) | (simp; omega)) (.cells #[.bool false, .slice none 0 0, .slice none 0 0] 24))
  have hxR := nest1_0 w (.cells #[.bool false, .slice none 0 0, .slice none 0 0] 24)
  obtain ⟨w0, hw0⟩ : ∃ w0, w0 = (w.alloc (.cells #[.bool false, .slice none 0 0, .slice none 0 0] 24)) := ⟨_, rfl⟩
  rw [← hw0] at hb0 hxR
  have HB0 := Lib.hid hb0; have HW0 := Lib.hid hw0
  have BXR := Lib.hid hxR
  clear hb0 hw0 hxR
  have f1 : decide ((65536 : Int) < (l.length : Int)) = false := decide_eq_false (by omega)
  have hdc := fun wx => rdec_any l wx hl
  obtain ⟨S, hS⟩ : ∃ S : ByteArray, S = ⟨l.toArray⟩ := ⟨_, rfl⟩
  have hsz : S.size = l.length := by rw [hS]; simp [ByteArray.size]
  obtain ⟨oq, hoq⟩ : ∃ oq, oq = oQ (rdO l) := ⟨_, rfl⟩; obtain ⟨ob, hob⟩ : ∃ ob, ob = (rdO l).isSome := ⟨_, rfl⟩
  rw [← hoq, ← hob] at hdc; rw [← hob] at hdec; clear hoq hob
  have hdc2 : ob = false ∨ (ob = true ∧ decide ((l.length : Int) ≤ 64) = false) := by
    cases ob with
    | false => exact .inl rfl
    | true => exact .inr ⟨rfl, decide_eq_false (fun h => hdec ⟨by omega, rfl⟩)⟩
  clear hdec
  have hlm1 : l.length = m.length + 1 := by rw [hlm]; rfl
  have hne : S.toList.isEmpty = false := by rw [hS]; exact bytes_ne (by rw [hlm]; simp)
  have hi0 : ∀ wx : World, (Instr.index 9 (.string S) (.int .i64 0)).run Tryd.prog wx = .ok (.int .u8 45) wx := fun wx => by
    rw [hS]; subst hlm; exact run_index_l (45 :: m) 0 (by simp) wx
  obtain ⟨T, hT⟩ : ∃ T : ByteArray, T = ⟨m.toArray⟩ := ⟨_, rfl⟩
  have htz : T.size = m.length := by rw [hT]; simp [ByteArray.size]
  have hsl : ∀ wx : World, (Instr.slice 9 (.string S) (some (.int .i64 1)) none none).run Tryd.prog wx = .ok (.string T) wx := fun wx => by rw [hS, hT, hlm]; exact run_from1 45 m (by omega) wx
  have hfd := fun wx => rfind_any 47 47 m wx rfl (by omega)
  have hfn : fnd 47 m = (a.length : Int) := by unfold fnd; rw [hcl]
  rw [hfn] at hfd
  have htl : m.length = a.length + (b.length + 1) := by rw [hcut]; simp
  have g1 : decide ((0 : Int) ≤ (a.length : Int)) = true := decide_eq_true (by omega)
  obtain ⟨A, hA⟩ : ∃ A : ByteArray, A = ⟨a.toArray⟩ := ⟨_, rfl⟩; obtain ⟨B, hB⟩ : ∃ B : ByteArray, B = ⟨b.toArray⟩ := ⟨_, rfl⟩
  have hs1 : ∀ wx : World, (Instr.slice 9 (.string T) none (some (.int .i64 (a.length : Int))) none).run Tryd.prog wx = .ok (.string A) wx := fun wx => by rw [hT, hA, hcut]; exact run_to a _ wx
  have hs2 : ∀ wx : World, (Instr.slice 9 (.string T) (some (.int .i64 ((a.length : Int) + 1))) none none).run Tryd.prog wx = .ok (.string B) wx := fun wx => by rw [hT, hB, hcut]; exact run_from a 47 b wx
  have hpX := fun wx => rparse_any a wx (.inl (by omega)); have hpY := fun wx => rparse_any b wx (.inl (by omega))
  have hwx := parV_len (l := a) (K := 300) (by omega); have hwy := parV_len (l := b) (K := 300) (by omega)
  rw [← hA] at hpX; rw [← hB] at hpY
  obtain ⟨EX, hEX⟩ : ∃ E, E = parC a := ⟨_, rfl⟩; obtain ⟨VX, hVX⟩ : ∃ V, V = parV a := ⟨_, rfl⟩
  rw [← hEX, ← hVX] at hpX; rw [← hVX] at hwx
  obtain ⟨EY, hEY⟩ : ∃ E, E = parC b := ⟨_, rfl⟩; obtain ⟨VY, hVY⟩ : ∃ V, V = parV b := ⟨_, rfl⟩
  rw [← hEY, ← hVY] at hpY; rw [← hVY] at hwy
  rw [← hEX] at hpx
  rw [← hEY] at hpy
  rw [← hVY] at hvy
  rw [← hVX, ← hVY] at hr
  clear hEX hVX hEY hVY
  subst hpx
  subst hpy
  obtain ⟨q, hq⟩ : ∃ q, q = qm true VX VY := ⟨_, rfl⟩
  rw [← hq] at hr
  have hrl : rl q ≤ 300 := by rw [hq]; exact rl_qm hvy hwx hwy
  obtain ⟨TX, hTX⟩ : ∃ A : ByteArray, A = ⟨(rtx q).toArray⟩ := ⟨_, rfl⟩
  have hnx : TX ≠ S := fun e => hr (by rw [hTX, hS] at e; have := congrArg (fun z : ByteArray => z.data.toList) e; simpa using this)
  have hbq : (TX.toList == S.toList) = false := by rw [beq_eq_false_iff_ne, ByteArray.toList_eq, ByteArray.toList_eq]; intro e; exact hnx (ByteArray.ext (Array.toList_inj.1 e))
  have hbq2 : (TX.toList != S.toList) = true := by simp only [bne, hbq, Bool.not_false]
  clear hnx
  have HQ := Lib.hid hq; have HTX := Lib.hid hTX; clear hq hTX hr
  have HVY := Lib.hid hvy; clear hvy
  rw [← hS] at hdc; rw [← hT] at hfd; rw [← hS]
  have HDC := Lib.hid hdc; have HFD := Lib.hid hfd; have HPX := Lib.hid hpX; clear hdc hfd hfn hS hlm hcut hpX hT
  have HPY := Lib.hid hpY; clear hpY hA hB hcl
  have hla : a.length ≤ 300 := by omega
  clear htz hlm1 htl
  rcases hdc2 with rfl | ⟨rfl, f2⟩
  · go_enter Tryd.func14, Tryd.ntmps14
    have hs := HDC.out w0
    have HS := Lib.hid hs; clear hs
    go_wp2_with fail
    rw [← HW0.out]
    (with_reducible refine HS.out.mono ?_); rintro e w1 ⟨v1, rfl, hb1, hn1⟩
    clear HS
    have HB1 := Lib.hid (HB0.out.step hb1)
    have BXR := Lib.hid (heap_below BXR.out hb1)
    have O := Lib.hid hn1; clear hn1
    clear hb1
    obtain ⟨sO, oO, nO, cO, aO, mO, dO, rfl⟩ := O.out.shape
    obtain ⟨w2, hw2⟩ : ∃ w2, w2 = w1.alloc (.cells #[.bool sO, .slice oO nO cO, .slice aO mO dO] 24) := ⟨_, rfl⟩
    have hb2 : Below w1.heap.size w1 w2 := by rw [hw2]; exact (Below.refl _ _).alloc (Nat.le_refl _) _
    have hxo := heap_alloc_new w1 (.cells #[.bool sO, .slice oO nO cO, .slice aO mO dO] 24)
    obtain ⟨go, hgo⟩ : ∃ go, go = w1.heap.size := ⟨_, rfl⟩
    rw [← hw2, ← hgo] at hxo
    have HW2 := Lib.hid hw2; have HGo := Lib.hid hgo; clear hw2 hgo
    have HB2 := Lib.hid (HB1.out.step hb2)
    have O := Lib.hid (O.out.below hb2)
    have BXR := Lib.hid (heap_below BXR.out hb2)
    clear hb2
    have BXo := Lib.hid hxo; clear hxo
    go_wp2_with fail
    rw [← HW2.out]
    try rw [← HGo.out]
    go_quiet (fail)
    have hb30 : Below w2.heap.size w2 (w2.drewN nq) := below_drewN (Below.refl _ _) _
    obtain ⟨w30, hw30⟩ : ∃ w30, w30 = w2.drewN nq := ⟨_, rfl⟩
    rw [← hw30] at hb30 ⊢; clear hw30
    have HB30 := Lib.hid (HB2.out.step hb30)
    have O := Lib.hid (O.out.below hb30)
    have BXR := Lib.hid (heap_below BXR.out hb30)
    have BXo := Lib.hid (heap_below BXo.out hb30)
    clear hb30
    obtain ⟨w31, hw31⟩ : ∃ w31, w31 = w30.alloc (.cells #[.int .u32 1] 57) := ⟨_, rfl⟩
    have hb31 : Below w30.heap.size w30 w31 := by rw [hw31]; exact (Below.refl _ _).alloc (Nat.le_refl _) _
    have hxD1 := heap_alloc_new w30 (.cells #[.int .u32 1] 57)
    obtain ⟨gD1, hgD1⟩ : ∃ gD1, gD1 = w30.heap.size := ⟨_, rfl⟩
    rw [← hw31, ← hgD1] at hxD1
    have HW31 := Lib.hid hw31; have HGD1 := Lib.hid hgD1; clear hw31 hgD1
    have HB31 := Lib.hid (HB30.out.step hb31)
    have O := Lib.hid (O.out.below hb31)
    have BXR := Lib.hid (heap_below BXR.out hb31)
    have BXo := Lib.hid (heap_below BXo.out hb31)
    clear hb31
    have hnD := num_one1 w30
    rw [← HW31.out, ← HGD1.out] at hnD
    have D := Lib.hid hnD; clear hnD hxD1
    have hs := HFD.out w31
    have HS := Lib.hid hs; clear hs
    go_wp2_with fail
    rw [← HW31.out]
    try rw [← HGD1.out]
    (with_reducible refine HS.out.mono ?_); rintro e wx ⟨rfl, rfl⟩
    clear HS
    have hs := HPY.out w31
    have HS := Lib.hid hs; clear hs
    go_wp2_with fail
    (with_reducible refine HS.out.mono ?_); rintro e w33 ⟨v33, rfl, hb33, hn33⟩
    clear HS
    have HB33 := Lib.hid (HB31.out.step hb33)
    have O := Lib.hid (O.out.below hb33)
    have D := Lib.hid (D.out.below hb33)
    have BXR := Lib.hid (heap_below BXR.out hb33)
    have BXo := Lib.hid (heap_below BXo.out hb33)
    have NY := Lib.hid hn33; clear hn33
    clear hb33
    have hs := HPX.out w33
    have HS := Lib.hid hs; clear hs
    go_wp2_with fail
    (with_reducible refine HS.out.mono ?_); rintro e w34 ⟨v34, rfl, hb34, hn34⟩
    clear HS
    have HB34 := Lib.hid (HB33.out.step hb34)
    have O := Lib.hid (O.out.below hb34)
    have D := Lib.hid (D.out.below hb34)
    have NY := Lib.hid (NY.out.below hb34)
    have BXR := Lib.hid (heap_below BXR.out hb34)
    have BXo := Lib.hid (heap_below BXo.out hb34)
    have NX := Lib.hid hn34; clear hn34
    clear hb34
    have hs := rfromN true NX.out NY.out (by omega) (by have := wd_one_len; omega)
    rw [show zc VY = 0 from if_neg HVY.out, ← HQ.out] at hs
    have HS := Lib.hid hs; clear hs
    go_wp2_with fail
    (with_reducible refine HS.out.mono ?_); rintro e w35 ⟨v35, rfl, hb35, hn35⟩
    clear HS
    have HB35 := Lib.hid (HB34.out.step hb35)
    have O := Lib.hid (O.out.below hb35)
    have D := Lib.hid (D.out.below hb35)
    have NY := Lib.hid (NY.out.below hb35)
    have NX := Lib.hid (NX.out.below hb35)
    have BXR := Lib.hid (heap_below BXR.out hb35)
    have BXo := Lib.hid (heap_below BXo.out hb35)
    have Q := Lib.hid hn35; clear hn35
    clear hb35
    obtain ⟨sQ, oQ, nQ, cQ, aQ, mQ, dQ, rfl⟩ := Q.out.shape
    obtain ⟨w36, hw36⟩ : ∃ w36, w36 = w35.alloc (.cells #[.bool sQ, .slice oQ nQ cQ, .slice aQ mQ dQ] 24) := ⟨_, rfl⟩
    have hb36 : Below w35.heap.size w35 w36 := by rw [hw36]; exact (Below.refl _ _).alloc (Nat.le_refl _) _
    have hxx := heap_alloc_new w35 (.cells #[.bool sQ, .slice oQ nQ cQ, .slice aQ mQ dQ] 24)
    obtain ⟨gx, hgx⟩ : ∃ gx, gx = w35.heap.size := ⟨_, rfl⟩
    rw [← hw36, ← hgx] at hxx
    have HW36 := Lib.hid hw36; have HGx := Lib.hid hgx; clear hw36 hgx
    have HB36 := Lib.hid (HB35.out.step hb36)
    have O := Lib.hid (O.out.below hb36)
    have D := Lib.hid (D.out.below hb36)
    have NY := Lib.hid (NY.out.below hb36)
    have NX := Lib.hid (NX.out.below hb36)
    have Q := Lib.hid (Q.out.below hb36)
    have BXR := Lib.hid (heap_below BXR.out hb36)
    have BXo := Lib.hid (heap_below BXo.out hb36)
    clear hb36
    have BXx := Lib.hid hxx; clear hxx
    have hs := rtextq_any _ q w36 (IsR.is Q.out (by omega))
    rw [← HTX.out] at hs
    have HS := Lib.hid hs; clear hs
    obtain ⟨ex0, ex1, ex2⟩ := row3 BXx.out
    rw [HW36.out] at ex0
    rw [HGx.out] at ex0
    rw [HW36.out] at ex1
    rw [HGx.out] at ex1
    rw [HW36.out] at ex2
    rw [HGx.out] at ex2
    go_wp2_with fail
    rw [← HW36.out]
    try rw [← HGx.out]
    clear ex0 ex1 ex2
    (with_reducible refine HS.out.mono ?_); rintro e w37 ⟨rfl, hb37⟩
    clear HS
    have HB37 := Lib.hid (HB36.out.step hb37)
    have O := Lib.hid (O.out.below hb37)
    have D := Lib.hid (D.out.below hb37)
    have NY := Lib.hid (NY.out.below hb37)
    have NX := Lib.hid (NX.out.below hb37)
    have Q := Lib.hid (Q.out.below hb37)
    have BXR := Lib.hid (heap_below BXR.out hb37)
    have BXo := Lib.hid (heap_below BXo.out hb37)
    have BXx := Lib.hid (heap_below BXx.out hb37)
    clear hb37
    obtain ⟨eR0, eR1, eR2⟩ := row3 BXR.out
    obtain ⟨fR0, fR1, fR2⟩ := froz3 BXR.out
    go_wp2_with fail
    clear eR0 eR1 eR2 fR0 fR1 fR2
    refine ret_rat2 rfl w.heap.size _ _ _ rfl (put3_heap BXR.out) rfl ?_
    exact ⟨_, rfl, put3_below HB37.out (by omega) _ _ _, isR_zero _⟩
  · go_enter Tryd.func14, Tryd.ntmps14
    have hs := HDC.out w0
    have HS := Lib.hid hs; clear hs
    go_wp2_with fail
    rw [← HW0.out]
    (with_reducible refine HS.out.mono ?_); rintro e w1 ⟨v1, rfl, hb1, hn1⟩
    clear HS
    have HB1 := Lib.hid (HB0.out.step hb1)
    have BXR := Lib.hid (heap_below BXR.out hb1)
    have O := Lib.hid hn1; clear hn1
    clear hb1
    obtain ⟨sO, oO, nO, cO, aO, mO, dO, rfl⟩ := O.out.shape
    obtain ⟨w2, hw2⟩ : ∃ w2, w2 = w1.alloc (.cells #[.bool sO, .slice oO nO cO, .slice aO mO dO] 24) := ⟨_, rfl⟩
    have hb2 : Below w1.heap.size w1 w2 := by rw [hw2]; exact (Below.refl _ _).alloc (Nat.le_refl _) _
    have hxo := heap_alloc_new w1 (.cells #[.bool sO, .slice oO nO cO, .slice aO mO dO] 24)
    obtain ⟨go, hgo⟩ : ∃ go, go = w1.heap.size := ⟨_, rfl⟩
    rw [← hw2, ← hgo] at hxo
    have HW2 := Lib.hid hw2; have HGo := Lib.hid hgo; clear hw2 hgo
    have HB2 := Lib.hid (HB1.out.step hb2)
    have O := Lib.hid (O.out.below hb2)
    have BXR := Lib.hid (heap_below BXR.out hb2)
    clear hb2
    have BXo := Lib.hid hxo; clear hxo
    go_wp2_with fail
    rw [← HW2.out]
    try rw [← HGo.out]
    go_quiet (fail)
    have hb30 : Below w2.heap.size w2 (w2.drewN nq) := below_drewN (Below.refl _ _) _
    obtain ⟨w30, hw30⟩ : ∃ w30, w30 = w2.drewN nq := ⟨_, rfl⟩
    rw [← hw30] at hb30 ⊢; clear hw30
    have HB30 := Lib.hid (HB2.out.step hb30)
    have O := Lib.hid (O.out.below hb30)
    have BXR := Lib.hid (heap_below BXR.out hb30)
    have BXo := Lib.hid (heap_below BXo.out hb30)
    clear hb30
    obtain ⟨w31, hw31⟩ : ∃ w31, w31 = w30.alloc (.cells #[.int .u32 1] 57) := ⟨_, rfl⟩
    have hb31 : Below w30.heap.size w30 w31 := by rw [hw31]; exact (Below.refl _ _).alloc (Nat.le_refl _) _
    have hxD1 := heap_alloc_new w30 (.cells #[.int .u32 1] 57)
    obtain ⟨gD1, hgD1⟩ : ∃ gD1, gD1 = w30.heap.size := ⟨_, rfl⟩
    rw [← hw31, ← hgD1] at hxD1
    have HW31 := Lib.hid hw31; have HGD1 := Lib.hid hgD1; clear hw31 hgD1
    have HB31 := Lib.hid (HB30.out.step hb31)
    have O := Lib.hid (O.out.below hb31)
    have BXR := Lib.hid (heap_below BXR.out hb31)
    have BXo := Lib.hid (heap_below BXo.out hb31)
    clear hb31
    have hnD := num_one1 w30
    rw [← HW31.out, ← HGD1.out] at hnD
    have D := Lib.hid hnD; clear hnD hxD1
    have hs := HFD.out w31
    have HS := Lib.hid hs; clear hs
    go_wp2_with fail
    rw [← HW31.out]
    try rw [← HGD1.out]
    (with_reducible refine HS.out.mono ?_); rintro e wx ⟨rfl, rfl⟩
    clear HS
    have hs := HPY.out w31
    have HS := Lib.hid hs; clear hs
    go_wp2_with fail
    (with_reducible refine HS.out.mono ?_); rintro e w33 ⟨v33, rfl, hb33, hn33⟩
    clear HS
    have HB33 := Lib.hid (HB31.out.step hb33)
    have O := Lib.hid (O.out.below hb33)
    have D := Lib.hid (D.out.below hb33)
    have BXR := Lib.hid (heap_below BXR.out hb33)
    have BXo := Lib.hid (heap_below BXo.out hb33)
    have NY := Lib.hid hn33; clear hn33
    clear hb33
    have hs := HPX.out w33
    have HS := Lib.hid hs; clear hs
    go_wp2_with fail
    (with_reducible refine HS.out.mono ?_); rintro e w34 ⟨v34, rfl, hb34, hn34⟩
    clear HS
    have HB34 := Lib.hid (HB33.out.step hb34)
    have O := Lib.hid (O.out.below hb34)
    have D := Lib.hid (D.out.below hb34)
    have NY := Lib.hid (NY.out.below hb34)
    have BXR := Lib.hid (heap_below BXR.out hb34)
    have BXo := Lib.hid (heap_below BXo.out hb34)
    have NX := Lib.hid hn34; clear hn34
    clear hb34
    have hs := rfromN true NX.out NY.out (by omega) (by have := wd_one_len; omega)
    rw [show zc VY = 0 from if_neg HVY.out, ← HQ.out] at hs
    have HS := Lib.hid hs; clear hs
    go_wp2_with fail
    (with_reducible refine HS.out.mono ?_); rintro e w35 ⟨v35, rfl, hb35, hn35⟩
    clear HS
    have HB35 := Lib.hid (HB34.out.step hb35)
    have O := Lib.hid (O.out.below hb35)
    have D := Lib.hid (D.out.below hb35)
    have NY := Lib.hid (NY.out.below hb35)
    have NX := Lib.hid (NX.out.below hb35)
    have BXR := Lib.hid (heap_below BXR.out hb35)
    have BXo := Lib.hid (heap_below BXo.out hb35)
    have Q := Lib.hid hn35; clear hn35
    clear hb35
    obtain ⟨sQ, oQ, nQ, cQ, aQ, mQ, dQ, rfl⟩ := Q.out.shape
    obtain ⟨w36, hw36⟩ : ∃ w36, w36 = w35.alloc (.cells #[.bool sQ, .slice oQ nQ cQ, .slice aQ mQ dQ] 24) := ⟨_, rfl⟩
    have hb36 : Below w35.heap.size w35 w36 := by rw [hw36]; exact (Below.refl _ _).alloc (Nat.le_refl _) _
    have hxx := heap_alloc_new w35 (.cells #[.bool sQ, .slice oQ nQ cQ, .slice aQ mQ dQ] 24)
    obtain ⟨gx, hgx⟩ : ∃ gx, gx = w35.heap.size := ⟨_, rfl⟩
    rw [← hw36, ← hgx] at hxx
    have HW36 := Lib.hid hw36; have HGx := Lib.hid hgx; clear hw36 hgx
    have HB36 := Lib.hid (HB35.out.step hb36)
    have O := Lib.hid (O.out.below hb36)
    have D := Lib.hid (D.out.below hb36)
    have NY := Lib.hid (NY.out.below hb36)
    have NX := Lib.hid (NX.out.below hb36)
    have Q := Lib.hid (Q.out.below hb36)
    have BXR := Lib.hid (heap_below BXR.out hb36)
    have BXo := Lib.hid (heap_below BXo.out hb36)
    clear hb36
    have BXx := Lib.hid hxx; clear hxx
    have hs := rtextq_any _ q w36 (IsR.is Q.out (by omega))
    rw [← HTX.out] at hs
    have HS := Lib.hid hs; clear hs
    obtain ⟨ex0, ex1, ex2⟩ := row3 BXx.out
    rw [HW36.out] at ex0
    rw [HGx.out] at ex0
    rw [HW36.out] at ex1
    rw [HGx.out] at ex1
    rw [HW36.out] at ex2
    rw [HGx.out] at ex2
    go_wp2_with fail
    rw [← HW36.out]
    try rw [← HGx.out]
    clear ex0 ex1 ex2
    (with_reducible refine HS.out.mono ?_); rintro e w37 ⟨rfl, hb37⟩
    clear HS
    have HB37 := Lib.hid (HB36.out.step hb37)
    have O := Lib.hid (O.out.below hb37)
    have D := Lib.hid (D.out.below hb37)
    have NY := Lib.hid (NY.out.below hb37)
    have NX := Lib.hid (NX.out.below hb37)
    have Q := Lib.hid (Q.out.below hb37)
    have BXR := Lib.hid (heap_below BXR.out hb37)
    have BXo := Lib.hid (heap_below BXo.out hb37)
    have BXx := Lib.hid (heap_below BXx.out hb37)
    clear hb37
    obtain ⟨eR0, eR1, eR2⟩ := row3 BXR.out
    obtain ⟨fR0, fR1, fR2⟩ := froz3 BXR.out
    go_wp2_with fail
    clear eR0 eR1 eR2 fR0 fR1 fR2
    refine ret_rat2 rfl w.heap.size _ _ _ rfl (put3_heap BXR.out) rfl ?_
    exact ⟨_, rfl, put3_below HB37.out (by omega) _ _ _, isR_zero _⟩
set_option maxRecDepth 100000 in
set_option maxHeartbeats 6400000 in
theorem rpq_fits2_t (l : List UInt8) (w : World)  (hl : l.length ≤ 300) (hdec : ¬ (l.length ≤ 64 ∧ (rdO l).isSome = true)) (m : List UInt8) (hlm : l = 45 :: m) (a b : List UInt8) (hcut : m = a ++ 47 :: b) (hcl : cutL 47 m = some (a, b)) (hpx : parC a = 0) (hpy : parC b = 0) (hvy : parV b ≠ 0) (hr : rtx (qm true (parV a) (parV b)) = l) :
    Calls Tryd.prog 14 #[.string ⟨l.toArray⟩] w (RetRE w (qm true (parV a) (parV b)) (.int .i64 0)) := by
  have hb0 := ((Below.refl w.heap.size w).alloc (by first | (simp; done) | (simp; omega)) (.cells #[.bool false, .slice none 0 0, .slice none 0 0] 24))
  have hxR := nest1_0 w (.cells #[.bool false, .slice none 0 0, .slice none 0 0] 24)
  obtain ⟨w0, hw0⟩ : ∃ w0, w0 = (w.alloc (.cells #[.bool false, .slice none 0 0, .slice none 0 0] 24)) := ⟨_, rfl⟩
  rw [← hw0] at hb0 hxR
  have HB0 := Lib.hid hb0; have HW0 := Lib.hid hw0
  have BXR := Lib.hid hxR
  clear hb0 hw0 hxR
  have f1 : decide ((65536 : Int) < (l.length : Int)) = false := decide_eq_false (by omega)
  have hdc := fun wx => rdec_any l wx hl
  obtain ⟨S, hS⟩ : ∃ S : ByteArray, S = ⟨l.toArray⟩ := ⟨_, rfl⟩
  have hsz : S.size = l.length := by rw [hS]; simp [ByteArray.size]
  obtain ⟨oq, hoq⟩ : ∃ oq, oq = oQ (rdO l) := ⟨_, rfl⟩; obtain ⟨ob, hob⟩ : ∃ ob, ob = (rdO l).isSome := ⟨_, rfl⟩
  rw [← hoq, ← hob] at hdc; rw [← hob] at hdec; clear hoq hob
  have hdc2 : ob = false ∨ (ob = true ∧ decide ((l.length : Int) ≤ 64) = false) := by
    cases ob with
    | false => exact .inl rfl
    | true => exact .inr ⟨rfl, decide_eq_false (fun h => hdec ⟨by omega, rfl⟩)⟩
  clear hdec
  have hlm1 : l.length = m.length + 1 := by rw [hlm]; rfl
  have hne : S.toList.isEmpty = false := by rw [hS]; exact bytes_ne (by rw [hlm]; simp)
  have hi0 : ∀ wx : World, (Instr.index 9 (.string S) (.int .i64 0)).run Tryd.prog wx = .ok (.int .u8 45) wx := fun wx => by
    rw [hS]; subst hlm; exact run_index_l (45 :: m) 0 (by simp) wx
  obtain ⟨T, hT⟩ : ∃ T : ByteArray, T = ⟨m.toArray⟩ := ⟨_, rfl⟩
  have htz : T.size = m.length := by rw [hT]; simp [ByteArray.size]
  have hsl : ∀ wx : World, (Instr.slice 9 (.string S) (some (.int .i64 1)) none none).run Tryd.prog wx = .ok (.string T) wx := fun wx => by rw [hS, hT, hlm]; exact run_from1 45 m (by omega) wx
  have hfd := fun wx => rfind_any 47 47 m wx rfl (by omega)
  have hfn : fnd 47 m = (a.length : Int) := by unfold fnd; rw [hcl]
  rw [hfn] at hfd
  have htl : m.length = a.length + (b.length + 1) := by rw [hcut]; simp
  have g1 : decide ((0 : Int) ≤ (a.length : Int)) = true := decide_eq_true (by omega)
  obtain ⟨A, hA⟩ : ∃ A : ByteArray, A = ⟨a.toArray⟩ := ⟨_, rfl⟩; obtain ⟨B, hB⟩ : ∃ B : ByteArray, B = ⟨b.toArray⟩ := ⟨_, rfl⟩
  have hs1 : ∀ wx : World, (Instr.slice 9 (.string T) none (some (.int .i64 (a.length : Int))) none).run Tryd.prog wx = .ok (.string A) wx := fun wx => by rw [hT, hA, hcut]; exact run_to a _ wx
  have hs2 : ∀ wx : World, (Instr.slice 9 (.string T) (some (.int .i64 ((a.length : Int) + 1))) none none).run Tryd.prog wx = .ok (.string B) wx := fun wx => by rw [hT, hB, hcut]; exact run_from a 47 b wx
  have hpX := fun wx => rparse_any a wx (.inl (by omega)); have hpY := fun wx => rparse_any b wx (.inl (by omega))
  have hwx := parV_len (l := a) (K := 300) (by omega); have hwy := parV_len (l := b) (K := 300) (by omega)
  rw [← hA] at hpX; rw [← hB] at hpY
  obtain ⟨EX, hEX⟩ : ∃ E, E = parC a := ⟨_, rfl⟩; obtain ⟨VX, hVX⟩ : ∃ V, V = parV a := ⟨_, rfl⟩
  rw [← hEX, ← hVX] at hpX; rw [← hVX] at hwx
  obtain ⟨EY, hEY⟩ : ∃ E, E = parC b := ⟨_, rfl⟩; obtain ⟨VY, hVY⟩ : ∃ V, V = parV b := ⟨_, rfl⟩
  rw [← hEY, ← hVY] at hpY; rw [← hVY] at hwy
  rw [← hEX] at hpx
  rw [← hEY] at hpy
  rw [← hVY] at hvy
  rw [← hVX, ← hVY] at hr
  rw [← hVX, ← hVY]
  clear hEX hVX hEY hVY
  subst hpx
  subst hpy
  obtain ⟨q, hq⟩ : ∃ q, q = qm true VX VY := ⟨_, rfl⟩
  rw [← hq] at hr ⊢
  have hrl : rl q ≤ 300 := by rw [hq]; exact rl_qm hvy hwx hwy
  obtain ⟨TX, hTX⟩ : ∃ A : ByteArray, A = ⟨(rtx q).toArray⟩ := ⟨_, rfl⟩
  have htx : TX = S := by rw [hTX, hr, hS]
  have hbq : (S.toList != S.toList) = false := by simp
  have hbq2 : (S.toList == S.toList) = true := by simp
  have HQ := Lib.hid hq; have HTX := Lib.hid hTX; clear hq hTX hr
  have HVY := Lib.hid hvy; clear hvy
  have HTS := Lib.hid htx; clear htx
  rw [← hS] at hdc; rw [← hT] at hfd; rw [← hS]
  have HDC := Lib.hid hdc; have HFD := Lib.hid hfd; have HPX := Lib.hid hpX; clear hdc hfd hfn hS hlm hcut hpX hT
  have HPY := Lib.hid hpY; clear hpY hA hB hcl
  have hla : a.length ≤ 300 := by omega
  clear htz hlm1 htl
  rcases hdc2 with rfl | ⟨rfl, f2⟩
  · go_enter Tryd.func14, Tryd.ntmps14
    have hs := HDC.out w0
    have HS := Lib.hid hs; clear hs
    go_wp2_with fail
    rw [← HW0.out]
    (with_reducible refine HS.out.mono ?_); rintro e w1 ⟨v1, rfl, hb1, hn1⟩
    clear HS
    have HB1 := Lib.hid (HB0.out.step hb1)
    have BXR := Lib.hid (heap_below BXR.out hb1)
    have O := Lib.hid hn1; clear hn1
    clear hb1
    obtain ⟨sO, oO, nO, cO, aO, mO, dO, rfl⟩ := O.out.shape
    obtain ⟨w2, hw2⟩ : ∃ w2, w2 = w1.alloc (.cells #[.bool sO, .slice oO nO cO, .slice aO mO dO] 24) := ⟨_, rfl⟩
    have hb2 : Below w1.heap.size w1 w2 := by rw [hw2]; exact (Below.refl _ _).alloc (Nat.le_refl _) _
    have hxo := heap_alloc_new w1 (.cells #[.bool sO, .slice oO nO cO, .slice aO mO dO] 24)
    obtain ⟨go, hgo⟩ : ∃ go, go = w1.heap.size := ⟨_, rfl⟩
    rw [← hw2, ← hgo] at hxo
    have HW2 := Lib.hid hw2; have HGo := Lib.hid hgo; clear hw2 hgo
    have HB2 := Lib.hid (HB1.out.step hb2)
    have O := Lib.hid (O.out.below hb2)
    have BXR := Lib.hid (heap_below BXR.out hb2)
    clear hb2
    have BXo := Lib.hid hxo; clear hxo
    go_wp2_with fail
    rw [← HW2.out]
    try rw [← HGo.out]
    go_quiet (fail)
    have hb30 : Below w2.heap.size w2 (w2.drewN nq) := below_drewN (Below.refl _ _) _
    obtain ⟨w30, hw30⟩ : ∃ w30, w30 = w2.drewN nq := ⟨_, rfl⟩
    rw [← hw30] at hb30 ⊢; clear hw30
    have HB30 := Lib.hid (HB2.out.step hb30)
    have O := Lib.hid (O.out.below hb30)
    have BXR := Lib.hid (heap_below BXR.out hb30)
    have BXo := Lib.hid (heap_below BXo.out hb30)
    clear hb30
    obtain ⟨w31, hw31⟩ : ∃ w31, w31 = w30.alloc (.cells #[.int .u32 1] 57) := ⟨_, rfl⟩
    have hb31 : Below w30.heap.size w30 w31 := by rw [hw31]; exact (Below.refl _ _).alloc (Nat.le_refl _) _
    have hxD1 := heap_alloc_new w30 (.cells #[.int .u32 1] 57)
    obtain ⟨gD1, hgD1⟩ : ∃ gD1, gD1 = w30.heap.size := ⟨_, rfl⟩
    rw [← hw31, ← hgD1] at hxD1
    have HW31 := Lib.hid hw31; have HGD1 := Lib.hid hgD1; clear hw31 hgD1
    have HB31 := Lib.hid (HB30.out.step hb31)
    have O := Lib.hid (O.out.below hb31)
    have BXR := Lib.hid (heap_below BXR.out hb31)
    have BXo := Lib.hid (heap_below BXo.out hb31)
    clear hb31
    have hnD := num_one1 w30
    rw [← HW31.out, ← HGD1.out] at hnD
    have D := Lib.hid hnD; clear hnD hxD1
    have hs := HFD.out w31
    have HS := Lib.hid hs; clear hs
    go_wp2_with fail
    rw [← HW31.out]
    try rw [← HGD1.out]
    (with_reducible refine HS.out.mono ?_); rintro e wx ⟨rfl, rfl⟩
    clear HS
    have hs := HPY.out w31
    have HS := Lib.hid hs; clear hs
    go_wp2_with fail
    (with_reducible refine HS.out.mono ?_); rintro e w33 ⟨v33, rfl, hb33, hn33⟩
    clear HS
    have HB33 := Lib.hid (HB31.out.step hb33)
    have O := Lib.hid (O.out.below hb33)
    have D := Lib.hid (D.out.below hb33)
    have BXR := Lib.hid (heap_below BXR.out hb33)
    have BXo := Lib.hid (heap_below BXo.out hb33)
    have NY := Lib.hid hn33; clear hn33
    clear hb33
    have hs := HPX.out w33
    have HS := Lib.hid hs; clear hs
    go_wp2_with fail
    (with_reducible refine HS.out.mono ?_); rintro e w34 ⟨v34, rfl, hb34, hn34⟩
    clear HS
    have HB34 := Lib.hid (HB33.out.step hb34)
    have O := Lib.hid (O.out.below hb34)
    have D := Lib.hid (D.out.below hb34)
    have NY := Lib.hid (NY.out.below hb34)
    have BXR := Lib.hid (heap_below BXR.out hb34)
    have BXo := Lib.hid (heap_below BXo.out hb34)
    have NX := Lib.hid hn34; clear hn34
    clear hb34
    have hs := rfromN true NX.out NY.out (by omega) (by have := wd_one_len; omega)
    rw [show zc VY = 0 from if_neg HVY.out, ← HQ.out] at hs
    have HS := Lib.hid hs; clear hs
    go_wp2_with fail
    (with_reducible refine HS.out.mono ?_); rintro e w35 ⟨v35, rfl, hb35, hn35⟩
    clear HS
    have HB35 := Lib.hid (HB34.out.step hb35)
    have O := Lib.hid (O.out.below hb35)
    have D := Lib.hid (D.out.below hb35)
    have NY := Lib.hid (NY.out.below hb35)
    have NX := Lib.hid (NX.out.below hb35)
    have BXR := Lib.hid (heap_below BXR.out hb35)
    have BXo := Lib.hid (heap_below BXo.out hb35)
    have Q := Lib.hid hn35; clear hn35
    clear hb35
    obtain ⟨sQ, oQ, nQ, cQ, aQ, mQ, dQ, rfl⟩ := Q.out.shape
    obtain ⟨w36, hw36⟩ : ∃ w36, w36 = w35.alloc (.cells #[.bool sQ, .slice oQ nQ cQ, .slice aQ mQ dQ] 24) := ⟨_, rfl⟩
    have hb36 : Below w35.heap.size w35 w36 := by rw [hw36]; exact (Below.refl _ _).alloc (Nat.le_refl _) _
    have hxx := heap_alloc_new w35 (.cells #[.bool sQ, .slice oQ nQ cQ, .slice aQ mQ dQ] 24)
    obtain ⟨gx, hgx⟩ : ∃ gx, gx = w35.heap.size := ⟨_, rfl⟩
    rw [← hw36, ← hgx] at hxx
    have HW36 := Lib.hid hw36; have HGx := Lib.hid hgx; clear hw36 hgx
    have HB36 := Lib.hid (HB35.out.step hb36)
    have O := Lib.hid (O.out.below hb36)
    have D := Lib.hid (D.out.below hb36)
    have NY := Lib.hid (NY.out.below hb36)
    have NX := Lib.hid (NX.out.below hb36)
    have Q := Lib.hid (Q.out.below hb36)
    have BXR := Lib.hid (heap_below BXR.out hb36)
    have BXo := Lib.hid (heap_below BXo.out hb36)
    clear hb36
    have BXx := Lib.hid hxx; clear hxx
    have hs := rtextq_any _ q w36 (IsR.is Q.out (by omega))
    rw [← HTX.out] at hs
    have HS := Lib.hid hs; clear hs
    obtain ⟨ex0, ex1, ex2⟩ := row3 BXx.out
    rw [HW36.out] at ex0
    rw [HGx.out] at ex0
    rw [HW36.out] at ex1
    rw [HGx.out] at ex1
    rw [HW36.out] at ex2
    rw [HGx.out] at ex2
    go_wp2_with fail
    rw [← HW36.out]
    try rw [← HGx.out]
    clear ex0 ex1 ex2
    (with_reducible refine HS.out.mono ?_); rintro e w37 ⟨rfl, hb37⟩
    clear HS
    have HB37 := Lib.hid (HB36.out.step hb37)
    have O := Lib.hid (O.out.below hb37)
    have D := Lib.hid (D.out.below hb37)
    have NY := Lib.hid (NY.out.below hb37)
    have NX := Lib.hid (NX.out.below hb37)
    have Q := Lib.hid (Q.out.below hb37)
    have BXR := Lib.hid (heap_below BXR.out hb37)
    have BXo := Lib.hid (heap_below BXo.out hb37)
    have BXx := Lib.hid (heap_below BXx.out hb37)
    clear hb37
    have htx := HTS.out; subst htx
    obtain ⟨ex0, ex1, ex2⟩ := row3 BXx.out
    obtain ⟨eR0, eR1, eR2⟩ := row3 BXR.out
    obtain ⟨fR0, fR1, fR2⟩ := froz3 BXR.out
    go_wp2_with fail
    clear ex0 ex1 ex2 eR0 eR1 eR2 fR0 fR1 fR2
    refine ret_rat2 rfl w.heap.size _ _ _ rfl (put3_heap BXR.out) rfl ?_
    exact ⟨_, rfl, put3_below HB37.out (by omega) _ _ _, isR_put Q.out BXR.out⟩
  · go_enter Tryd.func14, Tryd.ntmps14
    have hs := HDC.out w0
    have HS := Lib.hid hs; clear hs
    go_wp2_with fail
    rw [← HW0.out]
    (with_reducible refine HS.out.mono ?_); rintro e w1 ⟨v1, rfl, hb1, hn1⟩
    clear HS
    have HB1 := Lib.hid (HB0.out.step hb1)
    have BXR := Lib.hid (heap_below BXR.out hb1)
    have O := Lib.hid hn1; clear hn1
    clear hb1
    obtain ⟨sO, oO, nO, cO, aO, mO, dO, rfl⟩ := O.out.shape
    obtain ⟨w2, hw2⟩ : ∃ w2, w2 = w1.alloc (.cells #[.bool sO, .slice oO nO cO, .slice aO mO dO] 24) := ⟨_, rfl⟩
    have hb2 : Below w1.heap.size w1 w2 := by rw [hw2]; exact (Below.refl _ _).alloc (Nat.le_refl _) _
    have hxo := heap_alloc_new w1 (.cells #[.bool sO, .slice oO nO cO, .slice aO mO dO] 24)
    obtain ⟨go, hgo⟩ : ∃ go, go = w1.heap.size := ⟨_, rfl⟩
    rw [← hw2, ← hgo] at hxo
    have HW2 := Lib.hid hw2; have HGo := Lib.hid hgo; clear hw2 hgo
    have HB2 := Lib.hid (HB1.out.step hb2)
    have O := Lib.hid (O.out.below hb2)
    have BXR := Lib.hid (heap_below BXR.out hb2)
    clear hb2
    have BXo := Lib.hid hxo; clear hxo
    go_wp2_with fail
    rw [← HW2.out]
    try rw [← HGo.out]
    go_quiet (fail)
    have hb30 : Below w2.heap.size w2 (w2.drewN nq) := below_drewN (Below.refl _ _) _
    obtain ⟨w30, hw30⟩ : ∃ w30, w30 = w2.drewN nq := ⟨_, rfl⟩
    rw [← hw30] at hb30 ⊢; clear hw30
    have HB30 := Lib.hid (HB2.out.step hb30)
    have O := Lib.hid (O.out.below hb30)
    have BXR := Lib.hid (heap_below BXR.out hb30)
    have BXo := Lib.hid (heap_below BXo.out hb30)
    clear hb30
    obtain ⟨w31, hw31⟩ : ∃ w31, w31 = w30.alloc (.cells #[.int .u32 1] 57) := ⟨_, rfl⟩
    have hb31 : Below w30.heap.size w30 w31 := by rw [hw31]; exact (Below.refl _ _).alloc (Nat.le_refl _) _
    have hxD1 := heap_alloc_new w30 (.cells #[.int .u32 1] 57)
    obtain ⟨gD1, hgD1⟩ : ∃ gD1, gD1 = w30.heap.size := ⟨_, rfl⟩
    rw [← hw31, ← hgD1] at hxD1
    have HW31 := Lib.hid hw31; have HGD1 := Lib.hid hgD1; clear hw31 hgD1
    have HB31 := Lib.hid (HB30.out.step hb31)
    have O := Lib.hid (O.out.below hb31)
    have BXR := Lib.hid (heap_below BXR.out hb31)
    have BXo := Lib.hid (heap_below BXo.out hb31)
    clear hb31
    have hnD := num_one1 w30
    rw [← HW31.out, ← HGD1.out] at hnD
    have D := Lib.hid hnD; clear hnD hxD1
    have hs := HFD.out w31
    have HS := Lib.hid hs; clear hs
    go_wp2_with fail
    rw [← HW31.out]
    try rw [← HGD1.out]
    (with_reducible refine HS.out.mono ?_); rintro e wx ⟨rfl, rfl⟩
    clear HS
    have hs := HPY.out w31
    have HS := Lib.hid hs; clear hs
    go_wp2_with fail
    (with_reducible refine HS.out.mono ?_); rintro e w33 ⟨v33, rfl, hb33, hn33⟩
    clear HS
    have HB33 := Lib.hid (HB31.out.step hb33)
    have O := Lib.hid (O.out.below hb33)
    have D := Lib.hid (D.out.below hb33)
    have BXR := Lib.hid (heap_below BXR.out hb33)
    have BXo := Lib.hid (heap_below BXo.out hb33)
    have NY := Lib.hid hn33; clear hn33
    clear hb33
    have hs := HPX.out w33
    have HS := Lib.hid hs; clear hs
    go_wp2_with fail
    (with_reducible refine HS.out.mono ?_); rintro e w34 ⟨v34, rfl, hb34, hn34⟩
    clear HS
    have HB34 := Lib.hid (HB33.out.step hb34)
    have O := Lib.hid (O.out.below hb34)
    have D := Lib.hid (D.out.below hb34)
    have NY := Lib.hid (NY.out.below hb34)
    have BXR := Lib.hid (heap_below BXR.out hb34)
    have BXo := Lib.hid (heap_below BXo.out hb34)
    have NX := Lib.hid hn34; clear hn34
    clear hb34
    have hs := rfromN true NX.out NY.out (by omega) (by have := wd_one_len; omega)
    rw [show zc VY = 0 from if_neg HVY.out, ← HQ.out] at hs
    have HS := Lib.hid hs; clear hs
    go_wp2_with fail
    (with_reducible refine HS.out.mono ?_); rintro e w35 ⟨v35, rfl, hb35, hn35⟩
    clear HS
    have HB35 := Lib.hid (HB34.out.step hb35)
    have O := Lib.hid (O.out.below hb35)
    have D := Lib.hid (D.out.below hb35)
    have NY := Lib.hid (NY.out.below hb35)
    have NX := Lib.hid (NX.out.below hb35)
    have BXR := Lib.hid (heap_below BXR.out hb35)
    have BXo := Lib.hid (heap_below BXo.out hb35)
    have Q := Lib.hid hn35; clear hn35
    clear hb35
    obtain ⟨sQ, oQ, nQ, cQ, aQ, mQ, dQ, rfl⟩ := Q.out.shape
    obtain ⟨w36, hw36⟩ : ∃ w36, w36 = w35.alloc (.cells #[.bool sQ, .slice oQ nQ cQ, .slice aQ mQ dQ] 24) := ⟨_, rfl⟩
    have hb36 : Below w35.heap.size w35 w36 := by rw [hw36]; exact (Below.refl _ _).alloc (Nat.le_refl _) _
    have hxx := heap_alloc_new w35 (.cells #[.bool sQ, .slice oQ nQ cQ, .slice aQ mQ dQ] 24)
    obtain ⟨gx, hgx⟩ : ∃ gx, gx = w35.heap.size := ⟨_, rfl⟩
    rw [← hw36, ← hgx] at hxx
    have HW36 := Lib.hid hw36; have HGx := Lib.hid hgx; clear hw36 hgx
    have HB36 := Lib.hid (HB35.out.step hb36)
    have O := Lib.hid (O.out.below hb36)
    have D := Lib.hid (D.out.below hb36)
    have NY := Lib.hid (NY.out.below hb36)
    have NX := Lib.hid (NX.out.below hb36)
    have Q := Lib.hid (Q.out.below hb36)
    have BXR := Lib.hid (heap_below BXR.out hb36)
    have BXo := Lib.hid (heap_below BXo.out hb36)
    clear hb36
    have BXx := Lib.hid hxx; clear hxx
    have hs := rtextq_any _ q w36 (IsR.is Q.out (by omega))
    rw [← HTX.out] at hs
    have HS := Lib.hid hs; clear hs
    obtain ⟨ex0, ex1, ex2⟩ := row3 BXx.out
    rw [HW36.out] at ex0
    rw [HGx.out] at ex0
    rw [HW36.out] at ex1
    rw [HGx.out] at ex1
    rw [HW36.out] at ex2
    rw [HGx.out] at ex2
    go_wp2_with fail
    rw [← HW36.out]
    try rw [← HGx.out]
    clear ex0 ex1 ex2
    (with_reducible refine HS.out.mono ?_); rintro e w37 ⟨rfl, hb37⟩
    clear HS
    have HB37 := Lib.hid (HB36.out.step hb37)
    have O := Lib.hid (O.out.below hb37)
    have D := Lib.hid (D.out.below hb37)
    have NY := Lib.hid (NY.out.below hb37)
    have NX := Lib.hid (NX.out.below hb37)
    have Q := Lib.hid (Q.out.below hb37)
    have BXR := Lib.hid (heap_below BXR.out hb37)
    have BXo := Lib.hid (heap_below BXo.out hb37)
    have BXx := Lib.hid (heap_below BXx.out hb37)
    clear hb37
    have htx := HTS.out; subst htx
    obtain ⟨ex0, ex1, ex2⟩ := row3 BXx.out
    obtain ⟨eR0, eR1, eR2⟩ := row3 BXR.out
    obtain ⟨fR0, fR1, fR2⟩ := froz3 BXR.out
    go_wp2_with fail
    clear ex0 ex1 ex2 eR0 eR1 eR2 fR0 fR1 fR2
    refine ret_rat2 rfl w.heap.size _ _ _ rfl (put3_heap BXR.out) rfl ?_
    exact ⟨_, rfl, put3_below HB37.out (by omega) _ _ _, isR_put Q.out BXR.out⟩
set_option maxRecDepth 100000 in
set_option maxHeartbeats 6400000 in
theorem rpq_badx1_f (l : List UInt8) (w : World)  (hl : l.length ≤ 300) (hdec : ¬ (l.length ≤ 64 ∧ (rdO l).isSome = true)) (x0 : UInt8) (m : List UInt8) (hlm : l = x0 :: m) (hx0 : x0 ≠ 45) (hcut : cutL 47 l = none) (hbad : parC l ≠ 0)  :
    Calls Tryd.prog 14 #[.string ⟨l.toArray⟩] w (RetRE w 0 (.int .i64 2)) := by
  have hb0 := ((Below.refl w.heap.size w).alloc (by first | (simp; done) | (simp; omega)) (.cells #[.bool false, .slice none 0 0, .slice none 0 0] 24))
  have hxR := nest1_0 w (.cells #[.bool false, .slice none 0 0, .slice none 0 0] 24)
  obtain ⟨w0, hw0⟩ : ∃ w0, w0 = (w.alloc (.cells #[.bool false, .slice none 0 0, .slice none 0 0] 24)) := ⟨_, rfl⟩
  rw [← hw0] at hb0 hxR
  have HB0 := Lib.hid hb0; have HW0 := Lib.hid hw0
  have BXR := Lib.hid hxR
  clear hb0 hw0 hxR
  have f1 : decide ((65536 : Int) < (l.length : Int)) = false := decide_eq_false (by omega)
  have hdc := fun wx => rdec_any l wx hl
  obtain ⟨S, hS⟩ : ∃ S : ByteArray, S = ⟨l.toArray⟩ := ⟨_, rfl⟩
  have hsz : S.size = l.length := by rw [hS]; simp [ByteArray.size]
  obtain ⟨oq, hoq⟩ : ∃ oq, oq = oQ (rdO l) := ⟨_, rfl⟩; obtain ⟨ob, hob⟩ : ∃ ob, ob = (rdO l).isSome := ⟨_, rfl⟩
  rw [← hoq, ← hob] at hdc; rw [← hob] at hdec; clear hoq hob
  have hdc2 : ob = false ∨ (ob = true ∧ decide ((l.length : Int) ≤ 64) = false) := by
    cases ob with
    | false => exact .inl rfl
    | true => exact .inr ⟨rfl, decide_eq_false (fun h => hdec ⟨by omega, rfl⟩)⟩
  clear hdec
  have hlm1 : l.length = m.length + 1 := by rw [hlm]; rfl
  have hne : S.toList.isEmpty = false := by rw [hS]; exact bytes_ne (by rw [hlm]; simp)
  have hi0 : ∀ wx : World, (Instr.index 9 (.string S) (.int .i64 0)).run Tryd.prog wx = .ok (.int .u8 (x0.toNat : Nat)) wx := fun wx => by
    rw [hS]; subst hlm; exact run_index_l (x0 :: m) 0 (by simp) wx
  have hx1 : ((x0.toNat : Int) == 45) = false := by rw [beq_eq_false_iff_ne]; intro e; exact hx0 (UInt8.toNat_inj.1 (by rw [show (45 : UInt8).toNat = 45 from rfl]; omega))
  obtain ⟨xn, hxn⟩ : ∃ xn, xn = x0.toNat := ⟨_, rfl⟩
  rw [← hxn] at hi0 hx1; clear hxn hx0
  obtain ⟨T, hT⟩ : ∃ T : ByteArray, T = ⟨l.toArray⟩ := ⟨_, rfl⟩
  have htz : T.size = l.length := by rw [hT]; simp [ByteArray.size]
  have hTS : T = S := by rw [hT, hS]
  have hfd := fun wx => rfind_any 47 47 l wx rfl (by omega)
  have hfn : fnd 47 l = -1 := by unfold fnd; rw [hcut]
  rw [hfn] at hfd
  have hpX := fun wx => rparse_any l wx (.inl (by omega))
  have hwx := parV_len (l := l) (K := 300) (by omega)
  rw [← hT] at hpX
  obtain ⟨EX, hEX⟩ : ∃ E, E = parC l := ⟨_, rfl⟩; obtain ⟨VX, hVX⟩ : ∃ V, V = parV l := ⟨_, rfl⟩
  rw [← hEX, ← hVX] at hpX; rw [← hVX] at hwx
  rw [← hEX] at hbad
  have g9 : ((EX : Int) != 0) = true := by simp; omega
  clear hEX hVX
  rw [← hS] at hdc; rw [← hT] at hfd; rw [← hS]
  subst hTS
  have HDC := Lib.hid hdc; have HFD := Lib.hid hfd; have HPX := Lib.hid hpX; clear hdc hfd hfn hS hlm hcut hpX hT
  clear htz hlm1
  rcases hdc2 with rfl | ⟨rfl, f2⟩
  · go_enter Tryd.func14, Tryd.ntmps14
    have hs := HDC.out w0
    have HS := Lib.hid hs; clear hs
    go_wp2_with fail
    rw [← HW0.out]
    (with_reducible refine HS.out.mono ?_); rintro e w1 ⟨v1, rfl, hb1, hn1⟩
    clear HS
    have HB1 := Lib.hid (HB0.out.step hb1)
    have BXR := Lib.hid (heap_below BXR.out hb1)
    have O := Lib.hid hn1; clear hn1
    clear hb1
    obtain ⟨sO, oO, nO, cO, aO, mO, dO, rfl⟩ := O.out.shape
    obtain ⟨w2, hw2⟩ : ∃ w2, w2 = w1.alloc (.cells #[.bool sO, .slice oO nO cO, .slice aO mO dO] 24) := ⟨_, rfl⟩
    have hb2 : Below w1.heap.size w1 w2 := by rw [hw2]; exact (Below.refl _ _).alloc (Nat.le_refl _) _
    have hxo := heap_alloc_new w1 (.cells #[.bool sO, .slice oO nO cO, .slice aO mO dO] 24)
    obtain ⟨go, hgo⟩ : ∃ go, go = w1.heap.size := ⟨_, rfl⟩
    rw [← hw2, ← hgo] at hxo
    have HW2 := Lib.hid hw2; have HGo := Lib.hid hgo; clear hw2 hgo
    have HB2 := Lib.hid (HB1.out.step hb2)
    have O := Lib.hid (O.out.below hb2)
    have BXR := Lib.hid (heap_below BXR.out hb2)
    clear hb2
    have BXo := Lib.hid hxo; clear hxo
    go_wp2_with fail
    rw [← HW2.out]
    try rw [← HGo.out]
    go_quiet (fail)
    have hb30 : Below w2.heap.size w2 (w2.drewN nq) := below_drewN (Below.refl _ _) _
    obtain ⟨w30, hw30⟩ : ∃ w30, w30 = w2.drewN nq := ⟨_, rfl⟩
    rw [← hw30] at hb30 ⊢; clear hw30
    have HB30 := Lib.hid (HB2.out.step hb30)
    have O := Lib.hid (O.out.below hb30)
    have BXR := Lib.hid (heap_below BXR.out hb30)
    have BXo := Lib.hid (heap_below BXo.out hb30)
    clear hb30
    obtain ⟨w31, hw31⟩ : ∃ w31, w31 = w30.alloc (.cells #[.int .u32 1] 57) := ⟨_, rfl⟩
    have hb31 : Below w30.heap.size w30 w31 := by rw [hw31]; exact (Below.refl _ _).alloc (Nat.le_refl _) _
    have hxD1 := heap_alloc_new w30 (.cells #[.int .u32 1] 57)
    obtain ⟨gD1, hgD1⟩ : ∃ gD1, gD1 = w30.heap.size := ⟨_, rfl⟩
    rw [← hw31, ← hgD1] at hxD1
    have HW31 := Lib.hid hw31; have HGD1 := Lib.hid hgD1; clear hw31 hgD1
    have HB31 := Lib.hid (HB30.out.step hb31)
    have O := Lib.hid (O.out.below hb31)
    have BXR := Lib.hid (heap_below BXR.out hb31)
    have BXo := Lib.hid (heap_below BXo.out hb31)
    clear hb31
    have hnD := num_one1 w30
    rw [← HW31.out, ← HGD1.out] at hnD
    have D := Lib.hid hnD; clear hnD hxD1
    have hs := HFD.out w31
    have HS := Lib.hid hs; clear hs
    go_wp2_with fail
    rw [← HW31.out]
    try rw [← HGD1.out]
    (with_reducible refine HS.out.mono ?_); rintro e wx ⟨rfl, rfl⟩
    clear HS
    have hs := HPX.out w31
    have HS := Lib.hid hs; clear hs
    go_wp2_with fail
    (with_reducible refine HS.out.mono ?_); rintro e w33 ⟨v33, rfl, hb33, hn33⟩
    clear HS
    have HB33 := Lib.hid (HB31.out.step hb33)
    have O := Lib.hid (O.out.below hb33)
    have D := Lib.hid (D.out.below hb33)
    have BXR := Lib.hid (heap_below BXR.out hb33)
    have BXo := Lib.hid (heap_below BXo.out hb33)
    have NX := Lib.hid hn33; clear hn33
    clear hb33
    obtain ⟨eR0, eR1, eR2⟩ := row3 BXR.out
    obtain ⟨fR0, fR1, fR2⟩ := froz3 BXR.out
    go_wp2_with fail
    clear eR0 eR1 eR2 fR0 fR1 fR2
    refine ret_rat2 rfl w.heap.size _ _ _ rfl (put3_heap BXR.out) rfl ?_
    exact ⟨_, rfl, put3_below HB33.out (by omega) _ _ _, isR_zero _⟩
  · go_enter Tryd.func14, Tryd.ntmps14
    have hs := HDC.out w0
    have HS := Lib.hid hs; clear hs
    go_wp2_with fail
    rw [← HW0.out]
    (with_reducible refine HS.out.mono ?_); rintro e w1 ⟨v1, rfl, hb1, hn1⟩
    clear HS
    have HB1 := Lib.hid (HB0.out.step hb1)
    have BXR := Lib.hid (heap_below BXR.out hb1)
    have O := Lib.hid hn1; clear hn1
    clear hb1
    obtain ⟨sO, oO, nO, cO, aO, mO, dO, rfl⟩ := O.out.shape
    obtain ⟨w2, hw2⟩ : ∃ w2, w2 = w1.alloc (.cells #[.bool sO, .slice oO nO cO, .slice aO mO dO] 24) := ⟨_, rfl⟩
    have hb2 : Below w1.heap.size w1 w2 := by rw [hw2]; exact (Below.refl _ _).alloc (Nat.le_refl _) _
    have hxo := heap_alloc_new w1 (.cells #[.bool sO, .slice oO nO cO, .slice aO mO dO] 24)
    obtain ⟨go, hgo⟩ : ∃ go, go = w1.heap.size := ⟨_, rfl⟩
    rw [← hw2, ← hgo] at hxo
    have HW2 := Lib.hid hw2; have HGo := Lib.hid hgo; clear hw2 hgo
    have HB2 := Lib.hid (HB1.out.step hb2)
    have O := Lib.hid (O.out.below hb2)
    have BXR := Lib.hid (heap_below BXR.out hb2)
    clear hb2
    have BXo := Lib.hid hxo; clear hxo
    go_wp2_with fail
    rw [← HW2.out]
    try rw [← HGo.out]
    go_quiet (fail)
    have hb30 : Below w2.heap.size w2 (w2.drewN nq) := below_drewN (Below.refl _ _) _
    obtain ⟨w30, hw30⟩ : ∃ w30, w30 = w2.drewN nq := ⟨_, rfl⟩
    rw [← hw30] at hb30 ⊢; clear hw30
    have HB30 := Lib.hid (HB2.out.step hb30)
    have O := Lib.hid (O.out.below hb30)
    have BXR := Lib.hid (heap_below BXR.out hb30)
    have BXo := Lib.hid (heap_below BXo.out hb30)
    clear hb30
    obtain ⟨w31, hw31⟩ : ∃ w31, w31 = w30.alloc (.cells #[.int .u32 1] 57) := ⟨_, rfl⟩
    have hb31 : Below w30.heap.size w30 w31 := by rw [hw31]; exact (Below.refl _ _).alloc (Nat.le_refl _) _
    have hxD1 := heap_alloc_new w30 (.cells #[.int .u32 1] 57)
    obtain ⟨gD1, hgD1⟩ : ∃ gD1, gD1 = w30.heap.size := ⟨_, rfl⟩
    rw [← hw31, ← hgD1] at hxD1
    have HW31 := Lib.hid hw31; have HGD1 := Lib.hid hgD1; clear hw31 hgD1
    have HB31 := Lib.hid (HB30.out.step hb31)
    have O := Lib.hid (O.out.below hb31)
    have BXR := Lib.hid (heap_below BXR.out hb31)
    have BXo := Lib.hid (heap_below BXo.out hb31)
    clear hb31
    have hnD := num_one1 w30
    rw [← HW31.out, ← HGD1.out] at hnD
    have D := Lib.hid hnD; clear hnD hxD1
    have hs := HFD.out w31
    have HS := Lib.hid hs; clear hs
    go_wp2_with fail
    rw [← HW31.out]
    try rw [← HGD1.out]
    (with_reducible refine HS.out.mono ?_); rintro e wx ⟨rfl, rfl⟩
    clear HS
    have hs := HPX.out w31
    have HS := Lib.hid hs; clear hs
    go_wp2_with fail
    (with_reducible refine HS.out.mono ?_); rintro e w33 ⟨v33, rfl, hb33, hn33⟩
    clear HS
    have HB33 := Lib.hid (HB31.out.step hb33)
    have O := Lib.hid (O.out.below hb33)
    have D := Lib.hid (D.out.below hb33)
    have BXR := Lib.hid (heap_below BXR.out hb33)
    have BXo := Lib.hid (heap_below BXo.out hb33)
    have NX := Lib.hid hn33; clear hn33
    clear hb33
    obtain ⟨eR0, eR1, eR2⟩ := row3 BXR.out
    obtain ⟨fR0, fR1, fR2⟩ := froz3 BXR.out
    go_wp2_with fail
    clear eR0 eR1 eR2 fR0 fR1 fR2
    refine ret_rat2 rfl w.heap.size _ _ _ rfl (put3_heap BXR.out) rfl ?_
    exact ⟨_, rfl, put3_below HB33.out (by omega) _ _ _, isR_zero _⟩
set_option maxRecDepth 100000 in
set_option maxHeartbeats 6400000 in
theorem rpq_differs1_f (l : List UInt8) (w : World)  (hl : l.length ≤ 300) (hdec : ¬ (l.length ≤ 64 ∧ (rdO l).isSome = true)) (x0 : UInt8) (m : List UInt8) (hlm : l = x0 :: m) (hx0 : x0 ≠ 45) (hcut : cutL 47 l = none) (hpx : parC l = 0) (hr : rtx (qm false (parV l) 1) ≠ l) :
    Calls Tryd.prog 14 #[.string ⟨l.toArray⟩] w (RetRE w 0 (.int .i64 2)) := by
  have hb0 := ((Below.refl w.heap.size w).alloc (by first | (simp; done) | (simp; omega)) (.cells #[.bool false, .slice none 0 0, .slice none 0 0] 24))
  have hxR := nest1_0 w (.cells #[.bool false, .slice none 0 0, .slice none 0 0] 24)
  obtain ⟨w0, hw0⟩ : ∃ w0, w0 = (w.alloc (.cells #[.bool false, .slice none 0 0, .slice none 0 0] 24)) := ⟨_, rfl⟩
  rw [← hw0] at hb0 hxR
  have HB0 := Lib.hid hb0; have HW0 := Lib.hid hw0
  have BXR := Lib.hid hxR
  clear hb0 hw0 hxR
  have f1 : decide ((65536 : Int) < (l.length : Int)) = false := decide_eq_false (by omega)
  have hdc := fun wx => rdec_any l wx hl
  obtain ⟨S, hS⟩ : ∃ S : ByteArray, S = ⟨l.toArray⟩ := ⟨_, rfl⟩
  have hsz : S.size = l.length := by rw [hS]; simp [ByteArray.size]
  obtain ⟨oq, hoq⟩ : ∃ oq, oq = oQ (rdO l) := ⟨_, rfl⟩; obtain ⟨ob, hob⟩ : ∃ ob, ob = (rdO l).isSome := ⟨_, rfl⟩
  rw [← hoq, ← hob] at hdc; rw [← hob] at hdec; clear hoq hob
  have hdc2 : ob = false ∨ (ob = true ∧ decide ((l.length : Int) ≤ 64) = false) := by
    cases ob with
    | false => exact .inl rfl
    | true => exact .inr ⟨rfl, decide_eq_false (fun h => hdec ⟨by omega, rfl⟩)⟩
  clear hdec
  have hlm1 : l.length = m.length + 1 := by rw [hlm]; rfl
  have hne : S.toList.isEmpty = false := by rw [hS]; exact bytes_ne (by rw [hlm]; simp)
  have hi0 : ∀ wx : World, (Instr.index 9 (.string S) (.int .i64 0)).run Tryd.prog wx = .ok (.int .u8 (x0.toNat : Nat)) wx := fun wx => by
    rw [hS]; subst hlm; exact run_index_l (x0 :: m) 0 (by simp) wx
  have hx1 : ((x0.toNat : Int) == 45) = false := by rw [beq_eq_false_iff_ne]; intro e; exact hx0 (UInt8.toNat_inj.1 (by rw [show (45 : UInt8).toNat = 45 from rfl]; omega))
  obtain ⟨xn, hxn⟩ : ∃ xn, xn = x0.toNat := ⟨_, rfl⟩
  rw [← hxn] at hi0 hx1; clear hxn hx0
  obtain ⟨T, hT⟩ : ∃ T : ByteArray, T = ⟨l.toArray⟩ := ⟨_, rfl⟩
  have htz : T.size = l.length := by rw [hT]; simp [ByteArray.size]
  have hTS : T = S := by rw [hT, hS]
  have hfd := fun wx => rfind_any 47 47 l wx rfl (by omega)
  have hfn : fnd 47 l = -1 := by unfold fnd; rw [hcut]
  rw [hfn] at hfd
  have hpX := fun wx => rparse_any l wx (.inl (by omega))
  have hwx := parV_len (l := l) (K := 300) (by omega)
  rw [← hT] at hpX
  obtain ⟨EX, hEX⟩ : ∃ E, E = parC l := ⟨_, rfl⟩; obtain ⟨VX, hVX⟩ : ∃ V, V = parV l := ⟨_, rfl⟩
  rw [← hEX, ← hVX] at hpX; rw [← hVX] at hwx
  rw [← hEX] at hpx
  rw [← hVX] at hr
  clear hEX hVX
  subst hpx
  skip
  obtain ⟨q, hq⟩ : ∃ q, q = qm false VX 1 := ⟨_, rfl⟩
  rw [← hq] at hr
  have hrl : rl q ≤ 300 := by rw [hq]; exact rl_qm (by decide) hwx (by rw [wd_one_len]; decide)
  obtain ⟨TX, hTX⟩ : ∃ A : ByteArray, A = ⟨(rtx q).toArray⟩ := ⟨_, rfl⟩
  have hnx : TX ≠ S := fun e => hr (by rw [hTX, hS] at e; have := congrArg (fun z : ByteArray => z.data.toList) e; simpa using this)
  have hbq : (TX.toList == S.toList) = false := by rw [beq_eq_false_iff_ne, ByteArray.toList_eq, ByteArray.toList_eq]; intro e; exact hnx (ByteArray.ext (Array.toList_inj.1 e))
  have hbq2 : (TX.toList != S.toList) = true := by simp only [bne, hbq, Bool.not_false]
  clear hnx
  have HQ := Lib.hid hq; have HTX := Lib.hid hTX; clear hq hTX hr
  rw [← hS] at hdc; rw [← hT] at hfd; rw [← hS]
  subst hTS
  have HDC := Lib.hid hdc; have HFD := Lib.hid hfd; have HPX := Lib.hid hpX; clear hdc hfd hfn hS hlm hcut hpX hT
  clear htz hlm1
  rcases hdc2 with rfl | ⟨rfl, f2⟩
  · go_enter Tryd.func14, Tryd.ntmps14
    have hs := HDC.out w0
    have HS := Lib.hid hs; clear hs
    go_wp2_with fail
    rw [← HW0.out]
    (with_reducible refine HS.out.mono ?_); rintro e w1 ⟨v1, rfl, hb1, hn1⟩
    clear HS
    have HB1 := Lib.hid (HB0.out.step hb1)
    have BXR := Lib.hid (heap_below BXR.out hb1)
    have O := Lib.hid hn1; clear hn1
    clear hb1
    obtain ⟨sO, oO, nO, cO, aO, mO, dO, rfl⟩ := O.out.shape
    obtain ⟨w2, hw2⟩ : ∃ w2, w2 = w1.alloc (.cells #[.bool sO, .slice oO nO cO, .slice aO mO dO] 24) := ⟨_, rfl⟩
    have hb2 : Below w1.heap.size w1 w2 := by rw [hw2]; exact (Below.refl _ _).alloc (Nat.le_refl _) _
    have hxo := heap_alloc_new w1 (.cells #[.bool sO, .slice oO nO cO, .slice aO mO dO] 24)
    obtain ⟨go, hgo⟩ : ∃ go, go = w1.heap.size := ⟨_, rfl⟩
    rw [← hw2, ← hgo] at hxo
    have HW2 := Lib.hid hw2; have HGo := Lib.hid hgo; clear hw2 hgo
    have HB2 := Lib.hid (HB1.out.step hb2)
    have O := Lib.hid (O.out.below hb2)
    have BXR := Lib.hid (heap_below BXR.out hb2)
    clear hb2
    have BXo := Lib.hid hxo; clear hxo
    go_wp2_with fail
    rw [← HW2.out]
    try rw [← HGo.out]
    go_quiet (fail)
    have hb30 : Below w2.heap.size w2 (w2.drewN nq) := below_drewN (Below.refl _ _) _
    obtain ⟨w30, hw30⟩ : ∃ w30, w30 = w2.drewN nq := ⟨_, rfl⟩
    rw [← hw30] at hb30 ⊢; clear hw30
    have HB30 := Lib.hid (HB2.out.step hb30)
    have O := Lib.hid (O.out.below hb30)
    have BXR := Lib.hid (heap_below BXR.out hb30)
    have BXo := Lib.hid (heap_below BXo.out hb30)
    clear hb30
    obtain ⟨w31, hw31⟩ : ∃ w31, w31 = w30.alloc (.cells #[.int .u32 1] 57) := ⟨_, rfl⟩
    have hb31 : Below w30.heap.size w30 w31 := by rw [hw31]; exact (Below.refl _ _).alloc (Nat.le_refl _) _
    have hxD1 := heap_alloc_new w30 (.cells #[.int .u32 1] 57)
    obtain ⟨gD1, hgD1⟩ : ∃ gD1, gD1 = w30.heap.size := ⟨_, rfl⟩
    rw [← hw31, ← hgD1] at hxD1
    have HW31 := Lib.hid hw31; have HGD1 := Lib.hid hgD1; clear hw31 hgD1
    have HB31 := Lib.hid (HB30.out.step hb31)
    have O := Lib.hid (O.out.below hb31)
    have BXR := Lib.hid (heap_below BXR.out hb31)
    have BXo := Lib.hid (heap_below BXo.out hb31)
    clear hb31
    have hnD := num_one1 w30
    rw [← HW31.out, ← HGD1.out] at hnD
    have D := Lib.hid hnD; clear hnD hxD1
    have hs := HFD.out w31
    have HS := Lib.hid hs; clear hs
    go_wp2_with fail
    rw [← HW31.out]
    try rw [← HGD1.out]
    (with_reducible refine HS.out.mono ?_); rintro e wx ⟨rfl, rfl⟩
    clear HS
    have hs := HPX.out w31
    have HS := Lib.hid hs; clear hs
    go_wp2_with fail
    (with_reducible refine HS.out.mono ?_); rintro e w33 ⟨v33, rfl, hb33, hn33⟩
    clear HS
    have HB33 := Lib.hid (HB31.out.step hb33)
    have O := Lib.hid (O.out.below hb33)
    have D := Lib.hid (D.out.below hb33)
    have BXR := Lib.hid (heap_below BXR.out hb33)
    have BXo := Lib.hid (heap_below BXo.out hb33)
    have NX := Lib.hid hn33; clear hn33
    clear hb33
    have hs := rfromN false NX.out D.out (by omega) (by have := wd_one_len; omega)
    rw [show zc 1 = 0 from rfl, ← HQ.out] at hs
    have HS := Lib.hid hs; clear hs
    go_wp2_with fail
    (with_reducible refine HS.out.mono ?_); rintro e w34 ⟨v34, rfl, hb34, hn34⟩
    clear HS
    have HB34 := Lib.hid (HB33.out.step hb34)
    have O := Lib.hid (O.out.below hb34)
    have D := Lib.hid (D.out.below hb34)
    have NX := Lib.hid (NX.out.below hb34)
    have BXR := Lib.hid (heap_below BXR.out hb34)
    have BXo := Lib.hid (heap_below BXo.out hb34)
    have Q := Lib.hid hn34; clear hn34
    clear hb34
    obtain ⟨sQ, oQ, nQ, cQ, aQ, mQ, dQ, rfl⟩ := Q.out.shape
    obtain ⟨w35, hw35⟩ : ∃ w35, w35 = w34.alloc (.cells #[.bool sQ, .slice oQ nQ cQ, .slice aQ mQ dQ] 24) := ⟨_, rfl⟩
    have hb35 : Below w34.heap.size w34 w35 := by rw [hw35]; exact (Below.refl _ _).alloc (Nat.le_refl _) _
    have hxx := heap_alloc_new w34 (.cells #[.bool sQ, .slice oQ nQ cQ, .slice aQ mQ dQ] 24)
    obtain ⟨gx, hgx⟩ : ∃ gx, gx = w34.heap.size := ⟨_, rfl⟩
    rw [← hw35, ← hgx] at hxx
    have HW35 := Lib.hid hw35; have HGx := Lib.hid hgx; clear hw35 hgx
    have HB35 := Lib.hid (HB34.out.step hb35)
    have O := Lib.hid (O.out.below hb35)
    have D := Lib.hid (D.out.below hb35)
    have NX := Lib.hid (NX.out.below hb35)
    have Q := Lib.hid (Q.out.below hb35)
    have BXR := Lib.hid (heap_below BXR.out hb35)
    have BXo := Lib.hid (heap_below BXo.out hb35)
    clear hb35
    have BXx := Lib.hid hxx; clear hxx
    have hs := rtextq_any _ q w35 (IsR.is Q.out (by omega))
    rw [← HTX.out] at hs
    have HS := Lib.hid hs; clear hs
    obtain ⟨ex0, ex1, ex2⟩ := row3 BXx.out
    rw [HW35.out] at ex0
    rw [HGx.out] at ex0
    rw [HW35.out] at ex1
    rw [HGx.out] at ex1
    rw [HW35.out] at ex2
    rw [HGx.out] at ex2
    go_wp2_with fail
    rw [← HW35.out]
    try rw [← HGx.out]
    clear ex0 ex1 ex2
    (with_reducible refine HS.out.mono ?_); rintro e w36 ⟨rfl, hb36⟩
    clear HS
    have HB36 := Lib.hid (HB35.out.step hb36)
    have O := Lib.hid (O.out.below hb36)
    have D := Lib.hid (D.out.below hb36)
    have NX := Lib.hid (NX.out.below hb36)
    have Q := Lib.hid (Q.out.below hb36)
    have BXR := Lib.hid (heap_below BXR.out hb36)
    have BXo := Lib.hid (heap_below BXo.out hb36)
    have BXx := Lib.hid (heap_below BXx.out hb36)
    clear hb36
    obtain ⟨eR0, eR1, eR2⟩ := row3 BXR.out
    obtain ⟨fR0, fR1, fR2⟩ := froz3 BXR.out
    go_wp2_with fail
    clear eR0 eR1 eR2 fR0 fR1 fR2
    refine ret_rat2 rfl w.heap.size _ _ _ rfl (put3_heap BXR.out) rfl ?_
    exact ⟨_, rfl, put3_below HB36.out (by omega) _ _ _, isR_zero _⟩
  · go_enter Tryd.func14, Tryd.ntmps14
    have hs := HDC.out w0
    have HS := Lib.hid hs; clear hs
    go_wp2_with fail
    rw [← HW0.out]
    (with_reducible refine HS.out.mono ?_); rintro e w1 ⟨v1, rfl, hb1, hn1⟩
    clear HS
    have HB1 := Lib.hid (HB0.out.step hb1)
    have BXR := Lib.hid (heap_below BXR.out hb1)
    have O := Lib.hid hn1; clear hn1
    clear hb1
    obtain ⟨sO, oO, nO, cO, aO, mO, dO, rfl⟩ := O.out.shape
    obtain ⟨w2, hw2⟩ : ∃ w2, w2 = w1.alloc (.cells #[.bool sO, .slice oO nO cO, .slice aO mO dO] 24) := ⟨_, rfl⟩
    have hb2 : Below w1.heap.size w1 w2 := by rw [hw2]; exact (Below.refl _ _).alloc (Nat.le_refl _) _
    have hxo := heap_alloc_new w1 (.cells #[.bool sO, .slice oO nO cO, .slice aO mO dO] 24)
    obtain ⟨go, hgo⟩ : ∃ go, go = w1.heap.size := ⟨_, rfl⟩
    rw [← hw2, ← hgo] at hxo
    have HW2 := Lib.hid hw2; have HGo := Lib.hid hgo; clear hw2 hgo
    have HB2 := Lib.hid (HB1.out.step hb2)
    have O := Lib.hid (O.out.below hb2)
    have BXR := Lib.hid (heap_below BXR.out hb2)
    clear hb2
    have BXo := Lib.hid hxo; clear hxo
    go_wp2_with fail
    rw [← HW2.out]
    try rw [← HGo.out]
    go_quiet (fail)
    have hb30 : Below w2.heap.size w2 (w2.drewN nq) := below_drewN (Below.refl _ _) _
    obtain ⟨w30, hw30⟩ : ∃ w30, w30 = w2.drewN nq := ⟨_, rfl⟩
    rw [← hw30] at hb30 ⊢; clear hw30
    have HB30 := Lib.hid (HB2.out.step hb30)
    have O := Lib.hid (O.out.below hb30)
    have BXR := Lib.hid (heap_below BXR.out hb30)
    have BXo := Lib.hid (heap_below BXo.out hb30)
    clear hb30
    obtain ⟨w31, hw31⟩ : ∃ w31, w31 = w30.alloc (.cells #[.int .u32 1] 57) := ⟨_, rfl⟩
    have hb31 : Below w30.heap.size w30 w31 := by rw [hw31]; exact (Below.refl _ _).alloc (Nat.le_refl _) _
    have hxD1 := heap_alloc_new w30 (.cells #[.int .u32 1] 57)
    obtain ⟨gD1, hgD1⟩ : ∃ gD1, gD1 = w30.heap.size := ⟨_, rfl⟩
    rw [← hw31, ← hgD1] at hxD1
    have HW31 := Lib.hid hw31; have HGD1 := Lib.hid hgD1; clear hw31 hgD1
    have HB31 := Lib.hid (HB30.out.step hb31)
    have O := Lib.hid (O.out.below hb31)
    have BXR := Lib.hid (heap_below BXR.out hb31)
    have BXo := Lib.hid (heap_below BXo.out hb31)
    clear hb31
    have hnD := num_one1 w30
    rw [← HW31.out, ← HGD1.out] at hnD
    have D := Lib.hid hnD; clear hnD hxD1
    have hs := HFD.out w31
    have HS := Lib.hid hs; clear hs
    go_wp2_with fail
    rw [← HW31.out]
    try rw [← HGD1.out]
    (with_reducible refine HS.out.mono ?_); rintro e wx ⟨rfl, rfl⟩
    clear HS
    have hs := HPX.out w31
    have HS := Lib.hid hs; clear hs
    go_wp2_with fail
    (with_reducible refine HS.out.mono ?_); rintro e w33 ⟨v33, rfl, hb33, hn33⟩
    clear HS
    have HB33 := Lib.hid (HB31.out.step hb33)
    have O := Lib.hid (O.out.below hb33)
    have D := Lib.hid (D.out.below hb33)
    have BXR := Lib.hid (heap_below BXR.out hb33)
    have BXo := Lib.hid (heap_below BXo.out hb33)
    have NX := Lib.hid hn33; clear hn33
    clear hb33
    have hs := rfromN false NX.out D.out (by omega) (by have := wd_one_len; omega)
    rw [show zc 1 = 0 from rfl, ← HQ.out] at hs
    have HS := Lib.hid hs; clear hs
    go_wp2_with fail
    (with_reducible refine HS.out.mono ?_); rintro e w34 ⟨v34, rfl, hb34, hn34⟩
    clear HS
    have HB34 := Lib.hid (HB33.out.step hb34)
    have O := Lib.hid (O.out.below hb34)
    have D := Lib.hid (D.out.below hb34)
    have NX := Lib.hid (NX.out.below hb34)
    have BXR := Lib.hid (heap_below BXR.out hb34)
    have BXo := Lib.hid (heap_below BXo.out hb34)
    have Q := Lib.hid hn34; clear hn34
    clear hb34
    obtain ⟨sQ, oQ, nQ, cQ, aQ, mQ, dQ, rfl⟩ := Q.out.shape
    obtain ⟨w35, hw35⟩ : ∃ w35, w35 = w34.alloc (.cells #[.bool sQ, .slice oQ nQ cQ, .slice aQ mQ dQ] 24) := ⟨_, rfl⟩
    have hb35 : Below w34.heap.size w34 w35 := by rw [hw35]; exact (Below.refl _ _).alloc (Nat.le_refl _) _
    have hxx := heap_alloc_new w34 (.cells #[.bool sQ, .slice oQ nQ cQ, .slice aQ mQ dQ] 24)
    obtain ⟨gx, hgx⟩ : ∃ gx, gx = w34.heap.size := ⟨_, rfl⟩
    rw [← hw35, ← hgx] at hxx
    have HW35 := Lib.hid hw35; have HGx := Lib.hid hgx; clear hw35 hgx
    have HB35 := Lib.hid (HB34.out.step hb35)
    have O := Lib.hid (O.out.below hb35)
    have D := Lib.hid (D.out.below hb35)
    have NX := Lib.hid (NX.out.below hb35)
    have Q := Lib.hid (Q.out.below hb35)
    have BXR := Lib.hid (heap_below BXR.out hb35)
    have BXo := Lib.hid (heap_below BXo.out hb35)
    clear hb35
    have BXx := Lib.hid hxx; clear hxx
    have hs := rtextq_any _ q w35 (IsR.is Q.out (by omega))
    rw [← HTX.out] at hs
    have HS := Lib.hid hs; clear hs
    obtain ⟨ex0, ex1, ex2⟩ := row3 BXx.out
    rw [HW35.out] at ex0
    rw [HGx.out] at ex0
    rw [HW35.out] at ex1
    rw [HGx.out] at ex1
    rw [HW35.out] at ex2
    rw [HGx.out] at ex2
    go_wp2_with fail
    rw [← HW35.out]
    try rw [← HGx.out]
    clear ex0 ex1 ex2
    (with_reducible refine HS.out.mono ?_); rintro e w36 ⟨rfl, hb36⟩
    clear HS
    have HB36 := Lib.hid (HB35.out.step hb36)
    have O := Lib.hid (O.out.below hb36)
    have D := Lib.hid (D.out.below hb36)
    have NX := Lib.hid (NX.out.below hb36)
    have Q := Lib.hid (Q.out.below hb36)
    have BXR := Lib.hid (heap_below BXR.out hb36)
    have BXo := Lib.hid (heap_below BXo.out hb36)
    have BXx := Lib.hid (heap_below BXx.out hb36)
    clear hb36
    obtain ⟨eR0, eR1, eR2⟩ := row3 BXR.out
    obtain ⟨fR0, fR1, fR2⟩ := froz3 BXR.out
    go_wp2_with fail
    clear eR0 eR1 eR2 fR0 fR1 fR2
    refine ret_rat2 rfl w.heap.size _ _ _ rfl (put3_heap BXR.out) rfl ?_
    exact ⟨_, rfl, put3_below HB36.out (by omega) _ _ _, isR_zero _⟩
set_option maxRecDepth 100000 in
set_option maxHeartbeats 6400000 in
theorem rpq_fits1_f (l : List UInt8) (w : World)  (hl : l.length ≤ 300) (hdec : ¬ (l.length ≤ 64 ∧ (rdO l).isSome = true)) (x0 : UInt8) (m : List UInt8) (hlm : l = x0 :: m) (hx0 : x0 ≠ 45) (hcut : cutL 47 l = none) (hpx : parC l = 0) (hr : rtx (qm false (parV l) 1) = l) :
    Calls Tryd.prog 14 #[.string ⟨l.toArray⟩] w (RetRE w (qm false (parV l) 1) (.int .i64 0)) := by
  have hb0 := ((Below.refl w.heap.size w).alloc (by first | (simp; done) | (simp; omega)) (.cells #[.bool false, .slice none 0 0, .slice none 0 0] 24))
  have hxR := nest1_0 w (.cells #[.bool false, .slice none 0 0, .slice none 0 0] 24)
  obtain ⟨w0, hw0⟩ : ∃ w0, w0 = (w.alloc (.cells #[.bool false, .slice none 0 0, .slice none 0 0] 24)) := ⟨_, rfl⟩
  rw [← hw0] at hb0 hxR
  have HB0 := Lib.hid hb0; have HW0 := Lib.hid hw0
  have BXR := Lib.hid hxR
  clear hb0 hw0 hxR
  have f1 : decide ((65536 : Int) < (l.length : Int)) = false := decide_eq_false (by omega)
  have hdc := fun wx => rdec_any l wx hl
  obtain ⟨S, hS⟩ : ∃ S : ByteArray, S = ⟨l.toArray⟩ := ⟨_, rfl⟩
  have hsz : S.size = l.length := by rw [hS]; simp [ByteArray.size]
  obtain ⟨oq, hoq⟩ : ∃ oq, oq = oQ (rdO l) := ⟨_, rfl⟩; obtain ⟨ob, hob⟩ : ∃ ob, ob = (rdO l).isSome := ⟨_, rfl⟩
  rw [← hoq, ← hob] at hdc; rw [← hob] at hdec; clear hoq hob
  have hdc2 : ob = false ∨ (ob = true ∧ decide ((l.length : Int) ≤ 64) = false) := by
    cases ob with
    | false => exact .inl rfl
    | true => exact .inr ⟨rfl, decide_eq_false (fun h => hdec ⟨by omega, rfl⟩)⟩
  clear hdec
  have hlm1 : l.length = m.length + 1 := by rw [hlm]; rfl
  have hne : S.toList.isEmpty = false := by rw [hS]; exact bytes_ne (by rw [hlm]; simp)
  have hi0 : ∀ wx : World, (Instr.index 9 (.string S) (.int .i64 0)).run Tryd.prog wx = .ok (.int .u8 (x0.toNat : Nat)) wx := fun wx => by
    rw [hS]; subst hlm; exact run_index_l (x0 :: m) 0 (by simp) wx
  have hx1 : ((x0.toNat : Int) == 45) = false := by rw [beq_eq_false_iff_ne]; intro e; exact hx0 (UInt8.toNat_inj.1 (by rw [show (45 : UInt8).toNat = 45 from rfl]; omega))
  obtain ⟨xn, hxn⟩ : ∃ xn, xn = x0.toNat := ⟨_, rfl⟩
  rw [← hxn] at hi0 hx1; clear hxn hx0
  obtain ⟨T, hT⟩ : ∃ T : ByteArray, T = ⟨l.toArray⟩ := ⟨_, rfl⟩
  have htz : T.size = l.length := by rw [hT]; simp [ByteArray.size]
  have hTS : T = S := by rw [hT, hS]
  have hfd := fun wx => rfind_any 47 47 l wx rfl (by omega)
  have hfn : fnd 47 l = -1 := by unfold fnd; rw [hcut]
  rw [hfn] at hfd
  have hpX := fun wx => rparse_any l wx (.inl (by omega))
  have hwx := parV_len (l := l) (K := 300) (by omega)
  rw [← hT] at hpX
  obtain ⟨EX, hEX⟩ : ∃ E, E = parC l := ⟨_, rfl⟩; obtain ⟨VX, hVX⟩ : ∃ V, V = parV l := ⟨_, rfl⟩
  rw [← hEX, ← hVX] at hpX; rw [← hVX] at hwx
  rw [← hEX] at hpx
  rw [← hVX] at hr
  rw [← hVX]
  clear hEX hVX
  subst hpx
  skip
  obtain ⟨q, hq⟩ : ∃ q, q = qm false VX 1 := ⟨_, rfl⟩
  rw [← hq] at hr ⊢
  have hrl : rl q ≤ 300 := by rw [hq]; exact rl_qm (by decide) hwx (by rw [wd_one_len]; decide)
  obtain ⟨TX, hTX⟩ : ∃ A : ByteArray, A = ⟨(rtx q).toArray⟩ := ⟨_, rfl⟩
  have htx : TX = S := by rw [hTX, hr, hS]
  have hbq : (S.toList != S.toList) = false := by simp
  have hbq2 : (S.toList == S.toList) = true := by simp
  have HQ := Lib.hid hq; have HTX := Lib.hid hTX; clear hq hTX hr
  have HTS := Lib.hid htx; clear htx
  rw [← hS] at hdc; rw [← hT] at hfd; rw [← hS]
  subst hTS
  have HDC := Lib.hid hdc; have HFD := Lib.hid hfd; have HPX := Lib.hid hpX; clear hdc hfd hfn hS hlm hcut hpX hT
  clear htz hlm1
  rcases hdc2 with rfl | ⟨rfl, f2⟩
  · go_enter Tryd.func14, Tryd.ntmps14
    have hs := HDC.out w0
    have HS := Lib.hid hs; clear hs
    go_wp2_with fail
    rw [← HW0.out]
    (with_reducible refine HS.out.mono ?_); rintro e w1 ⟨v1, rfl, hb1, hn1⟩
    clear HS
    have HB1 := Lib.hid (HB0.out.step hb1)
    have BXR := Lib.hid (heap_below BXR.out hb1)
    have O := Lib.hid hn1; clear hn1
    clear hb1
    obtain ⟨sO, oO, nO, cO, aO, mO, dO, rfl⟩ := O.out.shape
    obtain ⟨w2, hw2⟩ : ∃ w2, w2 = w1.alloc (.cells #[.bool sO, .slice oO nO cO, .slice aO mO dO] 24) := ⟨_, rfl⟩
    have hb2 : Below w1.heap.size w1 w2 := by rw [hw2]; exact (Below.refl _ _).alloc (Nat.le_refl _) _
    have hxo := heap_alloc_new w1 (.cells #[.bool sO, .slice oO nO cO, .slice aO mO dO] 24)
    obtain ⟨go, hgo⟩ : ∃ go, go = w1.heap.size := ⟨_, rfl⟩
    rw [← hw2, ← hgo] at hxo
    have HW2 := Lib.hid hw2; have HGo := Lib.hid hgo; clear hw2 hgo
    have HB2 := Lib.hid (HB1.out.step hb2)
    have O := Lib.hid (O.out.below hb2)
    have BXR := Lib.hid (heap_below BXR.out hb2)
    clear hb2
    have BXo := Lib.hid hxo; clear hxo
    go_wp2_with fail
    rw [← HW2.out]
    try rw [← HGo.out]
    go_quiet (fail)
    have hb30 : Below w2.heap.size w2 (w2.drewN nq) := below_drewN (Below.refl _ _) _
    obtain ⟨w30, hw30⟩ : ∃ w30, w30 = w2.drewN nq := ⟨_, rfl⟩
    rw [← hw30] at hb30 ⊢; clear hw30
    have HB30 := Lib.hid (HB2.out.step hb30)
    have O := Lib.hid (O.out.below hb30)
    have BXR := Lib.hid (heap_below BXR.out hb30)
    have BXo := Lib.hid (heap_below BXo.out hb30)
    clear hb30
    obtain ⟨w31, hw31⟩ : ∃ w31, w31 = w30.alloc (.cells #[.int .u32 1] 57) := ⟨_, rfl⟩
    have hb31 : Below w30.heap.size w30 w31 := by rw [hw31]; exact (Below.refl _ _).alloc (Nat.le_refl _) _
    have hxD1 := heap_alloc_new w30 (.cells #[.int .u32 1] 57)
    obtain ⟨gD1, hgD1⟩ : ∃ gD1, gD1 = w30.heap.size := ⟨_, rfl⟩
    rw [← hw31, ← hgD1] at hxD1
    have HW31 := Lib.hid hw31; have HGD1 := Lib.hid hgD1; clear hw31 hgD1
    have HB31 := Lib.hid (HB30.out.step hb31)
    have O := Lib.hid (O.out.below hb31)
    have BXR := Lib.hid (heap_below BXR.out hb31)
    have BXo := Lib.hid (heap_below BXo.out hb31)
    clear hb31
    have hnD := num_one1 w30
    rw [← HW31.out, ← HGD1.out] at hnD
    have D := Lib.hid hnD; clear hnD hxD1
    have hs := HFD.out w31
    have HS := Lib.hid hs; clear hs
    go_wp2_with fail
    rw [← HW31.out]
    try rw [← HGD1.out]
    (with_reducible refine HS.out.mono ?_); rintro e wx ⟨rfl, rfl⟩
    clear HS
    have hs := HPX.out w31
    have HS := Lib.hid hs; clear hs
    go_wp2_with fail
    (with_reducible refine HS.out.mono ?_); rintro e w33 ⟨v33, rfl, hb33, hn33⟩
    clear HS
    have HB33 := Lib.hid (HB31.out.step hb33)
    have O := Lib.hid (O.out.below hb33)
    have D := Lib.hid (D.out.below hb33)
    have BXR := Lib.hid (heap_below BXR.out hb33)
    have BXo := Lib.hid (heap_below BXo.out hb33)
    have NX := Lib.hid hn33; clear hn33
    clear hb33
    have hs := rfromN false NX.out D.out (by omega) (by have := wd_one_len; omega)
    rw [show zc 1 = 0 from rfl, ← HQ.out] at hs
    have HS := Lib.hid hs; clear hs
    go_wp2_with fail
    (with_reducible refine HS.out.mono ?_); rintro e w34 ⟨v34, rfl, hb34, hn34⟩
    clear HS
    have HB34 := Lib.hid (HB33.out.step hb34)
    have O := Lib.hid (O.out.below hb34)
    have D := Lib.hid (D.out.below hb34)
    have NX := Lib.hid (NX.out.below hb34)
    have BXR := Lib.hid (heap_below BXR.out hb34)
    have BXo := Lib.hid (heap_below BXo.out hb34)
    have Q := Lib.hid hn34; clear hn34
    clear hb34
    obtain ⟨sQ, oQ, nQ, cQ, aQ, mQ, dQ, rfl⟩ := Q.out.shape
    obtain ⟨w35, hw35⟩ : ∃ w35, w35 = w34.alloc (.cells #[.bool sQ, .slice oQ nQ cQ, .slice aQ mQ dQ] 24) := ⟨_, rfl⟩
    have hb35 : Below w34.heap.size w34 w35 := by rw [hw35]; exact (Below.refl _ _).alloc (Nat.le_refl _) _
    have hxx := heap_alloc_new w34 (.cells #[.bool sQ, .slice oQ nQ cQ, .slice aQ mQ dQ] 24)
    obtain ⟨gx, hgx⟩ : ∃ gx, gx = w34.heap.size := ⟨_, rfl⟩
    rw [← hw35, ← hgx] at hxx
    have HW35 := Lib.hid hw35; have HGx := Lib.hid hgx; clear hw35 hgx
    have HB35 := Lib.hid (HB34.out.step hb35)
    have O := Lib.hid (O.out.below hb35)
    have D := Lib.hid (D.out.below hb35)
    have NX := Lib.hid (NX.out.below hb35)
    have Q := Lib.hid (Q.out.below hb35)
    have BXR := Lib.hid (heap_below BXR.out hb35)
    have BXo := Lib.hid (heap_below BXo.out hb35)
    clear hb35
    have BXx := Lib.hid hxx; clear hxx
    have hs := rtextq_any _ q w35 (IsR.is Q.out (by omega))
    rw [← HTX.out] at hs
    have HS := Lib.hid hs; clear hs
    obtain ⟨ex0, ex1, ex2⟩ := row3 BXx.out
    rw [HW35.out] at ex0
    rw [HGx.out] at ex0
    rw [HW35.out] at ex1
    rw [HGx.out] at ex1
    rw [HW35.out] at ex2
    rw [HGx.out] at ex2
    go_wp2_with fail
    rw [← HW35.out]
    try rw [← HGx.out]
    clear ex0 ex1 ex2
    (with_reducible refine HS.out.mono ?_); rintro e w36 ⟨rfl, hb36⟩
    clear HS
    have HB36 := Lib.hid (HB35.out.step hb36)
    have O := Lib.hid (O.out.below hb36)
    have D := Lib.hid (D.out.below hb36)
    have NX := Lib.hid (NX.out.below hb36)
    have Q := Lib.hid (Q.out.below hb36)
    have BXR := Lib.hid (heap_below BXR.out hb36)
    have BXo := Lib.hid (heap_below BXo.out hb36)
    have BXx := Lib.hid (heap_below BXx.out hb36)
    clear hb36
    have htx := HTS.out; subst htx
    obtain ⟨ex0, ex1, ex2⟩ := row3 BXx.out
    obtain ⟨eR0, eR1, eR2⟩ := row3 BXR.out
    obtain ⟨fR0, fR1, fR2⟩ := froz3 BXR.out
    go_wp2_with fail
    clear ex0 ex1 ex2 eR0 eR1 eR2 fR0 fR1 fR2
    refine ret_rat2 rfl w.heap.size _ _ _ rfl (put3_heap BXR.out) rfl ?_
    exact ⟨_, rfl, put3_below HB36.out (by omega) _ _ _, isR_put Q.out BXR.out⟩
  · go_enter Tryd.func14, Tryd.ntmps14
    have hs := HDC.out w0
    have HS := Lib.hid hs; clear hs
    go_wp2_with fail
    rw [← HW0.out]
    (with_reducible refine HS.out.mono ?_); rintro e w1 ⟨v1, rfl, hb1, hn1⟩
    clear HS
    have HB1 := Lib.hid (HB0.out.step hb1)
    have BXR := Lib.hid (heap_below BXR.out hb1)
    have O := Lib.hid hn1; clear hn1
    clear hb1
    obtain ⟨sO, oO, nO, cO, aO, mO, dO, rfl⟩ := O.out.shape
    obtain ⟨w2, hw2⟩ : ∃ w2, w2 = w1.alloc (.cells #[.bool sO, .slice oO nO cO, .slice aO mO dO] 24) := ⟨_, rfl⟩
    have hb2 : Below w1.heap.size w1 w2 := by rw [hw2]; exact (Below.refl _ _).alloc (Nat.le_refl _) _
    have hxo := heap_alloc_new w1 (.cells #[.bool sO, .slice oO nO cO, .slice aO mO dO] 24)
    obtain ⟨go, hgo⟩ : ∃ go, go = w1.heap.size := ⟨_, rfl⟩
    rw [← hw2, ← hgo] at hxo
    have HW2 := Lib.hid hw2; have HGo := Lib.hid hgo; clear hw2 hgo
    have HB2 := Lib.hid (HB1.out.step hb2)
    have O := Lib.hid (O.out.below hb2)
    have BXR := Lib.hid (heap_below BXR.out hb2)
    clear hb2
    have BXo := Lib.hid hxo; clear hxo
    go_wp2_with fail
    rw [← HW2.out]
    try rw [← HGo.out]
    go_quiet (fail)
    have hb30 : Below w2.heap.size w2 (w2.drewN nq) := below_drewN (Below.refl _ _) _
    obtain ⟨w30, hw30⟩ : ∃ w30, w30 = w2.drewN nq := ⟨_, rfl⟩
    rw [← hw30] at hb30 ⊢; clear hw30
    have HB30 := Lib.hid (HB2.out.step hb30)
    have O := Lib.hid (O.out.below hb30)
    have BXR := Lib.hid (heap_below BXR.out hb30)
    have BXo := Lib.hid (heap_below BXo.out hb30)
    clear hb30
    obtain ⟨w31, hw31⟩ : ∃ w31, w31 = w30.alloc (.cells #[.int .u32 1] 57) := ⟨_, rfl⟩
    have hb31 : Below w30.heap.size w30 w31 := by rw [hw31]; exact (Below.refl _ _).alloc (Nat.le_refl _) _
    have hxD1 := heap_alloc_new w30 (.cells #[.int .u32 1] 57)
    obtain ⟨gD1, hgD1⟩ : ∃ gD1, gD1 = w30.heap.size := ⟨_, rfl⟩
    rw [← hw31, ← hgD1] at hxD1
    have HW31 := Lib.hid hw31; have HGD1 := Lib.hid hgD1; clear hw31 hgD1
    have HB31 := Lib.hid (HB30.out.step hb31)
    have O := Lib.hid (O.out.below hb31)
    have BXR := Lib.hid (heap_below BXR.out hb31)
    have BXo := Lib.hid (heap_below BXo.out hb31)
    clear hb31
    have hnD := num_one1 w30
    rw [← HW31.out, ← HGD1.out] at hnD
    have D := Lib.hid hnD; clear hnD hxD1
    have hs := HFD.out w31
    have HS := Lib.hid hs; clear hs
    go_wp2_with fail
    rw [← HW31.out]
    try rw [← HGD1.out]
    (with_reducible refine HS.out.mono ?_); rintro e wx ⟨rfl, rfl⟩
    clear HS
    have hs := HPX.out w31
    have HS := Lib.hid hs; clear hs
    go_wp2_with fail
    (with_reducible refine HS.out.mono ?_); rintro e w33 ⟨v33, rfl, hb33, hn33⟩
    clear HS
    have HB33 := Lib.hid (HB31.out.step hb33)
    have O := Lib.hid (O.out.below hb33)
    have D := Lib.hid (D.out.below hb33)
    have BXR := Lib.hid (heap_below BXR.out hb33)
    have BXo := Lib.hid (heap_below BXo.out hb33)
    have NX := Lib.hid hn33; clear hn33
    clear hb33
    have hs := rfromN false NX.out D.out (by omega) (by have := wd_one_len; omega)
    rw [show zc 1 = 0 from rfl, ← HQ.out] at hs
    have HS := Lib.hid hs; clear hs
    go_wp2_with fail
    (with_reducible refine HS.out.mono ?_); rintro e w34 ⟨v34, rfl, hb34, hn34⟩
    clear HS
    have HB34 := Lib.hid (HB33.out.step hb34)
    have O := Lib.hid (O.out.below hb34)
    have D := Lib.hid (D.out.below hb34)
    have NX := Lib.hid (NX.out.below hb34)
    have BXR := Lib.hid (heap_below BXR.out hb34)
    have BXo := Lib.hid (heap_below BXo.out hb34)
    have Q := Lib.hid hn34; clear hn34
    clear hb34
    obtain ⟨sQ, oQ, nQ, cQ, aQ, mQ, dQ, rfl⟩ := Q.out.shape
    obtain ⟨w35, hw35⟩ : ∃ w35, w35 = w34.alloc (.cells #[.bool sQ, .slice oQ nQ cQ, .slice aQ mQ dQ] 24) := ⟨_, rfl⟩
    have hb35 : Below w34.heap.size w34 w35 := by rw [hw35]; exact (Below.refl _ _).alloc (Nat.le_refl _) _
    have hxx := heap_alloc_new w34 (.cells #[.bool sQ, .slice oQ nQ cQ, .slice aQ mQ dQ] 24)
    obtain ⟨gx, hgx⟩ : ∃ gx, gx = w34.heap.size := ⟨_, rfl⟩
    rw [← hw35, ← hgx] at hxx
    have HW35 := Lib.hid hw35; have HGx := Lib.hid hgx; clear hw35 hgx
    have HB35 := Lib.hid (HB34.out.step hb35)
    have O := Lib.hid (O.out.below hb35)
    have D := Lib.hid (D.out.below hb35)
    have NX := Lib.hid (NX.out.below hb35)
    have Q := Lib.hid (Q.out.below hb35)
    have BXR := Lib.hid (heap_below BXR.out hb35)
    have BXo := Lib.hid (heap_below BXo.out hb35)
    clear hb35
    have BXx := Lib.hid hxx; clear hxx
    have hs := rtextq_any _ q w35 (IsR.is Q.out (by omega))
    rw [← HTX.out] at hs
    have HS := Lib.hid hs; clear hs
    obtain ⟨ex0, ex1, ex2⟩ := row3 BXx.out
    rw [HW35.out] at ex0
    rw [HGx.out] at ex0
    rw [HW35.out] at ex1
    rw [HGx.out] at ex1
    rw [HW35.out] at ex2
    rw [HGx.out] at ex2
    go_wp2_with fail
    rw [← HW35.out]
    try rw [← HGx.out]
    clear ex0 ex1 ex2
    (with_reducible refine HS.out.mono ?_); rintro e w36 ⟨rfl, hb36⟩
    clear HS
    have HB36 := Lib.hid (HB35.out.step hb36)
    have O := Lib.hid (O.out.below hb36)
    have D := Lib.hid (D.out.below hb36)
    have NX := Lib.hid (NX.out.below hb36)
    have Q := Lib.hid (Q.out.below hb36)
    have BXR := Lib.hid (heap_below BXR.out hb36)
    have BXo := Lib.hid (heap_below BXo.out hb36)
    have BXx := Lib.hid (heap_below BXx.out hb36)
    clear hb36
    have htx := HTS.out; subst htx
    obtain ⟨ex0, ex1, ex2⟩ := row3 BXx.out
    obtain ⟨eR0, eR1, eR2⟩ := row3 BXR.out
    obtain ⟨fR0, fR1, fR2⟩ := froz3 BXR.out
    go_wp2_with fail
    clear ex0 ex1 ex2 eR0 eR1 eR2 fR0 fR1 fR2
    refine ret_rat2 rfl w.heap.size _ _ _ rfl (put3_heap BXR.out) rfl ?_
    exact ⟨_, rfl, put3_below HB36.out (by omega) _ _ _, isR_put Q.out BXR.out⟩
set_option maxRecDepth 100000 in
set_option maxHeartbeats 6400000 in
theorem rpq_badx2_f (l : List UInt8) (w : World)  (hl : l.length ≤ 300) (hdec : ¬ (l.length ≤ 64 ∧ (rdO l).isSome = true)) (x0 : UInt8) (m : List UInt8) (hlm : l = x0 :: m) (hx0 : x0 ≠ 45) (a b : List UInt8) (hcut : l = a ++ 47 :: b) (hcl : cutL 47 l = some (a, b)) (hbad : parC a ≠ 0) (hpy : parC b = 0) :
    Calls Tryd.prog 14 #[.string ⟨l.toArray⟩] w (RetRE w 0 (.int .i64 2)) := by
  have hb0 := ((Below.refl w.heap.size w).alloc (by first | (simp; done) | (simp; omega)) (.cells #[.bool false, .slice none 0 0, .slice none 0 0] 24))
  have hxR := nest1_0 w (.cells #[.bool false, .slice none 0 0, .slice none 0 0] 24)
  obtain ⟨w0, hw0⟩ : ∃ w0, w0 = (w.alloc (.cells #[.bool false, .slice none 0 0, .slice none 0 0] 24)) := ⟨_, rfl⟩
  rw [← hw0] at hb0 hxR
  have HB0 := Lib.hid hb0; have HW0 := Lib.hid hw0
  have BXR := Lib.hid hxR
  clear hb0 hw0 hxR
  have f1 : decide ((65536 : Int) < (l.length : Int)) = false := decide_eq_false (by omega)
  have hdc := fun wx => rdec_any l wx hl
  obtain ⟨S, hS⟩ : ∃ S : ByteArray, S = ⟨l.toArray⟩ := ⟨_, rfl⟩
  have hsz : S.size = l.length := by rw [hS]; simp [ByteArray.size]
  obtain ⟨oq, hoq⟩ : ∃ oq, oq = oQ (rdO l) := ⟨_, rfl⟩; obtain ⟨ob, hob⟩ : ∃ ob, ob = (rdO l).isSome := ⟨_, rfl⟩
  rw [← hoq, ← hob] at hdc; rw [← hob] at hdec; clear hoq hob
  have hdc2 : ob = false ∨ (ob = true ∧ decide ((l.length : Int) ≤ 64) = false) := by
    cases ob with
    | false => exact .inl rfl
    | true => exact .inr ⟨rfl, decide_eq_false (fun h => hdec ⟨by omega, rfl⟩)⟩
  clear hdec
  have hlm1 : l.length = m.length + 1 := by rw [hlm]; rfl
  have hne : S.toList.isEmpty = false := by rw [hS]; exact bytes_ne (by rw [hlm]; simp)
  have hi0 : ∀ wx : World, (Instr.index 9 (.string S) (.int .i64 0)).run Tryd.prog wx = .ok (.int .u8 (x0.toNat : Nat)) wx := fun wx => by
    rw [hS]; subst hlm; exact run_index_l (x0 :: m) 0 (by simp) wx
  have hx1 : ((x0.toNat : Int) == 45) = false := by rw [beq_eq_false_iff_ne]; intro e; exact hx0 (UInt8.toNat_inj.1 (by rw [show (45 : UInt8).toNat = 45 from rfl]; omega))
  obtain ⟨xn, hxn⟩ : ∃ xn, xn = x0.toNat := ⟨_, rfl⟩
  rw [← hxn] at hi0 hx1; clear hxn hx0
  obtain ⟨T, hT⟩ : ∃ T : ByteArray, T = ⟨l.toArray⟩ := ⟨_, rfl⟩
  have htz : T.size = l.length := by rw [hT]; simp [ByteArray.size]
  have hTS : T = S := by rw [hT, hS]
  have hfd := fun wx => rfind_any 47 47 l wx rfl (by omega)
  have hfn : fnd 47 l = (a.length : Int) := by unfold fnd; rw [hcl]
  rw [hfn] at hfd
  have htl : l.length = a.length + (b.length + 1) := by rw [hcut]; simp
  have g1 : decide ((0 : Int) ≤ (a.length : Int)) = true := decide_eq_true (by omega)
  obtain ⟨A, hA⟩ : ∃ A : ByteArray, A = ⟨a.toArray⟩ := ⟨_, rfl⟩; obtain ⟨B, hB⟩ : ∃ B : ByteArray, B = ⟨b.toArray⟩ := ⟨_, rfl⟩
  have hs1 : ∀ wx : World, (Instr.slice 9 (.string T) none (some (.int .i64 (a.length : Int))) none).run Tryd.prog wx = .ok (.string A) wx := fun wx => by rw [hT, hA, hcut]; exact run_to a _ wx
  have hs2 : ∀ wx : World, (Instr.slice 9 (.string T) (some (.int .i64 ((a.length : Int) + 1))) none none).run Tryd.prog wx = .ok (.string B) wx := fun wx => by rw [hT, hB, hcut]; exact run_from a 47 b wx
  have hpX := fun wx => rparse_any a wx (.inl (by omega)); have hpY := fun wx => rparse_any b wx (.inl (by omega))
  have hwx := parV_len (l := a) (K := 300) (by omega); have hwy := parV_len (l := b) (K := 300) (by omega)
  rw [← hA] at hpX; rw [← hB] at hpY
  obtain ⟨EX, hEX⟩ : ∃ E, E = parC a := ⟨_, rfl⟩; obtain ⟨VX, hVX⟩ : ∃ V, V = parV a := ⟨_, rfl⟩
  rw [← hEX, ← hVX] at hpX; rw [← hVX] at hwx
  obtain ⟨EY, hEY⟩ : ∃ E, E = parC b := ⟨_, rfl⟩; obtain ⟨VY, hVY⟩ : ∃ V, V = parV b := ⟨_, rfl⟩
  rw [← hEY, ← hVY] at hpY; rw [← hVY] at hwy
  rw [← hEX] at hbad
  have g9 : ((EX : Int) != 0) = true := by simp; omega
  rw [← hEY] at hpy; subst hpy
  clear hEX hVX hEY hVY
  rw [← hS] at hdc; rw [← hT] at hfd; rw [← hS]
  subst hTS
  have HDC := Lib.hid hdc; have HFD := Lib.hid hfd; have HPX := Lib.hid hpX; clear hdc hfd hfn hS hlm hcut hpX hT
  have HPY := Lib.hid hpY; clear hpY hA hB hcl
  have hla : a.length ≤ 300 := by omega
  clear htz hlm1 htl
  rcases hdc2 with rfl | ⟨rfl, f2⟩
  · go_enter Tryd.func14, Tryd.ntmps14
    have hs := HDC.out w0
    have HS := Lib.hid hs; clear hs
    go_wp2_with fail
    rw [← HW0.out]
    (with_reducible refine HS.out.mono ?_); rintro e w1 ⟨v1, rfl, hb1, hn1⟩
    clear HS
    have HB1 := Lib.hid (HB0.out.step hb1)
    have BXR := Lib.hid (heap_below BXR.out hb1)
    have O := Lib.hid hn1; clear hn1
    clear hb1
    obtain ⟨sO, oO, nO, cO, aO, mO, dO, rfl⟩ := O.out.shape
    obtain ⟨w2, hw2⟩ : ∃ w2, w2 = w1.alloc (.cells #[.bool sO, .slice oO nO cO, .slice aO mO dO] 24) := ⟨_, rfl⟩
    have hb2 : Below w1.heap.size w1 w2 := by rw [hw2]; exact (Below.refl _ _).alloc (Nat.le_refl _) _
    have hxo := heap_alloc_new w1 (.cells #[.bool sO, .slice oO nO cO, .slice aO mO dO] 24)
    obtain ⟨go, hgo⟩ : ∃ go, go = w1.heap.size := ⟨_, rfl⟩
    rw [← hw2, ← hgo] at hxo
    have HW2 := Lib.hid hw2; have HGo := Lib.hid hgo; clear hw2 hgo
    have HB2 := Lib.hid (HB1.out.step hb2)
    have O := Lib.hid (O.out.below hb2)
    have BXR := Lib.hid (heap_below BXR.out hb2)
    clear hb2
    have BXo := Lib.hid hxo; clear hxo
    go_wp2_with fail
    rw [← HW2.out]
    try rw [← HGo.out]
    go_quiet (fail)
    have hb30 : Below w2.heap.size w2 (w2.drewN nq) := below_drewN (Below.refl _ _) _
    obtain ⟨w30, hw30⟩ : ∃ w30, w30 = w2.drewN nq := ⟨_, rfl⟩
    rw [← hw30] at hb30 ⊢; clear hw30
    have HB30 := Lib.hid (HB2.out.step hb30)
    have O := Lib.hid (O.out.below hb30)
    have BXR := Lib.hid (heap_below BXR.out hb30)
    have BXo := Lib.hid (heap_below BXo.out hb30)
    clear hb30
    obtain ⟨w31, hw31⟩ : ∃ w31, w31 = w30.alloc (.cells #[.int .u32 1] 57) := ⟨_, rfl⟩
    have hb31 : Below w30.heap.size w30 w31 := by rw [hw31]; exact (Below.refl _ _).alloc (Nat.le_refl _) _
    have hxD1 := heap_alloc_new w30 (.cells #[.int .u32 1] 57)
    obtain ⟨gD1, hgD1⟩ : ∃ gD1, gD1 = w30.heap.size := ⟨_, rfl⟩
    rw [← hw31, ← hgD1] at hxD1
    have HW31 := Lib.hid hw31; have HGD1 := Lib.hid hgD1; clear hw31 hgD1
    have HB31 := Lib.hid (HB30.out.step hb31)
    have O := Lib.hid (O.out.below hb31)
    have BXR := Lib.hid (heap_below BXR.out hb31)
    have BXo := Lib.hid (heap_below BXo.out hb31)
    clear hb31
    have hnD := num_one1 w30
    rw [← HW31.out, ← HGD1.out] at hnD
    have D := Lib.hid hnD; clear hnD hxD1
    have hs := HFD.out w31
    have HS := Lib.hid hs; clear hs
    go_wp2_with fail
    rw [← HW31.out]
    try rw [← HGD1.out]
    (with_reducible refine HS.out.mono ?_); rintro e wx ⟨rfl, rfl⟩
    clear HS
    have hs := HPY.out w31
    have HS := Lib.hid hs; clear hs
    go_wp2_with fail
    (with_reducible refine HS.out.mono ?_); rintro e w33 ⟨v33, rfl, hb33, hn33⟩
    clear HS
    have HB33 := Lib.hid (HB31.out.step hb33)
    have O := Lib.hid (O.out.below hb33)
    have D := Lib.hid (D.out.below hb33)
    have BXR := Lib.hid (heap_below BXR.out hb33)
    have BXo := Lib.hid (heap_below BXo.out hb33)
    have NY := Lib.hid hn33; clear hn33
    clear hb33
    have hs := HPX.out w33
    have HS := Lib.hid hs; clear hs
    go_wp2_with fail
    (with_reducible refine HS.out.mono ?_); rintro e w34 ⟨v34, rfl, hb34, hn34⟩
    clear HS
    have HB34 := Lib.hid (HB33.out.step hb34)
    have O := Lib.hid (O.out.below hb34)
    have D := Lib.hid (D.out.below hb34)
    have NY := Lib.hid (NY.out.below hb34)
    have BXR := Lib.hid (heap_below BXR.out hb34)
    have BXo := Lib.hid (heap_below BXo.out hb34)
    have NX := Lib.hid hn34; clear hn34
    clear hb34
    obtain ⟨eR0, eR1, eR2⟩ := row3 BXR.out
    obtain ⟨fR0, fR1, fR2⟩ := froz3 BXR.out
    go_wp2_with fail
    clear eR0 eR1 eR2 fR0 fR1 fR2
    refine ret_rat2 rfl w.heap.size _ _ _ rfl (put3_heap BXR.out) rfl ?_
    exact ⟨_, rfl, put3_below HB34.out (by omega) _ _ _, isR_zero _⟩
  · go_enter Tryd.func14, Tryd.ntmps14
    have hs := HDC.out w0
    have HS := Lib.hid hs; clear hs
    go_wp2_with fail
    rw [← HW0.out]
    (with_reducible refine HS.out.mono ?_); rintro e w1 ⟨v1, rfl, hb1, hn1⟩
    clear HS
    have HB1 := Lib.hid (HB0.out.step hb1)
    have BXR := Lib.hid (heap_below BXR.out hb1)
    have O := Lib.hid hn1; clear hn1
    clear hb1
    obtain ⟨sO, oO, nO, cO, aO, mO, dO, rfl⟩ := O.out.shape
    obtain ⟨w2, hw2⟩ : ∃ w2, w2 = w1.alloc (.cells #[.bool sO, .slice oO nO cO, .slice aO mO dO] 24) := ⟨_, rfl⟩
    have hb2 : Below w1.heap.size w1 w2 := by rw [hw2]; exact (Below.refl _ _).alloc (Nat.le_refl _) _
    have hxo := heap_alloc_new w1 (.cells #[.bool sO, .slice oO nO cO, .slice aO mO dO] 24)
    obtain ⟨go, hgo⟩ : ∃ go, go = w1.heap.size := ⟨_, rfl⟩
    rw [← hw2, ← hgo] at hxo
    have HW2 := Lib.hid hw2; have HGo := Lib.hid hgo; clear hw2 hgo
    have HB2 := Lib.hid (HB1.out.step hb2)
    have O := Lib.hid (O.out.below hb2)
    have BXR := Lib.hid (heap_below BXR.out hb2)
    clear hb2
    have BXo := Lib.hid hxo; clear hxo
    go_wp2_with fail
    rw [← HW2.out]
    try rw [← HGo.out]
    go_quiet (fail)
    have hb30 : Below w2.heap.size w2 (w2.drewN nq) := below_drewN (Below.refl _ _) _
    obtain ⟨w30, hw30⟩ : ∃ w30, w30 = w2.drewN nq := ⟨_, rfl⟩
    rw [← hw30] at hb30 ⊢; clear hw30
    have HB30 := Lib.hid (HB2.out.step hb30)
    have O := Lib.hid (O.out.below hb30)
    have BXR := Lib.hid (heap_below BXR.out hb30)
    have BXo := Lib.hid (heap_below BXo.out hb30)
    clear hb30
    obtain ⟨w31, hw31⟩ : ∃ w31, w31 = w30.alloc (.cells #[.int .u32 1] 57) := ⟨_, rfl⟩
    have hb31 : Below w30.heap.size w30 w31 := by rw [hw31]; exact (Below.refl _ _).alloc (Nat.le_refl _) _
    have hxD1 := heap_alloc_new w30 (.cells #[.int .u32 1] 57)
    obtain ⟨gD1, hgD1⟩ : ∃ gD1, gD1 = w30.heap.size := ⟨_, rfl⟩
    rw [← hw31, ← hgD1] at hxD1
    have HW31 := Lib.hid hw31; have HGD1 := Lib.hid hgD1; clear hw31 hgD1
    have HB31 := Lib.hid (HB30.out.step hb31)
    have O := Lib.hid (O.out.below hb31)
    have BXR := Lib.hid (heap_below BXR.out hb31)
    have BXo := Lib.hid (heap_below BXo.out hb31)
    clear hb31
    have hnD := num_one1 w30
    rw [← HW31.out, ← HGD1.out] at hnD
    have D := Lib.hid hnD; clear hnD hxD1
    have hs := HFD.out w31
    have HS := Lib.hid hs; clear hs
    go_wp2_with fail
    rw [← HW31.out]
    try rw [← HGD1.out]
    (with_reducible refine HS.out.mono ?_); rintro e wx ⟨rfl, rfl⟩
    clear HS
    have hs := HPY.out w31
    have HS := Lib.hid hs; clear hs
    go_wp2_with fail
    (with_reducible refine HS.out.mono ?_); rintro e w33 ⟨v33, rfl, hb33, hn33⟩
    clear HS
    have HB33 := Lib.hid (HB31.out.step hb33)
    have O := Lib.hid (O.out.below hb33)
    have D := Lib.hid (D.out.below hb33)
    have BXR := Lib.hid (heap_below BXR.out hb33)
    have BXo := Lib.hid (heap_below BXo.out hb33)
    have NY := Lib.hid hn33; clear hn33
    clear hb33
    have hs := HPX.out w33
    have HS := Lib.hid hs; clear hs
    go_wp2_with fail
    (with_reducible refine HS.out.mono ?_); rintro e w34 ⟨v34, rfl, hb34, hn34⟩
    clear HS
    have HB34 := Lib.hid (HB33.out.step hb34)
    have O := Lib.hid (O.out.below hb34)
    have D := Lib.hid (D.out.below hb34)
    have NY := Lib.hid (NY.out.below hb34)
    have BXR := Lib.hid (heap_below BXR.out hb34)
    have BXo := Lib.hid (heap_below BXo.out hb34)
    have NX := Lib.hid hn34; clear hn34
    clear hb34
    obtain ⟨eR0, eR1, eR2⟩ := row3 BXR.out
    obtain ⟨fR0, fR1, fR2⟩ := froz3 BXR.out
    go_wp2_with fail
    clear eR0 eR1 eR2 fR0 fR1 fR2
    refine ret_rat2 rfl w.heap.size _ _ _ rfl (put3_heap BXR.out) rfl ?_
    exact ⟨_, rfl, put3_below HB34.out (by omega) _ _ _, isR_zero _⟩
set_option maxRecDepth 100000 in
set_option maxHeartbeats 6400000 in
theorem rpq_bady2_f (l : List UInt8) (w : World)  (hl : l.length ≤ 300) (hdec : ¬ (l.length ≤ 64 ∧ (rdO l).isSome = true)) (x0 : UInt8) (m : List UInt8) (hlm : l = x0 :: m) (hx0 : x0 ≠ 45) (a b : List UInt8) (hcut : l = a ++ 47 :: b) (hcl : cutL 47 l = some (a, b)) (hbad : parC b ≠ 0) :
    Calls Tryd.prog 14 #[.string ⟨l.toArray⟩] w (RetRE w 0 (.int .i64 2)) := by
  have hb0 := ((Below.refl w.heap.size w).alloc (by first | (simp; done) | (simp; omega)) (.cells #[.bool false, .slice none 0 0, .slice none 0 0] 24))
  have hxR := nest1_0 w (.cells #[.bool false, .slice none 0 0, .slice none 0 0] 24)
  obtain ⟨w0, hw0⟩ : ∃ w0, w0 = (w.alloc (.cells #[.bool false, .slice none 0 0, .slice none 0 0] 24)) := ⟨_, rfl⟩
  rw [← hw0] at hb0 hxR
  have HB0 := Lib.hid hb0; have HW0 := Lib.hid hw0
  have BXR := Lib.hid hxR
  clear hb0 hw0 hxR
  have f1 : decide ((65536 : Int) < (l.length : Int)) = false := decide_eq_false (by omega)
  have hdc := fun wx => rdec_any l wx hl
  obtain ⟨S, hS⟩ : ∃ S : ByteArray, S = ⟨l.toArray⟩ := ⟨_, rfl⟩
  have hsz : S.size = l.length := by rw [hS]; simp [ByteArray.size]
  obtain ⟨oq, hoq⟩ : ∃ oq, oq = oQ (rdO l) := ⟨_, rfl⟩; obtain ⟨ob, hob⟩ : ∃ ob, ob = (rdO l).isSome := ⟨_, rfl⟩
  rw [← hoq, ← hob] at hdc; rw [← hob] at hdec; clear hoq hob
  have hdc2 : ob = false ∨ (ob = true ∧ decide ((l.length : Int) ≤ 64) = false) := by
    cases ob with
    | false => exact .inl rfl
    | true => exact .inr ⟨rfl, decide_eq_false (fun h => hdec ⟨by omega, rfl⟩)⟩
  clear hdec
  have hlm1 : l.length = m.length + 1 := by rw [hlm]; rfl
  have hne : S.toList.isEmpty = false := by rw [hS]; exact bytes_ne (by rw [hlm]; simp)
  have hi0 : ∀ wx : World, (Instr.index 9 (.string S) (.int .i64 0)).run Tryd.prog wx = .ok (.int .u8 (x0.toNat : Nat)) wx := fun wx => by
    rw [hS]; subst hlm; exact run_index_l (x0 :: m) 0 (by simp) wx
  have hx1 : ((x0.toNat : Int) == 45) = false := by rw [beq_eq_false_iff_ne]; intro e; exact hx0 (UInt8.toNat_inj.1 (by rw [show (45 : UInt8).toNat = 45 from rfl]; omega))
  obtain ⟨xn, hxn⟩ : ∃ xn, xn = x0.toNat := ⟨_, rfl⟩
  rw [← hxn] at hi0 hx1; clear hxn hx0
  obtain ⟨T, hT⟩ : ∃ T : ByteArray, T = ⟨l.toArray⟩ := ⟨_, rfl⟩
  have htz : T.size = l.length := by rw [hT]; simp [ByteArray.size]
  have hTS : T = S := by rw [hT, hS]
  have hfd := fun wx => rfind_any 47 47 l wx rfl (by omega)
  have hfn : fnd 47 l = (a.length : Int) := by unfold fnd; rw [hcl]
  rw [hfn] at hfd
  have htl : l.length = a.length + (b.length + 1) := by rw [hcut]; simp
  have g1 : decide ((0 : Int) ≤ (a.length : Int)) = true := decide_eq_true (by omega)
  obtain ⟨A, hA⟩ : ∃ A : ByteArray, A = ⟨a.toArray⟩ := ⟨_, rfl⟩; obtain ⟨B, hB⟩ : ∃ B : ByteArray, B = ⟨b.toArray⟩ := ⟨_, rfl⟩
  have hs1 : ∀ wx : World, (Instr.slice 9 (.string T) none (some (.int .i64 (a.length : Int))) none).run Tryd.prog wx = .ok (.string A) wx := fun wx => by rw [hT, hA, hcut]; exact run_to a _ wx
  have hs2 : ∀ wx : World, (Instr.slice 9 (.string T) (some (.int .i64 ((a.length : Int) + 1))) none none).run Tryd.prog wx = .ok (.string B) wx := fun wx => by rw [hT, hB, hcut]; exact run_from a 47 b wx
  have hpX := fun wx => rparse_any a wx (.inl (by omega)); have hpY := fun wx => rparse_any b wx (.inl (by omega))
  have hwx := parV_len (l := a) (K := 300) (by omega); have hwy := parV_len (l := b) (K := 300) (by omega)
  rw [← hA] at hpX; rw [← hB] at hpY
  obtain ⟨EX, hEX⟩ : ∃ E, E = parC a := ⟨_, rfl⟩; obtain ⟨VX, hVX⟩ : ∃ V, V = parV a := ⟨_, rfl⟩
  rw [← hEX, ← hVX] at hpX; rw [← hVX] at hwx
  obtain ⟨EY, hEY⟩ : ∃ E, E = parC b := ⟨_, rfl⟩; obtain ⟨VY, hVY⟩ : ∃ V, V = parV b := ⟨_, rfl⟩
  rw [← hEY, ← hVY] at hpY; rw [← hVY] at hwy
  rw [← hEY] at hbad
  have g9 : ((EY : Int) != 0) = true := by simp; omega
  clear hEX hVX hEY hVY
  rw [← hS] at hdc; rw [← hT] at hfd; rw [← hS]
  subst hTS
  have HDC := Lib.hid hdc; have HFD := Lib.hid hfd; have HPX := Lib.hid hpX; clear hdc hfd hfn hS hlm hcut hpX hT
  have HPY := Lib.hid hpY; clear hpY hA hB hcl
  have hla : a.length ≤ 300 := by omega
  clear htz hlm1 htl
  rcases hdc2 with rfl | ⟨rfl, f2⟩
  · go_enter Tryd.func14, Tryd.ntmps14
    have hs := HDC.out w0
    have HS := Lib.hid hs; clear hs
    go_wp2_with fail
    rw [← HW0.out]
    (with_reducible refine HS.out.mono ?_); rintro e w1 ⟨v1, rfl, hb1, hn1⟩
    clear HS
    have HB1 := Lib.hid (HB0.out.step hb1)
    have BXR := Lib.hid (heap_below BXR.out hb1)
    have O := Lib.hid hn1; clear hn1
    clear hb1
    obtain ⟨sO, oO, nO, cO, aO, mO, dO, rfl⟩ := O.out.shape
    obtain ⟨w2, hw2⟩ : ∃ w2, w2 = w1.alloc (.cells #[.bool sO, .slice oO nO cO, .slice aO mO dO] 24) := ⟨_, rfl⟩
    have hb2 : Below w1.heap.size w1 w2 := by rw [hw2]; exact (Below.refl _ _).alloc (Nat.le_refl _) _
    have hxo := heap_alloc_new w1 (.cells #[.bool sO, .slice oO nO cO, .slice aO mO dO] 24)
    obtain ⟨go, hgo⟩ : ∃ go, go = w1.heap.size := ⟨_, rfl⟩
    rw [← hw2, ← hgo] at hxo
    have HW2 := Lib.hid hw2; have HGo := Lib.hid hgo; clear hw2 hgo
    have HB2 := Lib.hid (HB1.out.step hb2)
    have O := Lib.hid (O.out.below hb2)
    have BXR := Lib.hid (heap_below BXR.out hb2)
    clear hb2
    have BXo := Lib.hid hxo; clear hxo
    go_wp2_with fail
    rw [← HW2.out]
    try rw [← HGo.out]
    go_quiet (fail)
    have hb30 : Below w2.heap.size w2 (w2.drewN nq) := below_drewN (Below.refl _ _) _
    obtain ⟨w30, hw30⟩ : ∃ w30, w30 = w2.drewN nq := ⟨_, rfl⟩
    rw [← hw30] at hb30 ⊢; clear hw30
    have HB30 := Lib.hid (HB2.out.step hb30)
    have O := Lib.hid (O.out.below hb30)
    have BXR := Lib.hid (heap_below BXR.out hb30)
    have BXo := Lib.hid (heap_below BXo.out hb30)
    clear hb30
    obtain ⟨w31, hw31⟩ : ∃ w31, w31 = w30.alloc (.cells #[.int .u32 1] 57) := ⟨_, rfl⟩
    have hb31 : Below w30.heap.size w30 w31 := by rw [hw31]; exact (Below.refl _ _).alloc (Nat.le_refl _) _
    have hxD1 := heap_alloc_new w30 (.cells #[.int .u32 1] 57)
    obtain ⟨gD1, hgD1⟩ : ∃ gD1, gD1 = w30.heap.size := ⟨_, rfl⟩
    rw [← hw31, ← hgD1] at hxD1
    have HW31 := Lib.hid hw31; have HGD1 := Lib.hid hgD1; clear hw31 hgD1
    have HB31 := Lib.hid (HB30.out.step hb31)
    have O := Lib.hid (O.out.below hb31)
    have BXR := Lib.hid (heap_below BXR.out hb31)
    have BXo := Lib.hid (heap_below BXo.out hb31)
    clear hb31
    have hnD := num_one1 w30
    rw [← HW31.out, ← HGD1.out] at hnD
    have D := Lib.hid hnD; clear hnD hxD1
    have hs := HFD.out w31
    have HS := Lib.hid hs; clear hs
    go_wp2_with fail
    rw [← HW31.out]
    try rw [← HGD1.out]
    (with_reducible refine HS.out.mono ?_); rintro e wx ⟨rfl, rfl⟩
    clear HS
    have hs := HPY.out w31
    have HS := Lib.hid hs; clear hs
    go_wp2_with fail
    (with_reducible refine HS.out.mono ?_); rintro e w33 ⟨v33, rfl, hb33, hn33⟩
    clear HS
    have HB33 := Lib.hid (HB31.out.step hb33)
    have O := Lib.hid (O.out.below hb33)
    have D := Lib.hid (D.out.below hb33)
    have BXR := Lib.hid (heap_below BXR.out hb33)
    have BXo := Lib.hid (heap_below BXo.out hb33)
    have NY := Lib.hid hn33; clear hn33
    clear hb33
    have hs := HPX.out w33
    have HS := Lib.hid hs; clear hs
    go_wp2_with fail
    (with_reducible refine HS.out.mono ?_); rintro e w34 ⟨v34, rfl, hb34, hn34⟩
    clear HS
    have HB34 := Lib.hid (HB33.out.step hb34)
    have O := Lib.hid (O.out.below hb34)
    have D := Lib.hid (D.out.below hb34)
    have NY := Lib.hid (NY.out.below hb34)
    have BXR := Lib.hid (heap_below BXR.out hb34)
    have BXo := Lib.hid (heap_below BXo.out hb34)
    have NX := Lib.hid hn34; clear hn34
    clear hb34
    obtain ⟨eR0, eR1, eR2⟩ := row3 BXR.out
    obtain ⟨fR0, fR1, fR2⟩ := froz3 BXR.out
    go_wp2_with fail
    clear eR0 eR1 eR2 fR0 fR1 fR2
    refine ret_rat2 rfl w.heap.size _ _ _ rfl (put3_heap BXR.out) rfl ?_
    exact ⟨_, rfl, put3_below HB34.out (by omega) _ _ _, isR_zero _⟩
  · go_enter Tryd.func14, Tryd.ntmps14
    have hs := HDC.out w0
    have HS := Lib.hid hs; clear hs
    go_wp2_with fail
    rw [← HW0.out]
    (with_reducible refine HS.out.mono ?_); rintro e w1 ⟨v1, rfl, hb1, hn1⟩
    clear HS
    have HB1 := Lib.hid (HB0.out.step hb1)
    have BXR := Lib.hid (heap_below BXR.out hb1)
    have O := Lib.hid hn1; clear hn1
    clear hb1
    obtain ⟨sO, oO, nO, cO, aO, mO, dO, rfl⟩ := O.out.shape
    obtain ⟨w2, hw2⟩ : ∃ w2, w2 = w1.alloc (.cells #[.bool sO, .slice oO nO cO, .slice aO mO dO] 24) := ⟨_, rfl⟩
    have hb2 : Below w1.heap.size w1 w2 := by rw [hw2]; exact (Below.refl _ _).alloc (Nat.le_refl _) _
    have hxo := heap_alloc_new w1 (.cells #[.bool sO, .slice oO nO cO, .slice aO mO dO] 24)
    obtain ⟨go, hgo⟩ : ∃ go, go = w1.heap.size := ⟨_, rfl⟩
    rw [← hw2, ← hgo] at hxo
    have HW2 := Lib.hid hw2; have HGo := Lib.hid hgo; clear hw2 hgo
    have HB2 := Lib.hid (HB1.out.step hb2)
    have O := Lib.hid (O.out.below hb2)
    have BXR := Lib.hid (heap_below BXR.out hb2)
    clear hb2
    have BXo := Lib.hid hxo; clear hxo
    go_wp2_with fail
    rw [← HW2.out]
    try rw [← HGo.out]
    go_quiet (fail)
    have hb30 : Below w2.heap.size w2 (w2.drewN nq) := below_drewN (Below.refl _ _) _
    obtain ⟨w30, hw30⟩ : ∃ w30, w30 = w2.drewN nq := ⟨_, rfl⟩
    rw [← hw30] at hb30 ⊢; clear hw30
    have HB30 := Lib.hid (HB2.out.step hb30)
    have O := Lib.hid (O.out.below hb30)
    have BXR := Lib.hid (heap_below BXR.out hb30)
    have BXo := Lib.hid (heap_below BXo.out hb30)
    clear hb30
    obtain ⟨w31, hw31⟩ : ∃ w31, w31 = w30.alloc (.cells #[.int .u32 1] 57) := ⟨_, rfl⟩
    have hb31 : Below w30.heap.size w30 w31 := by rw [hw31]; exact (Below.refl _ _).alloc (Nat.le_refl _) _
    have hxD1 := heap_alloc_new w30 (.cells #[.int .u32 1] 57)
    obtain ⟨gD1, hgD1⟩ : ∃ gD1, gD1 = w30.heap.size := ⟨_, rfl⟩
    rw [← hw31, ← hgD1] at hxD1
    have HW31 := Lib.hid hw31; have HGD1 := Lib.hid hgD1; clear hw31 hgD1
    have HB31 := Lib.hid (HB30.out.step hb31)
    have O := Lib.hid (O.out.below hb31)
    have BXR := Lib.hid (heap_below BXR.out hb31)
    have BXo := Lib.hid (heap_below BXo.out hb31)
    clear hb31
    have hnD := num_one1 w30
    rw [← HW31.out, ← HGD1.out] at hnD
    have D := Lib.hid hnD; clear hnD hxD1
    have hs := HFD.out w31
    have HS := Lib.hid hs; clear hs
    go_wp2_with fail
    rw [← HW31.out]
    try rw [← HGD1.out]
    (with_reducible refine HS.out.mono ?_); rintro e wx ⟨rfl, rfl⟩
    clear HS
    have hs := HPY.out w31
    have HS := Lib.hid hs; clear hs
    go_wp2_with fail
    (with_reducible refine HS.out.mono ?_); rintro e w33 ⟨v33, rfl, hb33, hn33⟩
    clear HS
    have HB33 := Lib.hid (HB31.out.step hb33)
    have O := Lib.hid (O.out.below hb33)
    have D := Lib.hid (D.out.below hb33)
    have BXR := Lib.hid (heap_below BXR.out hb33)
    have BXo := Lib.hid (heap_below BXo.out hb33)
    have NY := Lib.hid hn33; clear hn33
    clear hb33
    have hs := HPX.out w33
    have HS := Lib.hid hs; clear hs
    go_wp2_with fail
    (with_reducible refine HS.out.mono ?_); rintro e w34 ⟨v34, rfl, hb34, hn34⟩
    clear HS
    have HB34 := Lib.hid (HB33.out.step hb34)
    have O := Lib.hid (O.out.below hb34)
    have D := Lib.hid (D.out.below hb34)
    have NY := Lib.hid (NY.out.below hb34)
    have BXR := Lib.hid (heap_below BXR.out hb34)
    have BXo := Lib.hid (heap_below BXo.out hb34)
    have NX := Lib.hid hn34; clear hn34
    clear hb34
    obtain ⟨eR0, eR1, eR2⟩ := row3 BXR.out
    obtain ⟨fR0, fR1, fR2⟩ := froz3 BXR.out
    go_wp2_with fail
    clear eR0 eR1 eR2 fR0 fR1 fR2
    refine ret_rat2 rfl w.heap.size _ _ _ rfl (put3_heap BXR.out) rfl ?_
    exact ⟨_, rfl, put3_below HB34.out (by omega) _ _ _, isR_zero _⟩
set_option maxRecDepth 100000 in
set_option maxHeartbeats 6400000 in
theorem rpq_zero2_f (l : List UInt8) (w : World)  (hl : l.length ≤ 300) (hdec : ¬ (l.length ≤ 64 ∧ (rdO l).isSome = true)) (x0 : UInt8) (m : List UInt8) (hlm : l = x0 :: m) (hx0 : x0 ≠ 45) (a b : List UInt8) (hcut : l = a ++ 47 :: b) (hcl : cutL 47 l = some (a, b)) (hpx : parC a = 0) (hpy : parC b = 0) (hvy : parV b = 0) :
    Calls Tryd.prog 14 #[.string ⟨l.toArray⟩] w (RetRE w 0 (.int .i64 2)) := by
  have hb0 := ((Below.refl w.heap.size w).alloc (by first | (simp; done) | (simp; omega)) (.cells #[.bool false, .slice none 0 0, .slice none 0 0] 24))
  have hxR := nest1_0 w (.cells #[.bool false, .slice none 0 0, .slice none 0 0] 24)
  obtain ⟨w0, hw0⟩ : ∃ w0, w0 = (w.alloc (.cells #[.bool false, .slice none 0 0, .slice none 0 0] 24)) := ⟨_, rfl⟩
  rw [← hw0] at hb0 hxR
  have HB0 := Lib.hid hb0; have HW0 := Lib.hid hw0
  have BXR := Lib.hid hxR
  clear hb0 hw0 hxR
  have f1 : decide ((65536 : Int) < (l.length : Int)) = false := decide_eq_false (by omega)
  have hdc := fun wx => rdec_any l wx hl
  obtain ⟨S, hS⟩ : ∃ S : ByteArray, S = ⟨l.toArray⟩ := ⟨_, rfl⟩
  have hsz : S.size = l.length := by rw [hS]; simp [ByteArray.size]
  obtain ⟨oq, hoq⟩ : ∃ oq, oq = oQ (rdO l) := ⟨_, rfl⟩; obtain ⟨ob, hob⟩ : ∃ ob, ob = (rdO l).isSome := ⟨_, rfl⟩
  rw [← hoq, ← hob] at hdc; rw [← hob] at hdec; clear hoq hob
  have hdc2 : ob = false ∨ (ob = true ∧ decide ((l.length : Int) ≤ 64) = false) := by
    cases ob with
    | false => exact .inl rfl
    | true => exact .inr ⟨rfl, decide_eq_false (fun h => hdec ⟨by omega, rfl⟩)⟩
  clear hdec
  have hlm1 : l.length = m.length + 1 := by rw [hlm]; rfl
  have hne : S.toList.isEmpty = false := by rw [hS]; exact bytes_ne (by rw [hlm]; simp)
  have hi0 : ∀ wx : World, (Instr.index 9 (.string S) (.int .i64 0)).run Tryd.prog wx = .ok (.int .u8 (x0.toNat : Nat)) wx := fun wx => by
    rw [hS]; subst hlm; exact run_index_l (x0 :: m) 0 (by simp) wx
  have hx1 : ((x0.toNat : Int) == 45) = false := by rw [beq_eq_false_iff_ne]; intro e; exact hx0 (UInt8.toNat_inj.1 (by rw [show (45 : UInt8).toNat = 45 from rfl]; omega))
  obtain ⟨xn, hxn⟩ : ∃ xn, xn = x0.toNat := ⟨_, rfl⟩
  rw [← hxn] at hi0 hx1; clear hxn hx0
  obtain ⟨T, hT⟩ : ∃ T : ByteArray, T = ⟨l.toArray⟩ := ⟨_, rfl⟩
  have htz : T.size = l.length := by rw [hT]; simp [ByteArray.size]
  have hTS : T = S := by rw [hT, hS]
  have hfd := fun wx => rfind_any 47 47 l wx rfl (by omega)
  have hfn : fnd 47 l = (a.length : Int) := by unfold fnd; rw [hcl]
  rw [hfn] at hfd
  have htl : l.length = a.length + (b.length + 1) := by rw [hcut]; simp
  have g1 : decide ((0 : Int) ≤ (a.length : Int)) = true := decide_eq_true (by omega)
  obtain ⟨A, hA⟩ : ∃ A : ByteArray, A = ⟨a.toArray⟩ := ⟨_, rfl⟩; obtain ⟨B, hB⟩ : ∃ B : ByteArray, B = ⟨b.toArray⟩ := ⟨_, rfl⟩
  have hs1 : ∀ wx : World, (Instr.slice 9 (.string T) none (some (.int .i64 (a.length : Int))) none).run Tryd.prog wx = .ok (.string A) wx := fun wx => by rw [hT, hA, hcut]; exact run_to a _ wx
  have hs2 : ∀ wx : World, (Instr.slice 9 (.string T) (some (.int .i64 ((a.length : Int) + 1))) none none).run Tryd.prog wx = .ok (.string B) wx := fun wx => by rw [hT, hB, hcut]; exact run_from a 47 b wx
  have hpX := fun wx => rparse_any a wx (.inl (by omega)); have hpY := fun wx => rparse_any b wx (.inl (by omega))
  have hwx := parV_len (l := a) (K := 300) (by omega); have hwy := parV_len (l := b) (K := 300) (by omega)
  rw [← hA] at hpX; rw [← hB] at hpY
  obtain ⟨EX, hEX⟩ : ∃ E, E = parC a := ⟨_, rfl⟩; obtain ⟨VX, hVX⟩ : ∃ V, V = parV a := ⟨_, rfl⟩
  rw [← hEX, ← hVX] at hpX; rw [← hVX] at hwx
  obtain ⟨EY, hEY⟩ : ∃ E, E = parC b := ⟨_, rfl⟩; obtain ⟨VY, hVY⟩ : ∃ V, V = parV b := ⟨_, rfl⟩
  rw [← hEY, ← hVY] at hpY; rw [← hVY] at hwy
  rw [← hEX] at hpx
  rw [← hEY] at hpy
  rw [← hVY] at hvy
  clear hEX hVX hEY hVY
  subst hpx
  subst hpy
  subst hvy
  rw [← hS] at hdc; rw [← hT] at hfd; rw [← hS]
  subst hTS
  have HDC := Lib.hid hdc; have HFD := Lib.hid hfd; have HPX := Lib.hid hpX; clear hdc hfd hfn hS hlm hcut hpX hT
  have HPY := Lib.hid hpY; clear hpY hA hB hcl
  have hla : a.length ≤ 300 := by omega
  clear htz hlm1 htl
  rcases hdc2 with rfl | ⟨rfl, f2⟩
  · go_enter Tryd.func14, Tryd.ntmps14
    have hs := HDC.out w0
    have HS := Lib.hid hs; clear hs
    go_wp2_with fail
    rw [← HW0.out]
    (with_reducible refine HS.out.mono ?_); rintro e w1 ⟨v1, rfl, hb1, hn1⟩
    clear HS
    have HB1 := Lib.hid (HB0.out.step hb1)
    have BXR := Lib.hid (heap_below BXR.out hb1)
    have O := Lib.hid hn1; clear hn1
    clear hb1
    obtain ⟨sO, oO, nO, cO, aO, mO, dO, rfl⟩ := O.out.shape
    obtain ⟨w2, hw2⟩ : ∃ w2, w2 = w1.alloc (.cells #[.bool sO, .slice oO nO cO, .slice aO mO dO] 24) := ⟨_, rfl⟩
    have hb2 : Below w1.heap.size w1 w2 := by rw [hw2]; exact (Below.refl _ _).alloc (Nat.le_refl _) _
    have hxo := heap_alloc_new w1 (.cells #[.bool sO, .slice oO nO cO, .slice aO mO dO] 24)
    obtain ⟨go, hgo⟩ : ∃ go, go = w1.heap.size := ⟨_, rfl⟩
    rw [← hw2, ← hgo] at hxo
    have HW2 := Lib.hid hw2; have HGo := Lib.hid hgo; clear hw2 hgo
    have HB2 := Lib.hid (HB1.out.step hb2)
    have O := Lib.hid (O.out.below hb2)
    have BXR := Lib.hid (heap_below BXR.out hb2)
    clear hb2
    have BXo := Lib.hid hxo; clear hxo
    go_wp2_with fail
    rw [← HW2.out]
    try rw [← HGo.out]
    go_quiet (fail)
    have hb30 : Below w2.heap.size w2 (w2.drewN nq) := below_drewN (Below.refl _ _) _
    obtain ⟨w30, hw30⟩ : ∃ w30, w30 = w2.drewN nq := ⟨_, rfl⟩
    rw [← hw30] at hb30 ⊢; clear hw30
    have HB30 := Lib.hid (HB2.out.step hb30)
    have O := Lib.hid (O.out.below hb30)
    have BXR := Lib.hid (heap_below BXR.out hb30)
    have BXo := Lib.hid (heap_below BXo.out hb30)
    clear hb30
    obtain ⟨w31, hw31⟩ : ∃ w31, w31 = w30.alloc (.cells #[.int .u32 1] 57) := ⟨_, rfl⟩
    have hb31 : Below w30.heap.size w30 w31 := by rw [hw31]; exact (Below.refl _ _).alloc (Nat.le_refl _) _
    have hxD1 := heap_alloc_new w30 (.cells #[.int .u32 1] 57)
    obtain ⟨gD1, hgD1⟩ : ∃ gD1, gD1 = w30.heap.size := ⟨_, rfl⟩
    rw [← hw31, ← hgD1] at hxD1
    have HW31 := Lib.hid hw31; have HGD1 := Lib.hid hgD1; clear hw31 hgD1
    have HB31 := Lib.hid (HB30.out.step hb31)
    have O := Lib.hid (O.out.below hb31)
    have BXR := Lib.hid (heap_below BXR.out hb31)
    have BXo := Lib.hid (heap_below BXo.out hb31)
    clear hb31
    have hnD := num_one1 w30
    rw [← HW31.out, ← HGD1.out] at hnD
    have D := Lib.hid hnD; clear hnD hxD1
    have hs := HFD.out w31
    have HS := Lib.hid hs; clear hs
    go_wp2_with fail
    rw [← HW31.out]
    try rw [← HGD1.out]
    (with_reducible refine HS.out.mono ?_); rintro e wx ⟨rfl, rfl⟩
    clear HS
    have hs := HPY.out w31
    have HS := Lib.hid hs; clear hs
    go_wp2_with fail
    (with_reducible refine HS.out.mono ?_); rintro e w33 ⟨v33, rfl, hb33, hn33⟩
    clear HS
    have HB33 := Lib.hid (HB31.out.step hb33)
    have O := Lib.hid (O.out.below hb33)
    have D := Lib.hid (D.out.below hb33)
    have BXR := Lib.hid (heap_below BXR.out hb33)
    have BXo := Lib.hid (heap_below BXo.out hb33)
    have NY := Lib.hid hn33; clear hn33
    clear hb33
    have hs := HPX.out w33
    have HS := Lib.hid hs; clear hs
    go_wp2_with fail
    (with_reducible refine HS.out.mono ?_); rintro e w34 ⟨v34, rfl, hb34, hn34⟩
    clear HS
    have HB34 := Lib.hid (HB33.out.step hb34)
    have O := Lib.hid (O.out.below hb34)
    have D := Lib.hid (D.out.below hb34)
    have NY := Lib.hid (NY.out.below hb34)
    have BXR := Lib.hid (heap_below BXR.out hb34)
    have BXo := Lib.hid (heap_below BXo.out hb34)
    have NX := Lib.hid hn34; clear hn34
    clear hb34
    have hs := rfromN false NX.out NY.out (by omega) (by have := wd_one_len; omega)
    rw [show zc 0 = 8 from rfl] at hs
    have HS := Lib.hid hs; clear hs
    go_wp2_with fail
    (with_reducible refine HS.out.mono ?_); rintro e w35 ⟨v35, rfl, hb35, hn35⟩
    clear HS
    have HB35 := Lib.hid (HB34.out.step hb35)
    have O := Lib.hid (O.out.below hb35)
    have D := Lib.hid (D.out.below hb35)
    have NY := Lib.hid (NY.out.below hb35)
    have NX := Lib.hid (NX.out.below hb35)
    have BXR := Lib.hid (heap_below BXR.out hb35)
    have BXo := Lib.hid (heap_below BXo.out hb35)
    have Q := Lib.hid hn35; clear hn35
    clear hb35
    obtain ⟨sQ, oQ, nQ, cQ, aQ, mQ, dQ, rfl⟩ := Q.out.shape
    obtain ⟨w36, hw36⟩ : ∃ w36, w36 = w35.alloc (.cells #[.bool sQ, .slice oQ nQ cQ, .slice aQ mQ dQ] 24) := ⟨_, rfl⟩
    have hb36 : Below w35.heap.size w35 w36 := by rw [hw36]; exact (Below.refl _ _).alloc (Nat.le_refl _) _
    have hxx := heap_alloc_new w35 (.cells #[.bool sQ, .slice oQ nQ cQ, .slice aQ mQ dQ] 24)
    obtain ⟨gx, hgx⟩ : ∃ gx, gx = w35.heap.size := ⟨_, rfl⟩
    rw [← hw36, ← hgx] at hxx
    have HW36 := Lib.hid hw36; have HGx := Lib.hid hgx; clear hw36 hgx
    have HB36 := Lib.hid (HB35.out.step hb36)
    have O := Lib.hid (O.out.below hb36)
    have D := Lib.hid (D.out.below hb36)
    have NY := Lib.hid (NY.out.below hb36)
    have NX := Lib.hid (NX.out.below hb36)
    have Q := Lib.hid (Q.out.below hb36)
    have BXR := Lib.hid (heap_below BXR.out hb36)
    have BXo := Lib.hid (heap_below BXo.out hb36)
    clear hb36
    have BXx := Lib.hid hxx; clear hxx
    obtain ⟨eR0, eR1, eR2⟩ := row3 BXR.out
    obtain ⟨fR0, fR1, fR2⟩ := froz3 BXR.out
    rw [HW36.out] at eR0
    rw [HW36.out] at eR1
    rw [HW36.out] at eR2
    rw [HW36.out] at fR0
    rw [HW36.out] at fR1
    rw [HW36.out] at fR2
    go_wp2_with fail
    rw [← HW36.out]
    try rw [← HGx.out]
    clear eR0 eR1 eR2 fR0 fR1 fR2
    refine ret_rat2 rfl w.heap.size _ _ _ rfl (put3_heap BXR.out) rfl ?_
    exact ⟨_, rfl, put3_below HB36.out (by omega) _ _ _, isR_zero _⟩
  · go_enter Tryd.func14, Tryd.ntmps14
    have hs := HDC.out w0
    have HS := Lib.hid hs; clear hs
    go_wp2_with fail
    rw [← HW0.out]
    (with_reducible refine HS.out.mono ?_); rintro e w1 ⟨v1, rfl, hb1, hn1⟩
    clear HS
    have HB1 := Lib.hid (HB0.out.step hb1)
    have BXR := Lib.hid (heap_below BXR.out hb1)
    have O := Lib.hid hn1; clear hn1
    clear hb1
    obtain ⟨sO, oO, nO, cO, aO, mO, dO, rfl⟩ := O.out.shape
    obtain ⟨w2, hw2⟩ : ∃ w2, w2 = w1.alloc (.cells #[.bool sO, .slice oO nO cO, .slice aO mO dO] 24) := ⟨_, rfl⟩
    have hb2 : Below w1.heap.size w1 w2 := by rw [hw2]; exact (Below.refl _ _).alloc (Nat.le_refl _) _
    have hxo := heap_alloc_new w1 (.cells #[.bool sO, .slice oO nO cO, .slice aO mO dO] 24)
    obtain ⟨go, hgo⟩ : ∃ go, go = w1.heap.size := ⟨_, rfl⟩
    rw [← hw2, ← hgo] at hxo
    have HW2 := Lib.hid hw2; have HGo := Lib.hid hgo; clear hw2 hgo
    have HB2 := Lib.hid (HB1.out.step hb2)
    have O := Lib.hid (O.out.below hb2)
    have BXR := Lib.hid (heap_below BXR.out hb2)
    clear hb2
    have BXo := Lib.hid hxo; clear hxo
    go_wp2_with fail
    rw [← HW2.out]
    try rw [← HGo.out]
    go_quiet (fail)
    have hb30 : Below w2.heap.size w2 (w2.drewN nq) := below_drewN (Below.refl _ _) _
    obtain ⟨w30, hw30⟩ : ∃ w30, w30 = w2.drewN nq := ⟨_, rfl⟩
    rw [← hw30] at hb30 ⊢; clear hw30
    have HB30 := Lib.hid (HB2.out.step hb30)
    have O := Lib.hid (O.out.below hb30)
    have BXR := Lib.hid (heap_below BXR.out hb30)
    have BXo := Lib.hid (heap_below BXo.out hb30)
    clear hb30
    obtain ⟨w31, hw31⟩ : ∃ w31, w31 = w30.alloc (.cells #[.int .u32 1] 57) := ⟨_, rfl⟩
    have hb31 : Below w30.heap.size w30 w31 := by rw [hw31]; exact (Below.refl _ _).alloc (Nat.le_refl _) _
    have hxD1 := heap_alloc_new w30 (.cells #[.int .u32 1] 57)
    obtain ⟨gD1, hgD1⟩ : ∃ gD1, gD1 = w30.heap.size := ⟨_, rfl⟩
    rw [← hw31, ← hgD1] at hxD1
    have HW31 := Lib.hid hw31; have HGD1 := Lib.hid hgD1; clear hw31 hgD1
    have HB31 := Lib.hid (HB30.out.step hb31)
    have O := Lib.hid (O.out.below hb31)
    have BXR := Lib.hid (heap_below BXR.out hb31)
    have BXo := Lib.hid (heap_below BXo.out hb31)
    clear hb31
    have hnD := num_one1 w30
    rw [← HW31.out, ← HGD1.out] at hnD
    have D := Lib.hid hnD; clear hnD hxD1
    have hs := HFD.out w31
    have HS := Lib.hid hs; clear hs
    go_wp2_with fail
    rw [← HW31.out]
    try rw [← HGD1.out]
    (with_reducible refine HS.out.mono ?_); rintro e wx ⟨rfl, rfl⟩
    clear HS
    have hs := HPY.out w31
    have HS := Lib.hid hs; clear hs
    go_wp2_with fail
    (with_reducible refine HS.out.mono ?_); rintro e w33 ⟨v33, rfl, hb33, hn33⟩
    clear HS
    have HB33 := Lib.hid (HB31.out.step hb33)
    have O := Lib.hid (O.out.below hb33)
    have D := Lib.hid (D.out.below hb33)
    have BXR := Lib.hid (heap_below BXR.out hb33)
    have BXo := Lib.hid (heap_below BXo.out hb33)
    have NY := Lib.hid hn33; clear hn33
    clear hb33
    have hs := HPX.out w33
    have HS := Lib.hid hs; clear hs
    go_wp2_with fail
    (with_reducible refine HS.out.mono ?_); rintro e w34 ⟨v34, rfl, hb34, hn34⟩
    clear HS
    have HB34 := Lib.hid (HB33.out.step hb34)
    have O := Lib.hid (O.out.below hb34)
    have D := Lib.hid (D.out.below hb34)
    have NY := Lib.hid (NY.out.below hb34)
    have BXR := Lib.hid (heap_below BXR.out hb34)
    have BXo := Lib.hid (heap_below BXo.out hb34)
    have NX := Lib.hid hn34; clear hn34
    clear hb34
    have hs := rfromN false NX.out NY.out (by omega) (by have := wd_one_len; omega)
    rw [show zc 0 = 8 from rfl] at hs
    have HS := Lib.hid hs; clear hs
    go_wp2_with fail
    (with_reducible refine HS.out.mono ?_); rintro e w35 ⟨v35, rfl, hb35, hn35⟩
    clear HS
    have HB35 := Lib.hid (HB34.out.step hb35)
    have O := Lib.hid (O.out.below hb35)
    have D := Lib.hid (D.out.below hb35)
    have NY := Lib.hid (NY.out.below hb35)
    have NX := Lib.hid (NX.out.below hb35)
    have BXR := Lib.hid (heap_below BXR.out hb35)
    have BXo := Lib.hid (heap_below BXo.out hb35)
    have Q := Lib.hid hn35; clear hn35
    clear hb35
    obtain ⟨sQ, oQ, nQ, cQ, aQ, mQ, dQ, rfl⟩ := Q.out.shape
    obtain ⟨w36, hw36⟩ : ∃ w36, w36 = w35.alloc (.cells #[.bool sQ, .slice oQ nQ cQ, .slice aQ mQ dQ] 24) := ⟨_, rfl⟩
    have hb36 : Below w35.heap.size w35 w36 := by rw [hw36]; exact (Below.refl _ _).alloc (Nat.le_refl _) _
    have hxx := heap_alloc_new w35 (.cells #[.bool sQ, .slice oQ nQ cQ, .slice aQ mQ dQ] 24)
    obtain ⟨gx, hgx⟩ : ∃ gx, gx = w35.heap.size := ⟨_, rfl⟩
    rw [← hw36, ← hgx] at hxx
    have HW36 := Lib.hid hw36; have HGx := Lib.hid hgx; clear hw36 hgx
    have HB36 := Lib.hid (HB35.out.step hb36)
    have O := Lib.hid (O.out.below hb36)
    have D := Lib.hid (D.out.below hb36)
    have NY := Lib.hid (NY.out.below hb36)
    have NX := Lib.hid (NX.out.below hb36)
    have Q := Lib.hid (Q.out.below hb36)
    have BXR := Lib.hid (heap_below BXR.out hb36)
    have BXo := Lib.hid (heap_below BXo.out hb36)
    clear hb36
    have BXx := Lib.hid hxx; clear hxx
    obtain ⟨eR0, eR1, eR2⟩ := row3 BXR.out
    obtain ⟨fR0, fR1, fR2⟩ := froz3 BXR.out
    rw [HW36.out] at eR0
    rw [HW36.out] at eR1
    rw [HW36.out] at eR2
    rw [HW36.out] at fR0
    rw [HW36.out] at fR1
    rw [HW36.out] at fR2
    go_wp2_with fail
    rw [← HW36.out]
    try rw [← HGx.out]
    clear eR0 eR1 eR2 fR0 fR1 fR2
    refine ret_rat2 rfl w.heap.size _ _ _ rfl (put3_heap BXR.out) rfl ?_
    exact ⟨_, rfl, put3_below HB36.out (by omega) _ _ _, isR_zero _⟩
set_option maxRecDepth 100000 in
set_option maxHeartbeats 6400000 in
theorem rpq_differs2_f (l : List UInt8) (w : World)  (hl : l.length ≤ 300) (hdec : ¬ (l.length ≤ 64 ∧ (rdO l).isSome = true)) (x0 : UInt8) (m : List UInt8) (hlm : l = x0 :: m) (hx0 : x0 ≠ 45) (a b : List UInt8) (hcut : l = a ++ 47 :: b) (hcl : cutL 47 l = some (a, b)) (hpx : parC a = 0) (hpy : parC b = 0) (hvy : parV b ≠ 0) (hr : rtx (qm false (parV a) (parV b)) ≠ l) :
    Calls Tryd.prog 14 #[.string ⟨l.toArray⟩] w (RetRE w 0 (.int .i64 2)) := by
  have hb0 := ((Below.refl w.heap.size w).alloc (by first | (simp; done) | (simp; omega)) (.cells #[.bool false, .slice none 0 0, .slice none 0 0] 24))
  have hxR := nest1_0 w (.cells #[.bool false, .slice none 0 0, .slice none 0 0] 24)
  obtain ⟨w0, hw0⟩ : ∃ w0, w0 = (w.alloc (.cells #[.bool false, .slice none 0 0, .slice none 0 0] 24)) := ⟨_, rfl⟩
  rw [← hw0] at hb0 hxR
  have HB0 := Lib.hid hb0; have HW0 := Lib.hid hw0
  have BXR := Lib.hid hxR
  clear hb0 hw0 hxR
  have f1 : decide ((65536 : Int) < (l.length : Int)) = false := decide_eq_false (by omega)
  have hdc := fun wx => rdec_any l wx hl
  obtain ⟨S, hS⟩ : ∃ S : ByteArray, S = ⟨l.toArray⟩ := ⟨_, rfl⟩
  have hsz : S.size = l.length := by rw [hS]; simp [ByteArray.size]
  obtain ⟨oq, hoq⟩ : ∃ oq, oq = oQ (rdO l) := ⟨_, rfl⟩; obtain ⟨ob, hob⟩ : ∃ ob, ob = (rdO l).isSome := ⟨_, rfl⟩
  rw [← hoq, ← hob] at hdc; rw [← hob] at hdec; clear hoq hob
  have hdc2 : ob = false ∨ (ob = true ∧ decide ((l.length : Int) ≤ 64) = false) := by
    cases ob with
    | false => exact .inl rfl
    | true => exact .inr ⟨rfl, decide_eq_false (fun h => hdec ⟨by omega, rfl⟩)⟩
  clear hdec
  have hlm1 : l.length = m.length + 1 := by rw [hlm]; rfl
  have hne : S.toList.isEmpty = false := by rw [hS]; exact bytes_ne (by rw [hlm]; simp)
  have hi0 : ∀ wx : World, (Instr.index 9 (.string S) (.int .i64 0)).run Tryd.prog wx = .ok (.int .u8 (x0.toNat : Nat)) wx := fun wx => by
    rw [hS]; subst hlm; exact run_index_l (x0 :: m) 0 (by simp) wx
  have hx1 : ((x0.toNat : Int) == 45) = false := by rw [beq_eq_false_iff_ne]; intro e; exact hx0 (UInt8.toNat_inj.1 (by rw [show (45 : UInt8).toNat = 45 from rfl]; omega))
  obtain ⟨xn, hxn⟩ : ∃ xn, xn = x0.toNat := ⟨_, rfl⟩
  rw [← hxn] at hi0 hx1; clear hxn hx0
  obtain ⟨T, hT⟩ : ∃ T : ByteArray, T = ⟨l.toArray⟩ := ⟨_, rfl⟩
  have htz : T.size = l.length := by rw [hT]; simp [ByteArray.size]
  have hTS : T = S := by rw [hT, hS]
  have hfd := fun wx => rfind_any 47 47 l wx rfl (by omega)
  have hfn : fnd 47 l = (a.length : Int) := by unfold fnd; rw [hcl]
  rw [hfn] at hfd
  have htl : l.length = a.length + (b.length + 1) := by rw [hcut]; simp
  have g1 : decide ((0 : Int) ≤ (a.length : Int)) = true := decide_eq_true (by omega)
  obtain ⟨A, hA⟩ : ∃ A : ByteArray, A = ⟨a.toArray⟩ := ⟨_, rfl⟩; obtain ⟨B, hB⟩ : ∃ B : ByteArray, B = ⟨b.toArray⟩ := ⟨_, rfl⟩
  have hs1 : ∀ wx : World, (Instr.slice 9 (.string T) none (some (.int .i64 (a.length : Int))) none).run Tryd.prog wx = .ok (.string A) wx := fun wx => by rw [hT, hA, hcut]; exact run_to a _ wx
  have hs2 : ∀ wx : World, (Instr.slice 9 (.string T) (some (.int .i64 ((a.length : Int) + 1))) none none).run Tryd.prog wx = .ok (.string B) wx := fun wx => by rw [hT, hB, hcut]; exact run_from a 47 b wx
  have hpX := fun wx => rparse_any a wx (.inl (by omega)); have hpY := fun wx => rparse_any b wx (.inl (by omega))
  have hwx := parV_len (l := a) (K := 300) (by omega); have hwy := parV_len (l := b) (K := 300) (by omega)
  rw [← hA] at hpX; rw [← hB] at hpY
  obtain ⟨EX, hEX⟩ : ∃ E, E = parC a := ⟨_, rfl⟩; obtain ⟨VX, hVX⟩ : ∃ V, V = parV a := ⟨_, rfl⟩
  rw [← hEX, ← hVX] at hpX; rw [← hVX] at hwx
  obtain ⟨EY, hEY⟩ : ∃ E, E = parC b := ⟨_, rfl⟩; obtain ⟨VY, hVY⟩ : ∃ V, V = parV b := ⟨_, rfl⟩
  rw [← hEY, ← hVY] at hpY; rw [← hVY] at hwy
  rw [← hEX] at hpx
  rw [← hEY] at hpy
  rw [← hVY] at hvy
  rw [← hVX, ← hVY] at hr
  clear hEX hVX hEY hVY
  subst hpx
  subst hpy
  obtain ⟨q, hq⟩ : ∃ q, q = qm false VX VY := ⟨_, rfl⟩
  rw [← hq] at hr
  have hrl : rl q ≤ 300 := by rw [hq]; exact rl_qm hvy hwx hwy
  obtain ⟨TX, hTX⟩ : ∃ A : ByteArray, A = ⟨(rtx q).toArray⟩ := ⟨_, rfl⟩
  have hnx : TX ≠ S := fun e => hr (by rw [hTX, hS] at e; have := congrArg (fun z : ByteArray => z.data.toList) e; simpa using this)
  have hbq : (TX.toList == S.toList) = false := by rw [beq_eq_false_iff_ne, ByteArray.toList_eq, ByteArray.toList_eq]; intro e; exact hnx (ByteArray.ext (Array.toList_inj.1 e))
  have hbq2 : (TX.toList != S.toList) = true := by simp only [bne, hbq, Bool.not_false]
  clear hnx
  have HQ := Lib.hid hq; have HTX := Lib.hid hTX; clear hq hTX hr
  have HVY := Lib.hid hvy; clear hvy
  rw [← hS] at hdc; rw [← hT] at hfd; rw [← hS]
  subst hTS
  have HDC := Lib.hid hdc; have HFD := Lib.hid hfd; have HPX := Lib.hid hpX; clear hdc hfd hfn hS hlm hcut hpX hT
  have HPY := Lib.hid hpY; clear hpY hA hB hcl
  have hla : a.length ≤ 300 := by omega
  clear htz hlm1 htl
  rcases hdc2 with rfl | ⟨rfl, f2⟩
  · go_enter Tryd.func14, Tryd.ntmps14
    have hs := HDC.out w0
    have HS := Lib.hid hs; clear hs
    go_wp2_with fail
    rw [← HW0.out]
    (with_reducible refine HS.out.mono ?_); rintro e w1 ⟨v1, rfl, hb1, hn1⟩
    clear HS
    have HB1 := Lib.hid (HB0.out.step hb1)
    have BXR := Lib.hid (heap_below BXR.out hb1)
    have O := Lib.hid hn1; clear hn1
    clear hb1
    obtain ⟨sO, oO, nO, cO, aO, mO, dO, rfl⟩ := O.out.shape
    obtain ⟨w2, hw2⟩ : ∃ w2, w2 = w1.alloc (.cells #[.bool sO, .slice oO nO cO, .slice aO mO dO] 24) := ⟨_, rfl⟩
    have hb2 : Below w1.heap.size w1 w2 := by rw [hw2]; exact (Below.refl _ _).alloc (Nat.le_refl _) _
    have hxo := heap_alloc_new w1 (.cells #[.bool sO, .slice oO nO cO, .slice aO mO dO] 24)
    obtain ⟨go, hgo⟩ : ∃ go, go = w1.heap.size := ⟨_, rfl⟩
    rw [← hw2, ← hgo] at hxo
    have HW2 := Lib.hid hw2; have HGo := Lib.hid hgo; clear hw2 hgo
    have HB2 := Lib.hid (HB1.out.step hb2)
    have O := Lib.hid (O.out.below hb2)
    have BXR := Lib.hid (heap_below BXR.out hb2)
    clear hb2
    have BXo := Lib.hid hxo; clear hxo
    go_wp2_with fail
    rw [← HW2.out]
    try rw [← HGo.out]
    go_quiet (fail)
    have hb30 : Below w2.heap.size w2 (w2.drewN nq) := below_drewN (Below.refl _ _) _
    obtain ⟨w30, hw30⟩ : ∃ w30, w30 = w2.drewN nq := ⟨_, rfl⟩
    rw [← hw30] at hb30 ⊢; clear hw30
    have HB30 := Lib.hid (HB2.out.step hb30)
    have O := Lib.hid (O.out.below hb30)
    have BXR := Lib.hid (heap_below BXR.out hb30)
    have BXo := Lib.hid (heap_below BXo.out hb30)
    clear hb30
    obtain ⟨w31, hw31⟩ : ∃ w31, w31 = w30.alloc (.cells #[.int .u32 1] 57) := ⟨_, rfl⟩
    have hb31 : Below w30.heap.size w30 w31 := by rw [hw31]; exact (Below.refl _ _).alloc (Nat.le_refl _) _
    have hxD1 := heap_alloc_new w30 (.cells #[.int .u32 1] 57)
    obtain ⟨gD1, hgD1⟩ : ∃ gD1, gD1 = w30.heap.size := ⟨_, rfl⟩
    rw [← hw31, ← hgD1] at hxD1
    have HW31 := Lib.hid hw31; have HGD1 := Lib.hid hgD1; clear hw31 hgD1
    have HB31 := Lib.hid (HB30.out.step hb31)
    have O := Lib.hid (O.out.below hb31)
    have BXR := Lib.hid (heap_below BXR.out hb31)
    have BXo := Lib.hid (heap_below BXo.out hb31)
    clear hb31
    have hnD := num_one1 w30
    rw [← HW31.out, ← HGD1.out] at hnD
    have D := Lib.hid hnD; clear hnD hxD1
    have hs := HFD.out w31
    have HS := Lib.hid hs; clear hs
    go_wp2_with fail
    rw [← HW31.out]
    try rw [← HGD1.out]
    (with_reducible refine HS.out.mono ?_); rintro e wx ⟨rfl, rfl⟩
    clear HS
    have hs := HPY.out w31
    have HS := Lib.hid hs; clear hs
    go_wp2_with fail
    (with_reducible refine HS.out.mono ?_); rintro e w33 ⟨v33, rfl, hb33, hn33⟩
    clear HS
    have HB33 := Lib.hid (HB31.out.step hb33)
    have O := Lib.hid (O.out.below hb33)
    have D := Lib.hid (D.out.below hb33)
    have BXR := Lib.hid (heap_below BXR.out hb33)
    have BXo := Lib.hid (heap_below BXo.out hb33)
    have NY := Lib.hid hn33; clear hn33
    clear hb33
    have hs := HPX.out w33
    have HS := Lib.hid hs; clear hs
    go_wp2_with fail
    (with_reducible refine HS.out.mono ?_); rintro e w34 ⟨v34, rfl, hb34, hn34⟩
    clear HS
    have HB34 := Lib.hid (HB33.out.step hb34)
    have O := Lib.hid (O.out.below hb34)
    have D := Lib.hid (D.out.below hb34)
    have NY := Lib.hid (NY.out.below hb34)
    have BXR := Lib.hid (heap_below BXR.out hb34)
    have BXo := Lib.hid (heap_below BXo.out hb34)
    have NX := Lib.hid hn34; clear hn34
    clear hb34
    have hs := rfromN false NX.out NY.out (by omega) (by have := wd_one_len; omega)
    rw [show zc VY = 0 from if_neg HVY.out, ← HQ.out] at hs
    have HS := Lib.hid hs; clear hs
    go_wp2_with fail
    (with_reducible refine HS.out.mono ?_); rintro e w35 ⟨v35, rfl, hb35, hn35⟩
    clear HS
    have HB35 := Lib.hid (HB34.out.step hb35)
    have O := Lib.hid (O.out.below hb35)
    have D := Lib.hid (D.out.below hb35)
    have NY := Lib.hid (NY.out.below hb35)
    have NX := Lib.hid (NX.out.below hb35)
    have BXR := Lib.hid (heap_below BXR.out hb35)
    have BXo := Lib.hid (heap_below BXo.out hb35)
    have Q := Lib.hid hn35; clear hn35
    clear hb35
    obtain ⟨sQ, oQ, nQ, cQ, aQ, mQ, dQ, rfl⟩ := Q.out.shape
    obtain ⟨w36, hw36⟩ : ∃ w36, w36 = w35.alloc (.cells #[.bool sQ, .slice oQ nQ cQ, .slice aQ mQ dQ] 24) := ⟨_, rfl⟩
    have hb36 : Below w35.heap.size w35 w36 := by rw [hw36]; exact (Below.refl _ _).alloc (Nat.le_refl _) _
    have hxx := heap_alloc_new w35 (.cells #[.bool sQ, .slice oQ nQ cQ, .slice aQ mQ dQ] 24)
    obtain ⟨gx, hgx⟩ : ∃ gx, gx = w35.heap.size := ⟨_, rfl⟩
    rw [← hw36, ← hgx] at hxx
    have HW36 := Lib.hid hw36; have HGx := Lib.hid hgx; clear hw36 hgx
    have HB36 := Lib.hid (HB35.out.step hb36)
    have O := Lib.hid (O.out.below hb36)
    have D := Lib.hid (D.out.below hb36)
    have NY := Lib.hid (NY.out.below hb36)
    have NX := Lib.hid (NX.out.below hb36)
    have Q := Lib.hid (Q.out.below hb36)
    have BXR := Lib.hid (heap_below BXR.out hb36)
    have BXo := Lib.hid (heap_below BXo.out hb36)
    clear hb36
    have BXx := Lib.hid hxx; clear hxx
    have hs := rtextq_any _ q w36 (IsR.is Q.out (by omega))
    rw [← HTX.out] at hs
    have HS := Lib.hid hs; clear hs
    obtain ⟨ex0, ex1, ex2⟩ := row3 BXx.out
    rw [HW36.out] at ex0
    rw [HGx.out] at ex0
    rw [HW36.out] at ex1
    rw [HGx.out] at ex1
    rw [HW36.out] at ex2
    rw [HGx.out] at ex2
    go_wp2_with fail
    rw [← HW36.out]
    try rw [← HGx.out]
    clear ex0 ex1 ex2
    (with_reducible refine HS.out.mono ?_); rintro e w37 ⟨rfl, hb37⟩
    clear HS
    have HB37 := Lib.hid (HB36.out.step hb37)
    have O := Lib.hid (O.out.below hb37)
    have D := Lib.hid (D.out.below hb37)
    have NY := Lib.hid (NY.out.below hb37)
    have NX := Lib.hid (NX.out.below hb37)
    have Q := Lib.hid (Q.out.below hb37)
    have BXR := Lib.hid (heap_below BXR.out hb37)
    have BXo := Lib.hid (heap_below BXo.out hb37)
    have BXx := Lib.hid (heap_below BXx.out hb37)
    clear hb37
    obtain ⟨eR0, eR1, eR2⟩ := row3 BXR.out
    obtain ⟨fR0, fR1, fR2⟩ := froz3 BXR.out
    go_wp2_with fail
    clear eR0 eR1 eR2 fR0 fR1 fR2
    refine ret_rat2 rfl w.heap.size _ _ _ rfl (put3_heap BXR.out) rfl ?_
    exact ⟨_, rfl, put3_below HB37.out (by omega) _ _ _, isR_zero _⟩
  · go_enter Tryd.func14, Tryd.ntmps14
    have hs := HDC.out w0
    have HS := Lib.hid hs; clear hs
    go_wp2_with fail
    rw [← HW0.out]
    (with_reducible refine HS.out.mono ?_); rintro e w1 ⟨v1, rfl, hb1, hn1⟩
    clear HS
    have HB1 := Lib.hid (HB0.out.step hb1)
    have BXR := Lib.hid (heap_below BXR.out hb1)
    have O := Lib.hid hn1; clear hn1
    clear hb1
    obtain ⟨sO, oO, nO, cO, aO, mO, dO, rfl⟩ := O.out.shape
    obtain ⟨w2, hw2⟩ : ∃ w2, w2 = w1.alloc (.cells #[.bool sO, .slice oO nO cO, .slice aO mO dO] 24) := ⟨_, rfl⟩
    have hb2 : Below w1.heap.size w1 w2 := by rw [hw2]; exact (Below.refl _ _).alloc (Nat.le_refl _) _
    have hxo := heap_alloc_new w1 (.cells #[.bool sO, .slice oO nO cO, .slice aO mO dO] 24)
    obtain ⟨go, hgo⟩ : ∃ go, go = w1.heap.size := ⟨_, rfl⟩
    rw [← hw2, ← hgo] at hxo
    have HW2 := Lib.hid hw2; have HGo := Lib.hid hgo; clear hw2 hgo
    have HB2 := Lib.hid (HB1.out.step hb2)
    have O := Lib.hid (O.out.below hb2)
    have BXR := Lib.hid (heap_below BXR.out hb2)
    clear hb2
    have BXo := Lib.hid hxo; clear hxo
    go_wp2_with fail
    rw [← HW2.out]
    try rw [← HGo.out]
    go_quiet (fail)
    have hb30 : Below w2.heap.size w2 (w2.drewN nq) := below_drewN (Below.refl _ _) _
    obtain ⟨w30, hw30⟩ : ∃ w30, w30 = w2.drewN nq := ⟨_, rfl⟩
    rw [← hw30] at hb30 ⊢; clear hw30
    have HB30 := Lib.hid (HB2.out.step hb30)
    have O := Lib.hid (O.out.below hb30)
    have BXR := Lib.hid (heap_below BXR.out hb30)
    have BXo := Lib.hid (heap_below BXo.out hb30)
    clear hb30
    obtain ⟨w31, hw31⟩ : ∃ w31, w31 = w30.alloc (.cells #[.int .u32 1] 57) := ⟨_, rfl⟩
    have hb31 : Below w30.heap.size w30 w31 := by rw [hw31]; exact (Below.refl _ _).alloc (Nat.le_refl _) _
    have hxD1 := heap_alloc_new w30 (.cells #[.int .u32 1] 57)
    obtain ⟨gD1, hgD1⟩ : ∃ gD1, gD1 = w30.heap.size := ⟨_, rfl⟩
    rw [← hw31, ← hgD1] at hxD1
    have HW31 := Lib.hid hw31; have HGD1 := Lib.hid hgD1; clear hw31 hgD1
    have HB31 := Lib.hid (HB30.out.step hb31)
    have O := Lib.hid (O.out.below hb31)
    have BXR := Lib.hid (heap_below BXR.out hb31)
    have BXo := Lib.hid (heap_below BXo.out hb31)
    clear hb31
    have hnD := num_one1 w30
    rw [← HW31.out, ← HGD1.out] at hnD
    have D := Lib.hid hnD; clear hnD hxD1
    have hs := HFD.out w31
    have HS := Lib.hid hs; clear hs
    go_wp2_with fail
    rw [← HW31.out]
    try rw [← HGD1.out]
    (with_reducible refine HS.out.mono ?_); rintro e wx ⟨rfl, rfl⟩
    clear HS
    have hs := HPY.out w31
    have HS := Lib.hid hs; clear hs
    go_wp2_with fail
    (with_reducible refine HS.out.mono ?_); rintro e w33 ⟨v33, rfl, hb33, hn33⟩
    clear HS
    have HB33 := Lib.hid (HB31.out.step hb33)
    have O := Lib.hid (O.out.below hb33)
    have D := Lib.hid (D.out.below hb33)
    have BXR := Lib.hid (heap_below BXR.out hb33)
    have BXo := Lib.hid (heap_below BXo.out hb33)
    have NY := Lib.hid hn33; clear hn33
    clear hb33
    have hs := HPX.out w33
    have HS := Lib.hid hs; clear hs
    go_wp2_with fail
    (with_reducible refine HS.out.mono ?_); rintro e w34 ⟨v34, rfl, hb34, hn34⟩
    clear HS
    have HB34 := Lib.hid (HB33.out.step hb34)
    have O := Lib.hid (O.out.below hb34)
    have D := Lib.hid (D.out.below hb34)
    have NY := Lib.hid (NY.out.below hb34)
    have BXR := Lib.hid (heap_below BXR.out hb34)
    have BXo := Lib.hid (heap_below BXo.out hb34)
    have NX := Lib.hid hn34; clear hn34
    clear hb34
    have hs := rfromN false NX.out NY.out (by omega) (by have := wd_one_len; omega)
    rw [show zc VY = 0 from if_neg HVY.out, ← HQ.out] at hs
    have HS := Lib.hid hs; clear hs
    go_wp2_with fail
    (with_reducible refine HS.out.mono ?_); rintro e w35 ⟨v35, rfl, hb35, hn35⟩
    clear HS
    have HB35 := Lib.hid (HB34.out.step hb35)
    have O := Lib.hid (O.out.below hb35)
    have D := Lib.hid (D.out.below hb35)
    have NY := Lib.hid (NY.out.below hb35)
    have NX := Lib.hid (NX.out.below hb35)
    have BXR := Lib.hid (heap_below BXR.out hb35)
    have BXo := Lib.hid (heap_below BXo.out hb35)
    have Q := Lib.hid hn35; clear hn35
    clear hb35
    obtain ⟨sQ, oQ, nQ, cQ, aQ, mQ, dQ, rfl⟩ := Q.out.shape
    obtain ⟨w36, hw36⟩ : ∃ w36, w36 = w35.alloc (.cells #[.bool sQ, .slice oQ nQ cQ, .slice aQ mQ dQ] 24) := ⟨_, rfl⟩
    have hb36 : Below w35.heap.size w35 w36 := by rw [hw36]; exact (Below.refl _ _).alloc (Nat.le_refl _) _
    have hxx := heap_alloc_new w35 (.cells #[.bool sQ, .slice oQ nQ cQ, .slice aQ mQ dQ] 24)
    obtain ⟨gx, hgx⟩ : ∃ gx, gx = w35.heap.size := ⟨_, rfl⟩
    rw [← hw36, ← hgx] at hxx
    have HW36 := Lib.hid hw36; have HGx := Lib.hid hgx; clear hw36 hgx
    have HB36 := Lib.hid (HB35.out.step hb36)
    have O := Lib.hid (O.out.below hb36)
    have D := Lib.hid (D.out.below hb36)
    have NY := Lib.hid (NY.out.below hb36)
    have NX := Lib.hid (NX.out.below hb36)
    have Q := Lib.hid (Q.out.below hb36)
    have BXR := Lib.hid (heap_below BXR.out hb36)
    have BXo := Lib.hid (heap_below BXo.out hb36)
    clear hb36
    have BXx := Lib.hid hxx; clear hxx
    have hs := rtextq_any _ q w36 (IsR.is Q.out (by omega))
    rw [← HTX.out] at hs
    have HS := Lib.hid hs; clear hs
    obtain ⟨ex0, ex1, ex2⟩ := row3 BXx.out
    rw [HW36.out] at ex0
    rw [HGx.out] at ex0
    rw [HW36.out] at ex1
    rw [HGx.out] at ex1
    rw [HW36.out] at ex2
    rw [HGx.out] at ex2
    go_wp2_with fail
    rw [← HW36.out]
    try rw [← HGx.out]
    clear ex0 ex1 ex2
    (with_reducible refine HS.out.mono ?_); rintro e w37 ⟨rfl, hb37⟩
    clear HS
    have HB37 := Lib.hid (HB36.out.step hb37)
    have O := Lib.hid (O.out.below hb37)
    have D := Lib.hid (D.out.below hb37)
    have NY := Lib.hid (NY.out.below hb37)
    have NX := Lib.hid (NX.out.below hb37)
    have Q := Lib.hid (Q.out.below hb37)
    have BXR := Lib.hid (heap_below BXR.out hb37)
    have BXo := Lib.hid (heap_below BXo.out hb37)
    have BXx := Lib.hid (heap_below BXx.out hb37)
    clear hb37
    obtain ⟨eR0, eR1, eR2⟩ := row3 BXR.out
    obtain ⟨fR0, fR1, fR2⟩ := froz3 BXR.out
    go_wp2_with fail
    clear eR0 eR1 eR2 fR0 fR1 fR2
    refine ret_rat2 rfl w.heap.size _ _ _ rfl (put3_heap BXR.out) rfl ?_
    exact ⟨_, rfl, put3_below HB37.out (by omega) _ _ _, isR_zero _⟩
set_option maxRecDepth 100000 in
set_option maxHeartbeats 6400000 in
theorem rpq_fits2_f (l : List UInt8) (w : World)  (hl : l.length ≤ 300) (hdec : ¬ (l.length ≤ 64 ∧ (rdO l).isSome = true)) (x0 : UInt8) (m : List UInt8) (hlm : l = x0 :: m) (hx0 : x0 ≠ 45) (a b : List UInt8) (hcut : l = a ++ 47 :: b) (hcl : cutL 47 l = some (a, b)) (hpx : parC a = 0) (hpy : parC b = 0) (hvy : parV b ≠ 0) (hr : rtx (qm false (parV a) (parV b)) = l) :
    Calls Tryd.prog 14 #[.string ⟨l.toArray⟩] w (RetRE w (qm false (parV a) (parV b)) (.int .i64 0)) := by
  have hb0 := ((Below.refl w.heap.size w).alloc (by first | (simp; done) | (simp; omega)) (.cells #[.bool false, .slice none 0 0, .slice none 0 0] 24))
  have hxR := nest1_0 w (.cells #[.bool false, .slice none 0 0, .slice none 0 0] 24)
  obtain ⟨w0, hw0⟩ : ∃ w0, w0 = (w.alloc (.cells #[.bool false, .slice none 0 0, .slice none 0 0] 24)) := ⟨_, rfl⟩
  rw [← hw0] at hb0 hxR
  have HB0 := Lib.hid hb0; have HW0 := Lib.hid hw0
  have BXR := Lib.hid hxR
  clear hb0 hw0 hxR
  have f1 : decide ((65536 : Int) < (l.length : Int)) = false := decide_eq_false (by omega)
  have hdc := fun wx => rdec_any l wx hl
  obtain ⟨S, hS⟩ : ∃ S : ByteArray, S = ⟨l.toArray⟩ := ⟨_, rfl⟩
  have hsz : S.size = l.length := by rw [hS]; simp [ByteArray.size]
  obtain ⟨oq, hoq⟩ : ∃ oq, oq = oQ (rdO l) := ⟨_, rfl⟩; obtain ⟨ob, hob⟩ : ∃ ob, ob = (rdO l).isSome := ⟨_, rfl⟩
  rw [← hoq, ← hob] at hdc; rw [← hob] at hdec; clear hoq hob
  have hdc2 : ob = false ∨ (ob = true ∧ decide ((l.length : Int) ≤ 64) = false) := by
    cases ob with
    | false => exact .inl rfl
    | true => exact .inr ⟨rfl, decide_eq_false (fun h => hdec ⟨by omega, rfl⟩)⟩
  clear hdec
  have hlm1 : l.length = m.length + 1 := by rw [hlm]; rfl
  have hne : S.toList.isEmpty = false := by rw [hS]; exact bytes_ne (by rw [hlm]; simp)
  have hi0 : ∀ wx : World, (Instr.index 9 (.string S) (.int .i64 0)).run Tryd.prog wx = .ok (.int .u8 (x0.toNat : Nat)) wx := fun wx => by
    rw [hS]; subst hlm; exact run_index_l (x0 :: m) 0 (by simp) wx
  have hx1 : ((x0.toNat : Int) == 45) = false := by rw [beq_eq_false_iff_ne]; intro e; exact hx0 (UInt8.toNat_inj.1 (by rw [show (45 : UInt8).toNat = 45 from rfl]; omega))
  obtain ⟨xn, hxn⟩ : ∃ xn, xn = x0.toNat := ⟨_, rfl⟩
  rw [← hxn] at hi0 hx1; clear hxn hx0
  obtain ⟨T, hT⟩ : ∃ T : ByteArray, T = ⟨l.toArray⟩ := ⟨_, rfl⟩
  have htz : T.size = l.length := by rw [hT]; simp [ByteArray.size]
  have hTS : T = S := by rw [hT, hS]
  have hfd := fun wx => rfind_any 47 47 l wx rfl (by omega)
  have hfn : fnd 47 l = (a.length : Int) := by unfold fnd; rw [hcl]
  rw [hfn] at hfd
  have htl : l.length = a.length + (b.length + 1) := by rw [hcut]; simp
  have g1 : decide ((0 : Int) ≤ (a.length : Int)) = true := decide_eq_true (by omega)
  obtain ⟨A, hA⟩ : ∃ A : ByteArray, A = ⟨a.toArray⟩ := ⟨_, rfl⟩; obtain ⟨B, hB⟩ : ∃ B : ByteArray, B = ⟨b.toArray⟩ := ⟨_, rfl⟩
  have hs1 : ∀ wx : World, (Instr.slice 9 (.string T) none (some (.int .i64 (a.length : Int))) none).run Tryd.prog wx = .ok (.string A) wx := fun wx => by rw [hT, hA, hcut]; exact run_to a _ wx
  have hs2 : ∀ wx : World, (Instr.slice 9 (.string T) (some (.int .i64 ((a.length : Int) + 1))) none none).run Tryd.prog wx = .ok (.string B) wx := fun wx => by rw [hT, hB, hcut]; exact run_from a 47 b wx
  have hpX := fun wx => rparse_any a wx (.inl (by omega)); have hpY := fun wx => rparse_any b wx (.inl (by omega))
  have hwx := parV_len (l := a) (K := 300) (by omega); have hwy := parV_len (l := b) (K := 300) (by omega)
  rw [← hA] at hpX; rw [← hB] at hpY
  obtain ⟨EX, hEX⟩ : ∃ E, E = parC a := ⟨_, rfl⟩; obtain ⟨VX, hVX⟩ : ∃ V, V = parV a := ⟨_, rfl⟩
  rw [← hEX, ← hVX] at hpX; rw [← hVX] at hwx
  obtain ⟨EY, hEY⟩ : ∃ E, E = parC b := ⟨_, rfl⟩; obtain ⟨VY, hVY⟩ : ∃ V, V = parV b := ⟨_, rfl⟩
  rw [← hEY, ← hVY] at hpY; rw [← hVY] at hwy
  rw [← hEX] at hpx
  rw [← hEY] at hpy
  rw [← hVY] at hvy
  rw [← hVX, ← hVY] at hr
  rw [← hVX, ← hVY]
  clear hEX hVX hEY hVY
  subst hpx
  subst hpy
  obtain ⟨q, hq⟩ : ∃ q, q = qm false VX VY := ⟨_, rfl⟩
  rw [← hq] at hr ⊢
  have hrl : rl q ≤ 300 := by rw [hq]; exact rl_qm hvy hwx hwy
  obtain ⟨TX, hTX⟩ : ∃ A : ByteArray, A = ⟨(rtx q).toArray⟩ := ⟨_, rfl⟩
  have htx : TX = S := by rw [hTX, hr, hS]
  have hbq : (S.toList != S.toList) = false := by simp
  have hbq2 : (S.toList == S.toList) = true := by simp
  have HQ := Lib.hid hq; have HTX := Lib.hid hTX; clear hq hTX hr
  have HVY := Lib.hid hvy; clear hvy
  have HTS := Lib.hid htx; clear htx
  rw [← hS] at hdc; rw [← hT] at hfd; rw [← hS]
  subst hTS
  have HDC := Lib.hid hdc; have HFD := Lib.hid hfd; have HPX := Lib.hid hpX; clear hdc hfd hfn hS hlm hcut hpX hT
  have HPY := Lib.hid hpY; clear hpY hA hB hcl
  have hla : a.length ≤ 300 := by omega
  clear htz hlm1 htl
  rcases hdc2 with rfl | ⟨rfl, f2⟩
  · go_enter Tryd.func14, Tryd.ntmps14
    have hs := HDC.out w0
    have HS := Lib.hid hs; clear hs
    go_wp2_with fail
    rw [← HW0.out]
    (with_reducible refine HS.out.mono ?_); rintro e w1 ⟨v1, rfl, hb1, hn1⟩
    clear HS
    have HB1 := Lib.hid (HB0.out.step hb1)
    have BXR := Lib.hid (heap_below BXR.out hb1)
    have O := Lib.hid hn1; clear hn1
    clear hb1
    obtain ⟨sO, oO, nO, cO, aO, mO, dO, rfl⟩ := O.out.shape
    obtain ⟨w2, hw2⟩ : ∃ w2, w2 = w1.alloc (.cells #[.bool sO, .slice oO nO cO, .slice aO mO dO] 24) := ⟨_, rfl⟩
    have hb2 : Below w1.heap.size w1 w2 := by rw [hw2]; exact (Below.refl _ _).alloc (Nat.le_refl _) _
    have hxo := heap_alloc_new w1 (.cells #[.bool sO, .slice oO nO cO, .slice aO mO dO] 24)
    obtain ⟨go, hgo⟩ : ∃ go, go = w1.heap.size := ⟨_, rfl⟩
    rw [← hw2, ← hgo] at hxo
    have HW2 := Lib.hid hw2; have HGo := Lib.hid hgo; clear hw2 hgo
    have HB2 := Lib.hid (HB1.out.step hb2)
    have O := Lib.hid (O.out.below hb2)
    have BXR := Lib.hid (heap_below BXR.out hb2)
    clear hb2
    have BXo := Lib.hid hxo; clear hxo
    go_wp2_with fail
    rw [← HW2.out]
    try rw [← HGo.out]
    go_quiet (fail)
    have hb30 : Below w2.heap.size w2 (w2.drewN nq) := below_drewN (Below.refl _ _) _
    obtain ⟨w30, hw30⟩ : ∃ w30, w30 = w2.drewN nq := ⟨_, rfl⟩
    rw [← hw30] at hb30 ⊢; clear hw30
    have HB30 := Lib.hid (HB2.out.step hb30)
    have O := Lib.hid (O.out.below hb30)
    have BXR := Lib.hid (heap_below BXR.out hb30)
    have BXo := Lib.hid (heap_below BXo.out hb30)
    clear hb30
    obtain ⟨w31, hw31⟩ : ∃ w31, w31 = w30.alloc (.cells #[.int .u32 1] 57) := ⟨_, rfl⟩
    have hb31 : Below w30.heap.size w30 w31 := by rw [hw31]; exact (Below.refl _ _).alloc (Nat.le_refl _) _
    have hxD1 := heap_alloc_new w30 (.cells #[.int .u32 1] 57)
    obtain ⟨gD1, hgD1⟩ : ∃ gD1, gD1 = w30.heap.size := ⟨_, rfl⟩
    rw [← hw31, ← hgD1] at hxD1
    have HW31 := Lib.hid hw31; have HGD1 := Lib.hid hgD1; clear hw31 hgD1
    have HB31 := Lib.hid (HB30.out.step hb31)
    have O := Lib.hid (O.out.below hb31)
    have BXR := Lib.hid (heap_below BXR.out hb31)
    have BXo := Lib.hid (heap_below BXo.out hb31)
    clear hb31
    have hnD := num_one1 w30
    rw [← HW31.out, ← HGD1.out] at hnD
    have D := Lib.hid hnD; clear hnD hxD1
    have hs := HFD.out w31
    have HS := Lib.hid hs; clear hs
    go_wp2_with fail
    rw [← HW31.out]
    try rw [← HGD1.out]
    (with_reducible refine HS.out.mono ?_); rintro e wx ⟨rfl, rfl⟩
    clear HS
    have hs := HPY.out w31
    have HS := Lib.hid hs; clear hs
    go_wp2_with fail
    (with_reducible refine HS.out.mono ?_); rintro e w33 ⟨v33, rfl, hb33, hn33⟩
    clear HS
    have HB33 := Lib.hid (HB31.out.step hb33)
    have O := Lib.hid (O.out.below hb33)
    have D := Lib.hid (D.out.below hb33)
    have BXR := Lib.hid (heap_below BXR.out hb33)
    have BXo := Lib.hid (heap_below BXo.out hb33)
    have NY := Lib.hid hn33; clear hn33
    clear hb33
    have hs := HPX.out w33
    have HS := Lib.hid hs; clear hs
    go_wp2_with fail
    (with_reducible refine HS.out.mono ?_); rintro e w34 ⟨v34, rfl, hb34, hn34⟩
    clear HS
    have HB34 := Lib.hid (HB33.out.step hb34)
    have O := Lib.hid (O.out.below hb34)
    have D := Lib.hid (D.out.below hb34)
    have NY := Lib.hid (NY.out.below hb34)
    have BXR := Lib.hid (heap_below BXR.out hb34)
    have BXo := Lib.hid (heap_below BXo.out hb34)
    have NX := Lib.hid hn34; clear hn34
    clear hb34
    have hs := rfromN false NX.out NY.out (by omega) (by have := wd_one_len; omega)
    rw [show zc VY = 0 from if_neg HVY.out, ← HQ.out] at hs
    have HS := Lib.hid hs; clear hs
    go_wp2_with fail
    (with_reducible refine HS.out.mono ?_); rintro e w35 ⟨v35, rfl, hb35, hn35⟩
    clear HS
    have HB35 := Lib.hid (HB34.out.step hb35)
    have O := Lib.hid (O.out.below hb35)
    have D := Lib.hid (D.out.below hb35)
    have NY := Lib.hid (NY.out.below hb35)
    have NX := Lib.hid (NX.out.below hb35)
    have BXR := Lib.hid (heap_below BXR.out hb35)
    have BXo := Lib.hid (heap_below BXo.out hb35)
    have Q := Lib.hid hn35; clear hn35
    clear hb35
    obtain ⟨sQ, oQ, nQ, cQ, aQ, mQ, dQ, rfl⟩ := Q.out.shape
    obtain ⟨w36, hw36⟩ : ∃ w36, w36 = w35.alloc (.cells #[.bool sQ, .slice oQ nQ cQ, .slice aQ mQ dQ] 24) := ⟨_, rfl⟩
    have hb36 : Below w35.heap.size w35 w36 := by rw [hw36]; exact (Below.refl _ _).alloc (Nat.le_refl _) _
    have hxx := heap_alloc_new w35 (.cells #[.bool sQ, .slice oQ nQ cQ, .slice aQ mQ dQ] 24)
    obtain ⟨gx, hgx⟩ : ∃ gx, gx = w35.heap.size := ⟨_, rfl⟩
    rw [← hw36, ← hgx] at hxx
    have HW36 := Lib.hid hw36; have HGx := Lib.hid hgx; clear hw36 hgx
    have HB36 := Lib.hid (HB35.out.step hb36)
    have O := Lib.hid (O.out.below hb36)
    have D := Lib.hid (D.out.below hb36)
    have NY := Lib.hid (NY.out.below hb36)
    have NX := Lib.hid (NX.out.below hb36)
    have Q := Lib.hid (Q.out.below hb36)
    have BXR := Lib.hid (heap_below BXR.out hb36)
    have BXo := Lib.hid (heap_below BXo.out hb36)
    clear hb36
    have BXx := Lib.hid hxx; clear hxx
    have hs := rtextq_any _ q w36 (IsR.is Q.out (by omega))
    rw [← HTX.out] at hs
    have HS := Lib.hid hs; clear hs
    obtain ⟨ex0, ex1, ex2⟩ := row3 BXx.out
    rw [HW36.out] at ex0
    rw [HGx.out] at ex0
    rw [HW36.out] at ex1
    rw [HGx.out] at ex1
    rw [HW36.out] at ex2
    rw [HGx.out] at ex2
    go_wp2_with fail
    rw [← HW36.out]
    try rw [← HGx.out]
    clear ex0 ex1 ex2
    (with_reducible refine HS.out.mono ?_); rintro e w37 ⟨rfl, hb37⟩
    clear HS
    have HB37 := Lib.hid (HB36.out.step hb37)
    have O := Lib.hid (O.out.below hb37)
    have D := Lib.hid (D.out.below hb37)
    have NY := Lib.hid (NY.out.below hb37)
    have NX := Lib.hid (NX.out.below hb37)
    have Q := Lib.hid (Q.out.below hb37)
    have BXR := Lib.hid (heap_below BXR.out hb37)
    have BXo := Lib.hid (heap_below BXo.out hb37)
    have BXx := Lib.hid (heap_below BXx.out hb37)
    clear hb37
    have htx := HTS.out; subst htx
    obtain ⟨ex0, ex1, ex2⟩ := row3 BXx.out
    obtain ⟨eR0, eR1, eR2⟩ := row3 BXR.out
    obtain ⟨fR0, fR1, fR2⟩ := froz3 BXR.out
    go_wp2_with fail
    clear ex0 ex1 ex2 eR0 eR1 eR2 fR0 fR1 fR2
    refine ret_rat2 rfl w.heap.size _ _ _ rfl (put3_heap BXR.out) rfl ?_
    exact ⟨_, rfl, put3_below HB37.out (by omega) _ _ _, isR_put Q.out BXR.out⟩
  · go_enter Tryd.func14, Tryd.ntmps14
    have hs := HDC.out w0
    have HS := Lib.hid hs; clear hs
    go_wp2_with fail
    rw [← HW0.out]
    (with_reducible refine HS.out.mono ?_); rintro e w1 ⟨v1, rfl, hb1, hn1⟩
    clear HS
    have HB1 := Lib.hid (HB0.out.step hb1)
    have BXR := Lib.hid (heap_below BXR.out hb1)
    have O := Lib.hid hn1; clear hn1
    clear hb1
    obtain ⟨sO, oO, nO, cO, aO, mO, dO, rfl⟩ := O.out.shape
    obtain ⟨w2, hw2⟩ : ∃ w2, w2 = w1.alloc (.cells #[.bool sO, .slice oO nO cO, .slice aO mO dO] 24) := ⟨_, rfl⟩
    have hb2 : Below w1.heap.size w1 w2 := by rw [hw2]; exact (Below.refl _ _).alloc (Nat.le_refl _) _
    have hxo := heap_alloc_new w1 (.cells #[.bool sO, .slice oO nO cO, .slice aO mO dO] 24)
    obtain ⟨go, hgo⟩ : ∃ go, go = w1.heap.size := ⟨_, rfl⟩
    rw [← hw2, ← hgo] at hxo
    have HW2 := Lib.hid hw2; have HGo := Lib.hid hgo; clear hw2 hgo
    have HB2 := Lib.hid (HB1.out.step hb2)
    have O := Lib.hid (O.out.below hb2)
    have BXR := Lib.hid (heap_below BXR.out hb2)
    clear hb2
    have BXo := Lib.hid hxo; clear hxo
    go_wp2_with fail
    rw [← HW2.out]
    try rw [← HGo.out]
    go_quiet (fail)
    have hb30 : Below w2.heap.size w2 (w2.drewN nq) := below_drewN (Below.refl _ _) _
    obtain ⟨w30, hw30⟩ : ∃ w30, w30 = w2.drewN nq := ⟨_, rfl⟩
    rw [← hw30] at hb30 ⊢; clear hw30
    have HB30 := Lib.hid (HB2.out.step hb30)
    have O := Lib.hid (O.out.below hb30)
    have BXR := Lib.hid (heap_below BXR.out hb30)
    have BXo := Lib.hid (heap_below BXo.out hb30)
    clear hb30
    obtain ⟨w31, hw31⟩ : ∃ w31, w31 = w30.alloc (.cells #[.int .u32 1] 57) := ⟨_, rfl⟩
    have hb31 : Below w30.heap.size w30 w31 := by rw [hw31]; exact (Below.refl _ _).alloc (Nat.le_refl _) _
    have hxD1 := heap_alloc_new w30 (.cells #[.int .u32 1] 57)
    obtain ⟨gD1, hgD1⟩ : ∃ gD1, gD1 = w30.heap.size := ⟨_, rfl⟩
    rw [← hw31, ← hgD1] at hxD1
    have HW31 := Lib.hid hw31; have HGD1 := Lib.hid hgD1; clear hw31 hgD1
    have HB31 := Lib.hid (HB30.out.step hb31)
    have O := Lib.hid (O.out.below hb31)
    have BXR := Lib.hid (heap_below BXR.out hb31)
    have BXo := Lib.hid (heap_below BXo.out hb31)
    clear hb31
    have hnD := num_one1 w30
    rw [← HW31.out, ← HGD1.out] at hnD
    have D := Lib.hid hnD; clear hnD hxD1
    have hs := HFD.out w31
    have HS := Lib.hid hs; clear hs
    go_wp2_with fail
    rw [← HW31.out]
    try rw [← HGD1.out]
    (with_reducible refine HS.out.mono ?_); rintro e wx ⟨rfl, rfl⟩
    clear HS
    have hs := HPY.out w31
    have HS := Lib.hid hs; clear hs
    go_wp2_with fail
    (with_reducible refine HS.out.mono ?_); rintro e w33 ⟨v33, rfl, hb33, hn33⟩
    clear HS
    have HB33 := Lib.hid (HB31.out.step hb33)
    have O := Lib.hid (O.out.below hb33)
    have D := Lib.hid (D.out.below hb33)
    have BXR := Lib.hid (heap_below BXR.out hb33)
    have BXo := Lib.hid (heap_below BXo.out hb33)
    have NY := Lib.hid hn33; clear hn33
    clear hb33
    have hs := HPX.out w33
    have HS := Lib.hid hs; clear hs
    go_wp2_with fail
    (with_reducible refine HS.out.mono ?_); rintro e w34 ⟨v34, rfl, hb34, hn34⟩
    clear HS
    have HB34 := Lib.hid (HB33.out.step hb34)
    have O := Lib.hid (O.out.below hb34)
    have D := Lib.hid (D.out.below hb34)
    have NY := Lib.hid (NY.out.below hb34)
    have BXR := Lib.hid (heap_below BXR.out hb34)
    have BXo := Lib.hid (heap_below BXo.out hb34)
    have NX := Lib.hid hn34; clear hn34
    clear hb34
    have hs := rfromN false NX.out NY.out (by omega) (by have := wd_one_len; omega)
    rw [show zc VY = 0 from if_neg HVY.out, ← HQ.out] at hs
    have HS := Lib.hid hs; clear hs
    go_wp2_with fail
    (with_reducible refine HS.out.mono ?_); rintro e w35 ⟨v35, rfl, hb35, hn35⟩
    clear HS
    have HB35 := Lib.hid (HB34.out.step hb35)
    have O := Lib.hid (O.out.below hb35)
    have D := Lib.hid (D.out.below hb35)
    have NY := Lib.hid (NY.out.below hb35)
    have NX := Lib.hid (NX.out.below hb35)
    have BXR := Lib.hid (heap_below BXR.out hb35)
    have BXo := Lib.hid (heap_below BXo.out hb35)
    have Q := Lib.hid hn35; clear hn35
    clear hb35
    obtain ⟨sQ, oQ, nQ, cQ, aQ, mQ, dQ, rfl⟩ := Q.out.shape
    obtain ⟨w36, hw36⟩ : ∃ w36, w36 = w35.alloc (.cells #[.bool sQ, .slice oQ nQ cQ, .slice aQ mQ dQ] 24) := ⟨_, rfl⟩
    have hb36 : Below w35.heap.size w35 w36 := by rw [hw36]; exact (Below.refl _ _).alloc (Nat.le_refl _) _
    have hxx := heap_alloc_new w35 (.cells #[.bool sQ, .slice oQ nQ cQ, .slice aQ mQ dQ] 24)
    obtain ⟨gx, hgx⟩ : ∃ gx, gx = w35.heap.size := ⟨_, rfl⟩
    rw [← hw36, ← hgx] at hxx
    have HW36 := Lib.hid hw36; have HGx := Lib.hid hgx; clear hw36 hgx
    have HB36 := Lib.hid (HB35.out.step hb36)
    have O := Lib.hid (O.out.below hb36)
    have D := Lib.hid (D.out.below hb36)
    have NY := Lib.hid (NY.out.below hb36)
    have NX := Lib.hid (NX.out.below hb36)
    have Q := Lib.hid (Q.out.below hb36)
    have BXR := Lib.hid (heap_below BXR.out hb36)
    have BXo := Lib.hid (heap_below BXo.out hb36)
    clear hb36
    have BXx := Lib.hid hxx; clear hxx
    have hs := rtextq_any _ q w36 (IsR.is Q.out (by omega))
    rw [← HTX.out] at hs
    have HS := Lib.hid hs; clear hs
    obtain ⟨ex0, ex1, ex2⟩ := row3 BXx.out
    rw [HW36.out] at ex0
    rw [HGx.out] at ex0
    rw [HW36.out] at ex1
    rw [HGx.out] at ex1
    rw [HW36.out] at ex2
    rw [HGx.out] at ex2
    go_wp2_with fail
    rw [← HW36.out]
    try rw [← HGx.out]
    clear ex0 ex1 ex2
    (with_reducible refine HS.out.mono ?_); rintro e w37 ⟨rfl, hb37⟩
    clear HS
    have HB37 := Lib.hid (HB36.out.step hb37)
    have O := Lib.hid (O.out.below hb37)
    have D := Lib.hid (D.out.below hb37)
    have NY := Lib.hid (NY.out.below hb37)
    have NX := Lib.hid (NX.out.below hb37)
    have Q := Lib.hid (Q.out.below hb37)
    have BXR := Lib.hid (heap_below BXR.out hb37)
    have BXo := Lib.hid (heap_below BXo.out hb37)
    have BXx := Lib.hid (heap_below BXx.out hb37)
    clear hb37
    have htx := HTS.out; subst htx
    obtain ⟨ex0, ex1, ex2⟩ := row3 BXx.out
    obtain ⟨eR0, eR1, eR2⟩ := row3 BXR.out
    obtain ⟨fR0, fR1, fR2⟩ := froz3 BXR.out
    go_wp2_with fail
    clear ex0 ex1 ex2 eR0 eR1 eR2 fR0 fR1 fR2
    refine ret_rat2 rfl w.heap.size _ _ _ rfl (put3_heap BXR.out) rfl ?_
    exact ⟨_, rfl, put3_below HB37.out (by omega) _ _ _, isR_put Q.out BXR.out⟩
theorem rparseq_small (l : List UInt8) (w : World) (hl : l.length ≤ 300) :
    Calls Tryd.prog 14 #[.string ⟨l.toArray⟩] w (RetRE w (oQ (prV l)) (.int .i64 (oC (prV l) : Nat))) := by
  by_cases hdec : l.length ≤ 64 ∧ (rdO l).isSome = true
  · obtain ⟨h1, h2⟩ := hdec
    cases hq : rdO l with
    | none => rw [hq] at h2; cases h2
    | some q =>
      rw [rdO_some hq h1]
      exact rpq_dec l w q h1 hq
  · rw [prV_rest hdec]
    cases l with
    | nil => exact rpq_badx1_nil [] w hl hdec rfl rfl (by decide)
    | cons x m =>
      by_cases hx : x = 45
      · subst hx
        have hp : preL 45 (45 :: m) = (m, true) := rfl
        rw [hp]
        cases hc : cutL 47 m with
        | none =>
          show Calls _ _ _ _ (RetRE w (oQ (frV (45 :: m) true m none)) (.int .i64 (oC (frV (45 :: m) true m none) : Nat)))
          by_cases ha : parC m = 0
          · by_cases hr : rtx (qm true (parV m) 1) = (45 :: m)
            · have e : frV (45 :: m) true m none = some (qm true (parV m) 1) := if_pos ⟨ha, hr⟩
              rw [e]; exact rpq_fits1_t _ w hl hdec m rfl hc ha hr
            · have e : frV (45 :: m) true m none = none := if_neg fun k => hr k.2
              rw [e]; exact rpq_differs1_t _ w hl hdec m rfl hc ha hr
          · rw [frV_none1 ha]; exact rpq_badx1_t _ w hl hdec m rfl hc ha
        | some p =>
          obtain ⟨a, b⟩ := p
          have hm := (cutL_mem hc).2
          show Calls _ _ _ _ (RetRE w (oQ (frV (45 :: m) true a (some b))) (.int .i64 (oC (frV (45 :: m) true a (some b)) : Nat)))
          by_cases hb : parC b = 0
          · by_cases ha : parC a = 0
            · by_cases hv : parV b = 0
              · have e : frV (45 :: m) true a (some b) = none := if_neg fun k => k.2.2.1 hv
                rw [e]; exact rpq_zero2_t _ w hl hdec m rfl a b hm hc ha hb hv
              · by_cases hr : rtx (qm true (parV a) (parV b)) = (45 :: m)
                · have e : frV (45 :: m) true a (some b) = some (qm true (parV a) (parV b)) := if_pos ⟨ha, hb, hv, hr⟩
                  rw [e]; exact rpq_fits2_t _ w hl hdec m rfl a b hm hc ha hb hv hr
                · have e : frV (45 :: m) true a (some b) = none := if_neg fun k => hr k.2.2.2
                  rw [e]; exact rpq_differs2_t _ w hl hdec m rfl a b hm hc ha hb hv hr
            · rw [frV_none1 ha]; exact rpq_badx2_t _ w hl hdec m rfl a b hm hc ha hb
          · have e : frV (45 :: m) true a (some b) = none := if_neg fun k => hb k.2.1
            rw [e]; exact rpq_bady2_t _ w hl hdec m rfl a b hm hc hb
      · have hp : preL 45 (x :: m) = (x :: m, false) := by unfold preL; rw [if_neg (by simp [hx])]
        rw [hp]
        cases hc : cutL 47 (x :: m) with
        | none =>
          show Calls _ _ _ _ (RetRE w (oQ (frV (x :: m) false (x :: m) none)) (.int .i64 (oC (frV (x :: m) false (x :: m) none) : Nat)))
          by_cases ha : parC (x :: m) = 0
          · by_cases hr : rtx (qm false (parV (x :: m)) 1) = (x :: m)
            · have e : frV (x :: m) false (x :: m) none = some (qm false (parV (x :: m)) 1) := if_pos ⟨ha, hr⟩
              rw [e]; exact rpq_fits1_f _ w hl hdec x m rfl hx hc ha hr
            · have e : frV (x :: m) false (x :: m) none = none := if_neg fun k => hr k.2
              rw [e]; exact rpq_differs1_f _ w hl hdec x m rfl hx hc ha hr
          · rw [frV_none1 ha]; exact rpq_badx1_f _ w hl hdec x m rfl hx hc ha
        | some p =>
          obtain ⟨a, b⟩ := p
          have hm := (cutL_mem hc).2
          show Calls _ _ _ _ (RetRE w (oQ (frV (x :: m) false a (some b))) (.int .i64 (oC (frV (x :: m) false a (some b)) : Nat)))
          by_cases hb : parC b = 0
          · by_cases ha : parC a = 0
            · by_cases hv : parV b = 0
              · have e : frV (x :: m) false a (some b) = none := if_neg fun k => k.2.2.1 hv
                rw [e]; exact rpq_zero2_f _ w hl hdec x m rfl hx a b hm hc ha hb hv
              · by_cases hr : rtx (qm false (parV a) (parV b)) = (x :: m)
                · have e : frV (x :: m) false a (some b) = some (qm false (parV a) (parV b)) := if_pos ⟨ha, hb, hv, hr⟩
                  rw [e]; exact rpq_fits2_f _ w hl hdec x m rfl hx a b hm hc ha hb hv hr
                · have e : frV (x :: m) false a (some b) = none := if_neg fun k => hr k.2.2.2
                  rw [e]; exact rpq_differs2_f _ w hl hdec x m rfl hx a b hm hc ha hb hv hr
            · rw [frV_none1 ha]; exact rpq_badx2_f _ w hl hdec x m rfl hx a b hm hc ha hb
          · have e : frV (x :: m) false a (some b) = none := if_neg fun k => hb k.2.1
            rw [e]; exact rpq_bady2_f _ w hl hdec x m rfl hx a b hm hc hb
theorem rparseq_any (l : List UInt8) (w : World) (hl : l.length ≤ 300 ∨ 65536 < l.length) (hm : l.length ≤ 9223372036854775807) :
    Calls Tryd.prog 14 #[.string ⟨l.toArray⟩] w (RetRE w (prQ l) (.int .i64 (prC l : Nat))) := by
  unfold prQ prC
  by_cases h : 65536 < l.length
  · rw [if_pos h, if_pos h]; exact rpq_large l w h hm
  · rw [if_neg h, if_neg h]; exact rparseq_small l w (by omega)
end Go.Proofs.YtabdndlaelfdeaaDoor
