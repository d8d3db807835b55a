/-
  The reference's Parse: its loop.
  Conditions: each theorem's own.
-/
import Derived.Test.YtdepoikifneggaaDoorNat22
namespace Go.Proofs.YtdepoikifneggaaDoor
open Go.RowKit Go.ChangeShapes Go.WideShapes

theorem run_index_l (l : List UInt8) (k : Nat) (h : k < l.length) (w : World) :
    (Instr.index 9 (.string ⟨l.toArray⟩) (.int .i64 k)).run Tryd.prog w = .ok (.int .u8 ((l[k]).toNat : Nat)) w := by
  have hs : (ByteArray.mk l.toArray).size = l.length := by simp [ByteArray.size]
  rw [run_index_string w 9 _ _ _ Tryd.underlying9, dif_pos (by rw [hs]; omega)]
  rfl
theorem all_take_succ {l : List UInt8} {i : Nat} (h : i < l.length) : (l.take (i + 1)).all isDig = ((l.take i).all isDig && isDig l[i]) := by
  rw [List.take_succ_eq_append_getElem h, List.all_append]; simp
theorem decN_take_succ {l : List UInt8} {i : Nat} (h : i < l.length) : decN (l.take (i + 1)) = 10 * decN (l.take i) + ((l[i]).toNat - 48) := by
  rw [List.take_succ_eq_append_getElem h, decN_snoc]
theorem not_all {l : List UInt8} {i : Nat} (h : i < l.length) (hn : isDig l[i] = false) : l.all isDig = false := by
  rw [Bool.eq_false_iff]; intro ha
  rw [List.all_eq_true] at ha
  have := ha _ (List.getElem_mem h)
  rw [hn] at this; cases this
theorem decN_len {l : List UInt8} (hd : l.all isDig = true) : decN l < 10 ^ l.length := by
  have key : ∀ m : List UInt8, m.all isDig = true → decN m.reverse < 10 ^ m.length := by
    intro m
    induction m with
    | nil => intro _; exact Nat.lt_of_lt_of_le (by decide : (0:Nat) < 1) (by simp)
    | cons b m ih =>
      intro h
      rw [List.all_cons, Bool.and_eq_true] at h
      have hb : 48 ≤ b.toNat ∧ b.toNat ≤ 57 := by simpa [isDig] using h.1
      have := ih h.2
      rw [List.reverse_cons, decN_snoc, List.length_cons, Nat.pow_succ]
      omega
  have := key l.reverse (by rw [List.all_reverse]; exact hd)
  rwa [List.reverse_reverse, List.length_reverse] at this

/-- a call's number, for ever -/
def RetP (w0 : World) (n : Nat) (e : Ending) (w' : World) : Prop :=
  ∃ v, e = .returned v ∧ Below w0.heap.size w0 w' ∧ ∀ wx, Below w'.heap.size w' wx → Num wx v (wd n)
theorem RetNum.p {w0 : World} {n : Nat} {e : Ending} {w' : World} (hr : RetNum w0 (fun r => r = wd n) e w') : RetP w0 n e w' := by
  obtain ⟨v, l, he, hb, hn, rfl⟩ := hr
  exact ⟨v, he, hb, fun wx hx => hn.below hx⟩

theorem decN_words' {l : List UInt8} {k K : Nat} (hl : l.length ≤ K) (h : (l.take k).all isDig = true) : (wd (decN (l.take k))).length ≤ K := by
  apply wd_length_of_lt
  have h1 := decN_len h
  have h2 : (l.take k).length ≤ K := Nat.le_trans (by rw [List.length_take]; omega) hl
  exact Nat.lt_of_lt_of_le h1 (Nat.le_trans (Nat.pow_le_pow_right (by decide) h2) (Nat.pow_le_pow_left (by decide) _))
theorem decN_words {l : List UInt8} {k : Nat} (hl : l.length ≤ 400) (h : (l.take k).all isDig = true) : (wd (decN (l.take k))).length ≤ 400 := decN_words' hl h
theorem _root_.Go.RowKit.Below.step {w w1 w2 : World} (h : Below w.heap.size w w1) (h2 : Below w1.heap.size w1 w2) : Below w.heap.size w w2 := h.trans (h2.mono h.size)

set_option maxRecDepth 100000 in
set_option maxHeartbeats 3200000 in
theorem rparse_loop (l : List UInt8) (w : World) (hl : l.length ≤ 400) (h0 : 0 < l.length) (hz : l[0].toNat = 48 → l.length = 1) :
    Calls Tryd.prog 45 #[.string ⟨l.toArray⟩] w (RetNE w (if l.all isDig then decN l else 0) (.int .i64 (if l.all isDig then 0 else 2 : Nat))) := by
  obtain ⟨S, hS⟩ : ∃ S : ByteArray, S = ⟨l.toArray⟩ := ⟨_, rfl⟩
  have hsz : S.size = l.length := by rw [hS]; simp [ByteArray.size]
  have hix := run_index_l l
  rw [← hS] at hix ⊢
  have hS0 : ¬ S = ⟨#[]⟩ := fun e => by rw [e] at hsz; have : (ByteArray.mk #[]).size = 0 := rfl; omega
  obtain ⟨V, hV⟩ : ∃ V, V = if l.all isDig then decN l else 0 := ⟨_, rfl⟩
  obtain ⟨C, hC⟩ : ∃ C : Nat, C = if l.all isDig then 0 else 2 := ⟨_, rfl⟩
  rw [← hV, ← hC]
  obtain ⟨x, hx⟩ : ∃ x, x = l[0].toNat := ⟨_, rfl⟩
  have hix0 : ∀ wx, (Instr.index 9 (.string S) (.int .i64 0)).run Tryd.prog wx = .ok (.int .u8 (x : Nat)) wx := fun wx => by rw [hx]; exact hix 0 h0 wx
  have hS2 : S.toList.isEmpty = false := by
    rw [ByteArray.toList_eq]
    have h9 : S.data.toList.length = S.size := rfl
    cases h8 : S.data.toList with
    | nil => rw [h8] at h9; simp only [List.length_nil] at h9; omega
    | cons _ _ => rfl
  rw [← hx] at hz
  have f1 : decide ((65536 : Int) < (l.length : Int)) = false := decide_eq_false (by omega)
  have HIX := Lib.hid hix; have HSZ := Lib.hid hsz; have HVV := Lib.hid hV; have HCC := Lib.hid hC
  have hx48 : ((x : Int) == 48) = false ∨ ((x : Int) == 48) = true ∧ decide ((1 : Int) < (l.length : Int)) = false := by
    by_cases h : x = 48
    · right; exact ⟨by rw [h]; rfl, decide_eq_false (by have := hz h; omega)⟩
    · left; rw [beq_eq_false_iff_ne]; omega
  clear hix hV hC hx hS hz
  rcases hx48 with hx | ⟨hx, hx2⟩
  · go_enter Tryd.func45, Tryd.ntmps45
    go_wp2_with fail
    clear hix0 f1 hx
    go_loopw [4, 5, 24] (fun ov _ kv wr => ∃ k : Nat, k ≤ l.length ∧ kv = .int .i64 k ∧ Num wr ov (wd (decN (l.take k))) ∧ Below w.heap.size w wr ∧ Hid ((l.take k).all isDig = true)) (fun _ _ kv _ => l.length - (intOf kv).toNat)
    case atStart => exact ⟨0, Nat.zero_le _, rfl, by rw [List.take_zero, decN_nil, wd_zero]; exact num_empty _ _, (Below.refl _ _).alloc (Nat.le_refl _) _, Lib.hid rfl⟩
    case round =>
      obtain ⟨k, hk, rfl, hno, hBr, had⟩ := hrel
      have HNO := Lib.hid hno; have HBR := Lib.hid hBr; clear hno hBr
      by_cases hkn : k < l.length
      · have hi := fun wx => HIX.out k hkn wx
        obtain ⟨c, hc⟩ : ∃ c, c = l[k].toNat := ⟨_, rfl⟩
        rw [← hc] at hi
        have hdg : isDig l[k] = (decide (48 ≤ c) && decide (c ≤ 57)) := by rw [hc]; rfl
        have hcb : c < 256 := by rw [hc]; exact l[k].toNat_lt
        have hf1 : decide ((k : Int) < (l.length : Int)) = true := decide_eq_true (by omega)
        have HDG := Lib.hid hdg; have HC := Lib.hid hc
        clear hdg hc
        by_cases hc1 : c < 48
        · have hf2 : decide ((c : Int) < 48) = true := decide_eq_true (by omega)
          have hbad : l.all isDig = false := not_all hkn (by rw [HDG.out]; simp; omega)
          have HBAD := Lib.hid hbad; clear hbad
          go_wp2_with fail
          go_ret2
          rw [HCC.out, HVV.out, HBAD.out]
          exact ⟨_, rfl, HBR.out, by rw [if_neg (by decide), wd_zero]; exact Num.nil _⟩
        · have hf2 : decide ((c : Int) < 48) = false := decide_eq_false (by omega)
          by_cases hc2 : 57 < c
          · have hf3 : decide ((57 : Int) < (c : Int)) = true := decide_eq_true (by omega)
            have hbad : l.all isDig = false := not_all hkn (by rw [HDG.out]; simp; omega)
            have HBAD := Lib.hid hbad; clear hbad
            go_wp2_with fail
            go_ret2
            rw [HCC.out, HVV.out, HBAD.out]
            exact ⟨_, rfl, HBR.out, by rw [if_neg (by decide), wd_zero]; exact Num.nil _⟩
          · have hf3 : decide ((57 : Int) < (c : Int)) = false := decide_eq_false (by omega)
            have hgood : (l.take (k + 1)).all isDig = true := by rw [all_take_succ hkn, had.out, HDG.out]; simp; omega
            have hval : decN (l.take (k + 1)) = decN (l.take k) * 10 + (c - 48) := by rw [decN_take_succ hkn, ← HC.out, Nat.mul_comm]
            have hw1 := decN_words hl had.out
            have hw2 := decN_words hl hgood
            obtain ⟨M, hM⟩ : ∃ M, M = decN (l.take k) := ⟨_, rfl⟩
            rw [← hM] at HNO hval hw1
            have HGOOD := Lib.hid hgood; have HVAL := Lib.hid hval
            clear hgood hval hM
            have hof10 := fun wx => (rof_any 10 wx (by decide) (by decide)).mono fun _ _ => RetNum.p (n := 10)
            have hofd := fun wx => (rof_any ((c : Int) - 48) wx (by omega) (by omega)).mono fun _ _ h => RetNum.p (n := c - 48) (by rw [show ((c : Int) - 48).toNat = c - 48 by omega] at h; exact h)
            have hwr : IntKind.i64.wrap (IntKind.u8.wrap ((c : Int) - 48)) = (c : Int) - 48 := by rw [IntKind.wrap_u8, IntKind.wrap_i64]; omega
            rw [← hwr] at hofd
            have hw10 : (wd 10).length ≤ 1 := by rw [wd_one (by decide) (by decide)]; simp
            have hwm : (wd (M * 10)).length ≤ 402 := by have := wd_mul_len M 10; omega
            have hwd : (wd (c - 48)).length ≤ 1 := wd_length_of_lt (by omega)
            have hmu := fun u v wx (h1 : Num wx u (wd M)) (h2 : Num wx v (wd 10)) => (rmul_any u v _ _ wx h1 h2 (by omega) (by omega)).mono fun _ _ h => RetNum.p (n := M * 10) (by rw [val_wd, val_wd] at h; exact h)
            have hadd := fun u v wx (h1 : Num wx u (wd (M * 10))) (h2 : Num wx v (wd (c - 48))) => (radd_any u v _ _ wx h1 h2 (by omega) (by omega)).mono fun _ _ h => RetNum.p (n := M * 10 + (c - 48)) (by rw [val_wd, val_wd] at h; exact h)
            have HOT := Lib.hid hof10; have HOD := Lib.hid hofd; have HMU := Lib.hid hmu; have HAD := Lib.hid hadd
            have HNO := Lib.hid (HNO.out.below (Below.refl _ _).drew)
            clear hof10 hofd hmu hadd hw10 hwm hwd hw1 hw2 hwr
            go_wp2_with fail
            go_region_held3 (fun _ => True) (trivial) (first
              | (go_at_call 25; (with_reducible refine (HOT.out _).mono ?_); rintro e wa ⟨va, rfl, hba, hna⟩)
              | (go_at_call 25; (with_reducible refine (HOD.out _).mono ?_); rintro e wb ⟨vb, rfl, hbb, hnb⟩)
              | (go_at_call 41; (with_reducible refine (HMU.out _ _ _ (by first | exact HNO.out.below hba | exact (HNO.out.below hba).below hbb | exact (HNO.out.below hbb).below hba) (by first | exact hna _ (Below.refl _ _) | exact hna _ hbb)).mono ?_); rintro e wm ⟨vm, rfl, hbm, hnm⟩)
              | (go_at_call 33; (with_reducible refine (HAD.out _ _ _ (by first | exact hnm _ (Below.refl _ _) | exact hnm _ hbb) (by first | exact hnb _ (Below.refl _ _) | exact hnb _ hbm | exact hnb _ (hba.trans (hbm.mono hba.size)))).mono ?_); rintro e ws ⟨vs, rfl, hbs, hns⟩))
            all_goals
              go_wp2_with fail
              go_roundw
              case rel => exact ⟨k + 1, hkn, by go_num, by rw [HVAL.out]; exact hns _ (Below.refl _ _), (by first | exact (((HBR.out.drew.step hba).step hbm).step hbb).step hbs | exact (((HBR.out.drew.step hba).step hbb).step hbm).step hbs | exact (((HBR.out.drew.step hbb).step hba).step hbm).step hbs), Lib.hid HGOOD.out⟩
              case measure => simp [intOf]; omega
      · obtain rfl : k = l.length := by omega
        have hf1 : decide ((l.length : Int) < (l.length : Int)) = false := decide_eq_false (by omega)
        have hall : l.all isDig = true := by have := had.out; rwa [List.take_length] at this
        have HALL := Lib.hid hall
        go_wp2_with fail
        go_ret2
        rw [HCC.out, HVV.out, HALL.out]
        have h := HNO.out
        rw [List.take_length] at h
        exact ⟨_, rfl, HBR.out, h⟩
  · go_enter Tryd.func45, Tryd.ntmps45
    go_wp2_with fail
    clear hix0 f1 hx hx2
    go_loopw [4, 5, 24] (fun ov _ kv wr => ∃ k : Nat, k ≤ l.length ∧ kv = .int .i64 k ∧ Num wr ov (wd (decN (l.take k))) ∧ Below w.heap.size w wr ∧ Hid ((l.take k).all isDig = true)) (fun _ _ kv _ => l.length - (intOf kv).toNat)
    case atStart => exact ⟨0, Nat.zero_le _, rfl, by rw [List.take_zero, decN_nil, wd_zero]; exact num_empty _ _, (Below.refl _ _).alloc (Nat.le_refl _) _, Lib.hid rfl⟩
    case round =>
      obtain ⟨k, hk, rfl, hno, hBr, had⟩ := hrel
      have HNO := Lib.hid hno; have HBR := Lib.hid hBr; clear hno hBr
      by_cases hkn : k < l.length
      · have hi := fun wx => HIX.out k hkn wx
        obtain ⟨c, hc⟩ : ∃ c, c = l[k].toNat := ⟨_, rfl⟩
        rw [← hc] at hi
        have hdg : isDig l[k] = (decide (48 ≤ c) && decide (c ≤ 57)) := by rw [hc]; rfl
        have hcb : c < 256 := by rw [hc]; exact l[k].toNat_lt
        have hf1 : decide ((k : Int) < (l.length : Int)) = true := decide_eq_true (by omega)
        have HDG := Lib.hid hdg; have HC := Lib.hid hc
        clear hdg hc
        by_cases hc1 : c < 48
        · have hf2 : decide ((c : Int) < 48) = true := decide_eq_true (by omega)
          have hbad : l.all isDig = false := not_all hkn (by rw [HDG.out]; simp; omega)
          have HBAD := Lib.hid hbad; clear hbad
          go_wp2_with fail
          go_ret2
          rw [HCC.out, HVV.out, HBAD.out]
          exact ⟨_, rfl, HBR.out, by rw [if_neg (by decide), wd_zero]; exact Num.nil _⟩
        · have hf2 : decide ((c : Int) < 48) = false := decide_eq_false (by omega)
          by_cases hc2 : 57 < c
          · have hf3 : decide ((57 : Int) < (c : Int)) = true := decide_eq_true (by omega)
            have hbad : l.all isDig = false := not_all hkn (by rw [HDG.out]; simp; omega)
            have HBAD := Lib.hid hbad; clear hbad
            go_wp2_with fail
            go_ret2
            rw [HCC.out, HVV.out, HBAD.out]
            exact ⟨_, rfl, HBR.out, by rw [if_neg (by decide), wd_zero]; exact Num.nil _⟩
          · have hf3 : decide ((57 : Int) < (c : Int)) = false := decide_eq_false (by omega)
            have hgood : (l.take (k + 1)).all isDig = true := by rw [all_take_succ hkn, had.out, HDG.out]; simp; omega
            have hval : decN (l.take (k + 1)) = decN (l.take k) * 10 + (c - 48) := by rw [decN_take_succ hkn, ← HC.out, Nat.mul_comm]
            have hw1 := decN_words hl had.out
            have hw2 := decN_words hl hgood
            obtain ⟨M, hM⟩ : ∃ M, M = decN (l.take k) := ⟨_, rfl⟩
            rw [← hM] at HNO hval hw1
            have HGOOD := Lib.hid hgood; have HVAL := Lib.hid hval
            clear hgood hval hM
            have hof10 := fun wx => (rof_any 10 wx (by decide) (by decide)).mono fun _ _ => RetNum.p (n := 10)
            have hofd := fun wx => (rof_any ((c : Int) - 48) wx (by omega) (by omega)).mono fun _ _ h => RetNum.p (n := c - 48) (by rw [show ((c : Int) - 48).toNat = c - 48 by omega] at h; exact h)
            have hwr : IntKind.i64.wrap (IntKind.u8.wrap ((c : Int) - 48)) = (c : Int) - 48 := by rw [IntKind.wrap_u8, IntKind.wrap_i64]; omega
            rw [← hwr] at hofd
            have hw10 : (wd 10).length ≤ 1 := by rw [wd_one (by decide) (by decide)]; simp
            have hwm : (wd (M * 10)).length ≤ 402 := by have := wd_mul_len M 10; omega
            have hwd : (wd (c - 48)).length ≤ 1 := wd_length_of_lt (by omega)
            have hmu := fun u v wx (h1 : Num wx u (wd M)) (h2 : Num wx v (wd 10)) => (rmul_any u v _ _ wx h1 h2 (by omega) (by omega)).mono fun _ _ h => RetNum.p (n := M * 10) (by rw [val_wd, val_wd] at h; exact h)
            have hadd := fun u v wx (h1 : Num wx u (wd (M * 10))) (h2 : Num wx v (wd (c - 48))) => (radd_any u v _ _ wx h1 h2 (by omega) (by omega)).mono fun _ _ h => RetNum.p (n := M * 10 + (c - 48)) (by rw [val_wd, val_wd] at h; exact h)
            have HOT := Lib.hid hof10; have HOD := Lib.hid hofd; have HMU := Lib.hid hmu; have HAD := Lib.hid hadd
            have HNO := Lib.hid (HNO.out.below (Below.refl _ _).drew)
            clear hof10 hofd hmu hadd hw10 hwm hwd hw1 hw2 hwr
            go_wp2_with fail
            go_region_held3 (fun _ => True) (trivial) (first
              | (go_at_call 25; (with_reducible refine (HOT.out _).mono ?_); rintro e wa ⟨va, rfl, hba, hna⟩)
              | (go_at_call 25; (with_reducible refine (HOD.out _).mono ?_); rintro e wb ⟨vb, rfl, hbb, hnb⟩)
              | (go_at_call 41; (with_reducible refine (HMU.out _ _ _ (by first | exact HNO.out.below hba | exact (HNO.out.below hba).below hbb | exact (HNO.out.below hbb).below hba) (by first | exact hna _ (Below.refl _ _) | exact hna _ hbb)).mono ?_); rintro e wm ⟨vm, rfl, hbm, hnm⟩)
              | (go_at_call 33; (with_reducible refine (HAD.out _ _ _ (by first | exact hnm _ (Below.refl _ _) | exact hnm _ hbb) (by first | exact hnb _ (Below.refl _ _) | exact hnb _ hbm | exact hnb _ (hba.trans (hbm.mono hba.size)))).mono ?_); rintro e ws ⟨vs, rfl, hbs, hns⟩))
            all_goals
              go_wp2_with fail
              go_roundw
              case rel => exact ⟨k + 1, hkn, by go_num, by rw [HVAL.out]; exact hns _ (Below.refl _ _), (by first | exact (((HBR.out.drew.step hba).step hbm).step hbb).step hbs | exact (((HBR.out.drew.step hba).step hbb).step hbm).step hbs | exact (((HBR.out.drew.step hbb).step hba).step hbm).step hbs), Lib.hid HGOOD.out⟩
              case measure => simp [intOf]; omega
      · obtain rfl : k = l.length := by omega
        have hf1 : decide ((l.length : Int) < (l.length : Int)) = false := decide_eq_false (by omega)
        have hall : l.all isDig = true := by have := had.out; rwa [List.take_length] at this
        have HALL := Lib.hid hall
        go_wp2_with fail
        go_ret2
        rw [HCC.out, HVV.out, HALL.out]
        have h := HNO.out
        rw [List.take_length] at h
        exact ⟨_, rfl, HBR.out, h⟩
end Go.Proofs.YtdepoikifneggaaDoor
