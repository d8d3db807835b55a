/-
  NaturalOrder: the walk of the statement.
  Conditions: none.
-/
import Derived.Test.YtdepoikifneggaaDoorNatLaw1
import Derived.Test.YtdepoikifneggaaDoorNat23
namespace Go.Proofs.YtdepoikifneggaaDoor
open Go.RowKit Go.ChangeShapes Go.WideShapes

section
variable {P : Program} {w : World} {ops : Array Oper} {rest : List Oper} {o : Oper} {a : Act} {Q : Exit → Act → World → Prop} {t e : TypeId}
/-- 'append(s, x...)' behind a guard that lets it through -/
theorem wpList_appendNG (T : SliceTy P t e (.int .u32 0) 1 4)
    (hg : Region.wanted o (yielded ops a.tmps) = true) (s x : Operand) (hop : o.op = Op.call { callee := Callee.builtin Builtin.append, args := #[s, x], argTypes := #[t, t] })
    (B : Nat) (v xv : Value) (l m : List Nat) (hs : a.eval s = v) (hx : a.eval x = xv) (hown : OwnW e w B v l) (hm : Num w xv m)
    (hlen : l.length + m.length ≤ 17592186044416) (hB : B ≤ w.heap.size)
    (hK : ∀ v' w', OwnW e w' B v' (l ++ m) → (∀ w0, Below B w0 w → Below B w0 w') → w.heap.size ≤ w'.heap.size →
      wpList P ops Q rest (a.put o.dst v') w') :
    wpList P ops Q (o :: rest) a w := by
  refine wpList_step fun K hK' => ?_
  rw [if_pos hg]
  have key := run_appendN T o.type B v xv l m hown hm hlen hB
  obtain ⟨v', w', hrun, r1, r2⟩ := key
  unfold Oper.wp
  simp [execOp, hop, resolve, invoke, builtin, hs, hx, hrun, Result.andThen]
  refine hK' _ _ (hK v' w' r1 (fun w0 h0 => h0.grown r2 hB ?_) r2.size)
  intro k hk
  exact (hown.1.lt k hk).1
end
theorem val_zero_end (a : List Nat) : val a = val (a ++ [0]) := by rw [val_snoc, Nat.mul_zero, Nat.add_zero]

set_option maxRecDepth 100000 in
set_option maxHeartbeats 8000000 in
theorem order_fits (va vb : Value) (a b : List Nat) (n : Int) (w : World) (ha : Num w va a) (hb : Num w vb b) (hn0 : -9223372036854775808 ≤ n) (hn1 : n < 9223372036854775808) (hf : val a < 9223372036854775808) :
    Calls Tryd.prog 4 #[va, vb, .int .i64 n] w (RetV w (.bool true)) := by
  obtain ⟨ao, ca, rfl, hca, hca2, _⟩ := ha.shape
  obtain ⟨bo, cb, rfl, hcb, hcb2, _⟩ := hb.shape
  have HA := Lib.hid ha
  have HF := Lib.hid hf; have HN := Lib.hid (And.intro hn0 hn1); clear hf hn0 hn1
  have HB := Lib.hid hb
  clear ha hb
  by_cases hbig : (decide (40 < a.length) || decide (40 < b.length)) = true
  · have HBIG := Lib.hid hbig; clear hbig
    go_enter Tryd.func4, Tryd.ntmps4
    go_wp2_with fail
    (with_reducible refine (awake_any _).mono ?_); rintro e w1 ⟨rfl, hb1⟩
    have hla := large2 (.slice ao a.length ca) (.slice bo b.length cb) a b w1 22 (HA.out.below hb1) (HB.out.below hb1)
    rw [HBIG.out] at hla
    have HLA := Lib.hid hla; clear hla
    go_wp2_with fail
    (with_reducible refine HLA.out.mono ?_); rintro e w2 ⟨rfl, rfl⟩
    go_wp2_with fail
    (with_reducible refine (awake_any _).mono ?_); rintro e w3 ⟨rfl, hb3⟩
    go_wp2_with fail
    go_ret
    exact ⟨rfl, (hb1.alloc hb1.size _).trans (hb3.mono (by have := hb1.size; simp; omega))⟩
  · have hbf := Bool.eq_false_iff.2 hbig
    have hl : a.length ≤ 40 ∧ b.length ≤ 40 := by simpa using hbf
    have HBIG := Lib.hid hbf; clear hbig hbf
    obtain ⟨hla, hlb⟩ := hl
    go_enter Tryd.func4, Tryd.ntmps4
    go_wp2_with fail
    (with_reducible refine (awake_any _).mono ?_); rintro e w1 ⟨rfl, hb1⟩
    have hla := large2 (.slice ao a.length ca) (.slice bo b.length cb) a b w1 22 (HA.out.below hb1) (HB.out.below hb1)
    rw [HBIG.out] at hla
    have HLA := Lib.hid hla; clear hla
    go_wp2_with fail
    (with_reducible refine HLA.out.mono ?_); rintro e w2 ⟨rfl, rfl⟩
    have HB2 := Lib.hid (hb1.alloc hb1.size (.cells #[.slice ao a.length ca, .slice bo b.length cb] 22))
    obtain ⟨w2, hw2⟩ : ∃ w2, w2 = w1.alloc (.cells #[.slice ao a.length ca, .slice bo b.length cb] 22) := ⟨_, rfl⟩
    rw [← hw2] at HB2 ⊢
    clear hw2 hb1
    have hwa := wd_length_le HA.out.lt
    have hwb := wd_length_le HB.out.lt
    have hs := int_yes _ a w2 (HA.out.below HB2.out) (by omega) HF.out
    have HS := Lib.hid hs
    clear hs
    go_wp2_with fail
    (with_reducible refine HS.out.mono ?_); rintro e wx ⟨rfl, rfl⟩
    have hs := rint_yes _ a w2 (HA.out.below HB2.out) (by omega) HF.out
    have HS := Lib.hid hs
    clear hs
    go_wp2_with fail
    (with_reducible refine HS.out.mono ?_); rintro e wx ⟨rfl, rfl⟩
    have LO : Hid ((wd (n.toNat)).length ≤ 2) := Lib.hid (by apply wd_length_of_lt; have := HN.out; omega)
    have hs := of_any n w2 HN.out.1 HN.out.2
    have HS := Lib.hid hs
    clear hs
    go_wp2_with fail
    (with_reducible refine HS.out.mono ?_); rintro e w3 ⟨v3, l3, rfl, hb3, hn3, hl3⟩
    rw [hl3] at hn3
    have HB3 := Lib.hid (HB2.out.trans (hb3.mono HB2.out.size))
    have O := Lib.hid hn3
    clear hn3 hl3 hb3
    have hs := rof_any n w3 HN.out.1 HN.out.2
    have HS := Lib.hid hs
    clear hs
    go_wp2_with fail
    (with_reducible refine HS.out.mono ?_); rintro e w4 ⟨v4, l4, rfl, hb4, hn4, hl4⟩
    rw [hl4] at hn4
    have HB4 := Lib.hid (HB3.out.trans (hb4.mono HB3.out.size))
    have O := Lib.hid (O.out.below hb4)
    have O2 := Lib.hid hn4
    clear hn4 hl4 hb4
    have hs := words_same _ _ _ w4 O.out O2.out (Nat.le_trans LO.out (by decide))
    have HS := Lib.hid hs
    clear hs
    go_wp2_with fail
    (with_reducible refine HS.out.mono ?_); rintro e w5 ⟨rfl, hb5⟩
    have HB5 := Lib.hid (HB4.out.trans (hb5.mono HB4.out.size))
    have O := Lib.hid (O.out.below hb5)
    have O2 := Lib.hid (O2.out.below hb5)
    clear hb5
    have hs := cmp_any _ _ _ _ w5 (HA.out.below HB5.out) (HB.out.below HB5.out) (by omega) (by omega)
    have HS := Lib.hid hs
    clear hs
    go_wp2_with fail
    (with_reducible refine HS.out.mono ?_); rintro e w6 ⟨rfl, hb6⟩
    have HB6 := Lib.hid (HB5.out.trans (hb6.mono HB5.out.size))
    have O := Lib.hid (O.out.below hb6)
    have O2 := Lib.hid (O2.out.below hb6)
    clear hb6
    have hs := rcmp_any _ _ _ _ w6 (HA.out.below HB6.out) (HB.out.below HB6.out) (by omega) (by omega)
    have HS := Lib.hid hs
    clear hs
    go_wp2_with fail
    (with_reducible refine HS.out.mono ?_); rintro e wx ⟨rfl, rfl⟩
    have hln : a.length + 1 ≤ 17592186044416 := by omega
    have HLN := Lib.hid hln; clear hln
    have hE := own_lit w6 38 w6.heap.size #[] [] 0 (Nat.le_refl _) U32.nil rfl (by simp) rfl
    have hA := (HA.out.below HB6.out).below ((Below.refl _ w6).alloc (Nat.le_refl _) (.cells #[] 38))
    have HE := Lib.hid hE; have HAE := Lib.hid hA; clear hE hA
    go_wp2_with (at_builtin; refine wpList_appendNG Tryd.wordsTy rfl (.tmp 46) (.tmp 47) rfl w6.heap.size _ _ [] a rfl rfl HE.out HAE.out (by have := HLN.out; simp; omega) (by simp) ?_)
    intro v5 y5 hv5 hb5 hs5
    have hB5 := hb5 w6 ((Below.refl _ w6).alloc (Nat.le_refl _) (.cells #[] 38))
    have hv5' := hv5.alloc (.cells #[.int .u32 0] 38)
    have hone := num_one y5 38 0 (by decide)
    have HV5 := Lib.hid hv5'; have HB5 := Lib.hid hB5; have HONE := Lib.hid hone
    clear hv5 hb5 hB5 hv5' hone
    go_wp2_with (at_builtin; refine wpList_appendNG Tryd.wordsTy rfl (.tmp 48) (.tmp 49) rfl w6.heap.size _ _ a [0] rfl rfl HV5.out HONE.out (by have := HLN.out; simp; omega) (by have := HB5.out.size; simp; omega) ?_)
    intro v6 y6 hv6 hb6 hs6
    have hB6 := hb6 w6 (HB5.out.alloc HB5.out.size _)
    have hn6 := hv6.num
    have HB20 := Lib.hid (HB6.out.step hB6); have SNN := Lib.hid hn6; have HB56 := Lib.hid hB6
    clear hv6 hb6 hB6 hn6

    have O := Lib.hid (O.out.below HB56.out)
    have O2 := Lib.hid (O2.out.below HB56.out)
    have hs := cmp_any _ _ _ (a ++ [0]) y6 (HA.out.below HB20.out) SNN.out (by omega) (by simp; omega)
    rw [cmpN_eq (val_zero_end a)] at hs
    have HS := Lib.hid hs
    clear hs
    go_wp2_with fail
    (with_reducible refine HS.out.mono ?_); rintro e w21 ⟨rfl, hb21⟩
    have HB21 := Lib.hid (HB20.out.trans (hb21.mono HB20.out.size))
    have O := Lib.hid (O.out.below hb21)
    have O2 := Lib.hid (O2.out.below hb21)
    have SNN := Lib.hid (SNN.out.below hb21)
    clear hb21
    have hs := bits_any _ a w21 (HA.out.below HB21.out) (by omega)
    have HS := Lib.hid hs
    clear hs
    go_wp2_with fail
    (with_reducible refine HS.out.mono ?_); rintro e wx ⟨rfl, rfl⟩
    have hs := rbits_any _ a w21 (HA.out.below HB21.out) (by omega)
    have HS := Lib.hid hs
    clear hs
    go_wp2_with fail
    (with_reducible refine HS.out.mono ?_); rintro e wx ⟨rfl, rfl⟩
    go_wp2_with fail
    go_ret
    exact ⟨by simp, HB21.out⟩
set_option maxRecDepth 100000 in
set_option maxHeartbeats 8000000 in
theorem order_big (va vb : Value) (a b : List Nat) (n : Int) (w : World) (ha : Num w va a) (hb : Num w vb b) (hn0 : -9223372036854775808 ≤ n) (hn1 : n < 9223372036854775808) (hf : 9223372036854775808 ≤ val a) :
    Calls Tryd.prog 4 #[va, vb, .int .i64 n] w (RetV w (.bool true)) := by
  obtain ⟨ao, ca, rfl, hca, hca2, _⟩ := ha.shape
  obtain ⟨bo, cb, rfl, hcb, hcb2, _⟩ := hb.shape
  have HA := Lib.hid ha
  have HF := Lib.hid hf; have HN := Lib.hid (And.intro hn0 hn1); clear hf hn0 hn1
  have HB := Lib.hid hb
  clear ha hb
  by_cases hbig : (decide (40 < a.length) || decide (40 < b.length)) = true
  · have HBIG := Lib.hid hbig; clear hbig
    go_enter Tryd.func4, Tryd.ntmps4
    go_wp2_with fail
    (with_reducible refine (awake_any _).mono ?_); rintro e w1 ⟨rfl, hb1⟩
    have hla := large2 (.slice ao a.length ca) (.slice bo b.length cb) a b w1 22 (HA.out.below hb1) (HB.out.below hb1)
    rw [HBIG.out] at hla
    have HLA := Lib.hid hla; clear hla
    go_wp2_with fail
    (with_reducible refine HLA.out.mono ?_); rintro e w2 ⟨rfl, rfl⟩
    go_wp2_with fail
    (with_reducible refine (awake_any _).mono ?_); rintro e w3 ⟨rfl, hb3⟩
    go_wp2_with fail
    go_ret
    exact ⟨rfl, (hb1.alloc hb1.size _).trans (hb3.mono (by have := hb1.size; simp; omega))⟩
  · have hbf := Bool.eq_false_iff.2 hbig
    have hl : a.length ≤ 40 ∧ b.length ≤ 40 := by simpa using hbf
    have HBIG := Lib.hid hbf; clear hbig hbf
    obtain ⟨hla, hlb⟩ := hl
    go_enter Tryd.func4, Tryd.ntmps4
    go_wp2_with fail
    (with_reducible refine (awake_any _).mono ?_); rintro e w1 ⟨rfl, hb1⟩
    have hla := large2 (.slice ao a.length ca) (.slice bo b.length cb) a b w1 22 (HA.out.below hb1) (HB.out.below hb1)
    rw [HBIG.out] at hla
    have HLA := Lib.hid hla; clear hla
    go_wp2_with fail
    (with_reducible refine HLA.out.mono ?_); rintro e w2 ⟨rfl, rfl⟩
    have HB2 := Lib.hid (hb1.alloc hb1.size (.cells #[.slice ao a.length ca, .slice bo b.length cb] 22))
    obtain ⟨w2, hw2⟩ : ∃ w2, w2 = w1.alloc (.cells #[.slice ao a.length ca, .slice bo b.length cb] 22) := ⟨_, rfl⟩
    rw [← hw2] at HB2 ⊢
    clear hw2 hb1
    have hwa := wd_length_le HA.out.lt
    have hwb := wd_length_le HB.out.lt
    have hs := int_no _ a w2 (HA.out.below HB2.out) (by omega) HF.out
    have HS := Lib.hid hs
    clear hs
    go_wp2_with fail
    (with_reducible refine HS.out.mono ?_); rintro e wx ⟨rfl, rfl⟩
    have hs := rint_no _ a w2 (HA.out.below HB2.out) (by omega) HF.out
    have HS := Lib.hid hs
    clear hs
    go_wp2_with fail
    (with_reducible refine HS.out.mono ?_); rintro e wx ⟨rfl, rfl⟩
    have LO : Hid ((wd (n.toNat)).length ≤ 2) := Lib.hid (by apply wd_length_of_lt; have := HN.out; omega)
    have hs := of_any n w2 HN.out.1 HN.out.2
    have HS := Lib.hid hs
    clear hs
    go_wp2_with fail
    (with_reducible refine HS.out.mono ?_); rintro e w3 ⟨v3, l3, rfl, hb3, hn3, hl3⟩
    rw [hl3] at hn3
    have HB3 := Lib.hid (HB2.out.trans (hb3.mono HB2.out.size))
    have O := Lib.hid hn3
    clear hn3 hl3 hb3
    have hs := rof_any n w3 HN.out.1 HN.out.2
    have HS := Lib.hid hs
    clear hs
    go_wp2_with fail
    (with_reducible refine HS.out.mono ?_); rintro e w4 ⟨v4, l4, rfl, hb4, hn4, hl4⟩
    rw [hl4] at hn4
    have HB4 := Lib.hid (HB3.out.trans (hb4.mono HB3.out.size))
    have O := Lib.hid (O.out.below hb4)
    have O2 := Lib.hid hn4
    clear hn4 hl4 hb4
    have hs := words_same _ _ _ w4 O.out O2.out (Nat.le_trans LO.out (by decide))
    have HS := Lib.hid hs
    clear hs
    go_wp2_with fail
    (with_reducible refine HS.out.mono ?_); rintro e w5 ⟨rfl, hb5⟩
    have HB5 := Lib.hid (HB4.out.trans (hb5.mono HB4.out.size))
    have O := Lib.hid (O.out.below hb5)
    have O2 := Lib.hid (O2.out.below hb5)
    clear hb5
    have hs := cmp_any _ _ _ _ w5 (HA.out.below HB5.out) (HB.out.below HB5.out) (by omega) (by omega)
    have HS := Lib.hid hs
    clear hs
    go_wp2_with fail
    (with_reducible refine HS.out.mono ?_); rintro e w6 ⟨rfl, hb6⟩
    have HB6 := Lib.hid (HB5.out.trans (hb6.mono HB5.out.size))
    have O := Lib.hid (O.out.below hb6)
    have O2 := Lib.hid (O2.out.below hb6)
    clear hb6
    have hs := rcmp_any _ _ _ _ w6 (HA.out.below HB6.out) (HB.out.below HB6.out) (by omega) (by omega)
    have HS := Lib.hid hs
    clear hs
    go_wp2_with fail
    (with_reducible refine HS.out.mono ?_); rintro e wx ⟨rfl, rfl⟩
    have hln : a.length + 1 ≤ 17592186044416 := by omega
    have HLN := Lib.hid hln; clear hln
    have hE := own_lit w6 38 w6.heap.size #[] [] 0 (Nat.le_refl _) U32.nil rfl (by simp) rfl
    have hA := (HA.out.below HB6.out).below ((Below.refl _ w6).alloc (Nat.le_refl _) (.cells #[] 38))
    have HE := Lib.hid hE; have HAE := Lib.hid hA; clear hE hA
    go_wp2_with (at_builtin; refine wpList_appendNG Tryd.wordsTy rfl (.tmp 46) (.tmp 47) rfl w6.heap.size _ _ [] a rfl rfl HE.out HAE.out (by have := HLN.out; simp; omega) (by simp) ?_)
    intro v5 y5 hv5 hb5 hs5
    have hB5 := hb5 w6 ((Below.refl _ w6).alloc (Nat.le_refl _) (.cells #[] 38))
    have hv5' := hv5.alloc (.cells #[.int .u32 0] 38)
    have hone := num_one y5 38 0 (by decide)
    have HV5 := Lib.hid hv5'; have HB5 := Lib.hid hB5; have HONE := Lib.hid hone
    clear hv5 hb5 hB5 hv5' hone
    go_wp2_with (at_builtin; refine wpList_appendNG Tryd.wordsTy rfl (.tmp 48) (.tmp 49) rfl w6.heap.size _ _ a [0] rfl rfl HV5.out HONE.out (by have := HLN.out; simp; omega) (by have := HB5.out.size; simp; omega) ?_)
    intro v6 y6 hv6 hb6 hs6
    have hB6 := hb6 w6 (HB5.out.alloc HB5.out.size _)
    have hn6 := hv6.num
    have HB20 := Lib.hid (HB6.out.step hB6); have SNN := Lib.hid hn6; have HB56 := Lib.hid hB6
    clear hv6 hb6 hB6 hn6

    have O := Lib.hid (O.out.below HB56.out)
    have O2 := Lib.hid (O2.out.below HB56.out)
    have hs := cmp_any _ _ _ (a ++ [0]) y6 (HA.out.below HB20.out) SNN.out (by omega) (by simp; omega)
    rw [cmpN_eq (val_zero_end a)] at hs
    have HS := Lib.hid hs
    clear hs
    go_wp2_with fail
    (with_reducible refine HS.out.mono ?_); rintro e w21 ⟨rfl, hb21⟩
    have HB21 := Lib.hid (HB20.out.trans (hb21.mono HB20.out.size))
    have O := Lib.hid (O.out.below hb21)
    have O2 := Lib.hid (O2.out.below hb21)
    have SNN := Lib.hid (SNN.out.below hb21)
    clear hb21
    have hs := bits_any _ a w21 (HA.out.below HB21.out) (by omega)
    have HS := Lib.hid hs
    clear hs
    go_wp2_with fail
    (with_reducible refine HS.out.mono ?_); rintro e wx ⟨rfl, rfl⟩
    have hs := rbits_any _ a w21 (HA.out.below HB21.out) (by omega)
    have HS := Lib.hid hs
    clear hs
    go_wp2_with fail
    (with_reducible refine HS.out.mono ?_); rintro e wx ⟨rfl, rfl⟩
    go_wp2_with fail
    go_ret
    exact ⟨by simp, HB21.out⟩
theorem order_walk (va vb : Value) (a b : List Nat) (n : Int) (w : World) (ha : Num w va a) (hb : Num w vb b) (hn0 : -9223372036854775808 ≤ n) (hn1 : n < 9223372036854775808) :
    Calls Tryd.prog 4 #[va, vb, .int .i64 n] w (RetV w (.bool true)) := by
  rcases Nat.lt_or_ge (val a) 9223372036854775808 with h | h
  · exact order_fits va vb a b n w ha hb hn0 hn1 h
  · exact order_big va vb a b n w ha hb hn0 hn1 h
end Go.Proofs.YtdepoikifneggaaDoor
