/-
  The walk of the law TokenJoins.
  Conditions: none.
-/
import Derived.Test.YtfmkpaegpiipoaaTokLaw3
import Derived.Test.YtfmkpaegpiipoaaTokMath5
namespace Go.Proofs.Ytfmkpaegpiipoaa
open Go.RowKit Go.ChangeShapes Go.WideShapes

set_option maxRecDepth 100000 in
set_option maxHeartbeats 4000000 in
theorem joins_walk (s : ByteArray) (w : World) : Calls Try.prog 6 #[.string s] w (RetV w (.bool true)) := by
  by_cases hbig : 3000 < s.size
  · go_enter Try.func6, Try.ntmps6
    go_wp2_with fail
    (with_reducible refine (awake_any _).mono ?_); rintro e w1 ⟨rfl, hb1⟩
    go_wp2_with fail
    (with_reducible refine (awake_any _).mono ?_); rintro e w2 ⟨rfl, hb2⟩
    go_wp2_with fail
    go_ret
    exact ⟨rfl, hb1.trans (hb2.mono hb1.size)⟩
  have hs1 : s.size ≤ 3000 := by omega
  clear hbig
  by_cases hc : (splitL (bs s)).2 = 0
  · obtain ⟨ts, hts⟩ : ∃ ts, splitL (bs s) = (ts, 0) := ⟨(splitL (bs s)).1, Prod.ext rfl hc⟩
    have hcount : ts.length ≤ 3000 := by have := splitL_count (bs s); rw [hts, bs_length] at this; simp only at this; omega
    obtain ⟨hj1, ts', hj2, hj3, hj4, hj5⟩ := joins_same (splitL_ok (by rw [bs_length]; omega) hts) hs1
    obtain ⟨j, hj⟩ : ∃ j, j = joinT (ts.map (mkTok s)) := ⟨_, rfl⟩
    rw [← hj] at hj1 hj2 hj4 hj5
    have hlm : (ts.map (mkTok s)).length ≤ 1000000 := by rw [List.length_map]; omega
    have hlm' : (ts'.map (mkTok j)).length ≤ 1000000 := by rw [List.length_map]; omega
    have hjs' : (joinT (ts'.map (mkTok j))).size ≤ 1000000 := by rw [hj5]; omega
    have hjs : (joinT (ts.map (mkTok s))).size ≤ 1000000 := by rw [← hj]; omega
    have HTS := Lib.hid hts; have HJ := Lib.hid hj; have H2 := Lib.hid hj2; have H3 := Lib.hid hj3; have H4 := Lib.hid hj4; have H5 := Lib.hid hj5; clear hts hc hj hj2 hj3 hj4 hj5
    go_enter Try.func6, Try.ntmps6
    go_wp2_with fail
    (with_reducible refine (awake_any _).mono ?_); rintro e w1 ⟨rfl, hb1⟩
    go_wp2_with fail
    (with_reducible refine (split_any s _).mono ?_); rintro e w2 ⟨v2, rfl, hb2, ho2⟩
    rw [HTS.out] at ho2 ⊢
    have hb12 := hb1.trans (hb2.mono hb1.size)
    have ht2 := ho2.toks
    clear ho2 hb1 hb2
    obtain ⟨bo, cb, rfl, hcb, hcb2, _⟩ := ht2.shape
    have hjb := join_any _ _ _ ht2 hjs hlm
    rw [List.length_map] at hcb ht2 hjb ⊢
    have HJB := Lib.hid hjb; clear hjb
    rw [errV_zero]
    go_wp2_with fail
    (with_reducible refine (HJB.out).mono ?_); rintro e w3 ⟨rfl, hb3⟩
    rw [← HJ.out]
    go_wp2_with fail
    (with_reducible refine (split_any j _).mono ?_); rintro e w4 ⟨v4, rfl, hb4, ho4⟩
    rw [H2.out] at ho4 ⊢
    rw [errV_zero]
    have hb24 := hb3.trans (hb4.mono hb3.size)
    have ht4 := ho4.toks
    clear ho4 hb3 hb4
    obtain ⟨co, cc, rfl, hcc, hcc2, _⟩ := ht4.shape
    have hjc := fun wx hx => join_any (.slice co (ts'.map (mkTok j)).length cc) (ts'.map (mkTok j)) wx hx hjs' hlm'
    rw [H5.out, List.length_map, H3.out] at hjc
    have HJC := Lib.hid hjc; clear hjc
    rw [List.length_map, H3.out] at hcc ht4 ⊢
    go_wp2_with (go_at_call 16; (with_reducible refine (HJC.out _ ht4).mono ?_); rintro e w5 ⟨rfl, hb5⟩)
    have hb25 := hb24.trans (hb5.mono hb24.size)
    have ht5 := ht4.below hb5
    go_loopw [51] (fun i wx => ∃ q : Nat, q ≤ ts.length ∧ i = .int .i64 q ∧ Below w5.heap.size w5 wx) (fun i _ => ts.length - (intOf i).toNat)
    case atStart => exact ⟨0, Nat.zero_le _, rfl, Below.refl _ _⟩
    case round =>
      obtain ⟨q, hq, rfl, hbx⟩ := hrel
      by_cases hql : q < ts.length
      · obtain ⟨x, hx⟩ : ∃ x, ts[q]? = some x := ⟨ts[q], List.getElem?_eq_getElem hql⟩
        obtain ⟨x', hx', hkind, htext, hline⟩ := H4.out q x hx
        have hxm : (ts.map (mkTok s))[q]? = some (mkTok s x) := by rw [List.getElem?_map, hx]; rfl
        obtain ⟨b7, o7, rfl, _, d0, d1, _, _, _⟩ := ((ht2.below hb25).below hbx).get hxm (by omega)
        obtain ⟨b8, o8, rfl, _, f0, f1, _, f3, _⟩ := (ht5.below hbx).get (k := q) (t := mkTok _ x') (by rw [List.getElem?_map, hx']; rfl) (by omega)
        rw [htext] at f1
        have f0' : wr.cell? ⟨b8, o8 + q * 5, none⟩ = some (.int .i64 (x.kind : Nat)) := by rw [f0]; simp only [mkTok, hkind]
        have f3' : wr.cell? ⟨b8, o8 + q * 5 + 3, none⟩ = some (.int .i64 1) := by rw [f3]; simp only [mkTok, hline]; rfl
        have d0' : wr.cell? ⟨b7, o7 + q * 5, none⟩ = some (.int .i64 (x.kind : Nat)) := d0
        obtain ⟨ty, hty⟩ : ∃ ty, ty = (mkTok s x).text := ⟨_, rfl⟩
        rw [← hty] at f1 d1
        clear hx hx' hkind htext hline hxm hty f0 d0 f3
        go_wp2_with fail
        go_quiet (fail)
        go_wp2_with fail
        go_roundw
        case rel => exact ⟨q + 1, by omega, by go_num, below_drewN hbx _⟩
        case measure => simp [intOf]; omega
      · go_wp2_with fail
        go_ret
        exact ⟨rfl, hb12.trans ((hb25.trans (hbx.mono hb25.size)).mono hb12.size)⟩
  · obtain ⟨c, hcc⟩ : ∃ c, c = (splitL (bs s)).2 := ⟨_, rfl⟩
    have hnil := splitL_err hc
    rw [← hcc] at hc
    have HC := Lib.hid hcc; have HN := Lib.hid hnil; clear hcc hnil
    have hev := errV_pos hc
    go_enter Try.func6, Try.ntmps6
    go_wp2_with fail
    (with_reducible refine (awake_any _).mono ?_); rintro e w1 ⟨rfl, hb1⟩
    go_wp2_with fail
    (with_reducible refine (split_any s _).mono ?_); rintro e w2 ⟨v2, rfl, hb2, ho2⟩
    rw [HN.out] at ho2
    rw [← HC.out, hev]
    obtain ⟨bo, cb, rfl⟩ := ho2.empty
    clear ho2 hev
    go_wp2_with fail
    go_ret
    exact ⟨rfl, hb1.trans (hb2.mono hb1.size)⟩
end Go.Proofs.Ytfmkpaegpiipoaa
