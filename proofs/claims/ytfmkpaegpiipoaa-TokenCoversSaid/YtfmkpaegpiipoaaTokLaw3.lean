/-
  The walk of the law TokenSpaces.
  Conditions: none.
-/
import Derived.Test.YtfmkpaegpiipoaaTokLaw2
import Derived.StillTailTactics
namespace Go.Proofs.Ytfmkpaegpiipoaa
open Go.RowKit Go.ChangeShapes Go.WideShapes

theorem splitL_err {l : List Nat} (h : (splitL l).2 ≠ 0) : (splitL l).1 = [] := by
  unfold splitL at h ⊢
  split at h
  · rename_i h1; rw [if_pos h1]
  · rename_i h1; rw [if_neg h1]; exact scan_clean _ _ _ h
theorem splitL_ok {l : List Nat} {ts : List Tk} (hl : l.length ≤ 65536) (h : splitL l = (ts, 0)) : scanAt l 0 = (ts, 0) := by
  unfold splitL at h; rwa [if_neg (by omega)] at h
theorem scan_count {l : List Nat} (n : Nat) : ∀ i, (scan l n i).1.length ≤ n := by
  induction n with
  | zero => intro i; simp [scan]
  | succ n ih =>
    intro i
    simp only [scan]
    split
    · split
      · simp
      · split
        · simp
        · have := ih (stepAt l i).fin
          split <;> simp <;> omega
    · simp
theorem splitL_count (l : List Nat) : (splitL l).1.length ≤ l.length := by
  unfold splitL
  split
  · simp
  · unfold scanAt; exact scan_count _ _
/-- the bytes of the comment -/
def noLF (m : List Nat) : List Nat := m.filter fun b => decide (b ≠ 10)
theorem noLF_ne (m : List Nat) : ∀ x ∈ noLF m, x ≠ 10 := by intro x hx; simpa using (List.mem_filter.1 hx).2
theorem noLF_length (m : List Nat) : (noLF m).length ≤ m.length := List.length_filter_le _ _
theorem noLF_succ {m : List Nat} {k : Nat} (h : k < m.length) : noLF (m.take (k + 1)) = noLF (m.take k) ++ if gd m k = 10 then [] else [gd m k] := by
  unfold noLF
  rw [List.take_succ_eq_append_getElem h, List.filter_append, gd_lt _ _ h]
  by_cases h10 : m[k] = 10 <;> simp [h10]
theorem u8_noLF {m : List Nat} (h : U8 m) : U8 (noLF m) := by
  intro j
  by_cases hj : j < (noLF m).length
  · rw [gd_lt _ _ hj]
    have := List.mem_filter.1 (List.getElem_mem hj)
    obtain ⟨i, hi, he⟩ := List.getElem_of_mem this.1
    rw [← he, ← gd_lt _ _ hi]; exact h i
  · rw [gd_over _ _ (by omega)]; decide
theorem u8_append {a b : List Nat} (h1 : U8 a) (h2 : U8 b) : U8 (a ++ b) := by
  intro j; rw [gd_append]; split
  · exact h1 j
  · exact h2 _
theorem u8_of (l : List Nat) (h : (l.all fun x => decide (x < 256)) = true) : U8 l := by
  intro j
  by_cases hj : j < l.length
  · rw [gd_lt _ _ hj]; simpa using List.all_eq_true.1 h _ (List.getElem_mem hj)
  · rw [gd_over _ _ (by omega)]; decide

/-- the gap as far as it is built -/
def gapTo (m : List Nat) (k : Nat) : List Nat := [32, 35] ++ noLF (m.take k)
theorem gapTo_zero (m : List Nat) : gapTo m 0 = [32, 35] := by simp [gapTo, noLF]
theorem gapTo_lf {m : List Nat} {k : Nat} (h : k < m.length) (h10 : gd m k = 10) : gapTo m (k + 1) = gapTo m k := by
  unfold gapTo; rw [noLF_succ h, if_pos h10, List.append_nil]
theorem gapTo_more {m : List Nat} {k : Nat} (h : k < m.length) (h10 : gd m k ≠ 10) : gapTo m (k + 1) = gapTo m k ++ [gd m k] := by
  unfold gapTo; rw [noLF_succ h, if_neg h10, List.append_assoc]
theorem gapTo_length (m : List Nat) (k : Nat) : (gapTo m k).length ≤ m.length + 2 := by
  unfold gapTo
  have := noLF_length (m.take k); rw [List.length_take] at this
  rw [List.length_append]; simp; omega
theorem gapTo_end (m : List Nat) : gapTo m m.length ++ [10, 9, 13, 32] = gapL (noLF m) := by
  unfold gapTo; rw [List.take_length]; rfl
theorem gap_bs {m : List Nat} (h : U8 m) : bs (strOf (gapTo m m.length ++ [10, 9, 13, 32])) = gapL (noLF m) := by
  rw [gapTo_end, bs_strOf]
  exact u8_append (a := [32, 35]) (u8_of _ rfl) (u8_append (u8_noLF h) (u8_of _ rfl))

set_option maxRecDepth 100000 in
set_option maxHeartbeats 4000000 in
theorem spaces_walk (s : ByteArray) (at_ : Int) (v : Value) (m : List Nat) (w : World) (h0 : 0 ≤ at_) (h255 : at_ ≤ 255) (hm : Byt w v m) :
    Calls Try.prog 4 #[.string s, .int .u8 at_, v] w (RetV w (.bool true)) := by
  obtain ⟨ao, ca, rfl, hca, hca2, _⟩ := hm.shape
  by_cases hbig : 3000 < s.size ∨ 100 < m.length
  · rcases (show 3000 < s.size ∨ (s.size ≤ 3000 ∧ 100 < m.length) by omega) with h1 | ⟨h1, h2⟩
    all_goals
      clear hbig
      go_enter Try.func4, Try.ntmps4
      go_wp2_with fail
      (with_reducible refine (awake_any _).mono ?_); rintro e w1 ⟨rfl, hb1⟩
      go_wp2_with fail
      (with_reducible refine (awake_any _).mono ?_); rintro e w2 ⟨rfl, hb2⟩
      go_wp2_with fail
      go_ret
      exact ⟨rfl, hb1.trans (hb2.mono hb1.size)⟩
  have hs1 : s.size ≤ 3000 := by omega
  have hm1 : m.length ≤ 100 := by omega
  clear hbig
  by_cases hc : (splitL (bs s)).2 = 0
  · obtain ⟨ts, hts⟩ : ∃ ts, splitL (bs s) = (ts, 0) := ⟨(splitL (bs s)).1, Prod.ext rfl hc⟩
    have hcount : ts.length ≤ 3000 := by have := splitL_count (bs s); rw [hts, bs_length] at this; simp only at this; omega
    have HTS := Lib.hid hts; clear hts hc
    go_enter Try.func4, Try.ntmps4
    go_wp2_with fail
    (with_reducible refine (awake_any _).mono ?_); rintro e w1 ⟨rfl, hb1⟩
    go_wp2_with fail
    (with_reducible refine (split_any s _).mono ?_); rintro e w2 ⟨v2, rfl, hb2, ho2⟩
    rw [HTS.out] at ho2 ⊢
    have hb12 := hb1.trans (hb2.mono hb1.size)
    have ht2 := ho2.toks
    clear ho2 hb1 hb2
    obtain ⟨bo, cb, rfl, hcb, hcb2, _⟩ := ht2.shape
    rw [List.length_map] at hcb ht2 ⊢
    rw [errV_zero]
    go_wp2_with fail
    go_loopw [9, 42] (fun g i wr => ∃ k : Nat, k ≤ m.length ∧ i = .int .i64 k ∧ g = .string (strOf (gapTo m k)) ∧ Below w2.heap.size w2 wr) (fun _ i _ => m.length - (intOf i).toNat)
    case atStart => exact ⟨0, Nat.zero_le _, rfl, by rw [gapTo_zero]; rfl, Below.refl _ _⟩
    case round =>
      obtain ⟨k, hk, rfl, rfl, hb⟩ := hrel
      by_cases hlt : k < m.length
      · obtain ⟨b1, o1, rfl, hbs1, hcell⟩ := ((hm.mono hb12 (Nat.le_refl _)).below hb).at (by omega)
        have hx := hcell k hlt
        have hlt256 := hm.lt k
        clear hcell
        by_cases h10 : gd m k = 10
        · have h10' : ((gd m k : Int) != 10) = false := by simp [h10]
          have H10 := Lib.hid h10; clear h10
          go_wp2_with fail
          go_roundw
          case rel => exact ⟨k + 1, by omega, by go_num, by rw [gapTo_lf hlt H10.out], hb⟩
          case measure => simp [intOf]; omega
        · have h10' : ((gd m k : Int) != 10) = true := by simp; omega
          have hsz : (strOf (gapTo m k)).size ≤ 200 := by rw [strOf_size]; have := gapTo_length m k; omega
          have hcv : ∀ wx : World, (convert 33 9 (.slice (some ⟨wx.heap.size, 0, none⟩) 1 1)).run Try.prog (wx.alloc (.cells #[.int .u8 (gd m k : Nat)] 5)) = .ok (.string (strOf [gd m k])) (wx.alloc (.cells #[.int .u8 (gd m k : Nat)] 5)) := fun wx =>
            run_bytes_to_string 33 5 9 Try.underlying33 Try.underlying5 Try.underlying9 rfl (fun i hi => by
              obtain rfl : i = 0 := by omega
              rw [cell_of_row _ wx.heap.size 0 _ 5 (0, 0) (heap_alloc_new wx _)]; rfl)
          have hsz1 : (strOf [gd m k]).size ≤ 1 := by rw [strOf_size]; exact Nat.le_refl _
          have H10 := Lib.hid h10; clear h10
          go_wp2_with fail
          go_roundw
          case rel => exact ⟨k + 1, by omega, by go_num, by rw [gapTo_more hlt H10.out, strOf_append], hb.alloc hb.size _⟩
          case measure => simp [intOf]; omega
      · obtain rfl : k = m.length := by omega
        have hgb := gap_bs hm.lt
        have hsz : (strOf (gapTo m m.length)).size ≤ 200 := by rw [strOf_size]; have := gapTo_length m m.length; omega
        have hcv : ∀ wx : World, (convert 33 9 (.slice (some ⟨wx.heap.size, 0, none⟩) 4 4)).run Try.prog (wx.alloc (.cells #[.int .u8 10, .int .u8 9, .int .u8 13, .int .u8 32] 5)) = .ok (.string (strOf [10, 9, 13, 32])) (wx.alloc (.cells #[.int .u8 10, .int .u8 9, .int .u8 13, .int .u8 32] 5)) := fun wx =>
            run_bytes_to_string 33 5 9 Try.underlying33 Try.underlying5 Try.underlying9 rfl (fun i hi => by
              rw [cell_of_row _ wx.heap.size (0 + i) _ 5 (0, 0) (heap_alloc_new wx _)]
              match i, hi with
              | 0, _ => rfl
              | 1, _ => rfl
              | 2, _ => rfl
              | 3, _ => rfl)
        have hsz1 : (strOf [10, 9, 13, 32]).size ≤ 4 := by rw [strOf_size]; exact Nat.le_refl _
        have HGB := Lib.hid hgb; clear hgb
        obtain ⟨a, rfl⟩ := Int.eq_ofNat_of_zero_le h0
        have ht3 := ht2.below hb
        have hcast : (a : Int) % ((ts.length : Int) + 1) = ((a % (ts.length + 1) : Nat) : Int) := by rw [Int.natCast_emod]; rfl
        have hnz : ¬ ((ts.length : Int) + 1 = 0) := by omega
        by_cases hk0 : a % (ts.length + 1) = 0
        · have hmod : (a : Int) % ((ts.length : Int) + 1) = 0 := by rw [hcast, hk0]; rfl
          have HK0 := Lib.hid hk0; clear hk0 hcast
          go_wp2_with fail
          generalize hW3 : wr.alloc _ = w3
          have hb3 : Below wr.heap.size wr w3 := by rw [← hW3]; exact (Below.refl _ _).alloc (Nat.le_refl _) _
          clear hW3
          obtain ⟨gs, hgs⟩ : ∃ gs, gs = strOf (gapTo m m.length) ++ strOf [10, 9, 13, 32] := ⟨_, rfl⟩
          rw [← hgs]
          have hgsz : gs.size ≤ 300 := by rw [hgs, ByteArray.size_append]; omega
          have HGS := Lib.hid hgs; clear hgs
          obtain ⟨ts', hts', hlen', hsame⟩ := spaces_same (g := gs) (p := 0) (k := a % (ts.length + 1)) (noLF_ne m) (by rw [HGS.out, strOf_append]; exact HGB.out) (splitL_ok (by rw [bs_length]; omega) HTS.out) (.inl ⟨HK0.out, rfl⟩) (by omega)
          have e0 : s.extract 0 0 ++ gs ++ s.extract 0 s.size = gs ++ s := by apply bs_inj; rw [bs_append, bs_append, bs_append, bs_extract, bs_extract]; simp; rw [← bs_length, List.take_length]
          rw [e0] at hts' hsame
          have hz0 : (0 : Int) ≤ (s.size : Int) := by omega
          have hz1 : ((s.extract 0 0).size : Int) + (gs.size : Int) ≤ 9223372036854775807 := by rw [ByteArray.size_extract]; omega
          have hz2 : ((s.extract 0 0).size : Int) + (gs.size : Int) + ((s.extract 0 s.size).size : Int) ≤ 9223372036854775807 := by rw [ByteArray.size_extract, ByteArray.size_extract]; omega
          have hz3 : (gs.size : Int) + (s.size : Int) ≤ 9223372036854775807 := by omega
          have HS' := Lib.hid hts'; have HSA := Lib.hid hsame; have HL' := Lib.hid hlen'; clear hts' hsame hlen'
          go_region_with (go_at_call 11; (with_reducible refine (split_any _ _).mono ?_); rintro e w4 ⟨v4, rfl, hb4, ho4⟩; rw [HS'.out] at ho4 ⊢; rw [errV_zero]; have ht4 := ho4.toks; clear ho4; obtain ⟨co, cc, rfl, hcc, hcc2, _⟩ := ht4.shape; rw [List.length_map, HL'.out] at ht4 ⊢)
          go_wp2_with fail
          have hbA : Below w2.heap.size w2 w4 := hb.trans ((hb3.trans (((Below.refl w3.heap.size w3).drew.trans hb4).mono hb3.size)).mono hb.size)
          go_loopw [112] (fun i wx => ∃ q : Nat, q ≤ ts.length ∧ i = .int .i64 q ∧ Below w4.heap.size w4 wx) (fun i _ => ts.length - (intOf i).toNat)
          case atStart => exact ⟨0, Nat.zero_le _, rfl, Below.refl _ _⟩
          case round =>
            obtain ⟨q, hq, rfl, hbx⟩ := hrel
            by_cases hql : q < ts.length
            · obtain ⟨x, hx⟩ : ∃ x, ts[q]? = some x := ⟨ts[q], List.getElem?_eq_getElem hql⟩
              obtain ⟨x', hx', hkind, htext⟩ := HSA.out q x hx
              have hxm : (ts.map (mkTok s))[q]? = some (mkTok s x) := by rw [List.getElem?_map, hx]; rfl
              obtain ⟨b7, o7, e7, _, d0, d1, _, _, _⟩ := ((ht2.below hbA).below hbx).get hxm (by omega)
              obtain ⟨b8, o8, rfl, _, f0, f1, _, _, _⟩ := (ht4.below hbx).get (k := q) (t := mkTok _ x') (by rw [List.getElem?_map, hx']; rfl) (by omega)
              subst e7
              rw [htext] at f1
              have f0' : wr.cell? ⟨b8, o8 + q * 5, none⟩ = some (.int .i64 (x.kind : Nat)) := by rw [f0]; simp only [mkTok, hkind]
              have d0' : wr.cell? ⟨b7, o7 + q * 5, none⟩ = some (.int .i64 (x.kind : Nat)) := d0
              obtain ⟨ty, hty⟩ : ∃ ty, ty = (mkTok s x).text := ⟨_, rfl⟩
              rw [← hty] at f1 d1
              clear hx hx' hkind htext hxm hty f0 d0
              go_wp2_with fail
              go_quiet (fail)
              go_wp2_with fail
              go_roundw
              case rel => exact ⟨q + 1, by omega, by go_num, below_drewN hbx _⟩
              case measure => simp [intOf]; omega
            · go_wp2_with fail
              go_ret
              exact ⟨rfl, hb12.trans ((hbA.trans (hbx.mono hbA.size)).mono hb12.size)⟩
        · obtain ⟨k', hk'⟩ : ∃ k', a % (ts.length + 1) = k' + 1 := ⟨a % (ts.length + 1) - 1, by omega⟩
          have hmod : (a : Int) % ((ts.length : Int) + 1) = (k' : Int) + 1 := by rw [hcast, hk']; rfl
          have hk'lt : k' < ts.length := by have := Nat.mod_lt a (show 0 < ts.length + 1 by omega); omega
          have HK0 := Lib.hid hk'; clear hk0 hk' hcast
          go_wp2_with fail
          generalize hW3 : wr.alloc _ = w3
          have hb3 : Below wr.heap.size wr w3 := by rw [← hW3]; exact (Below.refl _ _).alloc (Nat.le_refl _) _
          clear hW3
          obtain ⟨t, ht⟩ : ∃ t, ts[k']? = some t := ⟨ts[k'], List.getElem?_eq_getElem hk'lt⟩
          have htm : (ts.map (mkTok s))[k']? = some (mkTok s t) := by rw [List.getElem?_map, ht]; rfl
          obtain ⟨b1, o1, rfl, _, c0, c1, c2, c3, c4⟩ := (ht3.below hb3).get htm (by omega)
          obtain ⟨tx, htx⟩ : ∃ tx, tx = (mkTok s t).text := ⟨_, rfl⟩
          rw [← htx] at c1
          have hall := scan_tok _ 0 ts (Nat.le_refl _) (splitL_ok (by rw [bs_length]; omega) HTS.out) t (List.mem_of_getElem? ht)
          rw [bs_length] at hall
          have hpl : (t.at_ : Int) + (tx.size : Int) = (t.fin : Int) := by
            have q1 := hall.2.1; have q2 := hall.2.2.1
            rw [htx]; simp only [mkTok, ByteArray.size_extract]; omega
          have c2' : w3.cell? ⟨b1, o1 + k' * 5 + 2, none⟩ = some (.int .i64 (t.at_ : Nat)) := c2
          have hfin := hall.2.2.1
          have HALL := Lib.hid hall; have HTX := Lib.hid htx; have HT := Lib.hid ht; clear hall htx ht htm c0 c2 c3 c4
          have HKP := Lib.hid (show (a % (ts.length + 1) = 0 ∧ t.fin = 0) ∨ ∃ k' t', a % (ts.length + 1) = k' + 1 ∧ ts[k']? = some t' ∧ t.fin = t'.fin from .inr ⟨k', t, HK0.out, HT.out, rfl⟩)
          go_quiet (fail)
          generalize hW4 : w3.drewN nq = w3'
          have hb3' : Below wr.heap.size wr w3' := by rw [← hW4]; exact below_drewN hb3 _
          clear hW4 hb3 c1 c2'
          go_wp2_with fail
          obtain ⟨gs, hgs⟩ : ∃ gs, gs = strOf (gapTo m m.length) ++ strOf [10, 9, 13, 32] := ⟨_, rfl⟩
          rw [← hgs]
          have hgsz : gs.size ≤ 300 := by rw [hgs, ByteArray.size_append]; omega
          have HGS := Lib.hid hgs; clear hgs
          obtain ⟨ts', hts', hlen', hsame⟩ := spaces_same (g := gs) (p := t.fin) (k := a % (ts.length + 1)) (noLF_ne m) (by rw [HGS.out, strOf_append]; exact HGB.out) (splitL_ok (by rw [bs_length]; omega) HTS.out) HKP.out (by omega)
          have hz0 : (0 : Int) ≤ (s.size : Int) := by omega
          have hz1 : ((s.extract 0 t.fin).size : Int) + (gs.size : Int) ≤ 9223372036854775807 := by rw [ByteArray.size_extract]; omega
          have hz2 : ((s.extract 0 t.fin).size : Int) + (gs.size : Int) + ((s.extract t.fin s.size).size : Int) ≤ 9223372036854775807 := by rw [ByteArray.size_extract, ByteArray.size_extract]; omega
          have HS' := Lib.hid hts'; have HSA := Lib.hid hsame; have HL' := Lib.hid hlen'; clear hts' hsame hlen'
          go_region_with (go_at_call 11; (with_reducible refine (split_any _ _).mono ?_); rintro e w4 ⟨v4, rfl, hb4, ho4⟩; rw [HS'.out] at ho4 ⊢; rw [errV_zero]; have ht4 := ho4.toks; clear ho4; obtain ⟨co, cc, rfl, hcc, hcc2, _⟩ := ht4.shape; rw [List.length_map, HL'.out] at ht4 ⊢)
          go_wp2_with fail
          have hbA : Below w2.heap.size w2 w4 := hb.trans ((hb3'.trans (((Below.refl w3'.heap.size w3').drew.trans hb4).mono hb3'.size)).mono hb.size)
          go_loopw [112] (fun i wx => ∃ q : Nat, q ≤ ts.length ∧ i = .int .i64 q ∧ Below w4.heap.size w4 wx) (fun i _ => ts.length - (intOf i).toNat)
          case atStart => exact ⟨0, Nat.zero_le _, rfl, Below.refl _ _⟩
          case round =>
            obtain ⟨q, hq, rfl, hbx⟩ := hrel
            by_cases hql : q < ts.length
            · obtain ⟨x, hx⟩ : ∃ x, ts[q]? = some x := ⟨ts[q], List.getElem?_eq_getElem hql⟩
              obtain ⟨x', hx', hkind, htext⟩ := HSA.out q x hx
              have hxm : (ts.map (mkTok s))[q]? = some (mkTok s x) := by rw [List.getElem?_map, hx]; rfl
              obtain ⟨b7, o7, e7, _, d0, d1, _, _, _⟩ := ((ht2.below hbA).below hbx).get hxm (by omega)
              obtain ⟨b8, o8, rfl, _, f0, f1, _, _, _⟩ := (ht4.below hbx).get (k := q) (t := mkTok _ x') (by rw [List.getElem?_map, hx']; rfl) (by omega)
              obtain ⟨rfl, rfl⟩ : b7 = b1 ∧ o7 = o1 := by simpa [eq_comm] using e7
              rw [htext] at f1
              have f0' : wr.cell? ⟨b8, o8 + q * 5, none⟩ = some (.int .i64 (x.kind : Nat)) := by rw [f0]; simp only [mkTok, hkind]
              have d0' : wr.cell? ⟨b7, o7 + q * 5, none⟩ = some (.int .i64 (x.kind : Nat)) := d0
              obtain ⟨ty, hty⟩ : ∃ ty, ty = (mkTok s x).text := ⟨_, rfl⟩
              rw [← hty] at f1 d1
              clear hx hx' hkind htext hxm hty f0 d0
              go_wp2_with fail
              go_quiet (fail)
              go_wp2_with fail
              go_roundw
              case rel => exact ⟨q + 1, by omega, by go_num, below_drewN hbx _⟩
              case measure => simp [intOf]; omega
            · go_wp2_with fail
              go_ret
              exact ⟨rfl, hb12.trans ((hbA.trans (hbx.mono hbA.size)).mono hb12.size)⟩
  · obtain ⟨c, hcc⟩ : ∃ c, c = (splitL (bs s)).2 := ⟨_, rfl⟩
    have hnil := splitL_err hc
    rw [← hcc] at hc
    have HC := Lib.hid hcc; have HN := Lib.hid hnil; clear hcc hnil
    have hev := errV_pos hc
    go_enter Try.func4, Try.ntmps4
    go_wp2_with fail
    (with_reducible refine (awake_any _).mono ?_); rintro e w1 ⟨rfl, hb1⟩
    go_wp2_with fail
    (with_reducible refine (split_any s _).mono ?_); rintro e w2 ⟨v2, rfl, hb2, ho2⟩
    rw [HN.out] at ho2
    rw [← HC.out, hev]
    obtain ⟨bo, cb, rfl⟩ := ho2.empty
    clear ho2 hev
    go_wp2_with fail
    go_ret
    exact ⟨rfl, hb1.trans (hb2.mono hb1.size)⟩
end Go.Proofs.Ytfmkpaegpiipoaa
