/-
  The walk of the law TokenCovers.
  Conditions: none.
-/
import Derived.Test.YtfmkpaegpiipoaaTokLaw3
import Derived.Test.YtfmkpaegpiipoaaTokPlace
import Derived.Test.YtfmkpaegpiipoaaTokMath6
namespace Go.Proofs.Ytfmkpaegpiipoaa
open Go.RowKit Go.ChangeShapes Go.WideShapes

/-- the sentinel behind the last token -/
def sentinel (n : Nat) : TokV := ⟨-1, ⟨#[]⟩, n, 0, 0⟩
/-- what one round of TokenCovers reads -/
structure CoverAt (s : ByteArray) (ts : List Tk) (q en : Nat) (t : TokV) (a b : Nat) : Prop where
  at_ : t.at_ = (a : Int)
  len : (a : Int) + (t.text.size : Int) = (b : Int)
  le : en ≤ a
  ab : a ≤ b
  fin : b ≤ s.size
  cut : s.extract a b = t.text
  ok : ∀ j, en ≤ j → j < a → okAt (bs s) en j
  more : (q = ts.length ∧ t.kind = -1) ∨ (q < ts.length ∧ 0 ≤ t.kind ∧ t.kind ≤ 2 ∧ cfl (bs s) en a = false ∧ a < b ∧ t.line = lineOf (bs s) a ∧ t.col = colOf (bs s) a ∧ scanAt (bs s) b = (ts.drop (q + 1), 0))
theorem step_kind {l : List Nat} {i k e : Nat} (h : stepAt l i = ⟨0, k, e⟩) : k ≤ 3 := by
  unfold stepAt at h
  repeat' split at h
  all_goals first | (cases h; done) | (cases h; decide)
theorem cover_at {s : ByteArray} {ts : List Tk} {q en : Nat} (hq : q ≤ ts.length) (he : en ≤ s.size) (h : scanAt (bs s) en = (ts.drop q, 0)) :
    ∃ t a b, (ts.map (mkTok s) ++ [sentinel s.size])[q]? = some t ∧ CoverAt s ts q en t a b := by
  have hg := gap_next (l := bs s) (by rw [bs_length]; exact he) h
  rw [bs_length] at hg
  obtain ⟨h1, h2, h3, h4⟩ := hg
  by_cases hlt : q < ts.length
  · obtain ⟨x, hx⟩ : ∃ x, ts[q]? = some x := ⟨ts[q], List.getElem?_eq_getElem hlt⟩
    have hd : ts.drop q = x :: ts.drop (q + 1) := by
      rw [List.drop_eq_getElem_cons hlt]; congr 1
      rw [List.getElem?_eq_getElem hlt] at hx; simpa using hx
    obtain ⟨k1, k2, k3, k4⟩ := h4 x _ hd
    have hmem := scan_tok _ en _ (Nat.le_refl _) h x (by rw [hd]; exact List.mem_cons_self ..)
    have hkind := step_kind hmem.2.2.2.2
    rw [hd] at h1 h2 h3
    simp only [nextAt] at h1 h2 h3
    refine ⟨mkTok s x, x.at_, x.fin, ?_, ⟨rfl, ?_, h1, by omega, k3, rfl, h3, .inr ⟨hlt, ?_, ?_, k1, k2, rfl, rfl, k4⟩⟩⟩
    · rw [List.getElem?_append_left (by rw [List.length_map]; exact hlt), List.getElem?_map, hx]; rfl
    · simp only [mkTok, ByteArray.size_extract]; omega
    · simp only [mkTok]; omega
    · simp only [mkTok]; have := hmem.2.2.2.1; omega
  · obtain rfl : q = ts.length := by omega
    rw [List.drop_length] at h1 h2 h3
    simp only [nextAt, bs_length] at h1 h2 h3
    refine ⟨sentinel s.size, s.size, s.size, ?_, ⟨rfl, ?_, h1, Nat.le_refl _, Nat.le_refl _, ?_, h3, .inl ⟨rfl, rfl⟩⟩⟩
    · rw [List.getElem?_append_right (by rw [List.length_map]; omega), List.length_map, Nat.sub_self]; rfl
    · show (s.size : Int) + (((⟨#[]⟩ : ByteArray).size : Nat) : Int) = s.size; rw [show ((⟨#[]⟩ : ByteArray).size) = 0 from rfl]; simp
    · apply bs_inj; rw [bs_extract]; simp [sentinel, bs]

set_option maxRecDepth 100000 in
set_option maxHeartbeats 4000000 in
theorem covers_walk (s : ByteArray) (w : World) : Calls Try.prog 7 #[.string s] w (RetV w (.bool true)) := by
  by_cases hbig : 5000 < s.size
  · go_enter Try.func7, Try.ntmps7
    go_wp2_with fail
    (with_reducible refine (awake_any _).mono ?_); rintro e w1 ⟨rfl, hb1⟩
    go_wp2_with fail
    (with_reducible refine (awake_any _).mono ?_); rintro e w2 ⟨rfl, hb2⟩
    go_wp2_with fail
    go_ret
    exact ⟨rfl, hb1.trans (hb2.mono hb1.size)⟩
  have hs1 : s.size ≤ 5000 := by omega
  clear hbig
  by_cases hc : (splitL (bs s)).2 = 0
  · obtain ⟨ts, hts⟩ : ∃ ts, splitL (bs s) = (ts, 0) := ⟨(splitL (bs s)).1, Prod.ext rfl hc⟩
    have hcount : ts.length ≤ 5000 := by have := splitL_count (bs s); rw [hts, bs_length] at this; simp only at this; omega
    have HSC := Lib.hid (splitL_ok (by rw [bs_length]; omega) hts)
    have HTS := Lib.hid hts; clear hts hc
    obtain ⟨all, hall⟩ : ∃ all, all = ts.map (mkTok s) ++ [sentinel s.size] := ⟨_, rfl⟩
    have hlen : all.length = ts.length + 1 := by rw [hall, List.length_append, List.length_map]; rfl
    have HA := Lib.hid hall; have HL := Lib.hid hlen; clear hall hlen
    have hlm : (ts.map (mkTok s)).length ≤ 1099511627776 := by rw [List.length_map]; omega
    go_enter Try.func7, Try.ntmps7
    go_wp2_with fail
    (with_reducible refine (awake_any _).mono ?_); rintro e w1 ⟨rfl, hb1⟩
    go_wp2_with fail
    (with_reducible refine (split_any s _).mono ?_); rintro e w2 ⟨v2, rfl, hb2, ho2⟩
    rw [HTS.out] at ho2 ⊢
    rw [errV_zero]
    have hbs := hb2.size
    have HO := Lib.hid ho2; clear ho2
    go_wp2_with (at_builtin; refine wpList_appendT rfl (.tmp 30) (.tmp 34) rfl w1.heap.size _ _ (sentinel s.size) _ _ _ _ _ rfl rfl rfl HO.out hlm hbs ?_)
    intro v' w3 ho3 hb3 hz
    have hb13 := hb3 w1 hb2
    have hb3' : Below w.heap.size w w3 := hb1.trans (hb13.mono hb1.size)
    rw [← HA.out] at ho3
    have ht3 := ho3.toks
    clear ho3 hb3 hb1 hb2 hb13
    obtain ⟨ao, ca, rfl, hca, hca2, _⟩ := ht3.shape
    rw [HL.out] at hca ht3 ⊢
    go_wp2_with fail
    go_loopw [5, 37] (fun ev i wx => ∃ q en : Nat, q ≤ ts.length ∧ i = .int .i64 q ∧ ev = .int .i64 en ∧ en ≤ s.size ∧ Hid (scanAt (bs s) en = (ts.drop q, 0)) ∧ Below w3.heap.size w3 wx) (fun _ i _ => ts.length + 1 - (intOf i).toNat)
    case atStart => exact ⟨0, 0, Nat.zero_le _, rfl, rfl, Nat.zero_le _, HSC, Below.refl _ _⟩
    case round =>
      obtain ⟨q, en, hq, rfl, rfl, hen, hsc, hbx⟩ := hrel
      obtain ⟨wo, rfl⟩ : ∃ wo : World, wo = wr := ⟨_, rfl⟩
      obtain ⟨t, a, b, hget, C⟩ := cover_at hq hen hsc.out
      rw [← HA.out] at hget
      obtain ⟨b1, o1, rfl, _, c0, c1, c2, c3, c4⟩ := (ht3.below hbx).get hget (by omega)
      rw [C.at_] at c2
      have hlen := C.len; have hle := C.le; have hab := C.ab; have hfin := C.fin
      obtain ⟨K, hK⟩ : ∃ K, K = t.kind := ⟨_, rfl⟩
      obtain ⟨tx, htx⟩ : ∃ tx, tx = t.text := ⟨_, rfl⟩
      obtain ⟨ln, hln⟩ : ∃ ln, ln = t.line := ⟨_, rfl⟩
      obtain ⟨cl, hcl⟩ : ∃ cl, cl = t.col := ⟨_, rfl⟩
      rw [← hK] at c0
      rw [← htx] at c1 hlen
      rw [← hln] at c3
      rw [← hcl] at c4
      have hcut : ∀ wx : World, (Instr.slice 9 (.string s) (some (.int .i64 (a : Int))) (some (.int .i64 (b : Int))) none).run Try.prog wx = .ok (.string tx) wx := fun wx => by
        rw [run_slice_string_if (P := Try.prog) wx 9 s .i64 .i64 a b Try.underlying9, if_pos (by omega)]
        rw [htx, ← C.cut]; simp; try omega
      have HK := Lib.hid hK; have HTX := Lib.hid htx; have HLN := Lib.hid hln; have HCL := Lib.hid hcl; have HC := Lib.hid C; have HG := Lib.hid hget
      clear hK htx hln hcl C hget
      go_wp2_with fail
      have kk : ∀ j (x : Value), (#[Value.int IntKind.i64 K, .string tx, .int .i64 (a : Int), .int .i64 ln, .int .i64 cl] : Array Value)[j]? = some x → (wo.alloc (.cells #[Value.int IntKind.i64 K, .string tx, .int .i64 (a : Int), .int .i64 ln, .int .i64 cl] 35)).cell? ⟨wo.heap.size, j, none⟩ = some x := fun j x hx => by
        rw [cell_of_row _ wo.heap.size j _ 35 (0, 0) (heap_alloc_new wo _)]; exact hx
      have k0 := kk 0 _ rfl; have k1 := kk 1 _ rfl; have k2 := kk 2 _ rfl; have k3 := kk 3 _ rfl; have k4 := kk 4 _ rfl
      clear kk
      have hb4 : Below w3.heap.size w3 (wo.alloc (.cells #[Value.int IntKind.i64 K, .string tx, .int .i64 (a : Int), .int .i64 ln, .int .i64 cl] 35)) := hbx.alloc hbx.size _
      have hsz4 : wo.heap.size < (wo.alloc (.cells #[Value.int IntKind.i64 K, .string tx, .int .i64 (a : Int), .int .i64 ln, .int .i64 cl] 35)).heap.size := by simp
      generalize hW4 : wo.alloc _ = w4 at k0 k1 k2 k3 k4 hb4 hsz4 ⊢
      clear hW4 c0 c1 c2 c3 c4
      have hd1 : decide (a < en) = false := by simp; omega
      have hd2 : decide (s.size < b) = false := by simp; omega
      go_quiet (fail)
      have hb5 := below_drewN hb4 nq
      replace k0 : (w4.drewN nq).cell? ⟨wo.heap.size, 0, none⟩ = _ := k0
      replace k1 : (w4.drewN nq).cell? ⟨wo.heap.size, 1, none⟩ = _ := k1
      replace k2 : (w4.drewN nq).cell? ⟨wo.heap.size, 2, none⟩ = _ := k2
      replace k3 : (w4.drewN nq).cell? ⟨wo.heap.size, 3, none⟩ = _ := k3
      replace k4 : (w4.drewN nq).cell? ⟨wo.heap.size, 4, none⟩ = _ := k4
      have hlt5 : wo.heap.size < (w4.drewN nq).heap.size := hsz4
      generalize hW5 : w4.drewN nq = w5 at k0 k1 k2 k3 k4 hb5 hlt5 ⊢
      clear hW5 hb4 hd1 hd2 hsz4
      go_wp2_with fail
      go_loopw [8, 9] (fun cv i wx => ∃ j : Nat, en ≤ j ∧ j ≤ a ∧ i = .int .i64 j ∧ cv = .bool (cfl (bs s) en j) ∧ wx = w5) (fun _ i _ => a - (intOf i).toNat)
      case atStart => exact ⟨en, Nat.le_refl _, hle, rfl, by rw [cfl_start], rfl⟩
      case round =>
        obtain ⟨j, hj1, hj2, rfl, rfl, rfl⟩ := hrel
        by_cases hja : j < a
        · have hix := run_index_gb (P := Try.prog) s 9 Try.underlying9 j (by omega)
          have hok := HC.out.ok j hj1 hja
          have hnext := cfl_succ (bs s) hj1
          unfold okAt at hok
          rw [hnext] at hok
          have hb256 := bs_lt s j
          obtain ⟨by_, hby⟩ : ∃ by_, by_ = gd (bs s) j := ⟨_, rfl⟩
          obtain ⟨cv, hcv⟩ : ∃ cv, cv = cfl (bs s) en j := ⟨_, rfl⟩
          rw [← hby] at hix hok hnext hb256
          rw [← hcv] at hok hnext ⊢
          have HBY := Lib.hid hby; have HCV := Lib.hid hcv; have HNX := Lib.hid hnext; clear hby hcv hnext
          obtain ⟨nx, hnx⟩ : ∃ nx, nx = cm by_ cv := ⟨_, rfl⟩
          have hcases : (by_ = 35 ∧ nx = true) ∨ (by_ = 10 ∧ nx = false) ∨ (by_ ≠ 35 ∧ by_ ≠ 10 ∧ cv = true ∧ nx = true) ∨ (by_ = 32 ∧ cv = false ∧ nx = false) ∨ (by_ = 9 ∧ cv = false ∧ nx = false) ∨ (by_ = 13 ∧ cv = false ∧ nx = false) := by
            rw [← hnx] at hok
            unfold cm at hnx
            by_cases h10 : by_ = 10
            · rw [if_pos h10] at hnx; exact .inr (.inl ⟨h10, hnx⟩)
            rw [if_neg h10] at hnx
            by_cases h35 : by_ = 35
            · rw [if_pos h35] at hnx; exact .inl ⟨h35, hnx⟩
            rw [if_neg h35] at hnx
            cases cv with
            | true => exact .inr (.inr (.inl ⟨h35, h10, rfl, hnx⟩))
            | false =>
              rw [hnx] at hok
              have : isBlank by_ = true := by rcases hok with h | h
                                              · cases h
                                              · exact h
              unfold isBlank at this
              simp only [decide_eq_true_eq] at this
              rcases this with h | h | h | h
              · exact .inr (.inr (.inr (.inl ⟨h, rfl, hnx⟩)))
              · exact .inr (.inr (.inr (.inr (.inl ⟨h, rfl, hnx⟩))))
              · exact absurd h h10
              · exact .inr (.inr (.inr (.inr (.inr ⟨h, rfl, hnx⟩))))
          rw [← hnx] at hok
          have HNN : Hid (cfl (bs s) en (j + 1) = nx) := Lib.hid (by rw [HNX.out, hnx])
          clear hok hnx HNX
          rcases hcases with ⟨rfl, rfl⟩ | ⟨rfl, rfl⟩ | ⟨h35, h10, rfl, rfl⟩ | ⟨rfl, rfl, rfl⟩ | ⟨rfl, rfl, rfl⟩ | ⟨rfl, rfl, rfl⟩
          case inr.inr.inl =>
            have t35 : ((by_ : Int) == 35) = false := by simp; omega
            have t10 : ((by_ : Int) == 10) = false := by simp; omega
            clear h35 h10
            go_wp2_with fail
            go_roundw
            case rel => exact ⟨j + 1, by omega, by omega, by go_num, by rw [HNN.out], by first | trivial | rfl⟩
            case measure => simp [intOf]; omega
          all_goals
            go_wp2_with fail
            go_roundw
            case rel => exact ⟨j + 1, by omega, by omega, by go_num, by rw [HNN.out], by first | trivial | rfl⟩
            case measure => simp [intOf]; omega
        · obtain rfl : j = a := by omega
          clear hj1 hj2
          rcases HC.out.more with ⟨hqe, hKe⟩ | ⟨hql, hK0, hK2, hcf, hablt, hlne, hcle, hnxt⟩
          · rw [← HK.out] at hKe
            subst hKe
            have HQ := Lib.hid hqe; clear hqe
            obtain ⟨cv, hcv⟩ : ∃ cv, cv = cfl (bs s) en j := ⟨_, rfl⟩
            rw [← hcv]
            clear hcv
            have hbz := hb3'.trans (hb5.mono hb3'.size)
            cases cv
            all_goals
              go_wp2_with fail
              go_ret
              exact ⟨rfl, hbz⟩
          · rw [hcf]
            rw [← HK.out] at hK0 hK2
            rw [← HLN.out] at hlne
            rw [← HCL.out] at hcle
            subst hlne; subst hcle
            have htx0 : tx.toList.isEmpty = false := by
              rw [ByteArray.toList_eq]
              have h9 : tx.data.toList.length = tx.size := rfl
              cases h8 : tx.data.toList with
              | nil => rw [h8] at h9; simp only [List.length_nil] at h9; omega
              | cons _ _ => rfl
            have hcla : clampN (j : Int) s.size = j := by unfold clampN; omega
            have hpl := fun wx => place_any s j wx (by omega)
            rw [hcla] at hpl
            have HPL := Lib.hid hpl; have HNXT := Lib.hid hnxt; have HCF := Lib.hid hcf; clear hpl hnxt hcf hcla
            go_wp2_with fail
            (with_reducible refine (HPL.out _).mono ?_); rintro e w6 ⟨rfl, hb6⟩
            replace k0 := (hb6.cell (p := ⟨wo.heap.size, 0, none⟩) hlt5).trans k0
            replace k1 := (hb6.cell (p := ⟨wo.heap.size, 1, none⟩) hlt5).trans k1
            replace k2 := (hb6.cell (p := ⟨wo.heap.size, 2, none⟩) hlt5).trans k2
            replace k3 := (hb6.cell (p := ⟨wo.heap.size, 3, none⟩) hlt5).trans k3
            replace k4 := (hb6.cell (p := ⟨wo.heap.size, 4, none⟩) hlt5).trans k4
            have hbz := hb5.trans (hb6.mono hb5.size)
            go_wp2_with fail
            go_roundw
            case rel => exact ⟨q + 1, b, by omega, by go_num, rfl, hfin, HNXT, hbz⟩
            case measure => clear htx0; simp [intOf]; omega
  · obtain ⟨c, hcc⟩ : ∃ c, c = (splitL (bs s)).2 := ⟨_, rfl⟩
    have hnil := splitL_err hc
    rw [← hcc] at hc
    have HC := Lib.hid hcc; have HN := Lib.hid hnil; clear hcc hnil
    have hev := errV_pos hc
    go_enter Try.func7, Try.ntmps7
    go_wp2_with fail
    (with_reducible refine (awake_any _).mono ?_); rintro e w1 ⟨rfl, hb1⟩
    go_wp2_with fail
    (with_reducible refine (split_any s _).mono ?_); rintro e w2 ⟨v2, rfl, hb2, ho2⟩
    rw [HN.out] at ho2
    rw [← HC.out, hev]
    obtain ⟨bo, cb, rfl⟩ := ho2.empty
    clear ho2 hev
    go_wp2_with fail
    go_ret
    exact ⟨rfl, hb1.trans (hb2.mono hb1.size)⟩
end Go.Proofs.Ytfmkpaegpiipoaa
