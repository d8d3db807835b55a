/-
  The walk of the law TokenNames.
  Conditions: none.
-/
import Derived.Test.YtaefimegiobkmaaMN5
namespace Go.Proofs.Ytaefimegiobkmaa
open Go.RowKit Go.ChangeShapes Go.WideShapes

theorem tvQ_rl (s : ByteArray) : rl (tvQ (bs s)) ≤ 5000 := by
  have hlen := bs_length s
  have z : rl (0 : Rat) ≤ 5000 := by rw [rl_zero]; decide
  by_cases h : 100 < (bs s).length
  · rw [(tvC_long h).2]; exact z
  by_cases hn : isNum (bs s)
  · have hA := rl_nA s (by omega)
    have hB := rl_nB s (by omega)
    by_cases h1 : nE (bs s) < (bs s).length ∧ gd (bs s) (nE (bs s)) = 47
    · rw [(tvC_slash h hn h1.1 h1.2).2]; have := rl_div' (numQ (nA (bs s))) (numQ (nB (bs s))); omega
    · rw [(tvC_plain h hn h1).2]
      have h2 := rl_tenDn (numQ (nB (bs s))) (nB (bs s)).length
      have h3 := rl_add (numQ (nA (bs s))) (tenDn (numQ (nB (bs s))) (nB (bs s)).length)
      have h4 : (nB (bs s)).length ≤ 100 := by unfold nB; rw [List.length_drop]; omega
      unfold tenDn at h2 h3; omega
  · rw [(tvC_bad h hn).2]; exact z
theorem tvC_lt (l : List Nat) : tvC l < 1000 := by
  unfold tvC
  split
  · decide
  split
  · decide
  split
  · unfold dc; split <;> decide
  · decide

set_option maxRecDepth 100000 in
set_option maxHeartbeats 4000000 in
theorem names_walk (s : ByteArray) (at_ : Int) (w : World) : Calls Try.prog 4 #[.string s, .int .i64 at_] w (RetV w (.bool true)) := by
  by_cases hbig : 2000 < s.size
  · go_enter Try.func4, Try.ntmps4
    go_wp2_with fail
    (with_reducible refine (tawake_any _).mono ?_); rintro e w1 ⟨rfl, hb1⟩
    go_wp2_with fail
    (with_reducible refine (tawake_any _).mono ?_); rintro e w2 ⟨rfl, hb2⟩
    go_wp2_with fail
    go_ret
    exact ⟨rfl, hb1.trans (hb2.mono hb1.size)⟩
  have hs1 : s.size ≤ 2000 := by omega
  have HN := Lib.hid (fun wx => name_any s wx (by omega))
  have HRN := Lib.hid (fun wx => rname_any s wx (by omega))
  have HV := Lib.hid (fun wx => value_any s wx (by omega))
  have HRV := Lib.hid (fun wx => rvalue_any s wx (by omega))
  have HP := Lib.hid (fun wx => place_any s at_ wx (by omega))
  have HRP := Lib.hid (fun wx => rplace_any s at_ wx (by omega))
  have hrl := tvQ_rl s
  have hc := tvC_lt (bs s)
  obtain ⟨nm, hnm⟩ : ∃ nm, nm = isName (bs s) := ⟨_, rfl⟩
  rw [← hnm] at HN HRN; clear hnm
  obtain ⟨c, hcc⟩ : ∃ c, c = tvC (bs s) := ⟨_, rfl⟩
  obtain ⟨q, hq⟩ : ∃ q, q = tvQ (bs s) := ⟨_, rfl⟩
  rw [← hcc] at HV HRV hc; rw [← hq] at HV HRV hrl; clear hcc hq
  obtain ⟨L, hL⟩ : ∃ L, L = lineOf (bs s) (clampN at_ s.size) := ⟨_, rfl⟩
  obtain ⟨K, hK⟩ : ∃ K, K = colOf (bs s) (clampN at_ s.size) := ⟨_, rfl⟩
  rw [← hL, ← hK] at HP HRP; clear hL hK
  have HNM := Lib.hid (fun wx => num_any c wx hc)
  have HRL := Lib.hid (show rl q ≤ 100000 by omega); clear hrl hc
  go_enter Try.func4, Try.ntmps4
  go_wp2_with fail
  (with_reducible refine (tawake_any _).mono ?_); rintro e w1 ⟨rfl, hb1⟩
  have HB1 := Lib.hid hb1; clear hb1
  go_wp2_with fail
  (with_reducible refine (HV.out _).mono ?_); rintro e w2 ⟨v, rfl, hb2, hv⟩
  have HB2 := Lib.hid (HB1.out.trans (hb2.mono HB1.out.size)); clear hb2
  obtain ⟨sg, ao, n, ca, bo, m, da, rfl⟩ := hv.shape
  have HV2 := Lib.hid hv; clear hv
  go_wp2_with fail
  have hb3 : Below w2.heap.size w2 (w2.alloc (.cells #[.bool sg, .slice ao n ca, .slice bo m da] 32)) := (Below.refl _ _).alloc (Nat.le_refl _) _
  have hx3 := heap_alloc_new w2 (.cells #[.bool sg, .slice ao n ca, .slice bo m da] 32)
  obtain ⟨g3, hg3⟩ : ∃ g, g = w2.heap.size := ⟨_, rfl⟩
  generalize hW3 : w2.alloc _ = w3 at hb3 hx3 ⊢
  rw [← hg3] at hx3 ⊢
  have HV3 := Lib.hid (HV2.out.below hb3)
  have HB3 := Lib.hid (HB2.out.trans (hb3.mono HB2.out.size))
  have BX3 := Lib.hid hx3
  clear hW3 hg3 hb3 hx3 HV2
  (with_reducible refine (HRV.out _).mono ?_); rintro e w4 ⟨v, rfl, hb4, hv⟩
  have HB4 := Lib.hid (HB3.out.trans (hb4.mono HB3.out.size))
  have HV4 := Lib.hid (HV3.out.below hb4)
  have BX4 := Lib.hid (heap_below BX3.out hb4)
  clear hb4 HV3 BX3
  obtain ⟨sh, ap, n', cb, bp, m', db, rfl⟩ := hv.shape
  have HU4 := Lib.hid hv; clear hv
  go_wp2_with fail
  have hb5 : Below w4.heap.size w4 (w4.alloc (.cells #[.bool sh, .slice ap n' cb, .slice bp m' db] 32)) := (Below.refl _ _).alloc (Nat.le_refl _) _
  have hx5 := heap_alloc_new w4 (.cells #[.bool sh, .slice ap n' cb, .slice bp m' db] 32)
  obtain ⟨g5, hg5⟩ : ∃ g, g = w4.heap.size := ⟨_, rfl⟩
  generalize hW5 : w4.alloc _ = w5 at hb5 hx5 ⊢
  rw [← hg5] at hx5 ⊢
  have HV5 := Lib.hid (HV4.out.below hb5)
  have HU5 := Lib.hid (HU4.out.below hb5)
  have HB5 := Lib.hid (HB4.out.trans (hb5.mono HB4.out.size))
  have BX5 := Lib.hid (heap_below BX4.out hb5)
  have BY5 := Lib.hid hx5
  clear hW5 hg5 hb5 hx5 HV4 HU4 BX4
  (with_reducible refine (HP.out _).mono ?_); rintro e w6 ⟨rfl, hb6⟩
  have HV6 := Lib.hid (HV5.out.below hb6)
  have HU6 := Lib.hid (HU5.out.below hb6)
  have HB6 := Lib.hid (HB5.out.trans (hb6.mono HB5.out.size))
  have BX6 := Lib.hid (heap_below BX5.out hb6)
  have BY6 := Lib.hid (heap_below BY5.out hb6)
  clear hb6 HV5 HU5 BX5 BY5
  go_wp2_with fail
  (with_reducible refine (HRP.out _).mono ?_); rintro e wx ⟨rfl, rfl⟩
  go_wp2_with fail
  (with_reducible refine (HN.out _).mono ?_); rintro e wx ⟨rfl, rfl⟩
  go_wp2_with fail
  (with_reducible refine (HRN.out _).mono ?_); rintro e wx ⟨rfl, rfl⟩
  go_wp2_with fail
  (with_reducible refine (HNM.out _).mono ?_); rintro e wx ⟨rfl, rfl⟩
  obtain ⟨x0, x1, x2⟩ := row3 BX6.out
  obtain ⟨y0, y1, y2⟩ := row3 BY6.out
  go_wp2_with fail
  clear x0 x1 x2 y0 y1 y2
  (with_reducible refine (rat_same _ _ q _ HV6.out HU6.out HRL.out).mono ?_); rintro e w7 ⟨rfl, hb7⟩
  have HB7 := Lib.hid (HB6.out.trans (hb7.mono HB6.out.size)); clear hb7
  go_wp2_with fail
  go_ret
  exact ⟨by first | rfl | (simp; done), HB7.out⟩
end Go.Proofs.Ytaefimegiobkmaa
