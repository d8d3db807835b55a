/-
  The walk of the law TokenSplits.
  Conditions: none.
-/
import Derived.Test.YtfmkpaegpiipoaaTokLaw0
namespace Go.Proofs.Ytfmkpaegpiipoaa
open Go.RowKit Go.ChangeShapes Go.WideShapes

theorem splitL_code (l : List Nat) : (splitL l).2 < 1000 := by
  unfold splitL
  split
  · decide
  · have : ∀ n i, (scan l n i).2 ≤ 5 := by
      intro n
      induction n with
      | zero => intro i; simp [scan]
      | succ n ih =>
        intro i
        have he : (stepAt l i).err ≤ 5 := by unfold stepAt; repeat' split
                                             all_goals simp
        simp only [scan]
        split
        · split
          · exact he
          · split
            · exact ih _
            · simp
        · simp
    have := this (l.length - 0) 0
    unfold scanAt; omega

set_option maxRecDepth 100000 in
set_option maxHeartbeats 1000000 in
theorem splits_walk (s : ByteArray) (w : World) : Calls Try.prog 3 #[.string s] w (RetV w (.bool true)) := by
  by_cases h1 : 5000 < s.size ∧ s.size ≤ 65536
  · obtain ⟨h1, h2⟩ := h1
    go_enter Try.func3, Try.ntmps3
    go_wp2_with fail
    (with_reducible refine (awake_any _).mono ?_); rintro e w1 ⟨rfl, hb1⟩
    go_wp2_with fail
    (with_reducible refine (awake_any _).mono ?_); rintro e w2 ⟨rfl, hb2⟩
    go_wp2_with fail
    go_ret
    exact ⟨rfl, hb1.trans (hb2.mono hb1.size)⟩
  · have hc := splitL_code (bs s)
    obtain ⟨c, hcc⟩ : ∃ c, c = (splitL (bs s)).2 := ⟨_, rfl⟩
    rw [← hcc] at hc
    have HC := Lib.hid hcc; clear hcc
    rcases (show s.size ≤ 5000 ∨ (5000 < s.size ∧ 65536 < s.size) by omega) with h2 | ⟨h2, h3⟩
    all_goals
      clear h1
      go_enter Try.func3, Try.ntmps3
      go_wp2_with fail
      (with_reducible refine (awake_any _).mono ?_); rintro e w1 ⟨rfl, hb1⟩
      go_wp2_with fail
      (with_reducible refine (split_any s _).mono ?_); rintro e w2 ⟨v2, rfl, hb2, ho2⟩
      rw [← HC.out]
      go_wp2_with fail
      (with_reducible refine (rsplit_any s _).mono ?_); rintro e w3 ⟨v3, rfl, hb3, ho3⟩
      rw [← HC.out]
      have ht2 := ho2.toks.below hb3
      have ht3 := ho3.toks
      clear ho2 ho3
      go_wp2_with fail
      (with_reducible refine (num_any c _ hc).mono ?_); rintro e w4 ⟨rfl, rfl⟩
      go_wp2_with fail
      (with_reducible refine (same_any v2 v3 _ _ ht2 ht3).mono ?_); rintro e w5 ⟨rfl, hb5⟩
      go_wp2_with fail
      go_ret
      exact ⟨rfl, hb1.trans ((hb2.trans ((hb3.trans (hb5.mono hb3.size)).mono hb2.size)).mono hb1.size)⟩
end Go.Proofs.Ytfmkpaegpiipoaa
