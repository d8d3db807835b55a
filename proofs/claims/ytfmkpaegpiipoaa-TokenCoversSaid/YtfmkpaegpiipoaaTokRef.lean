/-
  The reference's Place, token and Split: what they hand back for any text.
  Conditions: the text is no longer than an int can say; each theorem's own.
-/
import Derived.Test.YtfmkpaegpiipoaaTokSplit
namespace Go.Proofs.Ytfmkpaegpiipoaa
open Go.RowKit Go.ChangeShapes Go.WideShapes

/-- a place, moved into the text -/
def clampN (at_ : Int) (n : Nat) : Nat := (max 0 (min at_ n)).toNat
theorem clampN_le (at_ : Int) (n : Nat) : clampN at_ n ≤ n := by unfold clampN; omega
theorem clampN_in (i n : Nat) (h : i ≤ n) : clampN i n = i := by unfold clampN; omega
theorem col_zero (l : List Nat) : colOf l 0 = 1 := by simp [colOf, lineStart]
theorem col_succ (l : List Nat) (k : Nat) : colOf l (k + 1) = if gd l k = 10 then 1 else colOf l k + 1 := by
  have := lineStart_le l k
  unfold colOf; simp only [lineStart]; split <;> omega
theorem line_zero (l : List Nat) : lineOf l 0 = 1 := by simp [lineOf]
theorem line_le (l : List Nat) (k : Nat) : lineOf l k ≤ k + 1 := by
  unfold lineOf; have := List.count_le_length (a := 10) (l := l.take k); rw [List.length_take] at this; omega
theorem col_le (l : List Nat) (k : Nat) : colOf l k ≤ k + 1 := by unfold colOf; omega

set_option maxRecDepth 100000 in
set_option maxHeartbeats 800000 in
theorem rplace_any (s : ByteArray) (at_ : Int) (w : World) (hs : s.size ≤ 9223372036854775806) :
    Calls Try.prog 21 #[.string s, .int .i64 at_] w (RetS w (.tuple #[.int .i64 (lineOf (bs s) (clampN at_ s.size) : Nat), .int .i64 (colOf (bs s) (clampN at_ s.size) : Nat)])) := by
  obtain ⟨a, ha⟩ : ∃ a, a = clampN at_ s.size := ⟨_, rfl⟩
  have hle : a ≤ s.size := by rw [ha]; exact clampN_le _ _
  have hmx : max 0 (min at_ (s.size : Int)) = (a : Int) := by rw [ha]; unfold clampN; omega
  rw [← ha]
  have HA := Lib.hid ha; clear ha
  go_enter Try.func21, Try.ntmps21
  go_wp2_with fail
  go_loop [4, 5, 13] (fun x y z => ∃ k : Nat, k ≤ a ∧ z = .int .i64 k ∧ x = .int .i64 (lineOf (bs s) k : Nat) ∧ y = .int .i64 (colOf (bs s) k : Nat)) (fun _ _ z => a - (intOf z).toNat)
  case atStart => exact ⟨0, Nat.zero_le _, rfl, by rw [line_zero]; rfl, by rw [col_zero]; rfl⟩
  case round =>
    obtain ⟨k, hk, rfl, rfl, rfl⟩ := hrel
    have h1 := line_le (bs s) k
    have h2 := col_le (bs s) k
    by_cases hlt : k < a
    · have hix := run_index_gb (P := Try.prog) s 9 Try.underlying9 k (by omega)
      by_cases h10 : gd (bs s) k = 10
      · have hb : ((gd (bs s) k : Int) == 10) = true := by simp [h10]
        have H10 := Lib.hid h10; clear h10
        go_wp2_with fail
        go_round
        case rel => exact ⟨k + 1, by omega, by go_num, by rw [lineOf_succ (by rw [bs_length]; omega), if_pos H10.out]; rfl, by rw [col_succ, if_pos H10.out]; rfl⟩
        case measure => simp [intOf]; omega
      · have hb : ((gd (bs s) k : Int) == 10) = false := by simp; omega
        have H10 := Lib.hid h10; clear h10
        go_wp2_with fail
        go_round
        case rel => exact ⟨k + 1, by omega, by go_num, by rw [lineOf_succ (by rw [bs_length]; omega), if_neg H10.out]; rfl, by rw [col_succ, if_neg H10.out]; rfl⟩
        case measure => simp [intOf]; omega
    · obtain rfl : k = a := by omega
      go_wp2_with fail
      go_ret2
      exact ⟨rfl, rfl⟩

/-- what the reference's token leaves -/
def RetTok (w : World) (B : Nat) (ts : List TokV) (e : Ending) (w' : World) : Prop :=
  ∃ v, e = .returned v ∧ OwnT w' B v ts ∧ (∀ w0, Below B w0 w → Below B w0 w') ∧ w.heap.size ≤ w'.heap.size

set_option maxRecDepth 100000 in
set_option maxHeartbeats 800000 in
theorem rtoken_any (s : ByteArray) (v : Value) (ts : List TokV) (B : Nat) (kk : Int) (k i j : Nat) (w : World) (hkk : kk = k) (hs : s.size ≤ 9223372036854775806) (hij : i ≤ j) (hj : j ≤ s.size) (hown : OwnT w B v ts) (hlen : ts.length ≤ 1099511627776)
    (hB : B ≤ w.heap.size) :
    Calls Try.prog 33 #[v, .string s, .int .i64 kk, .int .i64 i, .int .i64 j] w (RetTok w B (ts ++ [mkTok s ⟨k, i, j⟩])) := by
  have HK := Lib.hid hkk; clear hkk
  have hcl := clampN_in i s.size (by omega)
  have HO := Lib.hid hown; clear hown
  go_enter Try.func33, Try.ntmps33
  go_wp2_with (first | (go_at_call 21; (with_reducible refine (rplace_any s i _ hs).mono ?_); rintro e w' ⟨rfl, rfl⟩) | (at_builtin; refine wpList_appendT rfl (.tmp 19) (.tmp 29) rfl B _ _ (mkTok s ⟨k, i, j⟩) _ _ _ _ _ rfl rfl ?_ HO.out hlen hB ?_))
  · simp only [TokV.cells, mkTok]; rw [HK.out]
  intro v' w1 h1 h2 h3
  go_wp2_with fail
  go_ret
  exact ⟨_, rfl, h1, h2, h3⟩

/-- what the reference's Split leaves -/
def RetRSplit (s : ByteArray) (w : World) (e : Ending) (w' : World) : Prop :=
  ∃ v, e = .returned (.tuple #[v, .int .i64 ((splitL (bs s)).2 : Nat)]) ∧ Below w.heap.size w w' ∧ OwnT w' w.heap.size v ((splitL (bs s)).1.map (mkTok s))
theorem ret_rsplit {s : ByteArray} {w w' : World} {x v : Value} {y : Int} {c : Nat} {ts : List Tk} (hc : splitL (bs s) = (ts, c)) (h1 : x = v) (h2 : y = c)
    (hb : Below w.heap.size w w') (ho : OwnT w' w.heap.size v (ts.map (mkTok s))) : RetRSplit s w (.returned (.tuple #[x, .int .i64 y])) w' :=
  ⟨v, by rw [h1, h2, hc], hb, by rw [hc]; exact ho⟩

set_option maxRecDepth 100000 in
set_option maxHeartbeats 8000000 in
theorem rsplit_any (s : ByteArray) (w : World) :
    Calls Try.prog 12 #[.string s] w (RetRSplit s w) := by
  by_cases hbig : 65536 < s.size
  · have hc : splitL (bs s) = ([], 4) := by unfold splitL; rw [bs_length, if_pos hbig]
    have HC := Lib.hid hc; clear hc
    go_enter Try.func12, Try.ntmps12
    go_wp2
    go_ret2
    exact ret_rsplit HC.out rfl rfl (Below.refl _ _) (OwnT.nil _ _)
  have hs : s.size ≤ 9223372036854775806 := by omega
  have hc : splitL (bs s) = joinScan [] (scanAt (bs s) 0) := by unfold splitL; rw [bs_length, if_neg hbig, joinScan_nil]
  have HC := Lib.hid hc; clear hc
  go_enter Try.func12, Try.ntmps12
  go_wp2_with fail
  go_loopw [4, 5] (fun out at_ wr => ∃ (i : Nat) (ts : List Tk), i ≤ s.size ∧ at_ = .int .i64 i ∧ OwnT wr w.heap.size out (ts.map (mkTok s)) ∧ Below w.heap.size w wr ∧ ts.length ≤ i ∧ joinScan ts (scanAt (bs s) i) = joinScan [] (scanAt (bs s) 0)) (fun _ i _ => s.size - (intOf i).toNat)
  case atStart => exact ⟨0, [], Nat.zero_le _, rfl, OwnT.nil _ _, Below.refl _ _, Nat.le_refl _, rfl⟩
  case round =>
    obtain ⟨i, ts, hi, rfl, hown, hbel, hlen, hj⟩ := hrel
    have HJ := Lib.hid hj; clear hj
    have HO := Lib.hid hown; clear hown
    have hlen' : (ts.map (mkTok s)).length ≤ 1099511627776 := by rw [List.length_map]; omega
    by_cases hlt : i < s.size
    · have hix := run_index_gb (P := Try.prog) s 9 Try.underlying9 i hlt
      have hlt' : i < (bs s).length := by rw [bs_length]; exact hlt
      obtain ⟨b, hb⟩ : ∃ b, b = gd (bs s) i := ⟨_, rfl⟩
      have hb256 : b < 256 := by rw [hb]; exact bs_lt _ _
      rw [← hb] at hix
      rcases step_cases (bs s) i b hb with ⟨h1, h2, h3, h4⟩ | ⟨h1, h2, h3, h4⟩ | ⟨h1, h2, h3, h4⟩ | ⟨h1, h2, h3, h4, h5⟩ | ⟨h1, h2, h3, h4, h5⟩ | ⟨h1, h2, h3, h4, h5, h6⟩ | ⟨h1, h2, h3, h4, h5, h6⟩ | ⟨h1, h2, h3, h4, h5, h6⟩ | ⟨h1, h2, h3, h4, h5, h6⟩
      · have H4 := Lib.hid h4; clear h4 hb h3 h2
        go_wp2_with (go_at_call 30; (with_reducible refine (rblank_any b _ hb256).mono ?_); rintro e w' ⟨rfl, rfl⟩)
        go_roundw
        case rel => exact ⟨i + 1, ts, by omega, by go_num, HO.out, hbel, by omega, by rw [← join_skip' ts hlt' H4.out]; exact HJ.out⟩
        case measure => simp [intOf]; omega
      · have H4 := Lib.hid h4; clear h4 hb h3 h2
        go_wp2_with (go_at_call 30; (with_reducible refine (rblank_any b _ hb256).mono ?_); rintro e w' ⟨rfl, rfl⟩)
        go_roundw
        case rel => exact ⟨i + 1, ts, by omega, by go_num, HO.out, hbel, by omega, by rw [← join_skip' ts hlt' H4.out]; exact HJ.out⟩
        case measure => simp [intOf]; omega
      · have H4 := Lib.hid h4; have HB := Lib.hid hb; have H3 := Lib.hid h3; clear h4 hb h3
        have HR := Lib.hid (hash_run hlt' (by rw [← HB.out]; exact H3.out))
        go_wp2_with (go_at_call 30; (with_reducible refine (rblank_any b _ hb256).mono ?_); rintro e w' ⟨rfl, rfl⟩)
        obtain ⟨wo, rfl⟩ : ∃ wo : World, wo = wr := ⟨_, rfl⟩
        go_loop [7] (fun x => ∃ j : Nat, i + 1 ≤ j ∧ j ≤ s.size ∧ x = .int .i64 j ∧ run notLF (bs s) j = run notLF (bs s) i) (fun x => s.size - (intOf x).toNat)
        case atStart => exact ⟨i + 1, Nat.le_refl _, by omega, by go_num, HR.out.symm⟩
        case round =>
          obtain ⟨j, hij, hjs, rfl, hrun⟩ := hrel
          have HQ := Lib.hid hrun; clear hrun
          by_cases hjlt : j < s.size
          · have hjx := run_index_gb (P := Try.prog) s 9 Try.underlying9 j hjlt
            by_cases hlf : gd (bs s) j = 10
            · have h10 : ((gd (bs s) j : Int) != 10) = false := by simp [hlf]
              have HLF := Lib.hid (show notLF (gd (bs s) j) = false by simp [notLF, hlf]); clear hlf
              have e1 : run notLF (bs s) i = j := by rw [← HQ.out, run_no HLF.out]
              have E1 := Lib.hid e1; clear e1
              go_wp2_with fail
              go_roundw
              case rel => exact ⟨j, ts, hjs, rfl, HO.out, hbel, by omega, by rw [← E1.out, ← join_skip' ts hlt' H4.out]; exact HJ.out⟩
              case measure => simp [intOf]; omega
            · have h10 : ((gd (bs s) j : Int) != 10) = true := by simp; omega
              have HLF := Lib.hid (show notLF (gd (bs s) j) = true by simp [notLF, hlf]); clear hlf
              go_wp2_with fail
              go_round
              case rel => exact ⟨j + 1, by omega, by omega, by go_num, by rw [run_yes (by rw [bs_length]; exact hjlt) HLF.out]; exact HQ.out⟩
              case measure => simp [intOf]; omega
          · have e1 : run notLF (bs s) i = j := by rw [← HQ.out, run_end (by rw [bs_length]; omega)]
            have E1 := Lib.hid e1; clear e1
            go_wp2_with fail
            go_roundw
            case rel => exact ⟨j, ts, hjs, rfl, HO.out, hbel, by omega, by rw [← E1.out, ← join_skip' ts hlt' H4.out]; exact HJ.out⟩
            case measure => simp [intOf]; omega
      · have H5 := Lib.hid h5; have HB := Lib.hid hb; clear h5 hb
        have HR := Lib.hid (letter_run hlt' (by rw [← HB.out]; exact h3))
        go_wp2_with (first | (go_at_call 30; (with_reducible refine (rblank_any b _ hb256).mono ?_); rintro e w' ⟨rfl, rfl⟩) | (go_at_call 31; (with_reducible refine (rletter_any b _ hb256).mono ?_); rintro e w' ⟨rfl, rfl⟩))
        obtain ⟨wo, rfl⟩ : ∃ wo : World, wo = wr := ⟨_, rfl⟩
        go_loop [7] (fun x => ∃ j : Nat, i + 1 ≤ j ∧ j ≤ s.size ∧ x = .int .i64 j ∧ run isIn (bs s) j = run isIn (bs s) i) (fun x => s.size - (intOf x).toNat)
        case atStart => exact ⟨i + 1, Nat.le_refl _, by omega, by go_num, HR.out.symm⟩
        case round =>
          obtain ⟨j, hij, hjs, rfl, hrun⟩ := hrel
          have HQ := Lib.hid hrun; clear hrun
          by_cases hjlt : j < s.size
          · have hjx := run_index_gb (P := Try.prog) s 9 Try.underlying9 j hjlt
            cases hlf : isIn (gd (bs s) j)
            · have HLF := Lib.hid hlf
              have e1 : run isIn (bs s) i = j := by rw [← HQ.out, run_no HLF.out]
              have E1 := Lib.hid e1; clear e1
              have h4' : 24 < j - i := by rw [← E1.out]; exact h4
              go_wp2_with (first | (go_at_call 32; (with_reducible refine (inside_any _ _ (bs_lt _ _)).mono ?_); rintro e w' ⟨rfl, rfl⟩))
              go_ret2
              exact ret_rsplit (c := 5) (ts := []) (by rw [HC.out, ← HJ.out, join_err' ts hlt' H5.out (by decide)]) rfl rfl hbel (OwnT.nil _ _)
            · have HLF := Lib.hid hlf
              go_wp2_with (first | (go_at_call 32; (with_reducible refine (inside_any _ _ (bs_lt _ _)).mono ?_); rintro e w' ⟨rfl, rfl⟩))
              go_round
              case rel => exact ⟨j + 1, by omega, by omega, by go_num, by rw [run_yes (by rw [bs_length]; exact hjlt) HLF.out]; exact HQ.out⟩
              case measure => simp [intOf]; omega
          · have e1 : run isIn (bs s) i = j := by rw [← HQ.out, run_end (by rw [bs_length]; omega)]
            have E1 := Lib.hid e1; clear e1
            have h4' : 24 < j - i := by rw [← E1.out]; exact h4
            go_wp2_with (first | (go_at_call 32; (with_reducible refine (inside_any _ _ (bs_lt _ _)).mono ?_); rintro e w' ⟨rfl, rfl⟩))
            go_ret2
            exact ret_rsplit (c := 5) (ts := []) (by rw [HC.out, ← HJ.out, join_err' ts hlt' H5.out (by decide)]) rfl rfl hbel (OwnT.nil _ _)
      · have H5 := Lib.hid h5; have HB := Lib.hid hb; clear h5 hb
        have HR := Lib.hid (letter_run hlt' (by rw [← HB.out]; exact h3))
        go_wp2_with (first | (go_at_call 30; (with_reducible refine (rblank_any b _ hb256).mono ?_); rintro e w' ⟨rfl, rfl⟩) | (go_at_call 31; (with_reducible refine (rletter_any b _ hb256).mono ?_); rintro e w' ⟨rfl, rfl⟩))
        obtain ⟨wo, rfl⟩ : ∃ wo : World, wo = wr := ⟨_, rfl⟩
        go_loop [7] (fun x => ∃ j : Nat, i + 1 ≤ j ∧ j ≤ s.size ∧ x = .int .i64 j ∧ run isIn (bs s) j = run isIn (bs s) i) (fun x => s.size - (intOf x).toNat)
        case atStart => exact ⟨i + 1, Nat.le_refl _, by omega, by go_num, HR.out.symm⟩
        case round =>
          obtain ⟨j, hij, hjs, rfl, hrun⟩ := hrel
          have HQ := Lib.hid hrun; clear hrun
          by_cases hjlt : j < s.size
          · have hjx := run_index_gb (P := Try.prog) s 9 Try.underlying9 j hjlt
            cases hlf : isIn (gd (bs s) j)
            · have HLF := Lib.hid hlf
              have e1 : run isIn (bs s) i = j := by rw [← HQ.out, run_no HLF.out]
              have E1 := Lib.hid e1; clear e1
              have h4' : j - i ≤ 24 := by rw [← E1.out]; exact h4
              go_wp2_with (first | (go_at_call 32; (with_reducible refine (inside_any _ _ (bs_lt _ _)).mono ?_); rintro e w' ⟨rfl, rfl⟩) | (go_at_call 33; (with_reducible refine (rtoken_any s _ (ts.map (mkTok s)) w.heap.size 0 0 i j _ rfl hs (by omega) (by omega) HO.out hlen' hbel.size).mono ?_); rintro e w1 ⟨v1, rfl, ho, hb1, hz⟩))
              go_roundw
              case rel => exact ⟨j, ts ++ [⟨0, i, j⟩], hjs, rfl, by rw [List.map_append]; exact ho, hb1 w hbel, by rw [List.length_append, List.length_singleton]; omega, by rw [← E1.out, ← join_tok' ts hlt' H5.out (by decide)]; exact HJ.out⟩
              case measure => simp [intOf]; omega
            · have HLF := Lib.hid hlf
              go_wp2_with (first | (go_at_call 32; (with_reducible refine (inside_any _ _ (bs_lt _ _)).mono ?_); rintro e w' ⟨rfl, rfl⟩))
              go_round
              case rel => exact ⟨j + 1, by omega, by omega, by go_num, by rw [run_yes (by rw [bs_length]; exact hjlt) HLF.out]; exact HQ.out⟩
              case measure => simp [intOf]; omega
          · have e1 : run isIn (bs s) i = j := by rw [← HQ.out, run_end (by rw [bs_length]; omega)]
            have E1 := Lib.hid e1; clear e1
            have h4' : j - i ≤ 24 := by rw [← E1.out]; exact h4
            go_wp2_with (first | (go_at_call 32; (with_reducible refine (inside_any _ _ (bs_lt _ _)).mono ?_); rintro e w' ⟨rfl, rfl⟩) | (go_at_call 33; (with_reducible refine (rtoken_any s _ (ts.map (mkTok s)) w.heap.size 0 0 i j _ rfl hs (by omega) (by omega) HO.out hlen' hbel.size).mono ?_); rintro e w1 ⟨v1, rfl, ho, hb1, hz⟩))
            go_roundw
            case rel => exact ⟨j, ts ++ [⟨0, i, j⟩], hjs, rfl, by rw [List.map_append]; exact ho, hb1 w hbel, by rw [List.length_append, List.length_singleton]; omega, by rw [← E1.out, ← join_tok' ts hlt' H5.out (by decide)]; exact HJ.out⟩
            case measure => simp [intOf]; omega
      · have H6 := Lib.hid h6; have HB := Lib.hid hb; clear h6 hb
        have hle := le_numEnd (bs s) i
        rw [bs_length] at h5
        obtain ⟨h7, h8⟩ := h5
        have hjx := run_index_gb (P := Try.prog) s 9 Try.underlying9 (numEnd (bs s) i) h7
        rcases bad_cases' (gd (bs s) (numEnd (bs s) i)) with ⟨_, hc⟩ | ⟨hc, _⟩
        · clear h8
          rcases hc with c1 | ⟨c1, c2⟩
          all_goals
            go_wp2_with (first | (go_at_call 30; (with_reducible refine (rblank_any b _ hb256).mono ?_); rintro e w' ⟨rfl, rfl⟩) | (go_at_call 31; (with_reducible refine (rletter_any b _ hb256).mono ?_); rintro e w' ⟨rfl, rfl⟩) | (go_at_call 34; (with_reducible refine (rdigit_any b _ hb256).mono ?_); rintro e w' ⟨rfl, rfl⟩) | (go_at_call 35; (with_reducible refine (rnumber_any s i _ hs hi).mono ?_); rintro e w' ⟨rfl, rfl⟩) | (go_at_call 32; (with_reducible refine (inside_any _ _ (bs_lt _ _)).mono ?_); rintro e w' ⟨rfl, rfl⟩))
            go_ret2
            exact ret_rsplit (c := 2) (ts := []) (by rw [HC.out, ← HJ.out, join_err' ts hlt' H6.out (by decide)]) rfl rfl hbel (OwnT.nil _ _)
        · rw [hc] at h8; simp at h8
      · have H6 := Lib.hid h6; have HB := Lib.hid hb; clear h6 hb
        have hgt : i < numEnd (bs s) i := lt_numEnd hlt' (by rw [← HB.out]; exact h4)
        have hge := numEnd_le (l := bs s) (k := i) (by rw [bs_length]; omega)
        rw [bs_length] at hge h5
        by_cases h7 : numEnd (bs s) i < s.size
        · have h8 := h5 h7
          clear h5
          have hjx := run_index_gb (P := Try.prog) s 9 Try.underlying9 (numEnd (bs s) i) h7
          rcases bad_cases' (gd (bs s) (numEnd (bs s) i)) with ⟨hc, _⟩ | ⟨_, c1, c2⟩
          · rw [hc] at h8; simp at h8
          clear h8
          go_wp2_with (first | (go_at_call 30; (with_reducible refine (rblank_any b _ hb256).mono ?_); rintro e w' ⟨rfl, rfl⟩) | (go_at_call 31; (with_reducible refine (rletter_any b _ hb256).mono ?_); rintro e w' ⟨rfl, rfl⟩) | (go_at_call 34; (with_reducible refine (rdigit_any b _ hb256).mono ?_); rintro e w' ⟨rfl, rfl⟩) | (go_at_call 35; (with_reducible refine (rnumber_any s i _ hs hi).mono ?_); rintro e w' ⟨rfl, rfl⟩) | (go_at_call 32; (with_reducible refine (inside_any _ _ (bs_lt _ _)).mono ?_); rintro e w' ⟨rfl, rfl⟩) | (go_at_call 33; (with_reducible refine (rtoken_any s _ (ts.map (mkTok s)) w.heap.size 1 1 i (numEnd (bs s) i) _ rfl hs (by omega) (by omega) HO.out hlen' hbel.size).mono ?_); rintro e w1 ⟨v1, rfl, ho, hb1, hz⟩))
          go_roundw
          case rel => exact ⟨numEnd (bs s) i, ts ++ [⟨1, i, numEnd (bs s) i⟩], by omega, by go_num, by rw [List.map_append]; exact ho, hb1 w hbel, by rw [List.length_append, List.length_singleton]; omega, by rw [← join_tok' ts hlt' H6.out (by decide)]; exact HJ.out⟩
          case measure => simp [intOf]; omega
        · clear h5
          go_wp2_with (first | (go_at_call 30; (with_reducible refine (rblank_any b _ hb256).mono ?_); rintro e w' ⟨rfl, rfl⟩) | (go_at_call 31; (with_reducible refine (rletter_any b _ hb256).mono ?_); rintro e w' ⟨rfl, rfl⟩) | (go_at_call 34; (with_reducible refine (rdigit_any b _ hb256).mono ?_); rintro e w' ⟨rfl, rfl⟩) | (go_at_call 35; (with_reducible refine (rnumber_any s i _ hs hi).mono ?_); rintro e w' ⟨rfl, rfl⟩) | (go_at_call 32; (with_reducible refine (inside_any _ _ (bs_lt _ _)).mono ?_); rintro e w' ⟨rfl, rfl⟩) | (go_at_call 33; (with_reducible refine (rtoken_any s _ (ts.map (mkTok s)) w.heap.size 1 1 i (numEnd (bs s) i) _ rfl hs (by omega) (by omega) HO.out hlen' hbel.size).mono ?_); rintro e w1 ⟨v1, rfl, ho, hb1, hz⟩))
          go_roundw
          case rel => exact ⟨numEnd (bs s) i, ts ++ [⟨1, i, numEnd (bs s) i⟩], by omega, by go_num, by rw [List.map_append]; exact ho, hb1 w hbel, by rw [List.length_append, List.length_singleton]; omega, by rw [← join_tok' ts hlt' H6.out (by decide)]; exact HJ.out⟩
          case measure => simp [intOf]; omega
      · have H6 := Lib.hid h6; have HB := Lib.hid hb; clear h6 hb
        have htk : ∀ wx : World, wx = wr → ∀ x : Value, OwnT wx w.heap.size x (ts.map (mkTok s)) → Calls Try.prog 33 #[x, .string s, .int .i64 2, .int .i64 i, .int .i64 ((i : Int) + 1)] wx (RetTok wx w.heap.size (ts.map (mkTok s) ++ [mkTok s ⟨2, i, i + 1⟩])) := by
          rintro wx rfl x hx
          exact rtoken_any s x (ts.map (mkTok s)) w.heap.size 2 2 i (i + 1) wx rfl hs (by omega) (by omega) hx hlen' hbel.size
        have HTK := Lib.hid (htk _ rfl _ HO.out); clear htk
        rcases sign_cases b with ⟨_, hc⟩ | ⟨hc, _⟩
        · rcases hc with c1 | ⟨c1, c2⟩ | ⟨c1, c2, c3⟩ | ⟨c1, c2, c3, c4⟩ | ⟨c1, c2, c3, c4, c5⟩
          all_goals
            go_wp2_with (first | (go_at_call 30; (with_reducible refine (rblank_any b _ hb256).mono ?_); rintro e w' ⟨rfl, rfl⟩) | (go_at_call 31; (with_reducible refine (rletter_any b _ hb256).mono ?_); rintro e w' ⟨rfl, rfl⟩) | (go_at_call 34; (with_reducible refine (rdigit_any b _ hb256).mono ?_); rintro e w' ⟨rfl, rfl⟩) | (go_at_call 33; (with_reducible refine HTK.out.mono ?_); rintro e w1 ⟨v1, rfl, ho, hb1, hz⟩))
            go_roundw
            case rel => exact ⟨(i + 1), ts ++ [⟨2, i, (i + 1)⟩], by omega, by go_num, by rw [List.map_append]; exact ho, hb1 w hbel, by rw [List.length_append, List.length_singleton]; omega, by rw [← join_tok' ts hlt' H6.out (by decide)]; exact HJ.out⟩
            case measure => simp [intOf]; omega
        · rw [hc] at h5; simp at h5
      · have H6 := Lib.hid h6; have HB := Lib.hid hb; clear h6 hb
        rcases sign_cases b with ⟨hc, _⟩ | ⟨_, c1, c2, c3, c4, c5⟩
        · rw [hc] at h5; simp at h5
        go_wp2_with (first | (go_at_call 30; (with_reducible refine (rblank_any b _ hb256).mono ?_); rintro e w' ⟨rfl, rfl⟩) | (go_at_call 31; (with_reducible refine (rletter_any b _ hb256).mono ?_); rintro e w' ⟨rfl, rfl⟩) | (go_at_call 34; (with_reducible refine (rdigit_any b _ hb256).mono ?_); rintro e w' ⟨rfl, rfl⟩))
        go_ret2
        exact ret_rsplit (c := 2) (ts := []) (by rw [HC.out, ← HJ.out, join_err' ts hlt' H6.out (by decide)]) rfl rfl hbel (OwnT.nil _ _)
    · go_wp2_with fail
      go_ret2
      exact ret_rsplit (c := 0) (ts := ts) (by rw [HC.out, ← HJ.out, join_end ts (by rw [bs_length]; omega)]) rfl rfl hbel HO.out
end Go.Proofs.Ytfmkpaegpiipoaa
