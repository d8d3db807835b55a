/-
  token.Split: what it hands back for any text.
  Conditions: none.
-/
import Derived.Test.YtfmkpaegpiipoaaTokOwn
namespace Go.Proofs.Ytfmkpaegpiipoaa
open Go.RowKit Go.ChangeShapes Go.WideShapes

/-- an error by its number -/
def errV (c : Nat) : Value := if c = 0 then .nilIface else .iface 38 (.int .i64 c)
theorem errV_zero : errV 0 = .nilIface := rfl
theorem errV_pos {c : Nat} (h : c ≠ 0) : errV c = .iface 38 (.int .i64 c) := by simp [errV, h]

/-- what Split leaves -/
def RetSplit (s : ByteArray) (w : World) (e : Ending) (w' : World) : Prop :=
  ∃ v, e = .returned (.tuple #[v, errV (splitL (bs s)).2]) ∧ Below w.heap.size w w' ∧ OwnT w' w.heap.size v ((splitL (bs s)).1.map (mkTok s))

theorem ret_split {s : ByteArray} {w w' : World} {x y v : Value} {c : Nat} {ts : List Tk} (hc : splitL (bs s) = (ts, c)) (h1 : x = v) (h2 : y = errV c)
    (hb : Below w.heap.size w w') (ho : OwnT w' w.heap.size v (ts.map (mkTok s))) : RetSplit s w (.returned (.tuple #[x, y])) w' :=
  ⟨v, by rw [h1, h2, hc], hb, by rw [hc]; exact ho⟩

set_option maxRecDepth 100000 in
set_option maxHeartbeats 4000000 in
theorem split_any (s : ByteArray) (w : World) :
    Calls Try.prog 11 #[.string s] w (RetSplit s w) := by
  by_cases hbig : 65536 < s.size
  · have hc : splitL (bs s) = ([], 4) := by unfold splitL; rw [bs_length, if_pos hbig]
    have HC := Lib.hid hc; clear hc
    go_enter Try.func11, Try.ntmps11
    go_wp2
    go_ret2
    exact ret_split HC.out rfl rfl (Below.refl _ _) (OwnT.nil _ _)
  have hs : s.size ≤ 9223372036854775806 := by omega
  have hc : splitL (bs s) = joinScan [] (scanAt (bs s) 0) := by unfold splitL; rw [bs_length, if_neg hbig, joinScan_nil]
  have HC := Lib.hid hc; clear hc
  go_enter Try.func11, Try.ntmps11
  go_wp2_with fail
  go_loopw [4, 5, 6, 7] (fun out line start at_ wr => ∃ (i : Nat) (ts : List Tk), i ≤ s.size ∧ at_ = .int .i64 i ∧ line = .int .i64 (lineOf (bs s) i : Nat) ∧ start = .int .i64 (lineStart (bs s) i : Nat) ∧
      OwnT wr w.heap.size out (ts.map (mkTok s)) ∧ Below w.heap.size w wr ∧ ts.length ≤ i ∧ joinScan ts (scanAt (bs s) i) = joinScan [] (scanAt (bs s) 0)) (fun _ _ _ i _ => s.size - (intOf i).toNat)
  case atStart => exact ⟨0, [], Nat.zero_le _, rfl, by simp [lineOf], rfl, OwnT.nil _ _, Below.refl _ _, Nat.le_refl _, rfl⟩
  case round =>
    obtain ⟨i, ts, hi, rfl, rfl, rfl, hown, hbel, hlen, hj⟩ := hrel
    have HJ := Lib.hid hj; clear hj
    have HO := Lib.hid hown; clear hown
    have hls := lineStart_le (bs s) i
    have hll : lineOf (bs s) i ≤ i + 1 := by unfold lineOf; have := List.count_le_length (a := 10) (l := (bs s).take i); rw [List.length_take] at this; omega
    by_cases hlt : i < s.size
    · have hix := run_index_gb (P := Try.prog) s 9 Try.underlying9 i hlt
      have hlt' : i < (bs s).length := by rw [bs_length]; exact hlt
      obtain ⟨b, hb⟩ : ∃ b, b = gd (bs s) i := ⟨_, rfl⟩
      have hb256 : b < 256 := by rw [hb]; exact bs_lt _ _
      rw [← hb] at hix
      rcases step_cases (bs s) i b hb with ⟨h1, h2, h3, h4⟩ | ⟨h1, h2, h3, h4⟩ | ⟨h1, h2, h3, h4⟩ | ⟨h1, h2, h3, h4, h5⟩ | ⟨h1, h2, h3, h4, h5⟩ | ⟨h1, h2, h3, h4, h5, h6⟩ | ⟨h1, h2, h3, h4, h5, h6⟩ | ⟨h1, h2, h3, h4, h5, h6⟩ | ⟨h1, h2, h3, h4, h5, h6⟩
      · have H4 := Lib.hid h4; have HB := Lib.hid hb; have H3 := Lib.hid h3; clear h4 hb h3
        go_wp2_with (go_at_call 24; (with_reducible refine (blank_any b _ hb256).mono ?_); rintro e w' ⟨rfl, rfl⟩)
        go_roundw
        case rel => exact ⟨i + 1, ts, by omega, by go_num, by rw [lineOf_succ hlt', ← HB.out, if_pos H3.out]; rfl, by simp only [lineStart]; rw [← HB.out, if_pos H3.out]; rfl, HO.out, hbel, by omega, by rw [← join_skip' ts hlt' H4.out]; exact HJ.out⟩
        case measure => simp [intOf]; omega
      · have H4 := Lib.hid h4; have HB := Lib.hid hb; have H3 := Lib.hid h3; clear h4 hb h3
        have HL := Lib.hid (line_one hlt' (by rw [← HB.out]; exact H3.out))
        go_wp2_with (go_at_call 24; (with_reducible refine (blank_any b _ hb256).mono ?_); rintro e w' ⟨rfl, rfl⟩)
        go_roundw
        case rel => exact ⟨i + 1, ts, by omega, by go_num, by rw [HL.out.1], by rw [HL.out.2], HO.out, hbel, by omega, by rw [← join_skip' ts hlt' H4.out]; exact HJ.out⟩
        case measure => simp [intOf]; omega
      · have H4 := Lib.hid h4; have HB := Lib.hid hb; have H3 := Lib.hid h3; clear h4 hb h3
        have HL := Lib.hid (line_comment (l := bs s) (i := i) (by rw [bs_length]; omega))
        have HR := Lib.hid (hash_run hlt' (by rw [← HB.out]; exact H3.out))
        have hle := le_run notLF (bs s) (i + 1)
        have hge := run_le (p := notLF) (l := bs s) (k := i) (by rw [bs_length]; omega)
        rw [bs_length] at hge
        have hgt : i < run notLF (bs s) i := by rw [HR.out]; omega
        go_wp2_with (go_at_call 24; (with_reducible refine (blank_any b _ hb256).mono ?_); rintro e w' ⟨rfl, rfl⟩)
        obtain ⟨wo, rfl⟩ : ∃ wo : World, wo = wr := ⟨_, rfl⟩
        go_loop [7] (fun x => ∃ j : Nat, i ≤ j ∧ j ≤ s.size ∧ x = .int .i64 j ∧ run notLF (bs s) j = run notLF (bs s) i) (fun x => s.size - (intOf x).toNat)
        case atStart => exact ⟨i, Nat.le_refl _, hi, rfl, rfl⟩
        case round =>
          obtain ⟨j, hij, hjs, rfl, hrun⟩ := hrel
          have HQ := Lib.hid hrun; clear hrun
          by_cases hjlt : j < s.size
          · have hjx := run_index_gb (P := Try.prog) s 9 Try.underlying9 j hjlt
            by_cases hlf : gd (bs s) j = 10
            · have h10 : ((gd (bs s) j : Int) != 10) = false := by simp [hlf]
              have HLF := Lib.hid hlf; clear hlf
              go_wp2_with fail
              have e1 : run notLF (bs s) i = j := by rw [← HQ.out, run_no (by rw [HLF.out]; rfl)]
              go_roundw
              case rel => exact ⟨j, ts, hjs, rfl, by rw [← e1, HL.out.1], by rw [← e1, HL.out.2], HO.out, hbel, by omega, by rw [← e1, ← join_skip' ts hlt' H4.out]; exact HJ.out⟩
              case measure => simp [intOf]; omega
            · have h10 : ((gd (bs s) j : Int) != 10) = true := by simp; omega
              have HLF := Lib.hid hlf; clear hlf
              go_wp2_with fail
              go_round
              case rel => exact ⟨j + 1, by omega, by omega, by go_num, by rw [run_yes (by rw [bs_length]; exact hjlt) (by simp [notLF, HLF.out])]; exact HQ.out⟩
              case measure => simp [intOf]; omega
          · go_wp2_with fail
            have e1 : run notLF (bs s) i = j := by rw [← HQ.out, run_end (by rw [bs_length]; omega)]
            go_roundw
            case rel => exact ⟨j, ts, hjs, rfl, by rw [← e1, HL.out.1], by rw [← e1, HL.out.2], HO.out, hbel, by omega, by rw [← e1, ← join_skip' ts hlt' H4.out]; exact HJ.out⟩
            case measure => simp [intOf]; omega
      · have H5 := Lib.hid h5; have HB := Lib.hid hb; clear h5 hb
        have hle := le_run isIn (bs s) i
        have hge := run_le (p := isIn) (l := bs s) (k := i) (by rw [bs_length]; omega)
        rw [bs_length] at hge
        go_wp2_with (first | (go_at_call 24; (with_reducible refine (blank_any b _ hb256).mono ?_); rintro e w' ⟨rfl, rfl⟩) | (go_at_call 25; (with_reducible refine (letter_any b _ hb256).mono ?_); rintro e w' ⟨rfl, rfl⟩) | (go_at_call 26; (with_reducible refine (wordEnd_any s i _ hs hi).mono ?_); rintro e w' ⟨rfl, rfl⟩))
        go_ret2
        exact ret_split (c := 5) (ts := []) (by rw [HC.out, ← HJ.out, join_err' ts hlt' H5.out (by decide)]) rfl rfl hbel (OwnT.nil _ _)
      · have H5 := Lib.hid h5; have HB := Lib.hid hb; clear h5 hb
        have HR := Lib.hid (letter_run hlt' (by rw [← HB.out]; exact h3))
        have HL := Lib.hid (line_word (l := bs s) (i := i) (by rw [bs_length]; omega))
        have hle := le_run isIn (bs s) i
        have hgt : i < run isIn (bs s) i := by rw [HR.out]; exact le_run _ _ _
        have hge := run_le (p := isIn) (l := bs s) (k := i) (by rw [bs_length]; omega)
        rw [bs_length] at hge
        go_wp2_with (first | (go_at_call 24; (with_reducible refine (blank_any b _ hb256).mono ?_); rintro e w' ⟨rfl, rfl⟩) | (go_at_call 25; (with_reducible refine (letter_any b _ hb256).mono ?_); rintro e w' ⟨rfl, rfl⟩) | (go_at_call 26; (with_reducible refine (wordEnd_any s i _ hs hi).mono ?_); rintro e w' ⟨rfl, rfl⟩) | (at_builtin; refine wpList_appendT rfl (.tmp 100) (.tmp 113) rfl w.heap.size _ _ (mkTok s ⟨0, i, run isIn (bs s) i⟩) _ _ _ _ _ rfl rfl ?_ HO.out ?_ ?_ ?_))
        · simp only [TokV.cells, mkTok, colOf]; rw [show ((i - lineStart (bs s) i + 1 : Nat) : Int) = (i : Int) - lineStart (bs s) i + 1 from by omega]; first | rfl | simp
        · rw [List.length_map]; omega
        · exact hbel.size
        intro v' w1 ho hb1 hz
        have hb2 := hb1 w hbel
        go_wp2_with fail
        go_roundw
        case rel => exact ⟨run isIn (bs s) i, ts ++ [⟨0, i, run isIn (bs s) i⟩], by omega, by go_num, by rw [HL.out.1], by rw [HL.out.2], by rw [List.map_append]; exact ho, hb2, by rw [List.length_append, List.length_singleton]; omega, by rw [← join_tok' ts hlt' H5.out (by decide)]; exact HJ.out⟩
        case measure => simp [intOf]; omega
      · have H6 := Lib.hid h6; have HB := Lib.hid hb; clear h6 hb
        have hle := le_numEnd (bs s) i
        have hge := numEnd_le (l := bs s) (k := i) (by rw [bs_length]; omega)
        rw [bs_length] at hge h5
        obtain ⟨h7, h8⟩ := h5
        have hstop := numEnd_stop (l := bs s) (k := i) (by rw [bs_length]; exact h7)
        have hjx := run_index_gb (P := Try.prog) s 9 Try.underlying9 (numEnd (bs s) i) h7
        rcases bad_cases (bs s) (numEnd (bs s) i) _ rfl hstop with ⟨_, hc⟩ | ⟨hc, _⟩
        · clear h8
          rcases hc with c1 | ⟨c1, c2⟩ | ⟨c1, c2, c3⟩ | ⟨c1, c2, c3, c4⟩
          all_goals
            go_wp2_with (first | (go_at_call 24; (with_reducible refine (blank_any b _ hb256).mono ?_); rintro e w' ⟨rfl, rfl⟩) | (go_at_call 25; (with_reducible refine (letter_any b _ hb256).mono ?_); rintro e w' ⟨rfl, rfl⟩) | (go_at_call 27; (with_reducible refine (digit_any b _ hb256).mono ?_); rintro e w' ⟨rfl, rfl⟩) | (go_at_call 28; (with_reducible refine (numberEnd_any s i _ hs hi).mono ?_); rintro e w' ⟨rfl, rfl⟩) | (go_at_call 25; (with_reducible refine (letter_any _ _ (bs_lt _ _)).mono ?_); rintro e w' ⟨rfl, rfl⟩))
            go_ret2
            exact ret_split (c := 2) (ts := []) (by rw [HC.out, ← HJ.out, join_err' ts hlt' H6.out (by decide)]) rfl rfl hbel (OwnT.nil _ _)
        · rw [hc] at h8; simp at h8
      · have H6 := Lib.hid h6; have HB := Lib.hid hb; clear h6 hb
        have HL := Lib.hid (line_number (l := bs s) (i := i) (by rw [bs_length]; omega))
        have hgt : i < numEnd (bs s) i := lt_numEnd hlt' (by rw [← HB.out]; exact h4)
        have hge := numEnd_le (l := bs s) (k := i) (by rw [bs_length]; omega)
        rw [bs_length] at hge h5
        by_cases h7 : numEnd (bs s) i < s.size
        · have h8 := h5 h7
          clear h5
          have hstop := numEnd_stop (l := bs s) (k := i) (by rw [bs_length]; exact h7)
          have hjx := run_index_gb (P := Try.prog) s 9 Try.underlying9 (numEnd (bs s) i) h7
          rcases bad_cases (bs s) (numEnd (bs s) i) _ rfl hstop with ⟨hc, _⟩ | ⟨_, c1, c2, c3, c4⟩
          · rw [hc] at h8; simp at h8
          clear h8 hstop
          go_wp2_with (first | (go_at_call 24; (with_reducible refine (blank_any b _ hb256).mono ?_); rintro e w' ⟨rfl, rfl⟩) | (go_at_call 25; (with_reducible refine (letter_any b _ hb256).mono ?_); rintro e w' ⟨rfl, rfl⟩) | (go_at_call 27; (with_reducible refine (digit_any b _ hb256).mono ?_); rintro e w' ⟨rfl, rfl⟩) | (go_at_call 28; (with_reducible refine (numberEnd_any s i _ hs hi).mono ?_); rintro e w' ⟨rfl, rfl⟩) | (go_at_call 25; (with_reducible refine (letter_any _ _ (bs_lt _ _)).mono ?_); rintro e w' ⟨rfl, rfl⟩) | (at_builtin; refine wpList_appendT rfl (.tmp 100) (.tmp 113) rfl w.heap.size _ _ (mkTok s ⟨1, i, numEnd (bs s) i⟩) _ _ _ _ _ rfl rfl ?_ HO.out ?_ ?_ ?_))
          · simp only [TokV.cells, mkTok, colOf]; rw [show ((i - lineStart (bs s) i + 1 : Nat) : Int) = (i : Int) - lineStart (bs s) i + 1 from by omega]; first | rfl | simp
          · rw [List.length_map]; omega
          · exact hbel.size
          intro v' w1 ho hb1 hz
          have hb2 := hb1 w hbel
          go_wp2_with fail
          go_roundw
          case rel => exact ⟨numEnd (bs s) i, ts ++ [⟨1, i, numEnd (bs s) i⟩], by omega, by go_num, by rw [HL.out.1], by rw [HL.out.2], by rw [List.map_append]; exact ho, hb2, by rw [List.length_append, List.length_singleton]; omega, by rw [← join_tok' ts hlt' H6.out (by decide)]; exact HJ.out⟩
          case measure => simp [intOf]; omega
        · clear h5
          go_wp2_with (first | (go_at_call 24; (with_reducible refine (blank_any b _ hb256).mono ?_); rintro e w' ⟨rfl, rfl⟩) | (go_at_call 25; (with_reducible refine (letter_any b _ hb256).mono ?_); rintro e w' ⟨rfl, rfl⟩) | (go_at_call 27; (with_reducible refine (digit_any b _ hb256).mono ?_); rintro e w' ⟨rfl, rfl⟩) | (go_at_call 28; (with_reducible refine (numberEnd_any s i _ hs hi).mono ?_); rintro e w' ⟨rfl, rfl⟩) | (go_at_call 25; (with_reducible refine (letter_any _ _ (bs_lt _ _)).mono ?_); rintro e w' ⟨rfl, rfl⟩) | (at_builtin; refine wpList_appendT rfl (.tmp 100) (.tmp 113) rfl w.heap.size _ _ (mkTok s ⟨1, i, numEnd (bs s) i⟩) _ _ _ _ _ rfl rfl ?_ HO.out ?_ ?_ ?_))
          · simp only [TokV.cells, mkTok, colOf]; rw [show ((i - lineStart (bs s) i + 1 : Nat) : Int) = (i : Int) - lineStart (bs s) i + 1 from by omega]; first | rfl | simp
          · rw [List.length_map]; omega
          · exact hbel.size
          intro v' w1 ho hb1 hz
          have hb2 := hb1 w hbel
          go_wp2_with fail
          go_roundw
          case rel => exact ⟨numEnd (bs s) i, ts ++ [⟨1, i, numEnd (bs s) i⟩], by omega, by go_num, by rw [HL.out.1], by rw [HL.out.2], by rw [List.map_append]; exact ho, hb2, by rw [List.length_append, List.length_singleton]; omega, by rw [← join_tok' ts hlt' H6.out (by decide)]; exact HJ.out⟩
          case measure => simp [intOf]; omega
      · have H6 := Lib.hid h6; have HB := Lib.hid hb; clear h6 hb
        have HL := Lib.hid (line_one hlt' (by rw [← HB.out]; exact isSign_ne h5))
        go_wp2_with (first | (go_at_call 24; (with_reducible refine (blank_any b _ hb256).mono ?_); rintro e w' ⟨rfl, rfl⟩) | (go_at_call 25; (with_reducible refine (letter_any b _ hb256).mono ?_); rintro e w' ⟨rfl, rfl⟩) | (go_at_call 27; (with_reducible refine (digit_any b _ hb256).mono ?_); rintro e w' ⟨rfl, rfl⟩) | (go_at_call 29; (with_reducible refine (sign_any b _ hb256).mono ?_); rintro e w' ⟨rfl, rfl⟩) | (at_builtin; refine wpList_appendT rfl (.tmp 100) (.tmp 113) rfl w.heap.size _ _ (mkTok s ⟨2, i, (i + 1)⟩) _ _ _ _ _ rfl rfl ?_ HO.out ?_ ?_ ?_))
        · simp only [TokV.cells, mkTok, colOf]; rw [show ((i - lineStart (bs s) i + 1 : Nat) : Int) = (i : Int) - lineStart (bs s) i + 1 from by omega]; first | rfl | simp
        · rw [List.length_map]; omega
        · exact hbel.size
        intro v' w1 ho hb1 hz
        have hb2 := hb1 w hbel
        go_wp2_with fail
        go_roundw
        case rel => exact ⟨(i + 1), ts ++ [⟨2, i, (i + 1)⟩], by omega, by go_num, by rw [HL.out.1], by rw [HL.out.2], by rw [List.map_append]; exact ho, hb2, by rw [List.length_append, List.length_singleton]; omega, by rw [← join_tok' ts hlt' H6.out (by decide)]; exact HJ.out⟩
        case measure => simp [intOf]; omega
      · have H6 := Lib.hid h6; have HB := Lib.hid hb; clear h6 hb
        go_wp2_with (first | (go_at_call 24; (with_reducible refine (blank_any b _ hb256).mono ?_); rintro e w' ⟨rfl, rfl⟩) | (go_at_call 25; (with_reducible refine (letter_any b _ hb256).mono ?_); rintro e w' ⟨rfl, rfl⟩) | (go_at_call 27; (with_reducible refine (digit_any b _ hb256).mono ?_); rintro e w' ⟨rfl, rfl⟩) | (go_at_call 29; (with_reducible refine (sign_any b _ hb256).mono ?_); rintro e w' ⟨rfl, rfl⟩))
        go_ret2
        exact ret_split (c := 2) (ts := []) (by rw [HC.out, ← HJ.out, join_err' ts hlt' H6.out (by decide)]) rfl rfl hbel (OwnT.nil _ _)
    · go_wp2_with fail
      go_ret2
      exact ret_split (c := 0) (ts := ts) (by rw [HC.out, ← HJ.out, join_end ts (by rw [bs_length]; omega)]) rfl rfl hbel HO.out
end Go.Proofs.Ytfmkpaegpiipoaa
