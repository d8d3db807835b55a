/-
  The texts TokSplit, TokRef, TokLaw0, ShelfB, TokPlace, TokMath7, TokV6, Close, one behind the other (what the law leans on).
  Conditions: each theorem's own.
-/
import Derived.Shelf.Strings.LastIndex
import Derived.Lib.Join
import Derived.Carry
import Derived.ShutString
import Derived.OpenShut
import Derived.Test.YtaefimegiobkmaaMN4
/-
  token.Split: what it hands back for any text.
  Conditions: none.
-/
namespace Go.Proofs.Ytaefimegiobkmaa
open Go.RowKit Go.ChangeShapes Go.WideShapes

/-- what Split leaves -/
def RetSplit (s : ByteArray) (w : World) (e : Ending) (w' : World) : Prop :=
  ∃ v, e = .returned (.tuple #[v, errV (splitL (bs s)).2]) ∧ Below w.heap.size w w' ∧ OwnT w' w.heap.size v ((splitL (bs s)).1.map (mkTok s))

theorem ret_split {s : ByteArray} {w w' : World} {x y v : Value} {c : Nat} {ts : List Tk} (hc : splitL (bs s) = (ts, c)) (h1 : x = v) (h2 : y = errV c)
    (hb : Below w.heap.size w w') (ho : OwnT w' w.heap.size v (ts.map (mkTok s))) : RetSplit s w (.returned (.tuple #[x, y])) w' :=
  ⟨v, by rw [h1, h2, hc], hb, by rw [hc]; exact ho⟩

set_option maxRecDepth 100000 in
set_option maxHeartbeats 4000000 in
theorem split_any (s : ByteArray) (w : World) :
    Calls Try.prog 6 #[.string s] w (RetSplit s w) := by
  by_cases hbig : 65536 < s.size
  · have hc : splitL (bs s) = ([], 4) := by unfold splitL; rw [bs_length, if_pos hbig]
    have HC := Lib.hid hc; clear hc
    go_enter Try.func6, Try.ntmps6
    go_wp2
    go_ret2
    exact ret_split HC.out rfl rfl (Below.refl _ _) (OwnT.nil _ _)
  have hs : s.size ≤ 9223372036854775806 := by omega
  have hc : splitL (bs s) = joinScan [] (scanAt (bs s) 0) := by unfold splitL; rw [bs_length, if_neg hbig, joinScan_nil]
  have HC := Lib.hid hc; clear hc
  go_enter Try.func6, Try.ntmps6
  go_wp2_with fail
  go_loopw [4, 5, 6, 7] (fun out line start at_ wr => ∃ (i : Nat) (ts : List Tk), i ≤ s.size ∧ at_ = .int .i64 i ∧ line = .int .i64 (lineOf (bs s) i : Nat) ∧ start = .int .i64 (lineStart (bs s) i : Nat) ∧
      OwnT wr w.heap.size out (ts.map (mkTok s)) ∧ Below w.heap.size w wr ∧ ts.length ≤ i ∧ joinScan ts (scanAt (bs s) i) = joinScan [] (scanAt (bs s) 0)) (fun _ _ _ i _ => s.size - (intOf i).toNat)
  case atStart => exact ⟨0, [], Nat.zero_le _, rfl, by simp [lineOf], rfl, OwnT.nil _ _, Below.refl _ _, Nat.le_refl _, rfl⟩
  case round =>
    obtain ⟨i, ts, hi, rfl, rfl, rfl, hown, hbel, hlen, hj⟩ := hrel
    have HJ := Lib.hid hj; clear hj
    have HO := Lib.hid hown; clear hown
    have hls := lineStart_le (bs s) i
    have hll : lineOf (bs s) i ≤ i + 1 := by unfold lineOf; have := List.count_le_length (a := 10) (l := (bs s).take i); rw [List.length_take] at this; omega
    by_cases hlt : i < s.size
    · have hix := run_index_gb (P := Try.prog) s 9 Try.underlying9 i hlt
      have hlt' : i < (bs s).length := by rw [bs_length]; exact hlt
      obtain ⟨b, hb⟩ : ∃ b, b = gd (bs s) i := ⟨_, rfl⟩
      have hb256 : b < 256 := by rw [hb]; exact bs_lt _ _
      rw [← hb] at hix
      rcases step_cases (bs s) i b hb with ⟨h1, h2, h3, h4⟩ | ⟨h1, h2, h3, h4⟩ | ⟨h1, h2, h3, h4⟩ | ⟨h1, h2, h3, h4, h5⟩ | ⟨h1, h2, h3, h4, h5⟩ | ⟨h1, h2, h3, h4, h5, h6⟩ | ⟨h1, h2, h3, h4, h5, h6⟩ | ⟨h1, h2, h3, h4, h5, h6⟩ | ⟨h1, h2, h3, h4, h5, h6⟩
      · have H4 := Lib.hid h4; have HB := Lib.hid hb; have H3 := Lib.hid h3; clear h4 hb h3
        go_wp2_with (go_at_call 16; (with_reducible refine (blank_any b _ hb256).mono ?_); rintro e w' ⟨rfl, rfl⟩)
        go_roundw
        case rel => exact ⟨i + 1, ts, by omega, by go_num, by rw [lineOf_succ hlt', ← HB.out, if_pos H3.out]; rfl, by simp only [lineStart]; rw [← HB.out, if_pos H3.out]; rfl, HO.out, hbel, by omega, by rw [← join_skip' ts hlt' H4.out]; exact HJ.out⟩
        case measure => simp [intOf]; omega
      · have H4 := Lib.hid h4; have HB := Lib.hid hb; have H3 := Lib.hid h3; clear h4 hb h3
        have HL := Lib.hid (line_one hlt' (by rw [← HB.out]; exact H3.out))
        go_wp2_with (go_at_call 16; (with_reducible refine (blank_any b _ hb256).mono ?_); rintro e w' ⟨rfl, rfl⟩)
        go_roundw
        case rel => exact ⟨i + 1, ts, by omega, by go_num, by rw [HL.out.1], by rw [HL.out.2], HO.out, hbel, by omega, by rw [← join_skip' ts hlt' H4.out]; exact HJ.out⟩
        case measure => simp [intOf]; omega
      · have H4 := Lib.hid h4; have HB := Lib.hid hb; have H3 := Lib.hid h3; clear h4 hb h3
        have HL := Lib.hid (line_comment (l := bs s) (i := i) (by rw [bs_length]; omega))
        have HR := Lib.hid (hash_run hlt' (by rw [← HB.out]; exact H3.out))
        have hle := le_run notLF (bs s) (i + 1)
        have hge := run_le (p := notLF) (l := bs s) (k := i) (by rw [bs_length]; omega)
        rw [bs_length] at hge
        have hgt : i < run notLF (bs s) i := by rw [HR.out]; omega
        go_wp2_with (go_at_call 16; (with_reducible refine (blank_any b _ hb256).mono ?_); rintro e w' ⟨rfl, rfl⟩)
        obtain ⟨wo, rfl⟩ : ∃ wo : World, wo = wr := ⟨_, rfl⟩
        go_loop [7] (fun x => ∃ j : Nat, i ≤ j ∧ j ≤ s.size ∧ x = .int .i64 j ∧ run notLF (bs s) j = run notLF (bs s) i) (fun x => s.size - (intOf x).toNat)
        case atStart => exact ⟨i, Nat.le_refl _, hi, rfl, rfl⟩
        case round =>
          obtain ⟨j, hij, hjs, rfl, hrun⟩ := hrel
          have HQ := Lib.hid hrun; clear hrun
          by_cases hjlt : j < s.size
          · have hjx := run_index_gb (P := Try.prog) s 9 Try.underlying9 j hjlt
            by_cases hlf : gd (bs s) j = 10
            · have h10 : ((gd (bs s) j : Int) != 10) = false := by simp [hlf]
              have HLF := Lib.hid hlf; clear hlf
              go_wp2_with fail
              have e1 : run notLF (bs s) i = j := by rw [← HQ.out, run_no (by rw [HLF.out]; rfl)]
              go_roundw
              case rel => exact ⟨j, ts, hjs, rfl, by rw [← e1, HL.out.1], by rw [← e1, HL.out.2], HO.out, hbel, by omega, by rw [← e1, ← join_skip' ts hlt' H4.out]; exact HJ.out⟩
              case measure => simp [intOf]; omega
            · have h10 : ((gd (bs s) j : Int) != 10) = true := by simp; omega
              have HLF := Lib.hid hlf; clear hlf
              go_wp2_with fail
              go_round
              case rel => exact ⟨j + 1, by omega, by omega, by go_num, by rw [run_yes (by rw [bs_length]; exact hjlt) (by simp [notLF, HLF.out])]; exact HQ.out⟩
              case measure => simp [intOf]; omega
          · go_wp2_with fail
            have e1 : run notLF (bs s) i = j := by rw [← HQ.out, run_end (by rw [bs_length]; omega)]
            go_roundw
            case rel => exact ⟨j, ts, hjs, rfl, by rw [← e1, HL.out.1], by rw [← e1, HL.out.2], HO.out, hbel, by omega, by rw [← e1, ← join_skip' ts hlt' H4.out]; exact HJ.out⟩
            case measure => simp [intOf]; omega
      · have H5 := Lib.hid h5; have HB := Lib.hid hb; clear h5 hb
        have hle := le_run isIn (bs s) i
        have hge := run_le (p := isIn) (l := bs s) (k := i) (by rw [bs_length]; omega)
        rw [bs_length] at hge
        go_wp2_with (first | (go_at_call 16; (with_reducible refine (blank_any b _ hb256).mono ?_); rintro e w' ⟨rfl, rfl⟩) | (go_at_call 17; (with_reducible refine (letter_any b _ hb256).mono ?_); rintro e w' ⟨rfl, rfl⟩) | (go_at_call 18; (with_reducible refine (wordEnd_any s i _ hs hi).mono ?_); rintro e w' ⟨rfl, rfl⟩))
        go_ret2
        exact ret_split (c := 5) (ts := []) (by rw [HC.out, ← HJ.out, join_err' ts hlt' H5.out (by decide)]) rfl rfl hbel (OwnT.nil _ _)
      · have H5 := Lib.hid h5; have HB := Lib.hid hb; clear h5 hb
        have HR := Lib.hid (letter_run hlt' (by rw [← HB.out]; exact h3))
        have HL := Lib.hid (line_word (l := bs s) (i := i) (by rw [bs_length]; omega))
        have hle := le_run isIn (bs s) i
        have hgt : i < run isIn (bs s) i := by rw [HR.out]; exact le_run _ _ _
        have hge := run_le (p := isIn) (l := bs s) (k := i) (by rw [bs_length]; omega)
        rw [bs_length] at hge
        go_wp2_with (first | (go_at_call 16; (with_reducible refine (blank_any b _ hb256).mono ?_); rintro e w' ⟨rfl, rfl⟩) | (go_at_call 17; (with_reducible refine (letter_any b _ hb256).mono ?_); rintro e w' ⟨rfl, rfl⟩) | (go_at_call 18; (with_reducible refine (wordEnd_any s i _ hs hi).mono ?_); rintro e w' ⟨rfl, rfl⟩) | (at_builtin; refine wpList_appendT rfl (.tmp 100) (.tmp 113) rfl w.heap.size _ _ (mkTok s ⟨0, i, run isIn (bs s) i⟩) _ _ _ _ _ rfl rfl ?_ HO.out ?_ ?_ ?_))
        · simp only [TokV.cells, mkTok, colOf]; rw [show ((i - lineStart (bs s) i + 1 : Nat) : Int) = (i : Int) - lineStart (bs s) i + 1 from by omega]; first | rfl | simp
        · rw [List.length_map]; omega
        · exact hbel.size
        intro v' w1 ho hb1 hz
        have hb2 := hb1 w hbel
        go_wp2_with fail
        go_roundw
        case rel => exact ⟨run isIn (bs s) i, ts ++ [⟨0, i, run isIn (bs s) i⟩], by omega, by go_num, by rw [HL.out.1], by rw [HL.out.2], by rw [List.map_append]; exact ho, hb2, by rw [List.length_append, List.length_singleton]; omega, by rw [← join_tok' ts hlt' H5.out (by decide)]; exact HJ.out⟩
        case measure => simp [intOf]; omega
      · have H6 := Lib.hid h6; have HB := Lib.hid hb; clear h6 hb
        have hle := le_numEnd (bs s) i
        have hge := numEnd_le (l := bs s) (k := i) (by rw [bs_length]; omega)
        rw [bs_length] at hge h5
        obtain ⟨h7, h8⟩ := h5
        have hstop := numEnd_stop (l := bs s) (k := i) (by rw [bs_length]; exact h7)
        have hjx := run_index_gb (P := Try.prog) s 9 Try.underlying9 (numEnd (bs s) i) h7
        rcases bad_cases (bs s) (numEnd (bs s) i) _ rfl hstop with ⟨_, hc⟩ | ⟨hc, _⟩
        · clear h8
          rcases hc with c1 | ⟨c1, c2⟩ | ⟨c1, c2, c3⟩ | ⟨c1, c2, c3, c4⟩
          all_goals
            go_wp2_with (first | (go_at_call 16; (with_reducible refine (blank_any b _ hb256).mono ?_); rintro e w' ⟨rfl, rfl⟩) | (go_at_call 17; (with_reducible refine (letter_any b _ hb256).mono ?_); rintro e w' ⟨rfl, rfl⟩) | (go_at_call 19; (with_reducible refine (digit_any b _ hb256).mono ?_); rintro e w' ⟨rfl, rfl⟩) | (go_at_call 20; (with_reducible refine (numberEnd_any s i _ hs hi).mono ?_); rintro e w' ⟨rfl, rfl⟩) | (go_at_call 17; (with_reducible refine (letter_any _ _ (bs_lt _ _)).mono ?_); rintro e w' ⟨rfl, rfl⟩))
            go_ret2
            exact ret_split (c := 2) (ts := []) (by rw [HC.out, ← HJ.out, join_err' ts hlt' H6.out (by decide)]) rfl rfl hbel (OwnT.nil _ _)
        · rw [hc] at h8; simp at h8
      · have H6 := Lib.hid h6; have HB := Lib.hid hb; clear h6 hb
        have HL := Lib.hid (line_number (l := bs s) (i := i) (by rw [bs_length]; omega))
        have hgt : i < numEnd (bs s) i := lt_numEnd hlt' (by rw [← HB.out]; exact h4)
        have hge := numEnd_le (l := bs s) (k := i) (by rw [bs_length]; omega)
        rw [bs_length] at hge h5
        by_cases h7 : numEnd (bs s) i < s.size
        · have h8 := h5 h7
          clear h5
          have hstop := numEnd_stop (l := bs s) (k := i) (by rw [bs_length]; exact h7)
          have hjx := run_index_gb (P := Try.prog) s 9 Try.underlying9 (numEnd (bs s) i) h7
          rcases bad_cases (bs s) (numEnd (bs s) i) _ rfl hstop with ⟨hc, _⟩ | ⟨_, c1, c2, c3, c4⟩
          · rw [hc] at h8; simp at h8
          clear h8 hstop
          go_wp2_with (first | (go_at_call 16; (with_reducible refine (blank_any b _ hb256).mono ?_); rintro e w' ⟨rfl, rfl⟩) | (go_at_call 17; (with_reducible refine (letter_any b _ hb256).mono ?_); rintro e w' ⟨rfl, rfl⟩) | (go_at_call 19; (with_reducible refine (digit_any b _ hb256).mono ?_); rintro e w' ⟨rfl, rfl⟩) | (go_at_call 20; (with_reducible refine (numberEnd_any s i _ hs hi).mono ?_); rintro e w' ⟨rfl, rfl⟩) | (go_at_call 17; (with_reducible refine (letter_any _ _ (bs_lt _ _)).mono ?_); rintro e w' ⟨rfl, rfl⟩) | (at_builtin; refine wpList_appendT rfl (.tmp 100) (.tmp 113) rfl w.heap.size _ _ (mkTok s ⟨1, i, numEnd (bs s) i⟩) _ _ _ _ _ rfl rfl ?_ HO.out ?_ ?_ ?_))
          · simp only [TokV.cells, mkTok, colOf]; rw [show ((i - lineStart (bs s) i + 1 : Nat) : Int) = (i : Int) - lineStart (bs s) i + 1 from by omega]; first | rfl | simp
          · rw [List.length_map]; omega
          · exact hbel.size
          intro v' w1 ho hb1 hz
          have hb2 := hb1 w hbel
          go_wp2_with fail
          go_roundw
          case rel => exact ⟨numEnd (bs s) i, ts ++ [⟨1, i, numEnd (bs s) i⟩], by omega, by go_num, by rw [HL.out.1], by rw [HL.out.2], by rw [List.map_append]; exact ho, hb2, by rw [List.length_append, List.length_singleton]; omega, by rw [← join_tok' ts hlt' H6.out (by decide)]; exact HJ.out⟩
          case measure => simp [intOf]; omega
        · clear h5
          go_wp2_with (first | (go_at_call 16; (with_reducible refine (blank_any b _ hb256).mono ?_); rintro e w' ⟨rfl, rfl⟩) | (go_at_call 17; (with_reducible refine (letter_any b _ hb256).mono ?_); rintro e w' ⟨rfl, rfl⟩) | (go_at_call 19; (with_reducible refine (digit_any b _ hb256).mono ?_); rintro e w' ⟨rfl, rfl⟩) | (go_at_call 20; (with_reducible refine (numberEnd_any s i _ hs hi).mono ?_); rintro e w' ⟨rfl, rfl⟩) | (go_at_call 17; (with_reducible refine (letter_any _ _ (bs_lt _ _)).mono ?_); rintro e w' ⟨rfl, rfl⟩) | (at_builtin; refine wpList_appendT rfl (.tmp 100) (.tmp 113) rfl w.heap.size _ _ (mkTok s ⟨1, i, numEnd (bs s) i⟩) _ _ _ _ _ rfl rfl ?_ HO.out ?_ ?_ ?_))
          · simp only [TokV.cells, mkTok, colOf]; rw [show ((i - lineStart (bs s) i + 1 : Nat) : Int) = (i : Int) - lineStart (bs s) i + 1 from by omega]; first | rfl | simp
          · rw [List.length_map]; omega
          · exact hbel.size
          intro v' w1 ho hb1 hz
          have hb2 := hb1 w hbel
          go_wp2_with fail
          go_roundw
          case rel => exact ⟨numEnd (bs s) i, ts ++ [⟨1, i, numEnd (bs s) i⟩], by omega, by go_num, by rw [HL.out.1], by rw [HL.out.2], by rw [List.map_append]; exact ho, hb2, by rw [List.length_append, List.length_singleton]; omega, by rw [← join_tok' ts hlt' H6.out (by decide)]; exact HJ.out⟩
          case measure => simp [intOf]; omega
      · have H6 := Lib.hid h6; have HB := Lib.hid hb; clear h6 hb
        have HL := Lib.hid (line_one hlt' (by rw [← HB.out]; exact isSign_ne h5))
        go_wp2_with (first | (go_at_call 16; (with_reducible refine (blank_any b _ hb256).mono ?_); rintro e w' ⟨rfl, rfl⟩) | (go_at_call 17; (with_reducible refine (letter_any b _ hb256).mono ?_); rintro e w' ⟨rfl, rfl⟩) | (go_at_call 19; (with_reducible refine (digit_any b _ hb256).mono ?_); rintro e w' ⟨rfl, rfl⟩) | (go_at_call 21; (with_reducible refine (tsign_any b _ hb256).mono ?_); rintro e w' ⟨rfl, rfl⟩) | (at_builtin; refine wpList_appendT rfl (.tmp 100) (.tmp 113) rfl w.heap.size _ _ (mkTok s ⟨2, i, (i + 1)⟩) _ _ _ _ _ rfl rfl ?_ HO.out ?_ ?_ ?_))
        · simp only [TokV.cells, mkTok, colOf]; rw [show ((i - lineStart (bs s) i + 1 : Nat) : Int) = (i : Int) - lineStart (bs s) i + 1 from by omega]; first | rfl | simp
        · rw [List.length_map]; omega
        · exact hbel.size
        intro v' w1 ho hb1 hz
        have hb2 := hb1 w hbel
        go_wp2_with fail
        go_roundw
        case rel => exact ⟨(i + 1), ts ++ [⟨2, i, (i + 1)⟩], by omega, by go_num, by rw [HL.out.1], by rw [HL.out.2], by rw [List.map_append]; exact ho, hb2, by rw [List.length_append, List.length_singleton]; omega, by rw [← join_tok' ts hlt' H6.out (by decide)]; exact HJ.out⟩
        case measure => simp [intOf]; omega
      · have H6 := Lib.hid h6; have HB := Lib.hid hb; clear h6 hb
        go_wp2_with (first | (go_at_call 16; (with_reducible refine (blank_any b _ hb256).mono ?_); rintro e w' ⟨rfl, rfl⟩) | (go_at_call 17; (with_reducible refine (letter_any b _ hb256).mono ?_); rintro e w' ⟨rfl, rfl⟩) | (go_at_call 19; (with_reducible refine (digit_any b _ hb256).mono ?_); rintro e w' ⟨rfl, rfl⟩) | (go_at_call 21; (with_reducible refine (tsign_any b _ hb256).mono ?_); rintro e w' ⟨rfl, rfl⟩))
        go_ret2
        exact ret_split (c := 2) (ts := []) (by rw [HC.out, ← HJ.out, join_err' ts hlt' H6.out (by decide)]) rfl rfl hbel (OwnT.nil _ _)
    · go_wp2_with fail
      go_ret2
      exact ret_split (c := 0) (ts := ts) (by rw [HC.out, ← HJ.out, join_end ts (by rw [bs_length]; omega)]) rfl rfl hbel HO.out
end Go.Proofs.Ytaefimegiobkmaa
/-
  The reference's Place, token and Split: what they hand back for any text.
  Conditions: the text is no longer than an int can say; each theorem's own.
-/
namespace Go.Proofs.Ytaefimegiobkmaa
open Go.RowKit Go.ChangeShapes Go.WideShapes

/-- a place, moved into the text -/
def clampN (at_ : Int) (n : Nat) : Nat := (max 0 (min at_ n)).toNat
theorem clampN_le (at_ : Int) (n : Nat) : clampN at_ n ≤ n := by unfold clampN; omega
theorem col_zero (l : List Nat) : colOf l 0 = 1 := by simp [colOf, lineStart]
theorem col_succ (l : List Nat) (k : Nat) : colOf l (k + 1) = if gd l k = 10 then 1 else colOf l k + 1 := by
  have := lineStart_le l k
  unfold colOf; simp only [lineStart]; split <;> omega
theorem line_zero (l : List Nat) : lineOf l 0 = 1 := by simp [lineOf]
theorem line_le (l : List Nat) (k : Nat) : lineOf l k ≤ k + 1 := by
  unfold lineOf; have := List.count_le_length (a := 10) (l := l.take k); rw [List.length_take] at this; omega
theorem col_le (l : List Nat) (k : Nat) : colOf l k ≤ k + 1 := by unfold colOf; omega

set_option maxRecDepth 100000 in
set_option maxHeartbeats 800000 in
theorem rplace_any (s : ByteArray) (at_ : Int) (w : World) (hs : s.size ≤ 9223372036854775806) :
    Calls Try.prog 12 #[.string s, .int .i64 at_] w (RetS w (.tuple #[.int .i64 (lineOf (bs s) (clampN at_ s.size) : Nat), .int .i64 (colOf (bs s) (clampN at_ s.size) : Nat)])) := by
  obtain ⟨a, ha⟩ : ∃ a, a = clampN at_ s.size := ⟨_, rfl⟩
  have hle : a ≤ s.size := by rw [ha]; exact clampN_le _ _
  have hmx : max 0 (min at_ (s.size : Int)) = (a : Int) := by rw [ha]; unfold clampN; omega
  rw [← ha]
  have HA := Lib.hid ha; clear ha
  go_enter Try.func12, Try.ntmps12
  go_wp2_with fail
  go_loop [4, 5, 13] (fun x y z => ∃ k : Nat, k ≤ a ∧ z = .int .i64 k ∧ x = .int .i64 (lineOf (bs s) k : Nat) ∧ y = .int .i64 (colOf (bs s) k : Nat)) (fun _ _ z => a - (intOf z).toNat)
  case atStart => exact ⟨0, Nat.zero_le _, rfl, by rw [line_zero]; rfl, by rw [col_zero]; rfl⟩
  case round =>
    obtain ⟨k, hk, rfl, rfl, rfl⟩ := hrel
    have h1 := line_le (bs s) k
    have h2 := col_le (bs s) k
    by_cases hlt : k < a
    · have hix := run_index_gb (P := Try.prog) s 9 Try.underlying9 k (by omega)
      by_cases h10 : gd (bs s) k = 10
      · have hb : ((gd (bs s) k : Int) == 10) = true := by simp [h10]
        have H10 := Lib.hid h10; clear h10
        go_wp2_with fail
        go_round
        case rel => exact ⟨k + 1, by omega, by go_num, by rw [lineOf_succ (by rw [bs_length]; omega), if_pos H10.out]; rfl, by rw [col_succ, if_pos H10.out]; rfl⟩
        case measure => simp [intOf]; omega
      · have hb : ((gd (bs s) k : Int) == 10) = false := by simp; omega
        have H10 := Lib.hid h10; clear h10
        go_wp2_with fail
        go_round
        case rel => exact ⟨k + 1, by omega, by go_num, by rw [lineOf_succ (by rw [bs_length]; omega), if_neg H10.out]; rfl, by rw [col_succ, if_neg H10.out]; rfl⟩
        case measure => simp [intOf]; omega
    · obtain rfl : k = a := by omega
      go_wp2_with fail
      go_ret2
      exact ⟨rfl, rfl⟩

end Go.Proofs.Ytaefimegiobkmaa
/-
  Errors by their numbers; whether two lists of tokens are the same.
  Conditions: each theorem's own.
-/
namespace Go.Proofs.Ytaefimegiobkmaa
open Go.RowKit Go.ChangeShapes Go.WideShapes

/-- two calls of Split at texts that are written out -/
def ex1 : ByteArray := ⟨#[103, 97, 116, 101, 32, 103, 49, 32, 97, 110, 100, 32, 97, 64, 98, 32, 35, 32, 99]⟩
def ex2 : ByteArray := ⟨#[49, 47, 50, 47, 51]⟩
def ex1toks : List Tk := [⟨0, 0, 4⟩, ⟨0, 5, 7⟩, ⟨0, 8, 11⟩, ⟨0, 12, 13⟩, ⟨2, 13, 14⟩, ⟨0, 14, 15⟩]
theorem ex1_split : splitL (bs ex1) = (ex1toks, 0) := by kernel_rfl
theorem ex2_split : splitL (bs ex2) = ([], 2) := by kernel_rfl
/-- what the two calls leave, in words that the walk does not open -/
def RetEx1 (w : World) (e : Ending) (w' : World) : Prop :=
  ∃ g c, e = .returned (.tuple #[.slice (some ⟨g, 0, none⟩) 6 c, .nilIface]) ∧ Below w.heap.size w w' ∧ w.heap.size ≤ g ∧ g < w'.heap.size ∧
    w'.cell? ⟨g, 20, none⟩ = some (.int .i64 2) ∧ w'.cell? ⟨g, 21, none⟩ = some (.string ⟨#[64]⟩) ∧ w'.cell? ⟨g, 22, none⟩ = some (.int .i64 13) ∧ w'.cell? ⟨g, 23, none⟩ = some (.int .i64 1) ∧
    w'.cell? ⟨g, 24, none⟩ = some (.int .i64 14) ∧ w'.cell? ⟨g, 26, none⟩ = some (.string ⟨#[98]⟩)
theorem ex1_any (w : World) : Calls Try.prog 6 #[.string ⟨#[103, 97, 116, 101, 32, 103, 49, 32, 97, 110, 100, 32, 97, 64, 98, 32, 35, 32, 99]⟩] w (RetEx1 w) := by
  refine (split_any ex1 w).mono ?_
  rintro e w' ⟨v, rfl, hb, ho⟩
  rw [ex1_split] at ho ⊢
  have hl := World.ownsRow.lt ho
  rcases ho.2 with ⟨_, hn⟩ | ⟨g, cap, cur, rfl, hbg, hh, hcap, hm, hs, ht⟩
  · simp [ex1toks] at hn
  have hc := World.ownsRow.cells (g := g) ho rfl
  have hc' : ∀ j u, (tokCells (ex1toks.map (mkTok ex1)))[j + 1]? = some u → w'.cell? ⟨g, j + 1, none⟩ = some u := by
    intro j u hu
    have := hc (j + 1) u hu
    rw [Addr.add, if_neg (by omega)] at this
    simpa using this
  exact ⟨g, cap, rfl, hb, hbg, (hl g rfl).2, hc' 19 _ (by kernel_rfl), hc' 20 _ (by kernel_rfl), hc' 21 _ (by kernel_rfl), hc' 22 _ (by kernel_rfl), hc' 23 _ (by kernel_rfl), hc' 25 _ (by kernel_rfl)⟩
def RetEx2 (w : World) (e : Ending) (w' : World) : Prop := ∃ v, e = .returned (.tuple #[v, errV 2]) ∧ Below w.heap.size w w'
theorem ex2_any (w : World) : Calls Try.prog 6 #[.string ⟨#[49, 47, 50, 47, 51]⟩] w (RetEx2 w) := by
  refine (split_any ex2 w).mono ?_
  rintro e w' ⟨v, rfl, hb, ho⟩
  rw [ex2_split]
  exact ⟨v, rfl, hb⟩

set_option maxRecDepth 100000 in
set_option maxHeartbeats 1000000 in
theorem tawake_any (w : World) : Calls Try.prog 5 #[] w (RetV w (.bool true)) := by
  go_enter Try.func5, Try.ntmps5
  go_wp2_with fail
  (with_reducible refine (ex1_any _).mono ?_)
  rintro e w1 ⟨g, c, rfl, hb1, hg1, hg2, k0, k1, k2, k3, k4, k5⟩
  go_wp2_with fail
  (with_reducible refine (ex2_any _).mono ?_)
  rintro e w2 ⟨v2, rfl, hb2⟩
  have m0 := (hb2.cell (p := ⟨g, 20, none⟩) hg2).trans k0
  have m1 := (hb2.cell (p := ⟨g, 21, none⟩) hg2).trans k1
  have m2 := (hb2.cell (p := ⟨g, 22, none⟩) hg2).trans k2
  have m3 := (hb2.cell (p := ⟨g, 23, none⟩) hg2).trans k3
  have m4 := (hb2.cell (p := ⟨g, 24, none⟩) hg2).trans k4
  have m5 := (hb2.cell (p := ⟨g, 26, none⟩) hg2).trans k5
  clear k0 k1 k2 k3 k4 k5
  go_wp2_with (go_at_call 8; (with_reducible refine (is_any 2 2 2 _ rfl (by decide)).mono ?_); rintro e w' ⟨rfl, rfl⟩)
  go_ret
  exact ⟨rfl, hb1.trans (hb2.mono hb1.size)⟩
end Go.Proofs.Ytaefimegiobkmaa
/-
  DERIVED: THE SHELF's CONTRACTS AT THIS DUMP, IN PLAIN WORDS (tools/lay-plain.mjs out of 'TryShelfPick.lean', which tools/lay-shelf.mjs wrote): THE SAME DECLARATIONS UNDER THE SAME NAMES: 'import', 'namespace', 'open', 'def', 'theorem' AND NOTHING ELSE: no command of the shelf's: FOR A HAND-IN. Each laying: the table of numbers ('.._ren') and one theorem, a field a fact of the dump's own or the kernel's comparison; each contract: ONE APPLICATION.
-/
namespace Go.Proofs
open Go.Shelf
def Try.lays138_ren : Go.Shelf.Ren := ⟨fun | 138 => 34 | 195 => 56 | 218 => 57 | 143 => 58 | 219 => 61 | 217 => 60 | 225 => 79 | 224 => 80 | 267 => 81 | 266 => 78 | 314 => 93 | n => n, fun | 9 => 9 | 3 => 3 | 4 => 4 | 5 => 5 | 0 => 0 | 46 => 76 | 146 => 91 | 51 => 70 | n => n, fun | 1 => 0 | n => n⟩
theorem Try.lays138 : Go.Proofs.Lays.n138 Try.prog Try.lays138_ren := {
  mixed := by kernel_rfl
  f138 := Try.func34.trans (congrArg some (by kernel_rfl))
  f143 := Try.func58.trans (congrArg some (by kernel_rfl))
  f195 := Try.func56.trans (congrArg some (by kernel_rfl))
  f217 := Try.func60.trans (congrArg some (by kernel_rfl))
  f218 := Try.func57.trans (congrArg some (by kernel_rfl))
  f219 := Try.func61.trans (congrArg some (by kernel_rfl))
  f224 := Try.func80.trans (congrArg some (by kernel_rfl))
  f225 := Try.func79.trans (congrArg some (by kernel_rfl))
  f266 := Try.func78.trans (congrArg some (by kernel_rfl))
  f267 := Try.func81.trans (congrArg some (by kernel_rfl))
  f314 := Try.func93.trans (congrArg some (by kernel_rfl))
  t0 := Try.underlying0
  a0 := Try.isAgg0
  z0 := Try.sizeOf0
  v0 := Try.zeroValue0
  t3 := Try.underlying3
  a3 := Try.isAgg3
  z3 := Try.sizeOf3
  v3 := Try.zeroValue3
  t4 := Try.underlying4
  a4 := Try.isAgg4
  z4 := Try.sizeOf4
  v4 := Try.zeroValue4
  t5 := Try.underlying5
  a5 := Try.isAgg5
  z5 := Try.sizeOf5
  v5 := Try.zeroValue5
  t9 := Try.underlying9
  a9 := Try.isAgg9
  z9 := Try.sizeOf9
  v9 := Try.zeroValue9
  t46 := Try.underlying76
  a46 := Try.isAgg76
  z46 := Try.sizeOf76
  v46 := Try.zeroValue76
  t51 := Try.underlying70
  a51 := Try.isAgg70
  z51 := Try.sizeOf70
  v51 := Try.zeroValue70
  t146 := Try.underlying91
  a146 := Try.isAgg91
  z146 := Try.sizeOf91
  v146 := Try.zeroValue91
  g1 := by kernel_rfl }
open Go.RowKit Go.Lib in
/-- strings.Count AT A substr OF ONE BYTE ('hp'): "Count counts the number of non-overlapping instances of substr in s.": IT RETURNS 'Lib.countByte s (that byte)'; the world is as it was. ✋ NO CONTRACT HERE YET at an empty substr (utf8.RuneCountInString) or at a longer one (a loop over strings.Index). (LAID: no walk: one application.) -/
theorem Try.strings_Count_one (s : ByteArray) (c : UInt8) (w : World) :
    Calls Try.prog 34 #[.string s, .string ⟨#[c]⟩] w fun e w' => e = .returned (.int .i64 (Lib.countByte s.data.toList c)) ∧ w' = w := Any.strings_Count_one Try.lays138 s c w
def Try.lays149_ren : Go.Shelf.Ren := ⟨fun | 149 => 35 | 222 => 59 | n => n, fun | 9 => 9 | 5 => 5 | 3 => 3 | 4 => 4 | n => n, fun | n => n⟩
theorem Try.lays149 : Go.Proofs.Lays.n149 Try.prog Try.lays149_ren := {
  mixed := by kernel_rfl
  f149 := Try.func35.trans (congrArg some (by kernel_rfl))
  f222 := Try.func59.trans (congrArg some (by kernel_rfl))
  t3 := Try.underlying3
  a3 := Try.isAgg3
  z3 := Try.sizeOf3
  v3 := Try.zeroValue3
  t4 := Try.underlying4
  a4 := Try.isAgg4
  z4 := Try.sizeOf4
  v4 := Try.zeroValue4
  t5 := Try.underlying5
  a5 := Try.isAgg5
  z5 := Try.sizeOf5
  v5 := Try.zeroValue5
  t9 := Try.underlying9
  a9 := Try.isAgg9
  z9 := Try.sizeOf9
  v9 := Try.zeroValue9 }
open Go.RowKit Go.Lib in
/-- strings.LastIndexByte: "LastIndexByte returns the index of the last instance of c in s, or -1 if c is not present in s." (LAID: no walk: one application.) -/
theorem Try.strings_LastIndexByte (s : ByteArray) (c : Int) (hs : s.size < 4611686018427387904) (w : World) :
    Calls Try.prog 35 #[.string s, .int .u8 c] w fun e w' => e = .returned (.int .i64 (Lib.lastIndexByte s c)) ∧ w' = w := Any.strings_LastIndexByte Try.lays149 s c hs w
end Go.Proofs
/-
  token.Place and token.Join: what they hand back.
  Conditions: each theorem's own.
-/
namespace Go.Proofs.Ytaefimegiobkmaa
open Go.RowKit Go.ChangeShapes Go.WideShapes

theorem lastIdx_line (s : ByteArray) (k : Nat) (hk : k ≤ s.size) : Lib.lastIdx s 10 k = (lineStart (bs s) k : Int) - 1 := by
  induction k with
  | zero => rfl
  | succ k ih =>
    have hb : (s.data[k]!).toNat = gd (bs s) k := by
      rw [bs_getElem s k (by omega)]
      have : k < s.data.size := by have : s.data.size = s.size := rfl
                                   omega
      rw [getElem!_pos s.data k this]; rfl
    simp only [Lib.lastIdx, lineStart]
    rw [hb]
    by_cases h10 : gd (bs s) k = 10
    · rw [if_pos (by omega), if_pos h10]; omega
    · rw [if_neg (by omega), if_neg h10]; exact ih (by omega)
theorem lineStart_take (l : List Nat) (a k : Nat) (h : k ≤ a) : lineStart (l.take a) k = lineStart l k := by
  induction k with
  | zero => rfl
  | succ k ih =>
    have e : gd (l.take a) k = gd l k := by rw [gd_take, if_pos (by omega)]
    simp only [lineStart]
    rw [e, ih (by omega)]
theorem count_byte (s : ByteArray) : Lib.countByte s.data.toList 10 = (bs s).count 10 := by
  unfold Lib.countByte bs
  rw [show (10 : Nat) = UInt8.toNat 10 from rfl, List.count_eq_countP, List.count_eq_countP, List.countP_map]
  apply List.countP_congr
  intro x _
  simp only [Function.comp_apply, beq_iff_eq]
  constructor
  · intro h; rw [h]
  · intro h; exact UInt8.toNat_inj.1 h

set_option maxRecDepth 100000 in
set_option maxHeartbeats 800000 in
theorem place_any (s : ByteArray) (at_ : Int) (w : World) (hs : s.size ≤ 4000000000000000000) :
    Calls Try.prog 11 #[.string s, .int .i64 at_] w (RetV w (.tuple #[.int .i64 (lineOf (bs s) (clampN at_ s.size) : Nat), .int .i64 (colOf (bs s) (clampN at_ s.size) : Nat)])) := by
  obtain ⟨a, ha⟩ : ∃ a, a = clampN at_ s.size := ⟨_, rfl⟩
  have hle : a ≤ s.size := by rw [ha]; exact clampN_le _ _
  have hmx : max 0 (min at_ (s.size : Int)) = (a : Int) := by rw [ha]; unfold clampN; omega
  rw [← ha]
  have HA := Lib.hid ha; clear ha
  have hsl : ∀ wx : World, (Instr.slice 9 (.string s) none (some (.int .i64 (a : Int))) none).run Try.prog wx = .ok (.string (s.extract 0 a)) wx := fun wx => by
    rw [run_slice_string_to_if (P := Try.prog) wx 9 s .i64 a Try.underlying9, if_pos (by omega)]; simp
  obtain ⟨pre, hpre⟩ : ∃ pre, pre = s.extract 0 a := ⟨_, rfl⟩
  have hps : pre.size = a := by rw [hpre, ByteArray.size_extract]; omega
  have hbp : bs pre = (bs s).take a := by rw [hpre, bs_extract]; simp
  rw [← hpre] at hsl
  have hcount : (1 : Int) + (Lib.countByte pre.data.toList 10 : Nat) = (lineOf (bs s) a : Nat) := by
    rw [count_byte, hbp]; unfold lineOf; omega
  have hlast : (a : Int) - Lib.lastIndexByte pre 10 = (colOf (bs s) a : Nat) := by
    have h1 := lastIdx_line pre a (by omega)
    have h2 := lineStart_take (bs s) a a (Nat.le_refl _)
    have h3 := lineStart_le (bs s) a
    unfold Lib.lastIndexByte colOf
    rw [hps, h1, hbp, h2]; omega
  have hps' : pre.size < 4611686018427387904 := by omega
  have hl1 := line_le (bs s) a
  have hl2 := col_le (bs s) a
  have hq1 := fun wx => Try.strings_Count_one pre 10 wx
  have hq2 := fun wx => Try.strings_LastIndexByte pre 10 hps' wx
  have HQ1 := Lib.hid hq1; have HQ2 := Lib.hid hq2
  clear hps hbp hpre hq1 hq2 hle
  go_enter Try.func11, Try.ntmps11
  go_wp2_with fail
  go_quiet ((first | (go_at_call 34; exact Calls.quiet_of_same (HQ1.out _)) | (go_at_call 35; exact Calls.quiet_of_same (HQ2.out _))))
  go_wp2_with fail
  go_ret2
  exact ⟨rfl, below_drewN (Below.refl _ _) _⟩

/-- a slice of texts of the call's own -/
def OwnS (w : World) (B : Nat) (v : Value) (xs : List ByteArray) : Prop := w.ownsRow B 9 1 v xs.length (xs.map Value.string)
theorem OwnS.nil (w : World) (B : Nat) : OwnS w B (.slice none 0 0) [] := World.ownsRow_nil _ _ _ _
theorem OwnS.alloc {w : World} {B : Nat} {v : Value} {xs : List ByteArray} (h : OwnS w B v xs) (o : Obj) : OwnS (w.alloc o) B v xs := World.ownsRow.alloc h o
section
variable {w : World} {ops : Array Oper} {rest : List Oper} {o : Oper} {a : Act} {Q : Exit → Act → World → Prop}
end

end Go.Proofs.Ytaefimegiobkmaa
/-
  The tokens of a text: what their texts are, and that no two words or numbers touch.
  Conditions: none beyond each theorem's own.
-/
namespace Go.Proofs.Ytaefimegiobkmaa

theorem run_full {p : Nat → Bool} {m : List Nat} {k : Nat} (hk : k ≤ m.length) (h : ∀ j, k ≤ j → j < m.length → p (gd m j) = true) : run p m k = m.length := by
  by_cases hlt : run p m k < m.length
  · have h1 := run_stop (p := p) (l := m) _ k (Nat.le_refl _) hlt
    rw [h _ (le_run p m k) hlt] at h1; cases h1
  · have := run_le (p := p) hk; omega
end Go.Proofs.Ytaefimegiobkmaa
/-
  Whether a text is a name: token.Name and the reference's.
  Conditions: each theorem's own.
-/
namespace Go.Proofs.Ytaefimegiobkmaa
open Go.RowKit Go.ChangeShapes Go.WideShapes

theorem isName_small {l : List Nat} (h : ¬ (0 < l.length ∧ l.length ≤ 24)) : isName l = false := by unfold isName; rw [decide_eq_false h]; rfl
theorem isName_first {l : List Nat} (h : isLetter (gd l 0) = false) : isName l = false := by unfold isName; rw [h]; simp
theorem isName_rest {l : List Nat} (h : 0 < l.length ∧ l.length ≤ 24) (h1 : isLetter (gd l 0) = true) : isName l = decide (run isIn l 0 = l.length) := by unfold isName; rw [decide_eq_true h, h1]; rfl
set_option maxRecDepth 100000 in
set_option maxHeartbeats 1600000 in
theorem name_any (s : ByteArray) (w : World) (hs : s.size ≤ 9223372036854775806) :
    Calls Try.prog 9 #[.string s] w (RetS w (.bool (isName (bs s)))) := by
  have hlen := bs_length s
  by_cases h0 : s.size = 0
  · rw [isName_small (by omega)]
    have f1 : decide ((0 : Int) < (s.size : Int)) = false := decide_eq_false (by omega)
    have g1 : decide (0 < s.size) = false := decide_eq_false (by omega)
    have g2 : (0 < s.size) = False := eq_false (by omega)
    clear hlen h0
    go_enter Try.func9, Try.ntmps9
    go_wp2_with fail
    go_ret; exact ⟨rfl, rfl⟩
  have f1 : decide ((0 : Int) < (s.size : Int)) = true := decide_eq_true (by omega)
  have g1 : decide (0 < s.size) = true := decide_eq_true (by omega)
  have g2 : (0 < s.size) = True := eq_true (by omega)
  by_cases h1 : 24 < s.size
  · rw [isName_small (by omega)]
    have f2 : decide ((s.size : Int) ≤ 24) = false := decide_eq_false (by omega)
    clear hlen h0
    go_enter Try.func9, Try.ntmps9
    go_wp2_with fail
    go_ret; exact ⟨rfl, rfl⟩
  have f2 : decide ((s.size : Int) ≤ 24) = true := decide_eq_true (by omega)
  have hix := run_index_gb (P := Try.prog) s 9 Try.underlying9 0 (by omega)
  rw [show ((0 : Nat) : Int) = 0 from rfl] at hix
  have hb := bs_lt s 0
  cases hl : isLetter (gd (bs s) 0) with
  | false =>
    rw [isName_first hl]
    obtain ⟨b, hbb⟩ : ∃ b, b = gd (bs s) 0 := ⟨_, rfl⟩
    rw [← hbb] at hix hb hl
    have hc := fun wx => letter_any b wx hb
    rw [hl] at hc
    have HC := Lib.hid hc; clear hc hbb hl hlen h0
    go_enter Try.func9, Try.ntmps9
    go_wp2_with (go_at_call 17; (with_reducible refine (HC.out _).mono ?_); rintro e w' ⟨rfl, rfl⟩)
    go_ret; exact ⟨rfl, rfl⟩
  | true =>
    rw [isName_rest (by omega) hl]
    obtain ⟨E, hE⟩ : ∃ E, E = run isIn (bs s) 0 := ⟨_, rfl⟩
    have hw := fun wx => wordEnd_any s 0 wx hs (Nat.zero_le _)
    rw [← hE] at hw ⊢
    rw [hlen]
    rw [show ((0 : Nat) : Int) = 0 from rfl] at hw
    obtain ⟨b, hbb⟩ : ∃ b, b = gd (bs s) 0 := ⟨_, rfl⟩
    rw [← hbb] at hix hb hl
    have hc := fun wx => letter_any b wx hb
    rw [hl] at hc
    have HC := Lib.hid hc; have HW := Lib.hid hw
    rw [show decide (E = s.size) = ((E : Int) == (s.size : Int)) from by rw [Bool.eq_iff_iff]; simp only [decide_eq_true_eq, beq_iff_eq]; omega]
    clear hc hw hbb hl hlen h0 hE
    go_enter Try.func9, Try.ntmps9
    go_wp2_with (first | (go_at_call 17; (with_reducible refine (HC.out _).mono ?_); rintro e w' ⟨rfl, rfl⟩) | (go_at_call 18; (with_reducible refine (HW.out _).mono ?_); rintro e w' ⟨rfl, rfl⟩))
    go_ret; exact ⟨by first | rfl | (simp; done), rfl⟩
set_option maxRecDepth 100000 in
set_option maxHeartbeats 1600000 in
theorem rname_any (s : ByteArray) (w : World) (hs : s.size ≤ 9223372036854775806) :
    Calls Try.prog 13 #[.string s] w (RetS w (.bool (isName (bs s)))) := by
  have hlen := bs_length s
  by_cases h0 : s.size = 0
  · rw [isName_small (by omega)]
    have f1 : decide ((s.size : Int) < 1) = true := decide_eq_true (by omega)
    clear hlen h0
    go_enter Try.func13, Try.ntmps13
    go_wp2_with fail
    go_ret; exact ⟨rfl, rfl⟩
  have f1 : decide ((s.size : Int) < 1) = false := decide_eq_false (by omega)
  by_cases h1 : 24 < s.size
  · rw [isName_small (by omega)]
    have f2 : decide ((24 : Int) < (s.size : Int)) = true := decide_eq_true (by omega)
    clear hlen h0
    go_enter Try.func13, Try.ntmps13
    go_wp2_with fail
    go_ret; exact ⟨rfl, rfl⟩
  have f2 : decide ((24 : Int) < (s.size : Int)) = false := decide_eq_false (by omega)
  have hix := run_index_gb (P := Try.prog) s 9 Try.underlying9 0 (by omega)
  rw [show ((0 : Nat) : Int) = 0 from rfl] at hix
  have hb := bs_lt s 0
  cases hl : isLetter (gd (bs s) 0) with
  | false =>
    rw [isName_first hl]
    obtain ⟨b, hbb⟩ : ∃ b, b = gd (bs s) 0 := ⟨_, rfl⟩
    rw [← hbb] at hix hb hl
    have hc := fun wx => rletter_any b wx hb
    rw [hl] at hc
    have HC := Lib.hid hc; clear hc hbb hl hlen h0
    go_enter Try.func13, Try.ntmps13
    go_wp2_with (go_at_call 36; (with_reducible refine (HC.out _).mono ?_); rintro e w' ⟨rfl, rfl⟩)
    go_ret; exact ⟨rfl, rfl⟩
  | true =>
    rw [isName_rest (by omega) hl]
    obtain ⟨r, hr⟩ : ∃ r, r = decide (run isIn (bs s) 0 = (bs s).length) := ⟨_, rfl⟩
    rw [← hr]
    have HR := Lib.hid hr; clear hr
    obtain ⟨b, hbb⟩ : ∃ b, b = gd (bs s) 0 := ⟨_, rfl⟩
    rw [← hbb] at hix hb hl
    have hc := fun wx => rletter_any b wx hb
    rw [hl] at hc
    have HC := Lib.hid hc
    have HLEN := Lib.hid hlen
    clear hc hbb hl hlen h0
    go_enter Try.func13, Try.ntmps13
    go_wp2_with (go_at_call 36; (with_reducible refine (HC.out _).mono ?_); rintro e w' ⟨rfl, rfl⟩)
    clear hix hb f1 f2
    go_loop [20] (fun i => ∃ j : Nat, j ≤ s.size ∧ i = .int .i64 j ∧ Hid (∀ i, i < j → isIn (gd (bs s) i) = true)) (fun i => s.size - (intOf i).toNat)
    case atStart => exact ⟨0, Nat.zero_le _, rfl, Lib.hid (fun i hi => by omega)⟩
    case round =>
      obtain ⟨j, hj, rfl, hd⟩ := hrel
      by_cases hlt : j < s.size
      · have hix := run_index_gb (P := Try.prog) s 9 Try.underlying9 j hlt
        have hbj := bs_lt s j
        cases hp : isIn (gd (bs s) j) with
        | true =>
          have HN := Lib.hid (show ∀ i, i < j + 1 → isIn (gd (bs s) i) = true from fun i hi => by
            rcases Nat.lt_or_eq_of_le (Nat.le_of_lt_succ hi) with k | k
            · exact hd.out i k
            · rw [k]; exact hp)
          obtain ⟨c, hcc⟩ : ∃ c, c = gd (bs s) j := ⟨_, rfl⟩
          rw [← hcc] at hix hbj hp
          have hin := fun wx => inside_any c wx hbj
          rw [hp] at hin
          have HIN := Lib.hid hin; clear hin hcc hp
          have hf : decide ((j : Int) < (s.size : Int)) = true := decide_eq_true (by omega)
          go_wp2_with (go_at_call 37; (with_reducible refine (HIN.out _).mono ?_); rintro e w' ⟨rfl, rfl⟩)
          go_round
          case rel => exact ⟨j + 1, by omega, by go_num, HN⟩
          case measure => simp [intOf]; omega
        | false =>
          have HV := Lib.hid (show r = false from by
            rw [HR.out]; apply decide_eq_false; intro k
            have := run_all' (p := isIn) (l := bs s) (k := 0) (j := j) (Nat.zero_le _) (by rw [k, HLEN.out]; exact hlt)
            rw [hp] at this; cases this)
          obtain ⟨c, hcc⟩ : ∃ c, c = gd (bs s) j := ⟨_, rfl⟩
          rw [← hcc] at hix hbj hp
          have hin := fun wx => inside_any c wx hbj
          rw [hp] at hin
          have HIN := Lib.hid hin; clear hin hcc hp
          have hf : decide ((j : Int) < (s.size : Int)) = true := decide_eq_true (by omega)
          go_wp2_with (go_at_call 37; (with_reducible refine (HIN.out _).mono ?_); rintro e w' ⟨rfl, rfl⟩)
          go_ret; exact ⟨by rw [HV.out]; first | done | rfl, rfl⟩
      · obtain rfl : j = s.size := by omega
        have HV := Lib.hid (show r = true from by
          rw [HR.out]; apply decide_eq_true
          exact run_full (Nat.zero_le _) (fun i _ hi => hd.out i (by rw [HLEN.out] at hi; exact hi)))
        have hf : decide ((s.size : Int) < (s.size : Int)) = false := decide_eq_false (by omega)
        go_wp2_with fail
        go_ret; exact ⟨by rw [HV.out]; first | done | rfl, rfl⟩
end Go.Proofs.Ytaefimegiobkmaa
/-
  The last step of a law's proof: true was handed back and nothing that was there has changed, so the row's claim holds.
  Conditions: each theorem's own.
-/
namespace Go.Proofs.Ytaefimegiobkmaa
open Go.RowKit Go.ChangeShapes Go.WideShapes

theorem trodAll_below {H : Type} {enc : TypeId × Value → H} {P : Program} (hl : laidOutB P = true) {W W' : World} (hb : Below W.heap.size W W') :
    ∀ (ts : List TypeId) (vs : List Value) (ds : List (DataW H)) (ps : List MemPlace), (ts.all fun t => P.readableRec t && decide (t < P.types.size)) = true →
      DataW.TrodAll enc P W 0 (fun _ => true) true ts vs ds ps → (∀ x ∈ ps, x.block < W.heap.size) → DataW.TrodAll enc P W' 0 (fun b => decide (b < W.heap.size)) true ts vs ds ps := by
  intro ts
  induction ts with
  | nil =>
    intro vs ds ps hr h hlt
    cases vs <;> cases ds <;> first | exact h | exact h.elim
  | cons t ts ih =>
    intro vs ds ps hr h hlt
    simp only [List.all_cons, Bool.and_eq_true, decide_eq_true_eq] at hr
    cases vs with
    | nil => cases ds <;> exact h.elim
    | cons v vs =>
      cases ds with
      | nil => exact h.elim
      | cons d ds =>
        obtain ⟨p, q, h1, h2, rfl⟩ := h
        exact ⟨p, q, Below.trod hl hr.1.1 hr.1.2 h1 hb (fun x hx => hlt x (List.mem_append_left _ hx)),
          ih vs ds q hr.2 h2 (fun x hx => hlt x (List.mem_append_right _ hx)), rfl⟩

theorem law_close {H : Type} {enc : TypeId × Value → H} {P : Program} {f : Func} {s : ChangeSpec} {W W' : World} {args : Array Value} {ds gs : List (DataW H)} {before : List MemPlace} {tb : TypeId}
    (hl : laidOutB P = true) (hrd : (f.params.toList.all fun t => P.readableRec t && decide (t < P.types.size)) = true) (hvars : s.vars = []) (hr : f.resultTypes = #[tb]) (hbool : P.underlying tb = some .bool)
    (hres : (s.fn H (ds ++ gs)).results = [.lit (.bool true)]) (hargs : (s.fn H (ds ++ gs)).args = ds) (hvs : (s.fn H (ds ++ gs)).vars = [])
    (hW : DataW.Whole enc P f.params.toList s.vars false W args.toList ds gs before) (hb : Below W.heap.size W W') :
    s.post enc P f false true false false W args (.bool true) W' := by
  have hlt := hW.lt
  have hW' := hW
  obtain ⟨p, q, hA, hV, rfl, hz, hn⟩ := hW
  rw [hvars] at hV
  obtain ⟨rfl, rfl⟩ := trodVars_none hV
  refine ⟨ds, [], p ++ [], [], p, [], hW', ?_, ?_, ?_, hb.frame _, fun h => by cases h⟩
  · rw [hres, hr]
    exact ⟨[], [], shut_bool hbool true, rfl, rfl⟩
  · rw [hargs]
    exact trodAll_below hl hb _ _ _ _ hrd hA (fun x hx => by simpa using hlt x (List.mem_append_left _ hx))
  · rw [hvs, hvars]; rfl
end Go.Proofs.Ytaefimegiobkmaa
