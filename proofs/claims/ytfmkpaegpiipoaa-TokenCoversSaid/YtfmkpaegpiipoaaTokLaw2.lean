/-
  The walk of the law TokenLarge.
  Conditions: none.
-/
import Derived.Test.YtfmkpaegpiipoaaTokLaw1
import Derived.Test.YtfmkpaegpiipoaaTokText
namespace Go.Proofs.Ytfmkpaegpiipoaa
open Go.RowKit Go.ChangeShapes Go.WideShapes

theorem scan_blanks {l : List Nat} (h : ∀ j, j < l.length → isBlank (gd l j) = true) (n : Nat) : ∀ i, l.length - i ≤ n → scanAt l i = ([], 0) := by
  induction n with
  | zero => intro i hi; exact scanAt_end (by omega)
  | succ n ih =>
    intro i hi
    by_cases hlt : i < l.length
    · exact skip_one hlt (step_blank (h i hlt)) (ih (i + 1) (by omega))
    · exact scanAt_end (by omega)
theorem split_blank (n : Nat) (h : n ≤ 65536) : splitL (List.replicate n 32) = ([], 0) := by
  unfold splitL
  rw [List.length_replicate, if_neg (by omega)]
  refine scan_blanks (fun j hj => ?_) _ 0 (Nat.le_refl _)
  rw [List.length_replicate] at hj
  rw [gd_replicate, if_pos hj]; rfl
theorem u8_blank (n : Nat) : U8 (List.replicate n 32) := fun j => by rw [gd_replicate]; split <;> omega
theorem split_large (n : Nat) (h : 65536 < n) : splitL (List.replicate n 32) = ([], 4) := by
  unfold splitL
  rw [List.length_replicate, if_pos h]

theorem Try.byteTy : SliceTy Try.prog 33 5 (.int .u8 0) 1 1 := .mk' Try.underlying33 (by kernel_rfl)

theorem OwnT.empty {w : World} {B : Nat} {v : Value} (h : OwnT w B v []) : ∃ ao c, v = .slice ao 0 c := by
  obtain ⟨ao, c, h, _⟩ := h.toks.shape
  exact ⟨ao, c, h⟩

/-- blanks up to a place, noughts behind it -/
def fillTo (n k : Nat) : List Nat := List.replicate k 32 ++ List.replicate (n - k) 0
theorem fillTo_zero (n : Nat) : fillTo n 0 = List.replicate n 0 := by simp [fillTo]
theorem fillTo_all (n : Nat) : fillTo n n = List.replicate n 32 := by simp [fillTo]
theorem fillTo_set {n k : Nat} (h : k < n) : (fillTo n k).set k 32 = fillTo n (k + 1) := by
  apply gd_ext
  · simp [fillTo]; omega
  · intro j hj
    simp only [List.length_set, fillTo, List.length_append, List.length_replicate] at hj
    rw [gd_set]
    simp only [fillTo, gd_append, gd_replicate, List.length_replicate, List.length_append]
    repeat' split
    all_goals omega
theorem fillTo_length {n k : Nat} (h : k ≤ n) : (fillTo n k).length = n := by simp [fillTo]; omega

set_option maxRecDepth 100000 in
set_option maxHeartbeats 2000000 in
theorem large_walk (b : Bool) (w : World) : Calls Try.prog 5 #[.bool b] w (RetV w (.bool true)) := by
  obtain ⟨n, hn⟩ : ∃ n, n = 65536 := ⟨_, rfl⟩
  have hle : n ≤ 70000 := by omega
  have hn0 : 0 < n := by omega
  have hn1 : (65536 : Int) = (n : Int) := by omega
  have HN := Lib.hid hn; have HN1 := Lib.hid hn1; clear hn hn1
  have hle2 : n ≤ 70368744177664 := by omega
  go_enter Try.func5, Try.ntmps5
  go_wp2_with fail
  (with_reducible refine (awake_any _).mono ?_); rintro e w1 ⟨rfl, hb1⟩
  go_wp2_with (at_make; refine wpList_makeB Try.byteTy rfl _ _ rfl _ _ _ _ n rfl rfl HN1.out HN1.out hle2 ?_)
  intro w2 ho2 hb2 hg2
  go_wp2_with fail
  go_loopw [12] (fun i wr => ∃ k : Nat, k ≤ n ∧ i = .int .i64 k ∧ OwnB 5 wr w1.heap.size (.slice (some ⟨w1.heap.size, 0, none⟩) n n) (fillTo n k) ∧ Below w1.heap.size w1 wr) (fun i _ => n - (intOf i).toNat)
  case atStart => exact ⟨0, Nat.zero_le _, rfl, by rw [fillTo_zero]; exact ho2, hb2⟩
  case round =>
    obtain ⟨k, hk, rfl, ho, hb⟩ := hrel
    by_cases hlt : k < n
    · have hcell := ho.cell (fillTo_length hk) k hlt
      have hfr := ho.frozen (fillTo_length hk) k
      have hst := ho.stored (fillTo_length hk) k 32 (by decide)
      rw [fillTo_set hlt] at hst
      have HS := Lib.hid hst; clear hst ho
      go_wp2_with fail
      go_roundw
      case rel => exact ⟨k + 1, by omega, by go_num, HS.out, hb.setCell (Nat.le_refl _) _⟩
      case measure => simp [intOf]; omega
    · obtain rfl : k = n := by omega
      rw [fillTo_all] at ho
      have hbz := hb.size
      cases b
      · have hcv := run_bytes_to_string (P := Try.prog) (w := wr) (cap := k) 33 5 9 Try.underlying33 Try.underlying5 Try.underlying9 (List.length_replicate (n := k) (a := 32)) (off := 0) (b := w1.heap.size)
          (fun i hi => by rw [Nat.zero_add]; exact ho.cell (List.length_replicate) i hi)
        have hsp : splitL (bs (strOf (List.replicate k 32))) = ([], 0) := by rw [bs_strOf (u8_blank _)]; exact split_blank _ (by rw [HN.out]; exact Nat.le_refl _)
        have HO := Lib.hid ho; have HSP := Lib.hid hsp; clear ho hsp
        go_wp2_with fail
        (with_reducible refine (split_any _ _).mono ?_); rintro e w3 ⟨v3, rfl, hb3, ho3⟩
        rw [HSP.out] at ho3 ⊢
        rw [errV_zero]
        obtain ⟨ao, c, rfl⟩ := ho3.empty
        clear ho3
        go_wp2_with fail
        go_ret
        exact ⟨rfl, hb1.trans ((hb.trans (hb3.mono hbz)).mono hb1.size)⟩
      · have hbyt := byt_lit wr 5 #[.int .u8 32] [32] 1 (fun j => by match j with | 0 => decide | j + 1 => exact (by simp [gd] : gd [32] (j + 1) < 256)) rfl (by decide) rfl
        have ho' := ho.alloc (.cells #[.int .u8 32] 5)
        have HO := Lib.hid ho'; have HBY := Lib.hid hbyt; clear ho ho' hbyt
        go_wp2_with (at_builtin; refine wpList_appendB Try.byteTy rfl (.tmp 20) (.tmp 21) rfl w1.heap.size _ _ _ _ rfl rfl HO.out HBY.out ?c1 ?c2 ?_)
        case c1 => rw [List.length_replicate]; simp; omega
        case c2 => simp; omega
        intro v' w2' hoa hba hsz
        have hbb := hba w1 (hb.alloc hbz _)
        obtain ⟨g, c, rfl, hg⟩ := hoa.head (by simp)
        have hrep : List.replicate k 32 ++ [32] = List.replicate (k + 1) 32 := (List.replicate_succ' ..).symm
        rw [hrep] at hoa ⊢
        rw [List.length_replicate]
        have hcv := run_bytes_to_string (P := Try.prog) (w := w2') (cap := c) 33 5 9 Try.underlying33 Try.underlying5 Try.underlying9 (List.length_replicate (n := k + 1) (a := 32)) (off := 0) (b := g)
          (fun i hi => by rw [Nat.zero_add]; rw [List.length_replicate] at hoa; exact hoa.cell (List.length_replicate) i hi)
        have hsp : splitL (bs (strOf (List.replicate (k + 1) 32))) = ([], 4) := by rw [bs_strOf (u8_blank _)]; exact split_large _ (by rw [← HN.out]; omega)
        have HSP := Lib.hid hsp; clear hoa hsp hrep
        go_wp2_with fail
        (with_reducible refine (split_any _ _).mono ?_); rintro e w3 ⟨v3, rfl, hb3, ho3⟩
        rw [HSP.out] at ho3 ⊢
        obtain ⟨ao, c', rfl⟩ := ho3.empty
        clear ho3
        have his : ∀ wx : World, Calls Try.prog 15 #[.iface 38 (.int .i64 4), .int .i64 4] wx (RetS wx (.bool true)) := fun wx => is_any 4 4 4 wx rfl (by decide)
        have HIS := Lib.hid his; clear his
        rw [show errV 4 = .iface 38 (.int .i64 4) from rfl]
        go_wp2_with (go_at_call 15; (with_reducible refine (HIS.out _).mono ?_); rintro e w' ⟨rfl, rfl⟩)
        go_ret
        exact ⟨rfl, hb1.trans ((hbb.trans (hb3.mono (by have := hbb.size; omega))).mono hb1.size)⟩
end Go.Proofs.Ytfmkpaegpiipoaa
