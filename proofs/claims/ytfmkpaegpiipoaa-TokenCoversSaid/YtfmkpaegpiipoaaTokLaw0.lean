/-
  Errors by their numbers; whether two lists of tokens are the same.
  Conditions: each theorem's own.
-/
import Derived.Test.YtfmkpaegpiipoaaTokRef
import Derived.Deep.QuietTactic
import Derived.BigQuiet
namespace Go.Proofs.Ytfmkpaegpiipoaa
open Go.RowKit Go.ChangeShapes Go.WideShapes

theorem assert_yes (c : Int) (w : World) : (Instr.typeAssert (.iface 38 (.int .i64 c)) 25 38 true).run Try.prog w = .ok (.tuple #[.int .i64 c, .bool true]) w := by kernel_rfl
theorem assert_no (w : World) : (Instr.typeAssert .nilIface 25 38 true).run Try.prog w = .ok (.tuple #[.int .i64 0, .bool false]) w := by kernel_rfl
set_option maxRecDepth 100000 in
theorem num_any (c : Nat) (w : World) (hc : c < 1000) : Calls Try.prog 13 #[errV c] w (RetS w (.int .i64 c)) := by
  by_cases h0 : c = 0
  · subst h0
    rw [errV_zero]
    go_enter Try.func13, Try.ntmps13
    go_wp2
    go_ret
    exact ⟨rfl, rfl⟩
  · have ha := assert_yes c
    rw [errV_pos h0]
    go_enter Try.func13, Try.ntmps13
    go_wp2
    go_ret
    exact ⟨rfl, rfl⟩
theorem is_eq (c k : Nat) : (((c : Int) == (k : Int)) : Bool) = decide (c = k) := by rw [Bool.eq_iff_iff]; simp; omega
set_option maxRecDepth 100000 in
theorem is_any (c : Nat) (kk : Int) (k : Nat) (w : World) (hk : kk = k) (hk0 : k ≠ 0) : Calls Try.prog 15 #[errV c, .int .i64 kk] w (RetS w (.bool (decide (c = k)))) := by
  have HK := Lib.hid hk; clear hk
  by_cases h0 : c = 0
  · subst h0
    have ha := assert_no
    rw [errV_zero]
    go_enter Try.func15, Try.ntmps15
    go_wp2
    go_ret
    exact ⟨ret_bool (by rw [eq_comm]; simp; omega), rfl⟩
  · have ha := assert_yes c
    rw [errV_pos h0]
    go_enter Try.func15, Try.ntmps15
    go_wp2
    go_ret
    exact ⟨ret_bool (by rw [HK.out, is_eq]), rfl⟩

theorem tok_field (t : TokV) : t.cells[0]? = some (.int .i64 t.kind) ∧ t.cells[1]? = some (.string t.text) ∧ t.cells[2]? = some (.int .i64 t.at_) ∧ t.cells[3]? = some (.int .i64 t.line) ∧ t.cells[4]? = some (.int .i64 t.col) :=
  ⟨rfl, rfl, rfl, rfl, rfl⟩

theorem Toks.get {w : World} {ao : Option Addr} {n c k : Nat} {ts : List TokV} {t : TokV} (h : Toks w (.slice ao n c) ts) (ht : ts[k]? = some t) (hn : 0 < n) :
    ∃ b off, ao = some ⟨b, off, none⟩ ∧ b < w.heap.size ∧ w.cell? ⟨b, off + k * 5, none⟩ = some (.int .i64 t.kind) ∧ w.cell? ⟨b, off + k * 5 + 1, none⟩ = some (.string t.text) ∧
      w.cell? ⟨b, off + k * 5 + 2, none⟩ = some (.int .i64 t.at_) ∧ w.cell? ⟨b, off + k * 5 + 3, none⟩ = some (.int .i64 t.line) ∧ w.cell? ⟨b, off + k * 5 + 4, none⟩ = some (.int .i64 t.col) := by
  obtain ⟨b, off, rfl, hb, hc⟩ := h.at hn
  exact ⟨b, off, rfl, hb, hc k t 0 ht (by decide), hc k t 1 ht (by decide), hc k t 2 ht (by decide), hc k t 3 ht (by decide), hc k t 4 ht (by decide)⟩

set_option maxRecDepth 100000 in
set_option maxHeartbeats 1000000 in
theorem same_any (v1 v2 : Value) (ts : List TokV) (w : World) (h1 : Toks w v1 ts) (h2 : Toks w v2 ts) : Calls Try.prog 14 #[v1, v2] w (RetV w (.bool true)) := by
  obtain ⟨ao, ca, rfl, hca, hca2, _⟩ := h1.shape
  obtain ⟨bo, cb, rfl, hcb, hcb2, _⟩ := h2.shape
  obtain ⟨n, hn⟩ : ∃ n, n = ts.length := ⟨_, rfl⟩
  rw [← hn] at h1 h2 hca hcb ⊢
  have HN := Lib.hid hn; clear hn
  go_enter Try.func14, Try.ntmps14
  go_wp2_with fail
  go_loopw [13] (fun i wr => ∃ k : Nat, k ≤ n ∧ i = .int .i64 k ∧ Below w.heap.size w wr) (fun i _ => n - (intOf i).toNat)
  case atStart => exact ⟨0, Nat.zero_le _, rfl, Below.refl _ _⟩
  case round =>
    obtain ⟨k, hk, rfl, hb⟩ := hrel
    by_cases hlt : k < n
    · obtain ⟨t, ht⟩ : ∃ t, ts[k]? = some t := ⟨ts[k]'(by rw [← HN.out]; exact hlt), List.getElem?_eq_getElem _⟩
      obtain ⟨b1, o1, rfl, _, a0, a1, a2, a3, a4⟩ := (h1.below hb).get ht (by omega)
      obtain ⟨b2, o2, rfl, _, c0, c1, c2, c3, c4⟩ := (h2.below hb).get ht (by omega)
      clear ht
      go_wp2_with fail
      go_quiet (fail)
      go_wp2_with fail
      go_roundw
      case rel => exact ⟨k + 1, by omega, by go_num, below_drewN hb _⟩
      case measure => simp [intOf]; omega
    · go_wp2_with fail
      go_ret
      exact ⟨rfl, hb⟩

/-- two calls of Split at texts that are written out -/
def ex1 : ByteArray := ⟨#[103, 97, 116, 101, 32, 103, 49, 32, 97, 110, 100, 32, 97, 64, 98, 32, 35, 32, 99]⟩
def ex2 : ByteArray := ⟨#[49, 47, 50, 47, 51]⟩
def ex1toks : List Tk := [⟨0, 0, 4⟩, ⟨0, 5, 7⟩, ⟨0, 8, 11⟩, ⟨0, 12, 13⟩, ⟨2, 13, 14⟩, ⟨0, 14, 15⟩]
theorem ex1_split : splitL (bs ex1) = (ex1toks, 0) := by kernel_rfl
theorem ex2_split : splitL (bs ex2) = ([], 2) := by kernel_rfl
/-- what the two calls leave, in words that the walk does not open -/
def RetEx1 (w : World) (e : Ending) (w' : World) : Prop :=
  ∃ g c, e = .returned (.tuple #[.slice (some ⟨g, 0, none⟩) 6 c, .nilIface]) ∧ Below w.heap.size w w' ∧ w.heap.size ≤ g ∧ g < w'.heap.size ∧
    w'.cell? ⟨g, 20, none⟩ = some (.int .i64 2) ∧ w'.cell? ⟨g, 21, none⟩ = some (.string ⟨#[64]⟩) ∧ w'.cell? ⟨g, 22, none⟩ = some (.int .i64 13) ∧ w'.cell? ⟨g, 23, none⟩ = some (.int .i64 1) ∧
    w'.cell? ⟨g, 24, none⟩ = some (.int .i64 14) ∧ w'.cell? ⟨g, 26, none⟩ = some (.string ⟨#[98]⟩)
theorem ex1_any (w : World) : Calls Try.prog 11 #[.string ⟨#[103, 97, 116, 101, 32, 103, 49, 32, 97, 110, 100, 32, 97, 64, 98, 32, 35, 32, 99]⟩] w (RetEx1 w) := by
  refine (split_any ex1 w).mono ?_
  rintro e w' ⟨v, rfl, hb, ho⟩
  rw [ex1_split] at ho ⊢
  have hl := World.ownsRow.lt ho
  rcases ho.2 with ⟨_, hn⟩ | ⟨g, cap, cur, rfl, hbg, hh, hcap, hm, hs, ht⟩
  · simp [ex1toks] at hn
  have hc := World.ownsRow.cells (g := g) ho rfl
  have hc' : ∀ j u, (tokCells (ex1toks.map (mkTok ex1)))[j + 1]? = some u → w'.cell? ⟨g, j + 1, none⟩ = some u := by
    intro j u hu
    have := hc (j + 1) u hu
    rw [Addr.add, if_neg (by omega)] at this
    simpa using this
  exact ⟨g, cap, rfl, hb, hbg, (hl g rfl).2, hc' 19 _ (by kernel_rfl), hc' 20 _ (by kernel_rfl), hc' 21 _ (by kernel_rfl), hc' 22 _ (by kernel_rfl), hc' 23 _ (by kernel_rfl), hc' 25 _ (by kernel_rfl)⟩
def RetEx2 (w : World) (e : Ending) (w' : World) : Prop := ∃ v, e = .returned (.tuple #[v, errV 2]) ∧ Below w.heap.size w w'
theorem ex2_any (w : World) : Calls Try.prog 11 #[.string ⟨#[49, 47, 50, 47, 51]⟩] w (RetEx2 w) := by
  refine (split_any ex2 w).mono ?_
  rintro e w' ⟨v, rfl, hb, ho⟩
  rw [ex2_split]
  exact ⟨v, rfl, hb⟩

set_option maxRecDepth 100000 in
set_option maxHeartbeats 1000000 in
theorem awake_any (w : World) : Calls Try.prog 10 #[] w (RetV w (.bool true)) := by
  go_enter Try.func10, Try.ntmps10
  go_wp2_with fail
  (with_reducible refine (ex1_any _).mono ?_)
  rintro e w1 ⟨g, c, rfl, hb1, hg1, hg2, k0, k1, k2, k3, k4, k5⟩
  go_wp2_with fail
  (with_reducible refine (ex2_any _).mono ?_)
  rintro e w2 ⟨v2, rfl, hb2⟩
  have m0 := (hb2.cell (p := ⟨g, 20, none⟩) hg2).trans k0
  have m1 := (hb2.cell (p := ⟨g, 21, none⟩) hg2).trans k1
  have m2 := (hb2.cell (p := ⟨g, 22, none⟩) hg2).trans k2
  have m3 := (hb2.cell (p := ⟨g, 23, none⟩) hg2).trans k3
  have m4 := (hb2.cell (p := ⟨g, 24, none⟩) hg2).trans k4
  have m5 := (hb2.cell (p := ⟨g, 26, none⟩) hg2).trans k5
  clear k0 k1 k2 k3 k4 k5
  go_wp2_with (go_at_call 15; (with_reducible refine (is_any 2 2 2 _ rfl (by decide)).mono ?_); rintro e w' ⟨rfl, rfl⟩)
  go_ret
  exact ⟨rfl, hb1.trans (hb2.mono hb1.size)⟩
end Go.Proofs.Ytfmkpaegpiipoaa
