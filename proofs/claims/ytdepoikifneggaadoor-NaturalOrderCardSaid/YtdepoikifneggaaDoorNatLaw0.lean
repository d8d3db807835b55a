/-
  Small functions of the statements: words that are equal, numbers that are too long, errors by their numbers, the document's examples.
  Conditions: each theorem's own.
-/
import Derived.Test.YtdepoikifneggaaDoorText
namespace Go.Proofs.YtdepoikifneggaaDoor
open Go.RowKit Go.ChangeShapes Go.WideShapes

theorem assert_yes (c : Int) (w : World) : (Instr.typeAssert (.iface 50 (.int .i64 c)) 26 50 true).run Tryd.prog w = .ok (.tuple #[.int .i64 c, .bool true]) w := by kernel_rfl
theorem assert_no (w : World) : (Instr.typeAssert .nilIface 26 50 true).run Tryd.prog w = .ok (.tuple #[.int .i64 0, .bool false]) w := by kernel_rfl
set_option maxRecDepth 100000 in
theorem num_any (c : Nat) (w : World) (hc : c < 1000) : Calls Tryd.prog 19 #[errV c] w (RetS w (.int .i64 c)) := by
  by_cases h0 : c = 0
  · subst h0
    rw [errV_zero]
    go_enter Tryd.func19, Tryd.ntmps19
    go_wp2
    go_ret
    exact ⟨rfl, rfl⟩
  · have ha := assert_yes c
    rw [errV_pos h0]
    go_enter Tryd.func19, Tryd.ntmps19
    go_wp2
    go_ret
    exact ⟨rfl, rfl⟩
theorem is_eq (c k : Nat) : (((c : Int) == (k : Int)) : Bool) = decide (c = k) := by rw [Bool.eq_iff_iff]; simp; omega
set_option maxRecDepth 100000 in
theorem is_any (c : Nat) (kk : Int) (k : Nat) (w : World) (hk : kk = k) (hk0 : k ≠ 0) : Calls Tryd.prog 38 #[errV c, .int .i64 kk] w (RetS w (.bool (decide (c = k)))) := by
  have HK := Lib.hid hk; clear hk
  by_cases h0 : c = 0
  · subst h0
    have ha := assert_no
    rw [errV_zero]
    go_enter Tryd.func38, Tryd.ntmps38
    go_wp2
    go_ret
    exact ⟨ret_bool (by rw [eq_comm]; simp; omega), rfl⟩
  · have ha := assert_yes c
    rw [errV_pos h0]
    go_enter Tryd.func38, Tryd.ntmps38
    go_wp2
    go_ret
    exact ⟨ret_bool (by rw [HK.out, is_eq]), rfl⟩

set_option maxRecDepth 100000 in
set_option maxHeartbeats 1600000 in
theorem words_any (va vb : Value) (a b : List Nat) (w : World) (ha : Num w va a) (hb : Num w vb b) (hla : a.length ≤ 1000000) :
    Calls Tryd.prog 18 #[va, vb] w (RetV w (.bool (decide (a = b)))) := by
  obtain ⟨ao, ca, rfl, hca, hca2, _⟩ := ha.shape
  obtain ⟨bo, cb, rfl, hcb, hcb2, _⟩ := hb.shape
  by_cases hlen : a.length = b.length
  · obtain ⟨n, hn⟩ : ∃ n, n = a.length := ⟨_, rfl⟩
    have hnb : n = b.length := by omega
    rw [← hn] at hca hla ⊢
    rw [← hnb] at hcb ⊢
    rw [← hn] at ha
    rw [← hnb] at hb
    have HA := Lib.hid ha; have HB := Lib.hid hb; have HN := Lib.hid hn; have HNB := Lib.hid hnb
    clear ha hb hn hnb hlen
    obtain ⟨r, hr⟩ : ∃ r, r = decide (a = b) := ⟨_, rfl⟩
    rw [← hr]
    have HR := Lib.hid hr; clear hr
    go_enter Tryd.func18, Tryd.ntmps18
    go_wp2_with fail
    go_loopw [13] (fun iv wr => ∃ k : Nat, k ≤ n ∧ iv = .int .i64 k ∧ Hid (∀ j, j < k → gd a j = gd b j) ∧ Below w.heap.size w wr) (fun iv _ => n - (intOf iv).toNat)
    case atStart => exact ⟨0, Nat.zero_le _, rfl, Lib.hid (fun j hj => by omega), Below.refl _ _⟩
    case round =>
      obtain ⟨k, hk, rfl, hsame, hBr⟩ := hrel
      by_cases hkn : k < n
      · obtain ⟨b1, o1, rfl, _, hc1⟩ := (HA.out.below hBr).at (by omega)
        obtain ⟨b2, o2, rfl, _, hc2⟩ := (HB.out.below hBr).at (by omega)
        have hx1 := hc1 k (by omega)
        have hx2 := hc2 k (by omega)
        obtain ⟨x, hx⟩ : ∃ x, x = gd a k := ⟨_, rfl⟩
        obtain ⟨y, hy⟩ : ∃ y, y = gd b k := ⟨_, rfl⟩
        rw [← hx] at hx1
        rw [← hy] at hx2
        have HX := Lib.hid hx; have HY := Lib.hid hy
        clear hc1 hc2 hx hy
        by_cases hxy : x = y
        · subst hxy
          have hs2 : ∀ j, j < k + 1 → gd a j = gd b j := fun j hj => by
            by_cases hjk : j = k
            · rw [hjk, ← HX.out, ← HY.out]
            · exact hsame.out j (by omega)
          have HS2 := Lib.hid hs2; clear hs2
          go_wp2_with fail
          go_quiet (fail)
          go_wp2_with fail
          go_roundw
          case rel => exact ⟨k + 1, by omega, by go_num, HS2, below_drewN hBr _⟩
          case measure => simp [intOf]; omega
        · have hne : (bne (x : Int) (y : Int)) = true := by simp; omega
          have hv : r = false := by
            rw [HR.out]
            apply decide_eq_false
            intro h
            apply hxy
            rw [HX.out, HY.out, h]
          have HV := Lib.hid hv; clear hv hxy
          go_wp2_with fail
          go_quiet (fail)
          go_wp2_with fail
          go_ret
          exact ⟨by rw [HV.out]; rfl, below_drewN hBr _⟩
      · obtain rfl : k = n := by omega
        have hv : r = true := by
          rw [HR.out]
          apply decide_eq_true
          exact gd_ext (by rw [← HN.out, ← HNB.out]) (fun j hj => hsame.out j (by rw [HN.out]; exact hj))
        have HV := Lib.hid hv; clear hv
        go_wp2_with fail
        go_ret
        exact ⟨by rw [HV.out]; rfl, hBr⟩
  · have hne : (bne (a.length : Int) (b.length : Int)) = true := by simp; omega
    have hv : decide (a = b) = false := decide_eq_false fun h => hlen (by rw [h])
    rw [hv]
    clear hv hlen ha hb
    go_enter Tryd.func18, Tryd.ntmps18
    go_wp2_with fail
    go_ret
    exact ⟨rfl, Below.refl _ _⟩
theorem words_same (va vb : Value) (n : Nat) (w : World) (ha : Num w va (wd n)) (hb : Num w vb (wd n)) (hl : (wd n).length ≤ 1000000) :
    Calls Tryd.prog 18 #[va, vb] w (RetV w (.bool true)) := by
  have h := words_any va vb _ _ w ha hb hl
  rw [decide_eq_true rfl] at h; exact h

/-- one of the first n lengths is above 40 -/
def anyBig (ln : Nat → Nat) : Nat → Bool
  | 0 => false
  | n + 1 => anyBig ln n || decide (40 < ln n)
set_option maxRecDepth 100000 in
set_option maxHeartbeats 1600000 in
theorem large_any (g n c : Nat) (ln : Nat → Nat) (w : World) (hn : n ≤ c) (hc : c ≤ 1000000) (hln : ∀ j, ln j ≤ 9223372036854775807) (hV : ∀ j, j < n → ∃ ao cp, w.cell? ⟨g, j, none⟩ = some (.slice ao (ln j) cp)) :
    Calls Tryd.prog 15 #[.slice (some ⟨g, 0, none⟩) n c] w (RetS w (.bool (anyBig ln n))) := by
  have HV := Lib.hid hV; have HLN := Lib.hid hln; clear hV hln
  obtain ⟨r, hr⟩ : ∃ r, r = anyBig ln n := ⟨_, rfl⟩
  rw [← hr]
  have HR := Lib.hid hr; clear hr
  go_enter Tryd.func15, Tryd.ntmps15
  go_wp2_with fail
  go_loop [7] (fun iv => ∃ k : Nat, k ≤ n ∧ iv = .int .i64 k ∧ Hid (anyBig ln k = false)) (fun iv => n - (intOf iv).toNat)
  case atStart => exact ⟨0, Nat.zero_le _, rfl, Lib.hid rfl⟩
  case round =>
    obtain ⟨k, hk, rfl, hno⟩ := hrel
    by_cases hkn : k < n
    · obtain ⟨ao, cp, hcell⟩ := HV.out k hkn
      have hl := HLN.out k
      obtain ⟨m, hm⟩ : ∃ m, m = ln k := ⟨_, rfl⟩
      rw [← hm] at hcell hl
      have HM := Lib.hid hm; clear hm
      by_cases h40 : 40 < m
      · have hv : r = true := by
          rw [HR.out]
          have h1 : anyBig ln (k + 1) = true := by simp only [anyBig]; rw [← HM.out, decide_eq_true h40, Bool.or_true]
          obtain ⟨d, rfl⟩ : ∃ d, n = k + 1 + d := ⟨n - (k + 1), by omega⟩
          clear HR HV hk hkn hn
          induction d with
          | zero => exact h1
          | succ d ih => rw [← Nat.add_assoc]; simp only [anyBig]; rw [ih, Bool.true_or]
        have HVV := Lib.hid hv; clear hv
        have h40i : decide ((40 : Int) < (m : Int)) = true := by simp; omega
        go_wp2_with fail
        go_ret
        exact ⟨by rw [HVV.out]; rfl, rfl⟩
      · have h40i : decide ((40 : Int) < (m : Int)) = false := by simp; omega
        have hno2 : anyBig ln (k + 1) = false := by simp only [anyBig]; rw [hno.out, ← HM.out, decide_eq_false h40]; rfl
        have HNO := Lib.hid hno2; clear hno2
        go_wp2_with fail
        go_round
        case rel => exact ⟨k + 1, by omega, by go_num, HNO⟩
        case measure => simp [intOf]; omega
    · obtain rfl : k = n := by omega
      have hv : r = false := by rw [HR.out]; exact hno.out
      have HVV := Lib.hid hv; clear hv
      go_wp2_with fail
      go_ret
      exact ⟨by rw [HVV.out]; rfl, rfl⟩

set_option maxRecDepth 100000 in
set_option maxHeartbeats 1600000 in
theorem clean_any (va : Value) (n : Nat) (w : World) (ha : Num w va (wd n)) :
    Calls Tryd.prog 39 #[va] w (RetV w (.bool true)) := by
  obtain ⟨ao, ca, rfl, hca, hca2, _⟩ := ha.shape
  by_cases h0 : n = 0
  · subst h0
    rw [wd_zero, List.length_nil] at hca ⊢
    clear ha
    go_enter Tryd.func39, Tryd.ntmps39
    go_wp2_with fail
    go_ret
    exact ⟨rfl, Below.refl _ _⟩
  · obtain ⟨h1, h2, _⟩ := wd_top h0
    obtain ⟨b, off, rfl, _, hcell⟩ := ha.at h1
    obtain ⟨m, hm⟩ : ∃ m, m = (wd n).length := ⟨_, rfl⟩
    rw [← hm] at h1 h2 hca ⊢
    have hx := hcell (m - 1) (by omega)
    obtain ⟨x, hxe⟩ : ∃ x, x = gd (wd n) (m - 1) := ⟨_, rfl⟩
    rw [← hxe] at hx h2
    have hne : (bne (x : Int) 0) = true := by simp; omega
    have hm0 : ((m : Int) == 0) = false := by simp; omega
    clear hcell hxe hm h2 ha
    go_enter Tryd.func39, Tryd.ntmps39
    go_wp2_with fail
    go_ret
    exact ⟨rfl, Below.refl _ _⟩
end Go.Proofs.YtdepoikifneggaaDoor
