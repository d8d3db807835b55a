/-
  The texts Nat13, Bld, Text, NatMath10, Nat14, Nat21, NatMath12, Nat15, Nat16, Nat17, Nat18, NatMath11, Nat19, Nat20, Nat22, Nat23, Rat0, Rat1, Rat2, Rat3, Rat4, Rat5, one behind the other.
  Conditions: each theorem's own.
-/
import Derived.IntWalk
import Derived.LoopN
import Derived.Handy
import Derived.Test.YtkedjammeoaciaaGreatDoorM2
/-
  natural.Root: what it hands back.
  Conditions: each theorem's own.
-/
namespace Go.Proofs.YtkedjammeoaciaaGreatDoor
open Go.RowKit Go.ChangeShapes Go.WideShapes

theorem cmpN_le {m n : Nat} (h : n ≤ m) : decide (0 ≤ cmpN m n) = true := by
  unfold cmpN; rw [if_neg (by omega)]; split <;> rfl
theorem cmpN_nle {m n : Nat} (h : m < n) : decide (0 ≤ cmpN m n) = false := by
  unfold cmpN; rw [if_pos h]; rfl

end Go.Proofs.YtkedjammeoaciaaGreatDoor
/-
  strings.Builder: copyCheck and WriteString, walked at this dump (lines of the shelf's proofs turned to it); natural.nine.
  Conditions: each theorem's own.
-/
namespace Go.Proofs.YtkedjammeoaciaaGreatDoor
open Go.RowKit Go.ChangeShapes Go.WideShapes

theorem Tryz.sizeBuilder : (Tryz.prog.info? 118).map (·.size) = some 2 := by kernel_rfl
theorem Tryz.liesBuilder : liesAt Tryz.prog Tryz.prog.depth 118 (2 / Tryz.prog.cellsOf 118) 0 118 1 = true := by kernel_rfl
theorem Tryz.infoByte : (Tryz.prog.info? 5).map (fun i => (i.zero, i.size, i.bytes)) = some (some (.int .u8 0), 1, 1) := by kernel_rfl

set_option maxRecDepth 100000 in
set_option maxHeartbeats 1000000 in
theorem copyCheck_used (b : Nat) (w : World) (h0 : w.cell? ⟨b, 0, none⟩ = some (.pointer (some ⟨b, 0, none⟩))) :
    Calls Tryz.prog 151 #[.pointer (some ⟨b, 0, none⟩)] w fun e w' => e = .returned (.tuple #[]) ∧ w' = w := by
  obtain ⟨j, hj, _⟩ := Option.map_eq_some_iff.1 Tryz.sizeBuilder
  go_enter Tryz.func151, Tryz.ntmps151
  go_wp2
  rw [Lib.run_neq_ptr_same w _ Tryz.underlying116 hj]
  go_wp2
  go_end0
  exact ⟨rfl, rfl⟩

set_option maxRecDepth 100000 in
set_option maxHeartbeats 1000000 in
theorem copyCheck_fresh (b : Nat) (w : World) (h0 : w.cell? ⟨b, 0, none⟩ = some (.pointer none)) (hsh : w.shape? b = some (118, 2)) (hfz : w.frozen? ⟨b, 0, none⟩ = false) :
    Calls Tryz.prog 151 #[.pointer (some ⟨b, 0, none⟩)] w fun e w' => e = .returned (.tuple #[]) ∧ w' = w.setCell ⟨b, 0, none⟩ (.pointer (some ⟨b, 0, none⟩)) := by
  obtain ⟨j, hj, hjs⟩ := Option.map_eq_some_iff.1 Tryz.sizeBuilder
  go_enter Tryz.func151, Tryz.ntmps151
  go_wp2
  rw [Lib.run_to_unsafe w ⟨b, 0, none⟩ Tryz.underlying116 Tryz.underlying139 hj (by rw [hjs]; decide) hsh (Nat.zero_lt_succ 1)]
  simp only [Result.andThen]
  rw [Oper.upon_value]
  go_wp2
  rw [run_callFunc_extern Tryz.func160 (by kernel_rfl) (by kernel_rfl) (by kernel_rfl) (e := Extern.AbiNoEscape.same) (by kernel_rfl)]
  rw [Lib.run_noEscape]
  simp only [Result.andThen]
  rw [Oper.upon_value]
  go_wp2
  rw [Lib.run_from_unsafe w ⟨b, 0, none⟩ Tryz.underlying139 Tryz.underlying116 hj hsh Tryz.liesBuilder]
  simp only [Result.andThen]
  rw [Oper.upon_value]
  go_wp2
  go_end0
  exact ⟨rfl, rfl⟩

theorem copyCheck_any (B b : Nat) (bs : List Value) (w : World) (h : Lib.IsBuilder 118 5 B b bs w) :
    Calls Tryz.prog 151 #[.pointer (some ⟨b, 0, none⟩)] w fun e w' => e = .returned (.tuple #[]) ∧ (Lib.BuilderAt 118 5 B b (.pointer (some ⟨b, 0, none⟩)) bs w' ∧ Below B w w') := by
  rcases h with h | h
  · refine (copyCheck_fresh b w h.cell0 h.shape h.frozen0).mono ?_
    rintro e w' ⟨rfl, rfl⟩
    exact ⟨rfl, h.used _, (Below.refl B w).setCell (p := ⟨b, 0, none⟩) h.1 _⟩
  · refine (copyCheck_used b w h.cell0).mono ?_
    rintro e w' ⟨rfl, rfl⟩
    exact ⟨rfl, h, Below.refl B _⟩

set_option maxRecDepth 100000 in
set_option maxHeartbeats 2000000 in
theorem writeString_any (B b : Nat) (bs : List Value) (s : ByteArray) (w : World) (h : Lib.IsBuilder 118 5 B b bs w) (hlen : bs.length + s.size ≤ 140737488355328) (hBw : B ≤ w.heap.size) :
    Calls Tryz.prog 137 #[.pointer (some ⟨b, 0, none⟩), .string s] w fun e w' => e = .returned (.tuple #[.int .i64 s.size, .nilIface]) ∧ (Lib.BuilderAt 118 5 B b (.pointer (some ⟨b, 0, none⟩)) (bs ++ Lib.strCells s) w' ∧ Below B w w') := by
  obtain ⟨i0, hi, hz0, hz1, hz2⟩ := info_parts Tryz.infoByte
  go_enter Tryz.func137, Tryz.ntmps137
  go_wp2_with fail
  (with_reducible refine (copyCheck_any B b bs _ h).mono ?_)
  rintro e w1 ⟨rfl, h1, hb1⟩
  obtain ⟨hB, v, hbk, hown, hne⟩ := h1
  have c0 : w1.cell? ⟨b, 0, none⟩ = some (.pointer (some ⟨b, 0, none⟩)) := by rw [Lib.cell_of_heap hbk]; rfl
  have c1 : w1.cell? ⟨b, 1, none⟩ = some v := by rw [Lib.cell_of_heap hbk]; rfl
  go_wp2_with (at_builtin; refine Lib.wpList_append_own_string _ rfl _ _ 113 9 rfl B 5 i0 Tryz.underlying113 Tryz.underlying9 hi hz0 hz1 hz2 _ _ _ rfl hown s rfl ?c3 ?c4 ?c5 ?_)
  case c3 => unfold maxLen; omega
  case c4 => omega
  case c5 => have := hb1.size; omega
  intro v' w2 hown' hgrow _
  have hlt : b < w1.heap.size := by
    rcases Nat.lt_or_ge b w1.heap.size with h' | h'
    · exact h'
    · simp [Array.getElem?_eq_none h'] at hbk
  have hb2 : w2.heap[b]? = some (.cells #[.pointer (some ⟨b, 0, none⟩), v] 118 (0, 0)) := by
    rw [hgrow.block b hlt (fun e => hne e.symm)]
    exact hbk
  have d0 : w2.cell? ⟨b, 0, none⟩ = some (.pointer (some ⟨b, 0, none⟩)) := by rw [Lib.cell_of_heap hb2]; rfl
  have d1 : w2.cell? ⟨b, 1, none⟩ = some v := by rw [Lib.cell_of_heap hb2]; rfl
  have f1 : w2.frozen? ⟨b, 1, none⟩ = false := Lib.frozen_of_heap hb2 1
  obtain ⟨ao, n', cap, rfl⟩ : ∃ ao n' cap, v' = .slice ao n' cap := by
    rcases hown'.2 with ⟨hv, _⟩ | ⟨g, cap, cur, hv, _⟩
    · exact ⟨_, _, _, hv⟩
    · exact ⟨_, _, _, hv⟩
  go_wp2
  go_ret2
  refine ⟨rfl, ?_, ?_⟩
  · exact Lib.BuilderAt.put (T := 118) (e := 5) hB hb2 (bs' := bs ++ Lib.strCells s) (by simpa [Lib.strCells_length] using hown') (by decide)
  · exact (hb1.grown hgrow (by have := hb1.size; omega) (fun k hk => (hown.lt k hk).1)).setCell (p := ⟨b, 1, none⟩) hB _

/-- a digit's byte -/
def digB (n : Nat) : UInt8 := UInt8.ofNat (48 + n % 10)
theorem digB_toNat (n : Nat) : (digB n).toNat = 48 + n % 10 := by
  unfold digB
  rw [UInt8.toNat_ofNat_of_lt' (by show 48 + n % 10 < 256; omega)]
/-- k digits of a number, the lowest first -/
def padD : Nat → Nat → List UInt8
  | 0, _ => []
  | k + 1, n => digB n :: padD k (n / 10)
/-- nine digits -/
def nineB (n : Nat) : ByteArray := ⟨((padD 9 n).reverse).toArray⟩

set_option maxRecDepth 100000 in
set_option maxHeartbeats 2000000 in
theorem nine_any (n : Nat) (w : World) (hn : n < 4294967296) :
    Calls Tryz.prog 136 #[.int .u32 n] w (RetV w (.string (nineB n))) := by
  have e : ∀ m : Nat, ((digB m).toNat : Int) = 48 + (m : Int) % 10 := fun m => by rw [digB_toNat]; omega
  have hl : (padD 9 n).reverse = [digB (n / 10 / 10 / 10 / 10 / 10 / 10 / 10 / 10), digB (n / 10 / 10 / 10 / 10 / 10 / 10 / 10), digB (n / 10 / 10 / 10 / 10 / 10 / 10), digB (n / 10 / 10 / 10 / 10 / 10), digB (n / 10 / 10 / 10 / 10), digB (n / 10 / 10 / 10), digB (n / 10 / 10), digB (n / 10), digB n] := rfl
  have hcv : ∀ T : TypeId, (convert 113 9 (.slice (some ⟨w.heap.size, 0, none⟩) 9 9)).run Tryz.prog
      (w.alloc (.cells #[.int .u8 (48 + (n : Int) / 10 / 10 / 10 / 10 / 10 / 10 / 10 / 10 % 10), .int .u8 (48 + (n : Int) / 10 / 10 / 10 / 10 / 10 / 10 / 10 % 10), .int .u8 (48 + (n : Int) / 10 / 10 / 10 / 10 / 10 / 10 % 10), .int .u8 (48 + (n : Int) / 10 / 10 / 10 / 10 / 10 % 10), .int .u8 (48 + (n : Int) / 10 / 10 / 10 / 10 % 10), .int .u8 (48 + (n : Int) / 10 / 10 / 10 % 10), .int .u8 (48 + (n : Int) / 10 / 10 % 10), .int .u8 (48 + (n : Int) / 10 % 10), .int .u8 (48 + (n : Int) % 10)] T)) =
      .ok (.string (nineB n)) (w.alloc (.cells #[.int .u8 (48 + (n : Int) / 10 / 10 / 10 / 10 / 10 / 10 / 10 / 10 % 10), .int .u8 (48 + (n : Int) / 10 / 10 / 10 / 10 / 10 / 10 / 10 % 10), .int .u8 (48 + (n : Int) / 10 / 10 / 10 / 10 / 10 / 10 % 10), .int .u8 (48 + (n : Int) / 10 / 10 / 10 / 10 / 10 % 10), .int .u8 (48 + (n : Int) / 10 / 10 / 10 / 10 % 10), .int .u8 (48 + (n : Int) / 10 / 10 / 10 % 10), .int .u8 (48 + (n : Int) / 10 / 10 % 10), .int .u8 (48 + (n : Int) / 10 % 10), .int .u8 (48 + (n : Int) % 10)] T)) := by
    intro T
    have h := run_convert_bytes_back (P := Tryz.prog) (w.alloc (.cells #[.int .u8 (48 + (n : Int) / 10 / 10 / 10 / 10 / 10 / 10 / 10 / 10 % 10), .int .u8 (48 + (n : Int) / 10 / 10 / 10 / 10 / 10 / 10 / 10 % 10), .int .u8 (48 + (n : Int) / 10 / 10 / 10 / 10 / 10 / 10 % 10), .int .u8 (48 + (n : Int) / 10 / 10 / 10 / 10 / 10 % 10), .int .u8 (48 + (n : Int) / 10 / 10 / 10 / 10 % 10), .int .u8 (48 + (n : Int) / 10 / 10 / 10 % 10), .int .u8 (48 + (n : Int) / 10 / 10 % 10), .int .u8 (48 + (n : Int) / 10 % 10), .int .u8 (48 + (n : Int) % 10)] T))
      113 9 5 ⟨w.heap.size, 0, none⟩ 9 (padD 9 n).reverse Tryz.underlying113 Tryz.underlying5 Tryz.underlying9 ?_
    · exact h
    · intro j hj
      have hj9 : j < 9 := by rw [hl] at hj; exact hj
      have ea : (⟨w.heap.size, 0, none⟩ : Addr).add j = ⟨w.heap.size, 0 + j, none⟩ := by unfold Addr.add; split <;> simp_all
      rw [ea, Nat.zero_add, cell_of_row _ w.heap.size j _ T (0, 0) (heap_alloc_new w _)]
      simp only [hl]
      match j, hj9 with
      | 0, _ => simp [e]
      | 1, _ => simp [e]
      | 2, _ => simp [e]
      | 3, _ => simp [e]
      | 4, _ => simp [e]
      | 5, _ => simp [e]
      | 6, _ => simp [e]
      | 7, _ => simp [e]
      | 8, _ => simp [e]
  have HCV := Lib.hid hcv
  clear hcv hl e
  go_enter Tryz.func136, Tryz.ntmps136
  go_wp2_with fail
  go_rounds 10
  rw [HCV.out]
  simp only [Result.andThen]
  rw [Oper.upon_value]
  go_wp2_with fail
  go_ret
  exact ⟨rfl, (Below.refl _ _).alloc (Nat.le_refl _) _⟩
end Go.Proofs.YtkedjammeoaciaaGreatDoor
/-
  natural.Text: what it hands back: the decimal digits.
  Conditions: each theorem's own.
-/
namespace Go.Proofs.YtkedjammeoaciaaGreatDoor
open Go.RowKit Go.ChangeShapes Go.WideShapes

/-- the digits of a number, the lowest first, no zero at the end -/
def digD (n : Nat) : List UInt8 := if h : n = 0 then [] else digB n :: digD (n / 10)
termination_by n
decreasing_by exact Nat.div_lt_self (by omega) (by decide)
theorem digD_zero : digD 0 = [] := by unfold digD; simp
theorem digD_pos {n : Nat} (h : n ≠ 0) : digD n = digB n :: digD (n / 10) := by rw [digD]; rw [dif_neg h]
/-- the decimal text of a number -/
def decB (n : Nat) : ByteArray := if n = 0 then ⟨#[48]⟩ else ⟨((digD n).reverse).toArray⟩
theorem padD_zero (k : Nat) : padD k 0 = List.replicate k 48 := by
  induction k with
  | zero => rfl
  | succ k ih => simp only [padD, Nat.zero_div, ih]; rfl
theorem padD_eq (k n : Nat) (h : n < 10 ^ k) : ∃ z, padD k n = digD n ++ List.replicate z 48 := by
  induction k generalizing n with
  | zero => have : n = 0 := by simpa using h
            subst this; exact ⟨0, by rw [digD_zero]; rfl⟩
  | succ k ih =>
    by_cases h0 : n = 0
    · subst h0; exact ⟨k + 1, by rw [padD_zero, digD_zero]; rfl⟩
    · obtain ⟨z, hz⟩ := ih (n / 10) (by rw [Nat.pow_succ] at h; omega)
      exact ⟨z, by rw [digD_pos h0]; simp only [padD, hz]; rfl⟩
theorem digD_last (n : Nat) (h : n ≠ 0) : ∃ l x, digD n = l ++ [x] ∧ x ≠ 48 := by
  induction n using Nat.strongRecOn with
  | _ n ih =>
    by_cases h1 : n / 10 = 0
    · refine ⟨[], digB n, by rw [digD_pos h, h1, digD_zero]; rfl, ?_⟩
      intro e
      have := digB_toNat n
      rw [e] at this
      have : (48 : UInt8).toNat = 48 := rfl
      omega
    · obtain ⟨l, x, hl, hx⟩ := ih (n / 10) (Nat.div_lt_self (by omega) (by decide)) h1
      exact ⟨digB n :: l, x, by rw [digD_pos h, hl]; rfl, hx⟩
theorem trim_pad (k n : Nat) (h : n < 10 ^ k) (h0 : n ≠ 0) : Lib.trimLeftB (padD k n).reverse 48 = (digD n).reverse := by
  obtain ⟨z, hz⟩ := padD_eq k n h
  obtain ⟨l, x, hl, hx⟩ := digD_last n h0
  rw [hz, List.reverse_append, List.reverse_replicate]
  unfold Lib.trimLeftB
  rw [List.dropWhile_append]
  have e : (List.replicate z (48 : UInt8)).dropWhile (· == 48) = [] := by
    induction z with
    | zero => rfl
    | succ z ih => rw [List.replicate_succ]; simp
  rw [e]
  simp only [List.isEmpty_nil, if_true]
  rw [hl, List.reverse_append]
  simp [hx]
theorem trim_pad_zero (k : Nat) : Lib.trimLeftB (padD k 0).reverse 48 = [] := by
  rw [padD_zero, List.reverse_replicate]
  unfold Lib.trimLeftB
  induction k with
  | zero => rfl
  | succ k ih => rw [List.replicate_succ]; simp
theorem padD_add (a b n : Nat) : padD (a + b) n = padD a n ++ padD b (n / 10 ^ a) := by
  induction a generalizing n with
  | zero => simp [padD]
  | succ a ih =>
    rw [Nat.add_right_comm]
    simp only [padD, ih, List.cons_append]
    rw [Nat.pow_succ, Nat.mul_comm (10 ^ a), ← Nat.div_div_eq_div_mul]
theorem padD_length (k n : Nat) : (padD k n).length = k := by
  induction k generalizing n with
  | zero => rfl
  | succ k ih => simp [padD, ih]
theorem padD_mod (k n : Nat) : padD k (n % 10 ^ k) = padD k n := by
  induction k generalizing n with
  | zero => rfl
  | succ k ih =>
    simp only [padD]
    have e1 : digB (n % 10 ^ (k + 1)) = digB n := by
      unfold digB
      rw [Nat.pow_succ, Nat.mul_comm, Nat.mod_mul_right_mod]
    have e2 : n % 10 ^ (k + 1) / 10 = n / 10 % 10 ^ k := by
      rw [Nat.pow_succ, Nat.mul_comm, Nat.mod_mul_right_div_self]
    rw [e1, e2, ih]
/-- group i of a number -/
def groupN (n i : Nat) : Nat := n / 10 ^ (9 * i) % 1000000000
/-- what the groups from k on down to m make -/
def groupsB (n k m : Nat) : List UInt8 := ((padD (9 * k) n).drop (9 * m)).reverse
theorem groupsB_top (n k : Nat) : groupsB n k k = [] := by unfold groupsB; rw [List.drop_of_length_le (by rw [padD_length]; exact Nat.le_refl _)]; rfl
theorem groupsB_step (n k m : Nat) (h : m < k) : groupsB n k m = groupsB n k (m + 1) ++ (padD 9 (groupN n m)).reverse := by
  unfold groupsB groupN
  obtain ⟨d, rfl⟩ : ∃ d, k = m + 1 + d := ⟨k - (m + 1), by omega⟩
  have e1 : padD (9 * (m + 1 + d)) n = padD (9 * m) n ++ (padD 9 (n / 10 ^ (9 * m)) ++ padD (9 * d) (n / 10 ^ (9 * (m + 1)))) := by
    rw [show 9 * (m + 1 + d) = 9 * m + (9 + 9 * d) from by omega, padD_add, padD_add, Nat.div_div_eq_div_mul, ← Nat.pow_add, show 9 * m + 9 = 9 * (m + 1) from by omega]
  have e2 : padD (9 * (m + 1 + d)) n = (padD (9 * m) n ++ padD 9 (n / 10 ^ (9 * m))) ++ padD (9 * d) (n / 10 ^ (9 * (m + 1))) := by rw [e1, List.append_assoc]
  rw [show padD 9 (n / 10 ^ (9 * m) % 1000000000) = padD 9 (n / 10 ^ (9 * m)) from padD_mod 9 _]
  have d1 : (padD (9 * (m + 1 + d)) n).drop (9 * m) = padD 9 (n / 10 ^ (9 * m)) ++ padD (9 * d) (n / 10 ^ (9 * (m + 1))) := by
    rw [e1]; exact List.drop_left' (padD_length _ _)
  have d2 : (padD (9 * (m + 1 + d)) n).drop (9 * (m + 1)) = padD (9 * d) (n / 10 ^ (9 * (m + 1))) := by
    rw [e2]; exact List.drop_left' (by rw [List.length_append, padD_length, padD_length]; omega)
  rw [d1, d2, List.reverse_append]
theorem groups_few {n k L : Nat} (h : n / 10 ^ (9 * k) ≠ 0) (hn : n < 2 ^ L) : k < L := by
  have h1 : 10 ^ (9 * k) ≤ n := by
    rcases Nat.lt_or_ge n (10 ^ (9 * k)) with h2 | h2
    · exact absurd (Nat.div_eq_of_lt h2) h
    · exact h2
  have h3 : 2 ^ k ≤ 10 ^ (9 * k) := Nat.le_trans (Nat.pow_le_pow_left (show 2 ≤ 10 by decide) k) (Nat.pow_le_pow_right (by decide) (by omega))
  rcases Nat.lt_or_ge k L with h4 | h4
  · exact h4
  · have : 2 ^ L ≤ 2 ^ k := Nat.pow_le_pow_right (by decide) h4
    omega
theorem group_rest (n k : Nat) : n / 10 ^ (9 * k) / 1000000000 = n / 10 ^ (9 * (k + 1)) := by
  rw [Nat.div_div_eq_div_mul, show (1000000000 : Nat) = 10 ^ 9 from rfl, ← Nat.pow_add]; congr 2

/-- texts of the call's own -/
def OwnSt (w : World) (B : Nat) (v : Value) (xs : List ByteArray) : Prop := w.ownsRow B 9 1 v xs.length (xs.map Value.string)
theorem OwnSt.nil (w : World) (B : Nat) : OwnSt w B (.slice none 0 0) [] := World.ownsRow_nil _ _ _ _
theorem OwnSt.below {w w' : World} {B : Nat} {v : Value} {xs : List ByteArray} (h : OwnSt w B v xs) (hb : Below w.heap.size w w') : OwnSt w' B v xs := by
  refine World.ownsRow.kept h (row := none) ⟨hb.os, hb.tape, hb.output, hb.size, fun k hk _ => hb.block k hk⟩ ?_
  cases hv : v.ownBlock <;> simp
theorem Tryz.textsTy : SliceTy Tryz.prog 114 9 (.string ⟨#[]⟩) 1 16 := .mk' Tryz.underlying114 (by kernel_rfl)
section
variable {w : World} {ops : Array Oper} {rest : List Oper} {o : Oper} {a : Act} {Q : Exit → Act → World → Prop}
/-- 'append(s, t)': one text, behind the block that holds it -/
theorem wpList_appendSt (hg : o.guard = none) (s x : Operand) (hop : o.op = Op.call { callee := Callee.builtin Builtin.append, args := #[s, x], argTypes := #[114, 114] })
    (B : Nat) (v : Value) (xs : List ByteArray) (tx : ByteArray) (hs : a.eval s = v) (hx : a.eval x = .slice (some ⟨w.heap.size, 0, none⟩) 1 1)
    (hown : OwnSt w B v xs) (hlen : xs.length ≤ 1099511627776) (hB : B ≤ w.heap.size)
    (hK : ∀ v' w', OwnSt w' B v' (xs ++ [tx]) → (∀ w0, Below B w0 w → Below B w0 w') → w.heap.size ≤ w'.heap.size → w.grownBy w' v.ownBlock →
      wpList Tryz.prog ops Q rest (a.put o.dst v') w') :
    wpList Tryz.prog ops Q (o :: rest) a (w.alloc (.cells #[.string tx] 9)) := by
  obtain ⟨i0, hi, hz0, hz1, hz2⟩ := Tryz.textsTy.info
  refine wpList_append_own _ hg s x 114 hop B 9 i0 _ 1 16 Tryz.textsTy.under hi hz0 hz1 hz2 rfl (by decide) v xs.length (xs.map Value.string) hs (World.ownsRow.alloc hown _) ⟨w.heap.size, 0, none⟩ 1 1 [.string tx] hx rfl ?_ ?_ (by unfold maxLen; omega) (by omega) (by simp; omega) ?_
  · intro j u hu
    have hj : j < 1 := (List.getElem?_eq_some_iff.1 hu).1
    obtain rfl : j = 0 := by omega
    rw [show (⟨w.heap.size, 0, none⟩ : Addr).add 0 = ⟨w.heap.size, 0, none⟩ from rfl, cell_of_row (w.alloc (.cells #[.string tx] 9)) w.heap.size 0 #[.string tx] 9 (0, 0) (heap_alloc_new w _)]
    rw [← hu]; rfl
  · intro u hu
    simp only [List.mem_cons, List.not_mem_nil, or_false] at hu
    subst hu; rfl
  · intro v' w' h1 h2 _
    refine hK v' w' ?_ (fun w0 h0 => ?_) ?_ (grown_trans (World.grownBy_alloc w _ _) h2)
    · unfold OwnSt; rw [List.map_append, List.length_append]; exact h1
    · have hb : Below B w0 (w.alloc (.cells #[.string tx] 9)) := h0.alloc hB _
      refine hb.grown h2 (by simp; omega) ?_
      intro k hk
      exact (World.ownsRow.lt hown k hk).1
    · have := h2.size; simp at this; omega
end
/-- the texts of a slice, as the walk reads them -/
theorem OwnSt.read {w : World} {B : Nat} {v : Value} {xs : List ByteArray} (h : OwnSt w B v xs) (hn : 0 < xs.length) :
    ∃ g c, v = .slice (some ⟨g, 0, none⟩) xs.length c ∧ g < w.heap.size ∧ xs.length ≤ c ∧ c ≤ 9223372036854775807 ∧ ∀ j (hj : j < xs.length), w.cell? ⟨g, j, none⟩ = some (.string xs[j]) := by
  have hlt := World.ownsRow.lt h
  rcases h.2 with ⟨rfl, h0⟩ | ⟨g, cap, cur, rfl, hb, hh, hcap, hm, hs, ht⟩
  · omega
  · refine ⟨g, cap, rfl, (hlt g rfl).2, hcap, by unfold maxLen at hm; omega, ?_⟩
    intro j hj
    have := World.ownsRow.cells h (g := g) rfl j (.string xs[j]) (by simp [hj])
    have e2 : (⟨g, 0, none⟩ : Addr).add j = ⟨g, 0 + j, none⟩ := by unfold Addr.add; split <;> simp_all
    rw [e2, Nat.zero_add] at this; exact this

theorem OwnSt.shape {w : World} {B : Nat} {v : Value} {xs : List ByteArray} (h : OwnSt w B v xs) :
    ∃ go c, v = .slice go xs.length c ∧ xs.length ≤ c ∧ c ≤ 9223372036854775807 ∧ ∀ j (hj : j < xs.length), ∃ g, go = some ⟨g, 0, none⟩ ∧ g < w.heap.size ∧ w.cell? ⟨g, j, none⟩ = some (.string xs[j]) := by
  by_cases h0 : 0 < xs.length
  · obtain ⟨g, c, rfl, h1, h2, h3, h4⟩ := h.read h0
    exact ⟨_, c, rfl, h2, h3, fun j hj => ⟨g, rfl, h1, h4 j hj⟩⟩
  · rcases h.2 with ⟨rfl, h1⟩ | ⟨g, cap, cur, rfl, hb, hh, hcap, hm, hs, ht⟩
    · exact ⟨none, 0, by rw [h1], by omega, by omega, fun j hj => by omega⟩
    · exact ⟨_, cap, rfl, hcap, by unfold maxLen at hm; omega, fun j hj => by omega⟩

set_option maxRecDepth 100000 in
set_option maxHeartbeats 4000000 in
theorem text_any (va : Value) (a : List Nat) (w : World) (ha : Num w va a) (hla : a.length ≤ 800000) :
    Calls Tryz.prog 108 #[va] w (RetV w (.string (decB (val a)))) := by
  have hl1 := wd_length_le ha.lt
  obtain ⟨N, hN⟩ : ∃ N, N = val a := ⟨_, rfl⟩
  rw [← hN] at hl1 ⊢
  have HN := Lib.hid hN; have HUA := Lib.hid ha.lt; clear hN
  go_enter Tryz.func108, Tryz.ntmps108
  go_wp2_with fail
  (with_reducible refine (trim_any _ _ _ ha (by omega)).mono ?_); rintro e w1 ⟨v1, l1, rfl, hb1, hn1, hl1'⟩
  rw [hl1', ← HN.out] at hn1
  have HN1 := Lib.hid hn1
  clear hn1 hl1' ha
  go_wp2_with fail
  go_loopw [0, 3] (fun xv gv wr => ∃ (k : Nat), Num wr xv (wd (N / 10 ^ (9 * k))) ∧ OwnSt wr w.heap.size gv ((List.range k).map fun i => nineB (groupN N i)) ∧ Below w.heap.size w wr ∧ k ≤ 32 * a.length) (fun xv _ wr => numOf wr xv)
  case atStart => exact ⟨0, by simpa using HN1.out, OwnSt.nil _ _, hb1, Nat.zero_le _⟩
  case round =>
    obtain ⟨k, hnx, hgs, hBr, hkl⟩ := hrel
    by_cases hx0 : N / 10 ^ (9 * k) = 0
    · obtain ⟨wo, rfl⟩ : ∃ wo : World, wo = wr := ⟨_, rfl⟩
      have hNk : N < 10 ^ (9 * k) := by
        rcases Nat.lt_or_ge N (10 ^ (9 * k)) with h | h
        · exact h
        · have := Nat.div_pos h (Nat.pow_pos (by decide)); omega
      rw [hx0, wd_zero] at hnx
      obtain ⟨xo, cx, rfl, _, _, _⟩ := hnx.shape
      rw [List.length_nil]
      have HNK := Lib.hid hNk
      have hlen : ((List.range k).map fun i => nineB (groupN N i)).length = k := by rw [List.length_map, List.length_range]
      have HGS := Lib.hid hgs; have HLEN := Lib.hid hlen
      have hbld := Lib.fresh_isBuilder 118 5 wo
      have HBL := Lib.hid hbld
      obtain ⟨go, cg, rfl, hgc, hgc2, hgcell⟩ := HGS.out.shape
      rw [HLEN.out] at hgc ⊢
      have hgcell2 : ∀ j, j < k → ∃ g, go = some ⟨g, 0, none⟩ ∧ g < wo.heap.size ∧ wo.cell? ⟨g, j, none⟩ = some (.string (nineB (groupN N j))) := fun j hj => by
        obtain ⟨g, h1, h2, h3⟩ := hgcell j (by rw [HLEN.out]; exact hj)
        refine ⟨g, h1, h2, ?_⟩
        rw [h3]; simp
      have HGC := Lib.hid hgcell2
      have hsz := hBr.size
      clear hnx hgs hNk hx0 hlen hbld hgcell hgcell2
      go_wp2_with fail
      go_loopw [7] (fun iv wx => ∃ m : Nat, m ≤ k ∧ iv = .int .i64 ((m : Int) - 1) ∧ Lib.IsBuilder 118 5 wo.heap.size wo.heap.size (Lib.byteCells (groupsB N k m)) wx ∧ Below wo.heap.size wo wx) (fun iv _ => (intOf iv + 1).toNat)
      case atStart => exact ⟨k, Nat.le_refl _, rfl, by rw [groupsB_top]; exact HBL.out, (Below.refl _ _).alloc (Nat.le_refl _) _⟩
      case round =>
        obtain ⟨m, hm, rfl, hib, hbx⟩ := hrel
        have hszx := hbx.size
        by_cases hm0 : m = 0
        · subst hm0
          have hst := Tryz.Builder_String_any wo.heap.size wo.heap.size (groupsB N k 0) wr hib hszx
          have hg0 : groupsB N k 0 = (padD (9 * k) N).reverse := by unfold groupsB; rfl
          rw [hg0] at hst
          have HST := Lib.hid hst
          clear hst hg0 hib
          by_cases hN0 : N = 0
          · have htl := fun wx => Tryz.strings_TrimLeft_one ⟨(padD (9 * k) N).reverse.toArray⟩ 48 (by decide) wx
            have e0 : Lib.trimLeftB (padD (9 * k) N).reverse 48 = [] := by rw [hN0]; exact trim_pad_zero _
            simp only [e0] at htl
            have HTL := Lib.hid htl
            have hd : decB N = ⟨#[48]⟩ := by unfold decB; rw [if_pos hN0]
            have HD := Lib.hid hd
            clear htl e0 hd hN0
            go_wp2_with fail
            (with_reducible refine HST.out.mono ?_); rintro e w3 ⟨rfl, hb3⟩
            go_wp2_with fail
            (with_reducible refine (HTL.out _).mono ?_); rintro e w4 ⟨rfl, rfl⟩
            go_wp2_with fail
            go_ret
            exact ⟨by rw [HD.out]; rfl, hBr.trans ((hbx.trans hb3).mono hsz)⟩
          · have htl := fun wx => Tryz.strings_TrimLeft_one ⟨(padD (9 * k) N).reverse.toArray⟩ 48 (by decide) wx
            have e0 : Lib.trimLeftB (padD (9 * k) N).reverse 48 = (digD N).reverse := trim_pad _ _ HNK.out hN0
            simp only [e0] at htl
            have HTL := Lib.hid htl
            have hd : decB N = ⟨((digD N).reverse).toArray⟩ := by unfold decB; rw [if_neg hN0]
            have HD := Lib.hid hd
            obtain ⟨l, x, hl, _⟩ := digD_last N hN0
            have hne : (digD N).reverse.isEmpty = false := by rw [hl]; simp
            clear htl e0 hd hN0 hl
            go_wp2_with fail
            (with_reducible refine HST.out.mono ?_); rintro e w3 ⟨rfl, hb3⟩
            go_wp2_with fail
            (with_reducible refine (HTL.out _).mono ?_); rintro e w4 ⟨rfl, rfl⟩
            go_wp2_with fail
            go_ret
            exact ⟨by rw [HD.out]; rfl, hBr.trans ((hbx.trans hb3).mono hsz)⟩
        · obtain ⟨j, rfl⟩ : ∃ j, m = j + 1 := ⟨m - 1, by omega⟩
          have hj1 : ((j + 1 : Nat) : Int) - 1 = (j : Int) := by omega
          rw [hj1]
          clear hj1
          obtain ⟨g, rfl, hgl, hgcj⟩ := HGC.out j (by omega)
          have hcx : wr.cell? ⟨g, j, none⟩ = some (.string (nineB (groupN N j))) := by rw [hbx.cell (p := ⟨g, j, none⟩) hgl]; exact hgcj
          have hlen1 : (groupsB N k (j + 1)).length = 9 * k - 9 * (j + 1) := by unfold groupsB; rw [List.length_reverse, List.length_drop, padD_length]
          have hws := writeString_any wo.heap.size wo.heap.size _ (nineB (groupN N j)) wr hib (by rw [Lib.byteCells_length, hlen1]; have : (nineB (groupN N j)).size = 9 := rfl; omega) hszx
          have e1 : Lib.byteCells (groupsB N k (j + 1)) ++ Lib.strCells (nineB (groupN N j)) = Lib.byteCells (groupsB N k j) := by
            rw [groupsB_step N k j (by omega), Lib.byteCells_append]; rfl
          rw [e1] at hws
          have HWS := Lib.hid hws
          clear hws e1 hlen1 hib hgcj
          go_wp2_with fail
          (with_reducible refine HWS.out.mono ?_); rintro e w3 ⟨rfl, hbl, hb3⟩
          have HBL3 : Hid (Lib.IsBuilder 118 5 wo.heap.size wo.heap.size (Lib.byteCells (groupsB N k j)) w3) := Lib.hid (.inr hbl)
          clear hbl
          go_wp2_with fail
          go_roundw
          case rel => exact ⟨j, by omega, rfl, HBL3.out, hbx.trans hb3⟩
          case measure => simp [intOf]
    · have hsm := small_own _ _ 1000000000 wr hnx (Nat.le_trans (wd_length_mono (Nat.div_le_self _ _)) (by omega)) (by decide) (by decide)
      rw [val_wd, group_rest, show ((1000000000 : Nat) : Int) = 1000000000 from rfl] at hsm
      have hpos := wd_length_pos hx0
      have hm0 := numOf_eq hnx
      rw [val_wd] at hm0
      have hkl2 : k < 32 * a.length := groups_few hx0 (by rw [HN.out, ← pow32]; exact val_lt HUA.out)
      have hdec : N / 10 ^ (9 * (k + 1)) < N / 10 ^ (9 * k) := by rw [← group_rest]; exact Nat.div_lt_self (by omega) (by decide)
      obtain ⟨r, hr⟩ : ∃ r, r = N / 10 ^ (9 * k) % 1000000000 := ⟨_, rfl⟩
      have hrl : r < 1000000000 := by rw [hr]; exact Nat.mod_lt _ (by decide)
      rw [← hr] at hsm
      obtain ⟨xo, cx, rfl, _, _, _⟩ := hnx.shape
      have HSM := Lib.hid hsm; have HM0 := Lib.hid hm0; have HDEC := Lib.hid hdec; have HR := Lib.hid hr; have HGS := Lib.hid hgs; have HGW := Lib.hid hgs
      clear hsm hm0 hdec hr hnx hx0 hgs
      go_wp2_with fail
      (with_reducible refine HSM.out.mono ?_); rintro e w2 ⟨vq, rfl, hb2, hnq⟩
      have hB2 := hBr.trans (hb2.mono hBr.size)
      have HNQ := Lib.hid hnq
      have hni := nine_any r w2 (by omega)
      have HNI := Lib.hid hni; have HGS := Lib.hid (HGS.out.below hb2)
      clear hnq hni hb2
      go_wp2_with fail
      (with_reducible refine HNI.out.mono ?_); rintro e w3 ⟨rfl, hb3⟩
      have hB3 := hB2.trans (hb3.mono hB2.size)
      have HGS := Lib.hid (HGS.out.below hb3); have HNQ := Lib.hid (HNQ.out.below hb3)
      have hsz3 := hB3.size
      clear hb3 hB2
      go_wp2_with (at_builtin; refine wpList_appendSt rfl (.tmp 19) (.tmp 22) rfl w.heap.size _ _ (nineB r) rfl rfl HGS.out ?c1 ?c2 ?_)
      case c1 => simp; omega
      case c2 => exact hsz3
      intro v' w4 h1 h2 h3 h5
      have h4 := h2 w hB3
      have hnq4 := (HNQ.out.keptFrom h5 (fun g hg => ((HGW.out).lt g hg).2)).num
      have HNQ4 := Lib.hid hnq4
      have HH1 := Lib.hid h1
      clear hnq4 h1 h2 h5
      go_wp2_with fail
      go_roundw
      case rel => exact ⟨k + 1, HNQ4.out, by rw [List.range_succ, List.map_append]; show OwnSt _ _ _ (_ ++ [nineB (groupN N k)]); unfold groupN; rw [← HR.out]; exact HH1.out, h4, hkl2⟩
      case measure =>
        have e1 := numOf_eq HNQ4.out
        rw [val_wd] at e1
        show numOf _ _ < numOf _ _
        rw [HM0.out]
        exact Nat.lt_of_le_of_lt (Nat.le_of_eq e1) HDEC.out
end Go.Proofs.YtkedjammeoaciaaGreatDoor
/-
  Plain numbers: the reference's long division.
  Conditions: each theorem's own.
-/
namespace Go.Proofs.YtkedjammeoaciaaGreatDoor
open Go.RowKit

/-- the highest bit of a word, as the reference asks for it -/
theorem top_bit (y : Nat) (h : y < 4294967296) : bits .and .u32 (y : Int) 2147483648 = (if y < 2147483648 then 0 else 2147483648 : Nat) := by
  rw [show (2147483648 : Int) = ((2147483648 : Nat) : Int) from rfl, (bits_nat .u32 32 (by decide) wraps_u32 y 2147483648 h (by decide)).1]
  congr 1
  rw [show (2147483648 : Nat) = 2 ^ 31 from rfl]
  apply Nat.eq_of_testBit_eq
  intro i
  rw [Nat.testBit_and, Nat.testBit_two_pow]
  by_cases h1 : y < 2 ^ 31
  · rw [if_pos h1, Nat.zero_testBit]
    by_cases hi : 31 = i
    · subst hi; rw [Nat.testBit_lt_two_pow h1]; rfl
    · rw [decide_eq_false hi, Bool.and_false]
  · rw [if_neg h1, Nat.testBit_two_pow]
    by_cases hi : 31 = i
    · subst hi
      have e : y.testBit 31 = true := by
        rw [Nat.testBit_eq_decide_div_mod_eq]
        simp only [decide_eq_true_eq]
        omega
      rw [e]; rfl
    · rw [decide_eq_false hi, Bool.and_false]
theorem shl32 (x s : Nat) (h : x * 2 ^ s < 4294967296) : IntKind.u32.wrap ((x : Int) * 2 ^ s) = ((x * 2 ^ s : Nat) : Int) := by
  have e : (x : Int) * 2 ^ s = ((x * 2 ^ s : Nat) : Int) := by simp
  rw [e]; exact wraps_u32 _ (by omega) (by omega)
/-- the divisor's words, moved up till the highest bit is set -/
theorem norm_len {Bv x s n : Nat} (hn : n = (wd Bv).length) (h0 : Bv ≠ 0) (hx : x = gd (wd Bv) (n - 1)) (h1 : x * 2 ^ s < 4294967296) (h2 : 2147483648 ≤ x * 2 ^ s) :
    Bv * 2 ^ s < 4294967296 ^ n ∧ 2147483648 * 4294967296 ^ (n - 1) ≤ Bv * 2 ^ s ∧ (wd (Bv * 2 ^ s)).length = n ∧ 0 < n := by
  have hpos : 0 < n := by rw [hn]; exact (wd_top h0).1
  have e := val_take_succ (wd Bv) (n - 1)
  rw [show n - 1 + 1 = n from by omega, List.take_of_length_le (by omega), val_wd, ← hx] at e
  have hlo := val_take_lt (u32_wd Bv) (n - 1)
  have hp : 4294967296 ^ n = 4294967296 ^ (n - 1) * 4294967296 := by rw [← Nat.pow_succ]; congr 1; omega
  have h3 : 2147483648 * 4294967296 ^ (n - 1) ≤ Bv * 2 ^ s := by
    rw [e, Nat.add_mul, Nat.mul_assoc, Nat.mul_comm 2147483648]
    exact Nat.le_trans (Nat.mul_le_mul_left _ h2) (Nat.le_add_left _ _)
  have h4 : Bv * 2 ^ s < 4294967296 ^ n := by
    rw [e]
    have h5 : val ((wd Bv).take (n - 1)) + 4294967296 ^ (n - 1) * x < 4294967296 ^ (n - 1) * (x + 1) := by rw [Nat.mul_add]; omega
    have h6 := Nat.mul_lt_mul_of_pos_right h5 (Nat.two_pow_pos s)
    refine Nat.lt_of_lt_of_le h6 ?_
    rw [Nat.mul_assoc, hp]
    refine Nat.mul_le_mul_left _ ?_
    have h7 : 2 ^ s ∣ 4294967296 := by
      have hs : s ≤ 32 := by
        rcases Nat.lt_or_ge 32 s with g | g
        · exfalso
          have h8 : 2 ^ 33 ≤ 2 ^ s := Nat.pow_le_pow_right (by decide) g
          have h9 : 0 < x := by
            rcases Nat.eq_zero_or_pos x with q | q
            · rw [q] at h2; omega
            · exact q
          have h10 := Nat.mul_le_mul h9 h8
          omega
        · exact g
      exact ⟨2 ^ (32 - s), by rw [← Nat.pow_add, show s + (32 - s) = 32 from by omega]⟩
    obtain ⟨c, hc⟩ := h7
    rw [hc, Nat.mul_comm]
    refine Nat.mul_le_mul_left _ ?_
    rw [hc, Nat.mul_comm] at h1
    have := Nat.lt_of_mul_lt_mul_left h1
    omega
  refine ⟨h4, h3, ?_, hpos⟩
  apply Nat.le_antisymm (wd_length_of_lt h4)
  rcases Nat.lt_or_ge (wd (Bv * 2 ^ s)).length n with g | g
  · exfalso
    have h5 := val_lt (u32_wd (Bv * 2 ^ s))
    rw [val_wd] at h5
    have h6 : 4294967296 ^ (wd (Bv * 2 ^ s)).length ≤ 4294967296 ^ (n - 1) := Nat.pow_le_pow_right (by decide) (by omega)
    have h7 : 0 < 4294967296 ^ (n - 1) := Nat.pow_pos (by decide)
    omega
  · exact g
/-- the estimate is not too low -/
theorem guess_ge {R V P H top : Nat} (hP : 0 < P) (hH : H = R / P) (ht : top = V / P) (h0 : 0 < top) (hlt : R < 4294967296 * V) : R / V ≤ min (H / top) 4294967295 := by
  have hV : 0 < V := by
    rcases Nat.eq_zero_or_pos V with h | h
    · rw [h, Nat.zero_div] at ht; omega
    · exact h
  obtain ⟨q, hq⟩ : ∃ q, q = R / V := ⟨_, rfl⟩
  have h1 : q * V ≤ R := by rw [hq]; exact Nat.div_mul_le_self _ _
  have h2 : q < 4294967296 := by rw [hq, Nat.div_lt_iff_lt_mul hV]; exact hlt
  rw [← hq]
  refine Nat.le_min.2 ⟨?_, by omega⟩
  rw [Nat.le_div_iff_mul_le h0, hH, Nat.le_div_iff_mul_le hP]
  refine Nat.le_trans ?_ h1
  rw [Nat.mul_assoc]
  refine Nat.mul_le_mul_left _ ?_
  rw [ht]; exact Nat.div_mul_le_self _ _
theorem rdiv_step {Y V Q r x R : Nat} (h : Y = Q * V + r) (hR : R = x + 4294967296 * r) : x + 4294967296 * Y = (R / V + 4294967296 * Q) * V + R % V := by
  have e := Nat.div_add_mod R V
  rw [h, Nat.add_mul, Nat.mul_add, Nat.mul_assoc 4294967296 Q V, Nat.mul_comm (R / V) V]
  omega
/-- a list's words two by two at the top of what is below a power -/
theorem head_two {R n : Nat} (h : R < 4294967296 ^ (n + 1)) (hn : 0 < n) : gd (wd R) n * 4294967296 + gd (wd R) (n - 1) = R / 4294967296 ^ (n - 1) := by
  have e1 := val_digit (u32_wd R) (n - 1)
  have e2 := val_digit (u32_wd R) n
  rw [val_wd, show n - 1 + 1 = n from by omega] at e1
  rw [val_wd] at e2
  have e3 : R / 4294967296 ^ (n + 1) = 0 := Nat.div_eq_of_lt h
  rw [e3] at e2
  omega
theorem top_one {V n : Nat} (h : V < 4294967296 ^ n) (hn : 0 < n) : gd (wd V) (n - 1) = V / 4294967296 ^ (n - 1) := by
  have e1 := val_digit (u32_wd V) (n - 1)
  rw [val_wd, show n - 1 + 1 = n from by omega, Nat.div_eq_of_lt h] at e1
  omega
theorem first_rest {AS V n na : Nat} (hA : AS < 4294967296 ^ na) (hn : 0 < n) (hlo : 2147483648 * 4294967296 ^ (n - 1) ≤ V) : AS / 4294967296 ^ (na + 1 - n) < V := by
  refine Nat.lt_of_lt_of_le ?_ hlo
  rw [Nat.div_lt_iff_lt_mul (Nat.pow_pos (by decide)), Nat.mul_assoc, ← Nat.pow_add]
  refine Nat.lt_of_lt_of_le hA (Nat.le_trans (Nat.pow_le_pow_right (by decide) (show na ≤ n - 1 + (na + 1 - n) by omega)) ?_)
  exact Nat.le_mul_of_pos_left _ (by decide)
end Go.Proofs.YtkedjammeoaciaaGreatDoor
/-
  The reference's Div: what it hands back.
  Conditions: each theorem's own.
-/
namespace Go.Proofs.YtkedjammeoaciaaGreatDoor
open Go.RowKit Go.ChangeShapes Go.WideShapes

set_option maxRecDepth 100000 in
set_option maxHeartbeats 800000 in
theorem rdiv_zero (va vb : Value) (b : List Nat) (w : World) (hb : Num w vb b) (hlb : b.length ≤ 800000) (h0 : val b = 0) :
    Calls Tryz.prog 85 #[va, vb] w (RetDiv w 0 0 (.int .i64 8)) := by
  go_enter Tryz.func85, Tryz.ntmps85
  go_wp2_with fail
  (with_reducible refine (rtrim_any _ _ _ hb (by omega)).mono ?_); rintro e w1 ⟨v1, l1, rfl, hb1, hn1, hl1⟩
  rw [h0, wd_zero] at hl1
  subst hl1
  obtain ⟨bo, cb, rfl, hcb, hcb2, _⟩ := hn1.shape
  rw [List.length_nil]
  clear hn1 hb h0
  go_wp2_with fail
  go_ret3
  exact ⟨_, _, rfl, hb1, by rw [wd_zero]; exact Num.nil _, by rw [wd_zero]; exact Num.nil _⟩

/-- a slice's tail -/
def cutS (ao : Option Addr) (k n c : Nat) : Value := .slice (if c = k then ao else ao.map (·.add k)) (n - k) (c - k)
theorem run_cutS (wx : World) (ao : Option Addr) (k n c : Nat) (hk : k ≤ n) :
    (Instr.slice 22 (.slice ao n c) (some (.int .i64 (k : Int))) none none).run Tryz.prog wx = .ok (cutS ao k n c) wx := by
  have h := run_slice_l (P := Tryz.prog) (w := wx) 22 ao n c (by kernel_rfl) .i64 (k : Int) (by omega) (by omega)
  have e : ∀ w : World, (Go.sizeOf (Tryz.prog.elem 22)).run Tryz.prog w = .ok 1 w := fun w => by kernel_rfl
  rw [h, e]
  simp only [Result.andThen, sliced, Int.toNat_natCast, Nat.mul_one]
  rfl
theorem Num.cut {w : World} {ao : Option Addr} {n c : Nat} {l : List Nat} (h : Num w (.slice ao n c) l) (k : Nat) (hk : k ≤ n) : Num w (cutS ao k n c) (l.drop k) := by
  obtain ⟨ao', c', e, h1, h2, h3, h4, h5⟩ := h
  cases e
  have hl : (l.drop k).length = l.length - k := by rw [List.length_drop]
  unfold cutS
  refine ⟨_, _, by rw [hl], by omega, by omega, ?_, ?_, h5.drop k⟩
  · intro hn
    split at hn
    · have := h3 hn; omega
    · cases ao with
      | none => have := h3 rfl; omega
      | some x => simp at hn
  · intro b off s hs
    split at hs
    · rename_i hck
      refine ⟨fun h0 => ?_, fun j hj => ?_⟩
      · rw [hl] at h0; omega
      · rw [hl] at hj; omega
    · cases ao with
      | none => simp at hs
      | some x =>
        obtain ⟨b', off', s'⟩ := x
        obtain ⟨k1, k2⟩ := h4 _ _ _ rfl
        by_cases hn0 : 0 < l.length
        · obtain ⟨k3, rfl⟩ := k1 hn0
          have e2 : (⟨b', off', none⟩ : Addr).add k = ⟨b', off' + k, none⟩ := by unfold Addr.add; split <;> simp_all
          simp only [Option.map_some, e2, Option.some.injEq, Addr.mk.injEq] at hs
          obtain ⟨rfl, rfl, rfl⟩ := hs
          refine ⟨fun _ => ⟨k3, rfl⟩, fun j hj => ?_⟩
          rw [gd_drop, Nat.add_assoc]
          exact k2 (k + j) (by rw [hl] at hj; omega)
        · exact ⟨fun h0 => by rw [hl] at h0; omega, fun j hj => by rw [hl] at hj; omega⟩

set_option maxRecDepth 100000 in
set_option maxHeartbeats 16000000 in
theorem rdiv_any (va vb : Value) (a b : List Nat) (w : World) (ha : Num w va a) (hb : Num w vb b) (hla : a.length ≤ 400000) (hlb : b.length ≤ 400000) (h0 : val b ≠ 0) :
    Calls Tryz.prog 85 #[va, vb] w (RetDiv w (val a / val b) (val a % val b) (.int .i64 0)) := by
  have hl2 := wd_length_le hb.lt
  obtain ⟨hnpos, hx0, _⟩ := wd_top h0
  obtain ⟨A, hA⟩ : ∃ A, A = val a := ⟨_, rfl⟩
  obtain ⟨Bv, hBv⟩ : ∃ Bv, Bv = val b := ⟨_, rfl⟩
  rw [← hBv] at h0 hl2 hnpos hx0
  rw [← hA, ← hBv]
  obtain ⟨lb, hlb1⟩ : ∃ lb, lb = wd Bv := ⟨_, rfl⟩
  rw [← hlb1] at hl2 hnpos hx0
  obtain ⟨n, hn⟩ : ∃ n, n = lb.length := ⟨_, rfl⟩
  rw [← hn] at hl2 hnpos hx0
  have hub : U32 lb := by rw [hlb1]; exact u32_wd _
  have hxl := hub (n - 1)
  obtain ⟨x, hx⟩ : ∃ x, x = gd lb (n - 1) := ⟨_, rfl⟩
  rw [← hx] at hx0 hxl
  have hn0 : ((n : Int) == 0) = false := by simp; omega
  have HA := Lib.hid hA; have HBV := Lib.hid hBv; have HLB := Lib.hid hlb1; have HN := Lib.hid hn; have HX := Lib.hid hx; have H0 := Lib.hid h0; have HNA := Lib.hid ha
  clear hA hBv hlb1 hn hx h0 hub ha
  obtain ⟨ao, ca, rfl, hca, hca2, _⟩ := HNA.out.shape
  go_enter Tryz.func85, Tryz.ntmps85
  go_wp2_with fail
  (with_reducible refine (rtrim_any _ _ _ hb (by omega)).mono ?_); rintro e w1 ⟨v1, l1, rfl, hb1, hn1, hl1'⟩
  rw [hl1', ← HBV.out, ← HLB.out] at hn1
  obtain ⟨bo, cb, rfl, hcb, hcb2, _⟩ := hn1.shape
  rw [← HN.out] at hn1 hcb ⊢
  obtain ⟨bb, ob, rfl, _, hcell⟩ := hn1.at hnpos
  have hcx := hcell (n - 1) (by omega)
  rw [← HX.out] at hcx
  have HN1 := Lib.hid hn1; have HB1 := Lib.hid hb1
  clear hn1 hl1' hcell hb hb1
  go_wp2_with fail
  go_loop [8] (fun sv => ∃ s : Nat, sv = .int .i64 s ∧ s ≤ 31 ∧ Hid (x * 2 ^ s < 4294967296)) (fun sv => 32 - (intOf sv).toNat)
  case atStart => exact ⟨0, rfl, by omega, Lib.hid (by rw [Nat.pow_zero, Nat.mul_one]; exact hxl)⟩
  case round =>
    obtain ⟨s, rfl, hs31, hxs⟩ := hrel
    have hsw := shl32 x s hxs.out
    have htb := top_bit (x * 2 ^ s) hxs.out
    obtain ⟨y, hy⟩ : ∃ y, y = x * 2 ^ s := ⟨_, rfl⟩
    rw [← hy] at hsw htb
    have hyl : y < 4294967296 := by rw [hy]; exact hxs.out
    have HY := Lib.hid hy; clear hy
    by_cases hyt : y < 2147483648
    · rw [if_pos hyt] at htb
      have hs30 : s < 31 := by
        rcases Nat.lt_or_ge s 31 with h | h
        · exact h
        · exfalso
          have h1 : 2 ^ 31 ≤ 2 ^ s := Nat.pow_le_pow_right (by decide) h
          have h2 := Nat.mul_le_mul (show 1 ≤ x by omega) h1
          rw [← HY.out] at h2
          omega
      have hnx : x * 2 ^ (s + 1) < 4294967296 := by rw [Nat.pow_succ, ← Nat.mul_assoc, ← HY.out]; omega
      have HNX := Lib.hid hnx; clear hnx
      go_wp2_with fail
      go_round
      case rel => exact ⟨s + 1, by go_num, by omega, HNX⟩
      case measure => simp [intOf]; omega
    · rw [if_neg hyt] at htb
      obtain ⟨hVB, hVlo, hVlen, _⟩ := norm_len (Bv := Bv) (x := x) (s := s) (n := n) (by rw [HN.out, HLB.out]) H0.out (by rw [HX.out, HLB.out]) hxs.out (by rw [← HY.out]; omega)
      obtain ⟨V, hV⟩ : ∃ V, V = Bv * 2 ^ s := ⟨_, rfl⟩
      rw [← hV] at hVB hVlo hVlen
      have hup1 := rup_any _ a s w1 (HNA.out.below HB1.out) (by omega) (by omega)
      rw [← HA.out] at hup1
      have HUP1 := Lib.hid hup1; have HV := Lib.hid hV; have HVB := Lib.hid hVB; have HVLO := Lib.hid hVlo; have HVLEN := Lib.hid hVlen
      clear hup1 hV hVB hVlo hVlen
      go_wp2_with fail
      (with_reducible refine HUP1.out.mono ?_); rintro e w2 ⟨v2, l2, rfl, hb2, hn2, hl2'⟩
      have hup2 := rup_any _ lb s w2 (HN1.out.below hb2) (by rw [← HN.out]; omega) (by omega)
      rw [HLB.out, val_wd, ← HV.out] at hup2
      have HUP2 := Lib.hid hup2; have HB2 := Lib.hid (HB1.out.trans (hb2.mono HB1.out.size)); have HN2 := Lib.hid hn2; have HL2 := Lib.hid hl2'
      clear hup2 hb2 hn2 hl2'
      go_wp2_with fail
      (with_reducible refine HUP2.out.mono ?_); rintro e w3 ⟨v3, l3, rfl, hb3, hn3, hl3⟩
      have HB3 := Lib.hid (HB2.out.trans (hb3.mono HB2.out.size))
      rw [hl3] at hn3
      have hn2 := HN2.out.below hb3
      rw [HL2.out] at hn2
      have hAl := Nat.le_trans (wd_length_mono (show A ≤ A * 2 ^ s from Nat.le_mul_of_pos_right _ (Nat.two_pow_pos s))) (Nat.le_refl _)
      obtain ⟨AS, hAS⟩ : ∃ AS, AS = A * 2 ^ s := ⟨_, rfl⟩
      rw [← hAS] at hn2
      have hASl : (wd AS).length ≤ a.length + 1 := by
        have h1 := wd_mul_len A (2 ^ s)
        have h2 : (wd (2 ^ s)).length ≤ 1 := wd_length_of_lt (by rw [Nat.pow_one]; exact Nat.lt_of_le_of_lt (Nat.pow_le_pow_right (by decide) hs31) (by decide))
        have h3 : (wd A).length ≤ a.length := by rw [HA.out]; exact wd_length_le HNA.out.lt
        rw [hAS]; omega
      have hASv := val_lt (u32_wd AS)
      rw [val_wd] at hASv
      obtain ⟨ao2, ca2, rfl, hca2a, hca2b, _⟩ := hn2.shape
      obtain ⟨bo3, cb3, rfl, hcb3a, hcb3b, _⟩ := hn3.shape
      rw [HVLEN.out] at hn3 hcb3a ⊢
      obtain ⟨na, hna⟩ : ∃ na, na = (wd AS).length := ⟨_, rfl⟩
      rw [← hna] at hn2 hca2a hASl hASv ⊢
      obtain ⟨k0, hk0⟩ : ∃ k0, k0 = na + 1 - n := ⟨_, rfl⟩
      have hk0n : k0 ≤ na := by omega
      obtain ⟨d, hd⟩ : ∃ d : Int, d = (na : Int) - (n : Int) := ⟨_, rfl⟩
      obtain ⟨d1, hd1⟩ : ∃ d1 : Int, d1 = d + 1 := ⟨_, rfl⟩
      have e1 : IntKind.i64.wrap ((na : Int) - (n : Int)) = d := by rw [IntWalk.i64_in _ (by omega)]; omega
      have e2 : IntKind.i64.wrap (d + 1) = d1 := by rw [IntWalk.i64_in _ (by omega)]; omega
      have e3 : max (0 : Int) d1 = (k0 : Int) := by omega
      have hdk : d = (k0 : Int) - 1 ∨ (k0 = 0 ∧ d < 0) := by omega
      have hdb : -1000000 ≤ d ∧ d ≤ 1000000 := by omega
      have HN2 := Lib.hid hn2; have HN3 := Lib.hid hn3; have HN2W := Lib.hid hn2; have HN3W := Lib.hid hn3; have HAS := Lib.hid hAS; have HASV := Lib.hid hASv; have HNAE := Lib.hid hna; have HK0 := Lib.hid hk0; have HDK := Lib.hid hdk; have HDB := Lib.hid hdb
      have E1 := Lib.hid e1; have E2 := Lib.hid e2; have E3 := Lib.hid e3; have HD := Lib.hid hd
      have hmk := fun wx : World => run_makeW wx na (by omega)
      have hcut := fun wx : World => run_cutS wx ao2 k0 na ca2 hk0n
      have HMK := Lib.hid hmk; have HCUT := Lib.hid hcut
      clear hn2 hn3 hAS hASv hna hk0 hd hd1 e1 e2 e3 hdk hdb hmk hcut hb3 hl3 hAl htb hsw
      go_upto_region 9 with fail
      go_cut [9, 10] (fun v9 v10 wx => ∃ gq l10, v9 = .slice (some ⟨gq, 0, none⟩) na na ∧ w3.heap.size ≤ gq ∧ OwnW 75 wx w3.heap.size v9 (List.replicate na 0) ∧ Num wx v10 l10 ∧ Below w3.heap.size w3 wx ∧ Hid (l10 = (wd AS).drop k0))
      case first =>
        have e1 := E1.out; have e2 := E2.out; have e3 := E3.out; have hmk := HMK.out; have hcut := HCUT.out
        have bb : ∀ o1 o2 : Obj, Below w3.heap.size w3 ((w3.alloc o1).alloc o2).drew := fun o1 o2 => (((Below.refl _ _).alloc (Nat.le_refl _) o1).alloc (by simp) o2).drew
        have P1 : Hid (Below w3.heap.size w3 ((w3.alloc (.cells (freshW na) 75)).alloc (.cells #[] 75)).drew) := Lib.hid (bb _ _)
        have P2 : Hid (Below w3.heap.size w3 ((w3.alloc (.cells #[] 75)).alloc (.cells (freshW na) 75)).drew) := Lib.hid (bb _ _)
        have P3 : Hid (Below w3.heap.size w3 (w3.alloc (.cells #[] 75)).drew) := Lib.hid ((Below.refl _ _).alloc (Nat.le_refl _) _).drew
        have L1 : Hid (OwnW 75 ((w3.alloc (.cells (freshW na) 75)).alloc (.cells #[] 75)).drew w3.heap.size (.slice (some ⟨w3.heap.size + 1, 0, none⟩) 0 0) []) := Lib.hid (by
          have h := own_lit (w3.alloc (.cells (freshW na) 75)) 75 w3.heap.size #[] [] 0 (by simp) U32.nil rfl (by simp) rfl
          rw [show (w3.alloc (.cells (freshW na) 75)).heap.size = w3.heap.size + 1 from by simp] at h
          exact h.drew)
        have L2 : Hid (OwnW 75 ((w3.alloc (.cells #[] 75)).alloc (.cells (freshW na) 75)).drew w3.heap.size (.slice (some ⟨w3.heap.size, 0, none⟩) 0 0) []) := Lib.hid ((own_lit w3 75 w3.heap.size #[] [] 0 (Nat.le_refl _) U32.nil rfl (by simp) rfl).alloc _).drew
        have L3 : Hid (OwnW 75 (w3.alloc (.cells #[] 75)).drew w3.heap.size (.slice (some ⟨w3.heap.size, 0, none⟩) 0 0) []) := Lib.hid (own_lit w3 75 w3.heap.size #[] [] 0 (Nat.le_refl _) U32.nil rfl (by simp) rfl).drew
        have M1 : Hid (OwnW 75 ((w3.alloc (.cells (freshW na) 75)).alloc (.cells #[] 75)).drew w3.heap.size (.slice (some ⟨w3.heap.size, 0, none⟩) na na) (List.replicate na 0)) := Lib.hid (((own_made w3 w3.heap.size na (Nat.le_refl _) (by omega)).alloc _).drew)
        have M2 : Hid (OwnW 75 ((w3.alloc (.cells #[] 75)).alloc (.cells (freshW na) 75)).drew w3.heap.size (.slice (some ⟨w3.heap.size + 1, 0, none⟩) na na) (List.replicate na 0)) := Lib.hid (by
          have h := own_made (w3.alloc (.cells #[] 75)) w3.heap.size na (by simp) (by omega)
          rw [show (w3.alloc (.cells #[] 75)).heap.size = w3.heap.size + 1 from by simp] at h
          exact h.drew)
        have NN : Hid (∀ wx, Below w3.heap.size w3 wx → Num wx (cutS ao2 k0 na ca2) ((wd AS).drop k0)) := Lib.hid fun wx hx => (HN2.out.cut k0 hk0n).below hx
        clear bb
        have HLEN : Hid (([] : List Nat).length + ((wd AS).drop k0).length ≤ 17592186044416) := Lib.hid (by rw [List.length_drop, ← HNAE.out]; simp; omega)
        go_region_held3 (fun _ => True) (trivial) (first
        | (refine step_appendN2 Tryz.wordsTy (by rfl) (.tmp 40) (.tmp 48) rfl w3.heap.size (.slice (some ⟨w3.heap.size + 1, 0, none⟩) 0 0) (cutS ao2 k0 na ca2) [] ((wd AS).drop k0) rfl rfl L1.out (NN.out _ P1.out) HLEN.out P1.out.size ?_; intro v' w4 h1 h2 h3 h4; have hm := M1.out.keptBy (g := w3.heap.size + 1) h4 (Nat.ne_of_lt (Nat.lt_succ_self _)); have hbx := h2 _ P1.out; clear h2 h4)
        | (refine step_appendN2 Tryz.wordsTy (by rfl) (.tmp 40) (.tmp 48) rfl w3.heap.size (.slice (some ⟨w3.heap.size, 0, none⟩) 0 0) (cutS ao2 k0 na ca2) [] ((wd AS).drop k0) rfl rfl L2.out (NN.out _ P2.out) HLEN.out P2.out.size ?_; intro v' w4 h1 h2 h3 h4; have hm := M2.out.keptBy (g := w3.heap.size) h4 (Nat.succ_ne_self _); have hbx := h2 _ P2.out; clear h2 h4)
        | (refine step_appendN2 Tryz.wordsTy (by rfl) (.tmp 40) (.tmp 48) rfl w3.heap.size (.slice (some ⟨w3.heap.size, 0, none⟩) 0 0) (cutS ao2 k0 na ca2) [] ((wd AS).drop k0) rfl rfl L3.out (NN.out _ P3.out) HLEN.out P3.out.size ?_; intro v' w4 h1 h2 h3 h4; have hbx := h2 _ P3.out; clear h2 h4))
        all_goals
          go_wp2_with fail
          go_meet
          first
          | exact ⟨_, _, rfl, Nat.le_refl _, hm, h1.num, hbx, Lib.hid (List.nil_append _)⟩
          | exact ⟨_, _, rfl, Nat.le_succ _, hm, h1.num, hbx, Lib.hid (List.nil_append _)⟩
          | exact ⟨_, _, rfl, hbx.size, own_made _ _ _ hbx.size (by omega), (h1.alloc _).num, hbx.alloc hbx.size _, Lib.hid (List.nil_append _)⟩
      case rest =>
        obtain ⟨gq, l10, rfl, hgq, hO0, hn10, hb4, hl10⟩ := hcut
        have hgqb := hO0.block
        rw [hl10.out] at hn10
        have hfr := first_rest (V := V) HASV.out hnpos HVLO.out
        rw [← HK0.out] at hfr
        have HFR := Lib.hid hfr
        have HN10 := Lib.hid hn10; have HO0 := Lib.hid hO0
        have HB34 := Lib.hid hb4; have HB4 := Lib.hid (HB3.out.trans (hb4.mono HB3.out.size))
        have hdb := HDB.out
        have hv0 : val ((wd AS).drop k0) = AS / 4294967296 ^ k0 := by rw [val_drop (u32_wd AS), val_wd]
        have HV0 := Lib.hid hv0
        have hwin : w.heap.size ≤ gq := by have := HB3.out.size; omega
        clear hn10 hO0 hl10 hfr hv0 hb4
        have e1 := E1.out
        go_wp2_with fail
        clear e1
        go_loopw [10, 11] (fun rv iv wr => ∃ (k : Nat) (iz : Int) (lr lq : List Nat), k ≤ k0 ∧ iv = .int .i64 iz ∧ (iz = (k : Int) - 1 ∨ (k = 0 ∧ iz < 0)) ∧ -1000000 ≤ iz ∧ iz ≤ 1000000 ∧ Num wr rv lr ∧ lr.length ≤ 800001 ∧
          OwnW 75 wr w.heap.size (.slice (some ⟨gq, 0, none⟩) na na) lq ∧ Hid (lq.length = na) ∧ Below w.heap.size w wr ∧ Hid (AS / 4294967296 ^ k = val (lq.drop k) * V + val lr) ∧ Hid (val lr < V) ∧
          Below w3.heap.size w3 wr ∧ gq < wr.heap.size) (fun _ iv _ => (intOf iv + 1).toNat)
        case atStart => exact ⟨k0, d, _, _, Nat.le_refl _, rfl, HDK.out, hdb.1, hdb.2, HN10.out, by rw [List.length_drop, ← HNAE.out]; omega, HO0.out.base HB3.out.size, Lib.hid (by simp), HB4.out, Lib.hid (by rw [HV0.out, List.drop_replicate, val_zeros, Nat.zero_mul, Nat.zero_add]), Lib.hid (by rw [HV0.out]; exact HFR.out), HB34.out, hgqb.2⟩
        case round =>
          obtain ⟨k, iz, lr, lq, hk, rfl, hiz, hz1, hz2, hnr, hlr, hOq, hlq, hBr, hinv, hrV, hb3r, hgqr⟩ := hrel
          have hn2r := Lib.hid (HN2W.out.below hb3r)
          have hn3r := Lib.hid (HN3W.out.below hb3r)
          obtain ⟨wo, rfl⟩ : ∃ wo : World, wo = wr := ⟨_, rfl⟩
          by_cases hk0' : k = 0
          · subst hk0'
            have hneg : decide ((0 : Int) ≤ iz) = false := by simp; omega
            have hi0 := hinv.out
            rw [Nat.pow_zero, Nat.div_one, List.drop_zero, HAS.out, HV.out] at hi0
            have hr0 := hrV.out
            rw [HV.out] at hr0
            obtain ⟨g1, g2⟩ := div_scaled (Nat.two_pow_pos s) (show val lr + Bv * 2 ^ s * val lq = A * 2 ^ s by rw [hi0, Nat.mul_comm (val lq)]; omega) hr0
            have htr := rtrim_any _ _ _ hOq.num (by rw [hlq.out]; omega)
            rw [g1] at htr
            have HTR := Lib.hid htr; have G2 := Lib.hid g2; have HNR := Lib.hid hnr
            clear htr g1 g2 hi0 hr0 hnr hOq hiz
            go_wp2_with fail
            (with_reducible refine HTR.out.mono ?_); rintro e w5 ⟨v5, l5, rfl, hb5, hn5, hl5⟩
            have hrd := rdown_any _ lr s w5 (HNR.out.below hb5) (by omega) (by omega)
            rw [G2.out] at hrd
            have HRD := Lib.hid hrd; have HN5 := Lib.hid hn5; have HL5 := Lib.hid hl5
            clear hrd hn5 hl5
            go_wp2_with fail
            (with_reducible refine HRD.out.mono ?_); rintro e w6 ⟨v6, l6, rfl, hb6, hn6, hl6⟩
            go_wp2_with fail
            go_ret3
            have h1 := hBr.trans (hb5.mono hBr.size)
            exact ⟨_, _, rfl, h1.trans (hb6.mono h1.size), by rw [← HL5.out]; exact HN5.out.below hb6, by rw [← hl6]; exact hn6⟩
          · obtain ⟨j, rfl⟩ : ∃ j, k = j + 1 := ⟨k - 1, by omega⟩
            obtain rfl : iz = (j : Int) := by omega
            have hjna : j < na := by omega
            obtain ⟨b2, o2, rfl, _, hcell2⟩ := hn2r.out.at (by omega)
            have hxj := hcell2 j hjna
            have hxl := (u32_wd AS) j
            have hdig := val_digit (u32_wd AS) j
            rw [val_wd] at hdig
            obtain ⟨xj, hxje⟩ : ∃ xj, xj = gd (wd AS) j := ⟨_, rfl⟩
            rw [← hxje] at hxj hxl hdig
            have hlit := own_lit wo 75 wo.heap.size #[.int .u32 (xj : Nat)] [xj] 1 (Nat.le_refl _) (U32.cons hxl U32.nil) rfl (by simp) rfl
            have HLIT := Lib.hid hlit; have HNR := Lib.hid hnr; have HDIG := Lib.hid hdig; have HOQ := Lib.hid hOq
            clear hcell2 hxje hdig hlit hnr hOq
            go_wp2_with (at_builtin; refine wpList_appendN Tryz.wordsTy rfl (.tmp 62) (.tmp 63) rfl wo.heap.size _ _ [xj] lr rfl rfl HLIT.out (HNR.out.below ((Below.refl _ _).alloc (Nat.le_refl _) _)) ?c1 ?c2 ?_)
            case c1 => simp; omega
            case c2 => simp
            intro v5 w5 h1 h2 h3
            have hb5 := h2 wo ((Below.refl _ _).alloc (Nat.le_refl _) _)
            have hval5 : val (xj :: lr) = xj + 4294967296 * val lr := rfl
            have htr := rtrim_any _ _ _ h1.num (by simp; omega)
            rw [hval5] at htr
            obtain ⟨R, hR⟩ : ∃ R, R = xj + 4294967296 * val lr := ⟨_, rfl⟩
            rw [← hR] at htr
            have hRV : R < 4294967296 * V := by rw [hR]; have := hrV.out; omega
            have hstep := rdiv_step hinv.out hR
            rw [← HDIG.out] at hstep
            have hRn : R < 4294967296 ^ (n + 1) := by
              rw [Nat.pow_succ, Nat.mul_comm]
              exact Nat.lt_of_lt_of_le hRV (Nat.mul_le_mul_left _ (Nat.le_of_lt HVB.out))
            have hRl : (wd R).length ≤ n + 1 := wd_length_of_lt hRn
            have htwo := head_two hRn hnpos
            have htop := top_one HVB.out hnpos
            have HTR := Lib.hid htr; have HRV := Lib.hid hRV; have HSTEP := Lib.hid hstep
            have HOQ := Lib.hid (HOQ.out.below hb5); have HN2R := Lib.hid (hn2r.out.below hb5); have HN3R := Lib.hid (hn3r.out.below hb5); have HBR := Lib.hid (hBr.trans (hb5.mono hBr.size)); have HB3R := Lib.hid (hb3r.trans (hb5.mono hb3r.size))
            have hgq5 : gq < w5.heap.size := Nat.lt_of_lt_of_le hgqr hb5.size
            clear htr hRV hstep hval5 hR h1 h2 h3 hb5 hRn
            go_wp2_with fail
            (with_reducible refine HTR.out.mono ?_); rintro e w6 ⟨v6, l6, rfl, hb6, hn6, hl6⟩
            rw [hl6] at hn6
            have HOQ := Lib.hid (HOQ.out.below hb6); have HN2R := Lib.hid (HN2R.out.below hb6); have HN3R := Lib.hid (HN3R.out.below hb6); have HBR := Lib.hid (HBR.out.trans (hb6.mono HBR.out.size)); have HB3R := Lib.hid (HB3R.out.trans (hb6.mono HB3R.out.size))
            have hgq6 : gq < w6.heap.size := Nat.lt_of_lt_of_le hgq5 hb6.size
            have hw1 := rword_any _ _ (n : Int) w6 hn6 (by omega) (by omega)
            have hw2 := rword_any _ _ ((n : Int) - 1) w6 hn6 (by omega) (by omega)
            have hw3 := rword_any _ _ ((n : Int) - 1) w6 HN3R.out (by omega) (by omega)
            rw [Int.toNat_natCast] at hw1
            rw [show ((n : Int) - 1).toNat = n - 1 by omega] at hw2 hw3
            have hp1l := (u32_wd R) n
            have hp0l := (u32_wd R) (n - 1)
            have htl := (u32_wd V) (n - 1)
            obtain ⟨p1, hp1⟩ : ∃ p1, p1 = gd (wd R) n := ⟨_, rfl⟩
            obtain ⟨p0, hp0⟩ : ∃ p0, p0 = gd (wd R) (n - 1) := ⟨_, rfl⟩
            obtain ⟨top, htopE⟩ : ∃ top, top = gd (wd V) (n - 1) := ⟨_, rfl⟩
            rw [← hp1] at hw1 hp1l htwo
            rw [← hp0] at hw2 hp0l htwo
            rw [← htopE] at hw3 htl htop
            have hor := or_words' p0 p1 hp0l hp1l
            obtain ⟨H, hH⟩ : ∃ H, H = p1 * 4294967296 + p0 := ⟨_, rfl⟩
            have hHl : H < 18446744073709551616 := by omega
            rw [← hH] at hor htwo
            have ht31 : 2147483648 ≤ top := by
              rw [htop, Nat.le_div_iff_mul_le (Nat.pow_pos (by decide))]; exact HVLO.out
            have hgg := guess_ge (P := 4294967296 ^ (n - 1)) (Nat.pow_pos (by decide)) htwo htop (by omega) HRV.out
            obtain ⟨G0, hG0⟩ : ∃ G0, G0 = H / top := ⟨_, rfl⟩
            have hG0i : (H : Int) / (top : Int) = (G0 : Int) := by rw [hG0]; simp
            have hG0l : G0 < 18446744073709551616 := by rw [hG0]; exact Nat.lt_of_le_of_lt (Nat.div_le_self _ _) hHl
            rw [← hG0] at hgg
            obtain ⟨gs, hgs⟩ : ∃ gs, gs = min G0 4294967295 := ⟨_, rfl⟩
            have hmin : min (G0 : Int) 4294967295 = (gs : Int) := by omega
            have hgsl : gs < 4294967296 := by omega
            rw [← hgs] at hgg
            have hgmod : (gs : Int) % 4294967296 = (gs : Int) := by omega
            have HW1 := Lib.hid hw1; have HW2 := Lib.hid hw2; have HW3 := Lib.hid hw3; have HGG := Lib.hid hgg; have HN6 := Lib.hid hn6; have HG0I := Lib.hid hG0i; have HMIN := Lib.hid hmin
            clear hw1 hw2 hw3 hp1 hp0 htopE hH hG0 hgs hgg hn6 htwo htop hl6 hb6 hG0i hmin
            go_wp2_with fail
            (with_reducible refine HW1.out.mono ?_); rintro e wx ⟨rfl, rfl⟩
            go_wp2_with fail
            (with_reducible refine HW2.out.mono ?_); rintro e wx ⟨rfl, rfl⟩
            have hG0i := HG0I.out; have hmin := HMIN.out
            go_wp2_with fail
            (with_reducible refine HW3.out.mono ?_); rintro e wx ⟨rfl, rfl⟩
            have hone := num_one w6 75 gs hgsl
            have hal := (Below.refl w6.heap.size w6).alloc (Nat.le_refl _) (.cells #[.int .u32 (gs : Nat)] 75)
            have hmu := rmul_any _ _ _ _ _ (HN3R.out.below hal) hone (by rw [HVLEN.out]; omega) (by simp)
            rw [val_wd, show val [gs] = gs from rfl] at hmu
            have HMU := Lib.hid hmu
            clear hone hmu
            go_wp2_with fail
            (with_reducible refine HMU.out.mono ?_); rintro e w7 ⟨v7, l7, rfl, hb7, hn7, hl7⟩
            clear hG0i hmin
            rw [hl7] at hn7
            have hb67 := hal.trans (hb7.mono (by simp))
            have HOQ := Lib.hid (HOQ.out.below hb67); have HN2R := Lib.hid (HN2R.out.below hb67); have HN3R := Lib.hid (HN3R.out.below hb67); have HN6 := Lib.hid (HN6.out.below hb67); have HBR := Lib.hid (HBR.out.trans (hb67.mono HBR.out.size)); have HB3R := Lib.hid (HB3R.out.trans (hb67.mono HB3R.out.size))
            have hgq7 : gq < w7.heap.size := Nat.lt_of_lt_of_le hgq6 hb67.size
            have HN7 := Lib.hid hn7
            have hV0 : 0 < V := Nat.lt_of_lt_of_le (Nat.mul_pos (by decide) (Nat.pow_pos (by decide))) HVLO.out
            have hVl : (wd V).length = n := HVLEN.out
            have HVL := Lib.hid hVl
            clear hn7 hl7 hb7 hal hVl
            go_wp2_with fail
            go_loopw [12, 13] (fun gv pv wr => ∃ g : Nat, gv = .int .u64 g ∧ g < 4294967296 ∧ Hid (R / V ≤ g) ∧ Num wr pv (wd (V * g)) ∧ Below w7.heap.size w7 wr) (fun gv _ _ => (intOf gv).toNat)
            case atStart => exact ⟨gs, rfl, hgsl, HGG, HN7.out, Below.refl _ _⟩
            case round =>
              obtain ⟨g, rfl, hgl, hgR, hnp, hb8⟩ := hrel
              obtain ⟨w8, rfl⟩ : ∃ w8 : World, w8 = wr := ⟨_, rfl⟩
              have hpl : (wd (V * g)).length ≤ n + 1 := by
                have h1 := wd_mul_len V g
                have h2 : (wd g).length ≤ 1 := wd_length_of_lt (by rw [Nat.pow_one]; exact hgl)
                rw [HVL.out] at h1; omega
              have hcm := rcmp_any _ _ _ _ _ hnp (HN6.out.below hb8) (by omega) (by omega)
              rw [val_wd, val_wd] at hcm
              by_cases hgt : R < V * g
              · have hg1 : 1 ≤ g := by
                  rcases Nat.eq_zero_or_pos g with h | h
                  · rw [h, Nat.mul_zero] at hgt; omega
                  · exact h
                rw [cmpN_gt hgt] at hcm
                have hsu := rsub_ge _ _ _ _ _ hnp (HN3R.out.below hb8) (by omega) (by rw [HVL.out]; omega) (by rw [val_wd, val_wd]; exact Nat.le_mul_of_pos_right _ hg1)
                rw [val_wd, val_wd] at hsu
                obtain ⟨gm, hgm⟩ : ∃ gm, gm = g - 1 := ⟨_, rfl⟩
                have hgmi : (g : Int) - 1 = (gm : Int) := by omega
                have hpe : V * g - V = V * gm := by rw [hgm, Nat.mul_sub, Nat.mul_one]
                rw [hpe] at hsu
                have hgR2 : R / V ≤ gm := by
                  have h1 : R / V < g := by rw [Nat.div_lt_iff_lt_mul hV0, Nat.mul_comm]; exact hgt
                  omega
                have hgmg : gm < g := by omega
                have HCM := Lib.hid hcm; have HSU := Lib.hid hsu; have HGR2 := Lib.hid hgR2
                clear hcm hsu hgm hpe hgR2 hgt hnp
                go_wp2_with fail
                (with_reducible refine HCM.out.mono ?_); rintro e wx ⟨rfl, rfl⟩
                go_wp2_with fail
                (with_reducible refine HSU.out.mono ?_); rintro e w9 ⟨v9, rfl, hb9, hn9⟩
                have HN9 := Lib.hid hn9
                clear hn9
                go_wp2_with fail
                go_roundw
                case rel => exact ⟨gm, rfl, by omega, HGR2, HN9.out, hb8.trans (hb9.mono hb8.size)⟩
                case measure => simp [intOf]; omega
              · have hge : g = R / V := by
                  have h1 : g ≤ R / V := by rw [Nat.le_div_iff_mul_le hV0, Nat.mul_comm]; omega
                  have := hgR.out; omega
                have hcz : decide ((0 : Int) < cmpN (V * g) R) = false := by
                  unfold cmpN
                  by_cases h1 : V * g < R
                  · rw [if_pos h1]; rfl
                  · rw [if_neg h1, if_neg hgt]; rfl
                obtain ⟨cz, hcze⟩ : ∃ cz, cz = cmpN (V * g) R := ⟨_, rfl⟩
                rw [← hcze] at hcm hcz
                have hsu := rsub_own _ _ _ _ _ (HN6.out.below hb8) hnp (by omega) (by omega) (by rw [val_wd, val_wd]; omega)
                rw [val_wd, val_wd] at hsu
                have hrem : R - V * g = R % V := by
                  have := Nat.div_add_mod R V
                  rw [← hge] at this; omega
                rw [hrem] at hsu
                have hO8 := HOQ.out.below hb8
                have HO8 := Lib.hid hO8
                have HB8 := Lib.hid (HBR.out.trans (hb8.mono HBR.out.size)); have HB38 := Lib.hid (HB3R.out.trans (hb8.mono HB3R.out.size))
                have HCM := Lib.hid hcm; have HSU := Lib.hid hsu; have HGE := Lib.hid hge
                have hgq8 : gq < w8.heap.size := Nat.lt_of_lt_of_le hgq7 hb8.size
                have hgmod2 : (g : Int) % 4294967296 = (g : Int) := by omega
                clear hcm hsu hge hrem hgt hnp hO8 hcze
                go_wp2_with fail
                (with_reducible refine HCM.out.mono ?_); rintro e wx ⟨rfl, rfl⟩
                go_wp2_with fail
                (with_reducible refine HSU.out.mono ?_); rintro e w9 ⟨v9, rfl, hb9, ho9⟩
                have hO9 := HO8.out.below hb9
                have hcq := hO9.cell hlq.out j hjna
                have hfq := hO9.frozen hlq.out j
                have hgrw := hO9.grown hlq.out j g
                have HO9 := Lib.hid hO9; have HR9 := Lib.hid ho9; have HGRW := Lib.hid hgrw
                have HB9 := Lib.hid (HB8.out.trans (hb9.mono HB8.out.size)); have HB39 := Lib.hid (HB38.out.trans (hb9.mono HB38.out.size))
                have hsz9 := hb9.size
                clear hO9 ho9 hgrw hb9
                have hrl : R % V < V := Nat.mod_lt _ hV0
                have hrlen : (wd (R % V)).length ≤ 800001 := Nat.le_trans (wd_length_mono (Nat.le_of_lt hrl)) (by rw [HVL.out]; omega)
                have HRL := Lib.hid hrl; have HRLEN := Lib.hid hrlen
                clear hrl hrlen
                go_wp2_with fail
                go_roundw
                case rel =>
                  refine ⟨j, (j : Int) - 1, _, lq.set j g, by omega, rfl, .inl rfl, by omega, by omega, (HR9.out.keptFrom HGRW.out (fun k hk => by cases hk; exact hgq8)).num, HRLEN.out, HO9.out.stored hlq.out j g hgl, Lib.hid (by rw [List.length_set]; exact hlq.out), HB9.out.setCell hwin _, Lib.hid ?_, Lib.hid ?_, HB39.out.setCell hgq _, Nat.lt_of_lt_of_le hgq8 (Nat.le_trans hsz9 HGRW.out.size)⟩
                  · rw [val_drop_set _ _ _ (by rw [hlq.out]; exact hjna), val_wd, HGE.out]; exact HSTEP.out
                  · rw [val_wd]; exact HRL.out
                case measure => simp [intOf]
end Go.Proofs.YtkedjammeoaciaaGreatDoor
/-
  The reference's Text: what it hands back.
  Conditions: each theorem's own.
-/
namespace Go.Proofs.YtkedjammeoaciaaGreatDoor
open Go.RowKit Go.ChangeShapes Go.WideShapes

def emptyS : Value → Nat
  | .string b => if b.size = 0 then 1 else 0
  | _ => 0
theorem enc_digit {c : Int} {m : Nat} (hc : c = 48 + ((m % 10 : Nat) : Int)) : Utf8.encode c = ⟨#[digB m]⟩ := by
  subst hc
  have h : m % 10 < 10 := Nat.mod_lt _ (by decide)
  unfold digB
  generalize m % 10 = d at h ⊢
  match d, h with
  | 0, _ => rfl
  | 1, _ => rfl
  | 2, _ => rfl
  | 3, _ => rfl
  | 4, _ => rfl
  | 5, _ => rfl
  | 6, _ => rfl
  | 7, _ => rfl
  | 8, _ => rfl
  | 9, _ => rfl
theorem enc_put {c : Int} {m : Nat} {o : List UInt8} (hc : c = 48 + ((m % 10 : Nat) : Int)) : Utf8.encode c ++ ⟨o.toArray⟩ = ⟨(digB m :: o).toArray⟩ := by
  rw [enc_digit hc]
  apply ByteArray.ext
  simp
theorem emptyS_enc {c : Int} {m : Nat} {o : List UInt8} (hc : c = 48 + ((m % 10 : Nat) : Int)) : emptyS (.string (Utf8.encode c ++ ⟨o.toArray⟩)) = 0 := by
  rw [enc_put hc]
  show (if (ByteArray.mk (digB m :: o).toArray).size = 0 then 1 else 0) = 0
  rw [if_neg (by simp [ByteArray.size])]
set_option maxRecDepth 100000 in
theorem enc_le (c : Int) : (Utf8.encode c).size ≤ 4 := by
  unfold Utf8.encode
  dsimp only
  generalize (if Utf8.valid c = true then c.toNat else Utf8.runeError) = n
  split
  · exact Nat.le_of_ble_eq_true rfl
  · split
    · exact Nat.le_of_ble_eq_true rfl
    · split
      · exact Nat.le_of_ble_eq_true rfl
      · exact Nat.le_of_ble_eq_true rfl
theorem pow_ten (k : Nat) : 4294967296 ^ k ≤ 10 ^ (10 * k) := by
  rw [Nat.pow_mul]; exact Nat.pow_le_pow_left (by decide) k
theorem digD_len {n k : Nat} (h : n < 10 ^ k) : (digD n).length ≤ k := by
  induction k generalizing n with
  | zero => have : n = 0 := by simpa using h
            subst this; rw [digD_zero]; simp
  | succ k ih =>
    by_cases h0 : n = 0
    · subst h0; rw [digD_zero]; simp
    · have := ih (n := n / 10) (by rw [Nat.pow_succ] at h; omega)
      rw [digD_pos h0, List.length_cons]; omega
theorem first_len (m : Nat) : [digB m].length + (digD (m / 10)).length ≤ (digD m).length + 1 := by
  by_cases h : m = 0
  · subst h; rw [show (0 : Nat) / 10 = 0 from rfl, digD_zero]; decide
  · rw [digD_pos h]; simp only [List.length_cons, List.length_nil]; omega
theorem dec_first (m : Nat) : decB m = ⟨((digD (m / 10)).reverse ++ [digB m]).toArray⟩ := by
  unfold decB
  by_cases h : m = 0
  · subst h; rw [if_pos rfl, show (0 : Nat) / 10 = 0 from rfl, digD_zero]; rfl
  · rw [if_neg h, digD_pos h, List.reverse_cons]
set_option maxRecDepth 100000 in
set_option maxHeartbeats 1600000 in
theorem rtext_any (va : Value) (a : List Nat) (w : World) (ha : Num w va a) (hla : a.length ≤ 400000) :
    Calls Tryz.prog 130 #[va] w (RetV w (.string (decB (val a)))) := by
  have hl1 := wd_length_le ha.lt
  obtain ⟨N, hN⟩ : ∃ N, N = val a := ⟨_, rfl⟩
  rw [← hN] at hl1 ⊢
  have hdl : (digD N).length ≤ 4000000 := by
    have h1 := val_lt ha.lt
    rw [← hN] at h1
    have h2 := digD_len (Nat.lt_of_lt_of_le h1 (pow_ten _))
    omega
  have HDL := Lib.hid hdl; clear hdl
  have HN := Lib.hid hN; clear hN
  go_enter Tryz.func130, Tryz.ntmps130
  go_wp2_with fail
  (with_reducible refine (rtrim_any _ _ _ ha (by omega)).mono ?_); rintro e w1 ⟨v1, l1, rfl, hb1, hn1, hl1'⟩
  rw [hl1', ← HN.out] at hn1
  have HN1 := Lib.hid hn1; have HB1 := Lib.hid hb1
  clear hn1 hl1' hb1 ha
  go_wp2_with fail
  go_loopw [0, 3, 4, 5, 6] (fun av sv _ _ _ wr => ∃ (m : Nat) (o : List UInt8), sv = .string ⟨o.toArray⟩ ∧ Num wr av (wd m) ∧ Below w.heap.size w wr ∧ Hid (m ≤ N) ∧ Hid (o.length + (digD m).length ≤ (digD N).length + 1) ∧ (o = [] ∧ m = N ∨ o ≠ [] ∧ Hid (decB N = ⟨((digD m).reverse ++ o).toArray⟩))) (fun av sv _ _ _ wr => 2 * numOf wr av + emptyS sv)
  case atStart => exact ⟨N, [], rfl, HN1.out, HB1.out, Lib.hid (Nat.le_refl _), Lib.hid (by simp), .inl ⟨rfl, rfl⟩⟩
  case round =>
    obtain ⟨m, o, rfl, hr, hBr, hle, hlen, hor⟩ := hrel
    have HR := Lib.hid hr; have HBR := Lib.hid hBr
    clear hr hBr
    obtain ⟨ao, ca, rfl, hca, hca2, _⟩ := HR.out.shape
    obtain ⟨K, hK⟩ : ∃ K, K = (wd m).length := ⟨_, rfl⟩
    rw [← hK] at HR hca ⊢
    cases o with
    | nil =>
      obtain rfl : m = N := by
        rcases hor with ⟨_, h⟩ | ⟨h, _⟩
        · exact h
        · exact absurd rfl h
      clear hor
      by_cases hK0 : K = 0
      · subst hK0
        have HK := Lib.hid hK; clear hK
        have hs := rof_any 10 wr (by decide) (by decide)
        rw [show (10 : Int).toNat = 10 from rfl] at hs
        have HS := Lib.hid hs; clear hs
        go_wp2_with fail
        (with_reducible refine HS.out.mono ?_); rintro e w2 ⟨v2, l2, rfl, hb2, hn2, hl2⟩
        rw [hl2] at hn2
        have HB2 := Lib.hid (HBR.out.trans (hb2.mono HBR.out.size)); have HR2 := Lib.hid (HR.out.below hb2)
        have h10 : (wd 10).length ≤ 400000 := by rw [wd_one (by decide) (by decide)]; simp
        have hs := rdiv_any _ _ _ _ w2 HR2.out hn2 (by have := wd_length_mono hle.out; omega) h10 (by rw [val_wd]; decide)
        rw [val_wd, val_wd] at hs
        have HS := Lib.hid hs; clear hs hn2 hl2 hb2 h10
        go_wp2_with fail
        (with_reducible refine HS.out.mono ?_); rintro e w3 ⟨v3, u3, rfl, hb3, hq3, hr3⟩
        have HB3 := Lib.hid (HB2.out.trans (hb3.mono HB2.out.size))
        have hs := rword_any _ _ 0 w3 hr3 (by decide) (by decide)
        have hg : gd (wd (m % 10)) (0 : Int).toNat = m % 10 := by
          rw [show (0 : Int).toNat = 0 from rfl]
          by_cases hz : m % 10 = 0
          · rw [hz, wd_zero]; rfl
          · rw [wd_one (by omega) hz]; rfl
        rw [hg] at hs
        have HQ3 := Lib.hid hq3
        obtain ⟨d, hd⟩ : ∃ d, d = m % 10 := ⟨_, rfl⟩
        rw [← hd] at hs
        have hd9 : d < 10 := by omega
        have HD := Lib.hid hd; have HS := Lib.hid hs
        clear hs hr3 hq3 hb3 hg hd
        go_wp2_with fail
        (with_reducible refine HS.out.mono ?_); rintro e wx ⟨rfl, rfl⟩
        have hcase : d = 0 ∨ d = 1 ∨ d = 2 ∨ d = 3 ∨ d = 4 ∨ d = 5 ∨ d = 6 ∨ d = 7 ∨ d = 8 ∨ d = 9 := by omega
        rcases hcase with rfl | rfl | rfl | rfl | rfl | rfl | rfl | rfl | rfl | rfl
        all_goals
          go_wp2_with fail
          go_roundw
          case rel => exact ⟨m / 10, digB m :: [], congrArg Value.string (enc_put (o := []) (by have := HD.out; omega)), HQ3.out, HB3.out, Lib.hid (Nat.div_le_self _ _), Lib.hid (first_len m), .inr ⟨by simp, Lib.hid (dec_first m)⟩⟩
          case measure =>
            refine Nat.lt_of_le_of_lt (Nat.add_le_add_left (Nat.le_of_eq (emptyS_enc (m := m) (o := []) (by have := HD.out; omega))) _) ?_
            rw [numOf_eq HQ3.out, numOf_eq HR.out, val_wd, val_wd]
            show 2 * (m / 10) + 0 < 2 * m + 1; omega
      · have hkt : decide ((0 : Int) < (K : Int)) = true := decide_eq_true (by omega)
        have HK := Lib.hid hK; clear hK
        have hs := rof_any 10 wr (by decide) (by decide)
        rw [show (10 : Int).toNat = 10 from rfl] at hs
        have HS := Lib.hid hs; clear hs
        go_wp2_with fail
        (with_reducible refine HS.out.mono ?_); rintro e w2 ⟨v2, l2, rfl, hb2, hn2, hl2⟩
        rw [hl2] at hn2
        have HB2 := Lib.hid (HBR.out.trans (hb2.mono HBR.out.size)); have HR2 := Lib.hid (HR.out.below hb2)
        have h10 : (wd 10).length ≤ 400000 := by rw [wd_one (by decide) (by decide)]; simp
        have hs := rdiv_any _ _ _ _ w2 HR2.out hn2 (by have := wd_length_mono hle.out; omega) h10 (by rw [val_wd]; decide)
        rw [val_wd, val_wd] at hs
        have HS := Lib.hid hs; clear hs hn2 hl2 hb2 h10
        go_wp2_with fail
        (with_reducible refine HS.out.mono ?_); rintro e w3 ⟨v3, u3, rfl, hb3, hq3, hr3⟩
        have HB3 := Lib.hid (HB2.out.trans (hb3.mono HB2.out.size))
        have hs := rword_any _ _ 0 w3 hr3 (by decide) (by decide)
        have hg : gd (wd (m % 10)) (0 : Int).toNat = m % 10 := by
          rw [show (0 : Int).toNat = 0 from rfl]
          by_cases hz : m % 10 = 0
          · rw [hz, wd_zero]; rfl
          · rw [wd_one (by omega) hz]; rfl
        rw [hg] at hs
        have HQ3 := Lib.hid hq3
        obtain ⟨d, hd⟩ : ∃ d, d = m % 10 := ⟨_, rfl⟩
        rw [← hd] at hs
        have hd9 : d < 10 := by omega
        have HD := Lib.hid hd; have HS := Lib.hid hs
        clear hs hr3 hq3 hb3 hg hd
        go_wp2_with fail
        (with_reducible refine HS.out.mono ?_); rintro e wx ⟨rfl, rfl⟩
        have hcase : d = 0 ∨ d = 1 ∨ d = 2 ∨ d = 3 ∨ d = 4 ∨ d = 5 ∨ d = 6 ∨ d = 7 ∨ d = 8 ∨ d = 9 := by omega
        rcases hcase with rfl | rfl | rfl | rfl | rfl | rfl | rfl | rfl | rfl | rfl
        all_goals
          go_wp2_with fail
          go_roundw
          case rel => exact ⟨m / 10, digB m :: [], congrArg Value.string (enc_put (o := []) (by have := HD.out; omega)), HQ3.out, HB3.out, Lib.hid (Nat.div_le_self _ _), Lib.hid (first_len m), .inr ⟨by simp, Lib.hid (dec_first m)⟩⟩
          case measure =>
            refine Nat.lt_of_le_of_lt (Nat.add_le_add_left (Nat.le_of_eq (emptyS_enc (m := m) (o := []) (by have := HD.out; omega))) _) ?_
            rw [numOf_eq HQ3.out, numOf_eq HR.out, val_wd, val_wd]
            show 2 * (m / 10) + 0 < 2 * m + 1; omega
    | cons x o =>
      have hor2 : decB N = ⟨((digD m).reverse ++ x :: o).toArray⟩ := by
        rcases hor with ⟨h, _⟩ | ⟨_, h⟩
        · exact absurd h (by simp)
        · exact h.out
      have HOR := Lib.hid hor2
      clear hor hor2
      by_cases hK0 : K = 0
      · have hm0 : m = 0 := Decidable.byContradiction fun h => by have := wd_length_pos h; omega
        have hend : decB N = ⟨(x :: o).toArray⟩ := by rw [HOR.out, hm0, digD_zero]; rfl
        have HEND := Lib.hid hend
        subst hK0
        clear hm0 hend hK
        go_wp2_with fail
        go_ret
        exact ⟨by rw [HEND.out]; rfl, HBR.out⟩
      · have hm0 : m ≠ 0 := fun h => hK0 (by rw [hK, h, wd_zero]; rfl)
        have HM0 := Lib.hid hm0
        have hkt : decide ((0 : Int) < (K : Int)) = true := decide_eq_true (by omega)
        have HK := Lib.hid hK; clear hK hm0
        have hs := rof_any 10 wr (by decide) (by decide)
        rw [show (10 : Int).toNat = 10 from rfl] at hs
        have HS := Lib.hid hs; clear hs
        go_wp2_with fail
        (with_reducible refine HS.out.mono ?_); rintro e w2 ⟨v2, l2, rfl, hb2, hn2, hl2⟩
        rw [hl2] at hn2
        have HB2 := Lib.hid (HBR.out.trans (hb2.mono HBR.out.size)); have HR2 := Lib.hid (HR.out.below hb2)
        have h10 : (wd 10).length ≤ 400000 := by rw [wd_one (by decide) (by decide)]; simp
        have hs := rdiv_any _ _ _ _ w2 HR2.out hn2 (by have := wd_length_mono hle.out; omega) h10 (by rw [val_wd]; decide)
        rw [val_wd, val_wd] at hs
        have HS := Lib.hid hs; clear hs hn2 hl2 hb2 h10
        go_wp2_with fail
        (with_reducible refine HS.out.mono ?_); rintro e w3 ⟨v3, u3, rfl, hb3, hq3, hr3⟩
        have HB3 := Lib.hid (HB2.out.trans (hb3.mono HB2.out.size))
        have hs := rword_any _ _ 0 w3 hr3 (by decide) (by decide)
        have hg : gd (wd (m % 10)) (0 : Int).toNat = m % 10 := by
          rw [show (0 : Int).toNat = 0 from rfl]
          by_cases hz : m % 10 = 0
          · rw [hz, wd_zero]; rfl
          · rw [wd_one (by omega) hz]; rfl
        rw [hg] at hs
        have HQ3 := Lib.hid hq3
        obtain ⟨d, hd⟩ : ∃ d, d = m % 10 := ⟨_, rfl⟩
        rw [← hd] at hs
        have hd9 : d < 10 := by omega
        have HD := Lib.hid hd; have HS := Lib.hid hs
        clear hs hr3 hq3 hb3 hg hd
        go_wp2_with fail
        (with_reducible refine HS.out.mono ?_); rintro e wx ⟨rfl, rfl⟩
        have hcase : d = 0 ∨ d = 1 ∨ d = 2 ∨ d = 3 ∨ d = 4 ∨ d = 5 ∨ d = 6 ∨ d = 7 ∨ d = 8 ∨ d = 9 := by omega
        rcases hcase with rfl | rfl | rfl | rfl | rfl | rfl | rfl | rfl | rfl | rfl
        all_goals
          go_wp2_with fail
          case isTrue h => exact absurd h (Nat.not_lt.2 (Nat.le_trans (Nat.add_le_add_right (enc_le _) _) (by have h1 := hlen.out; have h2 := HDL.out; simp at h1; omega)))
          go_roundw
          case rel => exact ⟨m / 10, digB m :: (x :: o), congrArg Value.string (enc_put (o := (x :: o)) (by have := HD.out; omega)), HQ3.out, HB3.out, Lib.hid (Nat.le_trans (Nat.div_le_self _ _) hle.out), Lib.hid (by have h := hlen.out; rw [digD_pos HM0.out] at h; simp at h ⊢; omega), .inr ⟨by simp, Lib.hid (by rw [HOR.out, digD_pos HM0.out, List.reverse_cons, List.append_assoc]; rfl)⟩⟩
          case measure =>
            refine Nat.lt_of_le_of_lt (Nat.add_le_add_left (Nat.le_of_eq (emptyS_enc (m := m) (o := (x :: o)) (by have := HD.out; omega))) _) ?_
            rw [numOf_eq HQ3.out, numOf_eq HR.out, val_wd, val_wd]
            show 2 * (m / 10) + 0 < 2 * m + 0; have := HM0.out; omega
end Go.Proofs.YtkedjammeoaciaaGreatDoor
/-
  The number of a decimal text.
  Conditions: none.
-/
namespace Go.Proofs.YtkedjammeoaciaaGreatDoor

/-- the digits' number, the first digit highest -/
def decN (l : List UInt8) : Nat := l.foldl (fun v b => 10 * v + (b.toNat - 48)) 0
def isDig (b : UInt8) : Bool := decide (48 ≤ b.toNat) && decide (b.toNat ≤ 57)
theorem decN_snoc (l : List UInt8) (b : UInt8) : decN (l ++ [b]) = 10 * decN l + (b.toNat - 48) := by
  unfold decN; rw [List.foldl_append]; rfl
theorem decN_nil : decN [] = 0 := rfl
theorem fold_at (m : List UInt8) (v : Nat) : m.foldl (fun v b => 10 * v + (b.toNat - 48)) v = v * 10 ^ m.length + decN m := by
  induction m generalizing v with
  | nil => simp [decN]
  | cons b m ih =>
    unfold decN
    rw [List.foldl_cons, List.foldl_cons, ih, ih (10 * 0 + (b.toNat - 48)), List.length_cons, Nat.pow_succ, Nat.add_mul, Nat.add_mul]
    have e : 10 * v * 10 ^ m.length = v * (10 ^ m.length * 10) := by ac_rfl
    rw [e, Nat.mul_zero, Nat.zero_mul, Nat.zero_add, Nat.add_assoc]
theorem decN_app (l m : List UInt8) : decN (l ++ m) = decN l * 10 ^ m.length + decN m := by
  show (l ++ m).foldl _ 0 = _
  rw [List.foldl_append, fold_at]; rfl
theorem decN_digD (n : Nat) : decN (digD n).reverse = n := by
  induction n using Nat.strongRecOn with
  | _ n ih =>
    by_cases h : n = 0
    · subst h; rw [digD_zero]; rfl
    · rw [digD_pos h, List.reverse_cons, decN_snoc, ih _ (Nat.div_lt_self (by omega) (by decide)), digB_toNat]; omega
theorem digB_of {n : Nat} {b : UInt8} (h : isDig b = true) (hn : n % 10 = b.toNat - 48) : digB n = b := by
  apply UInt8.toNat_inj.1
  rw [digB_toNat, hn]
  have : 48 ≤ b.toNat ∧ b.toNat ≤ 57 := by simpa [isDig] using h
  omega
theorem digD_rev (m : List UInt8) (hd : m.all isDig = true) (h : ∀ x, m.getLast? = some x → x ≠ 48) : digD (decN m.reverse) = m := by
  induction m with
  | nil => exact digD_zero
  | cons b m ih =>
    rw [List.all_cons, Bool.and_eq_true] at hd
    have hb : 48 ≤ b.toNat ∧ b.toNat ≤ 57 := by simpa [isDig] using hd.1
    rw [List.reverse_cons, decN_snoc]
    have e1 : (10 * decN m.reverse + (b.toNat - 48)) / 10 = decN m.reverse := by omega
    have e2 : (10 * decN m.reverse + (b.toNat - 48)) % 10 = b.toNat - 48 := by omega
    cases m with
    | nil =>
      have hb0 : b.toNat ≠ 48 := fun e => h b rfl (UInt8.toNat_inj.1 e)
      have e3 : decN ([] : List UInt8).reverse = 0 := rfl
      rw [digD_pos (by omega), e1, digB_of hd.1 e2, e3, digD_zero]
    | cons c m =>
      have ih' := ih hd.2 (fun x hx => h x (by rw [List.getLast?_cons_cons]; exact hx))
      have h0 : decN (c :: m).reverse ≠ 0 := fun e => by rw [e, digD_zero] at ih'; cases ih'
      rw [digD_pos (by omega), e1, digB_of hd.1 e2, ih']
/-- the number of the error, 0 where there is none -/
def parC (l : List UInt8) : Nat :=
  if 65536 < l.length then 4 else if l = [] ∨ (l.head? = some 48 ∧ 1 < l.length) then 2 else if l.all isDig then 0 else 2
def parV (l : List UInt8) : Nat := if parC l = 0 then decN l else 0
end Go.Proofs.YtkedjammeoaciaaGreatDoor
/-
  The reference's Gcd: what it hands back.
  Conditions: each theorem's own.
-/
namespace Go.Proofs.YtkedjammeoaciaaGreatDoor
open Go.RowKit Go.ChangeShapes Go.WideShapes

set_option maxRecDepth 100000 in
set_option maxHeartbeats 1600000 in
theorem rgcd_any (va vb : Value) (a b : List Nat) (w : World) (ha : Num w va a) (hb : Num w vb b) (hla : a.length ≤ 400000) (hlb : b.length ≤ 400000) :
    Calls Tryz.prog 128 #[va, vb] w (RetNum w fun r => r = wd (Nat.gcd (val a) (val b))) := by
  have hl1 := wd_length_le ha.lt
  have hl2 := wd_length_le hb.lt
  obtain ⟨G, hG⟩ : ∃ G, G = Nat.gcd (val a) (val b) := ⟨_, rfl⟩
  rw [← hG]
  have HG := Lib.hid hG; clear hG
  go_enter Tryz.func128, Tryz.ntmps128
  go_wp2_with fail
  (with_reducible refine (rtrim_any _ _ _ ha (by omega)).mono ?_); rintro e w1 ⟨v1, l1, rfl, hb1, hn1, hl1'⟩
  go_wp2_with fail
  (with_reducible refine (rtrim_any _ _ _ (hb.below hb1) (by omega)).mono ?_); rintro e w2 ⟨v2, l2, rfl, hb2, hn2, hl2'⟩
  have hn1 := hn1.below hb2
  have hb12 := hb1.trans (hb2.mono hb1.size)
  rw [hl1'] at hn1
  rw [hl2'] at hn2
  obtain ⟨x0, hx0⟩ : ∃ x0, x0 = val a := ⟨_, rfl⟩
  obtain ⟨y0, hy0⟩ : ∃ y0, y0 = val b := ⟨_, rfl⟩
  rw [← hx0] at hn1 hl1
  rw [← hy0] at hn2 hl2
  have hg0 : Nat.gcd x0 y0 = G := by rw [HG.out, hx0, hy0]
  have HG0 := Lib.hid hg0; have HN1 := Lib.hid hn1; have HN2 := Lib.hid hn2
  clear hg0 hx0 hy0 hn1 hn2 hl1' hl2' hb1 hb2 ha hb
  go_wp2_with fail
  go_loopw [0, 1] (fun xv yv wr => ∃ x y : Nat, Num wr xv (wd x) ∧ Num wr yv (wd y) ∧ Below w.heap.size w wr ∧ Hid (Nat.gcd x y = G) ∧ (wd x).length ≤ 400000 ∧ (wd y).length ≤ 400000) (fun _ yv wr => numOf wr yv)
  case atStart => exact ⟨x0, y0, HN1.out, HN2.out, hb12, HG0, by omega, by omega⟩
  case round =>
    obtain ⟨x, y, hnx, hny, hBr, hgr, hlx, hly⟩ := hrel
    by_cases hy0 : y = 0
    · subst hy0
      rw [wd_zero] at hny hly
      obtain ⟨yo, cy, rfl, hcy, hcy2, _⟩ := hny.shape
      have hgx : x = G := by rw [← hgr.out, Nat.gcd_zero_right]
      have HGX := Lib.hid hgx; have HNX := Lib.hid hnx
      clear hny hgx hnx
      go_wp2_with fail
      go_ret
      exact ⟨_, _, rfl, hBr, HNX.out, by rw [HGX.out]⟩
    · have hd := rdiv_any _ _ _ _ _ hnx hny hlx hly (by rw [val_wd]; exact hy0)
      rw [val_wd, val_wd] at hd
      have hpos := wd_length_pos hy0
      have hm0 := numOf_eq hny
      rw [val_wd] at hm0
      obtain ⟨yo, cy, rfl, hcy, hcy2, _⟩ := hny.shape
      have hlm : (wd (x % y)).length ≤ (wd y).length := wd_length_mono (Nat.le_of_lt (Nat.mod_lt _ (by omega)))
      have hml : x % y < y := Nat.mod_lt _ (by omega)
      have hgm : Nat.gcd y (x % y) = G := by rw [← hgr.out, Nat.gcd_comm x y, Nat.gcd_rec y x, Nat.gcd_comm]
      have HD := Lib.hid hd; have HNY := Lib.hid hny; have HM0 := Lib.hid hm0; have HLM := Lib.hid hlm; have HML := Lib.hid hml; have HGM := Lib.hid hgm
      clear hd hny hm0 hlm hml hgm hnx
      go_wp2_with fail
      (with_reducible refine HD.out.mono ?_); rintro e w3 ⟨v1, v2, rfl, hb3, hq, hr⟩
      have HR := Lib.hid hr
      clear hq hr
      go_wp2_with fail
      go_roundw
      case rel => exact ⟨y, x % y, HNY.out.below hb3, HR.out, hBr.trans (hb3.mono hBr.size), HGM, hly, Nat.le_trans HLM.out hly⟩
      case measure =>
        have e1 := numOf_eq HR.out
        rw [val_wd] at e1
        show numOf _ _ < numOf _ _
        rw [HM0.out]
        exact Nat.lt_of_le_of_lt (Nat.le_of_eq e1) HML.out
end Go.Proofs.YtkedjammeoaciaaGreatDoor
/-
  natural.Power and the reference's: what they hand back.
  Conditions: each theorem's own.
-/
namespace Go.Proofs.YtkedjammeoaciaaGreatDoor
open Go.RowKit Go.ChangeShapes Go.WideShapes

/-- the error of a power -/
def powC (A : Nat) (n : Int) : Nat := if n < 0 ∨ 1024 < n then 3 else if 1024 < (wd A).length ∨ 131072 < blen A * n.toNat then 4 else 0
/-- a power, 0 where there is an error -/
def powV (A : Nat) (n : Int) : Nat := if powC A n = 0 then A ^ n.toNat else 0
theorem wraps_i64 (n : Int) (h₀ : 0 ≤ n) (h₁ : n < 2 ^ 63) : IntKind.i64.wrap n = n := by rw [IntKind.wrap_i64]; omega
theorem odd_test (m : Nat) (hm : m < 9223372036854775808) : bits .and .i64 (m : Int) 1 = ((m % 2 : Nat) : Int) := by
  have h := bits_mask .i64 63 (by decide) wraps_i64 1 (by decide) (m : Int) (by omega) (by omega)
  rw [show ((2 : Int) ^ 1 - 1) = 1 from rfl] at h
  rw [h]; simp
theorem pow_len' {A n k : Nat} (h : blen A * n < 32 * k) : (wd (A ^ n)).length ≤ k := by
  apply wd_length_of_lt
  have h1 : A ^ n ≤ (2 ^ blen A) ^ n := Nat.pow_le_pow_left (Nat.le_of_lt (lt_two_blen A)) n
  rw [← Nat.pow_mul] at h1
  rw [pow32]
  exact Nat.lt_of_le_of_lt h1 (Nat.pow_lt_pow_right (by decide) h)
theorem pow_len {A n : Nat} (h : blen A * n ≤ 131072) : (wd (A ^ n)).length ≤ 4097 := pow_len' (by omega)
theorem blen_wd_len (A : Nat) : blen A ≤ 32 * (wd A).length := by
  have := blen_le_len (u32_wd A)
  rwa [val_wd] at this
/-- how the square-and-multiply loop goes on -/
theorem pow_half (X m : Nat) : X ^ m = X ^ (m % 2) * (X * X) ^ (m / 2) := by
  rw [← Nat.pow_two, ← Nat.pow_mul, ← Nat.pow_add]; congr 1; omega
/-- the bounds of the loop -/
theorem pow_bounds {O X m N A : Nat} (h : O * X ^ m = N) (hX : X ≤ max N A) (hA : N = 0 → A = 0) (hm : 1 ≤ m) : O * X ≤ max N 1 ∧ (1 < m → X * X ≤ max N A) := by
  by_cases hN : N = 0
  · have hA0 := hA hN
    have hX0 : X = 0 := by omega
    subst hX0
    simp
  · have hO1 : 1 ≤ O := by
      rcases Nat.eq_zero_or_pos O with g | g
      · rw [g, Nat.zero_mul] at h; omega
      · exact g
    have hX1 : 1 ≤ X := by
      rcases Nat.eq_zero_or_pos X with g | g
      · rw [g, Nat.zero_pow hm, Nat.mul_zero] at h; omega
      · exact g
    have h1 : ∀ k, k ≤ m → X ^ k ≤ X ^ m := fun k hk => Nat.pow_le_pow_right hX1 hk
    constructor
    · have := Nat.mul_le_mul_left O (h1 1 hm)
      rw [Nat.pow_one] at this; omega
    · intro h2
      have g1 := h1 2 h2
      rw [Nat.pow_two] at g1
      have g2 := Nat.le_mul_of_pos_left (X ^ m) hO1
      omega

end Go.Proofs.YtkedjammeoaciaaGreatDoor
/-
  The reference's Power: what it hands back; both with their errors.
  Conditions: each theorem's own.
-/
namespace Go.Proofs.YtkedjammeoaciaaGreatDoor
open Go.RowKit Go.ChangeShapes Go.WideShapes

theorem powC_small (A : Nat) (n : Int) : powC A n < 1000 := by unfold powC; split <;> (try split) <;> omega
theorem powV_len (A : Nat) (n : Int) : (wd (powV A n)).length ≤ 4097 := by
  unfold powV
  split
  · rename_i h
    unfold powC at h
    split at h
    · cases h
    · split at h
      · cases h
      · exact pow_len (by omega)
  · rw [wd_zero]; exact Nat.zero_le _
end Go.Proofs.YtkedjammeoaciaaGreatDoor
/-
  natural.Shift: what it hands back.
  Conditions: each theorem's own.
-/
namespace Go.Proofs.YtkedjammeoaciaaGreatDoor
open Go.RowKit Go.ChangeShapes Go.WideShapes

/-- the error of a shift, and its value -/
def shiftC (n : Int) : Nat := if n < -131072 ∨ 131072 < n then 3 else 0
def shiftV (A : Nat) (n : Int) : Nat := if n < -131072 ∨ 131072 < n then 0 else if 0 ≤ n then A * 2 ^ n.toNat else A / 2 ^ (-n).toNat
theorem shiftC_small (n : Int) : shiftC n < 1000 := by unfold shiftC; split <;> omega
end Go.Proofs.YtkedjammeoaciaaGreatDoor
/-
  A shift, bit by bit.
  Conditions: none.
-/
namespace Go.Proofs.YtkedjammeoaciaaGreatDoor

theorem put_small {l : List Nat} {k : Nat} (hU : U32 l) (hv : val l < 2 ^ k) : gd l (k / 32) < 2 ^ (k % 32) := by
  rw [val_gd hU, pow32]
  refine Nat.lt_of_le_of_lt (Nat.mod_le _ _) ?_
  apply Nat.div_lt_of_lt_mul
  rw [← Nat.pow_add, Nat.div_add_mod]; exact hv
theorem put_bit {l : List Nat} {k b : Nat} (hk : k / 32 < l.length) :
    val (l.set (k / 32) (gd l (k / 32) + b * 2 ^ (k % 32))) = val l + b * 2 ^ k := by
  have h := val_set l (k / 32) (gd l (k / 32) + b * 2 ^ (k % 32)) hk
  have e : 4294967296 ^ (k / 32) * (b * 2 ^ (k % 32)) = b * 2 ^ k := by
    rw [Nat.mul_left_comm, pow32, ← Nat.pow_add, Nat.div_add_mod]
  rw [Nat.mul_add, e] at h
  generalize 4294967296 ^ (k / 32) * gd l (k / 32) = t at h
  generalize val (l.set (k / 32) (gd l (k / 32) + b * 2 ^ (k % 32))) = s at h ⊢
  generalize b * 2 ^ k = u at h ⊢
  omega
/-- the shift of the lowest i bits -/
def partS (A : Nat) (n : Int) (i : Nat) : Nat := if 0 ≤ n then A % 2 ^ i * 2 ^ n.toNat else A % 2 ^ i / 2 ^ (-n).toNat
theorem partS_zero (A : Nat) (n : Int) : partS A n 0 = 0 := by unfold partS; simp [Nat.mod_one]
theorem partS_low {A : Nat} {n : Int} {i : Nat} (h : (i : Int) + n < 0) : partS A n (i + 1) = partS A n i := by
  unfold partS
  rw [if_neg (by omega), if_neg (by omega)]
  have h1 : ∀ j, j ≤ i + 1 → A % 2 ^ j / 2 ^ (-n).toNat = 0 := fun j hj => by
    apply Nat.div_eq_of_lt
    exact Nat.lt_of_lt_of_le (Nat.mod_lt _ (Nat.pow_pos (by decide))) (Nat.pow_le_pow_right (by decide) (by omega))
  rw [h1 _ (Nat.le_refl _), h1 _ (Nat.le_succ _)]
theorem partS_lt {A : Nat} {n : Int} {i k : Nat} (h : (i : Int) + n = k) : partS A n i < 2 ^ k := by
  unfold partS
  have hm : A % 2 ^ i < 2 ^ i := Nat.mod_lt _ (Nat.pow_pos (by decide))
  split
  · have e : 2 ^ k = 2 ^ i * 2 ^ n.toNat := by rw [← Nat.pow_add]; congr 1; omega
    rw [e]; exact (Nat.mul_lt_mul_right (Nat.pow_pos (by decide))).2 hm
  · apply Nat.div_lt_of_lt_mul
    rw [← Nat.pow_add, show (-n).toNat + k = i from by omega]; exact hm
theorem partS_succ {A : Nat} {n : Int} {i k : Nat} (h : (i : Int) + n = k) : partS A n (i + 1) = partS A n i + A / 2 ^ i % 2 * 2 ^ k := by
  unfold partS
  rw [Nat.mod_pow_succ]
  split
  · have e : 2 ^ k = 2 ^ i * 2 ^ n.toNat := by rw [← Nat.pow_add]; congr 1; omega
    rw [Nat.add_mul, e]; congr 1
    rw [Nat.mul_comm (2 ^ i), Nat.mul_assoc]
  · have e : 2 ^ i * (A / 2 ^ i % 2) = 2 ^ (-n).toNat * (A / 2 ^ i % 2 * 2 ^ k) := by
      rw [Nat.mul_comm (A / 2 ^ i % 2), ← Nat.mul_assoc, ← Nat.pow_add, show (-n).toNat + k = i from by omega]
    rw [e, Nat.add_mul_div_left _ _ (Nat.pow_pos (by decide))]
theorem partS_end {A : Nat} {n : Int} {i : Nat} (h : A < 2 ^ i) : partS A n i = if 0 ≤ n then A * 2 ^ n.toNat else A / 2 ^ (-n).toNat := by
  unfold partS; rw [Nat.mod_eq_of_lt h]
end Go.Proofs.YtkedjammeoaciaaGreatDoor
/-
  The reference's Shift: what it hands back.
  Conditions: each theorem's own.
-/
namespace Go.Proofs.YtkedjammeoaciaaGreatDoor
open Go.RowKit Go.ChangeShapes Go.WideShapes

theorem max_tdiv (t : Int) : max 0 (t.tdiv 32) = ((t / 32).toNat : Int) := by
  rcases Int.le_total 0 t with h | h
  · rw [Int.tdiv_eq_ediv_of_nonneg h]; omega
  · have e := Int.neg_tdiv (a := -t) (b := 32)
    have e2 := Int.tdiv_eq_ediv_of_nonneg (a := -t) (b := 32) (by omega)
    rw [Int.neg_neg, e2] at e
    rw [e]; omega

end Go.Proofs.YtkedjammeoaciaaGreatDoor
/-
  The reference's Root: what it hands back.
  Conditions: each theorem's own.
-/
namespace Go.Proofs.YtkedjammeoaciaaGreatDoor
open Go.RowKit Go.ChangeShapes Go.WideShapes

theorem root_start {A B : Nat} (h : A < 2 ^ B) : A < (0 + 2 ^ (B / 2 + 1)) * (0 + 2 ^ (B / 2 + 1)) := by
  rw [Nat.zero_add, ← Nat.pow_add]
  exact Nat.lt_of_lt_of_le h (Nat.pow_le_pow_right (by decide) (by omega))
theorem root_half (s i : Nat) : s + 2 ^ (i + 1) = s + 2 ^ i + 2 ^ i := by rw [Nat.pow_succ]; omega

theorem pow2_len' {i k : Nat} (h : i < 32 * k) : (wd (2 ^ i)).length ≤ k := by
  apply wd_length_of_lt
  rw [pow32]; exact Nat.pow_lt_pow_right (by decide) h
theorem num_empty (w : World) (ad : Addr) : Num w (.slice (some ad) 0 0) [] :=
  ⟨some ad, 0, rfl, by simp, by omega, by simp, fun b off s h => ⟨fun h0 => absurd h0 (by simp), fun j hj => absurd hj (by simp)⟩, fun j => by simp [gd]⟩
theorem one_shift {i : Nat} (h : i ≤ 131072) : shiftV 1 (i : Int) = 2 ^ i ∧ shiftC (i : Int) = 0 := by
  unfold shiftV shiftC
  have h1 : ¬ ((i : Int) < -131072 ∨ 131072 < (i : Int)) := by omega
  have h2 : (0 : Int) ≤ (i : Int) := by omega
  simp only [if_neg h1, if_pos h2, Int.toNat_natCast, Nat.one_mul, and_self]
theorem cmpN_le0 (m n : Nat) : decide (cmpN m n ≤ 0) = decide (m ≤ n) := by
  rcases Nat.lt_trichotomy m n with h | h | h
  · rw [cmpN_lt h, decide_eq_true (show m ≤ n by omega)]; rfl
  · rw [cmpN_eq h, decide_eq_true (show m ≤ n by omega)]; rfl
  · rw [cmpN_gt h, decide_eq_false (show ¬ m ≤ n by omega)]; rfl

end Go.Proofs.YtkedjammeoaciaaGreatDoor
/-
  The reference's Parse: what it hands back.
  Conditions: each theorem's own.
-/
namespace Go.Proofs.YtkedjammeoaciaaGreatDoor
open Go.RowKit Go.ChangeShapes Go.WideShapes

/-- a call's number, with all numbers kept -/
def RetK (w0 wx : World) (n : Nat) (e : Ending) (w' : World) : Prop :=
  ∃ v, e = .returned v ∧ Below w0.heap.size w0 w' ∧ Num w' v (wd n) ∧ ∀ u l, Num wx u l → Num w' u l
theorem RetNum.k {w0 wx : World} {n : Nat} (h : Below w0.heap.size w0 wx) {e : Ending} {w' : World} (hr : RetNum wx (fun r => r = wd n) e w') : RetK w0 wx n e w' := by
  obtain ⟨v, l, he, hb, hn, rfl⟩ := hr
  exact ⟨v, he, h.trans (hb.mono h.size), hn, fun u l hu => hu.below hb⟩
end Go.Proofs.YtkedjammeoaciaaGreatDoor
/-
  The reference's Parse: its loop.
  Conditions: each theorem's own.
-/
namespace Go.Proofs.YtkedjammeoaciaaGreatDoor
open Go.RowKit Go.ChangeShapes Go.WideShapes

theorem run_index_l (l : List UInt8) (k : Nat) (h : k < l.length) (w : World) :
    (Instr.index 9 (.string ⟨l.toArray⟩) (.int .i64 k)).run Tryz.prog w = .ok (.int .u8 ((l[k]).toNat : Nat)) w := by
  have hs : (ByteArray.mk l.toArray).size = l.length := by simp [ByteArray.size]
  rw [run_index_string w 9 _ _ _ Tryz.underlying9, dif_pos (by rw [hs]; omega)]
  rfl
theorem all_take_succ {l : List UInt8} {i : Nat} (h : i < l.length) : (l.take (i + 1)).all isDig = ((l.take i).all isDig && isDig l[i]) := by
  rw [List.take_succ_eq_append_getElem h, List.all_append]; simp
theorem decN_take_succ {l : List UInt8} {i : Nat} (h : i < l.length) : decN (l.take (i + 1)) = 10 * decN (l.take i) + ((l[i]).toNat - 48) := by
  rw [List.take_succ_eq_append_getElem h, decN_snoc]
theorem not_all {l : List UInt8} {i : Nat} (h : i < l.length) (hn : isDig l[i] = false) : l.all isDig = false := by
  rw [Bool.eq_false_iff]; intro ha
  rw [List.all_eq_true] at ha
  have := ha _ (List.getElem_mem h)
  rw [hn] at this; cases this
theorem decN_len {l : List UInt8} (hd : l.all isDig = true) : decN l < 10 ^ l.length := by
  have key : ∀ m : List UInt8, m.all isDig = true → decN m.reverse < 10 ^ m.length := by
    intro m
    induction m with
    | nil => intro _; exact Nat.lt_of_lt_of_le (by decide : (0:Nat) < 1) (by simp)
    | cons b m ih =>
      intro h
      rw [List.all_cons, Bool.and_eq_true] at h
      have hb : 48 ≤ b.toNat ∧ b.toNat ≤ 57 := by simpa [isDig] using h.1
      have := ih h.2
      rw [List.reverse_cons, decN_snoc, List.length_cons, Nat.pow_succ]
      omega
  have := key l.reverse (by rw [List.all_reverse]; exact hd)
  rwa [List.reverse_reverse, List.length_reverse] at this

/-- a call's number, for ever -/
def RetP (w0 : World) (n : Nat) (e : Ending) (w' : World) : Prop :=
  ∃ v, e = .returned v ∧ Below w0.heap.size w0 w' ∧ ∀ wx, Below w'.heap.size w' wx → Num wx v (wd n)
theorem RetNum.p {w0 : World} {n : Nat} {e : Ending} {w' : World} (hr : RetNum w0 (fun r => r = wd n) e w') : RetP w0 n e w' := by
  obtain ⟨v, l, he, hb, hn, rfl⟩ := hr
  exact ⟨v, he, hb, fun wx hx => hn.below hx⟩

theorem decN_words' {l : List UInt8} {k K : Nat} (hl : l.length ≤ K) (h : (l.take k).all isDig = true) : (wd (decN (l.take k))).length ≤ K := by
  apply wd_length_of_lt
  have h1 := decN_len h
  have h2 : (l.take k).length ≤ K := Nat.le_trans (by rw [List.length_take]; omega) hl
  exact Nat.lt_of_lt_of_le h1 (Nat.le_trans (Nat.pow_le_pow_right (by decide) h2) (Nat.pow_le_pow_left (by decide) _))
theorem decN_words {l : List UInt8} {k : Nat} (hl : l.length ≤ 400) (h : (l.take k).all isDig = true) : (wd (decN (l.take k))).length ≤ 400 := decN_words' hl h
theorem _root_.Go.RowKit.Below.step {w w1 w2 : World} (h : Below w.heap.size w w1) (h2 : Below w1.heap.size w1 w2) : Below w.heap.size w w2 := h.trans (h2.mono h.size)

end Go.Proofs.YtkedjammeoaciaaGreatDoor
/-
  Fractions in memory: what a value reads as, what a call hands back.
  Conditions: none beyond each theorem's own.
-/
namespace Go.Proofs.YtkedjammeoaciaaGreatDoor
open Go.RowKit Go.ChangeShapes Go.WideShapes

/-- the value reads as a fraction with these fields -/
def RatV (w : World) (v : Value) (s : Bool) (a b : List Nat) : Prop := ∃ va vb, v = .agg #[.bool s, va, vb] ∧ Num w va a ∧ Num w vb b
/-- the value reads as the valid form of q -/
def IsR (w : World) (v : Value) (q : Rat) : Prop := RatV w v (ng q) (wd (nn q)) (wd (dn q))
/-- the value reads as a fraction of any fields that counts as q, its words not too many -/
def RatIs (w : World) (v : Value) (q : Rat) : Prop := ∃ s a b, RatV w v s a b ∧ rq s a b = q ∧ a.length ≤ 100000 ∧ b.length ≤ 100000
theorem RatV.below {w w' : World} {v : Value} {s : Bool} {a b : List Nat} (h : RatV w v s a b) (hb : Below w.heap.size w w') : RatV w' v s a b := by
  obtain ⟨va, vb, rfl, h1, h2⟩ := h
  exact ⟨va, vb, rfl, h1.below hb, h2.below hb⟩
theorem IsR.below {w w' : World} {v : Value} {q : Rat} (h : IsR w v q) (hb : Below w.heap.size w w') : IsR w' v q := RatV.below h hb
theorem RatIs.below {w w' : World} {v : Value} {q : Rat} (h : RatIs w v q) (hb : Below w.heap.size w w') : RatIs w' v q := by
  obtain ⟨s, a, b, h1, h2⟩ := h
  exact ⟨s, a, b, h1.below hb, h2⟩
theorem dn_len (q : Rat) : (wd (dn q)).length ≤ rl q := by
  unfold dn; split
  · rw [wd_zero]; exact Nat.zero_le _
  · exact rl_d q
theorem IsR.is {w : World} {v : Value} {q : Rat} (h : IsR w v q) (hl : rl q ≤ 100000) : RatIs w v q :=
  ⟨_, _, _, h, (vld_self q).2, Nat.le_trans (rl_n q) hl, Nat.le_trans (dn_len q) hl⟩
theorem RatV.is {w : World} {v : Value} {s : Bool} {a b : List Nat} (h : RatV w v s a b) (h1 : a.length ≤ 100000) (h2 : b.length ≤ 100000) : RatIs w v (rq s a b) := ⟨s, a, b, h, rfl, h1, h2⟩
theorem RatV.lt {w : World} {v : Value} {s : Bool} {a b : List Nat} (h : RatV w v s a b) : U32 a ∧ U32 b := by
  obtain ⟨va, vb, rfl, h1, h2⟩ := h
  exact ⟨h1.lt, h2.lt⟩
theorem RatIs.rl {w : World} {v : Value} {q : Rat} (h : RatIs w v q) : rl q ≤ 100000 := by
  obtain ⟨s, a, b, h, rfl, h1, h2⟩ := h
  obtain ⟨u1, u2⟩ := h.lt
  exact rl_rq u1 u2 h1 h2 (by decide)
/-- the zero value -/
theorem isR_zero (w : World) : IsR w (.agg #[.bool false, .slice none 0 0, .slice none 0 0]) 0 := by
  unfold IsR
  rw [ng_zero, nn_zero, dn_zero, wd_zero]
  exact ⟨_, _, rfl, Num.nil w, Num.nil w⟩
/-- hands back a number n -/
def RetN (w : World) (n : Nat) (e : Ending) (w' : World) : Prop := ∃ v, e = .returned v ∧ Below w.heap.size w w' ∧ Num w' v (wd n)
theorem RetNum.n {w : World} {n : Nat} {e : Ending} {w' : World} (h : RetNum w (fun r => r = wd n) e w') : RetN w n e w' := by
  obtain ⟨v, l, he, hb, hn, rfl⟩ := h
  exact ⟨v, he, hb, hn⟩
/-- hands back the valid form of q -/
def RetR (w : World) (q : Rat) (e : Ending) (w' : World) : Prop := ∃ v, e = .returned v ∧ Below w.heap.size w w' ∧ IsR w' v q
/-- .. with an error (or its number) -/
def RetRE (w : World) (q : Rat) (er : Value) (e : Ending) (w' : World) : Prop := ∃ v, e = .returned (.tuple #[v, er]) ∧ Below w.heap.size w w' ∧ IsR w' v q
end Go.Proofs.YtkedjammeoaciaaGreatDoor
/-
  rational.one, plain, Valid: what they hand back.
  Conditions: each theorem's own.
-/
namespace Go.Proofs.YtkedjammeoaciaaGreatDoor
open Go.RowKit Go.ChangeShapes Go.WideShapes

/-- a boxed value's cells stay behind a call -/
theorem box_kept {w w1 : World} {cs : Array Value} {T : TypeId} (hb : Below (w.alloc (.cells cs T)).heap.size (w.alloc (.cells cs T)) w1) (j : Nat) :
    w1.cell? ⟨w.heap.size, j, none⟩ = cs[j]? := by
  rw [hb.cell (p := ⟨w.heap.size, j, none⟩) (by simp), cell_of_row _ _ _ _ _ _ (heap_alloc_new _ _)]

set_option maxRecDepth 100000 in
set_option maxHeartbeats 400000 in
theorem one_any (w : World) : Calls Tryz.prog 75 #[] w (RetN w 1) := by
  go_enter Tryz.func75, Tryz.ntmps75
  go_wp2_with fail
  go_ret
  refine ⟨_, rfl, (Below.refl _ _).alloc (Nat.le_refl _) _, ?_⟩
  rw [wd_one (by decide) (by decide)]
  exact num_one w 75 1 (by decide)
set_option maxRecDepth 100000 in
set_option maxHeartbeats 1600000 in
theorem plain_any (va : Value) (a : List Nat) (w : World) (ha : Num w va a) :
    Calls Tryz.prog 129 #[va] w (RetS w (.bool (decide (a ≠ [] ∧ Clean a)))) := by
  obtain ⟨ao, ca, rfl, hca, hca2, _⟩ := ha.shape
  by_cases h0 : a.length = 0
  · obtain rfl := List.eq_nil_of_length_eq_zero h0
    clear ha
    go_enter Tryz.func129, Tryz.ntmps129
    go_wp2_with fail
    go_ret
    exact ⟨rfl, rfl⟩
  · obtain ⟨b, off, rfl, _, hcell⟩ := ha.at (by omega)
    obtain ⟨m, hm⟩ : ∃ m, m = a.length := ⟨_, rfl⟩
    rw [← hm] at h0 hca hcell ⊢
    have hx := hcell (m - 1) (by omega)
    obtain ⟨x, hxe⟩ : ∃ x, x = gd a (m - 1) := ⟨_, rfl⟩
    rw [← hxe] at hx
    have hcl : (decide (a ≠ [] ∧ Clean a)) = decide (x ≠ 0) := by
      rw [decide_eq_decide, hxe, hm]
      unfold Clean
      have hne : a ≠ [] := fun e => by rw [e] at hm; simp at hm; omega
      constructor
      · rintro ⟨h, h | h⟩
        · exact absurd h hne
        · exact h
      · intro h; exact ⟨hne, .inr h⟩
    rw [hcl]
    have hm0 : decide ((0 : Int) < (m : Int)) = true := decide_eq_true (by omega)
    have hxl : x < 4294967296 := by rw [hxe]; exact ha.lt _
    by_cases hx0 : x = 0
    · subst hx0
      clear hcell hxe hm ha hcl
      go_enter Tryz.func129, Tryz.ntmps129
      go_wp2_with fail
      go_ret
      exact ⟨rfl, rfl⟩
    · have hne : (bne (x : Int) 0) = true := by simp; omega
      have hd : decide (x ≠ 0) = true := decide_eq_true hx0
      rw [hd]
      clear hcell hxe hm ha hcl hd
      go_enter Tryz.func129, Tryz.ntmps129
      go_wp2_with fail
      go_ret
      exact ⟨rfl, rfl⟩

/-- what Valid comes to where the fields are not both empty -/
theorem vld_parts {s : Bool} {a b : List Nat} (h : ¬ (a = [] ∧ b = [])) : Vld s a b ↔ (a ≠ [] ∧ Clean a) ∧ (b ≠ [] ∧ Clean b) ∧ Nat.gcd (val a) (val b) = 1 := by
  unfold Vld
  constructor
  · rintro (⟨h1, h2, _⟩ | ⟨h1, h2, h3, h4, h5⟩)
    · exact absurd ⟨h1, h2⟩ h
    · exact ⟨⟨h1, h3⟩, ⟨h2, h4⟩, h5⟩
  · rintro ⟨⟨h1, h3⟩, ⟨h2, h4⟩, h5⟩
    exact .inr ⟨h1, h2, h3, h4, h5⟩
set_option maxRecDepth 100000 in
set_option maxHeartbeats 3200000 in
theorem valid_any (v : Value) (s : Bool) (a b : List Nat) (w : World) (h : RatV w v s a b) (hla : a.length ≤ 400000) (hlb : b.length ≤ 400000) :
    Calls Tryz.prog 93 #[v] w (RetV w (.bool (decide (Vld s a b)))) := by
  obtain ⟨va, vb, rfl, ha, hb⟩ := h
  obtain ⟨ao, ca, rfl, hca, hca2, _⟩ := ha.shape
  obtain ⟨bo, cb, rfl, hcb, hcb2, _⟩ := hb.shape
  by_cases h0 : a = [] ∧ b = []
  · obtain ⟨rfl, rfl⟩ := h0
    have e : decide (Vld s [] []) = !s := by cases s <;> rfl
    rw [e]
    clear ha hb e
    go_enter Tryz.func93, Tryz.ntmps93
    go_wp2_with fail
    go_ret
    exact ⟨rfl, (Below.refl _ _).alloc (Nat.le_refl _) _⟩
  · have e := vld_parts (s := s) h0
    have hd : decide (Vld s a b) = decide ((a ≠ [] ∧ Clean a) ∧ (b ≠ [] ∧ Clean b) ∧ Nat.gcd (val a) (val b) = 1) := decide_eq_decide.2 e
    rw [hd]
    have hab : ((a.length : Int) == 0) = false ∨ ((a.length : Int) == 0) = true ∧ ((b.length : Int) == 0) = false := by
      by_cases h1 : a.length = 0
      · right
        refine ⟨by rw [h1]; rfl, ?_⟩
        rw [beq_eq_false_iff_ne]
        intro h2
        exact h0 ⟨List.eq_nil_of_length_eq_zero h1, List.eq_nil_of_length_eq_zero (by omega)⟩
      · left; rw [beq_eq_false_iff_ne]; omega
    have hbx : Below w.heap.size w (w.alloc (.cells #[.bool s, .slice ao a.length ca, .slice bo b.length cb] 24)) := (Below.refl _ _).alloc (Nat.le_refl _) _
    have hp1 := plain_any _ a _ (ha.below hbx)
    have hp2 := plain_any _ b _ (hb.below hbx)
    have HBX := Lib.hid hbx; have HA := Lib.hid (ha.below hbx); have HB := Lib.hid (hb.below hbx)
    clear e hd h0 ha hb hbx
    by_cases c1 : a ≠ [] ∧ Clean a
    · by_cases c2 : b ≠ [] ∧ Clean b
      · have hg := gcd_any _ _ _ _ _ HA.out HB.out (by omega) (by omega)
        have hgl : (wd (Nat.gcd (val a) (val b))).length ≤ 400000 := by
          have h1 := wd_length_le HA.out.lt
          have h2 : val a ≠ 0 := val_ne HA.out.lt c1.2 c1.1
          have h3 := wd_length_mono (Nat.le_of_dvd (Nat.pos_of_ne_zero h2) (Nat.gcd_dvd_left (val a) (val b)))
          omega
        obtain ⟨g, hge⟩ : ∃ g, g = Nat.gcd (val a) (val b) := ⟨_, rfl⟩
        rw [← hge] at hg hgl
        have hres : decide ((a ≠ [] ∧ Clean a) ∧ (b ≠ [] ∧ Clean b) ∧ Nat.gcd (val a) (val b) = 1) = decide (g = 1) := by
          rw [decide_eq_decide, hge]; exact ⟨fun h => h.2.2, fun h => ⟨c1, c2, h⟩⟩
        rw [hres]
        rw [decide_eq_true c1] at hp1
        rw [decide_eq_true c2] at hp2
        have HP1 := Lib.hid hp1; have HP2 := Lib.hid hp2; have HG := Lib.hid hg
        clear hp1 hp2 hg hge hres c1 c2
        rcases hab with hab | ⟨hab, hab2⟩
        · go_enter Tryz.func93, Tryz.ntmps93
          go_wp2_with fail
          (with_reducible refine HP1.out.mono ?_); rintro e wx ⟨rfl, rfl⟩
          go_wp2_with fail
          (with_reducible refine HP2.out.mono ?_); rintro e wx ⟨rfl, rfl⟩
          go_wp2_with fail
          (with_reducible refine HG.out.mono ?_); rintro e w1 ⟨v1, l1, rfl, hb1, hn1, rfl⟩
          have HN1 := Lib.hid hn1; have HB1 := Lib.hid (HBX.out.step hb1); clear hn1 hb1
          go_wp2_with fail
          (with_reducible refine (one_any _).mono ?_); rintro e w2 ⟨v2, rfl, hb2, hn2⟩
          have hcm := cmp_any _ _ _ _ w2 (HN1.out.below hb2) hn2 (by omega) (by rw [wd_one (by decide) (by decide)]; simp)
          rw [val_wd, val_wd] at hcm
          have HCM := Lib.hid hcm; have HB2 := Lib.hid (HB1.out.step hb2); clear hcm hn2 hb2
          by_cases hg1 : g = 1
          · have hc0 : cmpN g 1 = 0 := cmpN_eq hg1
            rw [hc0] at HCM
            have hd : decide (g = 1) = true := decide_eq_true hg1
            rw [hd]
            have HG1 := Lib.hid hg1
            clear hc0 hg1 hd
            go_wp2_with fail
            (with_reducible refine HCM.out.mono ?_); rintro e w3 ⟨rfl, hb3⟩
            go_wp2_with fail
            go_ret
            exact ⟨by first | rfl | (simp; done) | (simp; exact HG1.out), HB2.out.step hb3⟩
          · have hd : decide (g = 1) = false := decide_eq_false hg1
            rw [hd]
            obtain ⟨c, hc⟩ : ∃ c, c = cmpN g 1 := ⟨_, rfl⟩
            rw [← hc] at HCM
            have hc0 : (c == 0) = false := by
              rw [beq_eq_false_iff_ne, hc]; unfold cmpN; split
              · decide
              · split
                · decide
                · omega
            have HG1 := Lib.hid hg1
            clear hc hg1 hd
            go_wp2_with fail
            (with_reducible refine HCM.out.mono ?_); rintro e w3 ⟨rfl, hb3⟩
            go_wp2_with fail
            go_ret
            exact ⟨by first | rfl | (simp; done) | (simp; exact HG1.out), HB2.out.step hb3⟩
        · go_enter Tryz.func93, Tryz.ntmps93
          go_wp2_with fail
          (with_reducible refine HP1.out.mono ?_); rintro e wx ⟨rfl, rfl⟩
          go_wp2_with fail
          (with_reducible refine HP2.out.mono ?_); rintro e wx ⟨rfl, rfl⟩
          go_wp2_with fail
          (with_reducible refine HG.out.mono ?_); rintro e w1 ⟨v1, l1, rfl, hb1, hn1, rfl⟩
          have HN1 := Lib.hid hn1; have HB1 := Lib.hid (HBX.out.step hb1); clear hn1 hb1
          go_wp2_with fail
          (with_reducible refine (one_any _).mono ?_); rintro e w2 ⟨v2, rfl, hb2, hn2⟩
          have hcm := cmp_any _ _ _ _ w2 (HN1.out.below hb2) hn2 (by omega) (by rw [wd_one (by decide) (by decide)]; simp)
          rw [val_wd, val_wd] at hcm
          have HCM := Lib.hid hcm; have HB2 := Lib.hid (HB1.out.step hb2); clear hcm hn2 hb2
          by_cases hg1 : g = 1
          · have hc0 : cmpN g 1 = 0 := cmpN_eq hg1
            rw [hc0] at HCM
            have hd : decide (g = 1) = true := decide_eq_true hg1
            rw [hd]
            have HG1 := Lib.hid hg1
            clear hc0 hg1 hd
            go_wp2_with fail
            (with_reducible refine HCM.out.mono ?_); rintro e w3 ⟨rfl, hb3⟩
            go_wp2_with fail
            go_ret
            exact ⟨by first | rfl | (simp; done) | (simp; exact HG1.out), HB2.out.step hb3⟩
          · have hd : decide (g = 1) = false := decide_eq_false hg1
            rw [hd]
            obtain ⟨c, hc⟩ : ∃ c, c = cmpN g 1 := ⟨_, rfl⟩
            rw [← hc] at HCM
            have hc0 : (c == 0) = false := by
              rw [beq_eq_false_iff_ne, hc]; unfold cmpN; split
              · decide
              · split
                · decide
                · omega
            have HG1 := Lib.hid hg1
            clear hc hg1 hd
            go_wp2_with fail
            (with_reducible refine HCM.out.mono ?_); rintro e w3 ⟨rfl, hb3⟩
            go_wp2_with fail
            go_ret
            exact ⟨by first | rfl | (simp; done) | (simp; exact HG1.out), HB2.out.step hb3⟩
      · have hres : decide ((a ≠ [] ∧ Clean a) ∧ (b ≠ [] ∧ Clean b) ∧ Nat.gcd (val a) (val b) = 1) = false := decide_eq_false fun h => c2 h.2.1
        rw [hres]
        rw [decide_eq_true c1] at hp1
        rw [decide_eq_false c2] at hp2
        have HP1 := Lib.hid hp1; have HP2 := Lib.hid hp2
        clear hp1 hp2 hres
        rcases hab with hab | ⟨hab, hab2⟩
        · go_enter Tryz.func93, Tryz.ntmps93
          go_wp2_with fail
          (with_reducible refine HP1.out.mono ?_); rintro e wx ⟨rfl, rfl⟩
          go_wp2_with fail
          (with_reducible refine HP2.out.mono ?_); rintro e wx ⟨rfl, rfl⟩
          go_wp2_with fail
          go_ret
          exact ⟨rfl, HBX.out⟩
        · go_enter Tryz.func93, Tryz.ntmps93
          go_wp2_with fail
          (with_reducible refine HP1.out.mono ?_); rintro e wx ⟨rfl, rfl⟩
          go_wp2_with fail
          (with_reducible refine HP2.out.mono ?_); rintro e wx ⟨rfl, rfl⟩
          go_wp2_with fail
          go_ret
          exact ⟨rfl, HBX.out⟩
    · have hres : decide ((a ≠ [] ∧ Clean a) ∧ (b ≠ [] ∧ Clean b) ∧ Nat.gcd (val a) (val b) = 1) = false := decide_eq_false fun h => c1 h.1
      rw [hres]
      rw [decide_eq_false c1] at hp1
      have HP1 := Lib.hid hp1; have HP2 := Lib.hid hp2
      clear hp1 hp2 hres
      rcases hab with hab | ⟨hab, hab2⟩
      · go_enter Tryz.func93, Tryz.ntmps93
        go_wp2_with fail
        (with_reducible refine HP1.out.mono ?_); rintro e wx ⟨rfl, rfl⟩
        go_wp2_with fail
        go_ret
        exact ⟨rfl, HBX.out⟩
      · go_enter Tryz.func93, Tryz.ntmps93
        go_wp2_with fail
        (with_reducible refine HP1.out.mono ?_); rintro e wx ⟨rfl, rfl⟩
        go_wp2_with fail
        go_ret
        exact ⟨rfl, HBX.out⟩
end Go.Proofs.YtkedjammeoaciaaGreatDoor
/-
  rational.parts, form: what they hand back.
  Conditions: each theorem's own.
-/
namespace Go.Proofs.YtkedjammeoaciaaGreatDoor
open Go.RowKit Go.ChangeShapes Go.WideShapes

/-- hands back the sign, numerator and denominator of q -/
def RetParts (w : World) (q : Rat) (e : Ending) (w' : World) : Prop := ∃ vn vd, e = .returned (.tuple #[.bool (ng q), vn, vd]) ∧ Below w.heap.size w w' ∧ Num w' vn (wd (nn q)) ∧ Num w' vd (wd q.den)

set_option maxRecDepth 100000 in
set_option maxHeartbeats 1600000 in
theorem parts_any (v : Value) (q : Rat) (w : World) (h : RatIs w v q) :
    Calls Tryz.prog 73 #[v] w (RetParts w q) := by
  obtain ⟨s, a, b, hv, rfl, hla, hlb⟩ := h
  obtain ⟨va, vb, rfl, ha, hb⟩ := hv
  obtain ⟨ao, ca, rfl, hca, hca2, _⟩ := ha.shape
  obtain ⟨bo, cb, rfl, hcb, hcb2, _⟩ := hb.shape
  have hbx : Below w.heap.size w (w.alloc (.cells #[.bool s, .slice ao a.length ca, .slice bo b.length cb] 24)) := (Below.refl _ _).alloc (Nat.le_refl _) _
  have hvl := valid_any _ s a b _ (⟨_, _, rfl, ha.below hbx, hb.below hbx⟩ : RatV (w.alloc (.cells #[.bool s, .slice ao a.length ca, .slice bo b.length cb] 24)) _ s a b) (by omega) (by omega)
  by_cases h0 : rq s a b = 0
  · rw [h0]
    have hbad : decide (Vld s a b) = false ∨ decide (Vld s a b) = true ∧ a.length = 0 := by
      by_cases hv : Vld s a b
      · right
        obtain ⟨_, e, _⟩ := vld_fields ha.lt hb.lt hv
        rw [h0, nn_zero, wd_zero] at e
        exact ⟨decide_eq_true hv, by rw [e]; rfl⟩
      · left; exact decide_eq_false hv
    have HBX := Lib.hid hbx; clear hbx h0
    rcases hbad with hd | ⟨hd, hl⟩
    · rw [hd] at hvl
      have HV := Lib.hid hvl; clear hvl hd ha hb
      go_enter Tryz.func73, Tryz.ntmps73
      go_wp2_with fail
      (with_reducible refine HV.out.mono ?_); rintro e w1 ⟨rfl, hb1⟩
      go_wp2_with fail
      (with_reducible refine (one_any _).mono ?_); rintro e w2 ⟨v2, rfl, hb2, hn2⟩
      go_wp2_with fail
      go_ret3
      exact ⟨_, _, rfl, (HBX.out.step hb1).step hb2, by rw [nn_zero, wd_zero]; exact Num.nil _, hn2⟩
    · rw [hd] at hvl
      have c1 := fun w1 (h : Below _ _ w1) => box_kept (w := w) (cs := #[.bool s, .slice ao a.length ca, .slice bo b.length cb]) (T := 24) (w1 := w1) h 1
      have C1 := Lib.hid c1
      have HV := Lib.hid hvl; have HL := Lib.hid hl; clear hvl hd c1 ha hb hl
      go_enter Tryz.func73, Tryz.ntmps73
      go_wp2_with fail
      (with_reducible refine HV.out.mono ?_); rintro e w1 ⟨rfl, hb1⟩
      have c1 : w1.cell? ⟨w.heap.size, 1, none⟩ = some (.slice ao a.length ca) := C1.out w1 hb1
      rw [HL.out] at c1
      go_wp2_with fail
      (with_reducible refine (one_any _).mono ?_); rintro e w2 ⟨v2, rfl, hb2, hn2⟩
      go_wp2_with fail
      go_ret3
      exact ⟨_, _, rfl, (HBX.out.step hb1).step hb2, by rw [nn_zero, wd_zero]; exact Num.nil _, hn2⟩
  · have hv : Vld s a b := Decidable.byContradiction fun h => h0 (rq_invalid h)
    obtain ⟨e1, e2, e3⟩ := vld_fields ha.lt hb.lt hv
    rw [dn_pos h0] at e3
    have hl : ((a.length : Int) == 0) = false := by
      rw [beq_eq_false_iff_ne]
      intro h
      have : a = [] := List.eq_nil_of_length_eq_zero (by omega)
      rw [e2] at this
      exact wd_ne (fun e => h0 (nn_eq_zero.1 e)) this
    rw [decide_eq_true hv] at hvl
    have HE := Lib.hid (And.intro e1 (And.intro e2 e3)); have HBX := Lib.hid hbx; have HA := Lib.hid (ha.below hbx); have HB := Lib.hid (hb.below hbx); have HV := Lib.hid hvl
    have bk := fun w1 (h : Below _ _ w1) j => box_kept (w := w) (cs := #[.bool s, .slice ao a.length ca, .slice bo b.length cb]) (T := 24) (w1 := w1) h j
    have BK := Lib.hid bk
    clear e1 e2 e3 hbx ha hb hv hvl bk h0
    go_enter Tryz.func73, Tryz.ntmps73
    go_wp2_with fail
    (with_reducible refine HV.out.mono ?_); rintro e w1 ⟨rfl, hb1⟩
    have c0 : w1.cell? ⟨w.heap.size, 0, none⟩ = some (.bool s) := BK.out w1 hb1 0
    have c1 : w1.cell? ⟨w.heap.size, 1, none⟩ = some (.slice ao a.length ca) := BK.out w1 hb1 1
    have c2 : w1.cell? ⟨w.heap.size, 2, none⟩ = some (.slice bo b.length cb) := BK.out w1 hb1 2
    go_wp2_with fail
    go_quiet (fail)
    go_wp2_with fail
    go_ret3
    obtain ⟨e1, e2, e3⟩ := HE.out
    refine ⟨.slice ao a.length ca, .slice bo b.length cb, by rw [← e1]; rfl, below_drewN (HBX.out.step hb1) _, ?_, ?_⟩
    · rw [← e2]; exact (HA.out.below hb1).below (below_drewN (Below.refl _ _) _)
    · rw [← e3]; exact (HB.out.below hb1).below (below_drewN (Below.refl _ _) _)

/-- the zero value in memory -/
def zeroR : Array Value := #[.bool false, .slice none 0 0, .slice none 0 0]
theorem frozen_kept {w w1 : World} {cs : Array Value} {T : TypeId} (hb : Below (w.alloc (.cells cs T)).heap.size (w.alloc (.cells cs T)) w1) (j : Nat) :
    w1.frozen? ⟨w.heap.size, j, none⟩ = false := by
  have h : w1.heap[w.heap.size]? = some (.cells cs T) := by
    rw [hb.block _ (by simp)]; exact heap_alloc_new w _
  simp [World.frozen?, h]

theorem heap_kept {w w1 : World} {o : Obj} (hb : Below (w.alloc o).heap.size (w.alloc o) w1) : w1.heap[w.heap.size]? = some o := by
  rw [hb.block _ (by simp)]; exact heap_alloc_new w _
/-- a fraction's three cells are written -/
def put3 (w : World) (g : Nat) (x y z : Value) : World := ((w.setCell ⟨g, 0, none⟩ x).setCell ⟨g, 1, none⟩ y).setCell ⟨g, 2, none⟩ z
theorem put3_heap {w : World} {g : Nat} {a b c x y z : Value} {T : TypeId} (h : w.heap[g]? = some (.cells #[a, b, c] T)) : (put3 w g x y z).heap[g]? = some (.cells #[x, y, z] T) := by
  unfold put3 World.setCell
  simp [Array.getElem?_modify, h]
theorem put3_below {w0 w : World} {B g : Nat} (h : Below B w0 w) (hg : B ≤ g) (x y z : Value) : Below B w0 (put3 w g x y z) :=
  ((h.setCell hg x).setCell hg y).setCell hg z
theorem put3_num {w : World} {g : Nat} {v : Value} {l : List Nat} {x y z : Value} {a b c : Value} {T : TypeId} (hn : Num w v l) (h : w.heap[g]? = some (.cells #[a, b, c] T)) (ha : ∀ n : Int, a ≠ .int .u32 n) (hb : ∀ n : Int, b ≠ .int .u32 n) (hc : ∀ n : Int, c ≠ .int .u32 n) : Num (put3 w g x y z) v l := by
  obtain ⟨ao, k, rfl, h1, h2, h3, h4, h5⟩ := hn
  refine ⟨ao, k, rfl, h1, h2, h3, ?_, h5⟩
  intro b' off s hs
  obtain ⟨k1, k2⟩ := h4 b' off s hs
  have hsz : (put3 w g x y z).heap.size = w.heap.size := by simp [put3, World.setCell]
  refine ⟨fun h0 => by rw [hsz]; exact k1 h0, fun j hj => ?_⟩
  by_cases he : b' = g
  · subst he
    have := k2 j hj
    rw [cell_of_row w b' (off + j) _ _ _ h] at this
    have hsz3 : off + j < 3 := by
      have := (Array.getElem?_eq_some_iff.1 this).1; simpa using this
    have e : off + j = 0 ∨ off + j = 1 ∨ off + j = 2 := by omega
    rcases e with e | e | e <;> rw [e] at this <;> simp at this
    · exact absurd this (ha _)
    · exact absurd this (hb _)
    · exact absurd this (hc _)
  · rw [← k2 j hj]
    unfold World.cell?
    have e : (put3 w g x y z).heap[b']? = w.heap[b']? := by
      unfold put3
      rw [Below.heap_setCell _ _ _ _ he, Below.heap_setCell _ _ _ _ he, Below.heap_setCell _ _ _ _ he]
    simp only [e]
theorem rat_info : (Tryz.prog.info? 24).map (·.size) = some 3 := by kernel_rfl
/-- a function that hands back a fraction in a variable of its own -/
theorem ret_rat {fn : Func} {R : Ending → World → Prop} {a : Act} {w : World} {p : Tmp} (h : fn.results = #[.cell p 24]) (g : Nat) (x y z : Value)
    (hp : a.tmps.getD p undef = .pointer (some ⟨g, 0, none⟩)) (hg : w.heap[g]? = some (.cells #[x, y, z] 24)) (hd : a.defers = []) (hR : R (.returned (.agg #[x, y, z])) w) : bodyPost Tryz.prog fn R .ret a w :=
  bodyPost_ret (results_cell_row h a.tmps w g 24 _ _ _ hp hg Tryz.underlying24 rfl rat_info) hd hR
/-- .. and an error (or its number) -/
theorem ret_rat2 {fn : Func} {R : Ending → World → Prop} {a : Act} {w : World} {p u : Tmp} (h : fn.results = #[.cell p 24, .tmp u]) (g : Nat) (x y z : Value)
    (hp : a.tmps.getD p undef = .pointer (some ⟨g, 0, none⟩)) (hg : w.heap[g]? = some (.cells #[x, y, z] 24)) (hd : a.defers = []) (hR : R (.returned (.tuple #[.agg #[x, y, z], a.tmps.getD u undef])) w) : bodyPost Tryz.prog fn R .ret a w := by
  refine bodyPost_ret (v := .tuple #[.agg #[x, y, z], a.tmps.getD u undef]) ?_ hd hR
  rw [results_cell_tmp h, hp]
  simp only [asAddr, Sem.run_pure, Result.andThen, run_loadVar_row w g 24 24 _ _ _ hg Tryz.underlying24 rfl rat_info]

set_option maxRecDepth 100000 in
set_option maxHeartbeats 3200000 in
theorem form_any (s : Bool) (vn vd : Value) (a b : List Nat) (w : World) (ha : Num w vn a) (hb : Num w vd b) (hla : a.length ≤ 400000) (hlb : b.length ≤ 400000) (hd : val b ≠ 0) :
    Calls Tryz.prog 84 #[.bool s, vn, vd] w (RetR w (qm s (val a) (val b))) := by
  have hbx : Below w.heap.size w (w.alloc (.cells #[.bool false, .slice none 0 0, .slice none 0 0] 24)) := (Below.refl _ _).alloc (Nat.le_refl _) _
  have hbits := bits_any vn a _ (ha.below hbx) (by omega)
  have HBX := Lib.hid hbx
  by_cases h0 : val a = 0
  · rw [h0, blen_zero] at hbits
    rw [h0, qm_zero]
    have HB := Lib.hid hbits; clear hbits h0 ha hb hbx
    go_enter Tryz.func84, Tryz.ntmps84
    go_wp2_with fail
    (with_reducible refine HB.out.mono ?_); rintro e w1 ⟨rfl, rfl⟩
    go_wp2_with fail
    refine ret_rat rfl w.heap.size _ _ _ rfl (heap_alloc_new w _) rfl ?_
    exact ⟨_, rfl, HBX.out, isR_zero _⟩
  · have hz : ((blen (val a) : Int) == 0) = false := by
      rw [beq_eq_false_iff_ne]; have := blen_pos.2 h0; omega
    have hgd := gcd_any vn vd a b _ (ha.below hbx) (hb.below hbx) (by omega) (by omega)
    obtain ⟨bl, hbl⟩ : ∃ bl, bl = blen (val a) := ⟨_, rfl⟩
    rw [← hbl] at hbits hz
    have hl1 := wd_length_le ha.lt
    have hl2 := wd_length_le hb.lt
    have hgl : (wd (Nat.gcd (val a) (val b))).length ≤ 400000 := by
      have h3 := wd_length_mono (Nat.le_of_dvd (Nat.pos_of_ne_zero h0) (Nat.gcd_dvd_left (val a) (val b)))
      omega
    have hg0 : Nat.gcd (val a) (val b) ≠ 0 := fun h => h0 (Nat.eq_zero_of_gcd_eq_zero_left h)
    have hR : ng (qm s (val a) (val b)) = s ∧ nn (qm s (val a) (val b)) = val a / Nat.gcd (val a) (val b) ∧ dn (qm s (val a) (val b)) = val b / Nat.gcd (val a) (val b) :=
      ⟨ng_qm hd h0, nn_qm hd, dn_qm hd h0⟩
    obtain ⟨q, hq⟩ : ∃ q, q = qm s (val a) (val b) := ⟨_, rfl⟩
    rw [← hq] at hR ⊢
    obtain ⟨g, hg⟩ : ∃ g, g = Nat.gcd (val a) (val b) := ⟨_, rfl⟩
    rw [← hg] at hgd hgl hg0 hR
    have HR := Lib.hid hR; have HBI := Lib.hid hbits; have HGD := Lib.hid hgd; have HA := Lib.hid (ha.below hbx); have HB := Lib.hid (hb.below hbx); have HG0 := Lib.hid hg0
    clear hR hbits hgd ha hb hg0 hg hq hbl hbx h0
    go_enter Tryz.func84, Tryz.ntmps84
    go_wp2_with fail
    (with_reducible refine HBI.out.mono ?_); rintro e w1 ⟨rfl, rfl⟩
    go_wp2_with fail
    (with_reducible refine HGD.out.mono ?_); rintro e w1 ⟨v1, l1, rfl, hb1, hn1, rfl⟩
    have hd1 := div_any vn v1 a _ w1 (HA.out.below hb1) hn1 (by omega) (by omega) (by rw [val_wd]; exact HG0.out)
    rw [val_wd, errV_zero] at hd1
    have HD1 := Lib.hid hd1; have HB1 := Lib.hid hb1; have HN1 := Lib.hid hn1
    clear hd1 hn1
    go_wp2_with fail
    (with_reducible refine HD1.out.mono ?_); rintro e w2 ⟨v2, u2, rfl, hb2, hn2, _⟩
    have hd2 := div_any vd v1 b _ w2 ((HB.out.below hb1).below hb2) (HN1.out.below hb2) (by omega) (by omega) (by rw [val_wd]; exact HG0.out)
    rw [val_wd, errV_zero] at hd2
    have HD2 := Lib.hid hd2; have HB2 := Lib.hid (HB1.out.step hb2); have HN2 := Lib.hid hn2
    clear hd2 hn2 hb1
    go_wp2_with fail
    (with_reducible refine HD2.out.mono ?_); rintro e w3 ⟨v3, u3, rfl, hb3, hn3, _⟩
    have HB3 := Lib.hid (HB2.out.step hb3); have HN2 := Lib.hid (HN2.out.below hb3); have HN3 := Lib.hid hn3
    clear hn3 hb2
    obtain ⟨o2, k2, rfl, _, _, _⟩ := HN2.out.shape
    obtain ⟨o3, k3, rfl, _, _, _⟩ := HN3.out.shape
    have f0 := frozen_kept HB3.out 0
    have f1 := frozen_kept HB3.out 1
    have f2 := frozen_kept HB3.out 2
    have c0 : w3.cell? ⟨w.heap.size, 0, none⟩ = some (.bool false) := box_kept HB3.out 0
    have c1 : w3.cell? ⟨w.heap.size, 1, none⟩ = some (.slice none 0 0) := box_kept HB3.out 1
    have c2 : w3.cell? ⟨w.heap.size, 2, none⟩ = some (.slice none 0 0) := box_kept HB3.out 2
    have hh := heap_kept HB3.out
    have HH := Lib.hid hh; clear hh
    go_wp2_with fail
    refine ret_rat rfl w.heap.size _ _ _ rfl (put3_heap HH.out) rfl ?_
    refine ⟨_, rfl, put3_below (HBX.out.trans (HB3.out.mono (by simp))) (Nat.le_refl _) _ _ _, ?_⟩
    obtain ⟨e1, e2, e3⟩ := HR.out
    unfold IsR
    rw [e1, e2, e3]
    exact ⟨_, _, rfl, put3_num HN2.out HH.out (fun _ h => by cases h) (fun _ h => by cases h) (fun _ h => by cases h), put3_num HN3.out HH.out (fun _ h => by cases h) (fun _ h => by cases h) (fun _ h => by cases h)⟩
end Go.Proofs.YtkedjammeoaciaaGreatDoor
/-
  The reference's Valid, Parts, From: what they hand back.
  Conditions: each theorem's own.
-/
namespace Go.Proofs.YtkedjammeoaciaaGreatDoor
open Go.RowKit Go.ChangeShapes Go.WideShapes

theorem blen_one_iff (g : Nat) : blen g = 1 ↔ g = 1 := by
  constructor
  · intro h
    have h0 : g ≠ 0 := fun e => by rw [e, blen_zero] at h; cases h
    have h1 := lt_two_blen g
    rw [h] at h1
    have : (2 : Nat) ^ 1 = 2 := rfl
    omega
  · intro h; subst h; decide
/-- what the reference's Valid reads -/
theorem vld_tops {s : Bool} {a b : List Nat} (ha : 0 < a.length) (hb : 0 < b.length) : Vld s a b ↔ gd a (a.length - 1) ≠ 0 ∧ gd b (b.length - 1) ≠ 0 ∧ Nat.gcd (val a) (val b) = 1 := by
  have na : a ≠ [] := fun e => by rw [e] at ha; simp at ha
  have nb : b ≠ [] := fun e => by rw [e] at hb; simp at hb
  rw [vld_parts (fun h => na h.1)]
  unfold Clean
  constructor
  · rintro ⟨⟨_, h1⟩, ⟨_, h2⟩, h3⟩
    exact ⟨h1.resolve_left na, h2.resolve_left nb, h3⟩
  · rintro ⟨h1, h2, h3⟩
    exact ⟨⟨na, .inr h1⟩, ⟨nb, .inr h2⟩, h3⟩
theorem vld_half {s : Bool} {a b : List Nat} (h : a = [] ∧ b ≠ [] ∨ a ≠ [] ∧ b = []) : ¬ Vld s a b := by
  rintro (⟨h1, h2, _⟩ | ⟨h1, h2, _⟩)
  · rcases h with ⟨_, h⟩ | ⟨h, _⟩
    · exact h h2
    · exact h h1
  · rcases h with ⟨h, _⟩ | ⟨_, h⟩
    · exact h1 h
    · exact h2 h

set_option maxRecDepth 100000 in
set_option maxHeartbeats 3200000 in
theorem rvalid_any (v : Value) (s : Bool) (a b : List Nat) (w : World) (h : RatV w v s a b) (hla : a.length ≤ 400000) (hlb : b.length ≤ 400000) :
    Calls Tryz.prog 94 #[v] w (RetV w (.bool (decide (Vld s a b)))) := by
  obtain ⟨va, vb, rfl, ha, hb⟩ := h
  obtain ⟨ao, ca, rfl, hca, hca2, _⟩ := ha.shape
  obtain ⟨bo, cb, rfl, hcb, hcb2, _⟩ := hb.shape
  have hbx : Below w.heap.size w (w.alloc (.cells #[.bool s, .slice ao a.length ca, .slice bo b.length cb] 24)) := (Below.refl _ _).alloc (Nat.le_refl _) _
  have HBX := Lib.hid hbx
  by_cases h1 : a.length = 0
  · obtain rfl := List.eq_nil_of_length_eq_zero h1
    by_cases h2 : b.length = 0
    · obtain rfl := List.eq_nil_of_length_eq_zero h2
      have e : decide (Vld s [] []) = !s := by cases s <;> rfl
      rw [e]
      clear ha hb e hbx h1 h2
      go_enter Tryz.func94, Tryz.ntmps94
      go_wp2_with fail
      go_quiet (fail)
      go_wp2_with fail
      go_ret
      exact ⟨rfl, below_drewN HBX.out _⟩
    · have hd : decide (Vld s [] b) = false := decide_eq_false (vld_half (.inl ⟨rfl, fun e => h2 (by rw [e]; rfl)⟩))
      rw [hd]
      have f1 : ((b.length : Int) == 0) = false := by rw [beq_eq_false_iff_ne]; omega
      clear ha hb hbx h1 h2 hd
      go_enter Tryz.func94, Tryz.ntmps94
      go_wp2_with fail
      go_quiet (fail)
      go_wp2_with fail
      go_ret
      exact ⟨rfl, below_drewN HBX.out _⟩
  · have f0 : ((a.length : Int) == 0) = false := by rw [beq_eq_false_iff_ne]; omega
    by_cases h2 : b.length = 0
    · obtain rfl := List.eq_nil_of_length_eq_zero h2
      have hd : decide (Vld s a []) = false := decide_eq_false (vld_half (.inr ⟨fun e => h1 (by rw [e]; rfl), rfl⟩))
      rw [hd]
      clear ha hb hbx h1 h2 hd
      go_enter Tryz.func94, Tryz.ntmps94
      go_wp2_with fail
      go_quiet (fail)
      go_wp2_with fail
      go_ret
      exact ⟨rfl, below_drewN HBX.out _⟩
    · have f1 : ((b.length : Int) == 0) = false := by rw [beq_eq_false_iff_ne]; omega
      have hd : decide (Vld s a b) = decide (gd a (a.length - 1) ≠ 0 ∧ gd b (b.length - 1) ≠ 0 ∧ Nat.gcd (val a) (val b) = 1) := decide_eq_decide.2 (vld_tops (by omega) (by omega))
      rw [hd]
      have HA := Lib.hid (ha.below hbx); have HB := Lib.hid (hb.below hbx)
      obtain ⟨ba, fa, rfl, _, hca'⟩ := ha.at (by omega)
      obtain ⟨bb, fb, rfl, _, hcb'⟩ := hb.at (by omega)
      have hxl := ha.lt (a.length - 1)
      have hyl := hb.lt (b.length - 1)
      have hxc : ∀ n, ((w.alloc (.cells #[.bool s, .slice (some ⟨ba, fa, none⟩) a.length ca, .slice (some ⟨bb, fb, none⟩) b.length cb] 24)).drewN n).cell? ⟨ba, fa + (a.length - 1), none⟩ = some (.int .u32 (gd a (a.length - 1) : Nat)) := fun n => by
        obtain ⟨b', o', e', _, h'⟩ := (((ha.below hbx).below (below_drewN (Below.refl _ _) n))).at (by omega)
        cases e'
        exact h' _ (by omega)
      have hyc : ∀ n, ((w.alloc (.cells #[.bool s, .slice (some ⟨ba, fa, none⟩) a.length ca, .slice (some ⟨bb, fb, none⟩) b.length cb] 24)).drewN n).cell? ⟨bb, fb + (b.length - 1), none⟩ = some (.int .u32 (gd b (b.length - 1) : Nat)) := fun n => by
        obtain ⟨b', o', e', _, h'⟩ := (((hb.below hbx).below (below_drewN (Below.refl _ _) n))).at (by omega)
        cases e'
        exact h' _ (by omega)
      obtain ⟨x, hx⟩ : ∃ x, x = gd a (a.length - 1) := ⟨_, rfl⟩
      obtain ⟨y, hy⟩ : ∃ y, y = gd b (b.length - 1) := ⟨_, rfl⟩
      rw [← hx] at hxc hxl
      rw [← hy] at hyc hyl
      rw [← hx, ← hy]
      have HXC := Lib.hid hxc; have HYC := Lib.hid hyc
      have hl1 := wd_length_le HA.out.lt
      have hg0 : x ≠ 0 → val a ≠ 0 := fun h e => by
        have := clean_eq HA.out.lt (.inr (by rw [← hx]; exact h))
        rw [e, wd_zero] at this; rw [this] at h1; simp at h1
      have HG0 := Lib.hid hg0
      clear ha hb hbx hd hx hy hca' hcb' hxc hyc hg0
      by_cases hx0 : x = 0
      · subst hx0
        have hd : decide ((0 : Nat) ≠ 0 ∧ y ≠ 0 ∧ Nat.gcd (val a) (val b) = 1) = false := decide_eq_false fun h => h.1 rfl
        rw [hd]
        clear hd
        go_enter Tryz.func94, Tryz.ntmps94
        go_wp2_with fail
        go_quiet (fail)
        have hxc := HXC.out nq; have hyc := HYC.out nq
        go_wp2_with fail
        go_ret
        exact ⟨rfl, below_drewN HBX.out _⟩
      · have fx : (bne (x : Int) 0) = true := by rw [bne_iff_ne]; omega
        by_cases hy0 : y = 0
        · subst hy0
          have hd : decide (x ≠ 0 ∧ (0 : Nat) ≠ 0 ∧ Nat.gcd (val a) (val b) = 1) = false := decide_eq_false fun h => h.2.1 rfl
          rw [hd]
          clear hd
          go_enter Tryz.func94, Tryz.ntmps94
          go_wp2_with fail
          go_quiet (fail)
          have hxc := HXC.out nq; have hyc := HYC.out nq
          go_wp2_with fail
          go_ret
          exact ⟨rfl, below_drewN HBX.out _⟩
        · have fy : (bne (y : Int) 0) = true := by rw [bne_iff_ne]; omega
          have hv0 := HG0.out hx0
          have hgl : (wd (Nat.gcd (val a) (val b))).length ≤ 400000 := by
            have h3 := wd_length_mono (Nat.le_of_dvd (Nat.pos_of_ne_zero hv0) (Nat.gcd_dvd_left (val a) (val b)))
            omega
          have hd : decide (x ≠ 0 ∧ y ≠ 0 ∧ Nat.gcd (val a) (val b) = 1) = decide (blen (Nat.gcd (val a) (val b)) = 1) := by
            rw [decide_eq_decide, blen_one_iff]; exact ⟨fun h => h.2.2, fun h => ⟨hx0, hy0, h⟩⟩
          rw [hd]
          have hg := fun n => rgcd_any _ _ _ _ _ (HA.out.below (below_drewN (Below.refl _ _) n)) (HB.out.below (below_drewN (Below.refl _ _) n)) (by omega) (by omega)
          obtain ⟨g, hge⟩ : ∃ g, g = Nat.gcd (val a) (val b) := ⟨_, rfl⟩
          rw [← hge] at hg hgl ⊢
          have HG := Lib.hid hg
          clear hd hge hg hv0 hx0 hy0
          go_enter Tryz.func94, Tryz.ntmps94
          go_wp2_with fail
          go_quiet (fail)
          have hxc := HXC.out nq; have hyc := HYC.out nq
          go_wp2_with fail
          (with_reducible refine (HG.out _).mono ?_); rintro e w1 ⟨v1, l1, rfl, hb1, hn1, rfl⟩
          have hbi := rbits_any _ _ w1 hn1 (by omega)
          rw [val_wd] at hbi
          obtain ⟨bl, hbl⟩ : ∃ bl, bl = blen g := ⟨_, rfl⟩
          rw [← hbl] at hbi
          have HBI := Lib.hid hbi; have HB1 := Lib.hid ((below_drewN HBX.out nq).step hb1); have HBL := Lib.hid hbl
          clear hbi hn1 hb1 hbl hxc hyc
          by_cases hb1 : bl = 1
          · subst hb1
            go_wp2_with fail
            (with_reducible refine HBI.out.mono ?_); rintro e w2 ⟨rfl, rfl⟩
            go_wp2_with fail
            go_ret
            exact ⟨by rw [decide_eq_true HBL.out.symm]; rfl, HB1.out⟩
          · have hbz : ((bl : Int) == 1) = false := by rw [beq_eq_false_iff_ne]; omega
            go_wp2_with fail
            (with_reducible refine HBI.out.mono ?_); rintro e w2 ⟨rfl, rfl⟩
            go_wp2_with fail
            go_ret
            exact ⟨by rw [decide_eq_false (fun e => hb1 (HBL.out.trans e))]; first | rfl | (simp; done) | (simp [hbz]; done), HB1.out⟩
end Go.Proofs.YtkedjammeoaciaaGreatDoor
/-
  The reference's Parts, From, and rational.From: what they hand back.
  Conditions: each theorem's own.
-/
namespace Go.Proofs.YtkedjammeoaciaaGreatDoor
open Go.RowKit Go.ChangeShapes Go.WideShapes

theorem num_one1 (w : World) : Num (w.alloc (.cells #[.int .u32 1] 75)) (.slice (some ⟨w.heap.size, 0, none⟩) 1 1) (wd 1) := by
  rw [wd_one (by decide) (by decide)]; exact num_one w 75 1 (by decide)
theorem wd_one_len : (wd 1).length = 1 := by rw [wd_one (by decide) (by decide)]; rfl
/-- the number of the error of a denominator -/
def zc (d : Nat) : Nat := if d = 0 then 8 else 0
theorem qm_den0 (s : Bool) (n : Nat) : qm s n 0 = 0 := by unfold qm; rw [Rat.mkRat_zero]
set_option maxRecDepth 100000 in
set_option maxHeartbeats 1600000 in
theorem rparts_any (v : Value) (q : Rat) (w : World) (h : RatIs w v q) :
    Calls Tryz.prog 78 #[v] w (RetParts w q) := by
  obtain ⟨s, a, b, hv, rfl, hla, hlb⟩ := h
  obtain ⟨va, vb, rfl, ha, hb⟩ := hv
  obtain ⟨ao, ca, rfl, hca, hca2, _⟩ := ha.shape
  obtain ⟨bo, cb, rfl, hcb, hcb2, _⟩ := hb.shape
  have hbx : Below w.heap.size w (w.alloc (.cells #[.bool s, .slice ao a.length ca, .slice bo b.length cb] 24)) := (Below.refl _ _).alloc (Nat.le_refl _) _
  have hvl := rvalid_any _ s a b _ (⟨_, _, rfl, ha.below hbx, hb.below hbx⟩ : RatV (w.alloc (.cells #[.bool s, .slice ao a.length ca, .slice bo b.length cb] 24)) _ s a b) (by omega) (by omega)
  by_cases h0 : rq s a b = 0
  · rw [h0]
    have hbad : decide (Vld s a b) = false ∨ decide (Vld s a b) = true ∧ a.length = 0 := by
      by_cases hv : Vld s a b
      · right
        obtain ⟨_, e, _⟩ := vld_fields ha.lt hb.lt hv
        rw [h0, nn_zero, wd_zero] at e
        exact ⟨decide_eq_true hv, by rw [e]; rfl⟩
      · left; exact decide_eq_false hv
    have HBX := Lib.hid hbx; clear hbx h0
    rcases hbad with hd | ⟨hd, hl⟩
    · rw [hd] at hvl
      have HV := Lib.hid hvl; clear hvl hd ha hb
      go_enter Tryz.func78, Tryz.ntmps78
      go_wp2_with fail
      (with_reducible refine HV.out.mono ?_); rintro e w1 ⟨rfl, hb1⟩
      go_wp2_with fail
      go_ret3
      exact ⟨_, _, rfl, (HBX.out.step hb1).alloc (HBX.out.step hb1).size _, by rw [nn_zero, wd_zero]; exact Num.nil _, num_one1 _⟩
    · rw [hd] at hvl
      have c1 := fun w1 (h : Below _ _ w1) => box_kept (w := w) (cs := #[.bool s, .slice ao a.length ca, .slice bo b.length cb]) (T := 24) (w1 := w1) h 1
      have C1 := Lib.hid c1
      have HV := Lib.hid hvl; have HL := Lib.hid hl; clear hvl hd c1 ha hb hl
      go_enter Tryz.func78, Tryz.ntmps78
      go_wp2_with fail
      (with_reducible refine HV.out.mono ?_); rintro e w1 ⟨rfl, hb1⟩
      have c1 : w1.cell? ⟨w.heap.size, 1, none⟩ = some (.slice ao a.length ca) := C1.out w1 hb1
      rw [HL.out] at c1
      go_wp2_with fail
      go_ret3
      exact ⟨_, _, rfl, (HBX.out.step hb1).alloc (HBX.out.step hb1).size _, by rw [nn_zero, wd_zero]; exact Num.nil _, num_one1 _⟩
  · have hv : Vld s a b := Decidable.byContradiction fun h => h0 (rq_invalid h)
    obtain ⟨e1, e2, e3⟩ := vld_fields ha.lt hb.lt hv
    rw [dn_pos h0] at e3
    have hl : ((a.length : Int) == 0) = false := by
      rw [beq_eq_false_iff_ne]
      intro h
      have : a = [] := List.eq_nil_of_length_eq_zero (by omega)
      rw [e2] at this
      exact wd_ne (fun e => h0 (nn_eq_zero.1 e)) this
    rw [decide_eq_true hv] at hvl
    have HE := Lib.hid (And.intro e1 (And.intro e2 e3)); have HBX := Lib.hid hbx; have HA := Lib.hid (ha.below hbx); have HB := Lib.hid (hb.below hbx); have HV := Lib.hid hvl
    have bk := fun w1 (h : Below _ _ w1) j => box_kept (w := w) (cs := #[.bool s, .slice ao a.length ca, .slice bo b.length cb]) (T := 24) (w1 := w1) h j
    have BK := Lib.hid bk
    clear e1 e2 e3 hbx ha hb hv hvl bk h0
    go_enter Tryz.func78, Tryz.ntmps78
    go_wp2_with fail
    (with_reducible refine HV.out.mono ?_); rintro e w1 ⟨rfl, hb1⟩
    have c0 : w1.cell? ⟨w.heap.size, 0, none⟩ = some (.bool s) := BK.out w1 hb1 0
    have c1 : w1.cell? ⟨w.heap.size, 1, none⟩ = some (.slice ao a.length ca) := BK.out w1 hb1 1
    have c2 : w1.cell? ⟨w.heap.size, 2, none⟩ = some (.slice bo b.length cb) := BK.out w1 hb1 2
    go_wp2_with fail
    go_quiet (fail)
    go_wp2_with fail
    go_ret3
    obtain ⟨e1, e2, e3⟩ := HE.out
    refine ⟨.slice ao a.length ca, .slice bo b.length cb, by rw [← e1]; rfl, below_drewN (HBX.out.step hb1) _, ?_, ?_⟩
    · rw [← e2]; exact (HA.out.below hb1).below (below_drewN (Below.refl _ _) _)
    · rw [← e3]; exact (HB.out.below hb1).below (below_drewN (Below.refl _ _) _)
set_option maxRecDepth 100000 in
set_option maxHeartbeats 3200000 in
theorem rfrom_ok (s : Bool) (vn vd : Value) (a b : List Nat) (w : World) (ha : Num w vn a) (hb : Num w vd b) (hla : a.length ≤ 400000) (hlb : b.length ≤ 400000) (hd : val b ≠ 0) :
    Calls Tryz.prog 87 #[.bool s, vn, vd] w (RetRE w (qm s (val a) (val b)) (.int .i64 0)) := by
  have hbx : Below w.heap.size w (w.alloc (.cells #[.bool false, .slice none 0 0, .slice none 0 0] 24)) := (Below.refl _ _).alloc (Nat.le_refl _) _
  have hbits := rbits_any vn a _ (ha.below hbx) (by omega)
  have hbd := rbits_any vd b _ (hb.below hbx) (by omega)
  have hdz : ((blen (val b) : Int) == 0) = false := by
    rw [beq_eq_false_iff_ne]; have := blen_pos.2 hd; omega
  obtain ⟨bd, hbde⟩ : ∃ bd, bd = blen (val b) := ⟨_, rfl⟩
  rw [← hbde] at hbd hdz
  have HBD := Lib.hid hbd
  clear hbde hbd
  have HBX := Lib.hid hbx
  by_cases h0 : val a = 0
  · rw [h0, blen_zero] at hbits
    rw [h0, qm_zero]
    have HB := Lib.hid hbits; clear hbits h0 ha hb hbx
    go_enter Tryz.func87, Tryz.ntmps87
    go_wp2_with fail
    (with_reducible refine HBD.out.mono ?_); rintro e w1 ⟨rfl, rfl⟩
    go_wp2_with fail
    (with_reducible refine HB.out.mono ?_); rintro e w1 ⟨rfl, rfl⟩
    go_wp2_with fail
    refine ret_rat2 rfl w.heap.size _ _ _ rfl (heap_alloc_new w _) rfl ?_
    exact ⟨_, rfl, HBX.out, isR_zero _⟩
  · have hz : ((blen (val a) : Int) == 0) = false := by
      rw [beq_eq_false_iff_ne]; have := blen_pos.2 h0; omega
    have hgd := rgcd_any vn vd a b _ (ha.below hbx) (hb.below hbx) (by omega) (by omega)
    obtain ⟨bl, hbl⟩ : ∃ bl, bl = blen (val a) := ⟨_, rfl⟩
    rw [← hbl] at hbits hz
    have hl1 := wd_length_le ha.lt
    have hl2 := wd_length_le hb.lt
    have hgl : (wd (Nat.gcd (val a) (val b))).length ≤ 400000 := by
      have h3 := wd_length_mono (Nat.le_of_dvd (Nat.pos_of_ne_zero h0) (Nat.gcd_dvd_left (val a) (val b)))
      omega
    have hg0 : Nat.gcd (val a) (val b) ≠ 0 := fun h => h0 (Nat.eq_zero_of_gcd_eq_zero_left h)
    have hR : ng (qm s (val a) (val b)) = s ∧ nn (qm s (val a) (val b)) = val a / Nat.gcd (val a) (val b) ∧ dn (qm s (val a) (val b)) = val b / Nat.gcd (val a) (val b) :=
      ⟨ng_qm hd h0, nn_qm hd, dn_qm hd h0⟩
    obtain ⟨q, hq⟩ : ∃ q, q = qm s (val a) (val b) := ⟨_, rfl⟩
    rw [← hq] at hR ⊢
    obtain ⟨g, hg⟩ : ∃ g, g = Nat.gcd (val a) (val b) := ⟨_, rfl⟩
    rw [← hg] at hgd hgl hg0 hR
    have HR := Lib.hid hR; have HBI := Lib.hid hbits; have HGD := Lib.hid hgd; have HA := Lib.hid (ha.below hbx); have HB := Lib.hid (hb.below hbx); have HG0 := Lib.hid hg0
    clear hR hbits hgd ha hb hg0 hg hq hbl hbx h0
    go_enter Tryz.func87, Tryz.ntmps87
    go_wp2_with fail
    (with_reducible refine HBD.out.mono ?_); rintro e w1 ⟨rfl, rfl⟩
    go_wp2_with fail
    (with_reducible refine HBI.out.mono ?_); rintro e w1 ⟨rfl, rfl⟩
    go_wp2_with fail
    (with_reducible refine HGD.out.mono ?_); rintro e w1 ⟨v1, l1, rfl, hb1, hn1, rfl⟩
    have hd1 := rdiv_any vn v1 a _ w1 (HA.out.below hb1) hn1 (by omega) (by omega) (by rw [val_wd]; exact HG0.out)
    rw [val_wd] at hd1
    have HD1 := Lib.hid hd1; have HB1 := Lib.hid hb1; have HN1 := Lib.hid hn1
    clear hd1 hn1
    go_wp2_with fail
    (with_reducible refine HD1.out.mono ?_); rintro e w2 ⟨v2, u2, rfl, hb2, hn2, _⟩
    have hd2 := rdiv_any vd v1 b _ w2 ((HB.out.below hb1).below hb2) (HN1.out.below hb2) (by omega) (by omega) (by rw [val_wd]; exact HG0.out)
    rw [val_wd] at hd2
    have HD2 := Lib.hid hd2; have HB2 := Lib.hid (HB1.out.step hb2); have HN2 := Lib.hid hn2
    clear hd2 hn2 hb1
    go_wp2_with fail
    (with_reducible refine HD2.out.mono ?_); rintro e w3 ⟨v3, u3, rfl, hb3, hn3, _⟩
    have HB3 := Lib.hid (HB2.out.step hb3); have HN2 := Lib.hid (HN2.out.below hb3); have HN3 := Lib.hid hn3
    clear hn3 hb2
    obtain ⟨o2, k2, rfl, _, _, _⟩ := HN2.out.shape
    obtain ⟨o3, k3, rfl, _, _, _⟩ := HN3.out.shape
    have f0 := frozen_kept HB3.out 0
    have f1 := frozen_kept HB3.out 1
    have f2 := frozen_kept HB3.out 2
    have c0 : w3.cell? ⟨w.heap.size, 0, none⟩ = some (.bool false) := box_kept HB3.out 0
    have c1 : w3.cell? ⟨w.heap.size, 1, none⟩ = some (.slice none 0 0) := box_kept HB3.out 1
    have c2 : w3.cell? ⟨w.heap.size, 2, none⟩ = some (.slice none 0 0) := box_kept HB3.out 2
    have hh := heap_kept HB3.out
    have HH := Lib.hid hh; clear hh
    go_wp2_with fail
    refine ret_rat2 rfl w.heap.size _ _ _ rfl (put3_heap HH.out) rfl ?_
    refine ⟨_, rfl, put3_below (HBX.out.trans (HB3.out.mono (by simp))) (Nat.le_refl _) _ _ _, ?_⟩
    obtain ⟨e1, e2, e3⟩ := HR.out
    unfold IsR
    rw [e1, e2, e3]
    exact ⟨_, _, rfl, put3_num HN2.out HH.out (fun _ h => by cases h) (fun _ h => by cases h) (fun _ h => by cases h), put3_num HN3.out HH.out (fun _ h => by cases h) (fun _ h => by cases h) (fun _ h => by cases h)⟩
set_option maxRecDepth 100000 in
set_option maxHeartbeats 800000 in
theorem rfrom_zero (s : Bool) (vn vd : Value) (b : List Nat) (w : World) (hb : Num w vd b) (hlb : b.length ≤ 400000) (hd : val b = 0) :
    Calls Tryz.prog 87 #[.bool s, vn, vd] w (RetRE w 0 (.int .i64 8)) := by
  have hbx : Below w.heap.size w (w.alloc (.cells #[.bool false, .slice none 0 0, .slice none 0 0] 24)) := (Below.refl _ _).alloc (Nat.le_refl _) _
  have hbd := rbits_any vd b _ (hb.below hbx) (by omega)
  rw [hd, blen_zero] at hbd
  have HB := Lib.hid hbd; have HBX := Lib.hid hbx; clear hbd hd hb hbx
  go_enter Tryz.func87, Tryz.ntmps87
  go_wp2_with fail
  (with_reducible refine HB.out.mono ?_); rintro e w1 ⟨rfl, rfl⟩
  go_wp2_with fail
  refine ret_rat2 rfl w.heap.size _ _ _ rfl (heap_alloc_new w _) rfl ?_
  exact ⟨_, rfl, HBX.out, isR_zero _⟩
theorem rfrom_any (s : Bool) (vn vd : Value) (a b : List Nat) (w : World) (ha : Num w vn a) (hb : Num w vd b) (hla : a.length ≤ 400000) (hlb : b.length ≤ 400000) :
    Calls Tryz.prog 87 #[.bool s, vn, vd] w (RetRE w (qm s (val a) (val b)) (.int .i64 (zc (val b) : Nat))) := by
  unfold zc
  by_cases hd : val b = 0
  · rw [hd, if_pos rfl, qm_den0]; exact rfrom_zero s vn vd b w hb hlb hd
  · rw [if_neg hd]; exact rfrom_ok s vn vd a b w ha hb hla hlb hd
end Go.Proofs.YtkedjammeoaciaaGreatDoor
/-
  Contracts on numbers by what they stand for; a fraction's cells behind a call.
  Conditions: each theorem's own.
-/
namespace Go.Proofs.YtkedjammeoaciaaGreatDoor
open Go.RowKit Go.ChangeShapes Go.WideShapes

theorem heap_below {w w1 : World} {g : Nat} {o : Obj} (h : w.heap[g]? = some o) (hb : Below w.heap.size w w1) : w1.heap[g]? = some o := by
  rw [hb.block _ (Array.getElem?_eq_some_iff.1 h).1]; exact h
theorem row3 {w : World} {g : Nat} {x y z : Value} {T : TypeId} (h : w.heap[g]? = some (.cells #[x, y, z] T)) :
    w.cell? ⟨g, 0, none⟩ = some x ∧ w.cell? ⟨g, 1, none⟩ = some y ∧ w.cell? ⟨g, 2, none⟩ = some z :=
  ⟨cell_of_row _ _ _ _ _ _ h, cell_of_row _ _ _ _ _ _ h, cell_of_row _ _ _ _ _ _ h⟩
theorem froz3 {w : World} {g : Nat} {x y z : Value} {T : TypeId} (h : w.heap[g]? = some (.cells #[x, y, z] T)) :
    w.frozen? ⟨g, 0, none⟩ = false ∧ w.frozen? ⟨g, 1, none⟩ = false ∧ w.frozen? ⟨g, 2, none⟩ = false := by
  refine ⟨?_, ?_, ?_⟩ <;> simp [World.frozen?, h]
theorem RatIs.shape {w : World} {v : Value} {q : Rat} (h : RatIs w v q) : ∃ s ao n c bo m d, v = .agg #[.bool s, .slice ao n c, .slice bo m d] := by
  obtain ⟨s, a, b, ⟨va, vb, rfl, h1, h2⟩, _⟩ := h
  obtain ⟨ao, c, rfl, _⟩ := h1.shape
  obtain ⟨bo, d, rfl, _⟩ := h2.shape
  exact ⟨s, ao, _, c, bo, _, d, rfl⟩
theorem IsR.shape {w : World} {v : Value} {q : Rat} (h : IsR w v q) : ∃ s ao n c bo m d, v = .agg #[.bool s, .slice ao n c, .slice bo m d] := by
  obtain ⟨va, vb, rfl, h1, h2⟩ := h
  obtain ⟨ao, c, rfl, _⟩ := h1.shape
  obtain ⟨bo, d, rfl, _⟩ := h2.shape
  exact ⟨_, ao, _, c, bo, _, d, rfl⟩
/-- cells of a fraction hold no words -/
theorem ratV_put {w : World} {g : Nat} {v : Value} {s : Bool} {a b : List Nat} {x y z p q r : Value} {T : TypeId} (h : RatV w v s a b) (hg : w.heap[g]? = some (.cells #[p, q, r] T))
    (hp : ∀ n : Int, p ≠ .int .u32 n) (hq : ∀ n : Int, q ≠ .int .u32 n) (hr : ∀ n : Int, r ≠ .int .u32 n) : RatV (put3 w g x y z) v s a b := by
  obtain ⟨va, vb, rfl, h1, h2⟩ := h
  exact ⟨va, vb, rfl, put3_num h1 hg hp hq hr, put3_num h2 hg hp hq hr⟩
theorem isR_put {w : World} {g : Nat} {v : Value} {u : Rat} {x y z : Value} {s : Bool} {ao bo : Option Addr} {n c m d : Nat} {T : TypeId} (h : IsR w v u) (hg : w.heap[g]? = some (.cells #[.bool s, .slice ao n c, .slice bo m d] T)) : IsR (put3 w g x y z) v u :=
  ratV_put h hg (fun _ h => by cases h) (fun _ h => by cases h) (fun _ h => by cases h)
theorem ratIs_put {w : World} {g : Nat} {v : Value} {u : Rat} {x y z : Value} {s : Bool} {ao bo : Option Addr} {n c m d : Nat} {T : TypeId} (h : RatIs w v u) (hg : w.heap[g]? = some (.cells #[.bool s, .slice ao n c, .slice bo m d] T)) : RatIs (put3 w g x y z) v u := by
  obtain ⟨s', a, b, h1, h2⟩ := h
  exact ⟨s', a, b, ratV_put h1 hg (fun _ h => by cases h) (fun _ h => by cases h) (fun _ h => by cases h), h2⟩

section
variable {u v : Value} {m n : Nat} {w : World}
theorem addN (h1 : Num w u (wd m)) (h2 : Num w v (wd n)) (l1 : (wd m).length ≤ 400000) (l2 : (wd n).length ≤ 400000) : Calls Tryz.prog 83 #[u, v] w (RetN w (m + n)) := by
  have h := add_any u v _ _ w h1 h2 (by omega) (by omega)
  rw [val_wd, val_wd] at h; exact h.mono fun _ _ => RetNum.n
theorem raddN (h1 : Num w u (wd m)) (h2 : Num w v (wd n)) (l1 : (wd m).length ≤ 400000) (l2 : (wd n).length ≤ 400000) : Calls Tryz.prog 86 #[u, v] w (RetN w (m + n)) := by
  have h := radd_any u v _ _ w h1 h2 (by omega) (by omega)
  rw [val_wd, val_wd] at h; exact h.mono fun _ _ => RetNum.n
theorem mulN (h1 : Num w u (wd m)) (h2 : Num w v (wd n)) (l1 : (wd m).length ≤ 400000) (l2 : (wd n).length ≤ 400000) : Calls Tryz.prog 109 #[u, v] w (RetN w (m * n)) := by
  have h := mul_any u v _ _ w h1 h2 (by omega) (by omega)
  rw [val_wd, val_wd] at h; exact h.mono fun _ _ => RetNum.n
theorem rmulN (h1 : Num w u (wd m)) (h2 : Num w v (wd n)) (l1 : (wd m).length ≤ 400000) (l2 : (wd n).length ≤ 400000) : Calls Tryz.prog 110 #[u, v] w (RetN w (m * n)) := by
  have h := rmul_any u v _ _ w h1 h2 (by omega) (by omega)
  rw [val_wd, val_wd] at h; exact h.mono fun _ _ => RetNum.n
theorem cmpN_ (h1 : Num w u (wd m)) (h2 : Num w v (wd n)) (l1 : (wd m).length ≤ 400000) (l2 : (wd n).length ≤ 400000) : Calls Tryz.prog 74 #[u, v] w (RetV w (.int .i64 (cmpN m n))) := by
  have h := cmp_any u v _ _ w h1 h2 (by omega) (by omega)
  rw [val_wd, val_wd] at h; exact h
theorem rcmpN_ (h1 : Num w u (wd m)) (h2 : Num w v (wd n)) (l1 : (wd m).length ≤ 400000) (l2 : (wd n).length ≤ 400000) : Calls Tryz.prog 79 #[u, v] w (RetS w (.int .i64 (cmpN m n))) := by
  have h := rcmp_any u v _ _ w h1 h2 (by omega) (by omega)
  rw [val_wd, val_wd] at h; exact h
theorem subN (h1 : Num w u (wd m)) (h2 : Num w v (wd n)) (l1 : (wd m).length ≤ 400000) (l2 : (wd n).length ≤ 400000) (hle : n ≤ m) : Calls Tryz.prog 131 #[u, v] w (RetNE w (m - n) .nilIface) := by
  have h := sub_ge u v _ _ w h1 h2 (by omega) (by omega) (by rw [val_wd, val_wd]; exact hle)
  rw [val_wd, val_wd, errV_zero] at h; exact h
theorem rsubN (h1 : Num w u (wd m)) (h2 : Num w v (wd n)) (l1 : (wd m).length ≤ 400000) (l2 : (wd n).length ≤ 400000) (hle : n ≤ m) : Calls Tryz.prog 126 #[u, v] w (RetNE w (m - n) (.int .i64 0)) := by
  have h := rsub_ge u v _ _ w h1 h2 (by omega) (by omega) (by rw [val_wd, val_wd]; exact hle)
  rw [val_wd, val_wd] at h; exact h
theorem divN (h1 : Num w u (wd m)) (h2 : Num w v (wd n)) (l1 : (wd m).length ≤ 400000) (l2 : (wd n).length ≤ 400000) (h0 : n ≠ 0) : Calls Tryz.prog 82 #[u, v] w (RetDiv w (m / n) (m % n) .nilIface) := by
  have h := div_any u v _ _ w h1 h2 (by omega) (by omega) (by rw [val_wd]; exact h0)
  rw [val_wd, val_wd, errV_zero] at h; exact h
theorem rdivN (h1 : Num w u (wd m)) (h2 : Num w v (wd n)) (l1 : (wd m).length ≤ 400000) (l2 : (wd n).length ≤ 400000) (h0 : n ≠ 0) : Calls Tryz.prog 85 #[u, v] w (RetDiv w (m / n) (m % n) (.int .i64 0)) := by
  have h := rdiv_any u v _ _ w h1 h2 (by omega) (by omega) (by rw [val_wd]; exact h0)
  rw [val_wd, val_wd] at h; exact h
theorem formN (s : Bool) (h1 : Num w u (wd m)) (h2 : Num w v (wd n)) (l1 : (wd m).length ≤ 400000) (l2 : (wd n).length ≤ 400000) (h0 : n ≠ 0) : Calls Tryz.prog 84 #[.bool s, u, v] w (RetR w (qm s m n)) := by
  have h := form_any s u v _ _ w h1 h2 l1 l2 (by rw [val_wd]; exact h0)
  rw [val_wd, val_wd] at h; exact h
theorem rfromN (s : Bool) (h1 : Num w u (wd m)) (h2 : Num w v (wd n)) (l1 : (wd m).length ≤ 400000) (l2 : (wd n).length ≤ 400000) : Calls Tryz.prog 87 #[.bool s, u, v] w (RetRE w (qm s m n) (.int .i64 (zc n : Nat))) := by
  have h := rfrom_any s u v _ _ w h1 h2 l1 l2
  rw [val_wd, val_wd] at h; exact h
end
end Go.Proofs.YtkedjammeoaciaaGreatDoor
