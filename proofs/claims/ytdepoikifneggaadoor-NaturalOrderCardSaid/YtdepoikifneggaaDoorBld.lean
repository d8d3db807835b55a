/-
  strings.Builder: copyCheck and WriteString, walked at this dump (lines of the shelf's proofs turned to it); natural.nine.
  Conditions: each theorem's own.
-/
import Derived.Test.YtdepoikifneggaaDoorNat13
import Derived.Shelf.Strings.Builder1
import Derived.LoopN
import Derived.Handy
namespace Go.Proofs.YtdepoikifneggaaDoor
open Go.RowKit Go.ChangeShapes Go.WideShapes

theorem Tryd.sizeBuilder : (Tryd.prog.info? 75).map (·.size) = some 2 := by kernel_rfl
theorem Tryd.liesBuilder : liesAt Tryd.prog Tryd.prog.depth 75 (2 / Tryd.prog.cellsOf 75) 0 75 1 = true := by kernel_rfl
theorem Tryd.infoByte : (Tryd.prog.info? 5).map (fun i => (i.zero, i.size, i.bytes)) = some (some (.int .u8 0), 1, 1) := by kernel_rfl

set_option maxRecDepth 100000 in
set_option maxHeartbeats 1000000 in
theorem copyCheck_used (b : Nat) (w : World) (h0 : w.cell? ⟨b, 0, none⟩ = some (.pointer (some ⟨b, 0, none⟩))) :
    Calls Tryd.prog 66 #[.pointer (some ⟨b, 0, none⟩)] w fun e w' => e = .returned (.tuple #[]) ∧ w' = w := by
  obtain ⟨j, hj, _⟩ := Option.map_eq_some_iff.1 Tryd.sizeBuilder
  go_enter Tryd.func66, Tryd.ntmps66
  go_wp2
  rw [Lib.run_neq_ptr_same w _ Tryd.underlying73 hj]
  go_wp2
  go_end0
  exact ⟨rfl, rfl⟩

set_option maxRecDepth 100000 in
set_option maxHeartbeats 1000000 in
theorem copyCheck_fresh (b : Nat) (w : World) (h0 : w.cell? ⟨b, 0, none⟩ = some (.pointer none)) (hsh : w.shape? b = some (75, 2)) (hfz : w.frozen? ⟨b, 0, none⟩ = false) :
    Calls Tryd.prog 66 #[.pointer (some ⟨b, 0, none⟩)] w fun e w' => e = .returned (.tuple #[]) ∧ w' = w.setCell ⟨b, 0, none⟩ (.pointer (some ⟨b, 0, none⟩)) := by
  obtain ⟨j, hj, hjs⟩ := Option.map_eq_some_iff.1 Tryd.sizeBuilder
  go_enter Tryd.func66, Tryd.ntmps66
  go_wp2
  rw [Lib.run_to_unsafe w ⟨b, 0, none⟩ Tryd.underlying73 Tryd.underlying89 hj (by rw [hjs]; decide) hsh (Nat.zero_lt_succ 1)]
  simp only [Result.andThen]
  rw [Oper.upon_value]
  go_wp2
  rw [run_callFunc_extern Tryd.func71 (by kernel_rfl) (by kernel_rfl) (by kernel_rfl) (e := Extern.AbiNoEscape.same) (by kernel_rfl)]
  rw [Lib.run_noEscape]
  simp only [Result.andThen]
  rw [Oper.upon_value]
  go_wp2
  rw [Lib.run_from_unsafe w ⟨b, 0, none⟩ Tryd.underlying89 Tryd.underlying73 hj hsh Tryd.liesBuilder]
  simp only [Result.andThen]
  rw [Oper.upon_value]
  go_wp2
  go_end0
  exact ⟨rfl, rfl⟩

theorem copyCheck_any (B b : Nat) (bs : List Value) (w : World) (h : Lib.IsBuilder 75 5 B b bs w) :
    Calls Tryd.prog 66 #[.pointer (some ⟨b, 0, none⟩)] w fun e w' => e = .returned (.tuple #[]) ∧ (Lib.BuilderAt 75 5 B b (.pointer (some ⟨b, 0, none⟩)) bs w' ∧ Below B w w') := by
  rcases h with h | h
  · refine (copyCheck_fresh b w h.cell0 h.shape h.frozen0).mono ?_
    rintro e w' ⟨rfl, rfl⟩
    exact ⟨rfl, h.used _, (Below.refl B w).setCell (p := ⟨b, 0, none⟩) h.1 _⟩
  · refine (copyCheck_used b w h.cell0).mono ?_
    rintro e w' ⟨rfl, rfl⟩
    exact ⟨rfl, h, Below.refl B _⟩

set_option maxRecDepth 100000 in
set_option maxHeartbeats 2000000 in
theorem writeString_any (B b : Nat) (bs : List Value) (s : ByteArray) (w : World) (h : Lib.IsBuilder 75 5 B b bs w) (hlen : bs.length + s.size ≤ 140737488355328) (hBw : B ≤ w.heap.size) :
    Calls Tryd.prog 63 #[.pointer (some ⟨b, 0, none⟩), .string s] w fun e w' => e = .returned (.tuple #[.int .i64 s.size, .nilIface]) ∧ (Lib.BuilderAt 75 5 B b (.pointer (some ⟨b, 0, none⟩)) (bs ++ Lib.strCells s) w' ∧ Below B w w') := by
  obtain ⟨i0, hi, hz0, hz1, hz2⟩ := info_parts Tryd.infoByte
  go_enter Tryd.func63, Tryd.ntmps63
  go_wp2_with fail
  (with_reducible refine (copyCheck_any B b bs _ h).mono ?_)
  rintro e w1 ⟨rfl, h1, hb1⟩
  obtain ⟨hB, v, hbk, hown, hne⟩ := h1
  have c0 : w1.cell? ⟨b, 0, none⟩ = some (.pointer (some ⟨b, 0, none⟩)) := by rw [Lib.cell_of_heap hbk]; rfl
  have c1 : w1.cell? ⟨b, 1, none⟩ = some v := by rw [Lib.cell_of_heap hbk]; rfl
  go_wp2_with (at_builtin; refine Lib.wpList_append_own_string _ rfl _ _ 70 9 rfl B 5 i0 Tryd.underlying70 Tryd.underlying9 hi hz0 hz1 hz2 _ _ _ rfl hown s rfl ?c3 ?c4 ?c5 ?_)
  case c3 => unfold maxLen; omega
  case c4 => omega
  case c5 => have := hb1.size; omega
  intro v' w2 hown' hgrow _
  have hlt : b < w1.heap.size := by
    rcases Nat.lt_or_ge b w1.heap.size with h' | h'
    · exact h'
    · simp [Array.getElem?_eq_none h'] at hbk
  have hb2 : w2.heap[b]? = some (.cells #[.pointer (some ⟨b, 0, none⟩), v] 75 (0, 0)) := by
    rw [hgrow.block b hlt (fun e => hne e.symm)]
    exact hbk
  have d0 : w2.cell? ⟨b, 0, none⟩ = some (.pointer (some ⟨b, 0, none⟩)) := by rw [Lib.cell_of_heap hb2]; rfl
  have d1 : w2.cell? ⟨b, 1, none⟩ = some v := by rw [Lib.cell_of_heap hb2]; rfl
  have f1 : w2.frozen? ⟨b, 1, none⟩ = false := Lib.frozen_of_heap hb2 1
  obtain ⟨ao, n', cap, rfl⟩ : ∃ ao n' cap, v' = .slice ao n' cap := by
    rcases hown'.2 with ⟨hv, _⟩ | ⟨g, cap, cur, hv, _⟩
    · exact ⟨_, _, _, hv⟩
    · exact ⟨_, _, _, hv⟩
  go_wp2
  go_ret2
  refine ⟨rfl, ?_, ?_⟩
  · exact Lib.BuilderAt.put (T := 75) (e := 5) hB hb2 (bs' := bs ++ Lib.strCells s) (by simpa [Lib.strCells_length] using hown') (by decide)
  · exact (hb1.grown hgrow (by have := hb1.size; omega) (fun k hk => (hown.lt k hk).1)).setCell (p := ⟨b, 1, none⟩) hB _

/-- a digit's byte -/
def digB (n : Nat) : UInt8 := UInt8.ofNat (48 + n % 10)
theorem digB_toNat (n : Nat) : (digB n).toNat = 48 + n % 10 := by
  unfold digB
  rw [UInt8.toNat_ofNat_of_lt' (by show 48 + n % 10 < 256; omega)]
/-- k digits of a number, the lowest first -/
def padD : Nat → Nat → List UInt8
  | 0, _ => []
  | k + 1, n => digB n :: padD k (n / 10)
/-- nine digits -/
def nineB (n : Nat) : ByteArray := ⟨((padD 9 n).reverse).toArray⟩

set_option maxRecDepth 100000 in
set_option maxHeartbeats 2000000 in
theorem nine_any (n : Nat) (w : World) (hn : n < 4294967296) :
    Calls Tryd.prog 62 #[.int .u32 n] w (RetV w (.string (nineB n))) := by
  have e : ∀ m : Nat, ((digB m).toNat : Int) = 48 + (m : Int) % 10 := fun m => by rw [digB_toNat]; omega
  have hl : (padD 9 n).reverse = [digB (n / 10 / 10 / 10 / 10 / 10 / 10 / 10 / 10), digB (n / 10 / 10 / 10 / 10 / 10 / 10 / 10), digB (n / 10 / 10 / 10 / 10 / 10 / 10), digB (n / 10 / 10 / 10 / 10 / 10), digB (n / 10 / 10 / 10 / 10), digB (n / 10 / 10 / 10), digB (n / 10 / 10), digB (n / 10), digB n] := rfl
  have hcv : ∀ T : TypeId, (convert 70 9 (.slice (some ⟨w.heap.size, 0, none⟩) 9 9)).run Tryd.prog
      (w.alloc (.cells #[.int .u8 (48 + (n : Int) / 10 / 10 / 10 / 10 / 10 / 10 / 10 / 10 % 10), .int .u8 (48 + (n : Int) / 10 / 10 / 10 / 10 / 10 / 10 / 10 % 10), .int .u8 (48 + (n : Int) / 10 / 10 / 10 / 10 / 10 / 10 % 10), .int .u8 (48 + (n : Int) / 10 / 10 / 10 / 10 / 10 % 10), .int .u8 (48 + (n : Int) / 10 / 10 / 10 / 10 % 10), .int .u8 (48 + (n : Int) / 10 / 10 / 10 % 10), .int .u8 (48 + (n : Int) / 10 / 10 % 10), .int .u8 (48 + (n : Int) / 10 % 10), .int .u8 (48 + (n : Int) % 10)] T)) =
      .ok (.string (nineB n)) (w.alloc (.cells #[.int .u8 (48 + (n : Int) / 10 / 10 / 10 / 10 / 10 / 10 / 10 / 10 % 10), .int .u8 (48 + (n : Int) / 10 / 10 / 10 / 10 / 10 / 10 / 10 % 10), .int .u8 (48 + (n : Int) / 10 / 10 / 10 / 10 / 10 / 10 % 10), .int .u8 (48 + (n : Int) / 10 / 10 / 10 / 10 / 10 % 10), .int .u8 (48 + (n : Int) / 10 / 10 / 10 / 10 % 10), .int .u8 (48 + (n : Int) / 10 / 10 / 10 % 10), .int .u8 (48 + (n : Int) / 10 / 10 % 10), .int .u8 (48 + (n : Int) / 10 % 10), .int .u8 (48 + (n : Int) % 10)] T)) := by
    intro T
    have h := run_convert_bytes_back (P := Tryd.prog) (w.alloc (.cells #[.int .u8 (48 + (n : Int) / 10 / 10 / 10 / 10 / 10 / 10 / 10 / 10 % 10), .int .u8 (48 + (n : Int) / 10 / 10 / 10 / 10 / 10 / 10 / 10 % 10), .int .u8 (48 + (n : Int) / 10 / 10 / 10 / 10 / 10 / 10 % 10), .int .u8 (48 + (n : Int) / 10 / 10 / 10 / 10 / 10 % 10), .int .u8 (48 + (n : Int) / 10 / 10 / 10 / 10 % 10), .int .u8 (48 + (n : Int) / 10 / 10 / 10 % 10), .int .u8 (48 + (n : Int) / 10 / 10 % 10), .int .u8 (48 + (n : Int) / 10 % 10), .int .u8 (48 + (n : Int) % 10)] T))
      70 9 5 ⟨w.heap.size, 0, none⟩ 9 (padD 9 n).reverse Tryd.underlying70 Tryd.underlying5 Tryd.underlying9 ?_
    · exact h
    · intro j hj
      have hj9 : j < 9 := by rw [hl] at hj; exact hj
      have ea : (⟨w.heap.size, 0, none⟩ : Addr).add j = ⟨w.heap.size, 0 + j, none⟩ := by unfold Addr.add; split <;> simp_all
      rw [ea, Nat.zero_add, cell_of_row _ w.heap.size j _ T (0, 0) (heap_alloc_new w _)]
      simp only [hl]
      match j, hj9 with
      | 0, _ => simp [e]
      | 1, _ => simp [e]
      | 2, _ => simp [e]
      | 3, _ => simp [e]
      | 4, _ => simp [e]
      | 5, _ => simp [e]
      | 6, _ => simp [e]
      | 7, _ => simp [e]
      | 8, _ => simp [e]
  have HCV := Lib.hid hcv
  clear hcv hl e
  go_enter Tryd.func62, Tryd.ntmps62
  go_wp2_with fail
  go_rounds 10
  rw [HCV.out]
  simp only [Result.andThen]
  rw [Oper.upon_value]
  go_wp2_with fail
  go_ret
  exact ⟨rfl, (Below.refl _ _).alloc (Nat.le_refl _) _⟩
end Go.Proofs.YtdepoikifneggaaDoor
