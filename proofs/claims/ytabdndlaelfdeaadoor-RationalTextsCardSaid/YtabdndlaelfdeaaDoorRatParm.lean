/-
  The reference's find and decimal: what they hand back.
  Conditions: each theorem's own.
-/
import Derived.Test.YtabdndlaelfdeaaDoorM7
namespace Go.Proofs.YtabdndlaelfdeaaDoor
open Go.RowKit Go.ChangeShapes Go.WideShapes

/-- the place of the first byte c, or -1 -/
def fnd (c : UInt8) (l : List UInt8) : Int := match cutL c l with | some p => (p.1.length : Int) | none => -1
theorem cutL_take {c : UInt8} {l : List UInt8} {k : Nat} (h : k < l.length) (hk : l[k] = c) (hn : c ∉ l.take k) : cutL c l = some (l.take k, l.drop (k + 1)) := by
  have e : l.take k ++ c :: l.drop (k + 1) = l := by
    rw [← hk, ← List.drop_eq_getElem_cons h, List.take_append_drop]
  have := cutL_at (b := l.drop (k + 1)) hn
  rwa [e] at this
theorem not_take_succ {c : UInt8} {l : List UInt8} {k : Nat} (h : k < l.length) (hk : l[k] ≠ c) (hn : c ∉ l.take k) : c ∉ l.take (k + 1) := by
  rw [List.take_succ_eq_append_getElem h]
  intro hm
  rcases List.mem_append.1 hm with hm | hm
  · exact hn hm
  · exact hk (List.mem_singleton.1 hm).symm
set_option maxRecDepth 100000 in
set_option maxHeartbeats 1600000 in
theorem rfind_any (c : UInt8) (cn : Int) (l : List UInt8) (w : World) (hc : cn = (c.toNat : Nat)) (hl : l.length ≤ 9223372036854775807) :
    Calls Tryd.prog 54 #[.string ⟨l.toArray⟩, .int .u8 cn] w (RetS w (.int .i64 (fnd c l))) := by
  obtain ⟨S, hS⟩ : ∃ S : ByteArray, S = ⟨l.toArray⟩ := ⟨_, rfl⟩
  have hsz : S.size = l.length := by rw [hS]; simp [ByteArray.size]
  have hix := run_index_l l
  rw [← hS] at hix ⊢
  have HIX := Lib.hid hix; have HC := Lib.hid hc
  obtain ⟨r, hr⟩ : ∃ r, r = fnd c l := ⟨_, rfl⟩
  rw [← hr]
  have HR := Lib.hid hr
  clear hix hc hS hr
  go_enter Tryd.func54, Tryd.ntmps54
  go_wp2_with fail
  go_loop [8] (fun iv => ∃ k : Nat, k ≤ l.length ∧ iv = .int .i64 k ∧ Hid (c ∉ l.take k)) (fun iv => l.length - (intOf iv).toNat)
  case atStart => exact ⟨0, Nat.zero_le _, rfl, Lib.hid (by simp)⟩
  case round =>
    obtain ⟨k, hk, rfl, hno⟩ := hrel
    by_cases hkn : k < l.length
    · have hf1 : decide ((k : Int) < (l.length : Int)) = true := decide_eq_true (by omega)
      have hix := HIX.out k hkn
      by_cases hx : l[k] = c
      · have hv : r = (k : Int) := by
          rw [HR.out]; unfold fnd; rw [cutL_take hkn hx hno.out]
          show ((l.take k).length : Int) = k
          rw [List.length_take]; omega
        have hb : (((l[k]).toNat : Int) == cn) = true := by rw [HC.out, hx]; simp
        obtain ⟨x, hxe⟩ : ∃ x, x = (l[k]).toNat := ⟨_, rfl⟩
        rw [← hxe] at hix hb
        have HV := Lib.hid hv; clear hv hx hxe
        go_wp2_with fail
        go_ret
        exact ⟨ret_int HV.out.symm, rfl⟩
      · have hb : (((l[k]).toNat : Int) == cn) = false := by
          rw [HC.out, beq_eq_false_iff_ne]; intro e; exact hx (UInt8.toNat_inj.1 (by omega))
        have HN := Lib.hid (not_take_succ hkn hx hno.out)
        obtain ⟨x, hxe⟩ : ∃ x, x = (l[k]).toNat := ⟨_, rfl⟩
        rw [← hxe] at hix hb
        clear hx hxe
        go_wp2_with fail
        go_round
        case rel => exact ⟨k + 1, by omega, by go_num, HN⟩
        case measure => simp [intOf]; omega
    · obtain rfl : k = l.length := by omega
      have hf1 : decide ((l.length : Int) < (l.length : Int)) = false := decide_eq_false (by omega)
      have hv : r = -1 := by
        have hn := hno.out
        rw [List.take_length] at hn
        rw [HR.out]; unfold fnd; rw [cutL_not hn]
      have HV := Lib.hid hv; clear hv
      go_wp2_with fail
      go_ret
      exact ⟨ret_int HV.out.symm, rfl⟩
theorem ten_len (k : Nat) : (wd (10 ^ k)).length ≤ k + 1 :=
  wd_length_of_lt (Nat.lt_of_le_of_lt (Nat.pow_le_pow_left (by decide) k) (Nat.pow_lt_pow_right (by decide) (Nat.lt_succ_self k)))
theorem run_from1 (x : UInt8) (m : List UInt8) (hm : m.length ≤ 9223372036854775806) (wx : World) : (Instr.slice 9 (.string ⟨(x :: m).toArray⟩) (some (.int .i64 1)) none none).run Tryd.prog wx = .ok (.string ⟨m.toArray⟩) wx := by
  obtain ⟨S, hS⟩ : ∃ S : ByteArray, S = ⟨(x :: m).toArray⟩ := ⟨_, rfl⟩
  have hsz : S.size = m.length + 1 := by rw [hS]; simp [ByteArray.size]
  rw [← hS, run_slice_string_from_if (P := Tryd.prog) wx 9 S .i64 1 Tryd.underlying9, if_pos (by omega)]
  have e : S.extract (1 : Int).toNat S.size = ⟨m.toArray⟩ := by rw [hsz, hS]; apply ByteArray.ext; simp [ByteArray.data_extract]
  rw [e]
theorem run_to (a b : List UInt8) (wx : World) : (Instr.slice 9 (.string ⟨(a ++ b).toArray⟩) none (some (.int .i64 (a.length : Int))) none).run Tryd.prog wx = .ok (.string ⟨a.toArray⟩) wx := by
  obtain ⟨S, hS⟩ : ∃ S : ByteArray, S = ⟨(a ++ b).toArray⟩ := ⟨_, rfl⟩
  have hsz : S.size = a.length + b.length := by rw [hS]; simp [ByteArray.size]
  rw [← hS, run_slice_string_to_if (P := Tryd.prog) wx 9 S .i64 a.length Tryd.underlying9, if_pos (by omega)]
  have e : S.extract 0 (a.length : Int).toNat = ⟨a.toArray⟩ := by rw [hS]; apply ByteArray.ext; simp [ByteArray.data_extract]
  rw [e]
theorem run_from (a : List UInt8) (c : UInt8) (b : List UInt8) (wx : World) : (Instr.slice 9 (.string ⟨(a ++ c :: b).toArray⟩) (some (.int .i64 ((a.length : Int) + 1))) none none).run Tryd.prog wx = .ok (.string ⟨b.toArray⟩) wx := by
  obtain ⟨S, hS⟩ : ∃ S : ByteArray, S = ⟨(a ++ c :: b).toArray⟩ := ⟨_, rfl⟩
  have hsz : S.size = a.length + (b.length + 1) := by rw [hS]; simp [ByteArray.size]
  rw [← hS, run_slice_string_from_if (P := Tryd.prog) wx 9 S .i64 _ Tryd.underlying9, if_pos (by omega)]
  have e : S.extract ((a.length : Int) + 1).toNat S.size = ⟨b.toArray⟩ := by
    rw [hsz, show ((a.length : Int) + 1).toNat = a.length + 1 by omega, hS]; apply ByteArray.ext
    simp [ByteArray.data_extract, List.extract_eq_take_drop]
    exact List.take_of_length_le (by omega)
  rw [e]
/-- what the reference's decimal comes to -/
def rdO (l : List UInt8) : Option Rat := match cutL 46 (preL 45 l).1 with | some p => dmV (preL 45 l).2 p.1 p.2 | none => none
set_option maxRecDepth 100000 in
set_option maxHeartbeats 6400000 in
theorem rdec_none_nil (l : List UInt8) (w : World)  (hl : l.length ≤ 300) (hlm : l = []) (hcut : cutL 46 l = none) :
    Calls Tryd.prog 53 #[.string ⟨l.toArray⟩] w (RetRE w 0 (.bool false)) := by
  have hb0 := ((Below.refl w.heap.size w).alloc (by first | (simp; done) | (simp; omega)) (.cells #[.bool false, .slice none 0 0, .slice none 0 0] 24))
  have hxR := nest1_0 w (.cells #[.bool false, .slice none 0 0, .slice none 0 0] 24)
  obtain ⟨w0, hw0⟩ : ∃ w0, w0 = (w.alloc (.cells #[.bool false, .slice none 0 0, .slice none 0 0] 24)) := ⟨_, rfl⟩
  rw [← hw0] at hb0 hxR
  have HB0 := Lib.hid hb0; have HW0 := Lib.hid hw0
  have BXR := Lib.hid hxR
  clear hb0 hw0 hxR
  obtain ⟨S, hS⟩ : ∃ S : ByteArray, S = ⟨l.toArray⟩ := ⟨_, rfl⟩
  have hsz : S.size = l.length := by rw [hS]; simp [ByteArray.size]
  have hfn : fnd 46 l = -1 := by unfold fnd; rw [hcut]
  have hfd := fun wx => rfind_any 46 46 l wx rfl (by omega)
  rw [hfn] at hfd
  subst hlm
  rw [hS] at hsz
  have HFD := Lib.hid hfd; clear hfd hfn hcut hS hsz
  go_enter Tryd.func53, Tryd.ntmps53
  have hs := HFD.out w0
  have HS := Lib.hid hs; clear hs
  go_wp2_with fail
  rw [← HW0.out]
  (with_reducible refine HS.out.mono ?_); rintro e wx ⟨rfl, rfl⟩
  clear HS
  obtain ⟨eR0, eR1, eR2⟩ := row3 BXR.out
  obtain ⟨fR0, fR1, fR2⟩ := froz3 BXR.out
  go_wp2_with fail
  clear eR0 eR1 eR2 fR0 fR1 fR2
  refine ret_rat2 rfl w.heap.size _ _ _ rfl (put3_heap BXR.out) rfl ?_
  exact ⟨_, rfl, put3_below HB0.out (by omega) _ _ _, isR_zero _⟩
set_option maxRecDepth 100000 in
set_option maxHeartbeats 6400000 in
theorem rdec_none_t (l : List UInt8) (w : World)  (hl : l.length ≤ 300) (m : List UInt8) (hlm : l = 45 :: m) (hcut : cutL 46 m = none) :
    Calls Tryd.prog 53 #[.string ⟨l.toArray⟩] w (RetRE w 0 (.bool false)) := by
  have hb0 := ((Below.refl w.heap.size w).alloc (by first | (simp; done) | (simp; omega)) (.cells #[.bool false, .slice none 0 0, .slice none 0 0] 24))
  have hxR := nest1_0 w (.cells #[.bool false, .slice none 0 0, .slice none 0 0] 24)
  obtain ⟨w0, hw0⟩ : ∃ w0, w0 = (w.alloc (.cells #[.bool false, .slice none 0 0, .slice none 0 0] 24)) := ⟨_, rfl⟩
  rw [← hw0] at hb0 hxR
  have HB0 := Lib.hid hb0; have HW0 := Lib.hid hw0
  have BXR := Lib.hid hxR
  clear hb0 hw0 hxR
  obtain ⟨S, hS⟩ : ∃ S : ByteArray, S = ⟨l.toArray⟩ := ⟨_, rfl⟩
  have hsz : S.size = l.length := by rw [hS]; simp [ByteArray.size]
  have hlm1 : l.length = m.length + 1 := by rw [hlm]; rfl
  have hne : S.toList.isEmpty = false := by rw [hS]; exact bytes_ne (by rw [hlm]; simp)
  have hi0 : ∀ wx : World, (Instr.index 9 (.string S) (.int .i64 0)).run Tryd.prog wx = .ok (.int .u8 45) wx := fun wx => by
    rw [hS]; subst hlm; exact run_index_l (45 :: m) 0 (by simp) wx
  obtain ⟨T, hT⟩ : ∃ T : ByteArray, T = ⟨m.toArray⟩ := ⟨_, rfl⟩
  have htz : T.size = m.length := by rw [hT]; simp [ByteArray.size]
  have hsl : ∀ wx : World, (Instr.slice 9 (.string S) (some (.int .i64 1)) none none).run Tryd.prog wx = .ok (.string T) wx := fun wx => by rw [hS, hT, hlm]; exact run_from1 45 m (by omega) wx
  have hfd := fun wx => rfind_any 46 46 m wx rfl (by omega)
  have hfn : fnd 46 m = -1 := by unfold fnd; rw [hcut]
  rw [hfn] at hfd
  rw [← hT] at hfd; rw [← hS]
  have HFD := Lib.hid hfd; clear hfd hfn hS hT hlm hcut
  go_enter Tryd.func53, Tryd.ntmps53
  have hs := HFD.out w0
  have HS := Lib.hid hs; clear hs
  go_wp2_with fail
  rw [← HW0.out]
  (with_reducible refine HS.out.mono ?_); rintro e wx ⟨rfl, rfl⟩
  clear HS
  obtain ⟨eR0, eR1, eR2⟩ := row3 BXR.out
  obtain ⟨fR0, fR1, fR2⟩ := froz3 BXR.out
  go_wp2_with fail
  clear eR0 eR1 eR2 fR0 fR1 fR2
  refine ret_rat2 rfl w.heap.size _ _ _ rfl (put3_heap BXR.out) rfl ?_
  exact ⟨_, rfl, put3_below HB0.out (by omega) _ _ _, isR_zero _⟩
set_option maxRecDepth 100000 in
set_option maxHeartbeats 6400000 in
theorem rdec_end_t (l : List UInt8) (w : World)  (hl : l.length ≤ 300) (m : List UInt8) (hlm : l = 45 :: m) (a b : List UInt8) (hcut : m = a ++ 46 :: b) (hcl : cutL 46 m = some (a, b)) (hb : b = []) :
    Calls Tryd.prog 53 #[.string ⟨l.toArray⟩] w (RetRE w 0 (.bool false)) := by
  have hb0 := ((Below.refl w.heap.size w).alloc (by first | (simp; done) | (simp; omega)) (.cells #[.bool false, .slice none 0 0, .slice none 0 0] 24))
  have hxR := nest1_0 w (.cells #[.bool false, .slice none 0 0, .slice none 0 0] 24)
  obtain ⟨w0, hw0⟩ : ∃ w0, w0 = (w.alloc (.cells #[.bool false, .slice none 0 0, .slice none 0 0] 24)) := ⟨_, rfl⟩
  rw [← hw0] at hb0 hxR
  have HB0 := Lib.hid hb0; have HW0 := Lib.hid hw0
  have BXR := Lib.hid hxR
  clear hb0 hw0 hxR
  obtain ⟨S, hS⟩ : ∃ S : ByteArray, S = ⟨l.toArray⟩ := ⟨_, rfl⟩
  have hsz : S.size = l.length := by rw [hS]; simp [ByteArray.size]
  have hlm1 : l.length = m.length + 1 := by rw [hlm]; rfl
  have hne : S.toList.isEmpty = false := by rw [hS]; exact bytes_ne (by rw [hlm]; simp)
  have hi0 : ∀ wx : World, (Instr.index 9 (.string S) (.int .i64 0)).run Tryd.prog wx = .ok (.int .u8 45) wx := fun wx => by
    rw [hS]; subst hlm; exact run_index_l (45 :: m) 0 (by simp) wx
  obtain ⟨T, hT⟩ : ∃ T : ByteArray, T = ⟨m.toArray⟩ := ⟨_, rfl⟩
  have htz : T.size = m.length := by rw [hT]; simp [ByteArray.size]
  have hsl : ∀ wx : World, (Instr.slice 9 (.string S) (some (.int .i64 1)) none none).run Tryd.prog wx = .ok (.string T) wx := fun wx => by rw [hS, hT, hlm]; exact run_from1 45 m (by omega) wx
  have hfd := fun wx => rfind_any 46 46 m wx rfl (by omega)
  have hfn : fnd 46 m = (a.length : Int) := by unfold fnd; rw [hcl]
  rw [hfn] at hfd
  have htl : m.length = a.length + (b.length + 1) := by rw [hcut]; simp
  have g1 : decide ((a.length : Int) < 0) = false := decide_eq_false (by omega)
  have hb0 : b.length = 0 := by rw [hb]; rfl
  have g2 : ((a.length : Int) == (m.length : Int) - 1) = true := by rw [beq_iff_eq]; omega
  rw [← hT] at hfd; rw [← hS]
  have HFD := Lib.hid hfd; clear hfd hfn hS hT hlm hcut hcl hb
  go_enter Tryd.func53, Tryd.ntmps53
  have hs := HFD.out w0
  have HS := Lib.hid hs; clear hs
  go_wp2_with fail
  rw [← HW0.out]
  (with_reducible refine HS.out.mono ?_); rintro e wx ⟨rfl, rfl⟩
  clear HS
  obtain ⟨eR0, eR1, eR2⟩ := row3 BXR.out
  obtain ⟨fR0, fR1, fR2⟩ := froz3 BXR.out
  go_wp2_with fail
  clear eR0 eR1 eR2 fR0 fR1 fR2
  refine ret_rat2 rfl w.heap.size _ _ _ rfl (put3_heap BXR.out) rfl ?_
  exact ⟨_, rfl, put3_below HB0.out (by omega) _ _ _, isR_zero _⟩
set_option maxRecDepth 100000 in
set_option maxHeartbeats 6400000 in
theorem rdec_whole_t (l : List UInt8) (w : World)  (hl : l.length ≤ 300) (m : List UInt8) (hlm : l = 45 :: m) (a b : List UInt8) (hcut : m = a ++ 46 :: b) (hcl : cutL 46 m = some (a, b)) (hb : b ≠ []) (hpa : parC a ≠ 0) :
    Calls Tryd.prog 53 #[.string ⟨l.toArray⟩] w (RetRE w 0 (.bool false)) := by
  have hb0 := ((Below.refl w.heap.size w).alloc (by first | (simp; done) | (simp; omega)) (.cells #[.bool false, .slice none 0 0, .slice none 0 0] 24))
  have hxR := nest1_0 w (.cells #[.bool false, .slice none 0 0, .slice none 0 0] 24)
  obtain ⟨w0, hw0⟩ : ∃ w0, w0 = (w.alloc (.cells #[.bool false, .slice none 0 0, .slice none 0 0] 24)) := ⟨_, rfl⟩
  rw [← hw0] at hb0 hxR
  have HB0 := Lib.hid hb0; have HW0 := Lib.hid hw0
  have BXR := Lib.hid hxR
  clear hb0 hw0 hxR
  obtain ⟨S, hS⟩ : ∃ S : ByteArray, S = ⟨l.toArray⟩ := ⟨_, rfl⟩
  have hsz : S.size = l.length := by rw [hS]; simp [ByteArray.size]
  have hlm1 : l.length = m.length + 1 := by rw [hlm]; rfl
  have hne : S.toList.isEmpty = false := by rw [hS]; exact bytes_ne (by rw [hlm]; simp)
  have hi0 : ∀ wx : World, (Instr.index 9 (.string S) (.int .i64 0)).run Tryd.prog wx = .ok (.int .u8 45) wx := fun wx => by
    rw [hS]; subst hlm; exact run_index_l (45 :: m) 0 (by simp) wx
  obtain ⟨T, hT⟩ : ∃ T : ByteArray, T = ⟨m.toArray⟩ := ⟨_, rfl⟩
  have htz : T.size = m.length := by rw [hT]; simp [ByteArray.size]
  have hsl : ∀ wx : World, (Instr.slice 9 (.string S) (some (.int .i64 1)) none none).run Tryd.prog wx = .ok (.string T) wx := fun wx => by rw [hS, hT, hlm]; exact run_from1 45 m (by omega) wx
  have hfd := fun wx => rfind_any 46 46 m wx rfl (by omega)
  have hfn : fnd 46 m = (a.length : Int) := by unfold fnd; rw [hcl]
  rw [hfn] at hfd
  have htl : m.length = a.length + (b.length + 1) := by rw [hcut]; simp
  have g1 : decide ((a.length : Int) < 0) = false := decide_eq_false (by omega)
  have hb0 : 0 < b.length := List.length_pos_iff.2 hb
  have g2 : ((a.length : Int) == (m.length : Int) - 1) = false := by rw [beq_eq_false_iff_ne]; omega
  obtain ⟨A, hA⟩ : ∃ A : ByteArray, A = ⟨a.toArray⟩ := ⟨_, rfl⟩; obtain ⟨B, hB⟩ : ∃ B : ByteArray, B = ⟨b.toArray⟩ := ⟨_, rfl⟩
  have hs1 : ∀ wx : World, (Instr.slice 9 (.string T) none (some (.int .i64 (a.length : Int))) none).run Tryd.prog wx = .ok (.string A) wx := fun wx => by rw [hT, hA, hcut]; exact run_to a _ wx
  have hs2 : ∀ wx : World, (Instr.slice 9 (.string T) (some (.int .i64 ((a.length : Int) + 1))) none none).run Tryd.prog wx = .ok (.string B) wx := fun wx => by rw [hT, hB, hcut]; exact run_from a 46 b wx
  have hpr := fun wx => rparse_any a wx (.inl (by omega))
  have hvl := parV_len (l := a) (K := 300) (by omega)
  obtain ⟨E, hE⟩ : ∃ E, E = parC a := ⟨_, rfl⟩; rw [← hE] at hpr hpa; clear hE
  have g3 : ((E : Int) != 0) = true := by simp; omega
  obtain ⟨V, hV⟩ : ∃ V, V = parV a := ⟨_, rfl⟩; rw [← hA, ← hV] at hpr; rw [← hV] at hvl
  have HPR := Lib.hid hpr; clear hpr hV hA hB hpa
  rw [← hT] at hfd; rw [← hS]
  have HFD := Lib.hid hfd; clear hfd hfn hS hT hlm hcut hcl hb
  go_enter Tryd.func53, Tryd.ntmps53
  have hs := HFD.out w0
  have HS := Lib.hid hs; clear hs
  go_wp2_with fail
  rw [← HW0.out]
  (with_reducible refine HS.out.mono ?_); rintro e wx ⟨rfl, rfl⟩
  clear HS
  have hs := HPR.out w0
  have HS := Lib.hid hs; clear hs
  go_wp2_with fail
  (with_reducible refine HS.out.mono ?_); rintro e w2 ⟨v2, rfl, hb2, hn2⟩
  clear HS
  have HB2 := Lib.hid (HB0.out.step hb2)
  have BXR := Lib.hid (heap_below BXR.out hb2)
  have N := Lib.hid hn2; clear hn2
  clear hb2
  obtain ⟨eR0, eR1, eR2⟩ := row3 BXR.out
  obtain ⟨fR0, fR1, fR2⟩ := froz3 BXR.out
  go_wp2_with fail
  clear eR0 eR1 eR2 fR0 fR1 fR2
  refine ret_rat2 rfl w.heap.size _ _ _ rfl (put3_heap BXR.out) rfl ?_
  exact ⟨_, rfl, put3_below HB2.out (by omega) _ _ _, isR_zero _⟩
set_option maxRecDepth 100000 in
set_option maxHeartbeats 6400000 in
theorem rdec_bad_t (l : List UInt8) (w : World)  (hl : l.length ≤ 300) (m : List UInt8) (hlm : l = 45 :: m) (a b : List UInt8) (hcut : m = a ++ 46 :: b) (hcl : cutL 46 m = some (a, b)) (hb : b ≠ []) (hpa : parC a = 0) (hd : b.all isDig = false) :
    Calls Tryd.prog 53 #[.string ⟨l.toArray⟩] w (RetRE w 0 (.bool false)) := by
  have hb0 := ((Below.refl w.heap.size w).alloc (by first | (simp; done) | (simp; omega)) (.cells #[.bool false, .slice none 0 0, .slice none 0 0] 24))
  have hxR := nest1_0 w (.cells #[.bool false, .slice none 0 0, .slice none 0 0] 24)
  obtain ⟨w0, hw0⟩ : ∃ w0, w0 = (w.alloc (.cells #[.bool false, .slice none 0 0, .slice none 0 0] 24)) := ⟨_, rfl⟩
  rw [← hw0] at hb0 hxR
  have HB0 := Lib.hid hb0; have HW0 := Lib.hid hw0
  have BXR := Lib.hid hxR
  clear hb0 hw0 hxR
  obtain ⟨S, hS⟩ : ∃ S : ByteArray, S = ⟨l.toArray⟩ := ⟨_, rfl⟩
  have hsz : S.size = l.length := by rw [hS]; simp [ByteArray.size]
  have hlm1 : l.length = m.length + 1 := by rw [hlm]; rfl
  have hne : S.toList.isEmpty = false := by rw [hS]; exact bytes_ne (by rw [hlm]; simp)
  have hi0 : ∀ wx : World, (Instr.index 9 (.string S) (.int .i64 0)).run Tryd.prog wx = .ok (.int .u8 45) wx := fun wx => by
    rw [hS]; subst hlm; exact run_index_l (45 :: m) 0 (by simp) wx
  obtain ⟨T, hT⟩ : ∃ T : ByteArray, T = ⟨m.toArray⟩ := ⟨_, rfl⟩
  have htz : T.size = m.length := by rw [hT]; simp [ByteArray.size]
  have hsl : ∀ wx : World, (Instr.slice 9 (.string S) (some (.int .i64 1)) none none).run Tryd.prog wx = .ok (.string T) wx := fun wx => by rw [hS, hT, hlm]; exact run_from1 45 m (by omega) wx
  have hfd := fun wx => rfind_any 46 46 m wx rfl (by omega)
  have hfn : fnd 46 m = (a.length : Int) := by unfold fnd; rw [hcl]
  rw [hfn] at hfd
  have htl : m.length = a.length + (b.length + 1) := by rw [hcut]; simp
  have g1 : decide ((a.length : Int) < 0) = false := decide_eq_false (by omega)
  have hb0 : 0 < b.length := List.length_pos_iff.2 hb
  have g2 : ((a.length : Int) == (m.length : Int) - 1) = false := by rw [beq_eq_false_iff_ne]; omega
  obtain ⟨A, hA⟩ : ∃ A : ByteArray, A = ⟨a.toArray⟩ := ⟨_, rfl⟩; obtain ⟨B, hB⟩ : ∃ B : ByteArray, B = ⟨b.toArray⟩ := ⟨_, rfl⟩
  have hs1 : ∀ wx : World, (Instr.slice 9 (.string T) none (some (.int .i64 (a.length : Int))) none).run Tryd.prog wx = .ok (.string A) wx := fun wx => by rw [hT, hA, hcut]; exact run_to a _ wx
  have hs2 : ∀ wx : World, (Instr.slice 9 (.string T) (some (.int .i64 ((a.length : Int) + 1))) none none).run Tryd.prog wx = .ok (.string B) wx := fun wx => by rw [hT, hB, hcut]; exact run_from a 46 b wx
  have hpr := fun wx => rparse_any a wx (.inl (by omega))
  have hvl := parV_len (l := a) (K := 300) (by omega)
  rw [hpa] at hpr
  have hcv := conv_bytes b
  rw [← hB] at hcv
  obtain ⟨V, hV⟩ : ∃ V, V = parV a := ⟨_, rfl⟩; rw [← hA, ← hV] at hpr; rw [← hV] at hvl
  have HPR := Lib.hid hpr; clear hpr hV hA hB hpa
  have HCV := Lib.hid hcv; have HDG := Lib.hid hd; clear hcv hd
  rw [← hT] at hfd; rw [← hS]
  have HFD := Lib.hid hfd; clear hfd hfn hS hT hlm hcut hcl hb
  go_enter Tryd.func53, Tryd.ntmps53
  have hs := HFD.out w0
  have HS := Lib.hid hs; clear hs
  go_wp2_with fail
  rw [← HW0.out]
  (with_reducible refine HS.out.mono ?_); rintro e wx ⟨rfl, rfl⟩
  clear HS
  have hs := HPR.out w0
  have HS := Lib.hid hs; clear hs
  go_wp2_with fail
  (with_reducible refine HS.out.mono ?_); rintro e w2 ⟨v2, rfl, hb2, hn2⟩
  clear HS
  have HB2 := Lib.hid (HB0.out.step hb2)
  have BXR := Lib.hid (heap_below BXR.out hb2)
  have N := Lib.hid hn2; clear hn2
  clear hb2
  obtain ⟨w3, hw3⟩ : ∃ w3, w3 = w2.alloc (.cells #[.int .u32 1] 57) := ⟨_, rfl⟩
  have hb3 : Below w2.heap.size w2 w3 := by rw [hw3]; exact (Below.refl _ _).alloc (Nat.le_refl _) _
  have hxD1 := heap_alloc_new w2 (.cells #[.int .u32 1] 57)
  obtain ⟨gD1, hgD1⟩ : ∃ gD1, gD1 = w2.heap.size := ⟨_, rfl⟩
  rw [← hw3, ← hgD1] at hxD1
  have HW3 := Lib.hid hw3; have HGD1 := Lib.hid hgD1; clear hw3 hgD1
  have HB3 := Lib.hid (HB2.out.step hb3)
  have N := Lib.hid (N.out.below hb3)
  have BXR := Lib.hid (heap_below BXR.out hb3)
  clear hb3
  have hnD := num_one1 w2
  rw [← HW3.out, ← HGD1.out] at hnD
  have D := Lib.hid hnD; clear hnD hxD1
  obtain ⟨cc, w5, hcv, hb5, hcell⟩ := HCV.out (w2.alloc (.cells #[.int .u32 1] 57))
  have hg5 : (w2.alloc (.cells #[.int .u32 1] 57)).heap.size = gD1 + 1 := by rw [HGD1.out]; simp
  rw [hg5] at hcell hcv
  rw [← HW3.out] at hb5; clear hg5
  have HCELL := Lib.hid hcell; clear hcell
  go_wp2_with fail
  try rw [← HW3.out]
  try rw [← HGD1.out]
  clear hcv hne hi0 g1 g2 hs1 hs2
  have HB5 := Lib.hid (HB3.out.step hb5)
  have N := Lib.hid (N.out.below hb5)
  have D := Lib.hid (D.out.below hb5)
  have BXR := Lib.hid (heap_below BXR.out hb5)
  clear hb5
  go_loopw [6, 8, 52] (fun nv dv kv wr => ∃ k : Nat, k ≤ b.length ∧ kv = .int .i64 k ∧ Num wr nv (wd (V * 10 ^ k + decN (b.take k))) ∧ Num wr dv (wd (10 ^ k)) ∧ Below w5.heap.size w5 wr ∧ Hid ((b.take k).all isDig = true)) (fun _ _ kv _ => b.length - (intOf kv).toNat)
  case atStart => exact ⟨0, Nat.zero_le _, rfl, by rw [Nat.pow_zero, Nat.mul_one, List.take_zero, decN_nil, Nat.add_zero]; exact N.out, by rw [Nat.pow_zero]; exact D.out, Below.refl _ _, Lib.hid rfl⟩
  case round =>
    obtain ⟨k, hk, rfl, hno, hdo, hBr, HALL⟩ := hrel
    have HNO := Lib.hid hno; have HDO := Lib.hid hdo; have HBR := Lib.hid hBr; clear hno hdo hBr
    by_cases hkn : k < b.length
    · have hcell := (HBR.out.cell (p := ⟨gD1 + 1, k, none⟩) (World.block_lt_of_cell? _ _ (HCELL.out k hkn))).trans (HCELL.out k hkn)
      obtain ⟨c, hc⟩ : ∃ c, c = (b[k]).toNat := ⟨_, rfl⟩
      rw [← hc] at hcell
      have hc256 : c < 256 := by rw [hc]; exact (b[k]).toNat_lt
      have hf1 : decide ((k : Int) < (b.length : Int)) = true := decide_eq_true (by omega)
      by_cases hdg : isDig b[k] = true
      · have hcb : 48 ≤ c ∧ c ≤ 57 := by rw [hc]; simpa [isDig] using hdg
        obtain ⟨hcb1, hcb2⟩ := hcb
        have t1 : decide ((c : Int) < 48) = false := decide_eq_false (by omega)
        have t2 : decide ((57 : Int) < (c : Int)) = false := decide_eq_false (by omega)
        have hval : (V * 10 ^ k + decN (b.take k)) * 10 + (c - 48) = V * 10 ^ (k + 1) + decN (b.take (k + 1)) := by
          rw [decN_take_succ hkn, ← hc, Nat.pow_succ, ← Nat.mul_assoc, Nat.add_mul]; omega
        have hall2 : (b.take (k + 1)).all isDig = true := by rw [all_take_succ hkn, HALL.out, hdg]; rfl
        have hl1 := decN_words' (K := 300) (by omega) HALL.out
        have hl2 := ten_len k
        have hl3 := wd_mul_len V (10 ^ k)
        have hl4 := wd_add_len (V * 10 ^ k) (decN (b.take k))
        obtain ⟨M, hM⟩ : ∃ M, M = V * 10 ^ k + decN (b.take k) := ⟨_, rfl⟩
        obtain ⟨T2, hT2⟩ : ∃ T, T = 10 ^ k := ⟨_, rfl⟩
        rw [← hM] at hval hl4 HNO; rw [← hT2] at hl2 HDO hl3
        have hml : (wd M).length ≤ 903 := by rw [← hT2] at hl4; omega
        have HVAL := Lib.hid hval; have HTT := Lib.hid hT2; have HALL2 := Lib.hid hall2
        clear hval hc hdg hl1 hl3 hl4 hM hT2 hall2
        have h10 : (wd 10).length ≤ 1 := by rw [wd_one (by decide) (by decide)]; simp
        have ht0 := num_one wr 57 10 (by decide)
        rw [← wd_one (n := 10) (by decide) (by decide), show ((10 : Nat) : Int) = 10 from rfl] at ht0
        have hal : Below wr.heap.size wr (wr.alloc (.cells #[.int .u32 10] 57)) := (Below.refl _ _).alloc (Nat.le_refl _) _
        have hs := rmulN (HDO.out.below hal) ht0 (by omega) (by omega)
        have HAL := Lib.hid hal
        have HS := Lib.hid hs; clear hs ht0 hal
        go_wp2_with fail
        (with_reducible refine HS.out.mono ?_); rintro e w6 ⟨v6, rfl, hb6, hn6⟩
        have HB6 := Lib.hid (HAL.out.step hb6); have HN6 := Lib.hid hn6; clear hb6 hn6 HS t1 t2 hcell
        have ht0 := num_one w6 57 10 (by decide)
        rw [← wd_one (n := 10) (by decide) (by decide), show ((10 : Nat) : Int) = 10 from rfl] at ht0
        have hal : Below w6.heap.size w6 (w6.alloc (.cells #[.int .u32 10] 57)) := (Below.refl _ _).alloc (Nat.le_refl _) _
        have hs := rmulN ((HNO.out.below HB6.out).below hal) ht0 (by omega) (by omega)
        have HAL := Lib.hid hal
        have HS := Lib.hid hs; clear hs ht0 hal
        go_wp2_with fail
        (with_reducible refine HS.out.mono ?_); rintro e w7 ⟨v7, rfl, hb7, hn7⟩
        have HB7 := Lib.hid (HAL.out.step hb7); have HN7 := Lib.hid hn7; clear hb7 hn7 HS
        have hwc : (wd (c - 48)).length ≤ 1 := wd_length_of_lt (by omega)
        have hwm : (wd (M * 10)).length ≤ 904 := by have := wd_mul_len M 10; omega
        obtain ⟨dg, hdg⟩ : ∃ dg, dg = c - 48 := ⟨_, rfl⟩
        have hcd : (c : Int) - 48 = (dg : Int) := by omega
        have hcw : IntKind.u8.wrap ((c : Int) - 48) = (dg : Int) := by rw [hcd]; exact IntWalk.u8_in _ (by omega)
        have ht1 := num_lit w7 57 #[.int .u32 (dg : Int)] [dg] 1 (U32.cons (by omega) U32.nil) rfl (by simp) rfl
        have hal : Below w7.heap.size w7 (w7.alloc (.cells #[.int .u32 (dg : Int)] 57)) := (Below.refl _ _).alloc (Nat.le_refl _) _
        have hs := radd_any _ _ _ _ _ (HN7.out.below hal) ht1 (by omega) (by simp)
        rw [val_wd, show val [dg] = dg from by simp [val], hdg, HVAL.out] at hs
        have HAL := Lib.hid hal; have HDGE := Lib.hid hdg
        rw [← hdg] at hs
        have HS := Lib.hid hs; clear hs ht1 hal hdg hwc
        go_wp2_with fail
        (with_reducible refine HS.out.mono ?_); rintro e w8 ⟨v8, l8, rfl, hb8, hn8, rfl⟩
        have HB8 := Lib.hid (HB7.out.step (HAL.out.step hb8)); have HN8 := Lib.hid hn8; clear hb8 hn8 HS hcd hcw
        go_wp2_with fail
        go_roundw
        case rel => exact ⟨k + 1, hkn, by go_num, HN8.out, by rw [Nat.pow_succ, ← HTT.out]; exact HN6.out.below HB8.out, (HBR.out.step HB6.out).step HB8.out, HALL2⟩
        case measure => simp [intOf]; omega
      · have hcb : c < 48 ∨ 57 < c := by rw [hc]; rcases Nat.lt_or_ge (b[k]).toNat 48 with h | h; exact .inl h; right; rcases Nat.lt_or_ge 57 (b[k]).toNat with h2 | h2; exact h2; exact absurd (by simp [isDig]; omega) hdg
        have BXR := Lib.hid (heap_below BXR.out HBR.out)
        have HB20 := Lib.hid (HB5.out.step HBR.out)
        clear hc hdg
        rcases hcb with hcb | hcb
        · have t1 : decide ((c : Int) < 48) = true := decide_eq_true (by omega)
          obtain ⟨eR0, eR1, eR2⟩ := row3 BXR.out
          obtain ⟨fR0, fR1, fR2⟩ := froz3 BXR.out
          go_wp2_with fail
          clear eR0 eR1 eR2 fR0 fR1 fR2
          refine ret_rat2 rfl w.heap.size _ _ _ rfl (put3_heap BXR.out) rfl ?_
          exact ⟨_, rfl, put3_below HB20.out (by omega) _ _ _, isR_zero _⟩
        · have t1 : decide ((c : Int) < 48) = false := decide_eq_false (by omega)
          have t2 : decide ((57 : Int) < (c : Int)) = true := decide_eq_true (by omega)
          obtain ⟨eR0, eR1, eR2⟩ := row3 BXR.out
          obtain ⟨fR0, fR1, fR2⟩ := froz3 BXR.out
          go_wp2_with fail
          clear eR0 eR1 eR2 fR0 fR1 fR2
          refine ret_rat2 rfl w.heap.size _ _ _ rfl (put3_heap BXR.out) rfl ?_
          exact ⟨_, rfl, put3_below HB20.out (by omega) _ _ _, isR_zero _⟩
    · obtain rfl : k = b.length := by omega
      have hf1 : decide ((b.length : Int) < (b.length : Int)) = false := decide_eq_false (by omega)
      have hh := HALL.out; rw [List.take_length, HDG.out] at hh; cases hh
set_option maxRecDepth 100000 in
set_option maxHeartbeats 6400000 in
theorem rdec_ok_t (l : List UInt8) (w : World)  (hl : l.length ≤ 300) (m : List UInt8) (hlm : l = 45 :: m) (a b : List UInt8) (hcut : m = a ++ 46 :: b) (hcl : cutL 46 m = some (a, b)) (hb : b ≠ []) (hpa : parC a = 0) (hd : b.all isDig = true) :
    Calls Tryd.prog 53 #[.string ⟨l.toArray⟩] w (RetRE w (qm true (parV a * 10 ^ b.length + decN b) (10 ^ b.length)) (.bool true)) := by
  have hb0 := ((Below.refl w.heap.size w).alloc (by first | (simp; done) | (simp; omega)) (.cells #[.bool false, .slice none 0 0, .slice none 0 0] 24))
  have hxR := nest1_0 w (.cells #[.bool false, .slice none 0 0, .slice none 0 0] 24)
  obtain ⟨w0, hw0⟩ : ∃ w0, w0 = (w.alloc (.cells #[.bool false, .slice none 0 0, .slice none 0 0] 24)) := ⟨_, rfl⟩
  rw [← hw0] at hb0 hxR
  have HB0 := Lib.hid hb0; have HW0 := Lib.hid hw0
  have BXR := Lib.hid hxR
  clear hb0 hw0 hxR
  obtain ⟨S, hS⟩ : ∃ S : ByteArray, S = ⟨l.toArray⟩ := ⟨_, rfl⟩
  have hsz : S.size = l.length := by rw [hS]; simp [ByteArray.size]
  have hlm1 : l.length = m.length + 1 := by rw [hlm]; rfl
  have hne : S.toList.isEmpty = false := by rw [hS]; exact bytes_ne (by rw [hlm]; simp)
  have hi0 : ∀ wx : World, (Instr.index 9 (.string S) (.int .i64 0)).run Tryd.prog wx = .ok (.int .u8 45) wx := fun wx => by
    rw [hS]; subst hlm; exact run_index_l (45 :: m) 0 (by simp) wx
  obtain ⟨T, hT⟩ : ∃ T : ByteArray, T = ⟨m.toArray⟩ := ⟨_, rfl⟩
  have htz : T.size = m.length := by rw [hT]; simp [ByteArray.size]
  have hsl : ∀ wx : World, (Instr.slice 9 (.string S) (some (.int .i64 1)) none none).run Tryd.prog wx = .ok (.string T) wx := fun wx => by rw [hS, hT, hlm]; exact run_from1 45 m (by omega) wx
  have hfd := fun wx => rfind_any 46 46 m wx rfl (by omega)
  have hfn : fnd 46 m = (a.length : Int) := by unfold fnd; rw [hcl]
  rw [hfn] at hfd
  have htl : m.length = a.length + (b.length + 1) := by rw [hcut]; simp
  have g1 : decide ((a.length : Int) < 0) = false := decide_eq_false (by omega)
  have hb0 : 0 < b.length := List.length_pos_iff.2 hb
  have g2 : ((a.length : Int) == (m.length : Int) - 1) = false := by rw [beq_eq_false_iff_ne]; omega
  obtain ⟨A, hA⟩ : ∃ A : ByteArray, A = ⟨a.toArray⟩ := ⟨_, rfl⟩; obtain ⟨B, hB⟩ : ∃ B : ByteArray, B = ⟨b.toArray⟩ := ⟨_, rfl⟩
  have hs1 : ∀ wx : World, (Instr.slice 9 (.string T) none (some (.int .i64 (a.length : Int))) none).run Tryd.prog wx = .ok (.string A) wx := fun wx => by rw [hT, hA, hcut]; exact run_to a _ wx
  have hs2 : ∀ wx : World, (Instr.slice 9 (.string T) (some (.int .i64 ((a.length : Int) + 1))) none none).run Tryd.prog wx = .ok (.string B) wx := fun wx => by rw [hT, hB, hcut]; exact run_from a 46 b wx
  have hpr := fun wx => rparse_any a wx (.inl (by omega))
  have hvl := parV_len (l := a) (K := 300) (by omega)
  rw [hpa] at hpr
  have hcv := conv_bytes b
  rw [← hB] at hcv
  obtain ⟨V, hV⟩ : ∃ V, V = parV a := ⟨_, rfl⟩; rw [← hA, ← hV] at hpr; rw [← hV] at hvl ⊢
  have HPR := Lib.hid hpr; clear hpr hV hA hB hpa
  have HCV := Lib.hid hcv; have HDG := Lib.hid hd; clear hcv hd
  rw [← hT] at hfd; rw [← hS]
  have HFD := Lib.hid hfd; clear hfd hfn hS hT hlm hcut hcl hb
  go_enter Tryd.func53, Tryd.ntmps53
  have hs := HFD.out w0
  have HS := Lib.hid hs; clear hs
  go_wp2_with fail
  rw [← HW0.out]
  (with_reducible refine HS.out.mono ?_); rintro e wx ⟨rfl, rfl⟩
  clear HS
  have hs := HPR.out w0
  have HS := Lib.hid hs; clear hs
  go_wp2_with fail
  (with_reducible refine HS.out.mono ?_); rintro e w2 ⟨v2, rfl, hb2, hn2⟩
  clear HS
  have HB2 := Lib.hid (HB0.out.step hb2)
  have BXR := Lib.hid (heap_below BXR.out hb2)
  have N := Lib.hid hn2; clear hn2
  clear hb2
  obtain ⟨w3, hw3⟩ : ∃ w3, w3 = w2.alloc (.cells #[.int .u32 1] 57) := ⟨_, rfl⟩
  have hb3 : Below w2.heap.size w2 w3 := by rw [hw3]; exact (Below.refl _ _).alloc (Nat.le_refl _) _
  have hxD1 := heap_alloc_new w2 (.cells #[.int .u32 1] 57)
  obtain ⟨gD1, hgD1⟩ : ∃ gD1, gD1 = w2.heap.size := ⟨_, rfl⟩
  rw [← hw3, ← hgD1] at hxD1
  have HW3 := Lib.hid hw3; have HGD1 := Lib.hid hgD1; clear hw3 hgD1
  have HB3 := Lib.hid (HB2.out.step hb3)
  have N := Lib.hid (N.out.below hb3)
  have BXR := Lib.hid (heap_below BXR.out hb3)
  clear hb3
  have hnD := num_one1 w2
  rw [← HW3.out, ← HGD1.out] at hnD
  have D := Lib.hid hnD; clear hnD hxD1
  obtain ⟨cc, w5, hcv, hb5, hcell⟩ := HCV.out (w2.alloc (.cells #[.int .u32 1] 57))
  have hg5 : (w2.alloc (.cells #[.int .u32 1] 57)).heap.size = gD1 + 1 := by rw [HGD1.out]; simp
  rw [hg5] at hcell hcv
  rw [← HW3.out] at hb5; clear hg5
  have HCELL := Lib.hid hcell; clear hcell
  go_wp2_with fail
  try rw [← HW3.out]
  try rw [← HGD1.out]
  clear hcv hne hi0 g1 g2 hs1 hs2
  have HB5 := Lib.hid (HB3.out.step hb5)
  have N := Lib.hid (N.out.below hb5)
  have D := Lib.hid (D.out.below hb5)
  have BXR := Lib.hid (heap_below BXR.out hb5)
  clear hb5
  go_loopw [6, 8, 52] (fun nv dv kv wr => ∃ k : Nat, k ≤ b.length ∧ kv = .int .i64 k ∧ Num wr nv (wd (V * 10 ^ k + decN (b.take k))) ∧ Num wr dv (wd (10 ^ k)) ∧ Below w5.heap.size w5 wr ∧ Hid ((b.take k).all isDig = true)) (fun _ _ kv _ => b.length - (intOf kv).toNat)
  case atStart => exact ⟨0, Nat.zero_le _, rfl, by rw [Nat.pow_zero, Nat.mul_one, List.take_zero, decN_nil, Nat.add_zero]; exact N.out, by rw [Nat.pow_zero]; exact D.out, Below.refl _ _, Lib.hid rfl⟩
  case round =>
    obtain ⟨k, hk, rfl, hno, hdo, hBr, HALL⟩ := hrel
    have HNO := Lib.hid hno; have HDO := Lib.hid hdo; have HBR := Lib.hid hBr; clear hno hdo hBr
    by_cases hkn : k < b.length
    · have hcell := (HBR.out.cell (p := ⟨gD1 + 1, k, none⟩) (World.block_lt_of_cell? _ _ (HCELL.out k hkn))).trans (HCELL.out k hkn)
      obtain ⟨c, hc⟩ : ∃ c, c = (b[k]).toNat := ⟨_, rfl⟩
      rw [← hc] at hcell
      have hc256 : c < 256 := by rw [hc]; exact (b[k]).toNat_lt
      have hf1 : decide ((k : Int) < (b.length : Int)) = true := decide_eq_true (by omega)
      have hdg : isDig b[k] = true := List.all_eq_true.1 HDG.out _ (List.getElem_mem hkn)
      have hcb : 48 ≤ c ∧ c ≤ 57 := by rw [hc]; simpa [isDig] using hdg
      obtain ⟨hcb1, hcb2⟩ := hcb
      have t1 : decide ((c : Int) < 48) = false := decide_eq_false (by omega)
      have t2 : decide ((57 : Int) < (c : Int)) = false := decide_eq_false (by omega)
      have hval : (V * 10 ^ k + decN (b.take k)) * 10 + (c - 48) = V * 10 ^ (k + 1) + decN (b.take (k + 1)) := by
        rw [decN_take_succ hkn, ← hc, Nat.pow_succ, ← Nat.mul_assoc, Nat.add_mul]; omega
      have hall2 : (b.take (k + 1)).all isDig = true := by rw [all_take_succ hkn, HALL.out, hdg]; rfl
      have hl1 := decN_words' (K := 300) (by omega) HALL.out
      have hl2 := ten_len k
      have hl3 := wd_mul_len V (10 ^ k)
      have hl4 := wd_add_len (V * 10 ^ k) (decN (b.take k))
      obtain ⟨M, hM⟩ : ∃ M, M = V * 10 ^ k + decN (b.take k) := ⟨_, rfl⟩
      obtain ⟨T2, hT2⟩ : ∃ T, T = 10 ^ k := ⟨_, rfl⟩
      rw [← hM] at hval hl4 HNO; rw [← hT2] at hl2 HDO hl3
      have hml : (wd M).length ≤ 903 := by rw [← hT2] at hl4; omega
      have HVAL := Lib.hid hval; have HTT := Lib.hid hT2; have HALL2 := Lib.hid hall2
      clear hval hc hdg hl1 hl3 hl4 hM hT2 hall2
      have h10 : (wd 10).length ≤ 1 := by rw [wd_one (by decide) (by decide)]; simp
      have ht0 := num_one wr 57 10 (by decide)
      rw [← wd_one (n := 10) (by decide) (by decide), show ((10 : Nat) : Int) = 10 from rfl] at ht0
      have hal : Below wr.heap.size wr (wr.alloc (.cells #[.int .u32 10] 57)) := (Below.refl _ _).alloc (Nat.le_refl _) _
      have hs := rmulN (HDO.out.below hal) ht0 (by omega) (by omega)
      have HAL := Lib.hid hal
      have HS := Lib.hid hs; clear hs ht0 hal
      go_wp2_with fail
      (with_reducible refine HS.out.mono ?_); rintro e w6 ⟨v6, rfl, hb6, hn6⟩
      have HB6 := Lib.hid (HAL.out.step hb6); have HN6 := Lib.hid hn6; clear hb6 hn6 HS t1 t2 hcell
      have ht0 := num_one w6 57 10 (by decide)
      rw [← wd_one (n := 10) (by decide) (by decide), show ((10 : Nat) : Int) = 10 from rfl] at ht0
      have hal : Below w6.heap.size w6 (w6.alloc (.cells #[.int .u32 10] 57)) := (Below.refl _ _).alloc (Nat.le_refl _) _
      have hs := rmulN ((HNO.out.below HB6.out).below hal) ht0 (by omega) (by omega)
      have HAL := Lib.hid hal
      have HS := Lib.hid hs; clear hs ht0 hal
      go_wp2_with fail
      (with_reducible refine HS.out.mono ?_); rintro e w7 ⟨v7, rfl, hb7, hn7⟩
      have HB7 := Lib.hid (HAL.out.step hb7); have HN7 := Lib.hid hn7; clear hb7 hn7 HS
      have hwc : (wd (c - 48)).length ≤ 1 := wd_length_of_lt (by omega)
      have hwm : (wd (M * 10)).length ≤ 904 := by have := wd_mul_len M 10; omega
      obtain ⟨dg, hdg⟩ : ∃ dg, dg = c - 48 := ⟨_, rfl⟩
      have hcd : (c : Int) - 48 = (dg : Int) := by omega
      have hcw : IntKind.u8.wrap ((c : Int) - 48) = (dg : Int) := by rw [hcd]; exact IntWalk.u8_in _ (by omega)
      have ht1 := num_lit w7 57 #[.int .u32 (dg : Int)] [dg] 1 (U32.cons (by omega) U32.nil) rfl (by simp) rfl
      have hal : Below w7.heap.size w7 (w7.alloc (.cells #[.int .u32 (dg : Int)] 57)) := (Below.refl _ _).alloc (Nat.le_refl _) _
      have hs := radd_any _ _ _ _ _ (HN7.out.below hal) ht1 (by omega) (by simp)
      rw [val_wd, show val [dg] = dg from by simp [val], hdg, HVAL.out] at hs
      have HAL := Lib.hid hal; have HDGE := Lib.hid hdg
      rw [← hdg] at hs
      have HS := Lib.hid hs; clear hs ht1 hal hdg hwc
      go_wp2_with fail
      (with_reducible refine HS.out.mono ?_); rintro e w8 ⟨v8, l8, rfl, hb8, hn8, rfl⟩
      have HB8 := Lib.hid (HB7.out.step (HAL.out.step hb8)); have HN8 := Lib.hid hn8; clear hb8 hn8 HS hcd hcw
      go_wp2_with fail
      go_roundw
      case rel => exact ⟨k + 1, hkn, by go_num, HN8.out, by rw [Nat.pow_succ, ← HTT.out]; exact HN6.out.below HB8.out, (HBR.out.step HB6.out).step HB8.out, HALL2⟩
      case measure => simp [intOf]; omega
    · obtain rfl : k = b.length := by omega
      have hf1 : decide ((b.length : Int) < (b.length : Int)) = false := decide_eq_false (by omega)
      have htk : b.take b.length = b := List.take_length
      rw [htk] at HNO
      have hl1 := decN_words' (l := b) (k := b.length) (K := 300) (by omega) (by rw [htk]; exact HDG.out)
      rw [htk] at hl1
      have hl2 := ten_len b.length
      have hl3 := wd_mul_len V (10 ^ b.length)
      have hl4 := wd_add_len (V * 10 ^ b.length) (decN b)
      have hp0 : 10 ^ b.length ≠ 0 := Nat.ne_of_gt (Nat.pow_pos (by decide))
      obtain ⟨T2, hT2⟩ : ∃ T, T = 10 ^ b.length := ⟨_, rfl⟩
      obtain ⟨M, hM⟩ : ∃ M, M = V * T2 + decN b := ⟨_, rfl⟩
      have hqe : qm true M T2 = qm true (V * 10 ^ b.length + decN b) (10 ^ b.length) := by rw [hM, hT2]
      have HQE := Lib.hid hqe; clear hqe
      rw [← hT2] at hl2 HDO hl3 hl4 HNO hp0
      rw [← hM] at hl4 HNO
      have HP0 := Lib.hid hp0; clear hp0 hT2 hM htk
      have BXR := Lib.hid (heap_below BXR.out HBR.out)
      have HB20 := Lib.hid (HB5.out.step HBR.out)
      have hs := rfromK true HNO.out HDO.out (by omega) (by omega) HP0.out
      have HS := Lib.hid hs; clear hs
      go_wp2_with fail
      (with_reducible refine HS.out.mono ?_); rintro e w21 ⟨v21, rfl, hb21, hn21⟩
      clear HS
      have HB21 := Lib.hid (HB20.out.step hb21)
      have HNO := Lib.hid (HNO.out.below hb21)
      have HDO := Lib.hid (HDO.out.below hb21)
      have BXR := Lib.hid (heap_below BXR.out hb21)
      have Q := Lib.hid hn21; clear hn21
      clear hb21
      obtain ⟨sQ, oQ, nQ, cQ, aQ, mQ, dQ, rfl⟩ := Q.out.shape
      obtain ⟨w22, hw22⟩ : ∃ w22, w22 = w21.alloc (.cells #[.bool sQ, .slice oQ nQ cQ, .slice aQ mQ dQ] 24) := ⟨_, rfl⟩
      have hb22 : Below w21.heap.size w21 w22 := by rw [hw22]; exact (Below.refl _ _).alloc (Nat.le_refl _) _
      have hxo := heap_alloc_new w21 (.cells #[.bool sQ, .slice oQ nQ cQ, .slice aQ mQ dQ] 24)
      obtain ⟨go, hgo⟩ : ∃ go, go = w21.heap.size := ⟨_, rfl⟩
      rw [← hw22, ← hgo] at hxo
      have HW22 := Lib.hid hw22; have HGo := Lib.hid hgo; clear hw22 hgo
      have HB22 := Lib.hid (HB21.out.step hb22)
      have HNO := Lib.hid (HNO.out.below hb22)
      have HDO := Lib.hid (HDO.out.below hb22)
      have Q := Lib.hid (Q.out.below hb22)
      have BXR := Lib.hid (heap_below BXR.out hb22)
      clear hb22
      have BXo := Lib.hid hxo; clear hxo
      obtain ⟨eo0, eo1, eo2⟩ := row3 BXo.out
      obtain ⟨eR0, eR1, eR2⟩ := row3 BXR.out
      obtain ⟨fR0, fR1, fR2⟩ := froz3 BXR.out
      rw [HW22.out] at eo0
      rw [HGo.out] at eo0
      rw [HW22.out] at eo1
      rw [HGo.out] at eo1
      rw [HW22.out] at eo2
      rw [HGo.out] at eo2
      rw [HW22.out] at eR0
      rw [HW22.out] at eR1
      rw [HW22.out] at eR2
      rw [HW22.out] at fR0
      rw [HW22.out] at fR1
      rw [HW22.out] at fR2
      go_wp2_with fail
      rw [← HW22.out]
      try rw [← HGo.out]
      clear eo0 eo1 eo2 eR0 eR1 eR2 fR0 fR1 fR2
      refine ret_rat2 rfl w.heap.size _ _ _ rfl (put3_heap BXR.out) rfl ?_
      exact ⟨_, rfl, put3_below HB22.out (by omega) _ _ _, by rw [← HQE.out]; exact isR_put Q.out BXR.out⟩
set_option maxRecDepth 100000 in
set_option maxHeartbeats 6400000 in
theorem rdec_none_f (l : List UInt8) (w : World)  (hl : l.length ≤ 300) (x0 : UInt8) (m : List UInt8) (hlm : l = x0 :: m) (hx0 : x0 ≠ 45) (hcut : cutL 46 l = none) :
    Calls Tryd.prog 53 #[.string ⟨l.toArray⟩] w (RetRE w 0 (.bool false)) := by
  have hb0 := ((Below.refl w.heap.size w).alloc (by first | (simp; done) | (simp; omega)) (.cells #[.bool false, .slice none 0 0, .slice none 0 0] 24))
  have hxR := nest1_0 w (.cells #[.bool false, .slice none 0 0, .slice none 0 0] 24)
  obtain ⟨w0, hw0⟩ : ∃ w0, w0 = (w.alloc (.cells #[.bool false, .slice none 0 0, .slice none 0 0] 24)) := ⟨_, rfl⟩
  rw [← hw0] at hb0 hxR
  have HB0 := Lib.hid hb0; have HW0 := Lib.hid hw0
  have BXR := Lib.hid hxR
  clear hb0 hw0 hxR
  obtain ⟨S, hS⟩ : ∃ S : ByteArray, S = ⟨l.toArray⟩ := ⟨_, rfl⟩
  have hsz : S.size = l.length := by rw [hS]; simp [ByteArray.size]
  have hlm1 : l.length = m.length + 1 := by rw [hlm]; rfl
  have hne : S.toList.isEmpty = false := by rw [hS]; exact bytes_ne (by rw [hlm]; simp)
  have hi0 : ∀ wx : World, (Instr.index 9 (.string S) (.int .i64 0)).run Tryd.prog wx = .ok (.int .u8 (x0.toNat : Nat)) wx := fun wx => by
    rw [hS]; subst hlm; exact run_index_l (x0 :: m) 0 (by simp) wx
  have hx1 : ((x0.toNat : Int) == 45) = false := by rw [beq_eq_false_iff_ne]; intro e; exact hx0 (UInt8.toNat_inj.1 (by rw [show (45 : UInt8).toNat = 45 from rfl]; omega))
  obtain ⟨xn, hxn⟩ : ∃ xn, xn = x0.toNat := ⟨_, rfl⟩
  rw [← hxn] at hi0 hx1; clear hxn hx0
  obtain ⟨T, hT⟩ : ∃ T : ByteArray, T = ⟨l.toArray⟩ := ⟨_, rfl⟩
  have htz : T.size = l.length := by rw [hT]; simp [ByteArray.size]
  have hTS : T = S := by rw [hT, hS]
  have hfd := fun wx => rfind_any 46 46 l wx rfl (by omega)
  have hfn : fnd 46 l = -1 := by unfold fnd; rw [hcut]
  rw [hfn] at hfd
  rw [← hT] at hfd; rw [← hS]
  subst hTS
  have HFD := Lib.hid hfd; clear hfd hfn hS hT hlm hcut
  go_enter Tryd.func53, Tryd.ntmps53
  have hs := HFD.out w0
  have HS := Lib.hid hs; clear hs
  go_wp2_with fail
  rw [← HW0.out]
  (with_reducible refine HS.out.mono ?_); rintro e wx ⟨rfl, rfl⟩
  clear HS
  obtain ⟨eR0, eR1, eR2⟩ := row3 BXR.out
  obtain ⟨fR0, fR1, fR2⟩ := froz3 BXR.out
  go_wp2_with fail
  clear eR0 eR1 eR2 fR0 fR1 fR2
  refine ret_rat2 rfl w.heap.size _ _ _ rfl (put3_heap BXR.out) rfl ?_
  exact ⟨_, rfl, put3_below HB0.out (by omega) _ _ _, isR_zero _⟩
set_option maxRecDepth 100000 in
set_option maxHeartbeats 6400000 in
theorem rdec_end_f (l : List UInt8) (w : World)  (hl : l.length ≤ 300) (x0 : UInt8) (m : List UInt8) (hlm : l = x0 :: m) (hx0 : x0 ≠ 45) (a b : List UInt8) (hcut : l = a ++ 46 :: b) (hcl : cutL 46 l = some (a, b)) (hb : b = []) :
    Calls Tryd.prog 53 #[.string ⟨l.toArray⟩] w (RetRE w 0 (.bool false)) := by
  have hb0 := ((Below.refl w.heap.size w).alloc (by first | (simp; done) | (simp; omega)) (.cells #[.bool false, .slice none 0 0, .slice none 0 0] 24))
  have hxR := nest1_0 w (.cells #[.bool false, .slice none 0 0, .slice none 0 0] 24)
  obtain ⟨w0, hw0⟩ : ∃ w0, w0 = (w.alloc (.cells #[.bool false, .slice none 0 0, .slice none 0 0] 24)) := ⟨_, rfl⟩
  rw [← hw0] at hb0 hxR
  have HB0 := Lib.hid hb0; have HW0 := Lib.hid hw0
  have BXR := Lib.hid hxR
  clear hb0 hw0 hxR
  obtain ⟨S, hS⟩ : ∃ S : ByteArray, S = ⟨l.toArray⟩ := ⟨_, rfl⟩
  have hsz : S.size = l.length := by rw [hS]; simp [ByteArray.size]
  have hlm1 : l.length = m.length + 1 := by rw [hlm]; rfl
  have hne : S.toList.isEmpty = false := by rw [hS]; exact bytes_ne (by rw [hlm]; simp)
  have hi0 : ∀ wx : World, (Instr.index 9 (.string S) (.int .i64 0)).run Tryd.prog wx = .ok (.int .u8 (x0.toNat : Nat)) wx := fun wx => by
    rw [hS]; subst hlm; exact run_index_l (x0 :: m) 0 (by simp) wx
  have hx1 : ((x0.toNat : Int) == 45) = false := by rw [beq_eq_false_iff_ne]; intro e; exact hx0 (UInt8.toNat_inj.1 (by rw [show (45 : UInt8).toNat = 45 from rfl]; omega))
  obtain ⟨xn, hxn⟩ : ∃ xn, xn = x0.toNat := ⟨_, rfl⟩
  rw [← hxn] at hi0 hx1; clear hxn hx0
  obtain ⟨T, hT⟩ : ∃ T : ByteArray, T = ⟨l.toArray⟩ := ⟨_, rfl⟩
  have htz : T.size = l.length := by rw [hT]; simp [ByteArray.size]
  have hTS : T = S := by rw [hT, hS]
  have hfd := fun wx => rfind_any 46 46 l wx rfl (by omega)
  have hfn : fnd 46 l = (a.length : Int) := by unfold fnd; rw [hcl]
  rw [hfn] at hfd
  have htl : l.length = a.length + (b.length + 1) := by rw [hcut]; simp
  have g1 : decide ((a.length : Int) < 0) = false := decide_eq_false (by omega)
  have hb0 : b.length = 0 := by rw [hb]; rfl
  have g2 : ((a.length : Int) == (l.length : Int) - 1) = true := by rw [beq_iff_eq]; omega
  rw [← hT] at hfd; rw [← hS]
  subst hTS
  have HFD := Lib.hid hfd; clear hfd hfn hS hT hlm hcut hcl hb
  go_enter Tryd.func53, Tryd.ntmps53
  have hs := HFD.out w0
  have HS := Lib.hid hs; clear hs
  go_wp2_with fail
  rw [← HW0.out]
  (with_reducible refine HS.out.mono ?_); rintro e wx ⟨rfl, rfl⟩
  clear HS
  obtain ⟨eR0, eR1, eR2⟩ := row3 BXR.out
  obtain ⟨fR0, fR1, fR2⟩ := froz3 BXR.out
  go_wp2_with fail
  clear eR0 eR1 eR2 fR0 fR1 fR2
  refine ret_rat2 rfl w.heap.size _ _ _ rfl (put3_heap BXR.out) rfl ?_
  exact ⟨_, rfl, put3_below HB0.out (by omega) _ _ _, isR_zero _⟩
set_option maxRecDepth 100000 in
set_option maxHeartbeats 6400000 in
theorem rdec_whole_f (l : List UInt8) (w : World)  (hl : l.length ≤ 300) (x0 : UInt8) (m : List UInt8) (hlm : l = x0 :: m) (hx0 : x0 ≠ 45) (a b : List UInt8) (hcut : l = a ++ 46 :: b) (hcl : cutL 46 l = some (a, b)) (hb : b ≠ []) (hpa : parC a ≠ 0) :
    Calls Tryd.prog 53 #[.string ⟨l.toArray⟩] w (RetRE w 0 (.bool false)) := by
  have hb0 := ((Below.refl w.heap.size w).alloc (by first | (simp; done) | (simp; omega)) (.cells #[.bool false, .slice none 0 0, .slice none 0 0] 24))
  have hxR := nest1_0 w (.cells #[.bool false, .slice none 0 0, .slice none 0 0] 24)
  obtain ⟨w0, hw0⟩ : ∃ w0, w0 = (w.alloc (.cells #[.bool false, .slice none 0 0, .slice none 0 0] 24)) := ⟨_, rfl⟩
  rw [← hw0] at hb0 hxR
  have HB0 := Lib.hid hb0; have HW0 := Lib.hid hw0
  have BXR := Lib.hid hxR
  clear hb0 hw0 hxR
  obtain ⟨S, hS⟩ : ∃ S : ByteArray, S = ⟨l.toArray⟩ := ⟨_, rfl⟩
  have hsz : S.size = l.length := by rw [hS]; simp [ByteArray.size]
  have hlm1 : l.length = m.length + 1 := by rw [hlm]; rfl
  have hne : S.toList.isEmpty = false := by rw [hS]; exact bytes_ne (by rw [hlm]; simp)
  have hi0 : ∀ wx : World, (Instr.index 9 (.string S) (.int .i64 0)).run Tryd.prog wx = .ok (.int .u8 (x0.toNat : Nat)) wx := fun wx => by
    rw [hS]; subst hlm; exact run_index_l (x0 :: m) 0 (by simp) wx
  have hx1 : ((x0.toNat : Int) == 45) = false := by rw [beq_eq_false_iff_ne]; intro e; exact hx0 (UInt8.toNat_inj.1 (by rw [show (45 : UInt8).toNat = 45 from rfl]; omega))
  obtain ⟨xn, hxn⟩ : ∃ xn, xn = x0.toNat := ⟨_, rfl⟩
  rw [← hxn] at hi0 hx1; clear hxn hx0
  obtain ⟨T, hT⟩ : ∃ T : ByteArray, T = ⟨l.toArray⟩ := ⟨_, rfl⟩
  have htz : T.size = l.length := by rw [hT]; simp [ByteArray.size]
  have hTS : T = S := by rw [hT, hS]
  have hfd := fun wx => rfind_any 46 46 l wx rfl (by omega)
  have hfn : fnd 46 l = (a.length : Int) := by unfold fnd; rw [hcl]
  rw [hfn] at hfd
  have htl : l.length = a.length + (b.length + 1) := by rw [hcut]; simp
  have g1 : decide ((a.length : Int) < 0) = false := decide_eq_false (by omega)
  have hb0 : 0 < b.length := List.length_pos_iff.2 hb
  have g2 : ((a.length : Int) == (l.length : Int) - 1) = false := by rw [beq_eq_false_iff_ne]; omega
  obtain ⟨A, hA⟩ : ∃ A : ByteArray, A = ⟨a.toArray⟩ := ⟨_, rfl⟩; obtain ⟨B, hB⟩ : ∃ B : ByteArray, B = ⟨b.toArray⟩ := ⟨_, rfl⟩
  have hs1 : ∀ wx : World, (Instr.slice 9 (.string T) none (some (.int .i64 (a.length : Int))) none).run Tryd.prog wx = .ok (.string A) wx := fun wx => by rw [hT, hA, hcut]; exact run_to a _ wx
  have hs2 : ∀ wx : World, (Instr.slice 9 (.string T) (some (.int .i64 ((a.length : Int) + 1))) none none).run Tryd.prog wx = .ok (.string B) wx := fun wx => by rw [hT, hB, hcut]; exact run_from a 46 b wx
  have hpr := fun wx => rparse_any a wx (.inl (by omega))
  have hvl := parV_len (l := a) (K := 300) (by omega)
  obtain ⟨E, hE⟩ : ∃ E, E = parC a := ⟨_, rfl⟩; rw [← hE] at hpr hpa; clear hE
  have g3 : ((E : Int) != 0) = true := by simp; omega
  obtain ⟨V, hV⟩ : ∃ V, V = parV a := ⟨_, rfl⟩; rw [← hA, ← hV] at hpr; rw [← hV] at hvl
  have HPR := Lib.hid hpr; clear hpr hV hA hB hpa
  rw [← hT] at hfd; rw [← hS]
  subst hTS
  have HFD := Lib.hid hfd; clear hfd hfn hS hT hlm hcut hcl hb
  go_enter Tryd.func53, Tryd.ntmps53
  have hs := HFD.out w0
  have HS := Lib.hid hs; clear hs
  go_wp2_with fail
  rw [← HW0.out]
  (with_reducible refine HS.out.mono ?_); rintro e wx ⟨rfl, rfl⟩
  clear HS
  have hs := HPR.out w0
  have HS := Lib.hid hs; clear hs
  go_wp2_with fail
  (with_reducible refine HS.out.mono ?_); rintro e w2 ⟨v2, rfl, hb2, hn2⟩
  clear HS
  have HB2 := Lib.hid (HB0.out.step hb2)
  have BXR := Lib.hid (heap_below BXR.out hb2)
  have N := Lib.hid hn2; clear hn2
  clear hb2
  obtain ⟨eR0, eR1, eR2⟩ := row3 BXR.out
  obtain ⟨fR0, fR1, fR2⟩ := froz3 BXR.out
  go_wp2_with fail
  clear eR0 eR1 eR2 fR0 fR1 fR2
  refine ret_rat2 rfl w.heap.size _ _ _ rfl (put3_heap BXR.out) rfl ?_
  exact ⟨_, rfl, put3_below HB2.out (by omega) _ _ _, isR_zero _⟩
set_option maxRecDepth 100000 in
set_option maxHeartbeats 6400000 in
theorem rdec_bad_f (l : List UInt8) (w : World)  (hl : l.length ≤ 300) (x0 : UInt8) (m : List UInt8) (hlm : l = x0 :: m) (hx0 : x0 ≠ 45) (a b : List UInt8) (hcut : l = a ++ 46 :: b) (hcl : cutL 46 l = some (a, b)) (hb : b ≠ []) (hpa : parC a = 0) (hd : b.all isDig = false) :
    Calls Tryd.prog 53 #[.string ⟨l.toArray⟩] w (RetRE w 0 (.bool false)) := by
  have hb0 := ((Below.refl w.heap.size w).alloc (by first | (simp; done) | (simp; omega)) (.cells #[.bool false, .slice none 0 0, .slice none 0 0] 24))
  have hxR := nest1_0 w (.cells #[.bool false, .slice none 0 0, .slice none 0 0] 24)
  obtain ⟨w0, hw0⟩ : ∃ w0, w0 = (w.alloc (.cells #[.bool false, .slice none 0 0, .slice none 0 0] 24)) := ⟨_, rfl⟩
  rw [← hw0] at hb0 hxR
  have HB0 := Lib.hid hb0; have HW0 := Lib.hid hw0
  have BXR := Lib.hid hxR
  clear hb0 hw0 hxR
  obtain ⟨S, hS⟩ : ∃ S : ByteArray, S = ⟨l.toArray⟩ := ⟨_, rfl⟩
  have hsz : S.size = l.length := by rw [hS]; simp [ByteArray.size]
  have hlm1 : l.length = m.length + 1 := by rw [hlm]; rfl
  have hne : S.toList.isEmpty = false := by rw [hS]; exact bytes_ne (by rw [hlm]; simp)
  have hi0 : ∀ wx : World, (Instr.index 9 (.string S) (.int .i64 0)).run Tryd.prog wx = .ok (.int .u8 (x0.toNat : Nat)) wx := fun wx => by
    rw [hS]; subst hlm; exact run_index_l (x0 :: m) 0 (by simp) wx
  have hx1 : ((x0.toNat : Int) == 45) = false := by rw [beq_eq_false_iff_ne]; intro e; exact hx0 (UInt8.toNat_inj.1 (by rw [show (45 : UInt8).toNat = 45 from rfl]; omega))
  obtain ⟨xn, hxn⟩ : ∃ xn, xn = x0.toNat := ⟨_, rfl⟩
  rw [← hxn] at hi0 hx1; clear hxn hx0
  obtain ⟨T, hT⟩ : ∃ T : ByteArray, T = ⟨l.toArray⟩ := ⟨_, rfl⟩
  have htz : T.size = l.length := by rw [hT]; simp [ByteArray.size]
  have hTS : T = S := by rw [hT, hS]
  have hfd := fun wx => rfind_any 46 46 l wx rfl (by omega)
  have hfn : fnd 46 l = (a.length : Int) := by unfold fnd; rw [hcl]
  rw [hfn] at hfd
  have htl : l.length = a.length + (b.length + 1) := by rw [hcut]; simp
  have g1 : decide ((a.length : Int) < 0) = false := decide_eq_false (by omega)
  have hb0 : 0 < b.length := List.length_pos_iff.2 hb
  have g2 : ((a.length : Int) == (l.length : Int) - 1) = false := by rw [beq_eq_false_iff_ne]; omega
  obtain ⟨A, hA⟩ : ∃ A : ByteArray, A = ⟨a.toArray⟩ := ⟨_, rfl⟩; obtain ⟨B, hB⟩ : ∃ B : ByteArray, B = ⟨b.toArray⟩ := ⟨_, rfl⟩
  have hs1 : ∀ wx : World, (Instr.slice 9 (.string T) none (some (.int .i64 (a.length : Int))) none).run Tryd.prog wx = .ok (.string A) wx := fun wx => by rw [hT, hA, hcut]; exact run_to a _ wx
  have hs2 : ∀ wx : World, (Instr.slice 9 (.string T) (some (.int .i64 ((a.length : Int) + 1))) none none).run Tryd.prog wx = .ok (.string B) wx := fun wx => by rw [hT, hB, hcut]; exact run_from a 46 b wx
  have hpr := fun wx => rparse_any a wx (.inl (by omega))
  have hvl := parV_len (l := a) (K := 300) (by omega)
  rw [hpa] at hpr
  have hcv := conv_bytes b
  rw [← hB] at hcv
  obtain ⟨V, hV⟩ : ∃ V, V = parV a := ⟨_, rfl⟩; rw [← hA, ← hV] at hpr; rw [← hV] at hvl
  have HPR := Lib.hid hpr; clear hpr hV hA hB hpa
  have HCV := Lib.hid hcv; have HDG := Lib.hid hd; clear hcv hd
  rw [← hT] at hfd; rw [← hS]
  subst hTS
  have HFD := Lib.hid hfd; clear hfd hfn hS hT hlm hcut hcl hb
  go_enter Tryd.func53, Tryd.ntmps53
  have hs := HFD.out w0
  have HS := Lib.hid hs; clear hs
  go_wp2_with fail
  rw [← HW0.out]
  (with_reducible refine HS.out.mono ?_); rintro e wx ⟨rfl, rfl⟩
  clear HS
  have hs := HPR.out w0
  have HS := Lib.hid hs; clear hs
  go_wp2_with fail
  (with_reducible refine HS.out.mono ?_); rintro e w2 ⟨v2, rfl, hb2, hn2⟩
  clear HS
  have HB2 := Lib.hid (HB0.out.step hb2)
  have BXR := Lib.hid (heap_below BXR.out hb2)
  have N := Lib.hid hn2; clear hn2
  clear hb2
  obtain ⟨w3, hw3⟩ : ∃ w3, w3 = w2.alloc (.cells #[.int .u32 1] 57) := ⟨_, rfl⟩
  have hb3 : Below w2.heap.size w2 w3 := by rw [hw3]; exact (Below.refl _ _).alloc (Nat.le_refl _) _
  have hxD1 := heap_alloc_new w2 (.cells #[.int .u32 1] 57)
  obtain ⟨gD1, hgD1⟩ : ∃ gD1, gD1 = w2.heap.size := ⟨_, rfl⟩
  rw [← hw3, ← hgD1] at hxD1
  have HW3 := Lib.hid hw3; have HGD1 := Lib.hid hgD1; clear hw3 hgD1
  have HB3 := Lib.hid (HB2.out.step hb3)
  have N := Lib.hid (N.out.below hb3)
  have BXR := Lib.hid (heap_below BXR.out hb3)
  clear hb3
  have hnD := num_one1 w2
  rw [← HW3.out, ← HGD1.out] at hnD
  have D := Lib.hid hnD; clear hnD hxD1
  obtain ⟨cc, w5, hcv, hb5, hcell⟩ := HCV.out (w2.alloc (.cells #[.int .u32 1] 57))
  have hg5 : (w2.alloc (.cells #[.int .u32 1] 57)).heap.size = gD1 + 1 := by rw [HGD1.out]; simp
  rw [hg5] at hcell hcv
  rw [← HW3.out] at hb5; clear hg5
  have HCELL := Lib.hid hcell; clear hcell
  go_wp2_with fail
  try rw [← HW3.out]
  try rw [← HGD1.out]
  clear hcv hne hi0 g1 g2 hs1 hs2
  have HB5 := Lib.hid (HB3.out.step hb5)
  have N := Lib.hid (N.out.below hb5)
  have D := Lib.hid (D.out.below hb5)
  have BXR := Lib.hid (heap_below BXR.out hb5)
  clear hb5
  go_loopw [6, 8, 52] (fun nv dv kv wr => ∃ k : Nat, k ≤ b.length ∧ kv = .int .i64 k ∧ Num wr nv (wd (V * 10 ^ k + decN (b.take k))) ∧ Num wr dv (wd (10 ^ k)) ∧ Below w5.heap.size w5 wr ∧ Hid ((b.take k).all isDig = true)) (fun _ _ kv _ => b.length - (intOf kv).toNat)
  case atStart => exact ⟨0, Nat.zero_le _, rfl, by rw [Nat.pow_zero, Nat.mul_one, List.take_zero, decN_nil, Nat.add_zero]; exact N.out, by rw [Nat.pow_zero]; exact D.out, Below.refl _ _, Lib.hid rfl⟩
  case round =>
    obtain ⟨k, hk, rfl, hno, hdo, hBr, HALL⟩ := hrel
    have HNO := Lib.hid hno; have HDO := Lib.hid hdo; have HBR := Lib.hid hBr; clear hno hdo hBr
    by_cases hkn : k < b.length
    · have hcell := (HBR.out.cell (p := ⟨gD1 + 1, k, none⟩) (World.block_lt_of_cell? _ _ (HCELL.out k hkn))).trans (HCELL.out k hkn)
      obtain ⟨c, hc⟩ : ∃ c, c = (b[k]).toNat := ⟨_, rfl⟩
      rw [← hc] at hcell
      have hc256 : c < 256 := by rw [hc]; exact (b[k]).toNat_lt
      have hf1 : decide ((k : Int) < (b.length : Int)) = true := decide_eq_true (by omega)
      by_cases hdg : isDig b[k] = true
      · have hcb : 48 ≤ c ∧ c ≤ 57 := by rw [hc]; simpa [isDig] using hdg
        obtain ⟨hcb1, hcb2⟩ := hcb
        have t1 : decide ((c : Int) < 48) = false := decide_eq_false (by omega)
        have t2 : decide ((57 : Int) < (c : Int)) = false := decide_eq_false (by omega)
        have hval : (V * 10 ^ k + decN (b.take k)) * 10 + (c - 48) = V * 10 ^ (k + 1) + decN (b.take (k + 1)) := by
          rw [decN_take_succ hkn, ← hc, Nat.pow_succ, ← Nat.mul_assoc, Nat.add_mul]; omega
        have hall2 : (b.take (k + 1)).all isDig = true := by rw [all_take_succ hkn, HALL.out, hdg]; rfl
        have hl1 := decN_words' (K := 300) (by omega) HALL.out
        have hl2 := ten_len k
        have hl3 := wd_mul_len V (10 ^ k)
        have hl4 := wd_add_len (V * 10 ^ k) (decN (b.take k))
        obtain ⟨M, hM⟩ : ∃ M, M = V * 10 ^ k + decN (b.take k) := ⟨_, rfl⟩
        obtain ⟨T2, hT2⟩ : ∃ T, T = 10 ^ k := ⟨_, rfl⟩
        rw [← hM] at hval hl4 HNO; rw [← hT2] at hl2 HDO hl3
        have hml : (wd M).length ≤ 903 := by rw [← hT2] at hl4; omega
        have HVAL := Lib.hid hval; have HTT := Lib.hid hT2; have HALL2 := Lib.hid hall2
        clear hval hc hdg hl1 hl3 hl4 hM hT2 hall2
        have h10 : (wd 10).length ≤ 1 := by rw [wd_one (by decide) (by decide)]; simp
        have ht0 := num_one wr 57 10 (by decide)
        rw [← wd_one (n := 10) (by decide) (by decide), show ((10 : Nat) : Int) = 10 from rfl] at ht0
        have hal : Below wr.heap.size wr (wr.alloc (.cells #[.int .u32 10] 57)) := (Below.refl _ _).alloc (Nat.le_refl _) _
        have hs := rmulN (HDO.out.below hal) ht0 (by omega) (by omega)
        have HAL := Lib.hid hal
        have HS := Lib.hid hs; clear hs ht0 hal
        go_wp2_with fail
        (with_reducible refine HS.out.mono ?_); rintro e w6 ⟨v6, rfl, hb6, hn6⟩
        have HB6 := Lib.hid (HAL.out.step hb6); have HN6 := Lib.hid hn6; clear hb6 hn6 HS t1 t2 hcell
        have ht0 := num_one w6 57 10 (by decide)
        rw [← wd_one (n := 10) (by decide) (by decide), show ((10 : Nat) : Int) = 10 from rfl] at ht0
        have hal : Below w6.heap.size w6 (w6.alloc (.cells #[.int .u32 10] 57)) := (Below.refl _ _).alloc (Nat.le_refl _) _
        have hs := rmulN ((HNO.out.below HB6.out).below hal) ht0 (by omega) (by omega)
        have HAL := Lib.hid hal
        have HS := Lib.hid hs; clear hs ht0 hal
        go_wp2_with fail
        (with_reducible refine HS.out.mono ?_); rintro e w7 ⟨v7, rfl, hb7, hn7⟩
        have HB7 := Lib.hid (HAL.out.step hb7); have HN7 := Lib.hid hn7; clear hb7 hn7 HS
        have hwc : (wd (c - 48)).length ≤ 1 := wd_length_of_lt (by omega)
        have hwm : (wd (M * 10)).length ≤ 904 := by have := wd_mul_len M 10; omega
        obtain ⟨dg, hdg⟩ : ∃ dg, dg = c - 48 := ⟨_, rfl⟩
        have hcd : (c : Int) - 48 = (dg : Int) := by omega
        have hcw : IntKind.u8.wrap ((c : Int) - 48) = (dg : Int) := by rw [hcd]; exact IntWalk.u8_in _ (by omega)
        have ht1 := num_lit w7 57 #[.int .u32 (dg : Int)] [dg] 1 (U32.cons (by omega) U32.nil) rfl (by simp) rfl
        have hal : Below w7.heap.size w7 (w7.alloc (.cells #[.int .u32 (dg : Int)] 57)) := (Below.refl _ _).alloc (Nat.le_refl _) _
        have hs := radd_any _ _ _ _ _ (HN7.out.below hal) ht1 (by omega) (by simp)
        rw [val_wd, show val [dg] = dg from by simp [val], hdg, HVAL.out] at hs
        have HAL := Lib.hid hal; have HDGE := Lib.hid hdg
        rw [← hdg] at hs
        have HS := Lib.hid hs; clear hs ht1 hal hdg hwc
        go_wp2_with fail
        (with_reducible refine HS.out.mono ?_); rintro e w8 ⟨v8, l8, rfl, hb8, hn8, rfl⟩
        have HB8 := Lib.hid (HB7.out.step (HAL.out.step hb8)); have HN8 := Lib.hid hn8; clear hb8 hn8 HS hcd hcw
        go_wp2_with fail
        go_roundw
        case rel => exact ⟨k + 1, hkn, by go_num, HN8.out, by rw [Nat.pow_succ, ← HTT.out]; exact HN6.out.below HB8.out, (HBR.out.step HB6.out).step HB8.out, HALL2⟩
        case measure => simp [intOf]; omega
      · have hcb : c < 48 ∨ 57 < c := by rw [hc]; rcases Nat.lt_or_ge (b[k]).toNat 48 with h | h; exact .inl h; right; rcases Nat.lt_or_ge 57 (b[k]).toNat with h2 | h2; exact h2; exact absurd (by simp [isDig]; omega) hdg
        have BXR := Lib.hid (heap_below BXR.out HBR.out)
        have HB20 := Lib.hid (HB5.out.step HBR.out)
        clear hc hdg
        rcases hcb with hcb | hcb
        · have t1 : decide ((c : Int) < 48) = true := decide_eq_true (by omega)
          obtain ⟨eR0, eR1, eR2⟩ := row3 BXR.out
          obtain ⟨fR0, fR1, fR2⟩ := froz3 BXR.out
          go_wp2_with fail
          clear eR0 eR1 eR2 fR0 fR1 fR2
          refine ret_rat2 rfl w.heap.size _ _ _ rfl (put3_heap BXR.out) rfl ?_
          exact ⟨_, rfl, put3_below HB20.out (by omega) _ _ _, isR_zero _⟩
        · have t1 : decide ((c : Int) < 48) = false := decide_eq_false (by omega)
          have t2 : decide ((57 : Int) < (c : Int)) = true := decide_eq_true (by omega)
          obtain ⟨eR0, eR1, eR2⟩ := row3 BXR.out
          obtain ⟨fR0, fR1, fR2⟩ := froz3 BXR.out
          go_wp2_with fail
          clear eR0 eR1 eR2 fR0 fR1 fR2
          refine ret_rat2 rfl w.heap.size _ _ _ rfl (put3_heap BXR.out) rfl ?_
          exact ⟨_, rfl, put3_below HB20.out (by omega) _ _ _, isR_zero _⟩
    · obtain rfl : k = b.length := by omega
      have hf1 : decide ((b.length : Int) < (b.length : Int)) = false := decide_eq_false (by omega)
      have hh := HALL.out; rw [List.take_length, HDG.out] at hh; cases hh
set_option maxRecDepth 100000 in
set_option maxHeartbeats 6400000 in
theorem rdec_ok_f (l : List UInt8) (w : World)  (hl : l.length ≤ 300) (x0 : UInt8) (m : List UInt8) (hlm : l = x0 :: m) (hx0 : x0 ≠ 45) (a b : List UInt8) (hcut : l = a ++ 46 :: b) (hcl : cutL 46 l = some (a, b)) (hb : b ≠ []) (hpa : parC a = 0) (hd : b.all isDig = true) :
    Calls Tryd.prog 53 #[.string ⟨l.toArray⟩] w (RetRE w (qm false (parV a * 10 ^ b.length + decN b) (10 ^ b.length)) (.bool true)) := by
  have hb0 := ((Below.refl w.heap.size w).alloc (by first | (simp; done) | (simp; omega)) (.cells #[.bool false, .slice none 0 0, .slice none 0 0] 24))
  have hxR := nest1_0 w (.cells #[.bool false, .slice none 0 0, .slice none 0 0] 24)
  obtain ⟨w0, hw0⟩ : ∃ w0, w0 = (w.alloc (.cells #[.bool false, .slice none 0 0, .slice none 0 0] 24)) := ⟨_, rfl⟩
  rw [← hw0] at hb0 hxR
  have HB0 := Lib.hid hb0; have HW0 := Lib.hid hw0
  have BXR := Lib.hid hxR
  clear hb0 hw0 hxR
  obtain ⟨S, hS⟩ : ∃ S : ByteArray, S = ⟨l.toArray⟩ := ⟨_, rfl⟩
  have hsz : S.size = l.length := by rw [hS]; simp [ByteArray.size]
  have hlm1 : l.length = m.length + 1 := by rw [hlm]; rfl
  have hne : S.toList.isEmpty = false := by rw [hS]; exact bytes_ne (by rw [hlm]; simp)
  have hi0 : ∀ wx : World, (Instr.index 9 (.string S) (.int .i64 0)).run Tryd.prog wx = .ok (.int .u8 (x0.toNat : Nat)) wx := fun wx => by
    rw [hS]; subst hlm; exact run_index_l (x0 :: m) 0 (by simp) wx
  have hx1 : ((x0.toNat : Int) == 45) = false := by rw [beq_eq_false_iff_ne]; intro e; exact hx0 (UInt8.toNat_inj.1 (by rw [show (45 : UInt8).toNat = 45 from rfl]; omega))
  obtain ⟨xn, hxn⟩ : ∃ xn, xn = x0.toNat := ⟨_, rfl⟩
  rw [← hxn] at hi0 hx1; clear hxn hx0
  obtain ⟨T, hT⟩ : ∃ T : ByteArray, T = ⟨l.toArray⟩ := ⟨_, rfl⟩
  have htz : T.size = l.length := by rw [hT]; simp [ByteArray.size]
  have hTS : T = S := by rw [hT, hS]
  have hfd := fun wx => rfind_any 46 46 l wx rfl (by omega)
  have hfn : fnd 46 l = (a.length : Int) := by unfold fnd; rw [hcl]
  rw [hfn] at hfd
  have htl : l.length = a.length + (b.length + 1) := by rw [hcut]; simp
  have g1 : decide ((a.length : Int) < 0) = false := decide_eq_false (by omega)
  have hb0 : 0 < b.length := List.length_pos_iff.2 hb
  have g2 : ((a.length : Int) == (l.length : Int) - 1) = false := by rw [beq_eq_false_iff_ne]; omega
  obtain ⟨A, hA⟩ : ∃ A : ByteArray, A = ⟨a.toArray⟩ := ⟨_, rfl⟩; obtain ⟨B, hB⟩ : ∃ B : ByteArray, B = ⟨b.toArray⟩ := ⟨_, rfl⟩
  have hs1 : ∀ wx : World, (Instr.slice 9 (.string T) none (some (.int .i64 (a.length : Int))) none).run Tryd.prog wx = .ok (.string A) wx := fun wx => by rw [hT, hA, hcut]; exact run_to a _ wx
  have hs2 : ∀ wx : World, (Instr.slice 9 (.string T) (some (.int .i64 ((a.length : Int) + 1))) none none).run Tryd.prog wx = .ok (.string B) wx := fun wx => by rw [hT, hB, hcut]; exact run_from a 46 b wx
  have hpr := fun wx => rparse_any a wx (.inl (by omega))
  have hvl := parV_len (l := a) (K := 300) (by omega)
  rw [hpa] at hpr
  have hcv := conv_bytes b
  rw [← hB] at hcv
  obtain ⟨V, hV⟩ : ∃ V, V = parV a := ⟨_, rfl⟩; rw [← hA, ← hV] at hpr; rw [← hV] at hvl ⊢
  have HPR := Lib.hid hpr; clear hpr hV hA hB hpa
  have HCV := Lib.hid hcv; have HDG := Lib.hid hd; clear hcv hd
  rw [← hT] at hfd; rw [← hS]
  subst hTS
  have HFD := Lib.hid hfd; clear hfd hfn hS hT hlm hcut hcl hb
  go_enter Tryd.func53, Tryd.ntmps53
  have hs := HFD.out w0
  have HS := Lib.hid hs; clear hs
  go_wp2_with fail
  rw [← HW0.out]
  (with_reducible refine HS.out.mono ?_); rintro e wx ⟨rfl, rfl⟩
  clear HS
  have hs := HPR.out w0
  have HS := Lib.hid hs; clear hs
  go_wp2_with fail
  (with_reducible refine HS.out.mono ?_); rintro e w2 ⟨v2, rfl, hb2, hn2⟩
  clear HS
  have HB2 := Lib.hid (HB0.out.step hb2)
  have BXR := Lib.hid (heap_below BXR.out hb2)
  have N := Lib.hid hn2; clear hn2
  clear hb2
  obtain ⟨w3, hw3⟩ : ∃ w3, w3 = w2.alloc (.cells #[.int .u32 1] 57) := ⟨_, rfl⟩
  have hb3 : Below w2.heap.size w2 w3 := by rw [hw3]; exact (Below.refl _ _).alloc (Nat.le_refl _) _
  have hxD1 := heap_alloc_new w2 (.cells #[.int .u32 1] 57)
  obtain ⟨gD1, hgD1⟩ : ∃ gD1, gD1 = w2.heap.size := ⟨_, rfl⟩
  rw [← hw3, ← hgD1] at hxD1
  have HW3 := Lib.hid hw3; have HGD1 := Lib.hid hgD1; clear hw3 hgD1
  have HB3 := Lib.hid (HB2.out.step hb3)
  have N := Lib.hid (N.out.below hb3)
  have BXR := Lib.hid (heap_below BXR.out hb3)
  clear hb3
  have hnD := num_one1 w2
  rw [← HW3.out, ← HGD1.out] at hnD
  have D := Lib.hid hnD; clear hnD hxD1
  obtain ⟨cc, w5, hcv, hb5, hcell⟩ := HCV.out (w2.alloc (.cells #[.int .u32 1] 57))
  have hg5 : (w2.alloc (.cells #[.int .u32 1] 57)).heap.size = gD1 + 1 := by rw [HGD1.out]; simp
  rw [hg5] at hcell hcv
  rw [← HW3.out] at hb5; clear hg5
  have HCELL := Lib.hid hcell; clear hcell
  go_wp2_with fail
  try rw [← HW3.out]
  try rw [← HGD1.out]
  clear hcv hne hi0 g1 g2 hs1 hs2
  have HB5 := Lib.hid (HB3.out.step hb5)
  have N := Lib.hid (N.out.below hb5)
  have D := Lib.hid (D.out.below hb5)
  have BXR := Lib.hid (heap_below BXR.out hb5)
  clear hb5
  go_loopw [6, 8, 52] (fun nv dv kv wr => ∃ k : Nat, k ≤ b.length ∧ kv = .int .i64 k ∧ Num wr nv (wd (V * 10 ^ k + decN (b.take k))) ∧ Num wr dv (wd (10 ^ k)) ∧ Below w5.heap.size w5 wr ∧ Hid ((b.take k).all isDig = true)) (fun _ _ kv _ => b.length - (intOf kv).toNat)
  case atStart => exact ⟨0, Nat.zero_le _, rfl, by rw [Nat.pow_zero, Nat.mul_one, List.take_zero, decN_nil, Nat.add_zero]; exact N.out, by rw [Nat.pow_zero]; exact D.out, Below.refl _ _, Lib.hid rfl⟩
  case round =>
    obtain ⟨k, hk, rfl, hno, hdo, hBr, HALL⟩ := hrel
    have HNO := Lib.hid hno; have HDO := Lib.hid hdo; have HBR := Lib.hid hBr; clear hno hdo hBr
    by_cases hkn : k < b.length
    · have hcell := (HBR.out.cell (p := ⟨gD1 + 1, k, none⟩) (World.block_lt_of_cell? _ _ (HCELL.out k hkn))).trans (HCELL.out k hkn)
      obtain ⟨c, hc⟩ : ∃ c, c = (b[k]).toNat := ⟨_, rfl⟩
      rw [← hc] at hcell
      have hc256 : c < 256 := by rw [hc]; exact (b[k]).toNat_lt
      have hf1 : decide ((k : Int) < (b.length : Int)) = true := decide_eq_true (by omega)
      have hdg : isDig b[k] = true := List.all_eq_true.1 HDG.out _ (List.getElem_mem hkn)
      have hcb : 48 ≤ c ∧ c ≤ 57 := by rw [hc]; simpa [isDig] using hdg
      obtain ⟨hcb1, hcb2⟩ := hcb
      have t1 : decide ((c : Int) < 48) = false := decide_eq_false (by omega)
      have t2 : decide ((57 : Int) < (c : Int)) = false := decide_eq_false (by omega)
      have hval : (V * 10 ^ k + decN (b.take k)) * 10 + (c - 48) = V * 10 ^ (k + 1) + decN (b.take (k + 1)) := by
        rw [decN_take_succ hkn, ← hc, Nat.pow_succ, ← Nat.mul_assoc, Nat.add_mul]; omega
      have hall2 : (b.take (k + 1)).all isDig = true := by rw [all_take_succ hkn, HALL.out, hdg]; rfl
      have hl1 := decN_words' (K := 300) (by omega) HALL.out
      have hl2 := ten_len k
      have hl3 := wd_mul_len V (10 ^ k)
      have hl4 := wd_add_len (V * 10 ^ k) (decN (b.take k))
      obtain ⟨M, hM⟩ : ∃ M, M = V * 10 ^ k + decN (b.take k) := ⟨_, rfl⟩
      obtain ⟨T2, hT2⟩ : ∃ T, T = 10 ^ k := ⟨_, rfl⟩
      rw [← hM] at hval hl4 HNO; rw [← hT2] at hl2 HDO hl3
      have hml : (wd M).length ≤ 903 := by rw [← hT2] at hl4; omega
      have HVAL := Lib.hid hval; have HTT := Lib.hid hT2; have HALL2 := Lib.hid hall2
      clear hval hc hdg hl1 hl3 hl4 hM hT2 hall2
      have h10 : (wd 10).length ≤ 1 := by rw [wd_one (by decide) (by decide)]; simp
      have ht0 := num_one wr 57 10 (by decide)
      rw [← wd_one (n := 10) (by decide) (by decide), show ((10 : Nat) : Int) = 10 from rfl] at ht0
      have hal : Below wr.heap.size wr (wr.alloc (.cells #[.int .u32 10] 57)) := (Below.refl _ _).alloc (Nat.le_refl _) _
      have hs := rmulN (HDO.out.below hal) ht0 (by omega) (by omega)
      have HAL := Lib.hid hal
      have HS := Lib.hid hs; clear hs ht0 hal
      go_wp2_with fail
      (with_reducible refine HS.out.mono ?_); rintro e w6 ⟨v6, rfl, hb6, hn6⟩
      have HB6 := Lib.hid (HAL.out.step hb6); have HN6 := Lib.hid hn6; clear hb6 hn6 HS t1 t2 hcell
      have ht0 := num_one w6 57 10 (by decide)
      rw [← wd_one (n := 10) (by decide) (by decide), show ((10 : Nat) : Int) = 10 from rfl] at ht0
      have hal : Below w6.heap.size w6 (w6.alloc (.cells #[.int .u32 10] 57)) := (Below.refl _ _).alloc (Nat.le_refl _) _
      have hs := rmulN ((HNO.out.below HB6.out).below hal) ht0 (by omega) (by omega)
      have HAL := Lib.hid hal
      have HS := Lib.hid hs; clear hs ht0 hal
      go_wp2_with fail
      (with_reducible refine HS.out.mono ?_); rintro e w7 ⟨v7, rfl, hb7, hn7⟩
      have HB7 := Lib.hid (HAL.out.step hb7); have HN7 := Lib.hid hn7; clear hb7 hn7 HS
      have hwc : (wd (c - 48)).length ≤ 1 := wd_length_of_lt (by omega)
      have hwm : (wd (M * 10)).length ≤ 904 := by have := wd_mul_len M 10; omega
      obtain ⟨dg, hdg⟩ : ∃ dg, dg = c - 48 := ⟨_, rfl⟩
      have hcd : (c : Int) - 48 = (dg : Int) := by omega
      have hcw : IntKind.u8.wrap ((c : Int) - 48) = (dg : Int) := by rw [hcd]; exact IntWalk.u8_in _ (by omega)
      have ht1 := num_lit w7 57 #[.int .u32 (dg : Int)] [dg] 1 (U32.cons (by omega) U32.nil) rfl (by simp) rfl
      have hal : Below w7.heap.size w7 (w7.alloc (.cells #[.int .u32 (dg : Int)] 57)) := (Below.refl _ _).alloc (Nat.le_refl _) _
      have hs := radd_any _ _ _ _ _ (HN7.out.below hal) ht1 (by omega) (by simp)
      rw [val_wd, show val [dg] = dg from by simp [val], hdg, HVAL.out] at hs
      have HAL := Lib.hid hal; have HDGE := Lib.hid hdg
      rw [← hdg] at hs
      have HS := Lib.hid hs; clear hs ht1 hal hdg hwc
      go_wp2_with fail
      (with_reducible refine HS.out.mono ?_); rintro e w8 ⟨v8, l8, rfl, hb8, hn8, rfl⟩
      have HB8 := Lib.hid (HB7.out.step (HAL.out.step hb8)); have HN8 := Lib.hid hn8; clear hb8 hn8 HS hcd hcw
      go_wp2_with fail
      go_roundw
      case rel => exact ⟨k + 1, hkn, by go_num, HN8.out, by rw [Nat.pow_succ, ← HTT.out]; exact HN6.out.below HB8.out, (HBR.out.step HB6.out).step HB8.out, HALL2⟩
      case measure => simp [intOf]; omega
    · obtain rfl : k = b.length := by omega
      have hf1 : decide ((b.length : Int) < (b.length : Int)) = false := decide_eq_false (by omega)
      have htk : b.take b.length = b := List.take_length
      rw [htk] at HNO
      have hl1 := decN_words' (l := b) (k := b.length) (K := 300) (by omega) (by rw [htk]; exact HDG.out)
      rw [htk] at hl1
      have hl2 := ten_len b.length
      have hl3 := wd_mul_len V (10 ^ b.length)
      have hl4 := wd_add_len (V * 10 ^ b.length) (decN b)
      have hp0 : 10 ^ b.length ≠ 0 := Nat.ne_of_gt (Nat.pow_pos (by decide))
      obtain ⟨T2, hT2⟩ : ∃ T, T = 10 ^ b.length := ⟨_, rfl⟩
      obtain ⟨M, hM⟩ : ∃ M, M = V * T2 + decN b := ⟨_, rfl⟩
      have hqe : qm false M T2 = qm false (V * 10 ^ b.length + decN b) (10 ^ b.length) := by rw [hM, hT2]
      have HQE := Lib.hid hqe; clear hqe
      rw [← hT2] at hl2 HDO hl3 hl4 HNO hp0
      rw [← hM] at hl4 HNO
      have HP0 := Lib.hid hp0; clear hp0 hT2 hM htk
      have BXR := Lib.hid (heap_below BXR.out HBR.out)
      have HB20 := Lib.hid (HB5.out.step HBR.out)
      have hs := rfromK false HNO.out HDO.out (by omega) (by omega) HP0.out
      have HS := Lib.hid hs; clear hs
      go_wp2_with fail
      (with_reducible refine HS.out.mono ?_); rintro e w21 ⟨v21, rfl, hb21, hn21⟩
      clear HS
      have HB21 := Lib.hid (HB20.out.step hb21)
      have HNO := Lib.hid (HNO.out.below hb21)
      have HDO := Lib.hid (HDO.out.below hb21)
      have BXR := Lib.hid (heap_below BXR.out hb21)
      have Q := Lib.hid hn21; clear hn21
      clear hb21
      obtain ⟨sQ, oQ, nQ, cQ, aQ, mQ, dQ, rfl⟩ := Q.out.shape
      obtain ⟨w22, hw22⟩ : ∃ w22, w22 = w21.alloc (.cells #[.bool sQ, .slice oQ nQ cQ, .slice aQ mQ dQ] 24) := ⟨_, rfl⟩
      have hb22 : Below w21.heap.size w21 w22 := by rw [hw22]; exact (Below.refl _ _).alloc (Nat.le_refl _) _
      have hxo := heap_alloc_new w21 (.cells #[.bool sQ, .slice oQ nQ cQ, .slice aQ mQ dQ] 24)
      obtain ⟨go, hgo⟩ : ∃ go, go = w21.heap.size := ⟨_, rfl⟩
      rw [← hw22, ← hgo] at hxo
      have HW22 := Lib.hid hw22; have HGo := Lib.hid hgo; clear hw22 hgo
      have HB22 := Lib.hid (HB21.out.step hb22)
      have HNO := Lib.hid (HNO.out.below hb22)
      have HDO := Lib.hid (HDO.out.below hb22)
      have Q := Lib.hid (Q.out.below hb22)
      have BXR := Lib.hid (heap_below BXR.out hb22)
      clear hb22
      have BXo := Lib.hid hxo; clear hxo
      obtain ⟨eo0, eo1, eo2⟩ := row3 BXo.out
      obtain ⟨eR0, eR1, eR2⟩ := row3 BXR.out
      obtain ⟨fR0, fR1, fR2⟩ := froz3 BXR.out
      rw [HW22.out] at eo0
      rw [HGo.out] at eo0
      rw [HW22.out] at eo1
      rw [HGo.out] at eo1
      rw [HW22.out] at eo2
      rw [HGo.out] at eo2
      rw [HW22.out] at eR0
      rw [HW22.out] at eR1
      rw [HW22.out] at eR2
      rw [HW22.out] at fR0
      rw [HW22.out] at fR1
      rw [HW22.out] at fR2
      go_wp2_with fail
      rw [← HW22.out]
      try rw [← HGo.out]
      clear eo0 eo1 eo2 eR0 eR1 eR2 fR0 fR1 fR2
      refine ret_rat2 rfl w.heap.size _ _ _ rfl (put3_heap BXR.out) rfl ?_
      exact ⟨_, rfl, put3_below HB22.out (by omega) _ _ _, by rw [← HQE.out]; exact isR_put Q.out BXR.out⟩
theorem rdec_any (l : List UInt8) (w : World) (hl : l.length ≤ 300) :
    Calls Tryd.prog 53 #[.string ⟨l.toArray⟩] w (RetRE w (oQ (rdO l)) (.bool (rdO l).isSome)) := by
  cases l with
  | nil => exact rdec_none_nil [] w hl rfl rfl
  | cons x m =>
    by_cases hx : x = 45
    · subst hx
      have hp : preL 45 (45 :: m) = (m, true) := rfl
      unfold rdO; rw [hp]
      cases hc : cutL 46 m with
      | none => exact rdec_none_t _ w hl m rfl hc
      | some p =>
        obtain ⟨a, b⟩ := p
        have hm := (cutL_mem hc).2
        show Calls _ _ _ _ (RetRE w (oQ (dmV true a b)) (.bool (dmV true a b).isSome))
        unfold dmV
        by_cases hb : b = []
        · rw [if_neg (fun h => h.1 hb)]; exact rdec_end_t _ w hl m rfl a b hm hc hb
        · by_cases hpa : parC a = 0
          · by_cases hd : b.all isDig = true
            · rw [if_pos ⟨hb, hd, hpa⟩]; exact rdec_ok_t _ w hl m rfl a b hm hc hb hpa hd
            · rw [if_neg (fun h => hd h.2.1)]; exact rdec_bad_t _ w hl m rfl a b hm hc hb hpa (Bool.eq_false_iff.2 hd)
          · rw [if_neg (fun h => hpa h.2.2)]; exact rdec_whole_t _ w hl m rfl a b hm hc hb hpa
    · have hp : preL 45 (x :: m) = (x :: m, false) := by unfold preL; rw [if_neg (by simp [hx])]
      unfold rdO; rw [hp]
      cases hc : cutL 46 (x :: m) with
      | none => exact rdec_none_f _ w hl x m rfl hx hc
      | some p =>
        obtain ⟨a, b⟩ := p
        have hm := (cutL_mem hc).2
        show Calls _ _ _ _ (RetRE w (oQ (dmV false a b)) (.bool (dmV false a b).isSome))
        unfold dmV
        by_cases hb : b = []
        · rw [if_neg (fun h => h.1 hb)]; exact rdec_end_f _ w hl x m rfl hx a b hm hc hb
        · by_cases hpa : parC a = 0
          · by_cases hd : b.all isDig = true
            · rw [if_pos ⟨hb, hd, hpa⟩]; exact rdec_ok_f _ w hl x m rfl hx a b hm hc hb hpa hd
            · rw [if_neg (fun h => hd h.2.1)]; exact rdec_bad_f _ w hl x m rfl hx a b hm hc hb hpa (Bool.eq_false_iff.2 hd)
          · rw [if_neg (fun h => hpa h.2.2)]; exact rdec_whole_f _ w hl x m rfl hx a b hm hc hb hpa
end Go.Proofs.YtabdndlaelfdeaaDoor
