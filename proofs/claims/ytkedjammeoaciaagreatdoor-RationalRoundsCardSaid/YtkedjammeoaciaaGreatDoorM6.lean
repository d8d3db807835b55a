/-
  The texts Nat25, Dec, ParseQ, ParseQ2, RatLaw1, RatLaw2, RatLaw3, one behind the other.
  Conditions: each theorem's own.
-/
import Derived.Test.YtkedjammeoaciaaGreatDoorM5
/-
  natural.Parse: its loop.
  Conditions: each theorem's own.
-/
namespace Go.Proofs.YtkedjammeoaciaaGreatDoor
open Go.RowKit Go.ChangeShapes Go.WideShapes

theorem chunk_len {l : List UInt8} {i n : Nat} (h : i + n ≤ l.length) : ((l.drop i).take n).length = n := by
  rw [List.length_take, List.length_drop]; omega
theorem chunk_get {l : List UInt8} {i n k : Nat} (h : i + n ≤ l.length) (hk : k < n) : ((l.drop i).take n)[k]'(by rw [chunk_len h]; exact hk) = l[i + k]'(by omega) := by
  rw [List.getElem_take, List.getElem_drop]
theorem decN_chunk {l : List UInt8} {i n : Nat} (h : i + n ≤ l.length) : decN (l.take (i + n)) = decN (l.take i) * 10 ^ n + decN ((l.drop i).take n) := by
  rw [List.take_add, decN_app, chunk_len h]
theorem all_chunk {l : List UInt8} {i n : Nat} : (l.take (i + n)).all isDig = ((l.take i).all isDig && ((l.drop i).take n).all isDig) := by
  rw [List.take_add, List.all_append]
/-- a round of the words' loop -/
theorem mulAdd_step {V W B v x s v' d : Nat} (h : V + B * v = W) (hs : d + 4294967296 * v' = v + x * s) : (V + B * d) + B * 4294967296 * v' = W + B * x * s := by
  have e1 : B * 4294967296 * v' = B * (4294967296 * v') := by ac_rfl
  have e2 : B * x * s = B * (x * s) := by ac_rfl
  rw [e1, e2, ← h, Nat.add_assoc V, ← Nat.mul_add, hs, Nat.mul_add]; omega
/-- the group's size -/
def grp (i L : Nat) : Nat := if i = 0 ∧ L % 9 ≠ 0 then L % 9 else 9
theorem grp_le {i L : Nat} (h : i < L) (h2 : i = 0 ∨ (L - i) % 9 = 0) : 1 ≤ grp i L ∧ grp i L ≤ 9 ∧ i + grp i L ≤ L ∧ (L - (i + grp i L)) % 9 = 0 := by
  unfold grp; split <;> omega

set_option maxRecDepth 100000 in
set_option maxHeartbeats 3200000 in
theorem parse_loop (l : List UInt8) (w : World) (hl : l.length ≤ 65536) (h0 : 0 < l.length) (hz : l[0].toNat = 48 → l.length = 1) :
    Calls Tryz.prog 106 #[.string ⟨l.toArray⟩] w (RetNE w (if l.all isDig then decN l else 0) (errV (if l.all isDig then 0 else 2))) := by
  obtain ⟨S, hS⟩ : ∃ S : ByteArray, S = ⟨l.toArray⟩ := ⟨_, rfl⟩
  have hsz : S.size = l.length := by rw [hS]; simp [ByteArray.size]
  have hix := run_index_l l
  have hsl : ∀ (a b : Nat) (wx : World), a ≤ b → b ≤ l.length → (Instr.slice 9 (.string S) (some (.int .i64 (a : Int))) (some (.int .i64 (b : Int))) none).run Tryz.prog wx = .ok (.string ⟨((l.drop a).take (b - a)).toArray⟩) wx := by
    intro a b wx h1 h2
    rw [run_slice_string_if (P := Tryz.prog) wx 9 S .i64 .i64 a b Tryz.underlying9, if_pos (by omega), if_pos (by omega)]
    have e : S.extract (a : Int).toNat (b : Int).toNat = ⟨((l.drop a).take (b - a)).toArray⟩ := by
      rw [hS]; apply ByteArray.ext
      simp [ByteArray.data_extract, List.extract_eq_take_drop]
    rw [e]
  rw [← hS] at hix ⊢
  obtain ⟨V, hV⟩ : ∃ V, V = if l.all isDig then decN l else 0 := ⟨_, rfl⟩
  obtain ⟨C, hC⟩ : ∃ C : Nat, C = if l.all isDig then 0 else 2 := ⟨_, rfl⟩
  rw [← hV, ← hC]
  obtain ⟨x, hx⟩ : ∃ x, x = l[0].toNat := ⟨_, rfl⟩
  have hix0 : ∀ wx, (Instr.index 9 (.string S) (.int .i64 0)).run Tryz.prog wx = .ok (.int .u8 (x : Nat)) wx := fun wx => by rw [hx]; exact hix 0 h0 wx
  have hS2 : S.toList.isEmpty = false := by
    rw [ByteArray.toList_eq]
    have h9 : S.data.toList.length = S.size := rfl
    cases h8 : S.data.toList with
    | nil => rw [h8] at h9; simp only [List.length_nil] at h9; omega
    | cons _ _ => rfl
  rw [← hx] at hz
  have f1 : decide ((65536 : Int) < (l.length : Int)) = false := decide_eq_false (by omega)
  have HIX := Lib.hid hix; have HSZ := Lib.hid hsz; have HVV := Lib.hid hV; have HCC := Lib.hid hC; have HSL := Lib.hid hsl
  have hx48 : decide ((1 : Int) < (l.length : Int)) = false ∨ decide ((1 : Int) < (l.length : Int)) = true ∧ ((x : Int) == 48) = false := by
    by_cases h : l.length = 1
    · left; exact decide_eq_false (by omega)
    · right; exact ⟨decide_eq_true (by omega), by rw [beq_eq_false_iff_ne]; omega⟩
  clear hix hV hC hx hS hz hsl
  rcases hx48 with hx | ⟨hx, hx2⟩
  · go_enter Tryz.func106, Tryz.ntmps106
    go_wp2_with fail
    clear hix0 f1 hx hS2
    go_loopw [4, 5] (fun ov iv wr => ∃ (i : Nat) (lo : List Nat), i ≤ l.length ∧ iv = .int .i64 i ∧ OwnW 75 wr w.heap.size ov lo ∧ Hid (lo.length ≤ i) ∧ Hid (val lo = decN (l.take i)) ∧ Hid ((l.take i).all isDig = true) ∧ Hid (i = 0 ∨ (l.length - i) % 9 = 0) ∧ Below w.heap.size w wr) (fun _ iv _ => l.length - (intOf iv).toNat)
    case atStart => exact ⟨0, [], Nat.zero_le _, rfl, OwnW.nil _ _ _, Lib.hid (Nat.le_refl _), Lib.hid rfl, Lib.hid rfl, Lib.hid (.inl rfl), Below.refl _ _⟩
    case round =>
      obtain ⟨i, lo, hi, rfl, hO, hll, hval, had, h9, hBr⟩ := hrel
      obtain ⟨ao, ca, rfl, hca, hca2, _⟩ := hO.num.shape
      have HO := Lib.hid hO; have HBR := Lib.hid hBr; clear hO hBr
      obtain ⟨wo, rfl⟩ : ∃ wo : World, wo = wr := ⟨_, rfl⟩
      by_cases hin : i < l.length
      · have hf1 : decide ((i : Int) < (l.length : Int)) = true := decide_eq_true (by omega)
        obtain ⟨g1, g2, g3, g4⟩ := grp_le hin h9.out
        obtain ⟨n, hn⟩ : ∃ n, n = grp i l.length := ⟨_, rfl⟩
        rw [← hn] at g1 g2 g3 g4
        have HNG := Lib.hid hn; clear hn
        have G4 := Lib.hid g4; clear g4
        go_upto_region 9 with fail
        clear hf1
        go_cut [40] (fun cv wx => cv = .bool (decide (i = 0 ∧ l.length % 9 ≠ 0)) ∧ wo = wx)
        case first =>
          by_cases hi0 : i = 0
          · subst hi0
            by_cases hr : l.length % 9 = 0
            · have f2 : ((l.length : Int) % 9 != 0) = false := by rw [bne_eq_false_iff_eq]; omega
              have f3 : decide ((0 : Nat) = 0 ∧ l.length % 9 ≠ 0) = false := decide_eq_false (by omega)
              have HR := Lib.hid hr; have F3 := Lib.hid f3; clear hr f3
              go_wp2_with fail
              go_meet
              exact ⟨congrArg Value.bool F3.out.symm, rfl⟩
            · have f2 : ((l.length : Int) % 9 != 0) = true := by rw [bne_iff_ne]; omega
              have f3 : decide ((0 : Nat) = 0 ∧ l.length % 9 ≠ 0) = true := decide_eq_true (by omega)
              have HR := Lib.hid hr; have F3 := Lib.hid f3; clear hr f3
              go_wp2_with fail
              go_meet
              exact ⟨congrArg Value.bool F3.out.symm, rfl⟩
          · have f2 : ((i : Int) == 0) = false := by rw [beq_eq_false_iff_ne]; omega
            have f3 : decide (i = 0 ∧ l.length % 9 ≠ 0) = false := decide_eq_false (by omega)
            have F3 := Lib.hid f3; clear f3
            go_wp2_with fail
            go_meet
            exact ⟨congrArg Value.bool F3.out.symm, rfl⟩
        case rest =>
          obtain ⟨rfl, rfl⟩ := hcut
          obtain ⟨bb, hbb⟩ : ∃ bb, bb = decide (i = 0 ∧ l.length % 9 ≠ 0) := ⟨_, rfl⟩
          rw [← hbb]
          have HBB := Lib.hid hbb; clear hbb
          go_upto_if 40 with fail
          go_cut [6] (fun nv wx => nv = .int .i64 n ∧ wo = wx)
          case first =>
            cases bb with
            | true =>
              have hc := of_decide_eq_true HBB.out.symm
              have hnn : n = l.length % 9 := by rw [HNG.out]; unfold grp; rw [if_pos hc]
              have HNN := Lib.hid hnn
              clear hc hnn
              go_wp2_with fail
              go_meet
              exact ⟨by rw [HNN.out]; go_num, rfl⟩
            | false =>
              have hc := of_decide_eq_false HBB.out.symm
              have hnn : n = 9 := by rw [HNG.out]; unfold grp; rw [if_neg hc]
              have HNN := Lib.hid hnn
              clear hc hnn
              go_wp2_with fail
              go_meet
              exact ⟨by rw [HNN.out]; rfl, rfl⟩
          case rest =>
            obtain ⟨rfl, rfl⟩ := hcut
            clear HBB
            have hcs := HSL.out i (i + n) wo (by omega) g3
            rw [Nat.add_sub_cancel_left, show ((i + n : Nat) : Int) = (i : Int) + (n : Int) from by omega] at hcs
            obtain ⟨cc, w2, hcv, hB2, hcell⟩ := conv_bytes ((l.drop i).take n) wo
            rw [chunk_len g3] at hcv
            have hcl : ∀ k (h : k < n), w2.cell? ⟨wo.heap.size, k, none⟩ = some (.int .u8 ((l[i + k]'(by omega)).toNat : Nat)) := by
              intro k h
              have := hcell k (by rw [chunk_len g3]; exact h)
              rw [chunk_get g3 h] at this; exact this
            have HCL := Lib.hid hcl; have HB2 := Lib.hid hB2; have HO2 := Lib.hid (HO.out.below hB2)
            clear hcl hB2 hcell
            go_wp2_with fail
            clear hcs hcv
            go_loopw [7, 8, 52] (fun vv sv kv wx => ∃ k v s : Nat, k ≤ n ∧ kv = .int .i64 k ∧ vv = .int .u64 v ∧ sv = .int .u64 s ∧ v < 1000000000 ∧ s ≤ 1000000000 ∧ Hid (v = decN (((l.drop i).take n).take k)) ∧ Hid (s = 10 ^ k) ∧ Hid ((((l.drop i).take n).take k).all isDig = true) ∧ w2 = wx) (fun _ _ kv _ => n - (intOf kv).toNat)
            case atStart => exact ⟨0, 0, 1, Nat.zero_le _, rfl, rfl, rfl, by decide, by decide, Lib.hid rfl, Lib.hid rfl, Lib.hid rfl, rfl⟩
            case round =>
              obtain ⟨k, v, s, hk, rfl, rfl, rfl, hv9, hs9, hve, hse, hdg, rfl⟩ := hrel
              by_cases hkn : k < n
              · have hcell := HCL.out k hkn
                have hik : i + k < l.length := by omega
                obtain ⟨c, hc⟩ : ∃ c, c = (l[i + k]'hik).toNat := ⟨_, rfl⟩
                rw [← hc] at hcell
                have hdgc : isDig (l[i + k]'hik) = (decide (48 ≤ c) && decide (c ≤ 57)) := by rw [hc]; rfl
                have hcb : c < 256 := by rw [hc]; exact (l[i + k]'hik).toNat_lt
                have hkc : k < ((l.drop i).take n).length := by rw [chunk_len g3]; exact hkn
                have hget : ((l.drop i).take n)[k]'hkc = l[i + k]'hik := chunk_get g3 hkn
                have hf1 : decide ((k : Int) < (n : Int)) = true := decide_eq_true (by omega)
                have HDG := Lib.hid hdgc; have HC := Lib.hid hc; have HGET := Lib.hid hget
                clear hdgc hc hget
                by_cases hc1 : c < 48
                · have hf2 : decide ((c : Int) < 48) = true := decide_eq_true (by omega)
                  have hbad : l.all isDig = false := not_all hik (by rw [HDG.out]; simp; omega)
                  have HBAD := Lib.hid hbad; clear hbad
                  go_wp2_with fail
                  go_ret2
                  rw [HCC.out, HVV.out, HBAD.out]
                  exact ⟨_, by rw [if_neg (by decide)]; rfl, HBR.out.step HB2.out, by rw [if_neg (by decide), wd_zero]; exact Num.nil _⟩
                · have hf2 : decide ((c : Int) < 48) = false := decide_eq_false (by omega)
                  by_cases hc2 : 57 < c
                  · have hf3 : decide ((57 : Int) < (c : Int)) = true := decide_eq_true (by omega)
                    have hbad : l.all isDig = false := not_all hik (by rw [HDG.out]; simp; omega)
                    have HBAD := Lib.hid hbad; clear hbad
                    go_wp2_with fail
                    go_ret2
                    rw [HCC.out, HVV.out, HBAD.out]
                    exact ⟨_, by rw [if_neg (by decide)]; rfl, HBR.out.step HB2.out, by rw [if_neg (by decide), wd_zero]; exact Num.nil _⟩
                  · have hf3 : decide ((57 : Int) < (c : Int)) = false := decide_eq_false (by omega)
                    have hdg1 : (((l.drop i).take n).take (k + 1)).all isDig = true := by
                      rw [all_take_succ hkc, hdg.out, HGET.out, HDG.out]; simp; omega
                    have hv1 : 10 * v + (c - 48) = decN (((l.drop i).take n).take (k + 1)) := by
                      rw [decN_take_succ hkc, ← hve.out, HGET.out, ← HC.out]
                    have hb1 := decN_len hdg1
                    have hp1 : 10 ^ (k + 1) ≤ 10 ^ 9 := Nat.pow_le_pow_right (by decide) (by omega)
                    have hp2 : ((((l.drop i).take n).take (k + 1))).length ≤ 9 := by rw [List.length_take]; omega
                    have hp3 : 10 ^ (((l.drop i).take n).take (k + 1)).length ≤ 10 ^ 9 := Nat.pow_le_pow_right (by decide) hp2
                    rw [show (10 ^ 9 : Nat) = 1000000000 from rfl] at hp1 hp3
                    have hv2 : 10 * v + (c - 48) < 1000000000 := by omega
                    have hs2 : s * 10 = 10 ^ (k + 1) := by rw [hse.out, Nat.pow_succ]
                    have hs3 : s * 10 ≤ 1000000000 := by omega
                    have HV1 := Lib.hid hv1; have HS2 := Lib.hid hs2; have HDG1 := Lib.hid hdg1
                    clear hv1 hb1 hp1 hp2 hp3 hs2 hdg1
                    go_wp2_with fail
                    go_roundw
                    case rel => exact ⟨k + 1, 10 * v + (c - 48), s * 10, by omega, by go_num, by go_num, by go_num, hv2, hs3, HV1, HS2, HDG1, trivial⟩
                    case measure => simp [intOf]; omega
              · obtain rfl : k = n := by omega
                have hdg0 := hdg.out
                have hve0 := hve.out
                rw [List.take_of_length_le (by rw [chunk_len g3]; exact Nat.le_refl _)] at hdg0 hve0
                have hdgT : (l.take (i + k)).all isDig = true := by rw [all_chunk, had.out, hdg0]; rfl
                have hvT : val lo * s + v = decN (l.take (i + k)) := by rw [decN_chunk g3, ← hve0, ← hse.out, hval.out]
                have HDGT := Lib.hid hdgT; have HVT := Lib.hid hvT
                clear hdg0 hve0 hdgT hvT
                go_wp2_with fail
                go_loopw [7, 74] (fun vv kv wr => ∃ (j y : Nat) (m : List Nat), j ≤ lo.length ∧ kv = .int .i64 j ∧ vv = .int .u64 y ∧ y < 4294967296 ∧ OwnW 75 wr w.heap.size (.slice ao lo.length ca) m ∧ Hid (m.length = lo.length) ∧ Hid (val (m.take j) + 4294967296 ^ j * y = val (lo.take j) * s + v) ∧ Hid (∀ x, j ≤ x → gd m x = gd lo x) ∧ Below w.heap.size w wr) (fun _ kv _ => lo.length - (intOf kv).toNat)
                case atStart => exact ⟨0, v, lo, Nat.zero_le _, rfl, rfl, by omega, HO2.out, Lib.hid rfl, Lib.hid (by simp [val]), Lib.hid (fun _ _ => rfl), HBR.out.step HB2.out⟩
                case round =>
                  obtain ⟨j, y, m, hj, rfl, rfl, hy, hOm, hml, hinv, hsame, hBm⟩ := hrel
                  by_cases hjn : j < lo.length
                  · obtain ⟨g, c', e', hg⟩ := hOm.head (by rw [hml.out]; omega)
                    obtain ⟨rfl, _, _⟩ := Value.slice.inj e'
                    have hcell := hOm.cell hml.out j hjn
                    have hfr := hOm.frozen hml.out j
                    have hxl := hOm.lt j
                    have hxe := hsame.out j (Nat.le_refl _)
                    obtain ⟨x', hx'⟩ : ∃ x', x' = gd m j := ⟨_, rfl⟩
                    rw [← hx'] at hcell hxl hxe
                    obtain ⟨p, hpe⟩ : ∃ p, p = x' * s := ⟨_, rfl⟩
                    have hpi : (x' : Int) * (s : Int) = (p : Int) := by rw [hpe]; rfl
                    have hpl := word_mul hxl (show s < 4294967296 by omega)
                    rw [← hpe] at hpl
                    obtain ⟨s1, s2, s3⟩ := take_bounds hy hpl
                    have HOM := Lib.hid hOm; have HXE := Lib.hid hxe; have HPE := Lib.hid hpe; have S1 := Lib.hid s1; have S2 := Lib.hid s2
                    clear e' hx' hpe s1 s2 hOm hxe
                    have hf1 : decide ((j : Int) < (lo.length : Int)) = true := decide_eq_true (by omega)
                    go_wp2_with fail
                    go_roundw
                    case rel =>
                      have hst := HOM.out.stored hml.out j ((y + p) % 4294967296) S2.out
                      refine ⟨j + 1, (y + p) / 4294967296, m.set j ((y + p) % 4294967296), hjn, by go_num, rfl, S1.out, hst, Lib.hid (by rw [List.length_set]; exact hml.out), Lib.hid ?_, Lib.hid ?_, hBm.setCell hg _⟩
                      · have h3 := mulAdd_step (x := x') (s := s) (v' := (y + p) / 4294967296) (d := (y + p) % 4294967296) hinv.out (by rw [← HPE.out]; omega)
                        rw [val_take_set _ _ _ (by rw [hml.out]; exact hjn), val_take_succ, ← HXE.out, Nat.pow_succ, h3, Nat.add_mul]; omega
                      · intro q hq
                        rw [gd_set, if_neg (by omega)]; exact hsame.out q (by omega)
                    case measure => simp [intOf]; omega
                  · obtain rfl : j = lo.length := by omega
                    have hend : val m + 4294967296 ^ lo.length * y = decN (l.take (i + k)) := by
                      have := hinv.out
                      rw [val_take_full lo (Nat.le_refl _), HVT.out, ← hml.out, val_take_full m (Nat.le_refl _)] at this
                      rw [← hml.out]; exact this
                    have HEND := Lib.hid hend; have HOM := Lib.hid hOm
                    clear hend hOm
                    have hf1 : decide ((lo.length : Int) < (lo.length : Int)) = false := decide_eq_false (by omega)
                    by_cases hy0 : y = 0
                    · subst hy0
                      have hvm : val m = decN (l.take (i + k)) := by have := HEND.out; rw [Nat.mul_zero, Nat.add_zero] at this; exact this
                      have HVM := Lib.hid hvm; clear hvm
                      go_wp2_with fail
                      go_roundw
                      case rel => exact ⟨i + k, m, g3, by go_num, HOM.out, Lib.hid (by have := hll.out; rw [hml.out]; omega), HVM, HDGT, Lib.hid (.inr G4.out), hBm⟩
                      case measure => simp [intOf]; omega
                    · have hf2 : decide ((0 : Int) < (y : Int)) = true := decide_eq_true (by omega)
                      have hci : (y : Int) % 4294967296 = (y : Int) := by omega
                      have hone := num_one wr 75 y hy
                      have HONE := Lib.hid hone; clear hone
                      go_wp2_with (at_builtin; refine wpList_appendN Tryz.wordsTy rfl (.tmp 96) (.tmp 99) rfl w.heap.size _ _ m [y] rfl rfl (HOM.out.alloc _) HONE.out ?c1 ?c2 ?_)
                      case c1 => have := hll.out; rw [hml.out]; simp; omega
                      case c2 => have := hBm.size; simp; omega
                      intro v' w4 h1 h2 h3
                      have hvs : val (m ++ [y]) = decN (l.take (i + k)) := by rw [val_snoc, hml.out]; exact HEND.out
                      have h4 := h2 w (hBm.alloc hBm.size _)
                      have HVS := Lib.hid hvs
                      clear h2 hvs
                      go_wp2_with fail
                      go_roundw
                      case rel => exact ⟨i + k, m ++ [y], g3, by go_num, h1, Lib.hid (by have := hll.out; rw [List.length_append, hml.out]; simp; omega), HVS, HDGT, Lib.hid (.inr G4.out), h4⟩
                      case measure => simp [intOf]; omega
      · obtain rfl : i = l.length := by omega
        have hf1 : decide ((l.length : Int) < (l.length : Int)) = false := decide_eq_false (by omega)
        have htr := trim_any _ _ _ HO.out.num (by have := hll.out; omega)
        have hall : l.all isDig = true := by have := had.out; rwa [List.take_length] at this
        rw [hval.out, List.take_length] at htr
        have HT := Lib.hid htr; have HALL := Lib.hid hall
        clear htr hall
        go_wp2_with fail
        (with_reducible refine HT.out.mono ?_); rintro e w3 ⟨v3, l3, rfl, hb3, hn3, rfl⟩
        go_wp2_with fail
        go_ret2
        rw [HCC.out, HVV.out, HALL.out]
        exact ⟨_, rfl, HBR.out.step hb3, hn3⟩
  · go_enter Tryz.func106, Tryz.ntmps106
    go_wp2_with fail
    clear hix0 f1 hx hx2 hS2
    go_loopw [4, 5] (fun ov iv wr => ∃ (i : Nat) (lo : List Nat), i ≤ l.length ∧ iv = .int .i64 i ∧ OwnW 75 wr w.heap.size ov lo ∧ Hid (lo.length ≤ i) ∧ Hid (val lo = decN (l.take i)) ∧ Hid ((l.take i).all isDig = true) ∧ Hid (i = 0 ∨ (l.length - i) % 9 = 0) ∧ Below w.heap.size w wr) (fun _ iv _ => l.length - (intOf iv).toNat)
    case atStart => exact ⟨0, [], Nat.zero_le _, rfl, OwnW.nil _ _ _, Lib.hid (Nat.le_refl _), Lib.hid rfl, Lib.hid rfl, Lib.hid (.inl rfl), Below.refl _ _⟩
    case round =>
      obtain ⟨i, lo, hi, rfl, hO, hll, hval, had, h9, hBr⟩ := hrel
      obtain ⟨ao, ca, rfl, hca, hca2, _⟩ := hO.num.shape
      have HO := Lib.hid hO; have HBR := Lib.hid hBr; clear hO hBr
      obtain ⟨wo, rfl⟩ : ∃ wo : World, wo = wr := ⟨_, rfl⟩
      by_cases hin : i < l.length
      · have hf1 : decide ((i : Int) < (l.length : Int)) = true := decide_eq_true (by omega)
        obtain ⟨g1, g2, g3, g4⟩ := grp_le hin h9.out
        obtain ⟨n, hn⟩ : ∃ n, n = grp i l.length := ⟨_, rfl⟩
        rw [← hn] at g1 g2 g3 g4
        have HNG := Lib.hid hn; clear hn
        have G4 := Lib.hid g4; clear g4
        go_upto_region 9 with fail
        clear hf1
        go_cut [40] (fun cv wx => cv = .bool (decide (i = 0 ∧ l.length % 9 ≠ 0)) ∧ wo = wx)
        case first =>
          by_cases hi0 : i = 0
          · subst hi0
            by_cases hr : l.length % 9 = 0
            · have f2 : ((l.length : Int) % 9 != 0) = false := by rw [bne_eq_false_iff_eq]; omega
              have f3 : decide ((0 : Nat) = 0 ∧ l.length % 9 ≠ 0) = false := decide_eq_false (by omega)
              have HR := Lib.hid hr; have F3 := Lib.hid f3; clear hr f3
              go_wp2_with fail
              go_meet
              exact ⟨congrArg Value.bool F3.out.symm, rfl⟩
            · have f2 : ((l.length : Int) % 9 != 0) = true := by rw [bne_iff_ne]; omega
              have f3 : decide ((0 : Nat) = 0 ∧ l.length % 9 ≠ 0) = true := decide_eq_true (by omega)
              have HR := Lib.hid hr; have F3 := Lib.hid f3; clear hr f3
              go_wp2_with fail
              go_meet
              exact ⟨congrArg Value.bool F3.out.symm, rfl⟩
          · have f2 : ((i : Int) == 0) = false := by rw [beq_eq_false_iff_ne]; omega
            have f3 : decide (i = 0 ∧ l.length % 9 ≠ 0) = false := decide_eq_false (by omega)
            have F3 := Lib.hid f3; clear f3
            go_wp2_with fail
            go_meet
            exact ⟨congrArg Value.bool F3.out.symm, rfl⟩
        case rest =>
          obtain ⟨rfl, rfl⟩ := hcut
          obtain ⟨bb, hbb⟩ : ∃ bb, bb = decide (i = 0 ∧ l.length % 9 ≠ 0) := ⟨_, rfl⟩
          rw [← hbb]
          have HBB := Lib.hid hbb; clear hbb
          go_upto_if 40 with fail
          go_cut [6] (fun nv wx => nv = .int .i64 n ∧ wo = wx)
          case first =>
            cases bb with
            | true =>
              have hc := of_decide_eq_true HBB.out.symm
              have hnn : n = l.length % 9 := by rw [HNG.out]; unfold grp; rw [if_pos hc]
              have HNN := Lib.hid hnn
              clear hc hnn
              go_wp2_with fail
              go_meet
              exact ⟨by rw [HNN.out]; go_num, rfl⟩
            | false =>
              have hc := of_decide_eq_false HBB.out.symm
              have hnn : n = 9 := by rw [HNG.out]; unfold grp; rw [if_neg hc]
              have HNN := Lib.hid hnn
              clear hc hnn
              go_wp2_with fail
              go_meet
              exact ⟨by rw [HNN.out]; rfl, rfl⟩
          case rest =>
            obtain ⟨rfl, rfl⟩ := hcut
            clear HBB
            have hcs := HSL.out i (i + n) wo (by omega) g3
            rw [Nat.add_sub_cancel_left, show ((i + n : Nat) : Int) = (i : Int) + (n : Int) from by omega] at hcs
            obtain ⟨cc, w2, hcv, hB2, hcell⟩ := conv_bytes ((l.drop i).take n) wo
            rw [chunk_len g3] at hcv
            have hcl : ∀ k (h : k < n), w2.cell? ⟨wo.heap.size, k, none⟩ = some (.int .u8 ((l[i + k]'(by omega)).toNat : Nat)) := by
              intro k h
              have := hcell k (by rw [chunk_len g3]; exact h)
              rw [chunk_get g3 h] at this; exact this
            have HCL := Lib.hid hcl; have HB2 := Lib.hid hB2; have HO2 := Lib.hid (HO.out.below hB2)
            clear hcl hB2 hcell
            go_wp2_with fail
            clear hcs hcv
            go_loopw [7, 8, 52] (fun vv sv kv wx => ∃ k v s : Nat, k ≤ n ∧ kv = .int .i64 k ∧ vv = .int .u64 v ∧ sv = .int .u64 s ∧ v < 1000000000 ∧ s ≤ 1000000000 ∧ Hid (v = decN (((l.drop i).take n).take k)) ∧ Hid (s = 10 ^ k) ∧ Hid ((((l.drop i).take n).take k).all isDig = true) ∧ w2 = wx) (fun _ _ kv _ => n - (intOf kv).toNat)
            case atStart => exact ⟨0, 0, 1, Nat.zero_le _, rfl, rfl, rfl, by decide, by decide, Lib.hid rfl, Lib.hid rfl, Lib.hid rfl, rfl⟩
            case round =>
              obtain ⟨k, v, s, hk, rfl, rfl, rfl, hv9, hs9, hve, hse, hdg, rfl⟩ := hrel
              by_cases hkn : k < n
              · have hcell := HCL.out k hkn
                have hik : i + k < l.length := by omega
                obtain ⟨c, hc⟩ : ∃ c, c = (l[i + k]'hik).toNat := ⟨_, rfl⟩
                rw [← hc] at hcell
                have hdgc : isDig (l[i + k]'hik) = (decide (48 ≤ c) && decide (c ≤ 57)) := by rw [hc]; rfl
                have hcb : c < 256 := by rw [hc]; exact (l[i + k]'hik).toNat_lt
                have hkc : k < ((l.drop i).take n).length := by rw [chunk_len g3]; exact hkn
                have hget : ((l.drop i).take n)[k]'hkc = l[i + k]'hik := chunk_get g3 hkn
                have hf1 : decide ((k : Int) < (n : Int)) = true := decide_eq_true (by omega)
                have HDG := Lib.hid hdgc; have HC := Lib.hid hc; have HGET := Lib.hid hget
                clear hdgc hc hget
                by_cases hc1 : c < 48
                · have hf2 : decide ((c : Int) < 48) = true := decide_eq_true (by omega)
                  have hbad : l.all isDig = false := not_all hik (by rw [HDG.out]; simp; omega)
                  have HBAD := Lib.hid hbad; clear hbad
                  go_wp2_with fail
                  go_ret2
                  rw [HCC.out, HVV.out, HBAD.out]
                  exact ⟨_, by rw [if_neg (by decide)]; rfl, HBR.out.step HB2.out, by rw [if_neg (by decide), wd_zero]; exact Num.nil _⟩
                · have hf2 : decide ((c : Int) < 48) = false := decide_eq_false (by omega)
                  by_cases hc2 : 57 < c
                  · have hf3 : decide ((57 : Int) < (c : Int)) = true := decide_eq_true (by omega)
                    have hbad : l.all isDig = false := not_all hik (by rw [HDG.out]; simp; omega)
                    have HBAD := Lib.hid hbad; clear hbad
                    go_wp2_with fail
                    go_ret2
                    rw [HCC.out, HVV.out, HBAD.out]
                    exact ⟨_, by rw [if_neg (by decide)]; rfl, HBR.out.step HB2.out, by rw [if_neg (by decide), wd_zero]; exact Num.nil _⟩
                  · have hf3 : decide ((57 : Int) < (c : Int)) = false := decide_eq_false (by omega)
                    have hdg1 : (((l.drop i).take n).take (k + 1)).all isDig = true := by
                      rw [all_take_succ hkc, hdg.out, HGET.out, HDG.out]; simp; omega
                    have hv1 : 10 * v + (c - 48) = decN (((l.drop i).take n).take (k + 1)) := by
                      rw [decN_take_succ hkc, ← hve.out, HGET.out, ← HC.out]
                    have hb1 := decN_len hdg1
                    have hp1 : 10 ^ (k + 1) ≤ 10 ^ 9 := Nat.pow_le_pow_right (by decide) (by omega)
                    have hp2 : ((((l.drop i).take n).take (k + 1))).length ≤ 9 := by rw [List.length_take]; omega
                    have hp3 : 10 ^ (((l.drop i).take n).take (k + 1)).length ≤ 10 ^ 9 := Nat.pow_le_pow_right (by decide) hp2
                    rw [show (10 ^ 9 : Nat) = 1000000000 from rfl] at hp1 hp3
                    have hv2 : 10 * v + (c - 48) < 1000000000 := by omega
                    have hs2 : s * 10 = 10 ^ (k + 1) := by rw [hse.out, Nat.pow_succ]
                    have hs3 : s * 10 ≤ 1000000000 := by omega
                    have HV1 := Lib.hid hv1; have HS2 := Lib.hid hs2; have HDG1 := Lib.hid hdg1
                    clear hv1 hb1 hp1 hp2 hp3 hs2 hdg1
                    go_wp2_with fail
                    go_roundw
                    case rel => exact ⟨k + 1, 10 * v + (c - 48), s * 10, by omega, by go_num, by go_num, by go_num, hv2, hs3, HV1, HS2, HDG1, trivial⟩
                    case measure => simp [intOf]; omega
              · obtain rfl : k = n := by omega
                have hdg0 := hdg.out
                have hve0 := hve.out
                rw [List.take_of_length_le (by rw [chunk_len g3]; exact Nat.le_refl _)] at hdg0 hve0
                have hdgT : (l.take (i + k)).all isDig = true := by rw [all_chunk, had.out, hdg0]; rfl
                have hvT : val lo * s + v = decN (l.take (i + k)) := by rw [decN_chunk g3, ← hve0, ← hse.out, hval.out]
                have HDGT := Lib.hid hdgT; have HVT := Lib.hid hvT
                clear hdg0 hve0 hdgT hvT
                go_wp2_with fail
                go_loopw [7, 74] (fun vv kv wr => ∃ (j y : Nat) (m : List Nat), j ≤ lo.length ∧ kv = .int .i64 j ∧ vv = .int .u64 y ∧ y < 4294967296 ∧ OwnW 75 wr w.heap.size (.slice ao lo.length ca) m ∧ Hid (m.length = lo.length) ∧ Hid (val (m.take j) + 4294967296 ^ j * y = val (lo.take j) * s + v) ∧ Hid (∀ x, j ≤ x → gd m x = gd lo x) ∧ Below w.heap.size w wr) (fun _ kv _ => lo.length - (intOf kv).toNat)
                case atStart => exact ⟨0, v, lo, Nat.zero_le _, rfl, rfl, by omega, HO2.out, Lib.hid rfl, Lib.hid (by simp [val]), Lib.hid (fun _ _ => rfl), HBR.out.step HB2.out⟩
                case round =>
                  obtain ⟨j, y, m, hj, rfl, rfl, hy, hOm, hml, hinv, hsame, hBm⟩ := hrel
                  by_cases hjn : j < lo.length
                  · obtain ⟨g, c', e', hg⟩ := hOm.head (by rw [hml.out]; omega)
                    obtain ⟨rfl, _, _⟩ := Value.slice.inj e'
                    have hcell := hOm.cell hml.out j hjn
                    have hfr := hOm.frozen hml.out j
                    have hxl := hOm.lt j
                    have hxe := hsame.out j (Nat.le_refl _)
                    obtain ⟨x', hx'⟩ : ∃ x', x' = gd m j := ⟨_, rfl⟩
                    rw [← hx'] at hcell hxl hxe
                    obtain ⟨p, hpe⟩ : ∃ p, p = x' * s := ⟨_, rfl⟩
                    have hpi : (x' : Int) * (s : Int) = (p : Int) := by rw [hpe]; rfl
                    have hpl := word_mul hxl (show s < 4294967296 by omega)
                    rw [← hpe] at hpl
                    obtain ⟨s1, s2, s3⟩ := take_bounds hy hpl
                    have HOM := Lib.hid hOm; have HXE := Lib.hid hxe; have HPE := Lib.hid hpe; have S1 := Lib.hid s1; have S2 := Lib.hid s2
                    clear e' hx' hpe s1 s2 hOm hxe
                    have hf1 : decide ((j : Int) < (lo.length : Int)) = true := decide_eq_true (by omega)
                    go_wp2_with fail
                    go_roundw
                    case rel =>
                      have hst := HOM.out.stored hml.out j ((y + p) % 4294967296) S2.out
                      refine ⟨j + 1, (y + p) / 4294967296, m.set j ((y + p) % 4294967296), hjn, by go_num, rfl, S1.out, hst, Lib.hid (by rw [List.length_set]; exact hml.out), Lib.hid ?_, Lib.hid ?_, hBm.setCell hg _⟩
                      · have h3 := mulAdd_step (x := x') (s := s) (v' := (y + p) / 4294967296) (d := (y + p) % 4294967296) hinv.out (by rw [← HPE.out]; omega)
                        rw [val_take_set _ _ _ (by rw [hml.out]; exact hjn), val_take_succ, ← HXE.out, Nat.pow_succ, h3, Nat.add_mul]; omega
                      · intro q hq
                        rw [gd_set, if_neg (by omega)]; exact hsame.out q (by omega)
                    case measure => simp [intOf]; omega
                  · obtain rfl : j = lo.length := by omega
                    have hend : val m + 4294967296 ^ lo.length * y = decN (l.take (i + k)) := by
                      have := hinv.out
                      rw [val_take_full lo (Nat.le_refl _), HVT.out, ← hml.out, val_take_full m (Nat.le_refl _)] at this
                      rw [← hml.out]; exact this
                    have HEND := Lib.hid hend; have HOM := Lib.hid hOm
                    clear hend hOm
                    have hf1 : decide ((lo.length : Int) < (lo.length : Int)) = false := decide_eq_false (by omega)
                    by_cases hy0 : y = 0
                    · subst hy0
                      have hvm : val m = decN (l.take (i + k)) := by have := HEND.out; rw [Nat.mul_zero, Nat.add_zero] at this; exact this
                      have HVM := Lib.hid hvm; clear hvm
                      go_wp2_with fail
                      go_roundw
                      case rel => exact ⟨i + k, m, g3, by go_num, HOM.out, Lib.hid (by have := hll.out; rw [hml.out]; omega), HVM, HDGT, Lib.hid (.inr G4.out), hBm⟩
                      case measure => simp [intOf]; omega
                    · have hf2 : decide ((0 : Int) < (y : Int)) = true := decide_eq_true (by omega)
                      have hci : (y : Int) % 4294967296 = (y : Int) := by omega
                      have hone := num_one wr 75 y hy
                      have HONE := Lib.hid hone; clear hone
                      go_wp2_with (at_builtin; refine wpList_appendN Tryz.wordsTy rfl (.tmp 96) (.tmp 99) rfl w.heap.size _ _ m [y] rfl rfl (HOM.out.alloc _) HONE.out ?c1 ?c2 ?_)
                      case c1 => have := hll.out; rw [hml.out]; simp; omega
                      case c2 => have := hBm.size; simp; omega
                      intro v' w4 h1 h2 h3
                      have hvs : val (m ++ [y]) = decN (l.take (i + k)) := by rw [val_snoc, hml.out]; exact HEND.out
                      have h4 := h2 w (hBm.alloc hBm.size _)
                      have HVS := Lib.hid hvs
                      clear h2 hvs
                      go_wp2_with fail
                      go_roundw
                      case rel => exact ⟨i + k, m ++ [y], g3, by go_num, h1, Lib.hid (by have := hll.out; rw [List.length_append, hml.out]; simp; omega), HVS, HDGT, Lib.hid (.inr G4.out), h4⟩
                      case measure => simp [intOf]; omega
      · obtain rfl : i = l.length := by omega
        have hf1 : decide ((l.length : Int) < (l.length : Int)) = false := decide_eq_false (by omega)
        have htr := trim_any _ _ _ HO.out.num (by have := hll.out; omega)
        have hall : l.all isDig = true := by have := had.out; rwa [List.take_length] at this
        rw [hval.out, List.take_length] at htr
        have HT := Lib.hid htr; have HALL := Lib.hid hall
        clear htr hall
        go_wp2_with fail
        (with_reducible refine HT.out.mono ?_); rintro e w3 ⟨v3, l3, rfl, hb3, hn3, rfl⟩
        go_wp2_with fail
        go_ret2
        rw [HCC.out, HVV.out, HALL.out]
        exact ⟨_, rfl, HBR.out.step hb3, hn3⟩
theorem parse_any (l : List UInt8) (w : World) (h : l.length ≤ 9223372036854775807) :
    Calls Tryz.prog 106 #[.string ⟨l.toArray⟩] w (RetNE w (parV l) (errV (parC l))) := by
  rcases par_cases l with h1 | rfl | ⟨y, m, rfl, h1⟩ | ⟨h1, h2, h3, h4⟩
  · obtain ⟨e1, e2⟩ := parC_big h1
    rw [e1, e2]; exact parse_large l w h1 h
  · obtain ⟨e1, e2⟩ := parC_form (l := []) (by decide) (.inl rfl)
    rw [e1, e2]; exact parse_empty w
  · obtain ⟨e1, e2⟩ := parC_form (l := 48 :: y :: m) h1 (.inr ⟨rfl, by simp⟩)
    rw [e1, e2]; exact parse_zero y m w (by simp at h1; omega)
  · obtain ⟨e1, e2⟩ := parC_scan h1 h2
    rw [e1, e2]; exact parse_loop l w h1 h3 h4
theorem parC_small (l : List UInt8) : parC l ≤ 4 := by
  unfold parC; split
  · decide
  · split
    · decide
    · split <;> decide
theorem parV_len {l : List UInt8} {K : Nat} (h : l.length ≤ K) : (wd (parV l)).length ≤ K := by
  unfold parV; split
  · rename_i h1
    unfold parC at h1
    split at h1
    · cases h1
    · split at h1
      · cases h1
      · split at h1
        · rename_i h3
          have := decN_words' (l := l) (k := l.length) h (by rw [List.take_length]; exact h3)
          rwa [List.take_length] at this
        · cases h1
  · rw [wd_zero]; exact Nat.zero_le _
end Go.Proofs.YtkedjammeoaciaaGreatDoor
/-
  rational.decimal: what it hands back.
  Conditions: each theorem's own.
-/
namespace Go.Proofs.YtkedjammeoaciaaGreatDoor
open Go.RowKit Go.ChangeShapes Go.WideShapes

theorem bytes_ne {l : List UInt8} (h : l ≠ []) : (⟨l.toArray⟩ : ByteArray).toList.isEmpty = false := by
  rw [ByteArray.toList_eq]
  show l.isEmpty = false
  cases l with
  | nil => exact absurd rfl h
  | cons _ _ => rfl
set_option maxRecDepth 100000 in
set_option maxHeartbeats 3200000 in
theorem dec_long (neg : Bool) (a : List UInt8) (b : List UInt8) (n : Int) (w : World)  (hn : 64 < n) :
    Calls Tryz.prog 105 #[.bool neg, .string ⟨a.toArray⟩, .string ⟨b.toArray⟩, .int .i64 n] w (RetRE w 0 (errV 2)) := by
  rw [errV_pos (by decide)]
  have hb0 := ((Below.refl w.heap.size w).alloc (by first | (simp; done) | (simp; omega)) (.cells #[.bool false, .slice none 0 0, .slice none 0 0] 24))
  have hxR := nest1_0 w (.cells #[.bool false, .slice none 0 0, .slice none 0 0] 24)
  obtain ⟨w0, hw0⟩ : ∃ w0, w0 = (w.alloc (.cells #[.bool false, .slice none 0 0, .slice none 0 0] 24)) := ⟨_, rfl⟩
  rw [← hw0] at hb0 hxR
  have HB0 := Lib.hid hb0; have HW0 := Lib.hid hw0
  have BXR := Lib.hid hxR
  clear hb0 hw0 hxR
  have f1 : decide (64 < n) = true := decide_eq_true hn
  go_enter Tryz.func105, Tryz.ntmps105
  go_wp2_with fail
  rw [← HW0.out]
  refine ret_rat2 rfl w.heap.size _ _ _ rfl BXR.out rfl ?_
  exact ⟨_, rfl, HB0.out, isR_zero _⟩
set_option maxRecDepth 100000 in
set_option maxHeartbeats 3200000 in
theorem dec_empty (neg : Bool) (a : List UInt8) (b : List UInt8) (n : Int) (w : World)  (hn : n ≤ 64) (hb : b = []) :
    Calls Tryz.prog 105 #[.bool neg, .string ⟨a.toArray⟩, .string ⟨b.toArray⟩, .int .i64 n] w (RetRE w 0 (errV 2)) := by
  rw [errV_pos (by decide)]
  subst hb
  have hb0 := ((Below.refl w.heap.size w).alloc (by first | (simp; done) | (simp; omega)) (.cells #[.bool false, .slice none 0 0, .slice none 0 0] 24))
  have hxR := nest1_0 w (.cells #[.bool false, .slice none 0 0, .slice none 0 0] 24)
  obtain ⟨w0, hw0⟩ : ∃ w0, w0 = (w.alloc (.cells #[.bool false, .slice none 0 0, .slice none 0 0] 24)) := ⟨_, rfl⟩
  rw [← hw0] at hb0 hxR
  have HB0 := Lib.hid hb0; have HW0 := Lib.hid hw0
  have BXR := Lib.hid hxR
  clear hb0 hw0 hxR
  have f1 : decide (64 < n) = false := decide_eq_false (by omega)
  go_enter Tryz.func105, Tryz.ntmps105
  go_wp2_with fail
  rw [← HW0.out]
  refine ret_rat2 rfl w.heap.size _ _ _ rfl BXR.out rfl ?_
  exact ⟨_, rfl, HB0.out, isR_zero _⟩
set_option maxRecDepth 100000 in
set_option maxHeartbeats 3200000 in
theorem dec_bad (neg : Bool) (a : List UInt8) (b : List UInt8) (n : Int) (w : World)  (hn : n ≤ 64) (hb : b ≠ []) (hbl : b.length ≤ 200) (hd : b.all isDig = false) :
    Calls Tryz.prog 105 #[.bool neg, .string ⟨a.toArray⟩, .string ⟨b.toArray⟩, .int .i64 n] w (RetRE w 0 (errV 2)) := by
  rw [errV_pos (by decide)]
  have hb0 := ((Below.refl w.heap.size w).alloc (by first | (simp; done) | (simp; omega)) (.cells #[.bool false, .slice none 0 0, .slice none 0 0] 24))
  have hxR := nest1_0 w (.cells #[.bool false, .slice none 0 0, .slice none 0 0] 24)
  obtain ⟨w0, hw0⟩ : ∃ w0, w0 = (w.alloc (.cells #[.bool false, .slice none 0 0, .slice none 0 0] 24)) := ⟨_, rfl⟩
  rw [← hw0] at hb0 hxR
  have HB0 := Lib.hid hb0; have HW0 := Lib.hid hw0
  have BXR := Lib.hid hxR
  clear hb0 hw0 hxR
  have f1 : decide (64 < n) = false := decide_eq_false (by omega)
  have hs2 := bytes_ne hb
  have htn : Lib.trimS b digits10 ≠ [] := fun e => by have := (trimS_digits b).1 e; rw [hd] at this; cases this
  have ht2 := bytes_ne htn
  have htr := fun wx => trim_digits b wx (by omega)
  obtain ⟨T, hT⟩ : ∃ T : ByteArray, T = ⟨(Lib.trimS b digits10).toArray⟩ := ⟨_, rfl⟩; obtain ⟨S, hS⟩ : ∃ S : ByteArray, S = ⟨b.toArray⟩ := ⟨_, rfl⟩
  rw [← hT] at ht2 htr; rw [← hS] at hs2 htr ⊢
  have HT := Lib.hid htr; clear htr hT hS htn hd hb
  go_enter Tryz.func105, Tryz.ntmps105
  have hs := HT.out w0
  have HS := Lib.hid hs; clear hs
  go_wp2_with fail
  rw [← HW0.out]
  (with_reducible refine HS.out.mono ?_); rintro e w1 ⟨rfl, hb1⟩
  clear HS
  have HB1 := Lib.hid (HB0.out.step hb1)
  have BXR := Lib.hid (heap_below BXR.out hb1)
  clear hb1
  obtain ⟨eR0, eR1, eR2⟩ := row3 BXR.out
  obtain ⟨fR0, fR1, fR2⟩ := froz3 BXR.out
  go_wp2_with fail
  refine ret_rat2 rfl w.heap.size _ _ _ rfl (put3_heap BXR.out) rfl ?_
  exact ⟨_, rfl, put3_below HB1.out (by omega) _ _ _, isR_zero _⟩
set_option maxRecDepth 100000 in
set_option maxHeartbeats 3200000 in
theorem dec_whole (neg : Bool) (a : List UInt8) (b : List UInt8) (n : Int) (w : World)  (hn : n ≤ 64) (hb : b ≠ []) (hbl : b.length ≤ 200) (hd : b.all isDig = true) (hal : a.length ≤ 200) (ha : parC a ≠ 0) :
    Calls Tryz.prog 105 #[.bool neg, .string ⟨a.toArray⟩, .string ⟨b.toArray⟩, .int .i64 n] w (RetRE w 0 (errV 2)) := by
  rw [errV_pos (by decide)]
  have hb0 := ((Below.refl w.heap.size w).alloc (by first | (simp; done) | (simp; omega)) (.cells #[.bool false, .slice none 0 0, .slice none 0 0] 24))
  have hxR := nest1_0 w (.cells #[.bool false, .slice none 0 0, .slice none 0 0] 24)
  obtain ⟨w0, hw0⟩ : ∃ w0, w0 = (w.alloc (.cells #[.bool false, .slice none 0 0, .slice none 0 0] 24)) := ⟨_, rfl⟩
  rw [← hw0] at hb0 hxR
  have HB0 := Lib.hid hb0; have HW0 := Lib.hid hw0
  have BXR := Lib.hid hxR
  clear hb0 hw0 hxR
  have f1 : decide (64 < n) = false := decide_eq_false (by omega)
  have hs2 := bytes_ne hb
  have htn : Lib.trimS b digits10 = [] := (trimS_digits b).2 hd
  have htr := fun wx => trim_digits b wx (by omega)
  rw [htn] at htr
  have hpa := fun wx => parse_any a wx (by omega)
  rw [errV_pos ha] at hpa
  obtain ⟨S, hS⟩ : ∃ S : ByteArray, S = ⟨b.toArray⟩ := ⟨_, rfl⟩; obtain ⟨A, hA⟩ : ∃ A : ByteArray, A = ⟨a.toArray⟩ := ⟨_, rfl⟩
  rw [← hS] at hs2 htr ⊢; rw [← hA] at hpa ⊢
  have HT := Lib.hid htr; have HP := Lib.hid hpa; clear htr hpa hS hA htn hd hb ha
  go_enter Tryz.func105, Tryz.ntmps105
  have hs := HT.out w0
  have HS := Lib.hid hs; clear hs
  go_wp2_with fail
  rw [← HW0.out]
  (with_reducible refine HS.out.mono ?_); rintro e w1 ⟨rfl, hb1⟩
  clear HS
  have HB1 := Lib.hid (HB0.out.step hb1)
  have BXR := Lib.hid (heap_below BXR.out hb1)
  clear hb1
  have hs := HP.out w1
  have HS := Lib.hid hs; clear hs
  go_wp2_with fail
  (with_reducible refine HS.out.mono ?_); rintro e w2 ⟨v2, rfl, hb2, hn2⟩
  clear HS
  have HB2 := Lib.hid (HB1.out.step hb2)
  have BXR := Lib.hid (heap_below BXR.out hb2)
  clear hn2
  clear hb2
  obtain ⟨eR0, eR1, eR2⟩ := row3 BXR.out
  obtain ⟨fR0, fR1, fR2⟩ := froz3 BXR.out
  go_wp2_with fail
  refine ret_rat2 rfl w.heap.size _ _ _ rfl (put3_heap BXR.out) rfl ?_
  exact ⟨_, rfl, put3_below HB2.out (by omega) _ _ _, isR_zero _⟩
set_option maxRecDepth 100000 in
set_option maxHeartbeats 6400000 in
theorem dec_ok (neg : Bool) (a : List UInt8) (b : List UInt8) (n : Int) (w : World)  (hn : n ≤ 64) (hb : b ≠ []) (hbl : b.length ≤ 200) (hd : b.all isDig = true) (hal : a.length ≤ 200) (ha : parC a = 0) :
    Calls Tryz.prog 105 #[.bool neg, .string ⟨a.toArray⟩, .string ⟨b.toArray⟩, .int .i64 n] w (RetRE w (qm neg (parV a * 10 ^ b.length + decN b) (10 ^ b.length)) (errV 0)) := by
  rw [errV_zero]
  have hb0 := ((Below.refl w.heap.size w).alloc (by first | (simp; done) | (simp; omega)) (.cells #[.bool false, .slice none 0 0, .slice none 0 0] 24))
  have hxR := nest1_0 w (.cells #[.bool false, .slice none 0 0, .slice none 0 0] 24)
  obtain ⟨w0, hw0⟩ : ∃ w0, w0 = (w.alloc (.cells #[.bool false, .slice none 0 0, .slice none 0 0] 24)) := ⟨_, rfl⟩
  rw [← hw0] at hb0 hxR
  have HB0 := Lib.hid hb0; have HW0 := Lib.hid hw0
  have BXR := Lib.hid hxR
  clear hb0 hw0 hxR
  have f1 : decide (64 < n) = false := decide_eq_false (by omega)
  have hs2 := bytes_ne hb
  have htn : Lib.trimS b digits10 = [] := (trimS_digits b).2 hd
  have htr := fun wx => trim_digits b wx (by omega)
  rw [htn] at htr
  have hpa := fun wx => parse_any a wx (by omega)
  rw [ha, errV_zero] at hpa
  have hcv := conv_bytes b
  obtain ⟨S, hS⟩ : ∃ S : ByteArray, S = ⟨b.toArray⟩ := ⟨_, rfl⟩; obtain ⟨A, hA⟩ : ∃ A : ByteArray, A = ⟨a.toArray⟩ := ⟨_, rfl⟩; obtain ⟨V, hV⟩ : ∃ V, V = parV a := ⟨_, rfl⟩
  have hvl : (wd V).length ≤ 200 := by rw [hV]; exact parV_len hal
  rw [← hS] at hs2 htr hcv ⊢; rw [← hA, ← hV] at hpa; rw [← hA, ← hV]
  have HT := Lib.hid htr; have HP := Lib.hid hpa; have HCV := Lib.hid hcv; have HDG := Lib.hid hd; clear htr hpa hcv hS hA hV htn hd hb ha
  go_enter Tryz.func105, Tryz.ntmps105
  have hs := HT.out w0
  have HS := Lib.hid hs; clear hs
  go_wp2_with fail
  rw [← HW0.out]
  (with_reducible refine HS.out.mono ?_); rintro e w1 ⟨rfl, hb1⟩
  clear HS
  have HB1 := Lib.hid (HB0.out.step hb1)
  have BXR := Lib.hid (heap_below BXR.out hb1)
  clear hb1
  have hs := HP.out w1
  have HS := Lib.hid hs; clear hs
  go_wp2_with fail
  (with_reducible refine HS.out.mono ?_); rintro e w2 ⟨v2, rfl, hb2, hn2⟩
  clear HS
  have HB2 := Lib.hid (HB1.out.step hb2)
  have BXR := Lib.hid (heap_below BXR.out hb2)
  have N := Lib.hid hn2; clear hn2
  clear hb2
  have hs := one_any w2
  have HS := Lib.hid hs; clear hs
  go_wp2_with fail
  (with_reducible refine HS.out.mono ?_); rintro e w3 ⟨v3, rfl, hb3, hn3⟩
  clear HS
  have HB3 := Lib.hid (HB2.out.step hb3)
  have N := Lib.hid (N.out.below hb3)
  have BXR := Lib.hid (heap_below BXR.out hb3)
  have D := Lib.hid hn3; clear hn3
  clear hb3
  obtain ⟨cc, w5, hcv, hb5, hcell⟩ := HCV.out w3
  have HCELL := Lib.hid hcell; clear hcell
  go_wp2_with fail
  clear hcv hs2 f1
  have HB5 := Lib.hid (HB3.out.step hb5); have N := Lib.hid (N.out.below hb5); have D := Lib.hid (D.out.below hb5); have BXR := Lib.hid (heap_below BXR.out hb5)
  clear hb5
  go_loopw [10, 12, 41] (fun nv dv kv wr => ∃ k : Nat, k ≤ b.length ∧ kv = .int .i64 k ∧ Num wr nv (wd (V * 10 ^ k + decN (b.take k))) ∧ Num wr dv (wd (10 ^ k)) ∧ Below w5.heap.size w5 wr) (fun _ _ kv _ => b.length - (intOf kv).toNat)
  case atStart => exact ⟨0, Nat.zero_le _, rfl, by rw [Nat.pow_zero, Nat.mul_one, List.take_zero, decN_nil, Nat.add_zero]; exact N.out, by rw [Nat.pow_zero]; exact D.out, Below.refl _ _⟩
  case round =>
    obtain ⟨k, hk, rfl, hno, hdo, hBr⟩ := hrel
    have HNO := Lib.hid hno; have HDO := Lib.hid hdo; have HBR := Lib.hid hBr; clear hno hdo hBr
    by_cases hkn : k < b.length
    · have hcell := (HBR.out.cell (p := ⟨w3.heap.size, k, none⟩) (World.block_lt_of_cell? _ _ (HCELL.out k hkn))).trans (HCELL.out k hkn)
      obtain ⟨c, hc⟩ : ∃ c, c = (b[k]).toNat := ⟨_, rfl⟩
      rw [← hc] at hcell
      have hdg : isDig b[k] = true := List.all_eq_true.1 HDG.out _ (List.getElem_mem hkn)
      have hcb : 48 ≤ c ∧ c ≤ 57 := by rw [hc]; simpa [isDig] using hdg
      obtain ⟨hcb1, hcb2⟩ := hcb
      have hval : (V * 10 ^ k + decN (b.take k)) * 10 + (c - 48) = V * 10 ^ (k + 1) + decN (b.take (k + 1)) := by
        rw [decN_take_succ hkn, ← hc, Nat.pow_succ, ← Nat.mul_assoc, Nat.add_mul]; omega
      have hall : (b.take k).all isDig = true := List.all_eq_true.2 fun x hx => List.all_eq_true.1 HDG.out x (List.mem_of_mem_take hx)
      have hl1 := decN_words' (K := 200) hbl hall
      have hl2 : (wd (10 ^ k)).length ≤ 200 := wd_length_of_lt (Nat.lt_of_le_of_lt (Nat.pow_le_pow_right (by decide) (show k ≤ 199 by omega)) (by decide))
      have hl3 := wd_mul_len V (10 ^ k)
      have hl4 := wd_add_len (V * 10 ^ k) (decN (b.take k))
      obtain ⟨M, hM⟩ : ∃ M, M = V * 10 ^ k + decN (b.take k) := ⟨_, rfl⟩
      obtain ⟨T, hT⟩ : ∃ T, T = 10 ^ k := ⟨_, rfl⟩
      rw [← hM] at hval hl4 HNO; rw [← hT] at hl2 HDO hl3
      have hml : (wd M).length ≤ 402 := by rw [← hT] at hl4; omega
      have HVAL := Lib.hid hval; have HTT := Lib.hid hT
      clear hval hc hdg hall hl1 hl3 hl4 hM hT
      have h10 : (wd 10).length ≤ 1 := by rw [wd_one (by decide) (by decide)]; simp
      have hf1 : decide ((k : Int) < (b.length : Int)) = true := decide_eq_true (by omega)
      have ht0 := num_one wr 75 10 (by decide)
      rw [← wd_one (n := 10) (by decide) (by decide), show ((10 : Nat) : Int) = 10 from rfl] at ht0
      have hal : Below wr.heap.size wr (wr.alloc (.cells #[.int .u32 10] 75)) := (Below.refl _ _).alloc (Nat.le_refl _) _
      have hs := mulN (HNO.out.below hal) ht0 (by omega) (by omega)
      have HAL := Lib.hid hal
      have HS := Lib.hid hs; clear hs ht0 hal
      go_wp2_with fail
      (with_reducible refine HS.out.mono ?_); rintro e w6 ⟨v6, rfl, hb6, hn6⟩
      have HB6 := Lib.hid (HAL.out.step hb6); have HN6 := Lib.hid hn6; clear hb6 hn6 HS
      have hs := of_any ((c : Int) - 48) w6 (by omega) (by omega)
      rw [show ((c : Int) - 48).toNat = c - 48 by omega] at hs
      have HS := Lib.hid hs; clear hs
      go_wp2_with fail
      (with_reducible refine HS.out.mono ?_); rintro e w7 ⟨v7, l7, rfl, hb7, hn7, rfl⟩
      have hwc : (wd (c - 48)).length ≤ 1 := wd_length_of_lt (by omega)
      have hwm : (wd (M * 10)).length ≤ 403 := by have := wd_mul_len M 10; omega
      have hs := addN (HN6.out.below hb7) hn7 (by omega) (by omega)
      rw [HVAL.out] at hs
      have HB7 := Lib.hid (HB6.out.step hb7)
      have HS := Lib.hid hs; clear hs hb7 hn7
      go_wp2_with fail
      (with_reducible refine HS.out.mono ?_); rintro e w8 ⟨v8, rfl, hb8, hn8⟩
      have HB8 := Lib.hid (HB7.out.step hb8); have HN8 := Lib.hid hn8; clear hb8 hn8 HS
      have ht0 := num_one w8 75 10 (by decide)
      rw [← wd_one (n := 10) (by decide) (by decide), show ((10 : Nat) : Int) = 10 from rfl] at ht0
      have hal : Below w8.heap.size w8 (w8.alloc (.cells #[.int .u32 10] 75)) := (Below.refl _ _).alloc (Nat.le_refl _) _
      have hs := mulN ((HDO.out.below HB8.out).below hal) ht0 (by omega) (by omega)
      have HAL := Lib.hid hal
      have HS := Lib.hid hs; clear hs ht0 hal
      go_wp2_with fail
      (with_reducible refine HS.out.mono ?_); rintro e w9 ⟨v9, rfl, hb9, hn9⟩
      have HB9 := Lib.hid (HAL.out.step hb9); have HN9 := Lib.hid hn9; clear hb9 hn9 HS
      go_wp2_with fail
      go_roundw
      case rel => exact ⟨k + 1, hkn, by go_num, HN8.out.below HB9.out, by rw [Nat.pow_succ, ← HTT.out]; exact HN9.out, (HBR.out.step HB8.out).step HB9.out⟩
      case measure => simp [intOf]; omega
    · obtain rfl : k = b.length := by omega
      have hf1 : decide ((b.length : Int) < (b.length : Int)) = false := decide_eq_false (by omega)
      have htk : b.take b.length = b := List.take_length
      rw [htk] at HNO
      have hl1 := decN_words' (l := b) (k := b.length) (K := 200) hbl (by rw [htk]; exact HDG.out)
      rw [htk] at hl1
      have hl2 : (wd (10 ^ b.length)).length ≤ 201 := wd_length_of_lt (Nat.lt_of_le_of_lt (Nat.pow_le_pow_right (by decide) hbl) (by decide))
      have hl3 := wd_mul_len V (10 ^ b.length)
      have hl4 := wd_add_len (V * 10 ^ b.length) (decN b)
      have hp0 : 10 ^ b.length ≠ 0 := Nat.ne_of_gt (Nat.pow_pos (by decide))
      obtain ⟨T, hT⟩ : ∃ T, T = 10 ^ b.length := ⟨_, rfl⟩
      obtain ⟨M, hM⟩ : ∃ M, M = V * T + decN b := ⟨_, rfl⟩
      have hqe : qm neg M T = qm neg (V * 10 ^ b.length + decN b) (10 ^ b.length) := by rw [hM, hT]
      have HQE := Lib.hid hqe; clear hqe
      rw [← hT] at hl2 HDO hl3 hl4 HNO hp0
      rw [← hM] at hl4 HNO
      have hs := formN neg HNO.out HDO.out (by omega) (by omega) hp0
      have HS := Lib.hid hs; clear hs hp0 hT hM hl1 hl2 hl3 hl4 htk
      go_wp2_with fail
      (with_reducible refine HS.out.mono ?_); rintro e w6 ⟨v6, rfl, hb6, hn6⟩
      have BXR := Lib.hid (heap_below (heap_below BXR.out HBR.out) hb6); have HB6 := Lib.hid ((HB5.out.step HBR.out).step hb6); have Q := Lib.hid hn6
      clear hb6 hn6 HS
      obtain ⟨sQ, oQ, nQ, cQ, aQ, mQ, dQ, rfl⟩ := Q.out.shape
      obtain ⟨eR0, eR1, eR2⟩ := row3 BXR.out
      obtain ⟨fR0, fR1, fR2⟩ := froz3 BXR.out
      go_wp2_with fail
      refine ret_rat2 rfl w.heap.size _ _ _ rfl (put3_heap BXR.out) rfl ?_
      exact ⟨_, rfl, put3_below HB6.out (by omega) _ _ _, by rw [← HQE.out]; exact isR_put Q.out BXR.out⟩
/-- what decimal comes to -/
def dcO (neg : Bool) (a b : List UInt8) (n : Int) : Option Rat := if n ≤ 64 then dmV neg a b else none
def oQ (o : Option Rat) : Rat := o.getD 0
def oC (o : Option Rat) : Nat := if o.isSome then 0 else 2
theorem dec_any (neg : Bool) (a b : List UInt8) (n : Int) (w : World) (hal' : n ≤ 64 → a.length ≤ 200) (hbl' : n ≤ 64 → b.length ≤ 200) :
    Calls Tryz.prog 105 #[.bool neg, .string ⟨a.toArray⟩, .string ⟨b.toArray⟩, .int .i64 n] w (RetRE w (oQ (dcO neg a b n)) (errV (oC (dcO neg a b n)))) := by
  unfold dcO dmV
  by_cases h1 : n ≤ 64
  · rw [if_pos h1]
    have hal := hal' h1
    have hbl := hbl' h1
    by_cases h2 : b = []
    · rw [if_neg (fun h => h.1 h2)]; exact dec_empty neg a b n w h1 h2
    · by_cases h3 : b.all isDig = true
      · by_cases h4 : parC a = 0
        · rw [if_pos ⟨h2, h3, h4⟩]; exact dec_ok neg a b n w h1 h2 hbl h3 hal h4
        · rw [if_neg (fun h => h4 h.2.2)]; exact dec_whole neg a b n w h1 h2 hbl h3 hal h4
      · rw [if_neg (fun h => h3 h.2.1)]; exact dec_bad neg a b n w h1 h2 hbl (Bool.eq_false_iff.2 h3)
  · rw [if_neg h1]; exact dec_long neg a b n w (by omega)
end Go.Proofs.YtkedjammeoaciaaGreatDoor
/-
  rational.Parse: what it hands back.
  Conditions: each theorem's own.
-/
namespace Go.Proofs.YtkedjammeoaciaaGreatDoor
open Go.RowKit Go.ChangeShapes Go.WideShapes

theorem preL_len (c : UInt8) (l : List UInt8) : (preL c l).1.length ≤ l.length := by
  unfold preL; split
  · rw [List.length_tail]; omega
  · exact Nat.le_refl _
theorem cut3_len (c : UInt8) (l : List UInt8) : (cut3 c l).1.length ≤ l.length ∧ (cut3 c l).2.1.length ≤ l.length := by
  unfold cut3
  cases h : cutL c l with
  | none => exact ⟨Nat.le_refl _, Nat.zero_le _⟩
  | some p =>
    obtain ⟨_, h2⟩ := cutL_mem h
    have := congrArg List.length h2
    rw [List.length_append, List.length_cons] at this
    exact ⟨by show p.1.length ≤ _; omega, by show p.2.length ≤ _; omega⟩
set_option maxRecDepth 100000 in
set_option maxHeartbeats 3200000 in
theorem parseq_large (l : List UInt8) (w : World)  (hl : 65536 < l.length) (hm : l.length ≤ 9223372036854775807) :
    Calls Tryz.prog 65 #[.string ⟨l.toArray⟩] w (RetRE w 0 (errV 4)) := by
  rw [errV_pos (by decide)]
  have hb0 := ((Below.refl w.heap.size w).alloc (by first | (simp; done) | (simp; omega)) (.cells #[.bool false, .slice none 0 0, .slice none 0 0] 24))
  have hxR := nest1_0 w (.cells #[.bool false, .slice none 0 0, .slice none 0 0] 24)
  obtain ⟨w0, hw0⟩ : ∃ w0, w0 = (w.alloc (.cells #[.bool false, .slice none 0 0, .slice none 0 0] 24)) := ⟨_, rfl⟩
  rw [← hw0] at hb0 hxR
  have HB0 := Lib.hid hb0; have HW0 := Lib.hid hw0
  have BXR := Lib.hid hxR
  clear hb0 hw0 hxR
  have f1 : decide ((65536 : Int) < (l.length : Int)) = true := decide_eq_true (by omega)
  go_enter Tryz.func65, Tryz.ntmps65
  go_wp2_with fail
  rw [← HW0.out]
  refine ret_rat2 rfl w.heap.size _ _ _ rfl BXR.out rfl ?_
  exact ⟨_, rfl, HB0.out, isR_zero _⟩
set_option maxRecDepth 100000 in
set_option maxHeartbeats 6400000 in
theorem parseq_point (l : List UInt8) (w : World)  (hl : l.length ≤ 300) (hf : (cut3 46 (preL 45 l).1).2.2 = true) :
    Calls Tryz.prog 65 #[.string ⟨l.toArray⟩] w (RetRE w (oQ (dcO (preL 45 l).2 (cut3 46 (preL 45 l).1).1 (cut3 46 (preL 45 l).1).2.1 l.length)) (errV (oC (dcO (preL 45 l).2 (cut3 46 (preL 45 l).1).1 (cut3 46 (preL 45 l).1).2.1 l.length)))) := by
  have hb0 := ((Below.refl w.heap.size w).alloc (by first | (simp; done) | (simp; omega)) (.cells #[.bool false, .slice none 0 0, .slice none 0 0] 24))
  have hxR := nest1_0 w (.cells #[.bool false, .slice none 0 0, .slice none 0 0] 24)
  obtain ⟨w0, hw0⟩ : ∃ w0, w0 = (w.alloc (.cells #[.bool false, .slice none 0 0, .slice none 0 0] 24)) := ⟨_, rfl⟩
  rw [← hw0] at hb0 hxR
  have HB0 := Lib.hid hb0; have HW0 := Lib.hid hw0
  have BXR := Lib.hid hxR
  clear hb0 hw0 hxR
  obtain ⟨t, ht⟩ : ∃ t, t = (preL 45 l).1 := ⟨_, rfl⟩
  obtain ⟨neg, hneg⟩ : ∃ neg, neg = (preL 45 l).2 := ⟨_, rfl⟩
  have htl2 : t.length ≤ l.length := by rw [ht]; exact preL_len 45 l
  have htl : t.length ≤ 300 := Nat.le_trans htl2 hl
  have hcp := fun wx => cutPrefix_any 45 l wx (by omega)
  rw [← ht, ← hneg] at hcp; rw [← ht] at hf
  have hc1 := fun wx => cut_any 46 t wx (by omega)
  have hl1 := (cut3_len 46 t).1
  have hl2 := (cut3_len 46 t).2
  have f1 : decide ((65536 : Int) < (l.length : Int)) = false := decide_eq_false (by omega)
  unfold RetCut at hc1
  rw [← ht, ← hneg]
  rw [hf] at hc1
  obtain ⟨a, ha⟩ : ∃ a, a = (cut3 46 t).1 := ⟨_, rfl⟩; obtain ⟨b, hb⟩ : ∃ b, b = (cut3 46 t).2.1 := ⟨_, rfl⟩
  rw [← ha] at hc1 hl1 ⊢; rw [← hb] at hc1 hl2 ⊢
  have hdc := fun wx => dec_any neg a b l.length wx (fun h => by omega) (fun h => by omega)
  obtain ⟨o, ho⟩ : ∃ o, o = dcO neg a b l.length := ⟨_, rfl⟩
  rw [← ho] at hdc ⊢
  obtain ⟨S, hS⟩ : ∃ S : ByteArray, S = ⟨l.toArray⟩ := ⟨_, rfl⟩; obtain ⟨T, hT⟩ : ∃ T : ByteArray, T = ⟨t.toArray⟩ := ⟨_, rfl⟩; obtain ⟨A, hA⟩ : ∃ A : ByteArray, A = ⟨a.toArray⟩ := ⟨_, rfl⟩; obtain ⟨B, hB⟩ : ∃ B : ByteArray, B = ⟨b.toArray⟩ := ⟨_, rfl⟩
  have hsz : S.size = l.length := by rw [hS]; simp [ByteArray.size]
  rw [← hS, ← hT] at hcp; rw [← hT, ← hA, ← hB] at hc1; rw [← hA, ← hB] at hdc; rw [← hS]
  obtain ⟨oc, hoc⟩ : ∃ oc, oc = errV (oC o) := ⟨_, rfl⟩; rw [← hoc] at hdc ⊢
  have HCP := Lib.hid hcp; have HC1 := Lib.hid hc1; have HDC := Lib.hid hdc; clear hcp hc1 hdc hS hT hA hB ha hb ht hneg hf ho hoc hl1 hl2 htl htl2
  go_enter Tryz.func65, Tryz.ntmps65
  have hs := HCP.out w0
  have HS := Lib.hid hs; clear hs
  go_wp2_with fail
  rw [← HW0.out]
  (with_reducible refine HS.out.mono ?_); rintro e wx ⟨rfl, rfl⟩
  clear HS
  have hs := HC1.out w0
  have HS := Lib.hid hs; clear hs
  go_wp2_with fail
  (with_reducible refine HS.out.mono ?_); rintro e w2 ⟨rfl, hb2⟩
  clear HS
  have HB2 := Lib.hid (HB0.out.step hb2)
  have BXR := Lib.hid (heap_below BXR.out hb2)
  clear hb2
  have hs := HDC.out w2
  have HS := Lib.hid hs; clear hs
  go_wp2_with fail
  (with_reducible refine HS.out.mono ?_); rintro e w3 ⟨v3, rfl, hb3, hn3⟩
  clear HS
  have HB3 := Lib.hid (HB2.out.step hb3)
  have BXR := Lib.hid (heap_below BXR.out hb3)
  have Q := Lib.hid hn3; clear hn3
  clear hb3
  obtain ⟨sQ, oQ, nQ, cQ, aQ, mQ, dQ, rfl⟩ := Q.out.shape
  obtain ⟨eR0, eR1, eR2⟩ := row3 BXR.out
  obtain ⟨fR0, fR1, fR2⟩ := froz3 BXR.out
  go_wp2_with fail
  refine ret_rat2 rfl w.heap.size _ _ _ rfl (put3_heap BXR.out) rfl ?_
  exact ⟨_, rfl, put3_below HB3.out (by omega) _ _ _, isR_put Q.out BXR.out⟩
set_option maxRecDepth 100000 in
set_option maxHeartbeats 6400000 in
theorem pfr_badx (l : List UInt8) (w : World)  (hl : l.length ≤ 300) (hf : (cut3 46 (preL 45 l).1).2.2 = false) (hpx : parC (cut3 47 (preL 45 l).1).1 ≠ 0)  :
    Calls Tryz.prog 65 #[.string ⟨l.toArray⟩] w (RetRE w 0 (errV 2)) := by
  rw [errV_pos (by decide)]
  have hb0 := ((Below.refl w.heap.size w).alloc (by first | (simp; done) | (simp; omega)) (.cells #[.bool false, .slice none 0 0, .slice none 0 0] 24))
  have hxR := nest1_0 w (.cells #[.bool false, .slice none 0 0, .slice none 0 0] 24)
  obtain ⟨w0, hw0⟩ : ∃ w0, w0 = (w.alloc (.cells #[.bool false, .slice none 0 0, .slice none 0 0] 24)) := ⟨_, rfl⟩
  rw [← hw0] at hb0 hxR
  have HB0 := Lib.hid hb0; have HW0 := Lib.hid hw0
  have BXR := Lib.hid hxR
  clear hb0 hw0 hxR
  obtain ⟨t, ht⟩ : ∃ t, t = (preL 45 l).1 := ⟨_, rfl⟩
  obtain ⟨neg, hneg⟩ : ∃ neg, neg = (preL 45 l).2 := ⟨_, rfl⟩
  have htl2 : t.length ≤ l.length := by rw [ht]; exact preL_len 45 l
  have htl : t.length ≤ 300 := Nat.le_trans htl2 hl
  have hcp := fun wx => cutPrefix_any 45 l wx (by omega)
  rw [← ht, ← hneg] at hcp; rw [← ht] at hf
  have hc1 := fun wx => cut_any 46 t wx (by omega)
  have hl1 := (cut3_len 46 t).1
  have hl2 := (cut3_len 46 t).2
  have f1 : decide ((65536 : Int) < (l.length : Int)) = false := decide_eq_false (by omega)
  unfold RetCut at hc1
  rw [hf] at hc1
  have hc2 := fun wx => cut_any 47 t wx (by omega)
  unfold RetCut at hc2
  have hl3 := (cut3_len 47 t).1; have hl4 := (cut3_len 47 t).2
  rw [← ht] at hpx
  obtain ⟨x, hx⟩ : ∃ x, x = (cut3 47 t).1 := ⟨_, rfl⟩; obtain ⟨y, hy⟩ : ∃ y, y = (cut3 47 t).2.1 := ⟨_, rfl⟩; obtain ⟨h, hhe⟩ : ∃ h, h = (cut3 47 t).2.2 := ⟨_, rfl⟩
  rw [← hx] at hc2 hl3 hpx
  rw [← hy] at hc2 hl4
  rw [← hhe] at hc2
  obtain ⟨a, ha⟩ : ∃ a : ByteArray, a = ⟨(cut3 46 t).1.toArray⟩ := ⟨_, rfl⟩; obtain ⟨b, hb⟩ : ∃ b : ByteArray, b = ⟨(cut3 46 t).2.1.toArray⟩ := ⟨_, rfl⟩
  rw [← ha, ← hb] at hc1
  have hpX := fun wx => parse_any x wx (by omega); have hpY := fun wx => parse_any y wx (by omega)
  have hwx := parV_len (l := x) (K := 300) (by omega); have hwy := parV_len (l := y) (K := 300) (by omega)
  rw [errV_pos hpx] at hpX
  obtain ⟨S, hS⟩ : ∃ S : ByteArray, S = ⟨l.toArray⟩ := ⟨_, rfl⟩; obtain ⟨T, hT⟩ : ∃ T : ByteArray, T = ⟨t.toArray⟩ := ⟨_, rfl⟩; obtain ⟨XB, hXB⟩ : ∃ A : ByteArray, A = ⟨x.toArray⟩ := ⟨_, rfl⟩; obtain ⟨YB, hYB⟩ : ∃ B : ByteArray, B = ⟨y.toArray⟩ := ⟨_, rfl⟩
  have hsz : S.size = l.length := by rw [hS]; simp [ByteArray.size]
  rw [← hS, ← hT] at hcp; rw [← hT] at hc1; rw [← hT, ← hXB, ← hYB] at hc2; rw [← hXB] at hpX; rw [← hYB] at hpY; rw [← hS]
  obtain ⟨VX, hVX⟩ : ∃ V, V = parV x := ⟨_, rfl⟩; obtain ⟨VY, hVY⟩ : ∃ V, V = parV y := ⟨_, rfl⟩
  rw [← hVX] at hpX hwx
  rw [← hVY] at hpY hwy
  have hlo : (wd 1).length ≤ 1 := by rw [wd_one_len]; exact Nat.le_refl _
  have HCP := Lib.hid hcp; have HC1 := Lib.hid hc1; have HC2 := Lib.hid hc2; have HPX := Lib.hid hpX; have HPY := Lib.hid hpY; clear hcp hc1 hc2 hpX hpY hS hT hXB hYB hx hy hhe ha hb ht hneg hf hVX hVY hl1 hl2 hl3 hl4 htl htl2 hpx
  go_enter Tryz.func65, Tryz.ntmps65
  have hs := HCP.out w0
  have HS := Lib.hid hs; clear hs
  go_wp2_with fail
  rw [← HW0.out]
  (with_reducible refine HS.out.mono ?_); rintro e wx ⟨rfl, rfl⟩
  clear HS
  have hs := HC1.out w0
  have HS := Lib.hid hs; clear hs
  go_wp2_with fail
  (with_reducible refine HS.out.mono ?_); rintro e w2 ⟨rfl, hb2⟩
  clear HS
  have HB2 := Lib.hid (HB0.out.step hb2)
  have BXR := Lib.hid (heap_below BXR.out hb2)
  clear hb2
  have hs := HC2.out w2
  have HS := Lib.hid hs; clear hs
  go_wp2_with fail
  (with_reducible refine HS.out.mono ?_); rintro e w3 ⟨rfl, hb3⟩
  clear HS
  have HB3 := Lib.hid (HB2.out.step hb3)
  have BXR := Lib.hid (heap_below BXR.out hb3)
  clear hb3
  have hs := HPX.out w3
  have HS := Lib.hid hs; clear hs
  go_wp2_with fail
  (with_reducible refine HS.out.mono ?_); rintro e w4 ⟨v4, rfl, hb4, hn4⟩
  clear HS
  have HB4 := Lib.hid (HB3.out.step hb4)
  have BXR := Lib.hid (heap_below BXR.out hb4)
  have NX := Lib.hid hn4; clear hn4
  clear hb4
  obtain ⟨eR0, eR1, eR2⟩ := row3 BXR.out
  obtain ⟨fR0, fR1, fR2⟩ := froz3 BXR.out
  go_wp2_with fail
  refine ret_rat2 rfl w.heap.size _ _ _ rfl (put3_heap BXR.out) rfl ?_
  exact ⟨_, rfl, put3_below HB4.out (by omega) _ _ _, isR_zero _⟩
set_option maxRecDepth 100000 in
set_option maxHeartbeats 6400000 in
theorem pfr_bady (l : List UInt8) (w : World)  (hl : l.length ≤ 300) (hf : (cut3 46 (preL 45 l).1).2.2 = false) (hh : (cut3 47 (preL 45 l).1).2.2 = true) (hpx : parC (cut3 47 (preL 45 l).1).1 = 0) (hpy : parC (cut3 47 (preL 45 l).1).2.1 ≠ 0)  :
    Calls Tryz.prog 65 #[.string ⟨l.toArray⟩] w (RetRE w 0 (errV 2)) := by
  rw [errV_pos (by decide)]
  have hb0 := ((Below.refl w.heap.size w).alloc (by first | (simp; done) | (simp; omega)) (.cells #[.bool false, .slice none 0 0, .slice none 0 0] 24))
  have hxR := nest1_0 w (.cells #[.bool false, .slice none 0 0, .slice none 0 0] 24)
  obtain ⟨w0, hw0⟩ : ∃ w0, w0 = (w.alloc (.cells #[.bool false, .slice none 0 0, .slice none 0 0] 24)) := ⟨_, rfl⟩
  rw [← hw0] at hb0 hxR
  have HB0 := Lib.hid hb0; have HW0 := Lib.hid hw0
  have BXR := Lib.hid hxR
  clear hb0 hw0 hxR
  obtain ⟨t, ht⟩ : ∃ t, t = (preL 45 l).1 := ⟨_, rfl⟩
  obtain ⟨neg, hneg⟩ : ∃ neg, neg = (preL 45 l).2 := ⟨_, rfl⟩
  have htl2 : t.length ≤ l.length := by rw [ht]; exact preL_len 45 l
  have htl : t.length ≤ 300 := Nat.le_trans htl2 hl
  have hcp := fun wx => cutPrefix_any 45 l wx (by omega)
  rw [← ht, ← hneg] at hcp; rw [← ht] at hf
  have hc1 := fun wx => cut_any 46 t wx (by omega)
  have hl1 := (cut3_len 46 t).1
  have hl2 := (cut3_len 46 t).2
  have f1 : decide ((65536 : Int) < (l.length : Int)) = false := decide_eq_false (by omega)
  unfold RetCut at hc1
  rw [hf] at hc1
  have hc2 := fun wx => cut_any 47 t wx (by omega)
  unfold RetCut at hc2
  have hl3 := (cut3_len 47 t).1; have hl4 := (cut3_len 47 t).2
  rw [← ht] at hpx hh hpy
  obtain ⟨x, hx⟩ : ∃ x, x = (cut3 47 t).1 := ⟨_, rfl⟩; obtain ⟨y, hy⟩ : ∃ y, y = (cut3 47 t).2.1 := ⟨_, rfl⟩; obtain ⟨h, hhe⟩ : ∃ h, h = (cut3 47 t).2.2 := ⟨_, rfl⟩
  rw [← hx] at hc2 hl3 hpx
  rw [← hy] at hc2 hl4 hpy
  rw [← hhe] at hc2 hh
  subst hh
  obtain ⟨a, ha⟩ : ∃ a : ByteArray, a = ⟨(cut3 46 t).1.toArray⟩ := ⟨_, rfl⟩; obtain ⟨b, hb⟩ : ∃ b : ByteArray, b = ⟨(cut3 46 t).2.1.toArray⟩ := ⟨_, rfl⟩
  rw [← ha, ← hb] at hc1
  have hpX := fun wx => parse_any x wx (by omega); have hpY := fun wx => parse_any y wx (by omega)
  have hwx := parV_len (l := x) (K := 300) (by omega); have hwy := parV_len (l := y) (K := 300) (by omega)
  rw [hpx, errV_zero] at hpX
  rw [errV_pos hpy] at hpY
  obtain ⟨S, hS⟩ : ∃ S : ByteArray, S = ⟨l.toArray⟩ := ⟨_, rfl⟩; obtain ⟨T, hT⟩ : ∃ T : ByteArray, T = ⟨t.toArray⟩ := ⟨_, rfl⟩; obtain ⟨XB, hXB⟩ : ∃ A : ByteArray, A = ⟨x.toArray⟩ := ⟨_, rfl⟩; obtain ⟨YB, hYB⟩ : ∃ B : ByteArray, B = ⟨y.toArray⟩ := ⟨_, rfl⟩
  have hsz : S.size = l.length := by rw [hS]; simp [ByteArray.size]
  rw [← hS, ← hT] at hcp; rw [← hT] at hc1; rw [← hT, ← hXB, ← hYB] at hc2; rw [← hXB] at hpX; rw [← hYB] at hpY; rw [← hS]
  obtain ⟨VX, hVX⟩ : ∃ V, V = parV x := ⟨_, rfl⟩; obtain ⟨VY, hVY⟩ : ∃ V, V = parV y := ⟨_, rfl⟩
  rw [← hVX] at hpX hwx
  rw [← hVY] at hpY hwy
  have hlo : (wd 1).length ≤ 1 := by rw [wd_one_len]; exact Nat.le_refl _
  have HCP := Lib.hid hcp; have HC1 := Lib.hid hc1; have HC2 := Lib.hid hc2; have HPX := Lib.hid hpX; have HPY := Lib.hid hpY; clear hcp hc1 hc2 hpX hpY hS hT hXB hYB hx hy hhe ha hb ht hneg hf hVX hVY hl1 hl2 hl3 hl4 htl htl2 hpx hpy
  go_enter Tryz.func65, Tryz.ntmps65
  have hs := HCP.out w0
  have HS := Lib.hid hs; clear hs
  go_wp2_with fail
  rw [← HW0.out]
  (with_reducible refine HS.out.mono ?_); rintro e wx ⟨rfl, rfl⟩
  clear HS
  have hs := HC1.out w0
  have HS := Lib.hid hs; clear hs
  go_wp2_with fail
  (with_reducible refine HS.out.mono ?_); rintro e w2 ⟨rfl, hb2⟩
  clear HS
  have HB2 := Lib.hid (HB0.out.step hb2)
  have BXR := Lib.hid (heap_below BXR.out hb2)
  clear hb2
  have hs := HC2.out w2
  have HS := Lib.hid hs; clear hs
  go_wp2_with fail
  (with_reducible refine HS.out.mono ?_); rintro e w3 ⟨rfl, hb3⟩
  clear HS
  have HB3 := Lib.hid (HB2.out.step hb3)
  have BXR := Lib.hid (heap_below BXR.out hb3)
  clear hb3
  have hs := HPX.out w3
  have HS := Lib.hid hs; clear hs
  go_wp2_with fail
  (with_reducible refine HS.out.mono ?_); rintro e w4 ⟨v4, rfl, hb4, hn4⟩
  clear HS
  have HB4 := Lib.hid (HB3.out.step hb4)
  have BXR := Lib.hid (heap_below BXR.out hb4)
  have NX := Lib.hid hn4; clear hn4
  clear hb4
  have hs := one_any w4
  have HS := Lib.hid hs; clear hs
  go_wp2_with fail
  (with_reducible refine HS.out.mono ?_); rintro e w5 ⟨v5, rfl, hb5, hn5⟩
  clear HS
  have HB5 := Lib.hid (HB4.out.step hb5)
  have NX := Lib.hid (NX.out.below hb5)
  have BXR := Lib.hid (heap_below BXR.out hb5)
  have ONE := Lib.hid hn5; clear hn5
  clear hb5
  have hs := HPY.out w5
  have HS := Lib.hid hs; clear hs
  go_wp2_with fail
  (with_reducible refine HS.out.mono ?_); rintro e w6 ⟨v6, rfl, hb6, hn6⟩
  clear HS
  have HB6 := Lib.hid (HB5.out.step hb6)
  have NX := Lib.hid (NX.out.below hb6)
  have ONE := Lib.hid (ONE.out.below hb6)
  have BXR := Lib.hid (heap_below BXR.out hb6)
  have NY := Lib.hid hn6; clear hn6
  clear hb6
  obtain ⟨eR0, eR1, eR2⟩ := row3 BXR.out
  obtain ⟨fR0, fR1, fR2⟩ := froz3 BXR.out
  go_wp2_with fail
  refine ret_rat2 rfl w.heap.size _ _ _ rfl (put3_heap BXR.out) rfl ?_
  exact ⟨_, rfl, put3_below HB6.out (by omega) _ _ _, isR_zero _⟩
set_option maxRecDepth 100000 in
set_option maxHeartbeats 6400000 in
theorem pfr_zero (l : List UInt8) (w : World)  (hl : l.length ≤ 300) (hf : (cut3 46 (preL 45 l).1).2.2 = false) (hh : (cut3 47 (preL 45 l).1).2.2 = true) (hpx : parC (cut3 47 (preL 45 l).1).1 = 0) (hpy : parC (cut3 47 (preL 45 l).1).2.1 = 0) (hvy : parV (cut3 47 (preL 45 l).1).2.1 = 0)  :
    Calls Tryz.prog 65 #[.string ⟨l.toArray⟩] w (RetRE w 0 (errV 2)) := by
  rw [errV_pos (by decide)]
  have hb0 := ((Below.refl w.heap.size w).alloc (by first | (simp; done) | (simp; omega)) (.cells #[.bool false, .slice none 0 0, .slice none 0 0] 24))
  have hxR := nest1_0 w (.cells #[.bool false, .slice none 0 0, .slice none 0 0] 24)
  obtain ⟨w0, hw0⟩ : ∃ w0, w0 = (w.alloc (.cells #[.bool false, .slice none 0 0, .slice none 0 0] 24)) := ⟨_, rfl⟩
  rw [← hw0] at hb0 hxR
  have HB0 := Lib.hid hb0; have HW0 := Lib.hid hw0
  have BXR := Lib.hid hxR
  clear hb0 hw0 hxR
  obtain ⟨t, ht⟩ : ∃ t, t = (preL 45 l).1 := ⟨_, rfl⟩
  obtain ⟨neg, hneg⟩ : ∃ neg, neg = (preL 45 l).2 := ⟨_, rfl⟩
  have htl2 : t.length ≤ l.length := by rw [ht]; exact preL_len 45 l
  have htl : t.length ≤ 300 := Nat.le_trans htl2 hl
  have hcp := fun wx => cutPrefix_any 45 l wx (by omega)
  rw [← ht, ← hneg] at hcp; rw [← ht] at hf
  have hc1 := fun wx => cut_any 46 t wx (by omega)
  have hl1 := (cut3_len 46 t).1
  have hl2 := (cut3_len 46 t).2
  have f1 : decide ((65536 : Int) < (l.length : Int)) = false := decide_eq_false (by omega)
  unfold RetCut at hc1
  rw [hf] at hc1
  have hc2 := fun wx => cut_any 47 t wx (by omega)
  unfold RetCut at hc2
  have hl3 := (cut3_len 47 t).1; have hl4 := (cut3_len 47 t).2
  rw [← ht] at hpx hh hpy hvy
  obtain ⟨x, hx⟩ : ∃ x, x = (cut3 47 t).1 := ⟨_, rfl⟩; obtain ⟨y, hy⟩ : ∃ y, y = (cut3 47 t).2.1 := ⟨_, rfl⟩; obtain ⟨h, hhe⟩ : ∃ h, h = (cut3 47 t).2.2 := ⟨_, rfl⟩
  rw [← hx] at hc2 hl3 hpx
  rw [← hy] at hc2 hl4 hpy hvy
  rw [← hhe] at hc2 hh
  subst hh
  obtain ⟨a, ha⟩ : ∃ a : ByteArray, a = ⟨(cut3 46 t).1.toArray⟩ := ⟨_, rfl⟩; obtain ⟨b, hb⟩ : ∃ b : ByteArray, b = ⟨(cut3 46 t).2.1.toArray⟩ := ⟨_, rfl⟩
  rw [← ha, ← hb] at hc1
  have hpX := fun wx => parse_any x wx (by omega); have hpY := fun wx => parse_any y wx (by omega)
  have hwx := parV_len (l := x) (K := 300) (by omega); have hwy := parV_len (l := y) (K := 300) (by omega)
  rw [hpx, errV_zero] at hpX
  rw [hpy, errV_zero] at hpY
  obtain ⟨S, hS⟩ : ∃ S : ByteArray, S = ⟨l.toArray⟩ := ⟨_, rfl⟩; obtain ⟨T, hT⟩ : ∃ T : ByteArray, T = ⟨t.toArray⟩ := ⟨_, rfl⟩; obtain ⟨XB, hXB⟩ : ∃ A : ByteArray, A = ⟨x.toArray⟩ := ⟨_, rfl⟩; obtain ⟨YB, hYB⟩ : ∃ B : ByteArray, B = ⟨y.toArray⟩ := ⟨_, rfl⟩
  have hsz : S.size = l.length := by rw [hS]; simp [ByteArray.size]
  rw [← hS, ← hT] at hcp; rw [← hT] at hc1; rw [← hT, ← hXB, ← hYB] at hc2; rw [← hXB] at hpX; rw [← hYB] at hpY; rw [← hS]
  obtain ⟨VX, hVX⟩ : ∃ V, V = parV x := ⟨_, rfl⟩; obtain ⟨VY, hVY⟩ : ∃ V, V = parV y := ⟨_, rfl⟩
  rw [← hVX] at hpX hwx
  rw [← hVY] at hpY hwy hvy
  have hlo : (wd 1).length ≤ 1 := by rw [wd_one_len]; exact Nat.le_refl _
  have HVY := Lib.hid hvy; clear hvy
  have HCP := Lib.hid hcp; have HC1 := Lib.hid hc1; have HC2 := Lib.hid hc2; have HPX := Lib.hid hpX; have HPY := Lib.hid hpY; clear hcp hc1 hc2 hpX hpY hS hT hXB hYB hx hy hhe ha hb ht hneg hf hVX hVY hl1 hl2 hl3 hl4 htl htl2 hpx hpy
  go_enter Tryz.func65, Tryz.ntmps65
  have hs := HCP.out w0
  have HS := Lib.hid hs; clear hs
  go_wp2_with fail
  rw [← HW0.out]
  (with_reducible refine HS.out.mono ?_); rintro e wx ⟨rfl, rfl⟩
  clear HS
  have hs := HC1.out w0
  have HS := Lib.hid hs; clear hs
  go_wp2_with fail
  (with_reducible refine HS.out.mono ?_); rintro e w2 ⟨rfl, hb2⟩
  clear HS
  have HB2 := Lib.hid (HB0.out.step hb2)
  have BXR := Lib.hid (heap_below BXR.out hb2)
  clear hb2
  have hs := HC2.out w2
  have HS := Lib.hid hs; clear hs
  go_wp2_with fail
  (with_reducible refine HS.out.mono ?_); rintro e w3 ⟨rfl, hb3⟩
  clear HS
  have HB3 := Lib.hid (HB2.out.step hb3)
  have BXR := Lib.hid (heap_below BXR.out hb3)
  clear hb3
  have hs := HPX.out w3
  have HS := Lib.hid hs; clear hs
  go_wp2_with fail
  (with_reducible refine HS.out.mono ?_); rintro e w4 ⟨v4, rfl, hb4, hn4⟩
  clear HS
  have HB4 := Lib.hid (HB3.out.step hb4)
  have BXR := Lib.hid (heap_below BXR.out hb4)
  have NX := Lib.hid hn4; clear hn4
  clear hb4
  have hs := one_any w4
  have HS := Lib.hid hs; clear hs
  go_wp2_with fail
  (with_reducible refine HS.out.mono ?_); rintro e w5 ⟨v5, rfl, hb5, hn5⟩
  clear HS
  have HB5 := Lib.hid (HB4.out.step hb5)
  have NX := Lib.hid (NX.out.below hb5)
  have BXR := Lib.hid (heap_below BXR.out hb5)
  have ONE := Lib.hid hn5; clear hn5
  clear hb5
  have hs := HPY.out w5
  have HS := Lib.hid hs; clear hs
  go_wp2_with fail
  (with_reducible refine HS.out.mono ?_); rintro e w6 ⟨v6, rfl, hb6, hn6⟩
  clear HS
  have HB6 := Lib.hid (HB5.out.step hb6)
  have NX := Lib.hid (NX.out.below hb6)
  have ONE := Lib.hid (ONE.out.below hb6)
  have BXR := Lib.hid (heap_below BXR.out hb6)
  have NY := Lib.hid hn6; clear hn6
  clear hb6
  have hs := bits_any _ _ w6 NY.out (by omega)
  rw [val_wd, HVY.out, blen_zero] at hs
  have HS := Lib.hid hs; clear hs
  go_wp2_with fail
  (with_reducible refine HS.out.mono ?_); rintro e wx ⟨rfl, rfl⟩
  clear HS
  obtain ⟨eR0, eR1, eR2⟩ := row3 BXR.out
  obtain ⟨fR0, fR1, fR2⟩ := froz3 BXR.out
  go_wp2_with fail
  refine ret_rat2 rfl w.heap.size _ _ _ rfl (put3_heap BXR.out) rfl ?_
  exact ⟨_, rfl, put3_below HB6.out (by omega) _ _ _, isR_zero _⟩
set_option maxRecDepth 100000 in
set_option maxHeartbeats 6400000 in
theorem pfr_differs1 (l : List UInt8) (w : World)  (hl : l.length ≤ 300) (hf : (cut3 46 (preL 45 l).1).2.2 = false) (hh : (cut3 47 (preL 45 l).1).2.2 = false) (hpx : parC (cut3 47 (preL 45 l).1).1 = 0) (hr : rtx (qm (preL 45 l).2 (parV (cut3 47 (preL 45 l).1).1) 1) ≠ l) :
    Calls Tryz.prog 65 #[.string ⟨l.toArray⟩] w (RetRE w 0 (errV 2)) := by
  rw [errV_pos (by decide)]
  have hb0 := ((Below.refl w.heap.size w).alloc (by first | (simp; done) | (simp; omega)) (.cells #[.bool false, .slice none 0 0, .slice none 0 0] 24))
  have hxR := nest1_0 w (.cells #[.bool false, .slice none 0 0, .slice none 0 0] 24)
  obtain ⟨w0, hw0⟩ : ∃ w0, w0 = (w.alloc (.cells #[.bool false, .slice none 0 0, .slice none 0 0] 24)) := ⟨_, rfl⟩
  rw [← hw0] at hb0 hxR
  have HB0 := Lib.hid hb0; have HW0 := Lib.hid hw0
  have BXR := Lib.hid hxR
  clear hb0 hw0 hxR
  obtain ⟨t, ht⟩ : ∃ t, t = (preL 45 l).1 := ⟨_, rfl⟩
  obtain ⟨neg, hneg⟩ : ∃ neg, neg = (preL 45 l).2 := ⟨_, rfl⟩
  have htl2 : t.length ≤ l.length := by rw [ht]; exact preL_len 45 l
  have htl : t.length ≤ 300 := Nat.le_trans htl2 hl
  have hcp := fun wx => cutPrefix_any 45 l wx (by omega)
  rw [← ht, ← hneg] at hcp; rw [← ht] at hf
  have hc1 := fun wx => cut_any 46 t wx (by omega)
  have hl1 := (cut3_len 46 t).1
  have hl2 := (cut3_len 46 t).2
  have f1 : decide ((65536 : Int) < (l.length : Int)) = false := decide_eq_false (by omega)
  unfold RetCut at hc1
  rw [hf] at hc1
  have hc2 := fun wx => cut_any 47 t wx (by omega)
  unfold RetCut at hc2
  have hl3 := (cut3_len 47 t).1; have hl4 := (cut3_len 47 t).2
  rw [← ht] at hpx hh hr
  rw [← hneg] at hr
  obtain ⟨x, hx⟩ : ∃ x, x = (cut3 47 t).1 := ⟨_, rfl⟩; obtain ⟨y, hy⟩ : ∃ y, y = (cut3 47 t).2.1 := ⟨_, rfl⟩; obtain ⟨h, hhe⟩ : ∃ h, h = (cut3 47 t).2.2 := ⟨_, rfl⟩
  rw [← hx] at hc2 hl3 hpx hr
  rw [← hy] at hc2 hl4
  rw [← hhe] at hc2 hh
  subst hh
  obtain ⟨a, ha⟩ : ∃ a : ByteArray, a = ⟨(cut3 46 t).1.toArray⟩ := ⟨_, rfl⟩; obtain ⟨b, hb⟩ : ∃ b : ByteArray, b = ⟨(cut3 46 t).2.1.toArray⟩ := ⟨_, rfl⟩
  rw [← ha, ← hb] at hc1
  have hpX := fun wx => parse_any x wx (by omega); have hpY := fun wx => parse_any y wx (by omega)
  have hwx := parV_len (l := x) (K := 300) (by omega); have hwy := parV_len (l := y) (K := 300) (by omega)
  rw [hpx, errV_zero] at hpX
  obtain ⟨S, hS⟩ : ∃ S : ByteArray, S = ⟨l.toArray⟩ := ⟨_, rfl⟩; obtain ⟨T, hT⟩ : ∃ T : ByteArray, T = ⟨t.toArray⟩ := ⟨_, rfl⟩; obtain ⟨XB, hXB⟩ : ∃ A : ByteArray, A = ⟨x.toArray⟩ := ⟨_, rfl⟩; obtain ⟨YB, hYB⟩ : ∃ B : ByteArray, B = ⟨y.toArray⟩ := ⟨_, rfl⟩
  have hsz : S.size = l.length := by rw [hS]; simp [ByteArray.size]
  rw [← hS, ← hT] at hcp; rw [← hT] at hc1; rw [← hT, ← hXB, ← hYB] at hc2; rw [← hXB] at hpX; rw [← hYB] at hpY; rw [← hS]
  obtain ⟨VX, hVX⟩ : ∃ V, V = parV x := ⟨_, rfl⟩; obtain ⟨VY, hVY⟩ : ∃ V, V = parV y := ⟨_, rfl⟩
  rw [← hVX] at hpX hwx hr
  rw [← hVY] at hpY hwy
  have hlo : (wd 1).length ≤ 1 := by rw [wd_one_len]; exact Nat.le_refl _
  obtain ⟨q, hq⟩ : ∃ q, q = qm neg VX 1 := ⟨_, rfl⟩
  rw [← hq] at hr
  have hrl : rl q ≤ 300 := by rw [hq]; exact rl_qm (by decide) hwx (by omega)
  obtain ⟨TX, hTX⟩ : ∃ A : ByteArray, A = ⟨(rtx q).toArray⟩ := ⟨_, rfl⟩
  have hne : TX ≠ S := fun e => hr (by rw [hTX, hS] at e; have := congrArg (fun z : ByteArray => z.data.toList) e; simpa using this)
  have HQ := Lib.hid hq; have HTX := Lib.hid hTX; clear hq hTX hr
  have HCP := Lib.hid hcp; have HC1 := Lib.hid hc1; have HC2 := Lib.hid hc2; have HPX := Lib.hid hpX; have HPY := Lib.hid hpY; clear hcp hc1 hc2 hpX hpY hS hT hXB hYB hx hy hhe ha hb ht hneg hf hVX hVY hl1 hl2 hl3 hl4 htl htl2 hpx
  go_enter Tryz.func65, Tryz.ntmps65
  have hs := HCP.out w0
  have HS := Lib.hid hs; clear hs
  go_wp2_with fail
  rw [← HW0.out]
  (with_reducible refine HS.out.mono ?_); rintro e wx ⟨rfl, rfl⟩
  clear HS
  have hs := HC1.out w0
  have HS := Lib.hid hs; clear hs
  go_wp2_with fail
  (with_reducible refine HS.out.mono ?_); rintro e w2 ⟨rfl, hb2⟩
  clear HS
  have HB2 := Lib.hid (HB0.out.step hb2)
  have BXR := Lib.hid (heap_below BXR.out hb2)
  clear hb2
  have hs := HC2.out w2
  have HS := Lib.hid hs; clear hs
  go_wp2_with fail
  (with_reducible refine HS.out.mono ?_); rintro e w3 ⟨rfl, hb3⟩
  clear HS
  have HB3 := Lib.hid (HB2.out.step hb3)
  have BXR := Lib.hid (heap_below BXR.out hb3)
  clear hb3
  have hs := HPX.out w3
  have HS := Lib.hid hs; clear hs
  go_wp2_with fail
  (with_reducible refine HS.out.mono ?_); rintro e w4 ⟨v4, rfl, hb4, hn4⟩
  clear HS
  have HB4 := Lib.hid (HB3.out.step hb4)
  have BXR := Lib.hid (heap_below BXR.out hb4)
  have NX := Lib.hid hn4; clear hn4
  clear hb4
  have hs := one_any w4
  have HS := Lib.hid hs; clear hs
  go_wp2_with fail
  (with_reducible refine HS.out.mono ?_); rintro e w5 ⟨v5, rfl, hb5, hn5⟩
  clear HS
  have HB5 := Lib.hid (HB4.out.step hb5)
  have NX := Lib.hid (NX.out.below hb5)
  have BXR := Lib.hid (heap_below BXR.out hb5)
  have ONE := Lib.hid hn5; clear hn5
  clear hb5
  have hs := formN neg NX.out ONE.out (by omega) (by omega) (by decide)
  rw [← HQ.out] at hs
  have HS := Lib.hid hs; clear hs
  go_wp2_with fail
  (with_reducible refine HS.out.mono ?_); rintro e w6 ⟨v6, rfl, hb6, hn6⟩
  clear HS
  have HB6 := Lib.hid (HB5.out.step hb6)
  have NX := Lib.hid (NX.out.below hb6)
  have ONE := Lib.hid (ONE.out.below hb6)
  have BXR := Lib.hid (heap_below BXR.out hb6)
  have Q := Lib.hid hn6; clear hn6
  clear hb6
  obtain ⟨sQ, oQ, nQ, cQ, aQ, mQ, dQ, rfl⟩ := Q.out.shape
  have hb80 : Below w6.heap.size w6 (w6.alloc (.cells #[.bool sQ, .slice oQ nQ cQ, .slice aQ mQ dQ] 24)) := (Below.refl _ _).alloc (Nat.le_refl _) _
  have hxl := heap_alloc_new w6 (.cells #[.bool sQ, .slice oQ nQ cQ, .slice aQ mQ dQ] 24)
  have hs := textq_any _ q (w6.alloc (.cells #[.bool sQ, .slice oQ nQ cQ, .slice aQ mQ dQ] 24)) ((Q.out.below hb80).is (by omega))
  rw [← HTX.out] at hs
  have HS := Lib.hid hs; clear hs
  go_wp2_with fail
  obtain ⟨w80, hw80⟩ : ∃ w80, w80 = w6.alloc (.cells #[.bool sQ, .slice oQ nQ cQ, .slice aQ mQ dQ] 24) := ⟨_, rfl⟩; obtain ⟨gl, hgl⟩ : ∃ gl, gl = w6.heap.size := ⟨_, rfl⟩
  rw [← hw80] at hb80 hxl HS ⊢; rw [← hgl] at hxl ⊢
  clear hgl
  have HB80 := Lib.hid (HB6.out.step hb80)
  have NX := Lib.hid (NX.out.below hb80)
  have ONE := Lib.hid (ONE.out.below hb80)
  have Q := Lib.hid (Q.out.below hb80)
  have BXR := Lib.hid (heap_below BXR.out hb80)
  have BXL := Lib.hid hxl; clear hxl hw80 hb80
  (with_reducible refine HS.out.mono ?_); rintro e w81 ⟨rfl, hb81⟩
  have HB81 := Lib.hid (HB80.out.step hb81)
  have NX := Lib.hid (NX.out.below hb81)
  have ONE := Lib.hid (ONE.out.below hb81)
  have Q := Lib.hid (Q.out.below hb81)
  have BXR := Lib.hid (heap_below BXR.out hb81)
  have BXL := Lib.hid (heap_below BXL.out hb81)
  clear hb81 HS
  have hbq : (TX.toList == S.toList) = false := by rw [beq_eq_false_iff_ne, ByteArray.toList_eq, ByteArray.toList_eq]; intro e; exact hne (ByteArray.ext (Array.toList_inj.1 e))
  obtain ⟨eR0, eR1, eR2⟩ := row3 BXR.out
  obtain ⟨fR0, fR1, fR2⟩ := froz3 BXR.out
  go_wp2_with fail
  refine ret_rat2 rfl w.heap.size _ _ _ rfl (put3_heap BXR.out) rfl ?_
  exact ⟨_, rfl, put3_below HB81.out (by omega) _ _ _, isR_zero _⟩
set_option maxRecDepth 100000 in
set_option maxHeartbeats 6400000 in
theorem pfr_fits1 (l : List UInt8) (w : World)  (hl : l.length ≤ 300) (hf : (cut3 46 (preL 45 l).1).2.2 = false) (hh : (cut3 47 (preL 45 l).1).2.2 = false) (hpx : parC (cut3 47 (preL 45 l).1).1 = 0) (hr : rtx (qm (preL 45 l).2 (parV (cut3 47 (preL 45 l).1).1) 1) = l) :
    Calls Tryz.prog 65 #[.string ⟨l.toArray⟩] w (RetRE w (qm (preL 45 l).2 (parV (cut3 47 (preL 45 l).1).1) 1) (errV 0)) := by
  rw [errV_zero]
  have hb0 := ((Below.refl w.heap.size w).alloc (by first | (simp; done) | (simp; omega)) (.cells #[.bool false, .slice none 0 0, .slice none 0 0] 24))
  have hxR := nest1_0 w (.cells #[.bool false, .slice none 0 0, .slice none 0 0] 24)
  obtain ⟨w0, hw0⟩ : ∃ w0, w0 = (w.alloc (.cells #[.bool false, .slice none 0 0, .slice none 0 0] 24)) := ⟨_, rfl⟩
  rw [← hw0] at hb0 hxR
  have HB0 := Lib.hid hb0; have HW0 := Lib.hid hw0
  have BXR := Lib.hid hxR
  clear hb0 hw0 hxR
  obtain ⟨t, ht⟩ : ∃ t, t = (preL 45 l).1 := ⟨_, rfl⟩
  obtain ⟨neg, hneg⟩ : ∃ neg, neg = (preL 45 l).2 := ⟨_, rfl⟩
  have htl2 : t.length ≤ l.length := by rw [ht]; exact preL_len 45 l
  have htl : t.length ≤ 300 := Nat.le_trans htl2 hl
  have hcp := fun wx => cutPrefix_any 45 l wx (by omega)
  rw [← ht, ← hneg] at hcp; rw [← ht] at hf
  have hc1 := fun wx => cut_any 46 t wx (by omega)
  have hl1 := (cut3_len 46 t).1
  have hl2 := (cut3_len 46 t).2
  have f1 : decide ((65536 : Int) < (l.length : Int)) = false := decide_eq_false (by omega)
  unfold RetCut at hc1
  rw [hf] at hc1
  have hc2 := fun wx => cut_any 47 t wx (by omega)
  unfold RetCut at hc2
  have hl3 := (cut3_len 47 t).1; have hl4 := (cut3_len 47 t).2
  rw [← ht] at hpx hh hr
  rw [← hneg] at hr
  rw [← ht, ← hneg]
  obtain ⟨x, hx⟩ : ∃ x, x = (cut3 47 t).1 := ⟨_, rfl⟩; obtain ⟨y, hy⟩ : ∃ y, y = (cut3 47 t).2.1 := ⟨_, rfl⟩; obtain ⟨h, hhe⟩ : ∃ h, h = (cut3 47 t).2.2 := ⟨_, rfl⟩
  rw [← hx] at hc2 hl3 hpx hr ⊢
  rw [← hy] at hc2 hl4
  rw [← hhe] at hc2 hh
  subst hh
  obtain ⟨a, ha⟩ : ∃ a : ByteArray, a = ⟨(cut3 46 t).1.toArray⟩ := ⟨_, rfl⟩; obtain ⟨b, hb⟩ : ∃ b : ByteArray, b = ⟨(cut3 46 t).2.1.toArray⟩ := ⟨_, rfl⟩
  rw [← ha, ← hb] at hc1
  have hpX := fun wx => parse_any x wx (by omega); have hpY := fun wx => parse_any y wx (by omega)
  have hwx := parV_len (l := x) (K := 300) (by omega); have hwy := parV_len (l := y) (K := 300) (by omega)
  rw [hpx, errV_zero] at hpX
  obtain ⟨S, hS⟩ : ∃ S : ByteArray, S = ⟨l.toArray⟩ := ⟨_, rfl⟩; obtain ⟨T, hT⟩ : ∃ T : ByteArray, T = ⟨t.toArray⟩ := ⟨_, rfl⟩; obtain ⟨XB, hXB⟩ : ∃ A : ByteArray, A = ⟨x.toArray⟩ := ⟨_, rfl⟩; obtain ⟨YB, hYB⟩ : ∃ B : ByteArray, B = ⟨y.toArray⟩ := ⟨_, rfl⟩
  have hsz : S.size = l.length := by rw [hS]; simp [ByteArray.size]
  rw [← hS, ← hT] at hcp; rw [← hT] at hc1; rw [← hT, ← hXB, ← hYB] at hc2; rw [← hXB] at hpX; rw [← hYB] at hpY; rw [← hS]
  obtain ⟨VX, hVX⟩ : ∃ V, V = parV x := ⟨_, rfl⟩; obtain ⟨VY, hVY⟩ : ∃ V, V = parV y := ⟨_, rfl⟩
  rw [← hVX] at hpX hwx hr ⊢
  rw [← hVY] at hpY hwy
  have hlo : (wd 1).length ≤ 1 := by rw [wd_one_len]; exact Nat.le_refl _
  obtain ⟨q, hq⟩ : ∃ q, q = qm neg VX 1 := ⟨_, rfl⟩
  rw [← hq] at hr ⊢
  have hrl : rl q ≤ 300 := by rw [hq]; exact rl_qm (by decide) hwx (by omega)
  obtain ⟨TX, hTX⟩ : ∃ A : ByteArray, A = ⟨(rtx q).toArray⟩ := ⟨_, rfl⟩
  have htx : TX = S := by rw [hTX, hr, hS]
  have hbq : (S.toList == S.toList) = true := by simp
  have HQ := Lib.hid hq; have HTX := Lib.hid hTX; clear hq hTX hr
  have HCP := Lib.hid hcp; have HC1 := Lib.hid hc1; have HC2 := Lib.hid hc2; have HPX := Lib.hid hpX; have HPY := Lib.hid hpY; clear hcp hc1 hc2 hpX hpY hS hT hXB hYB hx hy hhe ha hb ht hneg hf hVX hVY hl1 hl2 hl3 hl4 htl htl2 hpx
  go_enter Tryz.func65, Tryz.ntmps65
  have hs := HCP.out w0
  have HS := Lib.hid hs; clear hs
  go_wp2_with fail
  rw [← HW0.out]
  (with_reducible refine HS.out.mono ?_); rintro e wx ⟨rfl, rfl⟩
  clear HS
  have hs := HC1.out w0
  have HS := Lib.hid hs; clear hs
  go_wp2_with fail
  (with_reducible refine HS.out.mono ?_); rintro e w2 ⟨rfl, hb2⟩
  clear HS
  have HB2 := Lib.hid (HB0.out.step hb2)
  have BXR := Lib.hid (heap_below BXR.out hb2)
  clear hb2
  have hs := HC2.out w2
  have HS := Lib.hid hs; clear hs
  go_wp2_with fail
  (with_reducible refine HS.out.mono ?_); rintro e w3 ⟨rfl, hb3⟩
  clear HS
  have HB3 := Lib.hid (HB2.out.step hb3)
  have BXR := Lib.hid (heap_below BXR.out hb3)
  clear hb3
  have hs := HPX.out w3
  have HS := Lib.hid hs; clear hs
  go_wp2_with fail
  (with_reducible refine HS.out.mono ?_); rintro e w4 ⟨v4, rfl, hb4, hn4⟩
  clear HS
  have HB4 := Lib.hid (HB3.out.step hb4)
  have BXR := Lib.hid (heap_below BXR.out hb4)
  have NX := Lib.hid hn4; clear hn4
  clear hb4
  have hs := one_any w4
  have HS := Lib.hid hs; clear hs
  go_wp2_with fail
  (with_reducible refine HS.out.mono ?_); rintro e w5 ⟨v5, rfl, hb5, hn5⟩
  clear HS
  have HB5 := Lib.hid (HB4.out.step hb5)
  have NX := Lib.hid (NX.out.below hb5)
  have BXR := Lib.hid (heap_below BXR.out hb5)
  have ONE := Lib.hid hn5; clear hn5
  clear hb5
  have hs := formN neg NX.out ONE.out (by omega) (by omega) (by decide)
  rw [← HQ.out] at hs
  have HS := Lib.hid hs; clear hs
  go_wp2_with fail
  (with_reducible refine HS.out.mono ?_); rintro e w6 ⟨v6, rfl, hb6, hn6⟩
  clear HS
  have HB6 := Lib.hid (HB5.out.step hb6)
  have NX := Lib.hid (NX.out.below hb6)
  have ONE := Lib.hid (ONE.out.below hb6)
  have BXR := Lib.hid (heap_below BXR.out hb6)
  have Q := Lib.hid hn6; clear hn6
  clear hb6
  obtain ⟨sQ, oQ, nQ, cQ, aQ, mQ, dQ, rfl⟩ := Q.out.shape
  have hb80 : Below w6.heap.size w6 (w6.alloc (.cells #[.bool sQ, .slice oQ nQ cQ, .slice aQ mQ dQ] 24)) := (Below.refl _ _).alloc (Nat.le_refl _) _
  have hxl := heap_alloc_new w6 (.cells #[.bool sQ, .slice oQ nQ cQ, .slice aQ mQ dQ] 24)
  have hs := textq_any _ q (w6.alloc (.cells #[.bool sQ, .slice oQ nQ cQ, .slice aQ mQ dQ] 24)) ((Q.out.below hb80).is (by omega))
  rw [← HTX.out] at hs
  have HS := Lib.hid hs; clear hs
  go_wp2_with fail
  obtain ⟨w80, hw80⟩ : ∃ w80, w80 = w6.alloc (.cells #[.bool sQ, .slice oQ nQ cQ, .slice aQ mQ dQ] 24) := ⟨_, rfl⟩; obtain ⟨gl, hgl⟩ : ∃ gl, gl = w6.heap.size := ⟨_, rfl⟩
  rw [← hw80] at hb80 hxl HS ⊢; rw [← hgl] at hxl ⊢
  clear hgl
  have HB80 := Lib.hid (HB6.out.step hb80)
  have NX := Lib.hid (NX.out.below hb80)
  have ONE := Lib.hid (ONE.out.below hb80)
  have Q := Lib.hid (Q.out.below hb80)
  have BXR := Lib.hid (heap_below BXR.out hb80)
  have BXL := Lib.hid hxl; clear hxl hw80 hb80
  (with_reducible refine HS.out.mono ?_); rintro e w81 ⟨rfl, hb81⟩
  have HB81 := Lib.hid (HB80.out.step hb81)
  have NX := Lib.hid (NX.out.below hb81)
  have ONE := Lib.hid (ONE.out.below hb81)
  have Q := Lib.hid (Q.out.below hb81)
  have BXR := Lib.hid (heap_below BXR.out hb81)
  have BXL := Lib.hid (heap_below BXL.out hb81)
  clear hb81 HS
  subst htx
  obtain ⟨eL0, eL1, eL2⟩ := row3 BXL.out
  obtain ⟨eR0, eR1, eR2⟩ := row3 BXR.out
  obtain ⟨fR0, fR1, fR2⟩ := froz3 BXR.out
  go_wp2_with fail
  refine ret_rat2 rfl w.heap.size _ _ _ rfl (put3_heap BXR.out) rfl ?_
  exact ⟨_, rfl, put3_below HB81.out (by omega) _ _ _, isR_put Q.out BXR.out⟩
set_option maxRecDepth 100000 in
set_option maxHeartbeats 6400000 in
theorem pfr_differs2 (l : List UInt8) (w : World)  (hl : l.length ≤ 300) (hf : (cut3 46 (preL 45 l).1).2.2 = false) (hh : (cut3 47 (preL 45 l).1).2.2 = true) (hpx : parC (cut3 47 (preL 45 l).1).1 = 0) (hpy : parC (cut3 47 (preL 45 l).1).2.1 = 0) (hvy : parV (cut3 47 (preL 45 l).1).2.1 ≠ 0) (hr : rtx (qm (preL 45 l).2 (parV (cut3 47 (preL 45 l).1).1) (parV (cut3 47 (preL 45 l).1).2.1)) ≠ l) :
    Calls Tryz.prog 65 #[.string ⟨l.toArray⟩] w (RetRE w 0 (errV 2)) := by
  rw [errV_pos (by decide)]
  have hb0 := ((Below.refl w.heap.size w).alloc (by first | (simp; done) | (simp; omega)) (.cells #[.bool false, .slice none 0 0, .slice none 0 0] 24))
  have hxR := nest1_0 w (.cells #[.bool false, .slice none 0 0, .slice none 0 0] 24)
  obtain ⟨w0, hw0⟩ : ∃ w0, w0 = (w.alloc (.cells #[.bool false, .slice none 0 0, .slice none 0 0] 24)) := ⟨_, rfl⟩
  rw [← hw0] at hb0 hxR
  have HB0 := Lib.hid hb0; have HW0 := Lib.hid hw0
  have BXR := Lib.hid hxR
  clear hb0 hw0 hxR
  obtain ⟨t, ht⟩ : ∃ t, t = (preL 45 l).1 := ⟨_, rfl⟩
  obtain ⟨neg, hneg⟩ : ∃ neg, neg = (preL 45 l).2 := ⟨_, rfl⟩
  have htl2 : t.length ≤ l.length := by rw [ht]; exact preL_len 45 l
  have htl : t.length ≤ 300 := Nat.le_trans htl2 hl
  have hcp := fun wx => cutPrefix_any 45 l wx (by omega)
  rw [← ht, ← hneg] at hcp; rw [← ht] at hf
  have hc1 := fun wx => cut_any 46 t wx (by omega)
  have hl1 := (cut3_len 46 t).1
  have hl2 := (cut3_len 46 t).2
  have f1 : decide ((65536 : Int) < (l.length : Int)) = false := decide_eq_false (by omega)
  unfold RetCut at hc1
  rw [hf] at hc1
  have hc2 := fun wx => cut_any 47 t wx (by omega)
  unfold RetCut at hc2
  have hl3 := (cut3_len 47 t).1; have hl4 := (cut3_len 47 t).2
  rw [← ht] at hpx hh hpy hvy hr
  rw [← hneg] at hr
  obtain ⟨x, hx⟩ : ∃ x, x = (cut3 47 t).1 := ⟨_, rfl⟩; obtain ⟨y, hy⟩ : ∃ y, y = (cut3 47 t).2.1 := ⟨_, rfl⟩; obtain ⟨h, hhe⟩ : ∃ h, h = (cut3 47 t).2.2 := ⟨_, rfl⟩
  rw [← hx] at hc2 hl3 hpx hr
  rw [← hy] at hc2 hl4 hpy hvy hr
  rw [← hhe] at hc2 hh
  subst hh
  obtain ⟨a, ha⟩ : ∃ a : ByteArray, a = ⟨(cut3 46 t).1.toArray⟩ := ⟨_, rfl⟩; obtain ⟨b, hb⟩ : ∃ b : ByteArray, b = ⟨(cut3 46 t).2.1.toArray⟩ := ⟨_, rfl⟩
  rw [← ha, ← hb] at hc1
  have hpX := fun wx => parse_any x wx (by omega); have hpY := fun wx => parse_any y wx (by omega)
  have hwx := parV_len (l := x) (K := 300) (by omega); have hwy := parV_len (l := y) (K := 300) (by omega)
  rw [hpx, errV_zero] at hpX
  rw [hpy, errV_zero] at hpY
  obtain ⟨S, hS⟩ : ∃ S : ByteArray, S = ⟨l.toArray⟩ := ⟨_, rfl⟩; obtain ⟨T, hT⟩ : ∃ T : ByteArray, T = ⟨t.toArray⟩ := ⟨_, rfl⟩; obtain ⟨XB, hXB⟩ : ∃ A : ByteArray, A = ⟨x.toArray⟩ := ⟨_, rfl⟩; obtain ⟨YB, hYB⟩ : ∃ B : ByteArray, B = ⟨y.toArray⟩ := ⟨_, rfl⟩
  have hsz : S.size = l.length := by rw [hS]; simp [ByteArray.size]
  rw [← hS, ← hT] at hcp; rw [← hT] at hc1; rw [← hT, ← hXB, ← hYB] at hc2; rw [← hXB] at hpX; rw [← hYB] at hpY; rw [← hS]
  obtain ⟨VX, hVX⟩ : ∃ V, V = parV x := ⟨_, rfl⟩; obtain ⟨VY, hVY⟩ : ∃ V, V = parV y := ⟨_, rfl⟩
  rw [← hVX] at hpX hwx hr
  rw [← hVY] at hpY hwy hvy hr
  have hlo : (wd 1).length ≤ 1 := by rw [wd_one_len]; exact Nat.le_refl _
  have HVY := Lib.hid hvy; clear hvy
  obtain ⟨q, hq⟩ : ∃ q, q = qm neg VX VY := ⟨_, rfl⟩
  rw [← hq] at hr
  have hrl : rl q ≤ 300 := by rw [hq]; exact rl_qm HVY.out hwx (by omega)
  obtain ⟨TX, hTX⟩ : ∃ A : ByteArray, A = ⟨(rtx q).toArray⟩ := ⟨_, rfl⟩
  have hne : TX ≠ S := fun e => hr (by rw [hTX, hS] at e; have := congrArg (fun z : ByteArray => z.data.toList) e; simpa using this)
  have HQ := Lib.hid hq; have HTX := Lib.hid hTX; clear hq hTX hr
  have HCP := Lib.hid hcp; have HC1 := Lib.hid hc1; have HC2 := Lib.hid hc2; have HPX := Lib.hid hpX; have HPY := Lib.hid hpY; clear hcp hc1 hc2 hpX hpY hS hT hXB hYB hx hy hhe ha hb ht hneg hf hVX hVY hl1 hl2 hl3 hl4 htl htl2 hpx hpy
  go_enter Tryz.func65, Tryz.ntmps65
  have hs := HCP.out w0
  have HS := Lib.hid hs; clear hs
  go_wp2_with fail
  rw [← HW0.out]
  (with_reducible refine HS.out.mono ?_); rintro e wx ⟨rfl, rfl⟩
  clear HS
  have hs := HC1.out w0
  have HS := Lib.hid hs; clear hs
  go_wp2_with fail
  (with_reducible refine HS.out.mono ?_); rintro e w2 ⟨rfl, hb2⟩
  clear HS
  have HB2 := Lib.hid (HB0.out.step hb2)
  have BXR := Lib.hid (heap_below BXR.out hb2)
  clear hb2
  have hs := HC2.out w2
  have HS := Lib.hid hs; clear hs
  go_wp2_with fail
  (with_reducible refine HS.out.mono ?_); rintro e w3 ⟨rfl, hb3⟩
  clear HS
  have HB3 := Lib.hid (HB2.out.step hb3)
  have BXR := Lib.hid (heap_below BXR.out hb3)
  clear hb3
  have hs := HPX.out w3
  have HS := Lib.hid hs; clear hs
  go_wp2_with fail
  (with_reducible refine HS.out.mono ?_); rintro e w4 ⟨v4, rfl, hb4, hn4⟩
  clear HS
  have HB4 := Lib.hid (HB3.out.step hb4)
  have BXR := Lib.hid (heap_below BXR.out hb4)
  have NX := Lib.hid hn4; clear hn4
  clear hb4
  have hs := one_any w4
  have HS := Lib.hid hs; clear hs
  go_wp2_with fail
  (with_reducible refine HS.out.mono ?_); rintro e w5 ⟨v5, rfl, hb5, hn5⟩
  clear HS
  have HB5 := Lib.hid (HB4.out.step hb5)
  have NX := Lib.hid (NX.out.below hb5)
  have BXR := Lib.hid (heap_below BXR.out hb5)
  have ONE := Lib.hid hn5; clear hn5
  clear hb5
  have hs := HPY.out w5
  have HS := Lib.hid hs; clear hs
  go_wp2_with fail
  (with_reducible refine HS.out.mono ?_); rintro e w6 ⟨v6, rfl, hb6, hn6⟩
  clear HS
  have HB6 := Lib.hid (HB5.out.step hb6)
  have NX := Lib.hid (NX.out.below hb6)
  have ONE := Lib.hid (ONE.out.below hb6)
  have BXR := Lib.hid (heap_below BXR.out hb6)
  have NY := Lib.hid hn6; clear hn6
  clear hb6
  have hs := bits_any _ _ w6 NY.out (by omega)
  rw [val_wd] at hs
  obtain ⟨bl, hbl⟩ : ∃ bl, bl = blen VY := ⟨_, rfl⟩
  have hbz : ((bl : Int) == 0) = false := by rw [beq_eq_false_iff_ne, hbl]; have := blen_pos.2 HVY.out; omega
  rw [← hbl] at hs; clear hbl
  have HS := Lib.hid hs; clear hs
  go_wp2_with fail
  (with_reducible refine HS.out.mono ?_); rintro e wx ⟨rfl, rfl⟩
  clear HS
  have hs := formN neg NX.out NY.out (by omega) (by omega) HVY.out
  rw [← HQ.out] at hs
  have HS := Lib.hid hs; clear hs
  go_wp2_with fail
  (with_reducible refine HS.out.mono ?_); rintro e w7 ⟨v7, rfl, hb7, hn7⟩
  clear HS
  have HB7 := Lib.hid (HB6.out.step hb7)
  have NX := Lib.hid (NX.out.below hb7)
  have ONE := Lib.hid (ONE.out.below hb7)
  have NY := Lib.hid (NY.out.below hb7)
  have BXR := Lib.hid (heap_below BXR.out hb7)
  have Q := Lib.hid hn7; clear hn7
  clear hb7
  obtain ⟨sQ, oQ, nQ, cQ, aQ, mQ, dQ, rfl⟩ := Q.out.shape
  have hb80 : Below w7.heap.size w7 (w7.alloc (.cells #[.bool sQ, .slice oQ nQ cQ, .slice aQ mQ dQ] 24)) := (Below.refl _ _).alloc (Nat.le_refl _) _
  have hxl := heap_alloc_new w7 (.cells #[.bool sQ, .slice oQ nQ cQ, .slice aQ mQ dQ] 24)
  have hs := textq_any _ q (w7.alloc (.cells #[.bool sQ, .slice oQ nQ cQ, .slice aQ mQ dQ] 24)) ((Q.out.below hb80).is (by omega))
  rw [← HTX.out] at hs
  have HS := Lib.hid hs; clear hs
  go_wp2_with fail
  obtain ⟨w80, hw80⟩ : ∃ w80, w80 = w7.alloc (.cells #[.bool sQ, .slice oQ nQ cQ, .slice aQ mQ dQ] 24) := ⟨_, rfl⟩; obtain ⟨gl, hgl⟩ : ∃ gl, gl = w7.heap.size := ⟨_, rfl⟩
  rw [← hw80] at hb80 hxl HS ⊢; rw [← hgl] at hxl ⊢
  clear hgl
  have HB80 := Lib.hid (HB7.out.step hb80)
  have NX := Lib.hid (NX.out.below hb80)
  have ONE := Lib.hid (ONE.out.below hb80)
  have NY := Lib.hid (NY.out.below hb80)
  have Q := Lib.hid (Q.out.below hb80)
  have BXR := Lib.hid (heap_below BXR.out hb80)
  have BXL := Lib.hid hxl; clear hxl hw80 hb80
  (with_reducible refine HS.out.mono ?_); rintro e w81 ⟨rfl, hb81⟩
  have HB81 := Lib.hid (HB80.out.step hb81)
  have NX := Lib.hid (NX.out.below hb81)
  have ONE := Lib.hid (ONE.out.below hb81)
  have NY := Lib.hid (NY.out.below hb81)
  have Q := Lib.hid (Q.out.below hb81)
  have BXR := Lib.hid (heap_below BXR.out hb81)
  have BXL := Lib.hid (heap_below BXL.out hb81)
  clear hb81 HS
  have hbq : (TX.toList == S.toList) = false := by rw [beq_eq_false_iff_ne, ByteArray.toList_eq, ByteArray.toList_eq]; intro e; exact hne (ByteArray.ext (Array.toList_inj.1 e))
  obtain ⟨eR0, eR1, eR2⟩ := row3 BXR.out
  obtain ⟨fR0, fR1, fR2⟩ := froz3 BXR.out
  go_wp2_with fail
  refine ret_rat2 rfl w.heap.size _ _ _ rfl (put3_heap BXR.out) rfl ?_
  exact ⟨_, rfl, put3_below HB81.out (by omega) _ _ _, isR_zero _⟩
set_option maxRecDepth 100000 in
set_option maxHeartbeats 6400000 in
theorem pfr_fits2 (l : List UInt8) (w : World)  (hl : l.length ≤ 300) (hf : (cut3 46 (preL 45 l).1).2.2 = false) (hh : (cut3 47 (preL 45 l).1).2.2 = true) (hpx : parC (cut3 47 (preL 45 l).1).1 = 0) (hpy : parC (cut3 47 (preL 45 l).1).2.1 = 0) (hvy : parV (cut3 47 (preL 45 l).1).2.1 ≠ 0) (hr : rtx (qm (preL 45 l).2 (parV (cut3 47 (preL 45 l).1).1) (parV (cut3 47 (preL 45 l).1).2.1)) = l) :
    Calls Tryz.prog 65 #[.string ⟨l.toArray⟩] w (RetRE w (qm (preL 45 l).2 (parV (cut3 47 (preL 45 l).1).1) (parV (cut3 47 (preL 45 l).1).2.1)) (errV 0)) := by
  rw [errV_zero]
  have hb0 := ((Below.refl w.heap.size w).alloc (by first | (simp; done) | (simp; omega)) (.cells #[.bool false, .slice none 0 0, .slice none 0 0] 24))
  have hxR := nest1_0 w (.cells #[.bool false, .slice none 0 0, .slice none 0 0] 24)
  obtain ⟨w0, hw0⟩ : ∃ w0, w0 = (w.alloc (.cells #[.bool false, .slice none 0 0, .slice none 0 0] 24)) := ⟨_, rfl⟩
  rw [← hw0] at hb0 hxR
  have HB0 := Lib.hid hb0; have HW0 := Lib.hid hw0
  have BXR := Lib.hid hxR
  clear hb0 hw0 hxR
  obtain ⟨t, ht⟩ : ∃ t, t = (preL 45 l).1 := ⟨_, rfl⟩
  obtain ⟨neg, hneg⟩ : ∃ neg, neg = (preL 45 l).2 := ⟨_, rfl⟩
  have htl2 : t.length ≤ l.length := by rw [ht]; exact preL_len 45 l
  have htl : t.length ≤ 300 := Nat.le_trans htl2 hl
  have hcp := fun wx => cutPrefix_any 45 l wx (by omega)
  rw [← ht, ← hneg] at hcp; rw [← ht] at hf
  have hc1 := fun wx => cut_any 46 t wx (by omega)
  have hl1 := (cut3_len 46 t).1
  have hl2 := (cut3_len 46 t).2
  have f1 : decide ((65536 : Int) < (l.length : Int)) = false := decide_eq_false (by omega)
  unfold RetCut at hc1
  rw [hf] at hc1
  have hc2 := fun wx => cut_any 47 t wx (by omega)
  unfold RetCut at hc2
  have hl3 := (cut3_len 47 t).1; have hl4 := (cut3_len 47 t).2
  rw [← ht] at hpx hh hpy hvy hr
  rw [← hneg] at hr
  rw [← ht, ← hneg]
  obtain ⟨x, hx⟩ : ∃ x, x = (cut3 47 t).1 := ⟨_, rfl⟩; obtain ⟨y, hy⟩ : ∃ y, y = (cut3 47 t).2.1 := ⟨_, rfl⟩; obtain ⟨h, hhe⟩ : ∃ h, h = (cut3 47 t).2.2 := ⟨_, rfl⟩
  rw [← hx] at hc2 hl3 hpx hr ⊢
  rw [← hy] at hc2 hl4 hpy hvy hr ⊢
  rw [← hhe] at hc2 hh
  subst hh
  obtain ⟨a, ha⟩ : ∃ a : ByteArray, a = ⟨(cut3 46 t).1.toArray⟩ := ⟨_, rfl⟩; obtain ⟨b, hb⟩ : ∃ b : ByteArray, b = ⟨(cut3 46 t).2.1.toArray⟩ := ⟨_, rfl⟩
  rw [← ha, ← hb] at hc1
  have hpX := fun wx => parse_any x wx (by omega); have hpY := fun wx => parse_any y wx (by omega)
  have hwx := parV_len (l := x) (K := 300) (by omega); have hwy := parV_len (l := y) (K := 300) (by omega)
  rw [hpx, errV_zero] at hpX
  rw [hpy, errV_zero] at hpY
  obtain ⟨S, hS⟩ : ∃ S : ByteArray, S = ⟨l.toArray⟩ := ⟨_, rfl⟩; obtain ⟨T, hT⟩ : ∃ T : ByteArray, T = ⟨t.toArray⟩ := ⟨_, rfl⟩; obtain ⟨XB, hXB⟩ : ∃ A : ByteArray, A = ⟨x.toArray⟩ := ⟨_, rfl⟩; obtain ⟨YB, hYB⟩ : ∃ B : ByteArray, B = ⟨y.toArray⟩ := ⟨_, rfl⟩
  have hsz : S.size = l.length := by rw [hS]; simp [ByteArray.size]
  rw [← hS, ← hT] at hcp; rw [← hT] at hc1; rw [← hT, ← hXB, ← hYB] at hc2; rw [← hXB] at hpX; rw [← hYB] at hpY; rw [← hS]
  obtain ⟨VX, hVX⟩ : ∃ V, V = parV x := ⟨_, rfl⟩; obtain ⟨VY, hVY⟩ : ∃ V, V = parV y := ⟨_, rfl⟩
  rw [← hVX] at hpX hwx hr ⊢
  rw [← hVY] at hpY hwy hvy hr ⊢
  have hlo : (wd 1).length ≤ 1 := by rw [wd_one_len]; exact Nat.le_refl _
  have HVY := Lib.hid hvy; clear hvy
  obtain ⟨q, hq⟩ : ∃ q, q = qm neg VX VY := ⟨_, rfl⟩
  rw [← hq] at hr ⊢
  have hrl : rl q ≤ 300 := by rw [hq]; exact rl_qm HVY.out hwx (by omega)
  obtain ⟨TX, hTX⟩ : ∃ A : ByteArray, A = ⟨(rtx q).toArray⟩ := ⟨_, rfl⟩
  have htx : TX = S := by rw [hTX, hr, hS]
  have hbq : (S.toList == S.toList) = true := by simp
  have HQ := Lib.hid hq; have HTX := Lib.hid hTX; clear hq hTX hr
  have HCP := Lib.hid hcp; have HC1 := Lib.hid hc1; have HC2 := Lib.hid hc2; have HPX := Lib.hid hpX; have HPY := Lib.hid hpY; clear hcp hc1 hc2 hpX hpY hS hT hXB hYB hx hy hhe ha hb ht hneg hf hVX hVY hl1 hl2 hl3 hl4 htl htl2 hpx hpy
  go_enter Tryz.func65, Tryz.ntmps65
  have hs := HCP.out w0
  have HS := Lib.hid hs; clear hs
  go_wp2_with fail
  rw [← HW0.out]
  (with_reducible refine HS.out.mono ?_); rintro e wx ⟨rfl, rfl⟩
  clear HS
  have hs := HC1.out w0
  have HS := Lib.hid hs; clear hs
  go_wp2_with fail
  (with_reducible refine HS.out.mono ?_); rintro e w2 ⟨rfl, hb2⟩
  clear HS
  have HB2 := Lib.hid (HB0.out.step hb2)
  have BXR := Lib.hid (heap_below BXR.out hb2)
  clear hb2
  have hs := HC2.out w2
  have HS := Lib.hid hs; clear hs
  go_wp2_with fail
  (with_reducible refine HS.out.mono ?_); rintro e w3 ⟨rfl, hb3⟩
  clear HS
  have HB3 := Lib.hid (HB2.out.step hb3)
  have BXR := Lib.hid (heap_below BXR.out hb3)
  clear hb3
  have hs := HPX.out w3
  have HS := Lib.hid hs; clear hs
  go_wp2_with fail
  (with_reducible refine HS.out.mono ?_); rintro e w4 ⟨v4, rfl, hb4, hn4⟩
  clear HS
  have HB4 := Lib.hid (HB3.out.step hb4)
  have BXR := Lib.hid (heap_below BXR.out hb4)
  have NX := Lib.hid hn4; clear hn4
  clear hb4
  have hs := one_any w4
  have HS := Lib.hid hs; clear hs
  go_wp2_with fail
  (with_reducible refine HS.out.mono ?_); rintro e w5 ⟨v5, rfl, hb5, hn5⟩
  clear HS
  have HB5 := Lib.hid (HB4.out.step hb5)
  have NX := Lib.hid (NX.out.below hb5)
  have BXR := Lib.hid (heap_below BXR.out hb5)
  have ONE := Lib.hid hn5; clear hn5
  clear hb5
  have hs := HPY.out w5
  have HS := Lib.hid hs; clear hs
  go_wp2_with fail
  (with_reducible refine HS.out.mono ?_); rintro e w6 ⟨v6, rfl, hb6, hn6⟩
  clear HS
  have HB6 := Lib.hid (HB5.out.step hb6)
  have NX := Lib.hid (NX.out.below hb6)
  have ONE := Lib.hid (ONE.out.below hb6)
  have BXR := Lib.hid (heap_below BXR.out hb6)
  have NY := Lib.hid hn6; clear hn6
  clear hb6
  have hs := bits_any _ _ w6 NY.out (by omega)
  rw [val_wd] at hs
  obtain ⟨bl, hbl⟩ : ∃ bl, bl = blen VY := ⟨_, rfl⟩
  have hbz : ((bl : Int) == 0) = false := by rw [beq_eq_false_iff_ne, hbl]; have := blen_pos.2 HVY.out; omega
  rw [← hbl] at hs; clear hbl
  have HS := Lib.hid hs; clear hs
  go_wp2_with fail
  (with_reducible refine HS.out.mono ?_); rintro e wx ⟨rfl, rfl⟩
  clear HS
  have hs := formN neg NX.out NY.out (by omega) (by omega) HVY.out
  rw [← HQ.out] at hs
  have HS := Lib.hid hs; clear hs
  go_wp2_with fail
  (with_reducible refine HS.out.mono ?_); rintro e w7 ⟨v7, rfl, hb7, hn7⟩
  clear HS
  have HB7 := Lib.hid (HB6.out.step hb7)
  have NX := Lib.hid (NX.out.below hb7)
  have ONE := Lib.hid (ONE.out.below hb7)
  have NY := Lib.hid (NY.out.below hb7)
  have BXR := Lib.hid (heap_below BXR.out hb7)
  have Q := Lib.hid hn7; clear hn7
  clear hb7
  obtain ⟨sQ, oQ, nQ, cQ, aQ, mQ, dQ, rfl⟩ := Q.out.shape
  have hb80 : Below w7.heap.size w7 (w7.alloc (.cells #[.bool sQ, .slice oQ nQ cQ, .slice aQ mQ dQ] 24)) := (Below.refl _ _).alloc (Nat.le_refl _) _
  have hxl := heap_alloc_new w7 (.cells #[.bool sQ, .slice oQ nQ cQ, .slice aQ mQ dQ] 24)
  have hs := textq_any _ q (w7.alloc (.cells #[.bool sQ, .slice oQ nQ cQ, .slice aQ mQ dQ] 24)) ((Q.out.below hb80).is (by omega))
  rw [← HTX.out] at hs
  have HS := Lib.hid hs; clear hs
  go_wp2_with fail
  obtain ⟨w80, hw80⟩ : ∃ w80, w80 = w7.alloc (.cells #[.bool sQ, .slice oQ nQ cQ, .slice aQ mQ dQ] 24) := ⟨_, rfl⟩; obtain ⟨gl, hgl⟩ : ∃ gl, gl = w7.heap.size := ⟨_, rfl⟩
  rw [← hw80] at hb80 hxl HS ⊢; rw [← hgl] at hxl ⊢
  clear hgl
  have HB80 := Lib.hid (HB7.out.step hb80)
  have NX := Lib.hid (NX.out.below hb80)
  have ONE := Lib.hid (ONE.out.below hb80)
  have NY := Lib.hid (NY.out.below hb80)
  have Q := Lib.hid (Q.out.below hb80)
  have BXR := Lib.hid (heap_below BXR.out hb80)
  have BXL := Lib.hid hxl; clear hxl hw80 hb80
  (with_reducible refine HS.out.mono ?_); rintro e w81 ⟨rfl, hb81⟩
  have HB81 := Lib.hid (HB80.out.step hb81)
  have NX := Lib.hid (NX.out.below hb81)
  have ONE := Lib.hid (ONE.out.below hb81)
  have NY := Lib.hid (NY.out.below hb81)
  have Q := Lib.hid (Q.out.below hb81)
  have BXR := Lib.hid (heap_below BXR.out hb81)
  have BXL := Lib.hid (heap_below BXL.out hb81)
  clear hb81 HS
  subst htx
  obtain ⟨eL0, eL1, eL2⟩ := row3 BXL.out
  obtain ⟨eR0, eR1, eR2⟩ := row3 BXR.out
  obtain ⟨fR0, fR1, fR2⟩ := froz3 BXR.out
  go_wp2_with fail
  refine ret_rat2 rfl w.heap.size _ _ _ rfl (put3_heap BXR.out) rfl ?_
  exact ⟨_, rfl, put3_below HB81.out (by omega) _ _ _, isR_put Q.out BXR.out⟩
end Go.Proofs.YtkedjammeoaciaaGreatDoor
/-
  rational.Parse: what it hands back, for every text that is short or too long.
  Conditions: each theorem's own.
-/
namespace Go.Proofs.YtkedjammeoaciaaGreatDoor
open Go.RowKit Go.ChangeShapes Go.WideShapes

theorem cut3_some {c : UInt8} {l : List UInt8} {p : List UInt8 × List UInt8} (h : cutL c l = some p) : cut3 c l = (p.1, p.2, true) := by unfold cut3; rw [h]
theorem cut3_none {c : UInt8} {l : List UInt8} (h : cutL c l = none) : cut3 c l = (l, [], false) := by unfold cut3; rw [h]
theorem frV_none1 {l a : List UInt8} {neg : Bool} {b : Option (List UInt8)} (h : parC a ≠ 0) : frV l neg a b = none := by
  unfold frV
  cases b with
  | none => exact if_neg fun k => h k.1
  | some b => exact if_neg fun k => h k.1
theorem parseq_small (l : List UInt8) (w : World) (hl : l.length ≤ 300) :
    Calls Tryz.prog 65 #[.string ⟨l.toArray⟩] w (RetRE w (oQ (prV l)) (errV (oC (prV l)))) := by
  cases h : cutL 46 (preL 45 l).1 with
  | some p =>
    have h3 := cut3_some h
    have hk := parseq_point l w hl (by rw [h3])
    rw [h3] at hk
    have e : prV l = dcO (preL 45 l).2 p.1 p.2 l.length := by
      unfold prV dcO
      rw [h]
      show (if l.length ≤ 64 then _ else _) = _
      by_cases h6 : l.length ≤ 64
      · rw [if_pos h6, if_pos (by omega)]
      · rw [if_neg h6, if_neg (by omega)]
    rw [e]; exact hk
  | none =>
    have h3 := cut3_none h
    have hf : (cut3 46 (preL 45 l).1).2.2 = false := by rw [h3]
    cases h2 : cutL 47 (preL 45 l).1 with
    | some p =>
      have h4 := cut3_some h2
      have e : prV l = frV l (preL 45 l).2 p.1 (some p.2) := by unfold prV; rw [h, h2]
      have hh : (cut3 47 (preL 45 l).1).2.2 = true := by rw [h4]
      rw [e]
      by_cases hx : parC p.1 = 0
      · by_cases hy : parC p.2 = 0
        · by_cases hv : parV p.2 = 0
          · have hk := pfr_zero l w hl hf hh (by rw [h4]; exact hx) (by rw [h4]; exact hy) (by rw [h4]; exact hv)
            have e2 : frV l (preL 45 l).2 p.1 (some p.2) = none := if_neg fun k => k.2.2.1 hv
            rw [e2]; exact hk
          · by_cases hr : rtx (qm (preL 45 l).2 (parV p.1) (parV p.2)) = l
            · have hk := pfr_fits2 l w hl hf hh (by rw [h4]; exact hx) (by rw [h4]; exact hy) (by rw [h4]; exact hv) (by rw [h4]; exact hr)
              rw [h4] at hk
              have e2 : frV l (preL 45 l).2 p.1 (some p.2) = some (qm (preL 45 l).2 (parV p.1) (parV p.2)) := if_pos ⟨hx, hy, hv, hr⟩
              rw [e2]; exact hk
            · have hk := pfr_differs2 l w hl hf hh (by rw [h4]; exact hx) (by rw [h4]; exact hy) (by rw [h4]; exact hv) (by rw [h4]; exact hr)
              have e2 : frV l (preL 45 l).2 p.1 (some p.2) = none := if_neg fun k => hr k.2.2.2
              rw [e2]; exact hk
        · have hk := pfr_bady l w hl hf hh (by rw [h4]; exact hx) (by rw [h4]; exact hy)
          have e2 : frV l (preL 45 l).2 p.1 (some p.2) = none := if_neg fun k => hy k.2.1
          rw [e2]; exact hk
      · have hk := pfr_badx l w hl hf (by rw [h4]; exact hx)
        rw [frV_none1 hx]; exact hk
    | none =>
      have h4 := cut3_none h2
      have e : prV l = frV l (preL 45 l).2 (preL 45 l).1 none := by unfold prV; rw [h, h2]
      have hh : (cut3 47 (preL 45 l).1).2.2 = false := by rw [h4]
      rw [e]
      by_cases hx : parC (preL 45 l).1 = 0
      · by_cases hr : rtx (qm (preL 45 l).2 (parV (preL 45 l).1) 1) = l
        · have hk := pfr_fits1 l w hl hf hh (by rw [h4]; exact hx) (by rw [h4]; exact hr)
          rw [h4] at hk
          have e2 : frV l (preL 45 l).2 (preL 45 l).1 none = some (qm (preL 45 l).2 (parV (preL 45 l).1) 1) := if_pos ⟨hx, hr⟩
          rw [e2]; exact hk
        · have hk := pfr_differs1 l w hl hf hh (by rw [h4]; exact hx) (by rw [h4]; exact hr)
          have e2 : frV l (preL 45 l).2 (preL 45 l).1 none = none := if_neg fun k => hr k.2
          rw [e2]; exact hk
      · have hk := pfr_badx l w hl hf (by rw [h4]; exact hx)
        rw [frV_none1 hx]; exact hk
theorem parseq_any (l : List UInt8) (w : World) (hl : l.length ≤ 300 ∨ 65536 < l.length) (hm : l.length ≤ 9223372036854775807) :
    Calls Tryz.prog 65 #[.string ⟨l.toArray⟩] w (RetRE w (prQ l) (errV (prC l))) := by
  unfold prQ prC
  by_cases h : 65536 < l.length
  · rw [if_pos h, if_pos h]; exact parseq_large l w h hm
  · rw [if_neg h, if_neg h]; exact parseq_small l w (by omega)
end Go.Proofs.YtkedjammeoaciaaGreatDoor
/-
  faultlinelaw02.awake: the document's examples are answered as the document says.
  Conditions: each theorem's own.
-/
namespace Go.Proofs.YtkedjammeoaciaaGreatDoor
open Go.RowKit Go.ChangeShapes Go.WideShapes

theorem decL_dig {n : Nat} (h0 : n ≠ 0) (h : n < 10) : decL n = [digB n] := by
  unfold decL; rw [if_neg h0, digD_pos h0, show n / 10 = 0 by omega, digD_zero]; rfl
theorem rtx_qm {s : Bool} {n d a b : Nat} (hd : d ≠ 0) (hn : n ≠ 0) (h1 : n / Nat.gcd n d = a) (h2 : d / Nat.gcd n d = b) :
    rtx (qm s n d) = (if s then [45] else []) ++ decL a ++ (if b = 1 then [] else 47 :: decL b) := by
  unfold rtx
  rw [ng_qm hd hn, nn_qm hd, den_qm hd, h1, h2]
theorem awk_a : ((6 : Int) : Rat) / ((-4 : Int) : Rat) = qm true 3 2 := by
  rw [qm_eq_div, show sgn true 3 = -3 from rfl]
  rw [show ((6 : Int) : Rat) = 6 from rfl, show ((-4 : Int) : Rat) = -4 from rfl, show ((-3 : Int) : Rat) = -3 from rfl, show ((2 : Nat) : Rat) = 2 from rfl]
  grind
theorem awk_ta : (⟨(rtx (qm true 3 2)).toArray⟩ : ByteArray) = ⟨#[45, 51, 47, 50]⟩ := by
  rw [rtx_qm (a := 3) (b := 2) (by decide) (by decide) (by decide) (by decide), decL_dig (by decide) (by decide), decL_dig (by decide) (by decide)]; rfl
theorem awk_f : fl (qm true 3 2) = qm true 2 1 := by
  rw [← q_floor, ng_qm (by decide) (by decide), nn_qm (by decide), den_qm (by decide), show 3 / Nat.gcd 3 2 = 3 from by decide, show 2 / Nat.gcd 3 2 = 2 from by decide]
  rw [if_pos ⟨rfl, by decide⟩]
theorem awk_tf : (⟨(rtx (qm true 2 1)).toArray⟩ : ByteArray) = ⟨#[45, 50]⟩ := by
  rw [rtx_qm (a := 2) (b := 1) (by decide) (by decide) (by decide) (by decide), decL_dig (by decide) (by decide)]; rfl
theorem awk_p : prV [48, 46, 50, 53] = some (qm false 25 100) := by kernel_rfl
theorem awk_b : prQ [48, 46, 50, 53] = qm false 25 100 ∧ prC [48, 46, 50, 53] = 0 := by
  unfold prQ prC
  rw [if_neg (by decide), if_neg (by decide), awk_p]; exact ⟨rfl, rfl⟩
theorem awk_tb : (⟨(rtx (qm false 25 100)).toArray⟩ : ByteArray) = ⟨#[49, 47, 52]⟩ := by
  rw [rtx_qm (a := 1) (b := 4) (by decide) (by decide) (by decide) (by decide), decL_dig (by decide) (by decide), decL_dig (by decide) (by decide)]; rfl
theorem wd_len1 {n : Nat} (h : n < 4294967296) : (wd n).length ≤ 1 := wd_length_of_lt (by omega)

set_option maxRecDepth 100000 in
set_option maxHeartbeats 6400000 in
theorem awake02  (w : World)   :
    Calls Tryz.prog 9 #[] w (RetV w (.bool true)) := by
  have HB0 := Lib.hid (Below.refl w.heap.size w)
  have la : rl (qm true 3 2) ≤ 1 := rl_qm (by decide) (wd_len1 (by decide)) (wd_len1 (by decide))
  have lf : rl (qm true 2 1) ≤ 1 := rl_qm (by decide) (wd_len1 (by decide)) (wd_len1 (by decide))
  have lb : rl (qm false 25 100) ≤ 1 := rl_qm (by decide) (wd_len1 (by decide)) (wd_len1 (by decide))
  have hps := fun wx => parseq_any [48, 46, 50, 53] wx (.inl (by decide)) (by decide)
  rw [awk_b.1, awk_b.2, errV_zero] at hps
  have HPS := Lib.hid hps; clear hps
  go_enter Tryz.func9, Tryz.ntmps9
  have hs := make_any 6 (-4) w (by decide) (by decide) (by decide) (by decide)
  rw [awk_a, show zc (-4 : Int).natAbs = 0 from rfl, errV_zero] at hs
  have HS := Lib.hid hs; clear hs
  go_wp2_with fail
  (with_reducible refine HS.out.mono ?_); rintro e w1 ⟨v1, rfl, hb1, hn1⟩
  clear HS
  have HB1 := Lib.hid (HB0.out.step hb1)
  have A := Lib.hid hn1; clear hn1
  clear hb1
  obtain ⟨sA, oA, nA, cA, aA, mA, dA, rfl⟩ := A.out.shape
  obtain ⟨w2, hw2⟩ : ∃ w2, w2 = w1.alloc (.cells #[.bool sA, .slice oA nA cA, .slice aA mA dA] 24) := ⟨_, rfl⟩
  have hb2 : Below w1.heap.size w1 w2 := by rw [hw2]; exact (Below.refl _ _).alloc (Nat.le_refl _) _
  have hxx := heap_alloc_new w1 (.cells #[.bool sA, .slice oA nA cA, .slice aA mA dA] 24)
  obtain ⟨gx, hgx⟩ : ∃ gx, gx = w1.heap.size := ⟨_, rfl⟩
  rw [← hw2, ← hgx] at hxx
  have HW2 := Lib.hid hw2; have HGx := Lib.hid hgx; clear hw2 hgx
  have HB2 := Lib.hid (HB1.out.step hb2)
  have A := Lib.hid (A.out.below hb2)
  clear hb2
  have BXx := Lib.hid hxx; clear hxx
  have hs := HPS.out w2
  have HS := Lib.hid hs; clear hs
  go_wp2_with fail
  rw [← HW2.out]
  try rw [← HGx.out]
  (with_reducible refine HS.out.mono ?_); rintro e w3 ⟨v3, rfl, hb3, hn3⟩
  clear HS
  have HB3 := Lib.hid (HB2.out.step hb3)
  have A := Lib.hid (A.out.below hb3)
  have BXx := Lib.hid (heap_below BXx.out hb3)
  have B := Lib.hid hn3; clear hn3
  clear hb3
  obtain ⟨sB, oB, nB, cB, aB, mB, dB, rfl⟩ := B.out.shape
  obtain ⟨w4, hw4⟩ : ∃ w4, w4 = w3.alloc (.cells #[.bool sB, .slice oB nB cB, .slice aB mB dB] 24) := ⟨_, rfl⟩
  have hb4 : Below w3.heap.size w3 w4 := by rw [hw4]; exact (Below.refl _ _).alloc (Nat.le_refl _) _
  have hxy := heap_alloc_new w3 (.cells #[.bool sB, .slice oB nB cB, .slice aB mB dB] 24)
  obtain ⟨gy, hgy⟩ : ∃ gy, gy = w3.heap.size := ⟨_, rfl⟩
  rw [← hw4, ← hgy] at hxy
  have HW4 := Lib.hid hw4; have HGy := Lib.hid hgy; clear hw4 hgy
  have HB4 := Lib.hid (HB3.out.step hb4)
  have A := Lib.hid (A.out.below hb4)
  have B := Lib.hid (B.out.below hb4)
  have BXx := Lib.hid (heap_below BXx.out hb4)
  clear hb4
  have BXy := Lib.hid hxy; clear hxy
  have hs := textq_any _ _ w4 (A.out.is (by omega))
  rw [awk_ta] at hs
  have HS := Lib.hid hs; clear hs
  obtain ⟨ex0, ex1, ex2⟩ := row3 BXx.out
  rw [HW4.out] at ex0
  rw [HW4.out] at ex1
  rw [HW4.out] at ex2
  go_wp2_with fail
  rw [← HW4.out]
  try rw [← HGy.out]
  clear ex0 ex1 ex2
  (with_reducible refine HS.out.mono ?_); rintro e w5 ⟨rfl, hb5⟩
  clear HS
  have HB5 := Lib.hid (HB4.out.step hb5)
  have A := Lib.hid (A.out.below hb5)
  have B := Lib.hid (B.out.below hb5)
  have BXx := Lib.hid (heap_below BXx.out hb5)
  have BXy := Lib.hid (heap_below BXy.out hb5)
  clear hb5
  have hs := floor_any _ _ w5 (A.out.is (by omega))
  rw [awk_f] at hs
  have HS := Lib.hid hs; clear hs
  obtain ⟨ex0, ex1, ex2⟩ := row3 BXx.out
  go_wp2_with fail
  clear ex0 ex1 ex2
  (with_reducible refine HS.out.mono ?_); rintro e w6 ⟨v6, rfl, hb6, hn6⟩
  clear HS
  have HB6 := Lib.hid (HB5.out.step hb6)
  have A := Lib.hid (A.out.below hb6)
  have B := Lib.hid (B.out.below hb6)
  have BXx := Lib.hid (heap_below BXx.out hb6)
  have BXy := Lib.hid (heap_below BXy.out hb6)
  have F := Lib.hid hn6; clear hn6
  clear hb6
  have hs := textq_any _ _ w6 (F.out.is (by omega))
  rw [awk_tf] at hs
  have HS := Lib.hid hs; clear hs
  go_wp2_with fail
  (with_reducible refine HS.out.mono ?_); rintro e w7 ⟨rfl, hb7⟩
  clear HS
  have HB7 := Lib.hid (HB6.out.step hb7)
  have A := Lib.hid (A.out.below hb7)
  have B := Lib.hid (B.out.below hb7)
  have F := Lib.hid (F.out.below hb7)
  have BXx := Lib.hid (heap_below BXx.out hb7)
  have BXy := Lib.hid (heap_below BXy.out hb7)
  clear hb7
  have hs := textq_any _ _ w7 (B.out.is (by omega))
  rw [awk_tb] at hs
  have HS := Lib.hid hs; clear hs
  obtain ⟨ey0, ey1, ey2⟩ := row3 BXy.out
  go_wp2_with fail
  clear ey0 ey1 ey2
  (with_reducible refine HS.out.mono ?_); rintro e w8 ⟨rfl, hb8⟩
  clear HS
  have HB8 := Lib.hid (HB7.out.step hb8)
  have A := Lib.hid (A.out.below hb8)
  have B := Lib.hid (B.out.below hb8)
  have F := Lib.hid (F.out.below hb8)
  have BXx := Lib.hid (heap_below BXx.out hb8)
  have BXy := Lib.hid (heap_below BXy.out hb8)
  clear hb8
  go_wp2_with fail
  go_ret
  exact ⟨rfl, HB8.out⟩
end Go.Proofs.YtkedjammeoaciaaGreatDoor
/-
  RationalSums: the walk of the statement.
  Conditions: each theorem's own.
-/
namespace Go.Proofs.YtkedjammeoaciaaGreatDoor
open Go.RowKit Go.ChangeShapes Go.WideShapes

/-- the lengths of a fraction's fields -/
def szR : Value → Nat × Nat
  | .agg #[_, .slice _ n _, .slice _ m _] => (n, m)
  | _ => (0, 0)
/-- a fraction's shape -/
def RatSz (v : Value) (n m : Nat) : Prop := ∃ s o c a d, v = .agg #[.bool s, .slice o n c, .slice a m d] ∧ n ≤ 9223372036854775807 ∧ m ≤ 9223372036854775807
theorem RatV.sz {w : World} {v : Value} {s : Bool} {a b : List Nat} (h : RatV w v s a b) : RatSz v a.length b.length ∧ szR v = (a.length, b.length) := by
  obtain ⟨va, vb, rfl, h1, h2⟩ := h
  obtain ⟨ao, c, rfl, k1, k2, _⟩ := h1.shape
  obtain ⟨bo, d, rfl, k3, k4, _⟩ := h2.shape
  exact ⟨⟨s, ao, c, bo, d, rfl, by omega, by omega⟩, rfl⟩
theorem rlarge1s {s0 : Bool} {o0 a0 : Option Addr} {n0 c0 m0 d0 : Nat} {g : Nat} {w : World} {T : TypeId} (h : w.heap[g]? = some (.cells #[.bool s0, .slice o0 n0 c0, .slice a0 m0 d0] T)) (k0 : n0 ≤ 12 ∧ m0 ≤ 12) :
    Calls Tryz.prog 10 #[.slice (some ⟨g, 0, none⟩) 1 1] w (RetV w (.bool false)) := by
  have hk := rlarge_any g 1 (fun j => n0) (fun j => m0) w (by decide) (Array.getElem?_eq_some_iff.1 h).1 (fun j => by show _ ≤ _; omega) (fun j => by show _ ≤ _; omega) (fun j hj => by
    rw [cell_of_row w g _ _ T (0, 0) h, cell_of_row w g _ _ T (0, 0) h, cell_of_row w g _ _ T (0, 0) h]
    match j, hj with
    | 0, _ => exact ⟨_, _, _, _, _, rfl, rfl, rfl⟩)
  have hr : bigR (fun j => n0) (fun j => m0) 1 = false := by
    simp [bigR]; omega
  rw [hr] at hk; exact hk
theorem rlarge1b {s0 : Bool} {o0 a0 : Option Addr} {n0 c0 m0 d0 : Nat} {g : Nat} {w : World} {T : TypeId} (h : w.heap[g]? = some (.cells #[.bool s0, .slice o0 n0 c0, .slice a0 m0 d0] T)) (k0 : n0 ≤ 9223372036854775807 ∧ m0 ≤ 9223372036854775807) (hb : 12 < n0 ∨ 12 < m0) :
    Calls Tryz.prog 10 #[.slice (some ⟨g, 0, none⟩) 1 1] w (RetV w (.bool true)) := by
  have hk := rlarge_any g 1 (fun j => n0) (fun j => m0) w (by decide) (Array.getElem?_eq_some_iff.1 h).1 (fun j => by show _ ≤ _; omega) (fun j => by show _ ≤ _; omega) (fun j hj => by
    rw [cell_of_row w g _ _ T (0, 0) h, cell_of_row w g _ _ T (0, 0) h, cell_of_row w g _ _ T (0, 0) h]
    match j, hj with
    | 0, _ => exact ⟨_, _, _, _, _, rfl, rfl, rfl⟩)
  have hr : bigR (fun j => n0) (fun j => m0) 1 = true := by
    simp [bigR]; omega
  rw [hr] at hk; exact hk
theorem rlarge2s {s0 : Bool} {o0 a0 : Option Addr} {n0 c0 m0 d0 : Nat} {s1 : Bool} {o1 a1 : Option Addr} {n1 c1 m1 d1 : Nat} {g : Nat} {w : World} {T : TypeId} (h : w.heap[g]? = some (.cells #[.bool s0, .slice o0 n0 c0, .slice a0 m0 d0, .bool s1, .slice o1 n1 c1, .slice a1 m1 d1] T)) (k0 : n0 ≤ 12 ∧ m0 ≤ 12) (k1 : n1 ≤ 12 ∧ m1 ≤ 12) :
    Calls Tryz.prog 10 #[.slice (some ⟨g, 0, none⟩) 2 2] w (RetV w (.bool false)) := by
  have hk := rlarge_any g 2 (fun j => if j = 0 then n0 else n1) (fun j => if j = 0 then m0 else m1) w (by decide) (Array.getElem?_eq_some_iff.1 h).1 (fun j => by show (if j = 0 then _ else _) ≤ _; (split <;> (try split) <;> omega)) (fun j => by show (if j = 0 then _ else _) ≤ _; (split <;> (try split) <;> omega)) (fun j hj => by
    rw [cell_of_row w g _ _ T (0, 0) h, cell_of_row w g _ _ T (0, 0) h, cell_of_row w g _ _ T (0, 0) h]
    match j, hj with
    | 0, _ => exact ⟨_, _, _, _, _, rfl, rfl, rfl⟩
    | 1, _ => exact ⟨_, _, _, _, _, rfl, rfl, rfl⟩)
  have hr : bigR (fun j => if j = 0 then n0 else n1) (fun j => if j = 0 then m0 else m1) 2 = false := by
    simp [bigR]; omega
  rw [hr] at hk; exact hk
theorem rlarge2b {s0 : Bool} {o0 a0 : Option Addr} {n0 c0 m0 d0 : Nat} {s1 : Bool} {o1 a1 : Option Addr} {n1 c1 m1 d1 : Nat} {g : Nat} {w : World} {T : TypeId} (h : w.heap[g]? = some (.cells #[.bool s0, .slice o0 n0 c0, .slice a0 m0 d0, .bool s1, .slice o1 n1 c1, .slice a1 m1 d1] T)) (k0 : n0 ≤ 9223372036854775807 ∧ m0 ≤ 9223372036854775807) (k1 : n1 ≤ 9223372036854775807 ∧ m1 ≤ 9223372036854775807) (hb : 12 < n0 ∨ 12 < m0 ∨ 12 < n1 ∨ 12 < m1) :
    Calls Tryz.prog 10 #[.slice (some ⟨g, 0, none⟩) 2 2] w (RetV w (.bool true)) := by
  have hk := rlarge_any g 2 (fun j => if j = 0 then n0 else n1) (fun j => if j = 0 then m0 else m1) w (by decide) (Array.getElem?_eq_some_iff.1 h).1 (fun j => by show (if j = 0 then _ else _) ≤ _; (split <;> (try split) <;> omega)) (fun j => by show (if j = 0 then _ else _) ≤ _; (split <;> (try split) <;> omega)) (fun j hj => by
    rw [cell_of_row w g _ _ T (0, 0) h, cell_of_row w g _ _ T (0, 0) h, cell_of_row w g _ _ T (0, 0) h]
    match j, hj with
    | 0, _ => exact ⟨_, _, _, _, _, rfl, rfl, rfl⟩
    | 1, _ => exact ⟨_, _, _, _, _, rfl, rfl, rfl⟩)
  have hr : bigR (fun j => if j = 0 then n0 else n1) (fun j => if j = 0 then m0 else m1) 2 = true := by
    simp [bigR]; omega
  rw [hr] at hk; exact hk
theorem rlarge3s {s0 : Bool} {o0 a0 : Option Addr} {n0 c0 m0 d0 : Nat} {s1 : Bool} {o1 a1 : Option Addr} {n1 c1 m1 d1 : Nat} {s2 : Bool} {o2 a2 : Option Addr} {n2 c2 m2 d2 : Nat} {g : Nat} {w : World} {T : TypeId} (h : w.heap[g]? = some (.cells #[.bool s0, .slice o0 n0 c0, .slice a0 m0 d0, .bool s1, .slice o1 n1 c1, .slice a1 m1 d1, .bool s2, .slice o2 n2 c2, .slice a2 m2 d2] T)) (k0 : n0 ≤ 12 ∧ m0 ≤ 12) (k1 : n1 ≤ 12 ∧ m1 ≤ 12) (k2 : n2 ≤ 12 ∧ m2 ≤ 12) :
    Calls Tryz.prog 10 #[.slice (some ⟨g, 0, none⟩) 3 3] w (RetV w (.bool false)) := by
  have hk := rlarge_any g 3 (fun j => if j = 0 then n0 else if j = 1 then n1 else n2) (fun j => if j = 0 then m0 else if j = 1 then m1 else m2) w (by decide) (Array.getElem?_eq_some_iff.1 h).1 (fun j => by show (if j = 0 then _ else _) ≤ _; (split <;> (try split) <;> omega)) (fun j => by show (if j = 0 then _ else _) ≤ _; (split <;> (try split) <;> omega)) (fun j hj => by
    rw [cell_of_row w g _ _ T (0, 0) h, cell_of_row w g _ _ T (0, 0) h, cell_of_row w g _ _ T (0, 0) h]
    match j, hj with
    | 0, _ => exact ⟨_, _, _, _, _, rfl, rfl, rfl⟩
    | 1, _ => exact ⟨_, _, _, _, _, rfl, rfl, rfl⟩
    | 2, _ => exact ⟨_, _, _, _, _, rfl, rfl, rfl⟩)
  have hr : bigR (fun j => if j = 0 then n0 else if j = 1 then n1 else n2) (fun j => if j = 0 then m0 else if j = 1 then m1 else m2) 3 = false := by
    simp [bigR]; omega
  rw [hr] at hk; exact hk
theorem rlarge3b {s0 : Bool} {o0 a0 : Option Addr} {n0 c0 m0 d0 : Nat} {s1 : Bool} {o1 a1 : Option Addr} {n1 c1 m1 d1 : Nat} {s2 : Bool} {o2 a2 : Option Addr} {n2 c2 m2 d2 : Nat} {g : Nat} {w : World} {T : TypeId} (h : w.heap[g]? = some (.cells #[.bool s0, .slice o0 n0 c0, .slice a0 m0 d0, .bool s1, .slice o1 n1 c1, .slice a1 m1 d1, .bool s2, .slice o2 n2 c2, .slice a2 m2 d2] T)) (k0 : n0 ≤ 9223372036854775807 ∧ m0 ≤ 9223372036854775807) (k1 : n1 ≤ 9223372036854775807 ∧ m1 ≤ 9223372036854775807) (k2 : n2 ≤ 9223372036854775807 ∧ m2 ≤ 9223372036854775807) (hb : 12 < n0 ∨ 12 < m0 ∨ 12 < n1 ∨ 12 < m1 ∨ 12 < n2 ∨ 12 < m2) :
    Calls Tryz.prog 10 #[.slice (some ⟨g, 0, none⟩) 3 3] w (RetV w (.bool true)) := by
  have hk := rlarge_any g 3 (fun j => if j = 0 then n0 else if j = 1 then n1 else n2) (fun j => if j = 0 then m0 else if j = 1 then m1 else m2) w (by decide) (Array.getElem?_eq_some_iff.1 h).1 (fun j => by show (if j = 0 then _ else _) ≤ _; (split <;> (try split) <;> omega)) (fun j => by show (if j = 0 then _ else _) ≤ _; (split <;> (try split) <;> omega)) (fun j hj => by
    rw [cell_of_row w g _ _ T (0, 0) h, cell_of_row w g _ _ T (0, 0) h, cell_of_row w g _ _ T (0, 0) h]
    match j, hj with
    | 0, _ => exact ⟨_, _, _, _, _, rfl, rfl, rfl⟩
    | 1, _ => exact ⟨_, _, _, _, _, rfl, rfl, rfl⟩
    | 2, _ => exact ⟨_, _, _, _, _, rfl, rfl, rfl⟩)
  have hr : bigR (fun j => if j = 0 then n0 else if j = 1 then n1 else n2) (fun j => if j = 0 then m0 else if j = 1 then m1 else m2) 3 = true := by
    simp [bigR]; omega
  rw [hr] at hk; exact hk
end Go.Proofs.YtkedjammeoaciaaGreatDoor
/-
  RationalMakes: the walk of the statement.
  Conditions: each theorem's own.
-/
namespace Go.Proofs.YtkedjammeoaciaaGreatDoor
open Go.RowKit Go.ChangeShapes Go.WideShapes

theorem RatV.fields {w : World} {s s' : Bool} {x y : Value} {a b : List Nat} (h : RatV w (.agg #[.bool s, x, y]) s' a b) : s = s' ∧ Num w x a ∧ Num w y b := by
  obtain ⟨va, vb, he, h1, h2⟩ := h
  cases he; exact ⟨rfl, h1, h2⟩
theorem rl_qm' {s : Bool} {n d L : Nat} (h1 : (wd n).length ≤ L) (h2 : (wd d).length ≤ L) (hL : 1 ≤ L) : rl (qm s n d) ≤ L := by
  by_cases hd : d = 0
  · subst hd; rw [qm_den0, rl_zero]; exact hL
  · exact rl_qm hd h1 h2
theorem rl_quo {n d : Int} (h0 : -9223372036854775808 ≤ n) (h1 : n < 9223372036854775808) (g0 : -9223372036854775808 ≤ d) (g1 : d < 9223372036854775808) : rl ((n : Rat) / (d : Rat)) ≤ 4 := by
  by_cases hd : d = 0
  · subst hd; rw [show ((0 : Int) : Rat) = 0 from rfl, div_zero_rat, rl_zero]; decide
  · have k1 := rl_small h0 h1
    have k2 := rl_small g0 g1
    have := rl_div (n : Rat) (d : Rat) (fun e => hd (Rat.intCast_eq_zero_iff.1 e)); omega
theorem zc_small (d : Nat) : zc d < 1000 := by unfold zc; split <;> omega

end Go.Proofs.YtkedjammeoaciaaGreatDoor
