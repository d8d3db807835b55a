/-
  natural.Parse: its loop.
  Conditions: each theorem's own.
-/
import Derived.Test.YtdepoikifneggaaDoorNat24
namespace Go.Proofs.YtdepoikifneggaaDoor
open Go.RowKit Go.ChangeShapes Go.WideShapes

theorem chunk_len {l : List UInt8} {i n : Nat} (h : i + n ≤ l.length) : ((l.drop i).take n).length = n := by
  rw [List.length_take, List.length_drop]; omega
theorem chunk_get {l : List UInt8} {i n k : Nat} (h : i + n ≤ l.length) (hk : k < n) : ((l.drop i).take n)[k]'(by rw [chunk_len h]; exact hk) = l[i + k]'(by omega) := by
  rw [List.getElem_take, List.getElem_drop]
theorem decN_chunk {l : List UInt8} {i n : Nat} (h : i + n ≤ l.length) : decN (l.take (i + n)) = decN (l.take i) * 10 ^ n + decN ((l.drop i).take n) := by
  rw [List.take_add, decN_app, chunk_len h]
theorem all_chunk {l : List UInt8} {i n : Nat} : (l.take (i + n)).all isDig = ((l.take i).all isDig && ((l.drop i).take n).all isDig) := by
  rw [List.take_add, List.all_append]
/-- a round of the words' loop -/
theorem mulAdd_step {V W B v x s v' d : Nat} (h : V + B * v = W) (hs : d + 4294967296 * v' = v + x * s) : (V + B * d) + B * 4294967296 * v' = W + B * x * s := by
  have e1 : B * 4294967296 * v' = B * (4294967296 * v') := by ac_rfl
  have e2 : B * x * s = B * (x * s) := by ac_rfl
  rw [e1, e2, ← h, Nat.add_assoc V, ← Nat.mul_add, hs, Nat.mul_add]; omega
/-- the group's size -/
def grp (i L : Nat) : Nat := if i = 0 ∧ L % 9 ≠ 0 then L % 9 else 9
theorem grp_le {i L : Nat} (h : i < L) (h2 : i = 0 ∨ (L - i) % 9 = 0) : 1 ≤ grp i L ∧ grp i L ≤ 9 ∧ i + grp i L ≤ L ∧ (L - (i + grp i L)) % 9 = 0 := by
  unfold grp; split <;> omega

set_option maxRecDepth 100000 in
set_option maxHeartbeats 3200000 in
theorem parse_loop (l : List UInt8) (w : World) (hl : l.length ≤ 65536) (h0 : 0 < l.length) (hz : l[0].toNat = 48 → l.length = 1) :
    Calls Tryd.prog 44 #[.string ⟨l.toArray⟩] w (RetNE w (if l.all isDig then decN l else 0) (errV (if l.all isDig then 0 else 2))) := by
  obtain ⟨S, hS⟩ : ∃ S : ByteArray, S = ⟨l.toArray⟩ := ⟨_, rfl⟩
  have hsz : S.size = l.length := by rw [hS]; simp [ByteArray.size]
  have hix := run_index_l l
  have hsl : ∀ (a b : Nat) (wx : World), a ≤ b → b ≤ l.length → (Instr.slice 9 (.string S) (some (.int .i64 (a : Int))) (some (.int .i64 (b : Int))) none).run Tryd.prog wx = .ok (.string ⟨((l.drop a).take (b - a)).toArray⟩) wx := by
    intro a b wx h1 h2
    rw [run_slice_string_if (P := Tryd.prog) wx 9 S .i64 .i64 a b Tryd.underlying9, if_pos (by omega), if_pos (by omega)]
    have e : S.extract (a : Int).toNat (b : Int).toNat = ⟨((l.drop a).take (b - a)).toArray⟩ := by
      rw [hS]; apply ByteArray.ext
      simp [ByteArray.data_extract, List.extract_eq_take_drop]
    rw [e]
  rw [← hS] at hix ⊢
  obtain ⟨V, hV⟩ : ∃ V, V = if l.all isDig then decN l else 0 := ⟨_, rfl⟩
  obtain ⟨C, hC⟩ : ∃ C : Nat, C = if l.all isDig then 0 else 2 := ⟨_, rfl⟩
  rw [← hV, ← hC]
  obtain ⟨x, hx⟩ : ∃ x, x = l[0].toNat := ⟨_, rfl⟩
  have hix0 : ∀ wx, (Instr.index 9 (.string S) (.int .i64 0)).run Tryd.prog wx = .ok (.int .u8 (x : Nat)) wx := fun wx => by rw [hx]; exact hix 0 h0 wx
  have hS2 : S.toList.isEmpty = false := by
    rw [ByteArray.toList_eq]
    have h9 : S.data.toList.length = S.size := rfl
    cases h8 : S.data.toList with
    | nil => rw [h8] at h9; simp only [List.length_nil] at h9; omega
    | cons _ _ => rfl
  rw [← hx] at hz
  have f1 : decide ((65536 : Int) < (l.length : Int)) = false := decide_eq_false (by omega)
  have HIX := Lib.hid hix; have HSZ := Lib.hid hsz; have HVV := Lib.hid hV; have HCC := Lib.hid hC; have HSL := Lib.hid hsl
  have hx48 : decide ((1 : Int) < (l.length : Int)) = false ∨ decide ((1 : Int) < (l.length : Int)) = true ∧ ((x : Int) == 48) = false := by
    by_cases h : l.length = 1
    · left; exact decide_eq_false (by omega)
    · right; exact ⟨decide_eq_true (by omega), by rw [beq_eq_false_iff_ne]; omega⟩
  clear hix hV hC hx hS hz hsl
  rcases hx48 with hx | ⟨hx, hx2⟩
  · go_enter Tryd.func44, Tryd.ntmps44
    go_wp2_with fail
    clear hix0 f1 hx hS2
    go_loopw [4, 5] (fun ov iv wr => ∃ (i : Nat) (lo : List Nat), i ≤ l.length ∧ iv = .int .i64 i ∧ OwnW 38 wr w.heap.size ov lo ∧ Hid (lo.length ≤ i) ∧ Hid (val lo = decN (l.take i)) ∧ Hid ((l.take i).all isDig = true) ∧ Hid (i = 0 ∨ (l.length - i) % 9 = 0) ∧ Below w.heap.size w wr) (fun _ iv _ => l.length - (intOf iv).toNat)
    case atStart => exact ⟨0, [], Nat.zero_le _, rfl, OwnW.nil _ _ _, Lib.hid (Nat.le_refl _), Lib.hid rfl, Lib.hid rfl, Lib.hid (.inl rfl), Below.refl _ _⟩
    case round =>
      obtain ⟨i, lo, hi, rfl, hO, hll, hval, had, h9, hBr⟩ := hrel
      obtain ⟨ao, ca, rfl, hca, hca2, _⟩ := hO.num.shape
      have HO := Lib.hid hO; have HBR := Lib.hid hBr; clear hO hBr
      obtain ⟨wo, rfl⟩ : ∃ wo : World, wo = wr := ⟨_, rfl⟩
      by_cases hin : i < l.length
      · have hf1 : decide ((i : Int) < (l.length : Int)) = true := decide_eq_true (by omega)
        obtain ⟨g1, g2, g3, g4⟩ := grp_le hin h9.out
        obtain ⟨n, hn⟩ : ∃ n, n = grp i l.length := ⟨_, rfl⟩
        rw [← hn] at g1 g2 g3 g4
        have HNG := Lib.hid hn; clear hn
        have G4 := Lib.hid g4; clear g4
        go_upto_region 9 with fail
        clear hf1
        go_cut [40] (fun cv wx => cv = .bool (decide (i = 0 ∧ l.length % 9 ≠ 0)) ∧ wo = wx)
        case first =>
          by_cases hi0 : i = 0
          · subst hi0
            by_cases hr : l.length % 9 = 0
            · have f2 : ((l.length : Int) % 9 != 0) = false := by rw [bne_eq_false_iff_eq]; omega
              have f3 : decide ((0 : Nat) = 0 ∧ l.length % 9 ≠ 0) = false := decide_eq_false (by omega)
              have HR := Lib.hid hr; have F3 := Lib.hid f3; clear hr f3
              go_wp2_with fail
              go_meet
              exact ⟨congrArg Value.bool F3.out.symm, rfl⟩
            · have f2 : ((l.length : Int) % 9 != 0) = true := by rw [bne_iff_ne]; omega
              have f3 : decide ((0 : Nat) = 0 ∧ l.length % 9 ≠ 0) = true := decide_eq_true (by omega)
              have HR := Lib.hid hr; have F3 := Lib.hid f3; clear hr f3
              go_wp2_with fail
              go_meet
              exact ⟨congrArg Value.bool F3.out.symm, rfl⟩
          · have f2 : ((i : Int) == 0) = false := by rw [beq_eq_false_iff_ne]; omega
            have f3 : decide (i = 0 ∧ l.length % 9 ≠ 0) = false := decide_eq_false (by omega)
            have F3 := Lib.hid f3; clear f3
            go_wp2_with fail
            go_meet
            exact ⟨congrArg Value.bool F3.out.symm, rfl⟩
        case rest =>
          obtain ⟨rfl, rfl⟩ := hcut
          obtain ⟨bb, hbb⟩ : ∃ bb, bb = decide (i = 0 ∧ l.length % 9 ≠ 0) := ⟨_, rfl⟩
          rw [← hbb]
          have HBB := Lib.hid hbb; clear hbb
          go_upto_if 40 with fail
          go_cut [6] (fun nv wx => nv = .int .i64 n ∧ wo = wx)
          case first =>
            cases bb with
            | true =>
              have hc := of_decide_eq_true HBB.out.symm
              have hnn : n = l.length % 9 := by rw [HNG.out]; unfold grp; rw [if_pos hc]
              have HNN := Lib.hid hnn
              clear hc hnn
              go_wp2_with fail
              go_meet
              exact ⟨by rw [HNN.out]; go_num, rfl⟩
            | false =>
              have hc := of_decide_eq_false HBB.out.symm
              have hnn : n = 9 := by rw [HNG.out]; unfold grp; rw [if_neg hc]
              have HNN := Lib.hid hnn
              clear hc hnn
              go_wp2_with fail
              go_meet
              exact ⟨by rw [HNN.out]; rfl, rfl⟩
          case rest =>
            obtain ⟨rfl, rfl⟩ := hcut
            clear HBB
            have hcs := HSL.out i (i + n) wo (by omega) g3
            rw [Nat.add_sub_cancel_left, show ((i + n : Nat) : Int) = (i : Int) + (n : Int) from by omega] at hcs
            obtain ⟨cc, w2, hcv, hB2, hcell⟩ := conv_bytes ((l.drop i).take n) wo
            rw [chunk_len g3] at hcv
            have hcl : ∀ k (h : k < n), w2.cell? ⟨wo.heap.size, k, none⟩ = some (.int .u8 ((l[i + k]'(by omega)).toNat : Nat)) := by
              intro k h
              have := hcell k (by rw [chunk_len g3]; exact h)
              rw [chunk_get g3 h] at this; exact this
            have HCL := Lib.hid hcl; have HB2 := Lib.hid hB2; have HO2 := Lib.hid (HO.out.below hB2)
            clear hcl hB2 hcell
            go_wp2_with fail
            clear hcs hcv
            go_loopw [7, 8, 52] (fun vv sv kv wx => ∃ k v s : Nat, k ≤ n ∧ kv = .int .i64 k ∧ vv = .int .u64 v ∧ sv = .int .u64 s ∧ v < 1000000000 ∧ s ≤ 1000000000 ∧ Hid (v = decN (((l.drop i).take n).take k)) ∧ Hid (s = 10 ^ k) ∧ Hid ((((l.drop i).take n).take k).all isDig = true) ∧ w2 = wx) (fun _ _ kv _ => n - (intOf kv).toNat)
            case atStart => exact ⟨0, 0, 1, Nat.zero_le _, rfl, rfl, rfl, by decide, by decide, Lib.hid rfl, Lib.hid rfl, Lib.hid rfl, rfl⟩
            case round =>
              obtain ⟨k, v, s, hk, rfl, rfl, rfl, hv9, hs9, hve, hse, hdg, rfl⟩ := hrel
              by_cases hkn : k < n
              · have hcell := HCL.out k hkn
                have hik : i + k < l.length := by omega
                obtain ⟨c, hc⟩ : ∃ c, c = (l[i + k]'hik).toNat := ⟨_, rfl⟩
                rw [← hc] at hcell
                have hdgc : isDig (l[i + k]'hik) = (decide (48 ≤ c) && decide (c ≤ 57)) := by rw [hc]; rfl
                have hcb : c < 256 := by rw [hc]; exact (l[i + k]'hik).toNat_lt
                have hkc : k < ((l.drop i).take n).length := by rw [chunk_len g3]; exact hkn
                have hget : ((l.drop i).take n)[k]'hkc = l[i + k]'hik := chunk_get g3 hkn
                have hf1 : decide ((k : Int) < (n : Int)) = true := decide_eq_true (by omega)
                have HDG := Lib.hid hdgc; have HC := Lib.hid hc; have HGET := Lib.hid hget
                clear hdgc hc hget
                by_cases hc1 : c < 48
                · have hf2 : decide ((c : Int) < 48) = true := decide_eq_true (by omega)
                  have hbad : l.all isDig = false := not_all hik (by rw [HDG.out]; simp; omega)
                  have HBAD := Lib.hid hbad; clear hbad
                  go_wp2_with fail
                  go_ret2
                  rw [HCC.out, HVV.out, HBAD.out]
                  exact ⟨_, by rw [if_neg (by decide)]; rfl, HBR.out.step HB2.out, by rw [if_neg (by decide), wd_zero]; exact Num.nil _⟩
                · have hf2 : decide ((c : Int) < 48) = false := decide_eq_false (by omega)
                  by_cases hc2 : 57 < c
                  · have hf3 : decide ((57 : Int) < (c : Int)) = true := decide_eq_true (by omega)
                    have hbad : l.all isDig = false := not_all hik (by rw [HDG.out]; simp; omega)
                    have HBAD := Lib.hid hbad; clear hbad
                    go_wp2_with fail
                    go_ret2
                    rw [HCC.out, HVV.out, HBAD.out]
                    exact ⟨_, by rw [if_neg (by decide)]; rfl, HBR.out.step HB2.out, by rw [if_neg (by decide), wd_zero]; exact Num.nil _⟩
                  · have hf3 : decide ((57 : Int) < (c : Int)) = false := decide_eq_false (by omega)
                    have hdg1 : (((l.drop i).take n).take (k + 1)).all isDig = true := by
                      rw [all_take_succ hkc, hdg.out, HGET.out, HDG.out]; simp; omega
                    have hv1 : 10 * v + (c - 48) = decN (((l.drop i).take n).take (k + 1)) := by
                      rw [decN_take_succ hkc, ← hve.out, HGET.out, ← HC.out]
                    have hb1 := decN_len hdg1
                    have hp1 : 10 ^ (k + 1) ≤ 10 ^ 9 := Nat.pow_le_pow_right (by decide) (by omega)
                    have hp2 : ((((l.drop i).take n).take (k + 1))).length ≤ 9 := by rw [List.length_take]; omega
                    have hp3 : 10 ^ (((l.drop i).take n).take (k + 1)).length ≤ 10 ^ 9 := Nat.pow_le_pow_right (by decide) hp2
                    rw [show (10 ^ 9 : Nat) = 1000000000 from rfl] at hp1 hp3
                    have hv2 : 10 * v + (c - 48) < 1000000000 := by omega
                    have hs2 : s * 10 = 10 ^ (k + 1) := by rw [hse.out, Nat.pow_succ]
                    have hs3 : s * 10 ≤ 1000000000 := by omega
                    have HV1 := Lib.hid hv1; have HS2 := Lib.hid hs2; have HDG1 := Lib.hid hdg1
                    clear hv1 hb1 hp1 hp2 hp3 hs2 hdg1
                    go_wp2_with fail
                    go_roundw
                    case rel => exact ⟨k + 1, 10 * v + (c - 48), s * 10, by omega, by go_num, by go_num, by go_num, hv2, hs3, HV1, HS2, HDG1, trivial⟩
                    case measure => simp [intOf]; omega
              · obtain rfl : k = n := by omega
                have hdg0 := hdg.out
                have hve0 := hve.out
                rw [List.take_of_length_le (by rw [chunk_len g3]; exact Nat.le_refl _)] at hdg0 hve0
                have hdgT : (l.take (i + k)).all isDig = true := by rw [all_chunk, had.out, hdg0]; rfl
                have hvT : val lo * s + v = decN (l.take (i + k)) := by rw [decN_chunk g3, ← hve0, ← hse.out, hval.out]
                have HDGT := Lib.hid hdgT; have HVT := Lib.hid hvT
                clear hdg0 hve0 hdgT hvT
                go_wp2_with fail
                go_loopw [7, 74] (fun vv kv wr => ∃ (j y : Nat) (m : List Nat), j ≤ lo.length ∧ kv = .int .i64 j ∧ vv = .int .u64 y ∧ y < 4294967296 ∧ OwnW 38 wr w.heap.size (.slice ao lo.length ca) m ∧ Hid (m.length = lo.length) ∧ Hid (val (m.take j) + 4294967296 ^ j * y = val (lo.take j) * s + v) ∧ Hid (∀ x, j ≤ x → gd m x = gd lo x) ∧ Below w.heap.size w wr) (fun _ kv _ => lo.length - (intOf kv).toNat)
                case atStart => exact ⟨0, v, lo, Nat.zero_le _, rfl, rfl, by omega, HO2.out, Lib.hid rfl, Lib.hid (by simp [val]), Lib.hid (fun _ _ => rfl), HBR.out.step HB2.out⟩
                case round =>
                  obtain ⟨j, y, m, hj, rfl, rfl, hy, hOm, hml, hinv, hsame, hBm⟩ := hrel
                  by_cases hjn : j < lo.length
                  · obtain ⟨g, c', e', hg⟩ := hOm.head (by rw [hml.out]; omega)
                    obtain ⟨rfl, _, _⟩ := Value.slice.inj e'
                    have hcell := hOm.cell hml.out j hjn
                    have hfr := hOm.frozen hml.out j
                    have hxl := hOm.lt j
                    have hxe := hsame.out j (Nat.le_refl _)
                    obtain ⟨x', hx'⟩ : ∃ x', x' = gd m j := ⟨_, rfl⟩
                    rw [← hx'] at hcell hxl hxe
                    obtain ⟨p, hpe⟩ : ∃ p, p = x' * s := ⟨_, rfl⟩
                    have hpi : (x' : Int) * (s : Int) = (p : Int) := by rw [hpe]; rfl
                    have hpl := word_mul hxl (show s < 4294967296 by omega)
                    rw [← hpe] at hpl
                    obtain ⟨s1, s2, s3⟩ := take_bounds hy hpl
                    have HOM := Lib.hid hOm; have HXE := Lib.hid hxe; have HPE := Lib.hid hpe; have S1 := Lib.hid s1; have S2 := Lib.hid s2
                    clear e' hx' hpe s1 s2 hOm hxe
                    have hf1 : decide ((j : Int) < (lo.length : Int)) = true := decide_eq_true (by omega)
                    go_wp2_with fail
                    go_roundw
                    case rel =>
                      have hst := HOM.out.stored hml.out j ((y + p) % 4294967296) S2.out
                      refine ⟨j + 1, (y + p) / 4294967296, m.set j ((y + p) % 4294967296), hjn, by go_num, rfl, S1.out, hst, Lib.hid (by rw [List.length_set]; exact hml.out), Lib.hid ?_, Lib.hid ?_, hBm.setCell hg _⟩
                      · have h3 := mulAdd_step (x := x') (s := s) (v' := (y + p) / 4294967296) (d := (y + p) % 4294967296) hinv.out (by rw [← HPE.out]; omega)
                        rw [val_take_set _ _ _ (by rw [hml.out]; exact hjn), val_take_succ, ← HXE.out, Nat.pow_succ, h3, Nat.add_mul]; omega
                      · intro q hq
                        rw [gd_set, if_neg (by omega)]; exact hsame.out q (by omega)
                    case measure => simp [intOf]; omega
                  · obtain rfl : j = lo.length := by omega
                    have hend : val m + 4294967296 ^ lo.length * y = decN (l.take (i + k)) := by
                      have := hinv.out
                      rw [val_take_full lo (Nat.le_refl _), HVT.out, ← hml.out, val_take_full m (Nat.le_refl _)] at this
                      rw [← hml.out]; exact this
                    have HEND := Lib.hid hend; have HOM := Lib.hid hOm
                    clear hend hOm
                    have hf1 : decide ((lo.length : Int) < (lo.length : Int)) = false := decide_eq_false (by omega)
                    by_cases hy0 : y = 0
                    · subst hy0
                      have hvm : val m = decN (l.take (i + k)) := by have := HEND.out; rw [Nat.mul_zero, Nat.add_zero] at this; exact this
                      have HVM := Lib.hid hvm; clear hvm
                      go_wp2_with fail
                      go_roundw
                      case rel => exact ⟨i + k, m, g3, by go_num, HOM.out, Lib.hid (by have := hll.out; rw [hml.out]; omega), HVM, HDGT, Lib.hid (.inr G4.out), hBm⟩
                      case measure => simp [intOf]; omega
                    · have hf2 : decide ((0 : Int) < (y : Int)) = true := decide_eq_true (by omega)
                      have hci : (y : Int) % 4294967296 = (y : Int) := by omega
                      have hone := num_one wr 38 y hy
                      have HONE := Lib.hid hone; clear hone
                      go_wp2_with (at_builtin; refine wpList_appendN Tryd.wordsTy rfl (.tmp 96) (.tmp 99) rfl w.heap.size _ _ m [y] rfl rfl (HOM.out.alloc _) HONE.out ?c1 ?c2 ?_)
                      case c1 => have := hll.out; rw [hml.out]; simp; omega
                      case c2 => have := hBm.size; simp; omega
                      intro v' w4 h1 h2 h3
                      have hvs : val (m ++ [y]) = decN (l.take (i + k)) := by rw [val_snoc, hml.out]; exact HEND.out
                      have h4 := h2 w (hBm.alloc hBm.size _)
                      have HVS := Lib.hid hvs
                      clear h2 hvs
                      go_wp2_with fail
                      go_roundw
                      case rel => exact ⟨i + k, m ++ [y], g3, by go_num, h1, Lib.hid (by have := hll.out; rw [List.length_append, hml.out]; simp; omega), HVS, HDGT, Lib.hid (.inr G4.out), h4⟩
                      case measure => simp [intOf]; omega
      · obtain rfl : i = l.length := by omega
        have hf1 : decide ((l.length : Int) < (l.length : Int)) = false := decide_eq_false (by omega)
        have htr := trim_any _ _ _ HO.out.num (by have := hll.out; omega)
        have hall : l.all isDig = true := by have := had.out; rwa [List.take_length] at this
        rw [hval.out, List.take_length] at htr
        have HT := Lib.hid htr; have HALL := Lib.hid hall
        clear htr hall
        go_wp2_with fail
        (with_reducible refine HT.out.mono ?_); rintro e w3 ⟨v3, l3, rfl, hb3, hn3, rfl⟩
        go_wp2_with fail
        go_ret2
        rw [HCC.out, HVV.out, HALL.out]
        exact ⟨_, rfl, HBR.out.step hb3, hn3⟩
  · go_enter Tryd.func44, Tryd.ntmps44
    go_wp2_with fail
    clear hix0 f1 hx hx2 hS2
    go_loopw [4, 5] (fun ov iv wr => ∃ (i : Nat) (lo : List Nat), i ≤ l.length ∧ iv = .int .i64 i ∧ OwnW 38 wr w.heap.size ov lo ∧ Hid (lo.length ≤ i) ∧ Hid (val lo = decN (l.take i)) ∧ Hid ((l.take i).all isDig = true) ∧ Hid (i = 0 ∨ (l.length - i) % 9 = 0) ∧ Below w.heap.size w wr) (fun _ iv _ => l.length - (intOf iv).toNat)
    case atStart => exact ⟨0, [], Nat.zero_le _, rfl, OwnW.nil _ _ _, Lib.hid (Nat.le_refl _), Lib.hid rfl, Lib.hid rfl, Lib.hid (.inl rfl), Below.refl _ _⟩
    case round =>
      obtain ⟨i, lo, hi, rfl, hO, hll, hval, had, h9, hBr⟩ := hrel
      obtain ⟨ao, ca, rfl, hca, hca2, _⟩ := hO.num.shape
      have HO := Lib.hid hO; have HBR := Lib.hid hBr; clear hO hBr
      obtain ⟨wo, rfl⟩ : ∃ wo : World, wo = wr := ⟨_, rfl⟩
      by_cases hin : i < l.length
      · have hf1 : decide ((i : Int) < (l.length : Int)) = true := decide_eq_true (by omega)
        obtain ⟨g1, g2, g3, g4⟩ := grp_le hin h9.out
        obtain ⟨n, hn⟩ : ∃ n, n = grp i l.length := ⟨_, rfl⟩
        rw [← hn] at g1 g2 g3 g4
        have HNG := Lib.hid hn; clear hn
        have G4 := Lib.hid g4; clear g4
        go_upto_region 9 with fail
        clear hf1
        go_cut [40] (fun cv wx => cv = .bool (decide (i = 0 ∧ l.length % 9 ≠ 0)) ∧ wo = wx)
        case first =>
          by_cases hi0 : i = 0
          · subst hi0
            by_cases hr : l.length % 9 = 0
            · have f2 : ((l.length : Int) % 9 != 0) = false := by rw [bne_eq_false_iff_eq]; omega
              have f3 : decide ((0 : Nat) = 0 ∧ l.length % 9 ≠ 0) = false := decide_eq_false (by omega)
              have HR := Lib.hid hr; have F3 := Lib.hid f3; clear hr f3
              go_wp2_with fail
              go_meet
              exact ⟨congrArg Value.bool F3.out.symm, rfl⟩
            · have f2 : ((l.length : Int) % 9 != 0) = true := by rw [bne_iff_ne]; omega
              have f3 : decide ((0 : Nat) = 0 ∧ l.length % 9 ≠ 0) = true := decide_eq_true (by omega)
              have HR := Lib.hid hr; have F3 := Lib.hid f3; clear hr f3
              go_wp2_with fail
              go_meet
              exact ⟨congrArg Value.bool F3.out.symm, rfl⟩
          · have f2 : ((i : Int) == 0) = false := by rw [beq_eq_false_iff_ne]; omega
            have f3 : decide (i = 0 ∧ l.length % 9 ≠ 0) = false := decide_eq_false (by omega)
            have F3 := Lib.hid f3; clear f3
            go_wp2_with fail
            go_meet
            exact ⟨congrArg Value.bool F3.out.symm, rfl⟩
        case rest =>
          obtain ⟨rfl, rfl⟩ := hcut
          obtain ⟨bb, hbb⟩ : ∃ bb, bb = decide (i = 0 ∧ l.length % 9 ≠ 0) := ⟨_, rfl⟩
          rw [← hbb]
          have HBB := Lib.hid hbb; clear hbb
          go_upto_if 40 with fail
          go_cut [6] (fun nv wx => nv = .int .i64 n ∧ wo = wx)
          case first =>
            cases bb with
            | true =>
              have hc := of_decide_eq_true HBB.out.symm
              have hnn : n = l.length % 9 := by rw [HNG.out]; unfold grp; rw [if_pos hc]
              have HNN := Lib.hid hnn
              clear hc hnn
              go_wp2_with fail
              go_meet
              exact ⟨by rw [HNN.out]; go_num, rfl⟩
            | false =>
              have hc := of_decide_eq_false HBB.out.symm
              have hnn : n = 9 := by rw [HNG.out]; unfold grp; rw [if_neg hc]
              have HNN := Lib.hid hnn
              clear hc hnn
              go_wp2_with fail
              go_meet
              exact ⟨by rw [HNN.out]; rfl, rfl⟩
          case rest =>
            obtain ⟨rfl, rfl⟩ := hcut
            clear HBB
            have hcs := HSL.out i (i + n) wo (by omega) g3
            rw [Nat.add_sub_cancel_left, show ((i + n : Nat) : Int) = (i : Int) + (n : Int) from by omega] at hcs
            obtain ⟨cc, w2, hcv, hB2, hcell⟩ := conv_bytes ((l.drop i).take n) wo
            rw [chunk_len g3] at hcv
            have hcl : ∀ k (h : k < n), w2.cell? ⟨wo.heap.size, k, none⟩ = some (.int .u8 ((l[i + k]'(by omega)).toNat : Nat)) := by
              intro k h
              have := hcell k (by rw [chunk_len g3]; exact h)
              rw [chunk_get g3 h] at this; exact this
            have HCL := Lib.hid hcl; have HB2 := Lib.hid hB2; have HO2 := Lib.hid (HO.out.below hB2)
            clear hcl hB2 hcell
            go_wp2_with fail
            clear hcs hcv
            go_loopw [7, 8, 52] (fun vv sv kv wx => ∃ k v s : Nat, k ≤ n ∧ kv = .int .i64 k ∧ vv = .int .u64 v ∧ sv = .int .u64 s ∧ v < 1000000000 ∧ s ≤ 1000000000 ∧ Hid (v = decN (((l.drop i).take n).take k)) ∧ Hid (s = 10 ^ k) ∧ Hid ((((l.drop i).take n).take k).all isDig = true) ∧ w2 = wx) (fun _ _ kv _ => n - (intOf kv).toNat)
            case atStart => exact ⟨0, 0, 1, Nat.zero_le _, rfl, rfl, rfl, by decide, by decide, Lib.hid rfl, Lib.hid rfl, Lib.hid rfl, rfl⟩
            case round =>
              obtain ⟨k, v, s, hk, rfl, rfl, rfl, hv9, hs9, hve, hse, hdg, rfl⟩ := hrel
              by_cases hkn : k < n
              · have hcell := HCL.out k hkn
                have hik : i + k < l.length := by omega
                obtain ⟨c, hc⟩ : ∃ c, c = (l[i + k]'hik).toNat := ⟨_, rfl⟩
                rw [← hc] at hcell
                have hdgc : isDig (l[i + k]'hik) = (decide (48 ≤ c) && decide (c ≤ 57)) := by rw [hc]; rfl
                have hcb : c < 256 := by rw [hc]; exact (l[i + k]'hik).toNat_lt
                have hkc : k < ((l.drop i).take n).length := by rw [chunk_len g3]; exact hkn
                have hget : ((l.drop i).take n)[k]'hkc = l[i + k]'hik := chunk_get g3 hkn
                have hf1 : decide ((k : Int) < (n : Int)) = true := decide_eq_true (by omega)
                have HDG := Lib.hid hdgc; have HC := Lib.hid hc; have HGET := Lib.hid hget
                clear hdgc hc hget
                by_cases hc1 : c < 48
                · have hf2 : decide ((c : Int) < 48) = true := decide_eq_true (by omega)
                  have hbad : l.all isDig = false := not_all hik (by rw [HDG.out]; simp; omega)
                  have HBAD := Lib.hid hbad; clear hbad
                  go_wp2_with fail
                  go_ret2
                  rw [HCC.out, HVV.out, HBAD.out]
                  exact ⟨_, by rw [if_neg (by decide)]; rfl, HBR.out.step HB2.out, by rw [if_neg (by decide), wd_zero]; exact Num.nil _⟩
                · have hf2 : decide ((c : Int) < 48) = false := decide_eq_false (by omega)
                  by_cases hc2 : 57 < c
                  · have hf3 : decide ((57 : Int) < (c : Int)) = true := decide_eq_true (by omega)
                    have hbad : l.all isDig = false := not_all hik (by rw [HDG.out]; simp; omega)
                    have HBAD := Lib.hid hbad; clear hbad
                    go_wp2_with fail
                    go_ret2
                    rw [HCC.out, HVV.out, HBAD.out]
                    exact ⟨_, by rw [if_neg (by decide)]; rfl, HBR.out.step HB2.out, by rw [if_neg (by decide), wd_zero]; exact Num.nil _⟩
                  · have hf3 : decide ((57 : Int) < (c : Int)) = false := decide_eq_false (by omega)
                    have hdg1 : (((l.drop i).take n).take (k + 1)).all isDig = true := by
                      rw [all_take_succ hkc, hdg.out, HGET.out, HDG.out]; simp; omega
                    have hv1 : 10 * v + (c - 48) = decN (((l.drop i).take n).take (k + 1)) := by
                      rw [decN_take_succ hkc, ← hve.out, HGET.out, ← HC.out]
                    have hb1 := decN_len hdg1
                    have hp1 : 10 ^ (k + 1) ≤ 10 ^ 9 := Nat.pow_le_pow_right (by decide) (by omega)
                    have hp2 : ((((l.drop i).take n).take (k + 1))).length ≤ 9 := by rw [List.length_take]; omega
                    have hp3 : 10 ^ (((l.drop i).take n).take (k + 1)).length ≤ 10 ^ 9 := Nat.pow_le_pow_right (by decide) hp2
                    rw [show (10 ^ 9 : Nat) = 1000000000 from rfl] at hp1 hp3
                    have hv2 : 10 * v + (c - 48) < 1000000000 := by omega
                    have hs2 : s * 10 = 10 ^ (k + 1) := by rw [hse.out, Nat.pow_succ]
                    have hs3 : s * 10 ≤ 1000000000 := by omega
                    have HV1 := Lib.hid hv1; have HS2 := Lib.hid hs2; have HDG1 := Lib.hid hdg1
                    clear hv1 hb1 hp1 hp2 hp3 hs2 hdg1
                    go_wp2_with fail
                    go_roundw
                    case rel => exact ⟨k + 1, 10 * v + (c - 48), s * 10, by omega, by go_num, by go_num, by go_num, hv2, hs3, HV1, HS2, HDG1, trivial⟩
                    case measure => simp [intOf]; omega
              · obtain rfl : k = n := by omega
                have hdg0 := hdg.out
                have hve0 := hve.out
                rw [List.take_of_length_le (by rw [chunk_len g3]; exact Nat.le_refl _)] at hdg0 hve0
                have hdgT : (l.take (i + k)).all isDig = true := by rw [all_chunk, had.out, hdg0]; rfl
                have hvT : val lo * s + v = decN (l.take (i + k)) := by rw [decN_chunk g3, ← hve0, ← hse.out, hval.out]
                have HDGT := Lib.hid hdgT; have HVT := Lib.hid hvT
                clear hdg0 hve0 hdgT hvT
                go_wp2_with fail
                go_loopw [7, 74] (fun vv kv wr => ∃ (j y : Nat) (m : List Nat), j ≤ lo.length ∧ kv = .int .i64 j ∧ vv = .int .u64 y ∧ y < 4294967296 ∧ OwnW 38 wr w.heap.size (.slice ao lo.length ca) m ∧ Hid (m.length = lo.length) ∧ Hid (val (m.take j) + 4294967296 ^ j * y = val (lo.take j) * s + v) ∧ Hid (∀ x, j ≤ x → gd m x = gd lo x) ∧ Below w.heap.size w wr) (fun _ kv _ => lo.length - (intOf kv).toNat)
                case atStart => exact ⟨0, v, lo, Nat.zero_le _, rfl, rfl, by omega, HO2.out, Lib.hid rfl, Lib.hid (by simp [val]), Lib.hid (fun _ _ => rfl), HBR.out.step HB2.out⟩
                case round =>
                  obtain ⟨j, y, m, hj, rfl, rfl, hy, hOm, hml, hinv, hsame, hBm⟩ := hrel
                  by_cases hjn : j < lo.length
                  · obtain ⟨g, c', e', hg⟩ := hOm.head (by rw [hml.out]; omega)
                    obtain ⟨rfl, _, _⟩ := Value.slice.inj e'
                    have hcell := hOm.cell hml.out j hjn
                    have hfr := hOm.frozen hml.out j
                    have hxl := hOm.lt j
                    have hxe := hsame.out j (Nat.le_refl _)
                    obtain ⟨x', hx'⟩ : ∃ x', x' = gd m j := ⟨_, rfl⟩
                    rw [← hx'] at hcell hxl hxe
                    obtain ⟨p, hpe⟩ : ∃ p, p = x' * s := ⟨_, rfl⟩
                    have hpi : (x' : Int) * (s : Int) = (p : Int) := by rw [hpe]; rfl
                    have hpl := word_mul hxl (show s < 4294967296 by omega)
                    rw [← hpe] at hpl
                    obtain ⟨s1, s2, s3⟩ := take_bounds hy hpl
                    have HOM := Lib.hid hOm; have HXE := Lib.hid hxe; have HPE := Lib.hid hpe; have S1 := Lib.hid s1; have S2 := Lib.hid s2
                    clear e' hx' hpe s1 s2 hOm hxe
                    have hf1 : decide ((j : Int) < (lo.length : Int)) = true := decide_eq_true (by omega)
                    go_wp2_with fail
                    go_roundw
                    case rel =>
                      have hst := HOM.out.stored hml.out j ((y + p) % 4294967296) S2.out
                      refine ⟨j + 1, (y + p) / 4294967296, m.set j ((y + p) % 4294967296), hjn, by go_num, rfl, S1.out, hst, Lib.hid (by rw [List.length_set]; exact hml.out), Lib.hid ?_, Lib.hid ?_, hBm.setCell hg _⟩
                      · have h3 := mulAdd_step (x := x') (s := s) (v' := (y + p) / 4294967296) (d := (y + p) % 4294967296) hinv.out (by rw [← HPE.out]; omega)
                        rw [val_take_set _ _ _ (by rw [hml.out]; exact hjn), val_take_succ, ← HXE.out, Nat.pow_succ, h3, Nat.add_mul]; omega
                      · intro q hq
                        rw [gd_set, if_neg (by omega)]; exact hsame.out q (by omega)
                    case measure => simp [intOf]; omega
                  · obtain rfl : j = lo.length := by omega
                    have hend : val m + 4294967296 ^ lo.length * y = decN (l.take (i + k)) := by
                      have := hinv.out
                      rw [val_take_full lo (Nat.le_refl _), HVT.out, ← hml.out, val_take_full m (Nat.le_refl _)] at this
                      rw [← hml.out]; exact this
                    have HEND := Lib.hid hend; have HOM := Lib.hid hOm
                    clear hend hOm
                    have hf1 : decide ((lo.length : Int) < (lo.length : Int)) = false := decide_eq_false (by omega)
                    by_cases hy0 : y = 0
                    · subst hy0
                      have hvm : val m = decN (l.take (i + k)) := by have := HEND.out; rw [Nat.mul_zero, Nat.add_zero] at this; exact this
                      have HVM := Lib.hid hvm; clear hvm
                      go_wp2_with fail
                      go_roundw
                      case rel => exact ⟨i + k, m, g3, by go_num, HOM.out, Lib.hid (by have := hll.out; rw [hml.out]; omega), HVM, HDGT, Lib.hid (.inr G4.out), hBm⟩
                      case measure => simp [intOf]; omega
                    · have hf2 : decide ((0 : Int) < (y : Int)) = true := decide_eq_true (by omega)
                      have hci : (y : Int) % 4294967296 = (y : Int) := by omega
                      have hone := num_one wr 38 y hy
                      have HONE := Lib.hid hone; clear hone
                      go_wp2_with (at_builtin; refine wpList_appendN Tryd.wordsTy rfl (.tmp 96) (.tmp 99) rfl w.heap.size _ _ m [y] rfl rfl (HOM.out.alloc _) HONE.out ?c1 ?c2 ?_)
                      case c1 => have := hll.out; rw [hml.out]; simp; omega
                      case c2 => have := hBm.size; simp; omega
                      intro v' w4 h1 h2 h3
                      have hvs : val (m ++ [y]) = decN (l.take (i + k)) := by rw [val_snoc, hml.out]; exact HEND.out
                      have h4 := h2 w (hBm.alloc hBm.size _)
                      have HVS := Lib.hid hvs
                      clear h2 hvs
                      go_wp2_with fail
                      go_roundw
                      case rel => exact ⟨i + k, m ++ [y], g3, by go_num, h1, Lib.hid (by have := hll.out; rw [List.length_append, hml.out]; simp; omega), HVS, HDGT, Lib.hid (.inr G4.out), h4⟩
                      case measure => simp [intOf]; omega
      · obtain rfl : i = l.length := by omega
        have hf1 : decide ((l.length : Int) < (l.length : Int)) = false := decide_eq_false (by omega)
        have htr := trim_any _ _ _ HO.out.num (by have := hll.out; omega)
        have hall : l.all isDig = true := by have := had.out; rwa [List.take_length] at this
        rw [hval.out, List.take_length] at htr
        have HT := Lib.hid htr; have HALL := Lib.hid hall
        clear htr hall
        go_wp2_with fail
        (with_reducible refine HT.out.mono ?_); rintro e w3 ⟨v3, l3, rfl, hb3, hn3, rfl⟩
        go_wp2_with fail
        go_ret2
        rw [HCC.out, HVV.out, HALL.out]
        exact ⟨_, rfl, HBR.out.step hb3, hn3⟩
theorem parse_any (l : List UInt8) (w : World) (h : l.length ≤ 9223372036854775807) :
    Calls Tryd.prog 44 #[.string ⟨l.toArray⟩] w (RetNE w (parV l) (errV (parC l))) := by
  rcases par_cases l with h1 | rfl | ⟨y, m, rfl, h1⟩ | ⟨h1, h2, h3, h4⟩
  · obtain ⟨e1, e2⟩ := parC_big h1
    rw [e1, e2]; exact parse_large l w h1 h
  · obtain ⟨e1, e2⟩ := parC_form (l := []) (by decide) (.inl rfl)
    rw [e1, e2]; exact parse_empty w
  · obtain ⟨e1, e2⟩ := parC_form (l := 48 :: y :: m) h1 (.inr ⟨rfl, by simp⟩)
    rw [e1, e2]; exact parse_zero y m w (by simp at h1; omega)
  · obtain ⟨e1, e2⟩ := parC_scan h1 h2
    rw [e1, e2]; exact parse_loop l w h1 h3 h4
theorem parC_small (l : List UInt8) : parC l ≤ 4 := by
  unfold parC; split
  · decide
  · split
    · decide
    · split <;> decide
theorem parV_len {l : List UInt8} {K : Nat} (h : l.length ≤ K) : (wd (parV l)).length ≤ K := by
  unfold parV; split
  · rename_i h1
    unfold parC at h1
    split at h1
    · cases h1
    · split at h1
      · cases h1
      · split at h1
        · rename_i h3
          have := decN_words' (l := l) (k := l.length) h (by rw [List.take_length]; exact h3)
          rwa [List.take_length] at this
        · cases h1
  · rw [wd_zero]; exact Nat.zero_le _
end Go.Proofs.YtdepoikifneggaaDoor
