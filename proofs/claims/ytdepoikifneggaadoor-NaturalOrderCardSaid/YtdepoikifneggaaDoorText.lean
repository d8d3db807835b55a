/-
  natural.Text: what it hands back: the decimal digits.
  Conditions: each theorem's own.
-/
import Derived.Test.YtdepoikifneggaaDoorBld
import Derived.Test.YtdepoikifneggaaDoorShelfN
namespace Go.Proofs.YtdepoikifneggaaDoor
open Go.RowKit Go.ChangeShapes Go.WideShapes

/-- the digits of a number, the lowest first, no zero at the end -/
def digD (n : Nat) : List UInt8 := if h : n = 0 then [] else digB n :: digD (n / 10)
termination_by n
decreasing_by exact Nat.div_lt_self (by omega) (by decide)
theorem digD_zero : digD 0 = [] := by unfold digD; simp
theorem digD_pos {n : Nat} (h : n ≠ 0) : digD n = digB n :: digD (n / 10) := by rw [digD]; rw [dif_neg h]
/-- the decimal text of a number -/
def decB (n : Nat) : ByteArray := if n = 0 then ⟨#[48]⟩ else ⟨((digD n).reverse).toArray⟩
theorem padD_zero (k : Nat) : padD k 0 = List.replicate k 48 := by
  induction k with
  | zero => rfl
  | succ k ih => simp only [padD, Nat.zero_div, ih]; rfl
theorem padD_eq (k n : Nat) (h : n < 10 ^ k) : ∃ z, padD k n = digD n ++ List.replicate z 48 := by
  induction k generalizing n with
  | zero => have : n = 0 := by simpa using h
            subst this; exact ⟨0, by rw [digD_zero]; rfl⟩
  | succ k ih =>
    by_cases h0 : n = 0
    · subst h0; exact ⟨k + 1, by rw [padD_zero, digD_zero]; rfl⟩
    · obtain ⟨z, hz⟩ := ih (n / 10) (by rw [Nat.pow_succ] at h; omega)
      exact ⟨z, by rw [digD_pos h0]; simp only [padD, hz]; rfl⟩
theorem digD_last (n : Nat) (h : n ≠ 0) : ∃ l x, digD n = l ++ [x] ∧ x ≠ 48 := by
  induction n using Nat.strongRecOn with
  | _ n ih =>
    by_cases h1 : n / 10 = 0
    · refine ⟨[], digB n, by rw [digD_pos h, h1, digD_zero]; rfl, ?_⟩
      intro e
      have := digB_toNat n
      rw [e] at this
      have : (48 : UInt8).toNat = 48 := rfl
      omega
    · obtain ⟨l, x, hl, hx⟩ := ih (n / 10) (Nat.div_lt_self (by omega) (by decide)) h1
      exact ⟨digB n :: l, x, by rw [digD_pos h, hl]; rfl, hx⟩
theorem trim_pad (k n : Nat) (h : n < 10 ^ k) (h0 : n ≠ 0) : Lib.trimLeftB (padD k n).reverse 48 = (digD n).reverse := by
  obtain ⟨z, hz⟩ := padD_eq k n h
  obtain ⟨l, x, hl, hx⟩ := digD_last n h0
  rw [hz, List.reverse_append, List.reverse_replicate]
  unfold Lib.trimLeftB
  rw [List.dropWhile_append]
  have e : (List.replicate z (48 : UInt8)).dropWhile (· == 48) = [] := by
    induction z with
    | zero => rfl
    | succ z ih => rw [List.replicate_succ]; simp
  rw [e]
  simp only [List.isEmpty_nil, if_true]
  rw [hl, List.reverse_append]
  simp [hx]
theorem trim_pad_zero (k : Nat) : Lib.trimLeftB (padD k 0).reverse 48 = [] := by
  rw [padD_zero, List.reverse_replicate]
  unfold Lib.trimLeftB
  induction k with
  | zero => rfl
  | succ k ih => rw [List.replicate_succ]; simp
theorem padD_add (a b n : Nat) : padD (a + b) n = padD a n ++ padD b (n / 10 ^ a) := by
  induction a generalizing n with
  | zero => simp [padD]
  | succ a ih =>
    rw [Nat.add_right_comm]
    simp only [padD, ih, List.cons_append]
    rw [Nat.pow_succ, Nat.mul_comm (10 ^ a), ← Nat.div_div_eq_div_mul]
theorem padD_length (k n : Nat) : (padD k n).length = k := by
  induction k generalizing n with
  | zero => rfl
  | succ k ih => simp [padD, ih]
theorem padD_mod (k n : Nat) : padD k (n % 10 ^ k) = padD k n := by
  induction k generalizing n with
  | zero => rfl
  | succ k ih =>
    simp only [padD]
    have e1 : digB (n % 10 ^ (k + 1)) = digB n := by
      unfold digB
      rw [Nat.pow_succ, Nat.mul_comm, Nat.mod_mul_right_mod]
    have e2 : n % 10 ^ (k + 1) / 10 = n / 10 % 10 ^ k := by
      rw [Nat.pow_succ, Nat.mul_comm, Nat.mod_mul_right_div_self]
    rw [e1, e2, ih]
/-- group i of a number -/
def groupN (n i : Nat) : Nat := n / 10 ^ (9 * i) % 1000000000
/-- what the groups from k on down to m make -/
def groupsB (n k m : Nat) : List UInt8 := ((padD (9 * k) n).drop (9 * m)).reverse
theorem groupsB_top (n k : Nat) : groupsB n k k = [] := by unfold groupsB; rw [List.drop_of_length_le (by rw [padD_length]; exact Nat.le_refl _)]; rfl
theorem groupsB_step (n k m : Nat) (h : m < k) : groupsB n k m = groupsB n k (m + 1) ++ (padD 9 (groupN n m)).reverse := by
  unfold groupsB groupN
  obtain ⟨d, rfl⟩ : ∃ d, k = m + 1 + d := ⟨k - (m + 1), by omega⟩
  have e1 : padD (9 * (m + 1 + d)) n = padD (9 * m) n ++ (padD 9 (n / 10 ^ (9 * m)) ++ padD (9 * d) (n / 10 ^ (9 * (m + 1)))) := by
    rw [show 9 * (m + 1 + d) = 9 * m + (9 + 9 * d) from by omega, padD_add, padD_add, Nat.div_div_eq_div_mul, ← Nat.pow_add, show 9 * m + 9 = 9 * (m + 1) from by omega]
  have e2 : padD (9 * (m + 1 + d)) n = (padD (9 * m) n ++ padD 9 (n / 10 ^ (9 * m))) ++ padD (9 * d) (n / 10 ^ (9 * (m + 1))) := by rw [e1, List.append_assoc]
  rw [show padD 9 (n / 10 ^ (9 * m) % 1000000000) = padD 9 (n / 10 ^ (9 * m)) from padD_mod 9 _]
  have d1 : (padD (9 * (m + 1 + d)) n).drop (9 * m) = padD 9 (n / 10 ^ (9 * m)) ++ padD (9 * d) (n / 10 ^ (9 * (m + 1))) := by
    rw [e1]; exact List.drop_left' (padD_length _ _)
  have d2 : (padD (9 * (m + 1 + d)) n).drop (9 * (m + 1)) = padD (9 * d) (n / 10 ^ (9 * (m + 1))) := by
    rw [e2]; exact List.drop_left' (by rw [List.length_append, padD_length, padD_length]; omega)
  rw [d1, d2, List.reverse_append]
theorem groups_few {n k L : Nat} (h : n / 10 ^ (9 * k) ≠ 0) (hn : n < 2 ^ L) : k < L := by
  have h1 : 10 ^ (9 * k) ≤ n := by
    rcases Nat.lt_or_ge n (10 ^ (9 * k)) with h2 | h2
    · exact absurd (Nat.div_eq_of_lt h2) h
    · exact h2
  have h3 : 2 ^ k ≤ 10 ^ (9 * k) := Nat.le_trans (Nat.pow_le_pow_left (show 2 ≤ 10 by decide) k) (Nat.pow_le_pow_right (by decide) (by omega))
  rcases Nat.lt_or_ge k L with h4 | h4
  · exact h4
  · have : 2 ^ L ≤ 2 ^ k := Nat.pow_le_pow_right (by decide) h4
    omega
theorem group_rest (n k : Nat) : n / 10 ^ (9 * k) / 1000000000 = n / 10 ^ (9 * (k + 1)) := by
  rw [Nat.div_div_eq_div_mul, show (1000000000 : Nat) = 10 ^ 9 from rfl, ← Nat.pow_add]; congr 2

/-- texts of the call's own -/
def OwnSt (w : World) (B : Nat) (v : Value) (xs : List ByteArray) : Prop := w.ownsRow B 9 1 v xs.length (xs.map Value.string)
theorem OwnSt.nil (w : World) (B : Nat) : OwnSt w B (.slice none 0 0) [] := World.ownsRow_nil _ _ _ _
theorem OwnSt.below {w w' : World} {B : Nat} {v : Value} {xs : List ByteArray} (h : OwnSt w B v xs) (hb : Below w.heap.size w w') : OwnSt w' B v xs := by
  refine World.ownsRow.kept h (row := none) ⟨hb.os, hb.tape, hb.output, hb.size, fun k hk _ => hb.block k hk⟩ ?_
  cases hv : v.ownBlock <;> simp
theorem Tryd.textsTy : SliceTy Tryd.prog 71 9 (.string ⟨#[]⟩) 1 16 := .mk' Tryd.underlying71 (by kernel_rfl)
section
variable {w : World} {ops : Array Oper} {rest : List Oper} {o : Oper} {a : Act} {Q : Exit → Act → World → Prop}
/-- 'append(s, t)': one text, behind the block that holds it -/
theorem wpList_appendSt (hg : o.guard = none) (s x : Operand) (hop : o.op = Op.call { callee := Callee.builtin Builtin.append, args := #[s, x], argTypes := #[71, 71] })
    (B : Nat) (v : Value) (xs : List ByteArray) (tx : ByteArray) (hs : a.eval s = v) (hx : a.eval x = .slice (some ⟨w.heap.size, 0, none⟩) 1 1)
    (hown : OwnSt w B v xs) (hlen : xs.length ≤ 1099511627776) (hB : B ≤ w.heap.size)
    (hK : ∀ v' w', OwnSt w' B v' (xs ++ [tx]) → (∀ w0, Below B w0 w → Below B w0 w') → w.heap.size ≤ w'.heap.size → w.grownBy w' v.ownBlock →
      wpList Tryd.prog ops Q rest (a.put o.dst v') w') :
    wpList Tryd.prog ops Q (o :: rest) a (w.alloc (.cells #[.string tx] 9)) := by
  obtain ⟨i0, hi, hz0, hz1, hz2⟩ := Tryd.textsTy.info
  refine wpList_append_own _ hg s x 71 hop B 9 i0 _ 1 16 Tryd.textsTy.under hi hz0 hz1 hz2 rfl (by decide) v xs.length (xs.map Value.string) hs (World.ownsRow.alloc hown _) ⟨w.heap.size, 0, none⟩ 1 1 [.string tx] hx rfl ?_ ?_ (by unfold maxLen; omega) (by omega) (by simp; omega) ?_
  · intro j u hu
    have hj : j < 1 := (List.getElem?_eq_some_iff.1 hu).1
    obtain rfl : j = 0 := by omega
    rw [show (⟨w.heap.size, 0, none⟩ : Addr).add 0 = ⟨w.heap.size, 0, none⟩ from rfl, cell_of_row (w.alloc (.cells #[.string tx] 9)) w.heap.size 0 #[.string tx] 9 (0, 0) (heap_alloc_new w _)]
    rw [← hu]; rfl
  · intro u hu
    simp only [List.mem_cons, List.not_mem_nil, or_false] at hu
    subst hu; rfl
  · intro v' w' h1 h2 _
    refine hK v' w' ?_ (fun w0 h0 => ?_) ?_ (grown_trans (World.grownBy_alloc w _ _) h2)
    · unfold OwnSt; rw [List.map_append, List.length_append]; exact h1
    · have hb : Below B w0 (w.alloc (.cells #[.string tx] 9)) := h0.alloc hB _
      refine hb.grown h2 (by simp; omega) ?_
      intro k hk
      exact (World.ownsRow.lt hown k hk).1
    · have := h2.size; simp at this; omega
end
/-- the texts of a slice, as the walk reads them -/
theorem OwnSt.read {w : World} {B : Nat} {v : Value} {xs : List ByteArray} (h : OwnSt w B v xs) (hn : 0 < xs.length) :
    ∃ g c, v = .slice (some ⟨g, 0, none⟩) xs.length c ∧ g < w.heap.size ∧ xs.length ≤ c ∧ c ≤ 9223372036854775807 ∧ ∀ j (hj : j < xs.length), w.cell? ⟨g, j, none⟩ = some (.string xs[j]) := by
  have hlt := World.ownsRow.lt h
  rcases h.2 with ⟨rfl, h0⟩ | ⟨g, cap, cur, rfl, hb, hh, hcap, hm, hs, ht⟩
  · omega
  · refine ⟨g, cap, rfl, (hlt g rfl).2, hcap, by unfold maxLen at hm; omega, ?_⟩
    intro j hj
    have := World.ownsRow.cells h (g := g) rfl j (.string xs[j]) (by simp [hj])
    have e2 : (⟨g, 0, none⟩ : Addr).add j = ⟨g, 0 + j, none⟩ := by unfold Addr.add; split <;> simp_all
    rw [e2, Nat.zero_add] at this; exact this

theorem OwnSt.shape {w : World} {B : Nat} {v : Value} {xs : List ByteArray} (h : OwnSt w B v xs) :
    ∃ go c, v = .slice go xs.length c ∧ xs.length ≤ c ∧ c ≤ 9223372036854775807 ∧ ∀ j (hj : j < xs.length), ∃ g, go = some ⟨g, 0, none⟩ ∧ g < w.heap.size ∧ w.cell? ⟨g, j, none⟩ = some (.string xs[j]) := by
  by_cases h0 : 0 < xs.length
  · obtain ⟨g, c, rfl, h1, h2, h3, h4⟩ := h.read h0
    exact ⟨_, c, rfl, h2, h3, fun j hj => ⟨g, rfl, h1, h4 j hj⟩⟩
  · rcases h.2 with ⟨rfl, h1⟩ | ⟨g, cap, cur, rfl, hb, hh, hcap, hm, hs, ht⟩
    · exact ⟨none, 0, by rw [h1], by omega, by omega, fun j hj => by omega⟩
    · exact ⟨_, cap, rfl, hcap, by unfold maxLen at hm; omega, fun j hj => by omega⟩

set_option maxRecDepth 100000 in
set_option maxHeartbeats 4000000 in
theorem text_any (va : Value) (a : List Nat) (w : World) (ha : Num w va a) (hla : a.length ≤ 800000) :
    Calls Tryd.prog 46 #[va] w (RetV w (.string (decB (val a)))) := by
  have hl1 := wd_length_le ha.lt
  obtain ⟨N, hN⟩ : ∃ N, N = val a := ⟨_, rfl⟩
  rw [← hN] at hl1 ⊢
  have HN := Lib.hid hN; have HUA := Lib.hid ha.lt; clear hN
  go_enter Tryd.func46, Tryd.ntmps46
  go_wp2_with fail
  (with_reducible refine (trim_any _ _ _ ha (by omega)).mono ?_); rintro e w1 ⟨v1, l1, rfl, hb1, hn1, hl1'⟩
  rw [hl1', ← HN.out] at hn1
  have HN1 := Lib.hid hn1
  clear hn1 hl1' ha
  go_wp2_with fail
  go_loopw [0, 3] (fun xv gv wr => ∃ (k : Nat), Num wr xv (wd (N / 10 ^ (9 * k))) ∧ OwnSt wr w.heap.size gv ((List.range k).map fun i => nineB (groupN N i)) ∧ Below w.heap.size w wr ∧ k ≤ 32 * a.length) (fun xv _ wr => numOf wr xv)
  case atStart => exact ⟨0, by simpa using HN1.out, OwnSt.nil _ _, hb1, Nat.zero_le _⟩
  case round =>
    obtain ⟨k, hnx, hgs, hBr, hkl⟩ := hrel
    by_cases hx0 : N / 10 ^ (9 * k) = 0
    · obtain ⟨wo, rfl⟩ : ∃ wo : World, wo = wr := ⟨_, rfl⟩
      have hNk : N < 10 ^ (9 * k) := by
        rcases Nat.lt_or_ge N (10 ^ (9 * k)) with h | h
        · exact h
        · have := Nat.div_pos h (Nat.pow_pos (by decide)); omega
      rw [hx0, wd_zero] at hnx
      obtain ⟨xo, cx, rfl, _, _, _⟩ := hnx.shape
      rw [List.length_nil]
      have HNK := Lib.hid hNk
      have hlen : ((List.range k).map fun i => nineB (groupN N i)).length = k := by rw [List.length_map, List.length_range]
      have HGS := Lib.hid hgs; have HLEN := Lib.hid hlen
      have hbld := Lib.fresh_isBuilder 75 5 wo
      have HBL := Lib.hid hbld
      obtain ⟨go, cg, rfl, hgc, hgc2, hgcell⟩ := HGS.out.shape
      rw [HLEN.out] at hgc ⊢
      have hgcell2 : ∀ j, j < k → ∃ g, go = some ⟨g, 0, none⟩ ∧ g < wo.heap.size ∧ wo.cell? ⟨g, j, none⟩ = some (.string (nineB (groupN N j))) := fun j hj => by
        obtain ⟨g, h1, h2, h3⟩ := hgcell j (by rw [HLEN.out]; exact hj)
        refine ⟨g, h1, h2, ?_⟩
        rw [h3]; simp
      have HGC := Lib.hid hgcell2
      have hsz := hBr.size
      clear hnx hgs hNk hx0 hlen hbld hgcell hgcell2
      go_wp2_with fail
      go_loopw [7] (fun iv wx => ∃ m : Nat, m ≤ k ∧ iv = .int .i64 ((m : Int) - 1) ∧ Lib.IsBuilder 75 5 wo.heap.size wo.heap.size (Lib.byteCells (groupsB N k m)) wx ∧ Below wo.heap.size wo wx) (fun iv _ => (intOf iv + 1).toNat)
      case atStart => exact ⟨k, Nat.le_refl _, rfl, by rw [groupsB_top]; exact HBL.out, (Below.refl _ _).alloc (Nat.le_refl _) _⟩
      case round =>
        obtain ⟨m, hm, rfl, hib, hbx⟩ := hrel
        have hszx := hbx.size
        by_cases hm0 : m = 0
        · subst hm0
          have hst := Tryd.Builder_String_any wo.heap.size wo.heap.size (groupsB N k 0) wr hib hszx
          have hg0 : groupsB N k 0 = (padD (9 * k) N).reverse := by unfold groupsB; rfl
          rw [hg0] at hst
          have HST := Lib.hid hst
          clear hst hg0 hib
          by_cases hN0 : N = 0
          · have htl := fun wx => Tryd.strings_TrimLeft_one ⟨(padD (9 * k) N).reverse.toArray⟩ 48 (by decide) wx
            have e0 : Lib.trimLeftB (padD (9 * k) N).reverse 48 = [] := by rw [hN0]; exact trim_pad_zero _
            simp only [e0] at htl
            have HTL := Lib.hid htl
            have hd : decB N = ⟨#[48]⟩ := by unfold decB; rw [if_pos hN0]
            have HD := Lib.hid hd
            clear htl e0 hd hN0
            go_wp2_with fail
            (with_reducible refine HST.out.mono ?_); rintro e w3 ⟨rfl, hb3⟩
            go_wp2_with fail
            (with_reducible refine (HTL.out _).mono ?_); rintro e w4 ⟨rfl, rfl⟩
            go_wp2_with fail
            go_ret
            exact ⟨by rw [HD.out]; rfl, hBr.trans ((hbx.trans hb3).mono hsz)⟩
          · have htl := fun wx => Tryd.strings_TrimLeft_one ⟨(padD (9 * k) N).reverse.toArray⟩ 48 (by decide) wx
            have e0 : Lib.trimLeftB (padD (9 * k) N).reverse 48 = (digD N).reverse := trim_pad _ _ HNK.out hN0
            simp only [e0] at htl
            have HTL := Lib.hid htl
            have hd : decB N = ⟨((digD N).reverse).toArray⟩ := by unfold decB; rw [if_neg hN0]
            have HD := Lib.hid hd
            obtain ⟨l, x, hl, _⟩ := digD_last N hN0
            have hne : (digD N).reverse.isEmpty = false := by rw [hl]; simp
            clear htl e0 hd hN0 hl
            go_wp2_with fail
            (with_reducible refine HST.out.mono ?_); rintro e w3 ⟨rfl, hb3⟩
            go_wp2_with fail
            (with_reducible refine (HTL.out _).mono ?_); rintro e w4 ⟨rfl, rfl⟩
            go_wp2_with fail
            go_ret
            exact ⟨by rw [HD.out]; rfl, hBr.trans ((hbx.trans hb3).mono hsz)⟩
        · obtain ⟨j, rfl⟩ : ∃ j, m = j + 1 := ⟨m - 1, by omega⟩
          have hj1 : ((j + 1 : Nat) : Int) - 1 = (j : Int) := by omega
          rw [hj1]
          clear hj1
          obtain ⟨g, rfl, hgl, hgcj⟩ := HGC.out j (by omega)
          have hcx : wr.cell? ⟨g, j, none⟩ = some (.string (nineB (groupN N j))) := by rw [hbx.cell (p := ⟨g, j, none⟩) hgl]; exact hgcj
          have hlen1 : (groupsB N k (j + 1)).length = 9 * k - 9 * (j + 1) := by unfold groupsB; rw [List.length_reverse, List.length_drop, padD_length]
          have hws := writeString_any wo.heap.size wo.heap.size _ (nineB (groupN N j)) wr hib (by rw [Lib.byteCells_length, hlen1]; have : (nineB (groupN N j)).size = 9 := rfl; omega) hszx
          have e1 : Lib.byteCells (groupsB N k (j + 1)) ++ Lib.strCells (nineB (groupN N j)) = Lib.byteCells (groupsB N k j) := by
            rw [groupsB_step N k j (by omega), Lib.byteCells_append]; rfl
          rw [e1] at hws
          have HWS := Lib.hid hws
          clear hws e1 hlen1 hib hgcj
          go_wp2_with fail
          (with_reducible refine HWS.out.mono ?_); rintro e w3 ⟨rfl, hbl, hb3⟩
          have HBL3 : Hid (Lib.IsBuilder 75 5 wo.heap.size wo.heap.size (Lib.byteCells (groupsB N k j)) w3) := Lib.hid (.inr hbl)
          clear hbl
          go_wp2_with fail
          go_roundw
          case rel => exact ⟨j, by omega, rfl, HBL3.out, hbx.trans hb3⟩
          case measure => simp [intOf]
    · have hsm := small_own _ _ 1000000000 wr hnx (Nat.le_trans (wd_length_mono (Nat.div_le_self _ _)) (by omega)) (by decide) (by decide)
      rw [val_wd, group_rest, show ((1000000000 : Nat) : Int) = 1000000000 from rfl] at hsm
      have hpos := wd_length_pos hx0
      have hm0 := numOf_eq hnx
      rw [val_wd] at hm0
      have hkl2 : k < 32 * a.length := groups_few hx0 (by rw [HN.out, ← pow32]; exact val_lt HUA.out)
      have hdec : N / 10 ^ (9 * (k + 1)) < N / 10 ^ (9 * k) := by rw [← group_rest]; exact Nat.div_lt_self (by omega) (by decide)
      obtain ⟨r, hr⟩ : ∃ r, r = N / 10 ^ (9 * k) % 1000000000 := ⟨_, rfl⟩
      have hrl : r < 1000000000 := by rw [hr]; exact Nat.mod_lt _ (by decide)
      rw [← hr] at hsm
      obtain ⟨xo, cx, rfl, _, _, _⟩ := hnx.shape
      have HSM := Lib.hid hsm; have HM0 := Lib.hid hm0; have HDEC := Lib.hid hdec; have HR := Lib.hid hr; have HGS := Lib.hid hgs; have HGW := Lib.hid hgs
      clear hsm hm0 hdec hr hnx hx0 hgs
      go_wp2_with fail
      (with_reducible refine HSM.out.mono ?_); rintro e w2 ⟨vq, rfl, hb2, hnq⟩
      have hB2 := hBr.trans (hb2.mono hBr.size)
      have HNQ := Lib.hid hnq
      have hni := nine_any r w2 (by omega)
      have HNI := Lib.hid hni; have HGS := Lib.hid (HGS.out.below hb2)
      clear hnq hni hb2
      go_wp2_with fail
      (with_reducible refine HNI.out.mono ?_); rintro e w3 ⟨rfl, hb3⟩
      have hB3 := hB2.trans (hb3.mono hB2.size)
      have HGS := Lib.hid (HGS.out.below hb3); have HNQ := Lib.hid (HNQ.out.below hb3)
      have hsz3 := hB3.size
      clear hb3 hB2
      go_wp2_with (at_builtin; refine wpList_appendSt rfl (.tmp 19) (.tmp 22) rfl w.heap.size _ _ (nineB r) rfl rfl HGS.out ?c1 ?c2 ?_)
      case c1 => simp; omega
      case c2 => exact hsz3
      intro v' w4 h1 h2 h3 h5
      have h4 := h2 w hB3
      have hnq4 := (HNQ.out.keptFrom h5 (fun g hg => ((HGW.out).lt g hg).2)).num
      have HNQ4 := Lib.hid hnq4
      have HH1 := Lib.hid h1
      clear hnq4 h1 h2 h5
      go_wp2_with fail
      go_roundw
      case rel => exact ⟨k + 1, HNQ4.out, by rw [List.range_succ, List.map_append]; show OwnSt _ _ _ (_ ++ [nineB (groupN N k)]); unfold groupN; rw [← HR.out]; exact HH1.out, h4, hkl2⟩
      case measure =>
        have e1 := numOf_eq HNQ4.out
        rw [val_wd] at e1
        show numOf _ _ < numOf _ _
        rw [HM0.out]
        exact Nat.lt_of_le_of_lt (Nat.le_of_eq e1) HDEC.out
end Go.Proofs.YtdepoikifneggaaDoor
