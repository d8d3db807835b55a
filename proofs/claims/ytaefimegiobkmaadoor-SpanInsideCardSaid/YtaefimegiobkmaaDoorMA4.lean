/-
  The texts Span2, Span3, NatMath13, NatLaw0, Rat13, SpanLaw0, SpanLaw1, Span8, one behind the other (what the law leans on).
  Conditions: each theorem's own.
-/
import Derived.Test.YtaefimegiobkmaaDoorMA3
/-
  span.of: the least interval around some numbers.
  Conditions: each theorem's own.
-/
namespace Go.Proofs.YtaefimegiobkmaaDoor
open Go.RowKit Go.ChangeShapes Go.WideShapes

/-- the least, the greatest of some numbers: the first one, then those from place s on -/
def amn (q : Nat → Rat) (s : Nat) : Nat → Rat
  | 0 => q 0
  | k + 1 => mn (amn q s k) (q (k + s))
def amx (q : Nat → Rat) (s : Nat) : Nat → Rat
  | 0 => q 0
  | k + 1 => mx (amx q s k) (q (k + s))
theorem rl_am {q : Nat → Rat} {s m b : Nat} (h0 : rl (q 0) ≤ b) (h : ∀ j, j < m → rl (q (j + s)) ≤ b) : ∀ k, k ≤ m → rl (amn q s k) ≤ b ∧ rl (amx q s k) ≤ b := by
  intro k
  induction k with
  | zero => intro _; exact ⟨h0, h0⟩
  | succ k ih =>
    intro hk
    obtain ⟨i1, i2⟩ := ih (by omega)
    have h1 := rl_mn (amn q s k) (q (k + s)); have h2 := rl_mx (amx q s k) (q (k + s)); have h3 := h k (by omega)
    simp only [amn, amx]; omega
theorem cells3 {w w' : World} {g a b c : Nat} {x y z : Value} (hb : Below w.heap.size w w') (hg : g < w.heap.size) (h : w.cell? ⟨g, a, none⟩ = some x ∧ w.cell? ⟨g, b, none⟩ = some y ∧ w.cell? ⟨g, c, none⟩ = some z) :
    w'.cell? ⟨g, a, none⟩ = some x ∧ w'.cell? ⟨g, b, none⟩ = some y ∧ w'.cell? ⟨g, c, none⟩ = some z :=
  ⟨(hb.cell (p := ⟨g, a, none⟩) hg).trans h.1, (hb.cell (p := ⟨g, b, none⟩) hg).trans h.2.1, (hb.cell (p := ⟨g, c, none⟩) hg).trans h.2.2⟩
/-- a list of n fractions in memory, each with at most b words -/
def RatsAt (w : World) (g n b : Nat) (q : Nat → Rat) : Prop := ∀ j, j < n → ∃ s o k c a p d, (w.cell? ⟨g, j * 3, none⟩ = some (.bool s) ∧ w.cell? ⟨g, j * 3 + 1, none⟩ = some (.slice o k c) ∧ w.cell? ⟨g, j * 3 + 2, none⟩ = some (.slice a p d)) ∧ RatIs w (.agg #[.bool s, .slice o k c, .slice a p d]) (q j) ∧ rl (q j) ≤ b
set_option maxRecDepth 100000 in
set_option maxHeartbeats 6400000 in
theorem listOf_any {g m : Nat} (q : Nat → Rat) (w : World) (hm : m ≤ 1000) (hm0 : 0 < m) (hg : g < w.heap.size) (hV : RatsAt w g (m + 1) 40000 q) :
    Calls Tryd.prog 37 #[.slice (some ⟨g, 0, none⟩) (m + 1) (m + 1)] w (RetSp w (amn q 1 m, amx q 1 m)) := by
  have HBW := Lib.hid (Below.refl w.heap.size w)
  obtain ⟨t0, o0, n0, c0, a0, p0, d0, hC0, hF0, hL0⟩ := hV 0 (by omega)
  have hAm := rl_am (q := q) (s := 1) (m := m) (b := 40000) hL0 (fun j hj => by obtain ⟨_, _, _, _, _, _, _, _, _, h⟩ := hV (j + 1) (by omega); exact h)
  have HAM := Lib.hid hAm; have HV := Lib.hid hV; clear hAm hV
  have C0 := Lib.hid (show w.cell? ⟨g, 0, none⟩ = _ ∧ w.cell? ⟨g, 1, none⟩ = _ ∧ w.cell? ⟨g, 2, none⟩ = _ from by simpa using hC0); clear hC0
  have F0 := Lib.hid hF0; clear hF0
  have fm0 : (m = 0) = False := eq_false (by omega)
  have fl0 : decide ((0 : Int) < (((m + 1) : Nat) : Int)) = true := decide_eq_true (by omega)
  obtain ⟨w1, hw1⟩ : ∃ w1, w1 = w.alloc (.cells #[.bool false, .slice none 0 0, .slice none 0 0, .bool false, .slice none 0 0, .slice none 0 0] 26) := ⟨_, rfl⟩
  have hb1 : Below w.heap.size w w1 := by rw [hw1]; exact (Below.refl _ _).alloc (Nat.le_refl _) _
  have hx1 := heap_alloc_new w (.cells #[.bool false, .slice none 0 0, .slice none 0 0, .bool false, .slice none 0 0, .slice none 0 0] 26)
  obtain ⟨g1, hg1⟩ : ∃ g, g = w.heap.size := ⟨_, rfl⟩
  rw [← hw1, ← hg1] at hx1
  have lw1 : w.heap.size ≤ g1 := by rw [hg1]; exact HBW.out.size
  have HW1 := Lib.hid hw1; have HG1 := Lib.hid hg1; clear hw1 hg1
  have HB1 := Lib.hid (HBW.out.step hb1)
  have F0 := Lib.hid (F0.out.below hb1)
  have BX1 := Lib.hid hx1; clear hb1 hx1
  go_enter Tryd.func37, Tryd.ntmps37
  go_wp2_with (with_reducible first | refine pauseCall ?_ | refine pauseLoop ?_ | refine pauseDraw ?_ | refine pauseBody ?_ | refine pauseRounds ?_)
  try rw [← HW1.out]
  try rw [← HG1.out]
  refine Pause.mk ?_
  have k1 := rl_mn (q 0) (q 0)
  have k2 := rl_mx (q 0) (q 0)
  refine wp_region_facts (A := ?aa3) (w := w1) 16 [] (by kernel_rfl) (Fl [KEq (.slice (some ⟨g, 0, none⟩) (m + 1) (m + 1)), KEq (.pointer (some ⟨g, 0, none⟩)), KEq (.agg #[.bool t0, .slice o0 n0 c0, .slice a0 p0 d0]), KEq (.slice (some ⟨g, 0, none⟩) (m + 1) (m + 1)), KEq (.pointer (some ⟨g, 0, none⟩)), KEq (.agg #[.bool t0, .slice o0 n0 c0, .slice a0 p0 d0]), KIs (mn (q 0) (q 0)), KEq (.slice (some ⟨g, 0, none⟩) (m + 1) (m + 1)), KEq (.pointer (some ⟨g, 0, none⟩)), KEq (.agg #[.bool t0, .slice o0 n0 c0, .slice a0 p0 d0]), KEq (.slice (some ⟨g, 0, none⟩) (m + 1) (m + 1)), KEq (.pointer (some ⟨g, 0, none⟩)), KEq (.agg #[.bool t0, .slice o0 n0 c0, .slice a0 p0 d0]), KIs (mx (q 0) (q 0)), KSp ((mn (q 0) (q 0), mx (q 0) (q 0))), KNew w1.heap.size #[.bool false, .slice none 0 0, .slice none 0 0, .bool false, .slice none 0 0, .slice none 0 0] 26]) (fun i => i == 15) (by kernel_rfl) ?hq3 (monoL (monoC (kEq _) (monoC (kEq _) (monoC (kEq _) (monoC (kEq _) (monoC (kEq _) (monoC (kEq _) (monoC (kIs _) (monoC (kEq _) (monoC (kEq _) (monoC (kEq _) (monoC (kEq _) (monoC (kEq _) (monoC (kEq _) (monoC (kIs _) (monoC (kSp _) (monoC (kNew _ _ _) monoN))))))))))))))))) ?ha3 ?st3 ?tl3
  case hq3 =>
    intro c a d v w h
    first | (simp only [Exit.then] at h ⊢; exact h) | (simp only [Exit.inBlock, Exit.then] at h ⊢; exact h) | exact h
  case ha3 =>
    intro vals
    simp only [putsTo, dstOf, if_true, Act.put, List.setIfInBounds_toArray, List.set_cons_zero, List.set_cons_succ, List.getElem?_toArray, List.getElem?_cons_zero, List.getElem?_cons_succ, Option.bind_some]
    exact rfl
  case st3 =>
    simp only [List.take_succ_cons, List.take_zero]
    refine stepsOK_cons rfl rfl ?_ (stepsOK_cons rfl rfl ?_ (stepsOK_cons rfl rfl ?_ (stepsOK_cons rfl rfl ?_ (stepsOK_cons rfl rfl ?_ (stepsOK_cons rfl rfl ?_ (stepsOK_cons rfl rfl ?_ (stepsOK_cons rfl rfl ?_ (stepsOK_cons rfl rfl ?_ (stepsOK_cons rfl rfl ?_ (stepsOK_cons rfl rfl ?_ (stepsOK_cons rfl rfl ?_ (stepsOK_cons rfl rfl ?_ (stepsOK_cons rfl rfl ?_ (stepsOK_cons rfl rfl ?_ (stepsOK_cons rfl rfl ?_ (stepsOK_nil))))))))))))))))
    · intro vals w1 hb hd
      refine stepOK_value (v := (.slice (some ⟨g, 0, none⟩) (m + 1) (m + 1))) (w' := w1) (by go_simp) (leaves_mk (Below.refl _ _) rfl (fun h => by cases h))
    · intro vals w1 hb hd
      have d0 : KEq (.slice (some ⟨g, 0, none⟩) (m + 1) (m + 1)) (vals 0) w1 := hd 0 (by kernel_rfl)
      rw [show vals 0 = _ from d0]
      refine stepOK_value (v := (.pointer (some ⟨g, 0, none⟩))) (w' := w1) (by go_simp) (leaves_mk (Below.refl _ _) rfl (fun h => by cases h))
    · intro vals w1 hb hd
      have d1 : KEq (.pointer (some ⟨g, 0, none⟩)) (vals 1) w1 := hd 1 (by kernel_rfl)
      rw [show vals 1 = _ from d1]
      obtain ⟨e0, e1, e2⟩ := cells3 (HB1.out.step hb) hg C0.out
      refine stepOK_value (v := .agg #[.bool t0, .slice o0 n0 c0, .slice a0 p0 d0]) (w' := w1) (by go_simp) (leaves_mk (Below.refl _ _) rfl (fun h => by cases h))
    · intro vals w1 hb hd
      refine stepOK_value (v := (.slice (some ⟨g, 0, none⟩) (m + 1) (m + 1))) (w' := w1) (by go_simp) (leaves_mk (Below.refl _ _) rfl (fun h => by cases h))
    · intro vals w1 hb hd
      have d3 : KEq (.slice (some ⟨g, 0, none⟩) (m + 1) (m + 1)) (vals 3) w1 := hd 3 (by kernel_rfl)
      rw [show vals 3 = _ from d3]
      refine stepOK_value (v := (.pointer (some ⟨g, 0, none⟩))) (w' := w1) (by go_simp) (leaves_mk (Below.refl _ _) rfl (fun h => by cases h))
    · intro vals w1 hb hd
      have d4 : KEq (.pointer (some ⟨g, 0, none⟩)) (vals 4) w1 := hd 4 (by kernel_rfl)
      rw [show vals 4 = _ from d4]
      obtain ⟨e0, e1, e2⟩ := cells3 (HB1.out.step hb) hg C0.out
      refine stepOK_value (v := .agg #[.bool t0, .slice o0 n0 c0, .slice a0 p0 d0]) (w' := w1) (by go_simp) (leaves_mk (Below.refl _ _) rfl (fun h => by cases h))
    · intro vals w1 hb hd
      have d2 : KEq (.agg #[.bool t0, .slice o0 n0 c0, .slice a0 p0 d0]) (vals 2) w1 := hd 2 (by kernel_rfl)
      have d5 : KEq (.agg #[.bool t0, .slice o0 n0 c0, .slice a0 p0 d0]) (vals 5) w1 := hd 5 (by kernel_rfl)
      have z2 : vals 2 = _ := d2
      have z5 : vals 5 = _ := d5
      have hs := minq_any _ (q 0) _ (q 0) w1 (F0.out.below hb) (F0.out.below hb) (by omega) (by omega)
      have HS := Lib.hid hs; clear hs
      rw [z2]; clear z2
      rw [z5]; clear z5
      clear d2 d5 hd
      refine stepOK_call (by go_simp; first | done | exact ⟨⟨rfl, rfl⟩, rfl⟩) ?_
      (with_reducible refine HS.out.mono ?_); rintro e w2 ⟨v, rfl, hb2, hn⟩
      exact ⟨v, rfl, leaves_mk hb2 hn (fun h => by cases h)⟩
    · intro vals w1 hb hd
      refine stepOK_value (v := (.slice (some ⟨g, 0, none⟩) (m + 1) (m + 1))) (w' := w1) (by go_simp) (leaves_mk (Below.refl _ _) rfl (fun h => by cases h))
    · intro vals w1 hb hd
      have d7 : KEq (.slice (some ⟨g, 0, none⟩) (m + 1) (m + 1)) (vals 7) w1 := hd 7 (by kernel_rfl)
      rw [show vals 7 = _ from d7]
      refine stepOK_value (v := (.pointer (some ⟨g, 0, none⟩))) (w' := w1) (by go_simp) (leaves_mk (Below.refl _ _) rfl (fun h => by cases h))
    · intro vals w1 hb hd
      have d8 : KEq (.pointer (some ⟨g, 0, none⟩)) (vals 8) w1 := hd 8 (by kernel_rfl)
      rw [show vals 8 = _ from d8]
      obtain ⟨e0, e1, e2⟩ := cells3 (HB1.out.step hb) hg C0.out
      refine stepOK_value (v := .agg #[.bool t0, .slice o0 n0 c0, .slice a0 p0 d0]) (w' := w1) (by go_simp) (leaves_mk (Below.refl _ _) rfl (fun h => by cases h))
    · intro vals w1 hb hd
      refine stepOK_value (v := (.slice (some ⟨g, 0, none⟩) (m + 1) (m + 1))) (w' := w1) (by go_simp) (leaves_mk (Below.refl _ _) rfl (fun h => by cases h))
    · intro vals w1 hb hd
      have d10 : KEq (.slice (some ⟨g, 0, none⟩) (m + 1) (m + 1)) (vals 10) w1 := hd 10 (by kernel_rfl)
      rw [show vals 10 = _ from d10]
      refine stepOK_value (v := (.pointer (some ⟨g, 0, none⟩))) (w' := w1) (by go_simp) (leaves_mk (Below.refl _ _) rfl (fun h => by cases h))
    · intro vals w1 hb hd
      have d11 : KEq (.pointer (some ⟨g, 0, none⟩)) (vals 11) w1 := hd 11 (by kernel_rfl)
      rw [show vals 11 = _ from d11]
      obtain ⟨e0, e1, e2⟩ := cells3 (HB1.out.step hb) hg C0.out
      refine stepOK_value (v := .agg #[.bool t0, .slice o0 n0 c0, .slice a0 p0 d0]) (w' := w1) (by go_simp) (leaves_mk (Below.refl _ _) rfl (fun h => by cases h))
    · intro vals w1 hb hd
      have d9 : KEq (.agg #[.bool t0, .slice o0 n0 c0, .slice a0 p0 d0]) (vals 9) w1 := hd 9 (by kernel_rfl)
      have d12 : KEq (.agg #[.bool t0, .slice o0 n0 c0, .slice a0 p0 d0]) (vals 12) w1 := hd 12 (by kernel_rfl)
      have z9 : vals 9 = _ := d9
      have z12 : vals 12 = _ := d12
      have hs := maxq_any _ (q 0) _ (q 0) w1 (F0.out.below hb) (F0.out.below hb) (by omega) (by omega)
      have HS := Lib.hid hs; clear hs
      rw [z9]; clear z9
      rw [z12]; clear z12
      clear d9 d12 hd
      refine stepOK_call (by go_simp; first | done | exact ⟨⟨rfl, rfl⟩, rfl⟩) ?_
      (with_reducible refine HS.out.mono ?_); rintro e w2 ⟨v, rfl, hb2, hn⟩
      exact ⟨v, rfl, leaves_mk hb2 hn (fun h => by cases h)⟩
    · intro vals w1 hb hd
      have d6 : KIs (mn (q 0) (q 0)) (vals 6) w1 := hd 6 (by kernel_rfl)
      have R6 : Hid (IsR w1 (vals 6) (mn (q 0) (q 0))) := Lib.hid d6
      have d13 : KIs (mx (q 0) (q 0)) (vals 13) w1 := hd 13 (by kernel_rfl)
      have R13 : Hid (IsR w1 (vals 13) (mx (q 0) (q 0))) := Lib.hid d13
      obtain ⟨sx, ox, nx, cx, ax, mx, ex, zx⟩ := R6.out.shape
      have qx := R6.out; rw [zx] at qx; rw [zx]
      obtain ⟨sy, oy, ny, cy, ay, my, ey, zy⟩ := R13.out.shape
      have qy := R13.out; rw [zy] at qy; rw [zy]
      refine stepOK_value (v := .agg #[.bool sx, .slice ox nx cx, .slice ax mx ex, .bool sy, .slice oy ny cy, .slice ay my ey]) (w' := w1) (by go_simp) (leaves_mk (Below.refl _ _) (isSp_of qx qy) (fun h => by cases h))
    · intro vals w1 hb hd
      refine stepOK_value (v := .pointer (some ⟨w1.heap.size, 0, none⟩)) (w' := w1.alloc (.cells #[.bool false, .slice none 0 0, .slice none 0 0, .bool false, .slice none 0 0, .slice none 0 0] 26)) (by go_simp) (leaves_mk ((Below.refl _ _).alloc (Nat.le_refl _) _) ⟨_, hb.size, rfl, heap_alloc_new _ _⟩ (fun _ => ⟨rfl, by simp⟩))
  case tl3 =>
    intro vals w2 hb2 hf hdis
    simp only [List.drop_succ_cons, List.drop_zero]
    obtain ⟨u3_14, hu14⟩ : ∃ u, u = vals 14 := ⟨_, rfl⟩
    have hn3_14 : IsSp w2 (vals 14) ((mn (q 0) (q 0), mx (q 0) (q 0))) := hf 14 (by decide)
    rw [← hu14] at hn3_14 ⊢; clear hu14
    obtain ⟨g3_15, hg3_15, ev15, hz3_15⟩ : KNew w1.heap.size #[.bool false, .slice none 0 0, .slice none 0 0, .bool false, .slice none 0 0, .slice none 0 0] 26 (vals 15) w2 := hf 15 (by decide)
    have eq15 := ev15
    rw [ev15]; clear ev15
    have lw3_15 : w.heap.size ≤ g3_15 := Nat.le_trans HB1.out.size hg3_15
    have ltBX13_15 : g1 < g3_15 := Nat.lt_of_lt_of_le (below_lt BX1.out) hg3_15
    clear hf hdis eq15
    have HB2 := Lib.hid (HB1.out.step hb2)
    have F0 := Lib.hid (F0.out.below hb2)
    have BX1 := Lib.hid (heap_below BX1.out hb2)
    clear hb2
    have BX3_15 := Lib.hid hz3_15; clear hz3_15 hg3_15
    have N3_14 := Lib.hid hn3_14; clear hn3_14
    obtain ⟨s4, o4, n4, c4, a4, m4, d4, s4x, o4x, n4x, c4x, a4x, m4x, d4x, rfl⟩ := N3_14.out.shape
    have N3_14l := Lib.hid (show IsR _ _ (mn (q 0) (q 0)) from (isSp_ends N3_14.out).1); have N3_14h := Lib.hid (show IsR _ _ (mx (q 0) (q 0)) from (isSp_ends N3_14.out).2)
    skip
    go_wp2_with (with_reducible refine wpList_pauseS ?_)
    refine wpList_stL g3_15 0 [.bool s4, .slice o4 n4 c4, .slice a4 m4 d4, .bool s4x, .slice o4x n4x c4x, .slice a4x m4x d4x] BX3_15.out rfl rfl (Nat.le_of_ble_eq_true rfl) (by kernel_rfl) rfl ?_
    intro w3 hp3
    have F0 := Lib.hid (putL_R hp3 F0.out BX3_15.out noW6)
    have N3_14 := Lib.hid (putL_SI hp3 N3_14.out BX3_15.out noW6)
    have N3_14l := Lib.hid (putL_I hp3 N3_14l.out BX3_15.out noW6)
    have N3_14h := Lib.hid (putL_I hp3 N3_14h.out BX3_15.out noW6)
    have BX1 := Lib.hid (putLx hp3 BX1.out (by omega))
    have nx3 : w3.heap[g3_15]? = some (.cells #[.bool s4, .slice o4 n4 c4, .slice a4 m4 d4, .bool s4x, .slice o4x n4x c4x, .slice a4x m4x d4x] 26) := by rw [hp3]; exact putL_6 BX3_15.out
    have BX3_15 := Lib.hid nx3; clear nx3
    have HB3 := Lib.hid (putLb hp3 HB2.out (by omega))
    clear hp3
    go_wp2_with (with_reducible first | refine pauseCall ?_ | refine pauseLoop ?_ | refine pauseDraw ?_ | refine pauseBody ?_ | refine pauseRounds ?_)
    refine Pause.mk ?_
    have hN := N3_14.out
    rw [mn_self, mx_self] at hN
    have HN := Lib.hid hN; clear hN
    go_loopw [24] (fun kv wr => ∃ (k : Nat) (s1 : Bool) (o1 : Option Addr) (n1 c1 : Nat) (a1 : Option Addr) (p1 d1 : Nat) (s2 : Bool) (o2 : Option Addr) (n2 c2 : Nat) (a2 : Option Addr) (p2 d2 : Nat), k ≤ m ∧ kv = .int .i64 k ∧ Hid (wr.heap[g3_15]? = some (.cells #[.bool s1, .slice o1 n1 c1, .slice a1 p1 d1, .bool s2, .slice o2 n2 c2, .slice a2 p2 d2] 26)) ∧ IsSp wr (.agg #[.bool s1, .slice o1 n1 c1, .slice a1 p1 d1, .bool s2, .slice o2 n2 c2, .slice a2 p2 d2]) (amn q 1 k, amx q 1 k) ∧
        Hid (wr.heap[g1]? = some (.cells #[.bool false, .slice none 0 0, .slice none 0 0, .bool false, .slice none 0 0, .slice none 0 0] 26)) ∧ Below w.heap.size w wr) (fun kv _ => m - (intOf kv).toNat)
    case atStart => exact ⟨0, s4, o4, n4, c4, a4, m4, d4, s4x, o4x, n4x, c4x, a4x, m4x, d4x, Nat.zero_le _, rfl, BX3_15, HN.out, BX1, HB3.out⟩
    case round =>
      obtain ⟨k, s1, o1, n1, c1, a1, p1, d1, s2, o2, n2, c2, a2, p2, d2, hk, rfl, hxA, hIS, hxR, hBr⟩ := hrel
      have HBR := Lib.hid hBr; have HIS := Lib.hid hIS; clear hBr hIS
      have BXA := hxA; have BXR := hxR
      obtain ⟨hrn, hrx⟩ := HAM.out k hk
      have HISl := Lib.hid (isSp_ends HIS.out).1; have HISh := Lib.hid (isSp_ends HIS.out).2
      skip
      by_cases hkm : k < m
      · skip
        obtain ⟨t9, u9, x9, y9, z9, r9, h9, hC1, hF1, hL1⟩ := HV.out (k + 1) (by omega)
        have CE := Lib.hid (show w.cell? ⟨g, 3 + k * 3, none⟩ = _ ∧ w.cell? ⟨g, 3 + k * 3 + 1, none⟩ = _ ∧ w.cell? ⟨g, 3 + k * 3 + 2, none⟩ = _ from by rw [show 3 + k * 3 = (k + 1) * 3 by omega]; exact hC1); clear hC1
        have FE := Lib.hid (hF1.below HBR.out); clear hF1
        have hf1 : decide ((k : Int) < (m : Int)) = true := decide_eq_true (by omega)
        obtain ⟨x5_0, x5_1, x5_2⟩ := cells3 HBR.out hg CE.out
        obtain ⟨w14, hw14⟩ : ∃ w14, w14 = wr.alloc (.cells #[.bool t9, .slice u9 x9 y9, .slice z9 r9 h9] 24) := ⟨_, rfl⟩
        have hb14 : Below wr.heap.size wr w14 := by rw [hw14]; exact (Below.refl _ _).alloc (Nat.le_refl _) _
        have hx14 := heap_alloc_new wr (.cells #[.bool t9, .slice u9 x9 y9, .slice z9 r9 h9] 24)
        obtain ⟨g14, hg14⟩ : ∃ g, g = wr.heap.size := ⟨_, rfl⟩
        rw [← hw14, ← hg14] at hx14
        have lw14 : w.heap.size ≤ g14 := by rw [hg14]; exact HBR.out.size
        have ltBXR14 : g1 < g14 := by rw [hg14]; exact below_lt BXR.out
        have ltBXA14 : g3_15 < g14 := by rw [hg14]; exact below_lt BXA.out
        have HW14 := Lib.hid hw14; have HG14 := Lib.hid hg14; clear hw14 hg14
        have HB14 := Lib.hid (HBR.out.step hb14)
        have HIS := Lib.hid (HIS.out.below hb14)
        have HISl := Lib.hid (HISl.out.below hb14)
        have HISh := Lib.hid (HISh.out.below hb14)
        have FE := Lib.hid (FE.out.below hb14)
        have BXR := Lib.hid (heap_below BXR.out hb14)
        have BXA := Lib.hid (heap_below BXA.out hb14)
        have BX14 := Lib.hid hx14; clear hb14 hx14
        try rw [HG14.out] at x5_0
        try rw [HG14.out] at x5_1
        try rw [HG14.out] at x5_2
        go_wp2_with (with_reducible first | refine pauseCall ?_ | refine pauseLoop ?_ | refine pauseDraw ?_ | refine pauseBody ?_ | refine pauseRounds ?_)
        try rw [← HW14.out]
        try rw [← HG14.out]
        clear x5_0 x5_1 x5_2
        refine Pause.mk ?_
        have k6 := rl_mn (amn q 1 k) (q (k + 1))
        have k7 := rl_mx (amx q 1 k) (q (k + 1))
        refine wp_region_facts (A := ?aa8) (w := w14) 9 [] (by kernel_rfl) (Fl [KEq (.pointer (some ⟨g3_15, 0, none⟩)), KEq (.agg #[.bool s1, .slice o1 n1 c1, .slice a1 p1 d1]), KEq (.agg #[.bool t9, .slice u9 x9 y9, .slice z9 r9 h9]), KIs (mn (amn q 1 k) (q (k + 1))), KEq (.pointer (some ⟨g3_15, 3, none⟩)), KEq (.agg #[.bool s2, .slice o2 n2 c2, .slice a2 p2 d2]), KEq (.agg #[.bool t9, .slice u9 x9 y9, .slice z9 r9 h9]), KIs (mx (amx q 1 k) (q (k + 1))), KEq (.pointer (some ⟨g3_15, 0, none⟩))]) (fun i => false) (by kernel_rfl) ?hq8 (monoL (monoC (kEq _) (monoC (kEq _) (monoC (kEq _) (monoC (kIs _) (monoC (kEq _) (monoC (kEq _) (monoC (kEq _) (monoC (kIs _) (monoC (kEq _) monoN)))))))))) ?ha8 ?st8 ?tl8
        case hq8 =>
          intro c a d v w h
          first | (simp only [Exit.then] at h ⊢; exact h) | (simp only [Exit.inBlock, Exit.then] at h ⊢; exact h) | exact h
        case ha8 =>
          intro vals
          simp only [putsTo, dstOf, if_true, Act.put, List.setIfInBounds_toArray, List.set_cons_zero, List.set_cons_succ, List.getElem?_toArray, List.getElem?_cons_zero, List.getElem?_cons_succ, Option.bind_some]
          exact rfl
        case st8 =>
          simp only [List.take_succ_cons, List.take_zero]
          refine stepsOK_cons rfl rfl ?_ (stepsOK_cons rfl rfl ?_ (stepsOK_cons rfl rfl ?_ (stepsOK_cons rfl rfl ?_ (stepsOK_cons rfl rfl ?_ (stepsOK_cons rfl rfl ?_ (stepsOK_cons rfl rfl ?_ (stepsOK_cons rfl rfl ?_ (stepsOK_cons rfl rfl ?_ (stepsOK_nil)))))))))
          · intro vals w1 hb hd
            refine stepOK_value (v := (.pointer (some ⟨g3_15, 0, none⟩))) (w' := w1) (by go_simp) (leaves_mk (Below.refl _ _) rfl (fun h => by cases h))
          · intro vals w1 hb hd
            have d0 : KEq (.pointer (some ⟨g3_15, 0, none⟩)) (vals 0) w1 := hd 0 (by kernel_rfl)
            rw [show vals 0 = _ from d0]
            obtain ⟨e0, e1, e2, e3, e4, e5⟩ := row6 (heap_below BXA.out hb)
            refine stepOK_value (v := .agg #[.bool s1, .slice o1 n1 c1, .slice a1 p1 d1]) (w' := w1) (by go_simp) (leaves_mk (Below.refl _ _) rfl (fun h => by cases h))
          · intro vals w1 hb hd
            obtain ⟨e0, e1, e2⟩ := row3 (heap_below BX14.out hb)
            refine stepOK_value (v := .agg #[.bool t9, .slice u9 x9 y9, .slice z9 r9 h9]) (w' := w1) (by go_simp) (leaves_mk (Below.refl _ _) rfl (fun h => by cases h))
          · intro vals w1 hb hd
            have d1 : KEq (.agg #[.bool s1, .slice o1 n1 c1, .slice a1 p1 d1]) (vals 1) w1 := hd 1 (by kernel_rfl)
            have d2 : KEq (.agg #[.bool t9, .slice u9 x9 y9, .slice z9 r9 h9]) (vals 2) w1 := hd 2 (by kernel_rfl)
            have z1 : vals 1 = _ := d1
            have z2 : vals 2 = _ := d2
            have hs := minq_any _ (amn q 1 k) _ (q (k + 1)) w1 ((HISl.out.below hb).is (by omega)) (FE.out.below hb) (by omega) (by omega)
            have HS := Lib.hid hs; clear hs
            rw [z1]; clear z1
            rw [z2]; clear z2
            clear d1 d2 hd
            refine stepOK_call (by go_simp; first | done | exact ⟨⟨rfl, rfl⟩, rfl⟩) ?_
            (with_reducible refine HS.out.mono ?_); rintro e w2 ⟨v, rfl, hb2, hn⟩
            exact ⟨v, rfl, leaves_mk hb2 hn (fun h => by cases h)⟩
          · intro vals w1 hb hd
            refine stepOK_value (v := (.pointer (some ⟨g3_15, 3, none⟩))) (w' := w1) (by go_simp) (leaves_mk (Below.refl _ _) rfl (fun h => by cases h))
          · intro vals w1 hb hd
            have d4 : KEq (.pointer (some ⟨g3_15, 3, none⟩)) (vals 4) w1 := hd 4 (by kernel_rfl)
            rw [show vals 4 = _ from d4]
            obtain ⟨e0, e1, e2, e3, e4, e5⟩ := row6 (heap_below BXA.out hb)
            refine stepOK_value (v := .agg #[.bool s2, .slice o2 n2 c2, .slice a2 p2 d2]) (w' := w1) (by go_simp) (leaves_mk (Below.refl _ _) rfl (fun h => by cases h))
          · intro vals w1 hb hd
            obtain ⟨e0, e1, e2⟩ := row3 (heap_below BX14.out hb)
            refine stepOK_value (v := .agg #[.bool t9, .slice u9 x9 y9, .slice z9 r9 h9]) (w' := w1) (by go_simp) (leaves_mk (Below.refl _ _) rfl (fun h => by cases h))
          · intro vals w1 hb hd
            have d5 : KEq (.agg #[.bool s2, .slice o2 n2 c2, .slice a2 p2 d2]) (vals 5) w1 := hd 5 (by kernel_rfl)
            have d6 : KEq (.agg #[.bool t9, .slice u9 x9 y9, .slice z9 r9 h9]) (vals 6) w1 := hd 6 (by kernel_rfl)
            have z5 : vals 5 = _ := d5
            have z6 : vals 6 = _ := d6
            have hs := maxq_any _ (amx q 1 k) _ (q (k + 1)) w1 ((HISh.out.below hb).is (by omega)) (FE.out.below hb) (by omega) (by omega)
            have HS := Lib.hid hs; clear hs
            rw [z5]; clear z5
            rw [z6]; clear z6
            clear d5 d6 hd
            refine stepOK_call (by go_simp; first | done | exact ⟨⟨rfl, rfl⟩, rfl⟩) ?_
            (with_reducible refine HS.out.mono ?_); rintro e w2 ⟨v, rfl, hb2, hn⟩
            exact ⟨v, rfl, leaves_mk hb2 hn (fun h => by cases h)⟩
          · intro vals w1 hb hd
            refine stepOK_value (v := (.pointer (some ⟨g3_15, 0, none⟩))) (w' := w1) (by go_simp) (leaves_mk (Below.refl _ _) rfl (fun h => by cases h))
        case tl8 =>
          intro vals w15 hb15 hf hdis
          simp only [List.drop_succ_cons, List.drop_zero]
          obtain ⟨u8_3, hu3⟩ : ∃ u, u = vals 3 := ⟨_, rfl⟩
          have hn8_3 : IsR w15 (vals 3) (mn (amn q 1 k) (q (k + 1))) := hf 3 (by decide)
          rw [← hu3] at hn8_3 ⊢; clear hu3
          obtain ⟨u8_7, hu7⟩ : ∃ u, u = vals 7 := ⟨_, rfl⟩
          have hn8_7 : IsR w15 (vals 7) (mx (amx q 1 k) (q (k + 1))) := hf 7 (by decide)
          rw [← hu7] at hn8_7 ⊢; clear hu7
          have z8 : vals 8 = _ := hf 8 (by decide)
          try rw [z8]
          clear z8
          clear hf hdis
          have HB15 := Lib.hid (HB14.out.step hb15)
          have HIS := Lib.hid (HIS.out.below hb15)
          have HISl := Lib.hid (HISl.out.below hb15)
          have HISh := Lib.hid (HISh.out.below hb15)
          have FE := Lib.hid (FE.out.below hb15)
          have BXR := Lib.hid (heap_below BXR.out hb15)
          have BXA := Lib.hid (heap_below BXA.out hb15)
          have BX14 := Lib.hid (heap_below BX14.out hb15)
          clear hb15
          have N8_3 := Lib.hid hn8_3; clear hn8_3
          obtain ⟨s9, o9, n9, c9, a9, m9, d9, rfl⟩ := N8_3.out.shape
          have N8_7 := Lib.hid hn8_7; clear hn8_7
          obtain ⟨s10, o10, n10, c10, a10, m10, d10, rfl⟩ := N8_7.out.shape
          skip
          go_wp2_with (with_reducible refine wpList_pauseS ?_)
          refine wpList_stL g3_15 0 [.bool s9, .slice o9 n9 c9, .slice a9 m9 d9] BXA.out rfl rfl (Nat.le_of_ble_eq_true rfl) (by kernel_rfl) rfl ?_
          intro w16 hp16
          have HIS := Lib.hid (putL_SI hp16 HIS.out BXA.out noW6)
          have HISl := Lib.hid (putL_I hp16 HISl.out BXA.out noW6)
          have HISh := Lib.hid (putL_I hp16 HISh.out BXA.out noW6)
          have FE := Lib.hid (putL_R hp16 FE.out BXA.out noW6)
          have N8_3 := Lib.hid (putL_I hp16 N8_3.out BXA.out noW6)
          have N8_7 := Lib.hid (putL_I hp16 N8_7.out BXA.out noW6)
          have BXR := Lib.hid (putLx hp16 BXR.out (by omega))
          have BX14 := Lib.hid (putLx hp16 BX14.out (by omega))
          have nx16 : w16.heap[g3_15]? = some (.cells #[.bool s9, .slice o9 n9 c9, .slice a9 m9 d9, .bool s2, .slice o2 n2 c2, .slice a2 p2 d2] 26) := by rw [hp16]; exact putL_0 BXA.out
          have BXA := Lib.hid nx16; clear nx16
          have HB16 := Lib.hid (putLb hp16 HB15.out (by omega))
          clear hp16
          go_wp2_with (with_reducible refine wpList_pauseS ?_)
          refine wpList_stL g3_15 3 [.bool s10, .slice o10 n10 c10, .slice a10 m10 d10] BXA.out rfl rfl (Nat.le_of_ble_eq_true rfl) (by kernel_rfl) rfl ?_
          intro w17 hp17
          have HIS := Lib.hid (putL_SI hp17 HIS.out BXA.out noW6)
          have HISl := Lib.hid (putL_I hp17 HISl.out BXA.out noW6)
          have HISh := Lib.hid (putL_I hp17 HISh.out BXA.out noW6)
          have FE := Lib.hid (putL_R hp17 FE.out BXA.out noW6)
          have N8_3 := Lib.hid (putL_I hp17 N8_3.out BXA.out noW6)
          have N8_7 := Lib.hid (putL_I hp17 N8_7.out BXA.out noW6)
          have BXR := Lib.hid (putLx hp17 BXR.out (by omega))
          have BX14 := Lib.hid (putLx hp17 BX14.out (by omega))
          have nx17 : w17.heap[g3_15]? = some (.cells #[.bool s9, .slice o9 n9 c9, .slice a9 m9 d9, .bool s10, .slice o10 n10 c10, .slice a10 m10 d10] 26) := by rw [hp17]; exact putL_3 BXA.out
          have BXA := Lib.hid nx17; clear nx17
          have HB17 := Lib.hid (putLb hp17 HB16.out (by omega))
          clear hp17
          go_wp2_with (with_reducible first | refine pauseCall ?_ | refine pauseLoop ?_ | refine pauseDraw ?_ | refine pauseBody ?_ | refine pauseRounds ?_)
          refine Pause.mk ?_
          go_roundw
          case rel => exact ⟨k + 1, s9, o9, n9, c9, a9, m9, d9, s10, o10, n10, c10, a10, m10, d10, hkm, by go_num, BXA, isSp_of N8_3.out N8_7.out, BXR, HB17.out⟩
          case measure => simp [intOf]; omega
      · skip
        obtain rfl : k = m := by omega
        have hf1 : decide ((k : Int) < (k : Int)) = false := decide_eq_false (by omega)
        obtain ⟨x55_0, x55_1, x55_2, x55_3, x55_4, x55_5⟩ := row6 BXA.out
        go_wp2_with (with_reducible refine wpList_pauseS ?_)
        clear x55_0 x55_1 x55_2 x55_3 x55_4 x55_5
        refine wpList_stL g1 0 [.bool s1, .slice o1 n1 c1, .slice a1 p1 d1, .bool s2, .slice o2 n2 c2, .slice a2 p2 d2] BXR.out rfl rfl (Nat.le_of_ble_eq_true rfl) (by kernel_rfl) rfl ?_
        intro w64 hp64
        have HIS := Lib.hid (putL_SI hp64 HIS.out BXR.out noW6)
        have HISl := Lib.hid (putL_I hp64 HISl.out BXR.out noW6)
        have HISh := Lib.hid (putL_I hp64 HISh.out BXR.out noW6)
        have BXA := Lib.hid (putLx hp64 BXA.out (by omega))
        have nx64 : w64.heap[g1]? = some (.cells #[.bool s1, .slice o1 n1 c1, .slice a1 p1 d1, .bool s2, .slice o2 n2 c2, .slice a2 p2 d2] 26) := by rw [hp64]; exact putL_6 BXR.out
        have BXR := Lib.hid nx64; clear nx64
        have HB64 := Lib.hid (putLb hp64 HBR.out (by omega))
        clear hp64
        obtain ⟨x56_0, x56_1, x56_2, x56_3, x56_4, x56_5⟩ := row6 BXR.out
        go_wp2_with (with_reducible first | refine pauseCall ?_ | refine pauseLoop ?_ | refine pauseDraw ?_ | refine pauseBody ?_ | refine pauseRounds ?_)
        clear x56_0 x56_1 x56_2 x56_3 x56_4 x56_5
        refine Pause.mk ?_
        refine ret_span rfl g1 _ _ _ _ _ _ (by first | rfl | exact rfl) BXR.out rfl ?_
        exact ⟨_, rfl, HB64.out, HIS.out⟩
set_option maxRecDepth 100000 in
set_option maxHeartbeats 3200000 in
theorem of1_raw {g : Nat} {sg0 : Bool} {og0 ag0 : Option Addr} {ng0 cg0 mg0 dg0 : Nat} {qg0 : Rat} (w : World) (hg : w.heap[g]? = some (.cells #[.bool sg0, .slice og0 ng0 cg0, .slice ag0 mg0 dg0] 24)) (hg0 : RatIs w (.agg #[.bool sg0, .slice og0 ng0 cg0, .slice ag0 mg0 dg0]) qg0) (lg0 : rl qg0 ≤ 40000)  :
    Calls Tryd.prog 37 #[.slice (some ⟨g, 0, none⟩) 1 1] w (RetSp w (mn (qg0) (qg0), mx (qg0) (qg0))) := by
  have HBW := Lib.hid (Below.refl w.heap.size w)
  have kz0 : rl 0 ≤ 1 := by rw [rl_zero]; exact Nat.le_refl _
  have Fg0 := Lib.hid hg0; clear hg0
  have BXg := Lib.hid hg; clear hg
  obtain ⟨w1, hw1⟩ : ∃ w1, w1 = w.alloc (.cells #[.bool false, .slice none 0 0, .slice none 0 0, .bool false, .slice none 0 0, .slice none 0 0] 26) := ⟨_, rfl⟩
  have hb1 : Below w.heap.size w w1 := by rw [hw1]; exact (Below.refl _ _).alloc (Nat.le_refl _) _
  have hx1 := heap_alloc_new w (.cells #[.bool false, .slice none 0 0, .slice none 0 0, .bool false, .slice none 0 0, .slice none 0 0] 26)
  obtain ⟨g1, hg1⟩ : ∃ g, g = w.heap.size := ⟨_, rfl⟩
  rw [← hw1, ← hg1] at hx1
  have lw1 : w.heap.size ≤ g1 := by rw [hg1]; exact HBW.out.size
  have ltBXg1 : g < g1 := by rw [hg1]; exact below_lt BXg.out
  have HW1 := Lib.hid hw1; have HG1 := Lib.hid hg1; clear hw1 hg1
  have HB1 := Lib.hid (HBW.out.step hb1)
  have Fg0 := Lib.hid (Fg0.out.below hb1)
  have BXg := Lib.hid (heap_below BXg.out hb1)
  have BX1 := Lib.hid hx1; clear hb1 hx1
  go_enter Tryd.func37, Tryd.ntmps37
  go_wp2_with (with_reducible first | refine pauseCall ?_ | refine pauseLoop ?_ | refine pauseDraw ?_ | refine pauseBody ?_ | refine pauseRounds ?_)
  try rw [← HW1.out]
  try rw [← HG1.out]
  refine Pause.mk ?_
  have k1 := rl_mn (qg0) (qg0)
  have k2 := rl_mx (qg0) (qg0)
  refine wp_region_facts (A := ?aa3) (w := w1) 16 [] (by kernel_rfl) (Fl [KEq (.slice (some ⟨g, 0, none⟩) 1 1), KEq (.pointer (some ⟨g, 0, none⟩)), KEq (.agg #[.bool sg0, .slice og0 ng0 cg0, .slice ag0 mg0 dg0]), KEq (.slice (some ⟨g, 0, none⟩) 1 1), KEq (.pointer (some ⟨g, 0, none⟩)), KEq (.agg #[.bool sg0, .slice og0 ng0 cg0, .slice ag0 mg0 dg0]), KIs (mn (qg0) (qg0)), KEq (.slice (some ⟨g, 0, none⟩) 1 1), KEq (.pointer (some ⟨g, 0, none⟩)), KEq (.agg #[.bool sg0, .slice og0 ng0 cg0, .slice ag0 mg0 dg0]), KEq (.slice (some ⟨g, 0, none⟩) 1 1), KEq (.pointer (some ⟨g, 0, none⟩)), KEq (.agg #[.bool sg0, .slice og0 ng0 cg0, .slice ag0 mg0 dg0]), KIs (mx (qg0) (qg0)), KSp ((mn (qg0) (qg0), mx (qg0) (qg0))), KNew w1.heap.size #[.bool false, .slice none 0 0, .slice none 0 0, .bool false, .slice none 0 0, .slice none 0 0] 26]) (fun i => i == 15) (by kernel_rfl) ?hq3 (monoL (monoC (kEq _) (monoC (kEq _) (monoC (kEq _) (monoC (kEq _) (monoC (kEq _) (monoC (kEq _) (monoC (kIs _) (monoC (kEq _) (monoC (kEq _) (monoC (kEq _) (monoC (kEq _) (monoC (kEq _) (monoC (kEq _) (monoC (kIs _) (monoC (kSp _) (monoC (kNew _ _ _) monoN))))))))))))))))) ?ha3 ?st3 ?tl3
  case hq3 =>
    intro c a d v w h
    first | (simp only [Exit.then] at h ⊢; exact h) | (simp only [Exit.inBlock, Exit.then] at h ⊢; exact h) | exact h
  case ha3 =>
    intro vals
    simp only [putsTo, dstOf, if_true, Act.put, List.setIfInBounds_toArray, List.set_cons_zero, List.set_cons_succ, List.getElem?_toArray, List.getElem?_cons_zero, List.getElem?_cons_succ, Option.bind_some]
    exact rfl
  case st3 =>
    simp only [List.take_succ_cons, List.take_zero]
    refine stepsOK_cons rfl rfl ?_ (stepsOK_cons rfl rfl ?_ (stepsOK_cons rfl rfl ?_ (stepsOK_cons rfl rfl ?_ (stepsOK_cons rfl rfl ?_ (stepsOK_cons rfl rfl ?_ (stepsOK_cons rfl rfl ?_ (stepsOK_cons rfl rfl ?_ (stepsOK_cons rfl rfl ?_ (stepsOK_cons rfl rfl ?_ (stepsOK_cons rfl rfl ?_ (stepsOK_cons rfl rfl ?_ (stepsOK_cons rfl rfl ?_ (stepsOK_cons rfl rfl ?_ (stepsOK_cons rfl rfl ?_ (stepsOK_cons rfl rfl ?_ (stepsOK_nil))))))))))))))))
    · intro vals w1 hb hd
      refine stepOK_value (v := (.slice (some ⟨g, 0, none⟩) 1 1)) (w' := w1) (by go_simp) (leaves_mk (Below.refl _ _) rfl (fun h => by cases h))
    · intro vals w1 hb hd
      have d0 : KEq (.slice (some ⟨g, 0, none⟩) 1 1) (vals 0) w1 := hd 0 (by kernel_rfl)
      rw [show vals 0 = _ from d0]
      refine stepOK_value (v := (.pointer (some ⟨g, 0, none⟩))) (w' := w1) (by go_simp) (leaves_mk (Below.refl _ _) rfl (fun h => by cases h))
    · intro vals w1 hb hd
      have d1 : KEq (.pointer (some ⟨g, 0, none⟩)) (vals 1) w1 := hd 1 (by kernel_rfl)
      rw [show vals 1 = _ from d1]
      obtain ⟨e0, e1, e2⟩ := row3 (heap_below BXg.out hb)
      refine stepOK_value (v := .agg #[.bool sg0, .slice og0 ng0 cg0, .slice ag0 mg0 dg0]) (w' := w1) (by go_simp) (leaves_mk (Below.refl _ _) rfl (fun h => by cases h))
    · intro vals w1 hb hd
      refine stepOK_value (v := (.slice (some ⟨g, 0, none⟩) 1 1)) (w' := w1) (by go_simp) (leaves_mk (Below.refl _ _) rfl (fun h => by cases h))
    · intro vals w1 hb hd
      have d3 : KEq (.slice (some ⟨g, 0, none⟩) 1 1) (vals 3) w1 := hd 3 (by kernel_rfl)
      rw [show vals 3 = _ from d3]
      refine stepOK_value (v := (.pointer (some ⟨g, 0, none⟩))) (w' := w1) (by go_simp) (leaves_mk (Below.refl _ _) rfl (fun h => by cases h))
    · intro vals w1 hb hd
      have d4 : KEq (.pointer (some ⟨g, 0, none⟩)) (vals 4) w1 := hd 4 (by kernel_rfl)
      rw [show vals 4 = _ from d4]
      obtain ⟨e0, e1, e2⟩ := row3 (heap_below BXg.out hb)
      refine stepOK_value (v := .agg #[.bool sg0, .slice og0 ng0 cg0, .slice ag0 mg0 dg0]) (w' := w1) (by go_simp) (leaves_mk (Below.refl _ _) rfl (fun h => by cases h))
    · intro vals w1 hb hd
      have d2 : KEq (.agg #[.bool sg0, .slice og0 ng0 cg0, .slice ag0 mg0 dg0]) (vals 2) w1 := hd 2 (by kernel_rfl)
      have d5 : KEq (.agg #[.bool sg0, .slice og0 ng0 cg0, .slice ag0 mg0 dg0]) (vals 5) w1 := hd 5 (by kernel_rfl)
      have z2 : vals 2 = _ := d2
      have z5 : vals 5 = _ := d5
      have hs := minq_any _ (qg0) _ (qg0) w1 (Fg0.out.below hb) (Fg0.out.below hb) (by omega) (by omega)
      have HS := Lib.hid hs; clear hs
      rw [z2]; clear z2
      rw [z5]; clear z5
      clear d2 d5 hd
      refine stepOK_call (by go_simp; first | done | exact ⟨⟨rfl, rfl⟩, rfl⟩) ?_
      (with_reducible refine HS.out.mono ?_); rintro e w2 ⟨v, rfl, hb2, hn⟩
      exact ⟨v, rfl, leaves_mk hb2 hn (fun h => by cases h)⟩
    · intro vals w1 hb hd
      refine stepOK_value (v := (.slice (some ⟨g, 0, none⟩) 1 1)) (w' := w1) (by go_simp) (leaves_mk (Below.refl _ _) rfl (fun h => by cases h))
    · intro vals w1 hb hd
      have d7 : KEq (.slice (some ⟨g, 0, none⟩) 1 1) (vals 7) w1 := hd 7 (by kernel_rfl)
      rw [show vals 7 = _ from d7]
      refine stepOK_value (v := (.pointer (some ⟨g, 0, none⟩))) (w' := w1) (by go_simp) (leaves_mk (Below.refl _ _) rfl (fun h => by cases h))
    · intro vals w1 hb hd
      have d8 : KEq (.pointer (some ⟨g, 0, none⟩)) (vals 8) w1 := hd 8 (by kernel_rfl)
      rw [show vals 8 = _ from d8]
      obtain ⟨e0, e1, e2⟩ := row3 (heap_below BXg.out hb)
      refine stepOK_value (v := .agg #[.bool sg0, .slice og0 ng0 cg0, .slice ag0 mg0 dg0]) (w' := w1) (by go_simp) (leaves_mk (Below.refl _ _) rfl (fun h => by cases h))
    · intro vals w1 hb hd
      refine stepOK_value (v := (.slice (some ⟨g, 0, none⟩) 1 1)) (w' := w1) (by go_simp) (leaves_mk (Below.refl _ _) rfl (fun h => by cases h))
    · intro vals w1 hb hd
      have d10 : KEq (.slice (some ⟨g, 0, none⟩) 1 1) (vals 10) w1 := hd 10 (by kernel_rfl)
      rw [show vals 10 = _ from d10]
      refine stepOK_value (v := (.pointer (some ⟨g, 0, none⟩))) (w' := w1) (by go_simp) (leaves_mk (Below.refl _ _) rfl (fun h => by cases h))
    · intro vals w1 hb hd
      have d11 : KEq (.pointer (some ⟨g, 0, none⟩)) (vals 11) w1 := hd 11 (by kernel_rfl)
      rw [show vals 11 = _ from d11]
      obtain ⟨e0, e1, e2⟩ := row3 (heap_below BXg.out hb)
      refine stepOK_value (v := .agg #[.bool sg0, .slice og0 ng0 cg0, .slice ag0 mg0 dg0]) (w' := w1) (by go_simp) (leaves_mk (Below.refl _ _) rfl (fun h => by cases h))
    · intro vals w1 hb hd
      have d9 : KEq (.agg #[.bool sg0, .slice og0 ng0 cg0, .slice ag0 mg0 dg0]) (vals 9) w1 := hd 9 (by kernel_rfl)
      have d12 : KEq (.agg #[.bool sg0, .slice og0 ng0 cg0, .slice ag0 mg0 dg0]) (vals 12) w1 := hd 12 (by kernel_rfl)
      have z9 : vals 9 = _ := d9
      have z12 : vals 12 = _ := d12
      have hs := maxq_any _ (qg0) _ (qg0) w1 (Fg0.out.below hb) (Fg0.out.below hb) (by omega) (by omega)
      have HS := Lib.hid hs; clear hs
      rw [z9]; clear z9
      rw [z12]; clear z12
      clear d9 d12 hd
      refine stepOK_call (by go_simp; first | done | exact ⟨⟨rfl, rfl⟩, rfl⟩) ?_
      (with_reducible refine HS.out.mono ?_); rintro e w2 ⟨v, rfl, hb2, hn⟩
      exact ⟨v, rfl, leaves_mk hb2 hn (fun h => by cases h)⟩
    · intro vals w1 hb hd
      have d6 : KIs (mn (qg0) (qg0)) (vals 6) w1 := hd 6 (by kernel_rfl)
      have R6 : Hid (IsR w1 (vals 6) (mn (qg0) (qg0))) := Lib.hid d6
      have d13 : KIs (mx (qg0) (qg0)) (vals 13) w1 := hd 13 (by kernel_rfl)
      have R13 : Hid (IsR w1 (vals 13) (mx (qg0) (qg0))) := Lib.hid d13
      obtain ⟨sx, ox, nx, cx, ax, mx, ex, zx⟩ := R6.out.shape
      have qx := R6.out; rw [zx] at qx; rw [zx]
      obtain ⟨sy, oy, ny, cy, ay, my, ey, zy⟩ := R13.out.shape
      have qy := R13.out; rw [zy] at qy; rw [zy]
      refine stepOK_value (v := .agg #[.bool sx, .slice ox nx cx, .slice ax mx ex, .bool sy, .slice oy ny cy, .slice ay my ey]) (w' := w1) (by go_simp) (leaves_mk (Below.refl _ _) (isSp_of qx qy) (fun h => by cases h))
    · intro vals w1 hb hd
      refine stepOK_value (v := .pointer (some ⟨w1.heap.size, 0, none⟩)) (w' := w1.alloc (.cells #[.bool false, .slice none 0 0, .slice none 0 0, .bool false, .slice none 0 0, .slice none 0 0] 26)) (by go_simp) (leaves_mk ((Below.refl _ _).alloc (Nat.le_refl _) _) ⟨_, hb.size, rfl, heap_alloc_new _ _⟩ (fun _ => ⟨rfl, by simp⟩))
  case tl3 =>
    intro vals w2 hb2 hf hdis
    simp only [List.drop_succ_cons, List.drop_zero]
    obtain ⟨u3_14, hu14⟩ : ∃ u, u = vals 14 := ⟨_, rfl⟩
    have hn3_14 : IsSp w2 (vals 14) ((mn (qg0) (qg0), mx (qg0) (qg0))) := hf 14 (by decide)
    rw [← hu14] at hn3_14 ⊢; clear hu14
    obtain ⟨g3_15, hg3_15, ev15, hz3_15⟩ : KNew w1.heap.size #[.bool false, .slice none 0 0, .slice none 0 0, .bool false, .slice none 0 0, .slice none 0 0] 26 (vals 15) w2 := hf 15 (by decide)
    have eq15 := ev15
    rw [ev15]; clear ev15
    have lw3_15 : w.heap.size ≤ g3_15 := Nat.le_trans HB1.out.size hg3_15
    have ltBXg3_15 : g < g3_15 := Nat.lt_of_lt_of_le (below_lt BXg.out) hg3_15
    have ltBX13_15 : g1 < g3_15 := Nat.lt_of_lt_of_le (below_lt BX1.out) hg3_15
    clear hf hdis eq15
    have HB2 := Lib.hid (HB1.out.step hb2)
    have Fg0 := Lib.hid (Fg0.out.below hb2)
    have BXg := Lib.hid (heap_below BXg.out hb2)
    have BX1 := Lib.hid (heap_below BX1.out hb2)
    clear hb2
    have BX3_15 := Lib.hid hz3_15; clear hz3_15 hg3_15
    have N3_14 := Lib.hid hn3_14; clear hn3_14
    obtain ⟨s4, o4, n4, c4, a4, m4, d4, s4x, o4x, n4x, c4x, a4x, m4x, d4x, rfl⟩ := N3_14.out.shape
    have N3_14l := Lib.hid (show IsR _ _ (mn (qg0) (qg0)) from (isSp_ends N3_14.out).1); have N3_14h := Lib.hid (show IsR _ _ (mx (qg0) (qg0)) from (isSp_ends N3_14.out).2)
    skip
    go_wp2_with (with_reducible refine wpList_pauseS ?_)
    refine wpList_stL g3_15 0 [.bool s4, .slice o4 n4 c4, .slice a4 m4 d4, .bool s4x, .slice o4x n4x c4x, .slice a4x m4x d4x] BX3_15.out rfl rfl (Nat.le_of_ble_eq_true rfl) (by kernel_rfl) rfl ?_
    intro w3 hp3
    have Fg0 := Lib.hid (putL_R hp3 Fg0.out BX3_15.out noW6)
    have N3_14 := Lib.hid (putL_SI hp3 N3_14.out BX3_15.out noW6)
    have N3_14l := Lib.hid (putL_I hp3 N3_14l.out BX3_15.out noW6)
    have N3_14h := Lib.hid (putL_I hp3 N3_14h.out BX3_15.out noW6)
    have BXg := Lib.hid (putLx hp3 BXg.out (by omega))
    have BX1 := Lib.hid (putLx hp3 BX1.out (by omega))
    have nx3 : w3.heap[g3_15]? = some (.cells #[.bool s4, .slice o4 n4 c4, .slice a4 m4 d4, .bool s4x, .slice o4x n4x c4x, .slice a4x m4x d4x] 26) := by rw [hp3]; exact putL_6 BX3_15.out
    have BX3_15 := Lib.hid nx3; clear nx3
    have HB3 := Lib.hid (putLb hp3 HB2.out (by omega))
    clear hp3
    go_wp2_with (with_reducible first | refine pauseCall ?_ | refine pauseLoop ?_ | refine pauseDraw ?_ | refine pauseBody ?_ | refine pauseRounds ?_)
    refine Pause.mk ?_
    refine wp_loop_rounds 1 ?_
    rw [rounds_succ]
    obtain ⟨x5_0, x5_1, x5_2, x5_3, x5_4, x5_5⟩ := row6 BX3_15.out
    go_wp2_with (with_reducible refine wpList_pauseS ?_)
    clear x5_0 x5_1 x5_2 x5_3 x5_4 x5_5
    refine wpList_stL g1 0 [.bool s4, .slice o4 n4 c4, .slice a4 m4 d4, .bool s4x, .slice o4x n4x c4x, .slice a4x m4x d4x] BX1.out rfl rfl (Nat.le_of_ble_eq_true rfl) (by kernel_rfl) rfl ?_
    intro w4 hp4
    have Fg0 := Lib.hid (putL_R hp4 Fg0.out BX1.out noW6)
    have N3_14 := Lib.hid (putL_SI hp4 N3_14.out BX1.out noW6)
    have N3_14l := Lib.hid (putL_I hp4 N3_14l.out BX1.out noW6)
    have N3_14h := Lib.hid (putL_I hp4 N3_14h.out BX1.out noW6)
    have BXg := Lib.hid (putLx hp4 BXg.out (by omega))
    have BX3_15 := Lib.hid (putLx hp4 BX3_15.out (by omega))
    have nx4 : w4.heap[g1]? = some (.cells #[.bool s4, .slice o4 n4 c4, .slice a4 m4 d4, .bool s4x, .slice o4x n4x c4x, .slice a4x m4x d4x] 26) := by rw [hp4]; exact putL_6 BX1.out
    have BX1 := Lib.hid nx4; clear nx4
    have HB4 := Lib.hid (putLb hp4 HB3.out (by omega))
    clear hp4
    obtain ⟨x6_0, x6_1, x6_2, x6_3, x6_4, x6_5⟩ := row6 BX1.out
    go_wp2_with (with_reducible first | refine pauseCall ?_ | refine pauseLoop ?_ | refine pauseDraw ?_ | refine pauseBody ?_ | refine pauseRounds ?_)
    clear x6_0 x6_1 x6_2 x6_3 x6_4 x6_5
    refine Pause.mk ?_
    refine ret_span rfl g1 _ _ _ _ _ _ (by first | rfl | exact rfl) BX1.out rfl ?_
    exact ⟨_, rfl, HB4.out, N3_14.out⟩
theorem of1 {g : Nat} {sg0 : Bool} {og0 ag0 : Option Addr} {ng0 cg0 mg0 dg0 : Nat} {qg0 : Rat} (w : World) (hg : w.heap[g]? = some (.cells #[.bool sg0, .slice og0 ng0 cg0, .slice ag0 mg0 dg0] 24)) (hg0 : RatIs w (.agg #[.bool sg0, .slice og0 ng0 cg0, .slice ag0 mg0 dg0]) qg0) (lg0 : rl qg0 ≤ 40000) :
    Calls Tryd.prog 37 #[.slice (some ⟨g, 0, none⟩) 1 1] w (RetSp w (qg0, qg0)) := by
  have h := of1_raw w hg hg0 lg0
  rw [mn_self, mx_self] at h; exact h
theorem of2 {g : Nat} {sg0 : Bool} {og0 ag0 : Option Addr} {ng0 cg0 mg0 dg0 : Nat} {qg0 : Rat} {sg1 : Bool} {og1 ag1 : Option Addr} {ng1 cg1 mg1 dg1 : Nat} {qg1 : Rat} (w : World) (hg : w.heap[g]? = some (.cells #[.bool sg0, .slice og0 ng0 cg0, .slice ag0 mg0 dg0, .bool sg1, .slice og1 ng1 cg1, .slice ag1 mg1 dg1] 24)) (hg0 : RatIs w (.agg #[.bool sg0, .slice og0 ng0 cg0, .slice ag0 mg0 dg0]) qg0) (lg0 : rl qg0 ≤ 40000) (hg1 : RatIs w (.agg #[.bool sg1, .slice og1 ng1 cg1, .slice ag1 mg1 dg1]) qg1) (lg1 : rl qg1 ≤ 40000) :
    Calls Tryd.prog 37 #[.slice (some ⟨g, 0, none⟩) 2 2] w (RetSp w (around2 qg0 qg1)) := by
  have hV : RatsAt w g 2 40000 (fun j => if j = 0 then qg0 else qg1) := by
    intro j hj
    rw [cell_of_row w g _ _ 24 (0, 0) hg, cell_of_row w g _ _ 24 (0, 0) hg, cell_of_row w g _ _ 24 (0, 0) hg]
    match j, hj with
    | 0, _ => exact ⟨_, _, _, _, _, _, _, ⟨rfl, rfl, rfl⟩, hg0, lg0⟩
    | 1, _ => exact ⟨_, _, _, _, _, _, _, ⟨rfl, rfl, rfl⟩, hg1, lg1⟩
  have h := listOf_any (fun j => if j = 0 then qg0 else qg1) w (m := 1) (by decide) (by decide) (Array.getElem?_eq_some_iff.1 hg).1 hV
  exact h
theorem of4 {g : Nat} {sg0 : Bool} {og0 ag0 : Option Addr} {ng0 cg0 mg0 dg0 : Nat} {qg0 : Rat} {sg1 : Bool} {og1 ag1 : Option Addr} {ng1 cg1 mg1 dg1 : Nat} {qg1 : Rat} {sg2 : Bool} {og2 ag2 : Option Addr} {ng2 cg2 mg2 dg2 : Nat} {qg2 : Rat} {sg3 : Bool} {og3 ag3 : Option Addr} {ng3 cg3 mg3 dg3 : Nat} {qg3 : Rat} (w : World) (hg : w.heap[g]? = some (.cells #[.bool sg0, .slice og0 ng0 cg0, .slice ag0 mg0 dg0, .bool sg1, .slice og1 ng1 cg1, .slice ag1 mg1 dg1, .bool sg2, .slice og2 ng2 cg2, .slice ag2 mg2 dg2, .bool sg3, .slice og3 ng3 cg3, .slice ag3 mg3 dg3] 24)) (hg0 : RatIs w (.agg #[.bool sg0, .slice og0 ng0 cg0, .slice ag0 mg0 dg0]) qg0) (lg0 : rl qg0 ≤ 40000) (hg1 : RatIs w (.agg #[.bool sg1, .slice og1 ng1 cg1, .slice ag1 mg1 dg1]) qg1) (lg1 : rl qg1 ≤ 40000) (hg2 : RatIs w (.agg #[.bool sg2, .slice og2 ng2 cg2, .slice ag2 mg2 dg2]) qg2) (lg2 : rl qg2 ≤ 40000) (hg3 : RatIs w (.agg #[.bool sg3, .slice og3 ng3 cg3, .slice ag3 mg3 dg3]) qg3) (lg3 : rl qg3 ≤ 40000) :
    Calls Tryd.prog 37 #[.slice (some ⟨g, 0, none⟩) 4 4] w (RetSp w (around4 qg0 qg1 qg2 qg3)) := by
  have hV : RatsAt w g 4 40000 (fun j => if j = 0 then qg0 else if j = 1 then qg1 else if j = 2 then qg2 else qg3) := by
    intro j hj
    rw [cell_of_row w g _ _ 24 (0, 0) hg, cell_of_row w g _ _ 24 (0, 0) hg, cell_of_row w g _ _ 24 (0, 0) hg]
    match j, hj with
    | 0, _ => exact ⟨_, _, _, _, _, _, _, ⟨rfl, rfl, rfl⟩, hg0, lg0⟩
    | 1, _ => exact ⟨_, _, _, _, _, _, _, ⟨rfl, rfl, rfl⟩, hg1, lg1⟩
    | 2, _ => exact ⟨_, _, _, _, _, _, _, ⟨rfl, rfl, rfl⟩, hg2, lg2⟩
    | 3, _ => exact ⟨_, _, _, _, _, _, _, ⟨rfl, rfl, rfl⟩, hg3, lg3⟩
  have h := listOf_any (fun j => if j = 0 then qg0 else if j = 1 then qg1 else if j = 2 then qg2 else qg3) w (m := 3) (by decide) (by decide) (Array.getElem?_eq_some_iff.1 hg).1 hV
  exact h
end Go.Proofs.YtaefimegiobkmaaDoor
/-
  span.norm, Point, Make and the reference's Arg, Point, Make.
  Conditions: each theorem's own.
-/
namespace Go.Proofs.YtaefimegiobkmaaDoor
open Go.RowKit Go.ChangeShapes Go.WideShapes

theorem spV_isSp {w : World} {v : Value} {s t : Bool} {a b c d : List Nat} (h : SpV w v s a b t c d) (hv : Vld s a b) (hu : Vld t c d) : IsSp w v (rq s a b, rq t c d) := by
  obtain ⟨⟨u1, u2⟩, u3, u4⟩ := h.lt
  obtain ⟨e1, e2, e3⟩ := vld_fields u1 u2 hv
  obtain ⟨f1, f2, f3⟩ := vld_fields u3 u4 hu
  obtain ⟨x0, x1, x2, x3, x4, x5, e, h1, h2⟩ := h
  refine ⟨x0, x1, x2, x3, x4, x5, e, ?_, ?_⟩
  · unfold IsR; rw [← e1, ← e2, ← e3]; exact h1
  · unfold IsR; rw [← f1, ← f2, ← f3]; exact h2
set_option maxRecDepth 100000 in
set_option maxHeartbeats 3200000 in
theorem norm_1 (va : Value) (sa : Bool) (aa ba : List Nat) (ta : Bool) (ca da : List Nat) (w : World) (ha : SpV w va sa aa ba ta ca da) (la : aa.length ≤ 40000) (lb : ba.length ≤ 40000) (lc : ca.length ≤ 40000) (ld : da.length ≤ 40000) (hv : ¬ (Vld sa aa ba ∧ Vld ta ca da ∧ rq sa aa ba ≤ rq ta ca da)) :
    Calls Tryd.prog 36 #[va] w (RetSp w (0, 0)) := by
  have HBW := Lib.hid (Below.refl w.heap.size w)
  have kz0 : rl 0 ≤ 1 := by rw [rl_zero]; exact Nat.le_refl _
  obtain ⟨qa, oa, na, ka, pa, ma, ra, qax, oax, nax, kax, pax, max, rax, rfl⟩ := ha.shape
  have HV := Lib.hid (decide_eq_false hv); clear hv
  have Fa := Lib.hid ha; clear ha
  have Fal := Lib.hid (spV_ends Fa.out).1; have Fah := Lib.hid (spV_ends Fa.out).2
  obtain ⟨w1, hw1⟩ : ∃ w1, w1 = w.alloc (.cells #[.bool qa, .slice oa na ka, .slice pa ma ra, .bool qax, .slice oax nax kax, .slice pax max rax] 26) := ⟨_, rfl⟩
  have hb1 : Below w.heap.size w w1 := by rw [hw1]; exact (Below.refl _ _).alloc (Nat.le_refl _) _
  have hx1 := heap_alloc_new w (.cells #[.bool qa, .slice oa na ka, .slice pa ma ra, .bool qax, .slice oax nax kax, .slice pax max rax] 26)
  obtain ⟨g1, hg1⟩ : ∃ g, g = w.heap.size := ⟨_, rfl⟩
  rw [← hw1, ← hg1] at hx1
  have lw1 : w.heap.size ≤ g1 := by rw [hg1]; exact HBW.out.size
  have HW1 := Lib.hid hw1; have HG1 := Lib.hid hg1; clear hw1 hg1
  have HB1 := Lib.hid (HBW.out.step hb1)
  have Fa := Lib.hid (Fa.out.below hb1)
  have Fal := Lib.hid (Fal.out.below hb1)
  have Fah := Lib.hid (Fah.out.below hb1)
  have BX1 := Lib.hid hx1; clear hb1 hx1
  obtain ⟨w2, hw2⟩ : ∃ w2, w2 = w1.alloc (.cells #[.bool false, .slice none 0 0, .slice none 0 0, .bool false, .slice none 0 0, .slice none 0 0] 26) := ⟨_, rfl⟩
  have hb2 : Below w1.heap.size w1 w2 := by rw [hw2]; exact (Below.refl _ _).alloc (Nat.le_refl _) _
  have hx2 := heap_alloc_new w1 (.cells #[.bool false, .slice none 0 0, .slice none 0 0, .bool false, .slice none 0 0, .slice none 0 0] 26)
  obtain ⟨g2, hg2⟩ : ∃ g, g = w1.heap.size := ⟨_, rfl⟩
  rw [← hw2, ← hg2] at hx2
  have lw2 : w.heap.size ≤ g2 := by rw [hg2]; exact HB1.out.size
  have ltBX12 : g1 < g2 := by rw [hg2]; exact below_lt BX1.out
  have hs2 : g2 = w.heap.size + 1 := by rw [hg2, HW1.out]; simp
  have HS2 := Lib.hid hs2; clear hs2
  have HW2 := Lib.hid hw2; have HG2 := Lib.hid hg2; clear hw2 hg2
  have HB2 := Lib.hid (HB1.out.step hb2)
  have Fa := Lib.hid (Fa.out.below hb2)
  have Fal := Lib.hid (Fal.out.below hb2)
  have Fah := Lib.hid (Fah.out.below hb2)
  have BX1 := Lib.hid (heap_below BX1.out hb2)
  have BX2 := Lib.hid hx2; clear hb2 hx2
  go_enter Tryd.func36, Tryd.ntmps36
  obtain ⟨x1_0, x1_1, x1_2, x1_3, x1_4, x1_5⟩ := row6 BX1.out
  have hs := svalid_any _ sa aa ba ta ca da w2 Fa.out (by omega) (by omega) (by omega) (by omega)
  rw [HV.out] at hs
  have HS := Lib.hid hs; clear hs
  try rw [HW2.out] at x1_0
  try rw [HG2.out] at x1_0
  try rw [HW1.out] at x1_0
  try rw [HG1.out] at x1_0
  try rw [HW2.out] at x1_1
  try rw [HG2.out] at x1_1
  try rw [HW1.out] at x1_1
  try rw [HG1.out] at x1_1
  try rw [HW2.out] at x1_2
  try rw [HG2.out] at x1_2
  try rw [HW1.out] at x1_2
  try rw [HG1.out] at x1_2
  try rw [HW2.out] at x1_3
  try rw [HG2.out] at x1_3
  try rw [HW1.out] at x1_3
  try rw [HG1.out] at x1_3
  try rw [HW2.out] at x1_4
  try rw [HG2.out] at x1_4
  try rw [HW1.out] at x1_4
  try rw [HG1.out] at x1_4
  try rw [HW2.out] at x1_5
  try rw [HG2.out] at x1_5
  try rw [HW1.out] at x1_5
  try rw [HG1.out] at x1_5
  go_wp2_with (with_reducible first | refine pauseCall ?_ | refine pauseLoop ?_ | refine pauseDraw ?_ | refine pauseBody ?_ | refine pauseRounds ?_)
  try rw [← HW1.out]
  try rw [← HW2.out]
  try rw [← HS2.out]
  try rw [← HG1.out]
  try rw [← HG2.out]
  clear x1_0 x1_1 x1_2 x1_3 x1_4 x1_5
  refine Pause.mk ?_
  (with_reducible refine HS.out.mono ?_); rintro e w3 ⟨rfl, hb3⟩
  clear HS
  have HB3 := Lib.hid (HB2.out.step hb3)
  have Fa := Lib.hid (Fa.out.below hb3)
  have Fal := Lib.hid (Fal.out.below hb3)
  have Fah := Lib.hid (Fah.out.below hb3)
  have BX1 := Lib.hid (heap_below BX1.out hb3)
  have BX2 := Lib.hid (heap_below BX2.out hb3)
  clear hb3
  go_wp2_with (with_reducible refine wpList_pauseS ?_)
  refine wpList_stL g2 0 [.bool false, .slice none 0 0, .slice none 0 0, .bool false, .slice none 0 0, .slice none 0 0] BX2.out rfl rfl (Nat.le_of_ble_eq_true rfl) (by kernel_rfl) rfl ?_
  intro w4 hp4
  have Fa := Lib.hid (putL_SV hp4 Fa.out BX2.out noW6)
  have Fal := Lib.hid (putL_V hp4 Fal.out BX2.out noW6)
  have Fah := Lib.hid (putL_V hp4 Fah.out BX2.out noW6)
  have BX1 := Lib.hid (putLx hp4 BX1.out (by omega))
  have nx4 : w4.heap[g2]? = some (.cells #[.bool false, .slice none 0 0, .slice none 0 0, .bool false, .slice none 0 0, .slice none 0 0] 26) := by rw [hp4]; exact putL_6 BX2.out
  have BX2 := Lib.hid nx4; clear nx4
  have HB4 := Lib.hid (putLb hp4 HB3.out (by omega))
  clear hp4
  obtain ⟨x2_0, x2_1, x2_2, x2_3, x2_4, x2_5⟩ := row6 BX2.out
  go_wp2_with (with_reducible first | refine pauseCall ?_ | refine pauseLoop ?_ | refine pauseDraw ?_ | refine pauseBody ?_ | refine pauseRounds ?_)
  clear x2_0 x2_1 x2_2 x2_3 x2_4 x2_5
  refine Pause.mk ?_
  refine ret_span rfl g2 _ _ _ _ _ _ (by first | rfl | exact rfl) BX2.out rfl ?_
  exact ⟨_, rfl, HB4.out, (isSp_zero _)⟩
set_option maxRecDepth 100000 in
set_option maxHeartbeats 3200000 in
theorem norm_2 (va : Value) (sa : Bool) (aa ba : List Nat) (ta : Bool) (ca da : List Nat) (w : World) (ha : SpV w va sa aa ba ta ca da) (la : aa.length ≤ 40000) (lb : ba.length ≤ 40000) (lc : ca.length ≤ 40000) (ld : da.length ≤ 40000) (hv : Vld sa aa ba ∧ Vld ta ca da ∧ rq sa aa ba ≤ rq ta ca da) :
    Calls Tryd.prog 36 #[va] w (RetSp w (rq sa aa ba, rq ta ca da)) := by
  have HBW := Lib.hid (Below.refl w.heap.size w)
  have kz0 : rl 0 ≤ 1 := by rw [rl_zero]; exact Nat.le_refl _
  obtain ⟨qa, oa, na, ka, pa, ma, ra, qax, oax, nax, kax, pax, max, rax, rfl⟩ := ha.shape
  have k1 : rl (rq sa aa ba) ≤ 40000 := rl_rq ha.lt.1.1 ha.lt.1.2 la lb (by decide); have k2 : rl (rq ta ca da) ≤ 40000 := rl_rq ha.lt.2.1 ha.lt.2.2 lc ld (by decide)
  have HV := Lib.hid (decide_eq_true hv); have HV1 := Lib.hid hv.1; have HV2 := Lib.hid hv.2.1; have HV3 := Lib.hid (around2_le hv.2.2); clear hv
  have Fa := Lib.hid ha; clear ha
  have Fal := Lib.hid (spV_ends Fa.out).1; have Fah := Lib.hid (spV_ends Fa.out).2
  obtain ⟨w1, hw1⟩ : ∃ w1, w1 = w.alloc (.cells #[.bool qa, .slice oa na ka, .slice pa ma ra, .bool qax, .slice oax nax kax, .slice pax max rax] 26) := ⟨_, rfl⟩
  have hb1 : Below w.heap.size w w1 := by rw [hw1]; exact (Below.refl _ _).alloc (Nat.le_refl _) _
  have hx1 := heap_alloc_new w (.cells #[.bool qa, .slice oa na ka, .slice pa ma ra, .bool qax, .slice oax nax kax, .slice pax max rax] 26)
  obtain ⟨g1, hg1⟩ : ∃ g, g = w.heap.size := ⟨_, rfl⟩
  rw [← hw1, ← hg1] at hx1
  have lw1 : w.heap.size ≤ g1 := by rw [hg1]; exact HBW.out.size
  have HW1 := Lib.hid hw1; have HG1 := Lib.hid hg1; clear hw1 hg1
  have HB1 := Lib.hid (HBW.out.step hb1)
  have Fa := Lib.hid (Fa.out.below hb1)
  have Fal := Lib.hid (Fal.out.below hb1)
  have Fah := Lib.hid (Fah.out.below hb1)
  have BX1 := Lib.hid hx1; clear hb1 hx1
  obtain ⟨w2, hw2⟩ : ∃ w2, w2 = w1.alloc (.cells #[.bool false, .slice none 0 0, .slice none 0 0, .bool false, .slice none 0 0, .slice none 0 0] 26) := ⟨_, rfl⟩
  have hb2 : Below w1.heap.size w1 w2 := by rw [hw2]; exact (Below.refl _ _).alloc (Nat.le_refl _) _
  have hx2 := heap_alloc_new w1 (.cells #[.bool false, .slice none 0 0, .slice none 0 0, .bool false, .slice none 0 0, .slice none 0 0] 26)
  obtain ⟨g2, hg2⟩ : ∃ g, g = w1.heap.size := ⟨_, rfl⟩
  rw [← hw2, ← hg2] at hx2
  have lw2 : w.heap.size ≤ g2 := by rw [hg2]; exact HB1.out.size
  have ltBX12 : g1 < g2 := by rw [hg2]; exact below_lt BX1.out
  have hs2 : g2 = w.heap.size + 1 := by rw [hg2, HW1.out]; simp
  have HS2 := Lib.hid hs2; clear hs2
  have HW2 := Lib.hid hw2; have HG2 := Lib.hid hg2; clear hw2 hg2
  have HB2 := Lib.hid (HB1.out.step hb2)
  have Fa := Lib.hid (Fa.out.below hb2)
  have Fal := Lib.hid (Fal.out.below hb2)
  have Fah := Lib.hid (Fah.out.below hb2)
  have BX1 := Lib.hid (heap_below BX1.out hb2)
  have BX2 := Lib.hid hx2; clear hb2 hx2
  go_enter Tryd.func36, Tryd.ntmps36
  obtain ⟨x1_0, x1_1, x1_2, x1_3, x1_4, x1_5⟩ := row6 BX1.out
  have hs := svalid_any _ sa aa ba ta ca da w2 Fa.out (by omega) (by omega) (by omega) (by omega)
  rw [HV.out] at hs
  have HS := Lib.hid hs; clear hs
  try rw [HW2.out] at x1_0
  try rw [HG2.out] at x1_0
  try rw [HW1.out] at x1_0
  try rw [HG1.out] at x1_0
  try rw [HW2.out] at x1_1
  try rw [HG2.out] at x1_1
  try rw [HW1.out] at x1_1
  try rw [HG1.out] at x1_1
  try rw [HW2.out] at x1_2
  try rw [HG2.out] at x1_2
  try rw [HW1.out] at x1_2
  try rw [HG1.out] at x1_2
  try rw [HW2.out] at x1_3
  try rw [HG2.out] at x1_3
  try rw [HW1.out] at x1_3
  try rw [HG1.out] at x1_3
  try rw [HW2.out] at x1_4
  try rw [HG2.out] at x1_4
  try rw [HW1.out] at x1_4
  try rw [HG1.out] at x1_4
  try rw [HW2.out] at x1_5
  try rw [HG2.out] at x1_5
  try rw [HW1.out] at x1_5
  try rw [HG1.out] at x1_5
  go_wp2_with (with_reducible first | refine pauseCall ?_ | refine pauseLoop ?_ | refine pauseDraw ?_ | refine pauseBody ?_ | refine pauseRounds ?_)
  try rw [← HW1.out]
  try rw [← HW2.out]
  try rw [← HS2.out]
  try rw [← HG1.out]
  try rw [← HG2.out]
  clear x1_0 x1_1 x1_2 x1_3 x1_4 x1_5
  refine Pause.mk ?_
  (with_reducible refine HS.out.mono ?_); rintro e w3 ⟨rfl, hb3⟩
  clear HS
  have HB3 := Lib.hid (HB2.out.step hb3)
  have Fa := Lib.hid (Fa.out.below hb3)
  have Fal := Lib.hid (Fal.out.below hb3)
  have Fah := Lib.hid (Fah.out.below hb3)
  have BX1 := Lib.hid (heap_below BX1.out hb3)
  have BX2 := Lib.hid (heap_below BX2.out hb3)
  clear hb3
  obtain ⟨x2_0, x2_1, x2_2, x2_3, x2_4, x2_5⟩ := row6 BX1.out
  obtain ⟨x3_0, x3_1, x3_2, x3_3, x3_4, x3_5⟩ := row6 BX1.out
  obtain ⟨w4, hw4⟩ : ∃ w4, w4 = w3.alloc (.cells #[.bool qa, .slice oa na ka, .slice pa ma ra, .bool qax, .slice oax nax kax, .slice pax max rax] 24) := ⟨_, rfl⟩
  have hb4 : Below w3.heap.size w3 w4 := by rw [hw4]; exact (Below.refl _ _).alloc (Nat.le_refl _) _
  have hx4 := heap_alloc_new w3 (.cells #[.bool qa, .slice oa na ka, .slice pa ma ra, .bool qax, .slice oax nax kax, .slice pax max rax] 24)
  obtain ⟨g4, hg4⟩ : ∃ g, g = w3.heap.size := ⟨_, rfl⟩
  rw [← hw4, ← hg4] at hx4
  have lw4 : w.heap.size ≤ g4 := by rw [hg4]; exact HB3.out.size
  have ltBX14 : g1 < g4 := by rw [hg4]; exact below_lt BX1.out
  have ltBX24 : g2 < g4 := by rw [hg4]; exact below_lt BX2.out
  have HW4 := Lib.hid hw4; have HG4 := Lib.hid hg4; clear hw4 hg4
  have HB4 := Lib.hid (HB3.out.step hb4)
  have Fa := Lib.hid (Fa.out.below hb4)
  have Fal := Lib.hid (Fal.out.below hb4)
  have Fah := Lib.hid (Fah.out.below hb4)
  have BX1 := Lib.hid (heap_below BX1.out hb4)
  have BX2 := Lib.hid (heap_below BX2.out hb4)
  have BX4 := Lib.hid hx4; clear hb4 hx4
  obtain ⟨k4, k5⟩ := rl_around2 (rq sa aa ba) (rq ta ca da)
  have hs := of2 w4 BX4.out (Fal.out.is (by omega) (by omega)) (by omega) (Fah.out.is (by omega) (by omega)) (by omega)
  have HS := Lib.hid hs; clear hs
  try rw [HG4.out] at x2_0
  try rw [HG4.out] at x2_1
  try rw [HG4.out] at x2_2
  try rw [HG4.out] at x2_3
  try rw [HG4.out] at x2_4
  try rw [HG4.out] at x2_5
  try rw [HG4.out] at x3_0
  try rw [HG4.out] at x3_1
  try rw [HG4.out] at x3_2
  try rw [HG4.out] at x3_3
  try rw [HG4.out] at x3_4
  try rw [HG4.out] at x3_5
  go_wp2_with (with_reducible first | refine pauseCall ?_ | refine pauseLoop ?_ | refine pauseDraw ?_ | refine pauseBody ?_ | refine pauseRounds ?_)
  try rw [← HW4.out]
  try rw [← HG4.out]
  clear x2_0 x2_1 x2_2 x2_3 x2_4 x2_5 x3_0 x3_1 x3_2 x3_3 x3_4 x3_5
  refine Pause.mk ?_
  (with_reducible refine HS.out.mono ?_); rintro e w5 ⟨v5, rfl, hb5, hn5⟩
  clear HS
  have HB5 := Lib.hid (HB4.out.step hb5)
  have Fa := Lib.hid (Fa.out.below hb5)
  have Fal := Lib.hid (Fal.out.below hb5)
  have Fah := Lib.hid (Fah.out.below hb5)
  have BX1 := Lib.hid (heap_below BX1.out hb5)
  have BX2 := Lib.hid (heap_below BX2.out hb5)
  have BX4 := Lib.hid (heap_below BX4.out hb5)
  clear BX4
  rw [HV3.out] at hn5
  have N5 := Lib.hid hn5; clear hn5
  obtain ⟨s6, o6, n6, c6, a6, m6, d6, s6x, o6x, n6x, c6x, a6x, m6x, d6x, rfl⟩ := N5.out.shape
  have N5l := Lib.hid (show IsR _ _ (rq sa aa ba) from (isSp_ends N5.out).1); have N5h := Lib.hid (show IsR _ _ (rq ta ca da) from (isSp_ends N5.out).2)
  clear hb5
  go_wp2_with (with_reducible refine wpList_pauseS ?_)
  refine wpList_stL g2 0 [.bool s6, .slice o6 n6 c6, .slice a6 m6 d6, .bool s6x, .slice o6x n6x c6x, .slice a6x m6x d6x] BX2.out rfl rfl (Nat.le_of_ble_eq_true rfl) (by kernel_rfl) rfl ?_
  intro w6 hp6
  have Fa := Lib.hid (putL_SV hp6 Fa.out BX2.out noW6)
  have Fal := Lib.hid (putL_V hp6 Fal.out BX2.out noW6)
  have Fah := Lib.hid (putL_V hp6 Fah.out BX2.out noW6)
  have N5 := Lib.hid (putL_SI hp6 N5.out BX2.out noW6)
  have N5l := Lib.hid (putL_I hp6 N5l.out BX2.out noW6)
  have N5h := Lib.hid (putL_I hp6 N5h.out BX2.out noW6)
  have BX1 := Lib.hid (putLx hp6 BX1.out (by omega))
  have nx6 : w6.heap[g2]? = some (.cells #[.bool s6, .slice o6 n6 c6, .slice a6 m6 d6, .bool s6x, .slice o6x n6x c6x, .slice a6x m6x d6x] 26) := by rw [hp6]; exact putL_6 BX2.out
  have BX2 := Lib.hid nx6; clear nx6
  have HB6 := Lib.hid (putLb hp6 HB5.out (by omega))
  clear hp6
  obtain ⟨x7_0, x7_1, x7_2, x7_3, x7_4, x7_5⟩ := row6 BX2.out
  go_wp2_with (with_reducible first | refine pauseCall ?_ | refine pauseLoop ?_ | refine pauseDraw ?_ | refine pauseBody ?_ | refine pauseRounds ?_)
  clear x7_0 x7_1 x7_2 x7_3 x7_4 x7_5
  refine Pause.mk ?_
  refine ret_span rfl g2 _ _ _ _ _ _ (by first | rfl | exact rfl) BX2.out rfl ?_
  exact ⟨_, rfl, HB6.out, N5.out⟩
theorem norm_any (va : Value) (a : Rat × Rat) (w : World) (ha : SpIs w va a) : Calls Tryd.prog 36 #[va] w (RetSp w a) := by
  obtain ⟨s, aa, ba, t, ca, da, h0, rfl, l1, l2, l3, l4⟩ := ha
  by_cases hv : Vld s aa ba ∧ Vld t ca da ∧ rq s aa ba ≤ rq t ca da
  · have h := norm_2 va s aa ba t ca da w h0 l1 l2 l3 l4 hv
    unfold sq; rw [if_pos hv]; exact h
  · unfold sq; rw [if_neg hv]; exact norm_1 va s aa ba t ca da w h0 l1 l2 l3 l4 hv
set_option maxRecDepth 100000 in
set_option maxHeartbeats 3200000 in
theorem point_raw (vx : Value) (x : Rat) (w : World) (hx : RatIs w vx x) (lx : rl x ≤ 40000) :
    Calls Tryd.prog 39 #[vx] w (RetSp w (x, x)) := by
  have HBW := Lib.hid (Below.refl w.heap.size w)
  have kz0 : rl 0 ≤ 1 := by rw [rl_zero]; exact Nat.le_refl _
  obtain ⟨sx, ox, nx, cx, ax, mx, dx, rfl⟩ := hx.shape
  have hlx := hx.rl
  have Fx := Lib.hid hx; clear hx
  obtain ⟨w1, hw1⟩ : ∃ w1, w1 = w.alloc (.cells #[.bool sx, .slice ox nx cx, .slice ax mx dx] 24) := ⟨_, rfl⟩
  have hb1 : Below w.heap.size w w1 := by rw [hw1]; exact (Below.refl _ _).alloc (Nat.le_refl _) _
  have hx1 := heap_alloc_new w (.cells #[.bool sx, .slice ox nx cx, .slice ax mx dx] 24)
  obtain ⟨g1, hg1⟩ : ∃ g, g = w.heap.size := ⟨_, rfl⟩
  rw [← hw1, ← hg1] at hx1
  have lw1 : w.heap.size ≤ g1 := by rw [hg1]; exact HBW.out.size
  have HW1 := Lib.hid hw1; have HG1 := Lib.hid hg1; clear hw1 hg1
  have HB1 := Lib.hid (HBW.out.step hb1)
  have Fx := Lib.hid (Fx.out.below hb1)
  have BX1 := Lib.hid hx1; clear hb1 hx1
  obtain ⟨w2, hw2⟩ : ∃ w2, w2 = w1.alloc (.cells #[.bool false, .slice none 0 0, .slice none 0 0, .bool false, .slice none 0 0, .slice none 0 0] 26) := ⟨_, rfl⟩
  have hb2 : Below w1.heap.size w1 w2 := by rw [hw2]; exact (Below.refl _ _).alloc (Nat.le_refl _) _
  have hx2 := heap_alloc_new w1 (.cells #[.bool false, .slice none 0 0, .slice none 0 0, .bool false, .slice none 0 0, .slice none 0 0] 26)
  obtain ⟨g2, hg2⟩ : ∃ g, g = w1.heap.size := ⟨_, rfl⟩
  rw [← hw2, ← hg2] at hx2
  have lw2 : w.heap.size ≤ g2 := by rw [hg2]; exact HB1.out.size
  have ltBX12 : g1 < g2 := by rw [hg2]; exact below_lt BX1.out
  have hs2 : g2 = w.heap.size + 1 := by rw [hg2, HW1.out]; simp
  have HS2 := Lib.hid hs2; clear hs2
  have HW2 := Lib.hid hw2; have HG2 := Lib.hid hg2; clear hw2 hg2
  have HB2 := Lib.hid (HB1.out.step hb2)
  have Fx := Lib.hid (Fx.out.below hb2)
  have BX1 := Lib.hid (heap_below BX1.out hb2)
  have BX2 := Lib.hid hx2; clear hb2 hx2
  go_enter Tryd.func39, Tryd.ntmps39
  obtain ⟨x1_0, x1_1, x1_2⟩ := row3 BX1.out
  obtain ⟨w3, hw3⟩ : ∃ w3, w3 = w2.alloc (.cells #[.bool sx, .slice ox nx cx, .slice ax mx dx] 24) := ⟨_, rfl⟩
  have hb3 : Below w2.heap.size w2 w3 := by rw [hw3]; exact (Below.refl _ _).alloc (Nat.le_refl _) _
  have hx3 := heap_alloc_new w2 (.cells #[.bool sx, .slice ox nx cx, .slice ax mx dx] 24)
  obtain ⟨g3, hg3⟩ : ∃ g, g = w2.heap.size := ⟨_, rfl⟩
  rw [← hw3, ← hg3] at hx3
  have lw3 : w.heap.size ≤ g3 := by rw [hg3]; exact HB2.out.size
  have ltBX13 : g1 < g3 := by rw [hg3]; exact below_lt BX1.out
  have ltBX23 : g2 < g3 := by rw [hg3]; exact below_lt BX2.out
  have hs3 : g3 = w.heap.size + 2 := by rw [hg3, HW2.out, HW1.out]; simp
  have HS3 := Lib.hid hs3; clear hs3
  have HW3 := Lib.hid hw3; have HG3 := Lib.hid hg3; clear hw3 hg3
  have HB3 := Lib.hid (HB2.out.step hb3)
  have Fx := Lib.hid (Fx.out.below hb3)
  have BX1 := Lib.hid (heap_below BX1.out hb3)
  have BX2 := Lib.hid (heap_below BX2.out hb3)
  have BX3 := Lib.hid hx3; clear hb3 hx3
  have hs := of1 w3 BX3.out Fx.out (by omega)
  have HS := Lib.hid hs; clear hs
  try rw [HG3.out] at x1_0
  try rw [HW2.out] at x1_0
  try rw [HG2.out] at x1_0
  try rw [HW1.out] at x1_0
  try rw [HG1.out] at x1_0
  try rw [HG3.out] at x1_1
  try rw [HW2.out] at x1_1
  try rw [HG2.out] at x1_1
  try rw [HW1.out] at x1_1
  try rw [HG1.out] at x1_1
  try rw [HG3.out] at x1_2
  try rw [HW2.out] at x1_2
  try rw [HG2.out] at x1_2
  try rw [HW1.out] at x1_2
  try rw [HG1.out] at x1_2
  go_wp2_with (with_reducible first | refine pauseCall ?_ | refine pauseLoop ?_ | refine pauseDraw ?_ | refine pauseBody ?_ | refine pauseRounds ?_)
  try rw [← HW1.out]
  try rw [← HW2.out]
  try rw [← HW3.out]
  try rw [← HS3.out]
  try rw [← HS2.out]
  try rw [← HG1.out]
  try rw [← HG2.out]
  try rw [← HG3.out]
  clear x1_0 x1_1 x1_2
  refine Pause.mk ?_
  (with_reducible refine HS.out.mono ?_); rintro e w4 ⟨v4, rfl, hb4, hn4⟩
  clear HS
  have HB4 := Lib.hid (HB3.out.step hb4)
  have Fx := Lib.hid (Fx.out.below hb4)
  have BX1 := Lib.hid (heap_below BX1.out hb4)
  have BX2 := Lib.hid (heap_below BX2.out hb4)
  have BX3 := Lib.hid (heap_below BX3.out hb4)
  clear BX3
  have N4 := Lib.hid hn4; clear hn4
  obtain ⟨s2, o2, n2, c2, a2, m2, d2, s2x, o2x, n2x, c2x, a2x, m2x, d2x, rfl⟩ := N4.out.shape
  have N4l := Lib.hid (show IsR _ _ (x) from (isSp_ends N4.out).1); have N4h := Lib.hid (show IsR _ _ (x) from (isSp_ends N4.out).2)
  clear hb4
  go_wp2_with (with_reducible refine wpList_pauseS ?_)
  refine wpList_stL g2 0 [.bool s2, .slice o2 n2 c2, .slice a2 m2 d2, .bool s2x, .slice o2x n2x c2x, .slice a2x m2x d2x] BX2.out rfl rfl (Nat.le_of_ble_eq_true rfl) (by kernel_rfl) rfl ?_
  intro w5 hp5
  have Fx := Lib.hid (putL_R hp5 Fx.out BX2.out noW6)
  have N4 := Lib.hid (putL_SI hp5 N4.out BX2.out noW6)
  have N4l := Lib.hid (putL_I hp5 N4l.out BX2.out noW6)
  have N4h := Lib.hid (putL_I hp5 N4h.out BX2.out noW6)
  have BX1 := Lib.hid (putLx hp5 BX1.out (by omega))
  have nx5 : w5.heap[g2]? = some (.cells #[.bool s2, .slice o2 n2 c2, .slice a2 m2 d2, .bool s2x, .slice o2x n2x c2x, .slice a2x m2x d2x] 26) := by rw [hp5]; exact putL_6 BX2.out
  have BX2 := Lib.hid nx5; clear nx5
  have HB5 := Lib.hid (putLb hp5 HB4.out (by omega))
  clear hp5
  obtain ⟨x3_0, x3_1, x3_2, x3_3, x3_4, x3_5⟩ := row6 BX2.out
  go_wp2_with (with_reducible first | refine pauseCall ?_ | refine pauseLoop ?_ | refine pauseDraw ?_ | refine pauseBody ?_ | refine pauseRounds ?_)
  clear x3_0 x3_1 x3_2 x3_3 x3_4 x3_5
  refine Pause.mk ?_
  refine ret_span rfl g2 _ _ _ _ _ _ (by first | rfl | exact rfl) BX2.out rfl ?_
  exact ⟨_, rfl, HB5.out, N4.out⟩
theorem point_any (vx : Value) (x : Rat) (w : World) (hx : RatIs w vx x) (lx : rl x ≤ 40000) : Calls Tryd.prog 39 #[vx] w (RetSp w (x, x)) := point_raw vx x w hx lx
set_option maxRecDepth 100000 in
set_option maxHeartbeats 3200000 in
theorem smake_1 (vp : Value) (p : Rat) (vu : Value) (u : Rat) (w : World) (hp : RatIs w vp p) (hu : RatIs w vu u) (lp : rl p ≤ 39000) (lu : rl u ≤ 39000) (h : u < p) :
    Calls Tryd.prog 30 #[vp, vu] w (RetSpE w (0, 0) (errV 3)) := by
  have HBW := Lib.hid (Below.refl w.heap.size w)
  have kz0 : rl 0 ≤ 1 := by rw [rl_zero]; exact Nat.le_refl _
  obtain ⟨sp, op, np, cp, ap, mp, dp, rfl⟩ := hp.shape
  have hlp := hp.rl
  obtain ⟨su, ou, nu, cu, au, mu, du, rfl⟩ := hu.shape
  have hlu := hu.rl
  rw [errV_pos (by decide)]
  obtain ⟨n, hn⟩ : ∃ n, n = cq (p) (u) := ⟨_, rfl⟩
  have f1 : decide (0 < n) = true := by rw [hn]; exact decide_eq_true ((cq_gt p u).2 h)
  have HN := Lib.hid hn; clear hn h
  have Fp := Lib.hid hp; clear hp
  have Fu := Lib.hid hu; clear hu
  obtain ⟨w1, hw1⟩ : ∃ w1, w1 = w.alloc (.cells #[.bool sp, .slice op np cp, .slice ap mp dp] 24) := ⟨_, rfl⟩
  have hb1 : Below w.heap.size w w1 := by rw [hw1]; exact (Below.refl _ _).alloc (Nat.le_refl _) _
  have hx1 := heap_alloc_new w (.cells #[.bool sp, .slice op np cp, .slice ap mp dp] 24)
  obtain ⟨g1, hg1⟩ : ∃ g, g = w.heap.size := ⟨_, rfl⟩
  rw [← hw1, ← hg1] at hx1
  have lw1 : w.heap.size ≤ g1 := by rw [hg1]; exact HBW.out.size
  have HW1 := Lib.hid hw1; have HG1 := Lib.hid hg1; clear hw1 hg1
  have HB1 := Lib.hid (HBW.out.step hb1)
  have Fp := Lib.hid (Fp.out.below hb1)
  have Fu := Lib.hid (Fu.out.below hb1)
  have BX1 := Lib.hid hx1; clear hb1 hx1
  obtain ⟨w2, hw2⟩ : ∃ w2, w2 = w1.alloc (.cells #[.bool su, .slice ou nu cu, .slice au mu du] 24) := ⟨_, rfl⟩
  have hb2 : Below w1.heap.size w1 w2 := by rw [hw2]; exact (Below.refl _ _).alloc (Nat.le_refl _) _
  have hx2 := heap_alloc_new w1 (.cells #[.bool su, .slice ou nu cu, .slice au mu du] 24)
  obtain ⟨g2, hg2⟩ : ∃ g, g = w1.heap.size := ⟨_, rfl⟩
  rw [← hw2, ← hg2] at hx2
  have lw2 : w.heap.size ≤ g2 := by rw [hg2]; exact HB1.out.size
  have ltBX12 : g1 < g2 := by rw [hg2]; exact below_lt BX1.out
  have hs2 : g2 = w.heap.size + 1 := by rw [hg2, HW1.out]; simp
  have HS2 := Lib.hid hs2; clear hs2
  have HW2 := Lib.hid hw2; have HG2 := Lib.hid hg2; clear hw2 hg2
  have HB2 := Lib.hid (HB1.out.step hb2)
  have Fp := Lib.hid (Fp.out.below hb2)
  have Fu := Lib.hid (Fu.out.below hb2)
  have BX1 := Lib.hid (heap_below BX1.out hb2)
  have BX2 := Lib.hid hx2; clear hb2 hx2
  obtain ⟨w3, hw3⟩ : ∃ w3, w3 = w2.alloc (.cells #[.bool false, .slice none 0 0, .slice none 0 0, .bool false, .slice none 0 0, .slice none 0 0] 26) := ⟨_, rfl⟩
  have hb3 : Below w2.heap.size w2 w3 := by rw [hw3]; exact (Below.refl _ _).alloc (Nat.le_refl _) _
  have hx3 := heap_alloc_new w2 (.cells #[.bool false, .slice none 0 0, .slice none 0 0, .bool false, .slice none 0 0, .slice none 0 0] 26)
  obtain ⟨g3, hg3⟩ : ∃ g, g = w2.heap.size := ⟨_, rfl⟩
  rw [← hw3, ← hg3] at hx3
  have lw3 : w.heap.size ≤ g3 := by rw [hg3]; exact HB2.out.size
  have ltBX13 : g1 < g3 := by rw [hg3]; exact below_lt BX1.out
  have ltBX23 : g2 < g3 := by rw [hg3]; exact below_lt BX2.out
  have hs3 : g3 = w.heap.size + 2 := by rw [hg3, HW2.out, HW1.out]; simp
  have HS3 := Lib.hid hs3; clear hs3
  have HW3 := Lib.hid hw3; have HG3 := Lib.hid hg3; clear hw3 hg3
  have HB3 := Lib.hid (HB2.out.step hb3)
  have Fp := Lib.hid (Fp.out.below hb3)
  have Fu := Lib.hid (Fu.out.below hb3)
  have BX1 := Lib.hid (heap_below BX1.out hb3)
  have BX2 := Lib.hid (heap_below BX2.out hb3)
  have BX3 := Lib.hid hx3; clear hb3 hx3
  go_enter Tryd.func30, Tryd.ntmps30
  obtain ⟨x1_0, x1_1, x1_2⟩ := row3 BX1.out
  obtain ⟨x2_0, x2_1, x2_2⟩ := row3 BX2.out
  have hs := cmpq_any _ (p) _ (u) w3 Fp.out Fu.out (by omega) (by omega)
  rw [← HN.out] at hs
  have HS := Lib.hid hs; clear hs
  try rw [HW3.out] at x1_0
  try rw [HG3.out] at x1_0
  try rw [HW2.out] at x1_0
  try rw [HG2.out] at x1_0
  try rw [HW1.out] at x1_0
  try rw [HG1.out] at x1_0
  try rw [HW3.out] at x1_1
  try rw [HG3.out] at x1_1
  try rw [HW2.out] at x1_1
  try rw [HG2.out] at x1_1
  try rw [HW1.out] at x1_1
  try rw [HG1.out] at x1_1
  try rw [HW3.out] at x1_2
  try rw [HG3.out] at x1_2
  try rw [HW2.out] at x1_2
  try rw [HG2.out] at x1_2
  try rw [HW1.out] at x1_2
  try rw [HG1.out] at x1_2
  try rw [HW3.out] at x2_0
  try rw [HG3.out] at x2_0
  try rw [HW2.out] at x2_0
  try rw [HG2.out] at x2_0
  try rw [HW1.out] at x2_0
  try rw [HG1.out] at x2_0
  try rw [HW3.out] at x2_1
  try rw [HG3.out] at x2_1
  try rw [HW2.out] at x2_1
  try rw [HG2.out] at x2_1
  try rw [HW1.out] at x2_1
  try rw [HG1.out] at x2_1
  try rw [HW3.out] at x2_2
  try rw [HG3.out] at x2_2
  try rw [HW2.out] at x2_2
  try rw [HG2.out] at x2_2
  try rw [HW1.out] at x2_2
  try rw [HG1.out] at x2_2
  go_wp2_with (with_reducible first | refine pauseCall ?_ | refine pauseLoop ?_ | refine pauseDraw ?_ | refine pauseBody ?_ | refine pauseRounds ?_)
  try rw [← HW1.out]
  try rw [← HW2.out]
  try rw [← HW3.out]
  try rw [← HS3.out]
  try rw [← HS2.out]
  try rw [← HG1.out]
  try rw [← HG2.out]
  try rw [← HG3.out]
  clear x1_0 x1_1 x1_2 x2_0 x2_1 x2_2
  refine Pause.mk ?_
  (with_reducible refine HS.out.mono ?_); rintro e w4 ⟨rfl, hb4⟩
  clear HS
  have HB4 := Lib.hid (HB3.out.step hb4)
  have Fp := Lib.hid (Fp.out.below hb4)
  have Fu := Lib.hid (Fu.out.below hb4)
  have BX1 := Lib.hid (heap_below BX1.out hb4)
  have BX2 := Lib.hid (heap_below BX2.out hb4)
  have BX3 := Lib.hid (heap_below BX3.out hb4)
  clear hb4
  go_wp2_with (with_reducible refine wpList_pauseS ?_)
  refine wpList_stL g3 0 [.bool false, .slice none 0 0, .slice none 0 0, .bool false, .slice none 0 0, .slice none 0 0] BX3.out rfl rfl (Nat.le_of_ble_eq_true rfl) (by kernel_rfl) rfl ?_
  intro w5 hp5
  have Fp := Lib.hid (putL_R hp5 Fp.out BX3.out noW6)
  have Fu := Lib.hid (putL_R hp5 Fu.out BX3.out noW6)
  have BX1 := Lib.hid (putLx hp5 BX1.out (by omega))
  have BX2 := Lib.hid (putLx hp5 BX2.out (by omega))
  have nx5 : w5.heap[g3]? = some (.cells #[.bool false, .slice none 0 0, .slice none 0 0, .bool false, .slice none 0 0, .slice none 0 0] 26) := by rw [hp5]; exact putL_6 BX3.out
  have BX3 := Lib.hid nx5; clear nx5
  have HB5 := Lib.hid (putLb hp5 HB4.out (by omega))
  clear hp5
  obtain ⟨x3_0, x3_1, x3_2, x3_3, x3_4, x3_5⟩ := row6 BX3.out
  go_wp2_with (with_reducible first | refine pauseCall ?_ | refine pauseLoop ?_ | refine pauseDraw ?_ | refine pauseBody ?_ | refine pauseRounds ?_)
  clear x3_0 x3_1 x3_2 x3_3 x3_4 x3_5
  refine Pause.mk ?_
  refine ret_span2 rfl g3 _ _ _ _ _ _ (by first | rfl | exact rfl) BX3.out rfl ?_
  exact ⟨_, rfl, HB5.out, (isSp_zero _)⟩
set_option maxRecDepth 100000 in
set_option maxHeartbeats 3200000 in
theorem smake_2 (vp : Value) (p : Rat) (vu : Value) (u : Rat) (w : World) (hp : RatIs w vp p) (hu : RatIs w vu u) (lp : rl p ≤ 39000) (lu : rl u ≤ 39000) (h : p ≤ u) :
    Calls Tryd.prog 30 #[vp, vu] w (RetSpE w (around2 (p) (u)) (errV 0)) := by
  have HBW := Lib.hid (Below.refl w.heap.size w)
  have kz0 : rl 0 ≤ 1 := by rw [rl_zero]; exact Nat.le_refl _
  obtain ⟨sp, op, np, cp, ap, mp, dp, rfl⟩ := hp.shape
  have hlp := hp.rl
  obtain ⟨su, ou, nu, cu, au, mu, du, rfl⟩ := hu.shape
  have hlu := hu.rl
  rw [errV_zero]
  obtain ⟨n, hn⟩ : ∃ n, n = cq (p) (u) := ⟨_, rfl⟩
  have f1 : decide (0 < n) = false := by rw [hn]; exact decide_eq_false (fun k => by have := (cq_gt p u).1 k; grind)
  have HN := Lib.hid hn; clear hn h
  have Fp := Lib.hid hp; clear hp
  have Fu := Lib.hid hu; clear hu
  obtain ⟨w1, hw1⟩ : ∃ w1, w1 = w.alloc (.cells #[.bool sp, .slice op np cp, .slice ap mp dp] 24) := ⟨_, rfl⟩
  have hb1 : Below w.heap.size w w1 := by rw [hw1]; exact (Below.refl _ _).alloc (Nat.le_refl _) _
  have hx1 := heap_alloc_new w (.cells #[.bool sp, .slice op np cp, .slice ap mp dp] 24)
  obtain ⟨g1, hg1⟩ : ∃ g, g = w.heap.size := ⟨_, rfl⟩
  rw [← hw1, ← hg1] at hx1
  have lw1 : w.heap.size ≤ g1 := by rw [hg1]; exact HBW.out.size
  have HW1 := Lib.hid hw1; have HG1 := Lib.hid hg1; clear hw1 hg1
  have HB1 := Lib.hid (HBW.out.step hb1)
  have Fp := Lib.hid (Fp.out.below hb1)
  have Fu := Lib.hid (Fu.out.below hb1)
  have BX1 := Lib.hid hx1; clear hb1 hx1
  obtain ⟨w2, hw2⟩ : ∃ w2, w2 = w1.alloc (.cells #[.bool su, .slice ou nu cu, .slice au mu du] 24) := ⟨_, rfl⟩
  have hb2 : Below w1.heap.size w1 w2 := by rw [hw2]; exact (Below.refl _ _).alloc (Nat.le_refl _) _
  have hx2 := heap_alloc_new w1 (.cells #[.bool su, .slice ou nu cu, .slice au mu du] 24)
  obtain ⟨g2, hg2⟩ : ∃ g, g = w1.heap.size := ⟨_, rfl⟩
  rw [← hw2, ← hg2] at hx2
  have lw2 : w.heap.size ≤ g2 := by rw [hg2]; exact HB1.out.size
  have ltBX12 : g1 < g2 := by rw [hg2]; exact below_lt BX1.out
  have hs2 : g2 = w.heap.size + 1 := by rw [hg2, HW1.out]; simp
  have HS2 := Lib.hid hs2; clear hs2
  have HW2 := Lib.hid hw2; have HG2 := Lib.hid hg2; clear hw2 hg2
  have HB2 := Lib.hid (HB1.out.step hb2)
  have Fp := Lib.hid (Fp.out.below hb2)
  have Fu := Lib.hid (Fu.out.below hb2)
  have BX1 := Lib.hid (heap_below BX1.out hb2)
  have BX2 := Lib.hid hx2; clear hb2 hx2
  obtain ⟨w3, hw3⟩ : ∃ w3, w3 = w2.alloc (.cells #[.bool false, .slice none 0 0, .slice none 0 0, .bool false, .slice none 0 0, .slice none 0 0] 26) := ⟨_, rfl⟩
  have hb3 : Below w2.heap.size w2 w3 := by rw [hw3]; exact (Below.refl _ _).alloc (Nat.le_refl _) _
  have hx3 := heap_alloc_new w2 (.cells #[.bool false, .slice none 0 0, .slice none 0 0, .bool false, .slice none 0 0, .slice none 0 0] 26)
  obtain ⟨g3, hg3⟩ : ∃ g, g = w2.heap.size := ⟨_, rfl⟩
  rw [← hw3, ← hg3] at hx3
  have lw3 : w.heap.size ≤ g3 := by rw [hg3]; exact HB2.out.size
  have ltBX13 : g1 < g3 := by rw [hg3]; exact below_lt BX1.out
  have ltBX23 : g2 < g3 := by rw [hg3]; exact below_lt BX2.out
  have hs3 : g3 = w.heap.size + 2 := by rw [hg3, HW2.out, HW1.out]; simp
  have HS3 := Lib.hid hs3; clear hs3
  have HW3 := Lib.hid hw3; have HG3 := Lib.hid hg3; clear hw3 hg3
  have HB3 := Lib.hid (HB2.out.step hb3)
  have Fp := Lib.hid (Fp.out.below hb3)
  have Fu := Lib.hid (Fu.out.below hb3)
  have BX1 := Lib.hid (heap_below BX1.out hb3)
  have BX2 := Lib.hid (heap_below BX2.out hb3)
  have BX3 := Lib.hid hx3; clear hb3 hx3
  go_enter Tryd.func30, Tryd.ntmps30
  obtain ⟨x1_0, x1_1, x1_2⟩ := row3 BX1.out
  obtain ⟨x2_0, x2_1, x2_2⟩ := row3 BX2.out
  have hs := cmpq_any _ (p) _ (u) w3 Fp.out Fu.out (by omega) (by omega)
  rw [← HN.out] at hs
  have HS := Lib.hid hs; clear hs
  try rw [HW3.out] at x1_0
  try rw [HG3.out] at x1_0
  try rw [HW2.out] at x1_0
  try rw [HG2.out] at x1_0
  try rw [HW1.out] at x1_0
  try rw [HG1.out] at x1_0
  try rw [HW3.out] at x1_1
  try rw [HG3.out] at x1_1
  try rw [HW2.out] at x1_1
  try rw [HG2.out] at x1_1
  try rw [HW1.out] at x1_1
  try rw [HG1.out] at x1_1
  try rw [HW3.out] at x1_2
  try rw [HG3.out] at x1_2
  try rw [HW2.out] at x1_2
  try rw [HG2.out] at x1_2
  try rw [HW1.out] at x1_2
  try rw [HG1.out] at x1_2
  try rw [HW3.out] at x2_0
  try rw [HG3.out] at x2_0
  try rw [HW2.out] at x2_0
  try rw [HG2.out] at x2_0
  try rw [HW1.out] at x2_0
  try rw [HG1.out] at x2_0
  try rw [HW3.out] at x2_1
  try rw [HG3.out] at x2_1
  try rw [HW2.out] at x2_1
  try rw [HG2.out] at x2_1
  try rw [HW1.out] at x2_1
  try rw [HG1.out] at x2_1
  try rw [HW3.out] at x2_2
  try rw [HG3.out] at x2_2
  try rw [HW2.out] at x2_2
  try rw [HG2.out] at x2_2
  try rw [HW1.out] at x2_2
  try rw [HG1.out] at x2_2
  go_wp2_with (with_reducible first | refine pauseCall ?_ | refine pauseLoop ?_ | refine pauseDraw ?_ | refine pauseBody ?_ | refine pauseRounds ?_)
  try rw [← HW1.out]
  try rw [← HW2.out]
  try rw [← HW3.out]
  try rw [← HS3.out]
  try rw [← HS2.out]
  try rw [← HG1.out]
  try rw [← HG2.out]
  try rw [← HG3.out]
  clear x1_0 x1_1 x1_2 x2_0 x2_1 x2_2
  refine Pause.mk ?_
  (with_reducible refine HS.out.mono ?_); rintro e w4 ⟨rfl, hb4⟩
  clear HS
  have HB4 := Lib.hid (HB3.out.step hb4)
  have Fp := Lib.hid (Fp.out.below hb4)
  have Fu := Lib.hid (Fu.out.below hb4)
  have BX1 := Lib.hid (heap_below BX1.out hb4)
  have BX2 := Lib.hid (heap_below BX2.out hb4)
  have BX3 := Lib.hid (heap_below BX3.out hb4)
  clear hb4
  obtain ⟨x3_0, x3_1, x3_2⟩ := row3 BX1.out
  obtain ⟨x4_0, x4_1, x4_2⟩ := row3 BX2.out
  obtain ⟨w5, hw5⟩ : ∃ w5, w5 = w4.alloc (.cells #[.bool sp, .slice op np cp, .slice ap mp dp, .bool su, .slice ou nu cu, .slice au mu du] 24) := ⟨_, rfl⟩
  have hb5 : Below w4.heap.size w4 w5 := by rw [hw5]; exact (Below.refl _ _).alloc (Nat.le_refl _) _
  have hx5 := heap_alloc_new w4 (.cells #[.bool sp, .slice op np cp, .slice ap mp dp, .bool su, .slice ou nu cu, .slice au mu du] 24)
  obtain ⟨g5, hg5⟩ : ∃ g, g = w4.heap.size := ⟨_, rfl⟩
  rw [← hw5, ← hg5] at hx5
  have lw5 : w.heap.size ≤ g5 := by rw [hg5]; exact HB4.out.size
  have ltBX15 : g1 < g5 := by rw [hg5]; exact below_lt BX1.out
  have ltBX25 : g2 < g5 := by rw [hg5]; exact below_lt BX2.out
  have ltBX35 : g3 < g5 := by rw [hg5]; exact below_lt BX3.out
  have HW5 := Lib.hid hw5; have HG5 := Lib.hid hg5; clear hw5 hg5
  have HB5 := Lib.hid (HB4.out.step hb5)
  have Fp := Lib.hid (Fp.out.below hb5)
  have Fu := Lib.hid (Fu.out.below hb5)
  have BX1 := Lib.hid (heap_below BX1.out hb5)
  have BX2 := Lib.hid (heap_below BX2.out hb5)
  have BX3 := Lib.hid (heap_below BX3.out hb5)
  have BX5 := Lib.hid hx5; clear hb5 hx5
  obtain ⟨k5, k6⟩ := rl_around2 (p) (u)
  have hs := of2 w5 BX5.out Fp.out (by omega) Fu.out (by omega)
  have HS := Lib.hid hs; clear hs
  try rw [HG5.out] at x3_0
  try rw [HG5.out] at x3_1
  try rw [HG5.out] at x3_2
  try rw [HG5.out] at x4_0
  try rw [HG5.out] at x4_1
  try rw [HG5.out] at x4_2
  go_wp2_with (with_reducible first | refine pauseCall ?_ | refine pauseLoop ?_ | refine pauseDraw ?_ | refine pauseBody ?_ | refine pauseRounds ?_)
  try rw [← HW5.out]
  try rw [← HG5.out]
  clear x3_0 x3_1 x3_2 x4_0 x4_1 x4_2
  refine Pause.mk ?_
  (with_reducible refine HS.out.mono ?_); rintro e w6 ⟨v6, rfl, hb6, hn6⟩
  clear HS
  have HB6 := Lib.hid (HB5.out.step hb6)
  have Fp := Lib.hid (Fp.out.below hb6)
  have Fu := Lib.hid (Fu.out.below hb6)
  have BX1 := Lib.hid (heap_below BX1.out hb6)
  have BX2 := Lib.hid (heap_below BX2.out hb6)
  have BX3 := Lib.hid (heap_below BX3.out hb6)
  have BX5 := Lib.hid (heap_below BX5.out hb6)
  clear BX5
  have N6 := Lib.hid hn6; clear hn6
  obtain ⟨s7, o7, n7, c7, a7, m7, d7, s7x, o7x, n7x, c7x, a7x, m7x, d7x, rfl⟩ := N6.out.shape
  have N6l := Lib.hid (isSp_ends N6.out).1; have N6h := Lib.hid (isSp_ends N6.out).2
  clear hb6
  go_wp2_with (with_reducible refine wpList_pauseS ?_)
  refine wpList_stL g3 0 [.bool s7, .slice o7 n7 c7, .slice a7 m7 d7, .bool s7x, .slice o7x n7x c7x, .slice a7x m7x d7x] BX3.out rfl rfl (Nat.le_of_ble_eq_true rfl) (by kernel_rfl) rfl ?_
  intro w7 hp7
  have Fp := Lib.hid (putL_R hp7 Fp.out BX3.out noW6)
  have Fu := Lib.hid (putL_R hp7 Fu.out BX3.out noW6)
  have N6 := Lib.hid (putL_SI hp7 N6.out BX3.out noW6)
  have N6l := Lib.hid (putL_I hp7 N6l.out BX3.out noW6)
  have N6h := Lib.hid (putL_I hp7 N6h.out BX3.out noW6)
  have BX1 := Lib.hid (putLx hp7 BX1.out (by omega))
  have BX2 := Lib.hid (putLx hp7 BX2.out (by omega))
  have nx7 : w7.heap[g3]? = some (.cells #[.bool s7, .slice o7 n7 c7, .slice a7 m7 d7, .bool s7x, .slice o7x n7x c7x, .slice a7x m7x d7x] 26) := by rw [hp7]; exact putL_6 BX3.out
  have BX3 := Lib.hid nx7; clear nx7
  have HB7 := Lib.hid (putLb hp7 HB6.out (by omega))
  clear hp7
  obtain ⟨x8_0, x8_1, x8_2, x8_3, x8_4, x8_5⟩ := row6 BX3.out
  go_wp2_with (with_reducible first | refine pauseCall ?_ | refine pauseLoop ?_ | refine pauseDraw ?_ | refine pauseBody ?_ | refine pauseRounds ?_)
  clear x8_0 x8_1 x8_2 x8_3 x8_4 x8_5
  refine Pause.mk ?_
  refine ret_span2 rfl g3 _ _ _ _ _ _ (by first | rfl | exact rfl) BX3.out rfl ?_
  exact ⟨_, rfl, HB7.out, N6.out⟩
theorem smake_any (vp : Value) (p : Rat) (vu : Value) (u : Rat) (w : World) (hp : RatIs w vp p) (hu : RatIs w vu u) (lp : rl p ≤ 39000) (lu : rl u ≤ 39000) :
    Calls Tryd.prog 30 #[vp, vu] w (RetSpE w (smV p u) (errV (smC p u))) := by
  unfold smV smC
  by_cases h : p ≤ u
  · rw [if_pos h, if_pos h]
    have k := smake_2 vp p vu u w hp hu lp lu h
    rw [around2_le h] at k; exact k
  · rw [if_neg h, if_neg h]; exact smake_1 vp p vu u w hp hu lp lu (by grind)
end Go.Proofs.YtaefimegiobkmaaDoor
/-
  Decimal texts there and back.
  Conditions: none.
-/
namespace Go.Proofs.YtaefimegiobkmaaDoor

/-- the decimal text of a number, as a list -/
def decL (n : Nat) : List UInt8 := if n = 0 then [48] else (digD n).reverse
theorem decB_decL (n : Nat) : decB n = ⟨(decL n).toArray⟩ := by
  unfold decB decL; split <;> rfl
theorem decL_len {n k : Nat} (h : n < 10 ^ k) (hk : 0 < k) : (decL n).length ≤ k := by
  unfold decL; split
  · exact hk
  · rw [List.length_reverse]; exact digD_len h
/-- the length of the text of a number of few words -/
theorem decL_words {n k : Nat} (h : (wd n).length ≤ k) (hk : 0 < k) : (decL n).length ≤ 10 * k := by
  refine decL_len (Nat.lt_of_lt_of_le (m := 4294967296 ^ k) ?_ (pow_ten k)) (by omega)
  have h1 := val_lt (u32_wd n)
  rw [val_wd] at h1
  exact Nat.lt_of_lt_of_le h1 (Nat.pow_le_pow_right (by decide) h)
end Go.Proofs.YtaefimegiobkmaaDoor
/-
  Small functions of the statements: words that are equal, numbers that are too long, errors by their numbers, the document's examples.
  Conditions: each theorem's own.
-/
namespace Go.Proofs.YtaefimegiobkmaaDoor
open Go.RowKit Go.ChangeShapes Go.WideShapes

theorem assert_yes (c : Int) (w : World) : (Instr.typeAssert (.iface 41 (.int .i64 c)) 37 41 true).run Tryd.prog w = .ok (.tuple #[.int .i64 c, .bool true]) w := by kernel_rfl
theorem assert_no (w : World) : (Instr.typeAssert .nilIface 37 41 true).run Tryd.prog w = .ok (.tuple #[.int .i64 0, .bool false]) w := by kernel_rfl
theorem is_eq (c k : Nat) : (((c : Int) == (k : Int)) : Bool) = decide (c = k) := by rw [Bool.eq_iff_iff]; simp; omega
set_option maxRecDepth 100000 in
theorem is_any (c : Nat) (kk : Int) (k : Nat) (w : World) (hk : kk = k) (hk0 : k ≠ 0) : Calls Tryd.prog 21 #[errV c, .int .i64 kk] w (RetS w (.bool (decide (c = k)))) := by
  have HK := Lib.hid hk; clear hk
  by_cases h0 : c = 0
  · subst h0
    have ha := assert_no
    rw [errV_zero]
    go_enter Tryd.func21, Tryd.ntmps21
    go_wp2
    go_ret
    exact ⟨ret_bool (by rw [eq_comm]; simp; omega), rfl⟩
  · have ha := assert_yes c
    rw [errV_pos h0]
    go_enter Tryd.func21, Tryd.ntmps21
    go_wp2
    go_ret
    exact ⟨ret_bool (by rw [HK.out, is_eq]), rfl⟩

set_option maxRecDepth 100000 in
set_option maxHeartbeats 1600000 in
theorem words_any (va vb : Value) (a b : List Nat) (w : World) (ha : Num w va a) (hb : Num w vb b) (hla : a.length ≤ 1000000) :
    Calls Tryd.prog 57 #[va, vb] w (RetV w (.bool (decide (a = b)))) := by
  obtain ⟨ao, ca, rfl, hca, hca2, _⟩ := ha.shape
  obtain ⟨bo, cb, rfl, hcb, hcb2, _⟩ := hb.shape
  by_cases hlen : a.length = b.length
  · obtain ⟨n, hn⟩ : ∃ n, n = a.length := ⟨_, rfl⟩
    have hnb : n = b.length := by omega
    rw [← hn] at hca hla ⊢
    rw [← hnb] at hcb ⊢
    rw [← hn] at ha
    rw [← hnb] at hb
    have HA := Lib.hid ha; have HB := Lib.hid hb; have HN := Lib.hid hn; have HNB := Lib.hid hnb
    clear ha hb hn hnb hlen
    obtain ⟨r, hr⟩ : ∃ r, r = decide (a = b) := ⟨_, rfl⟩
    rw [← hr]
    have HR := Lib.hid hr; clear hr
    go_enter Tryd.func57, Tryd.ntmps57
    go_wp2_with fail
    go_loopw [13] (fun iv wr => ∃ k : Nat, k ≤ n ∧ iv = .int .i64 k ∧ Hid (∀ j, j < k → gd a j = gd b j) ∧ Below w.heap.size w wr) (fun iv _ => n - (intOf iv).toNat)
    case atStart => exact ⟨0, Nat.zero_le _, rfl, Lib.hid (fun j hj => by omega), Below.refl _ _⟩
    case round =>
      obtain ⟨k, hk, rfl, hsame, hBr⟩ := hrel
      by_cases hkn : k < n
      · obtain ⟨b1, o1, rfl, _, hc1⟩ := (HA.out.below hBr).at (by omega)
        obtain ⟨b2, o2, rfl, _, hc2⟩ := (HB.out.below hBr).at (by omega)
        have hx1 := hc1 k (by omega)
        have hx2 := hc2 k (by omega)
        obtain ⟨x, hx⟩ : ∃ x, x = gd a k := ⟨_, rfl⟩
        obtain ⟨y, hy⟩ : ∃ y, y = gd b k := ⟨_, rfl⟩
        rw [← hx] at hx1
        rw [← hy] at hx2
        have HX := Lib.hid hx; have HY := Lib.hid hy
        clear hc1 hc2 hx hy
        by_cases hxy : x = y
        · subst hxy
          have hs2 : ∀ j, j < k + 1 → gd a j = gd b j := fun j hj => by
            by_cases hjk : j = k
            · rw [hjk, ← HX.out, ← HY.out]
            · exact hsame.out j (by omega)
          have HS2 := Lib.hid hs2; clear hs2
          go_wp2_with fail
          go_quiet (fail)
          go_wp2_with fail
          go_roundw
          case rel => exact ⟨k + 1, by omega, by go_num, HS2, below_drewN hBr _⟩
          case measure => simp [intOf]; omega
        · have hne : (bne (x : Int) (y : Int)) = true := by simp; omega
          have hv : r = false := by
            rw [HR.out]
            apply decide_eq_false
            intro h
            apply hxy
            rw [HX.out, HY.out, h]
          have HV := Lib.hid hv; clear hv hxy
          go_wp2_with fail
          go_quiet (fail)
          go_wp2_with fail
          go_ret
          exact ⟨by rw [HV.out]; rfl, below_drewN hBr _⟩
      · obtain rfl : k = n := by omega
        have hv : r = true := by
          rw [HR.out]
          apply decide_eq_true
          exact gd_ext (by rw [← HN.out, ← HNB.out]) (fun j hj => hsame.out j (by rw [HN.out]; exact hj))
        have HV := Lib.hid hv; clear hv
        go_wp2_with fail
        go_ret
        exact ⟨by rw [HV.out]; rfl, hBr⟩
  · have hne : (bne (a.length : Int) (b.length : Int)) = true := by simp; omega
    have hv : decide (a = b) = false := decide_eq_false fun h => hlen (by rw [h])
    rw [hv]
    clear hv hlen ha hb
    go_enter Tryd.func57, Tryd.ntmps57
    go_wp2_with fail
    go_ret
    exact ⟨rfl, Below.refl _ _⟩
end Go.Proofs.YtaefimegiobkmaaDoor
/-
  Text of a fraction; whether two fractions have the same fields.
  Conditions: each theorem's own.
-/
namespace Go.Proofs.YtaefimegiobkmaaDoor
open Go.RowKit Go.ChangeShapes Go.WideShapes

/-- the text of a number -/
def rtx (p : Rat) : List UInt8 := (if ng p then [45] else []) ++ decL (nn p) ++ (if p.den = 1 then [] else 47 :: decL p.den)
theorem decB_size {n : Nat} (h : (wd n).length ≤ 100000) : (decB n).size ≤ 1000000 := by
  rw [decB_decL]
  have := decL_words h (by decide)
  simp [ByteArray.size]; omega
theorem cmpN_zero {m n : Nat} (h : cmpN m n = 0) : m = n := by
  unfold cmpN at h; split at h
  · cases h
  · split at h
    · cases h
    · omega
set_option maxRecDepth 100000 in
set_option maxHeartbeats 3200000 in
theorem text_f1 (vp : Value) (p : Rat) (w : World) (hp : RatIs w vp p) (hs : ng p = false) (hd : p.den = 1) :
    Calls Tryd.prog 54 #[vp] w (RetV w (.string ⟨(rtx p).toArray⟩)) := by
  obtain ⟨sp, op, np, cp, ap, mp, dp, rfl⟩ := hp.shape
  have hlp := hp.rl
  have hb0 := ((Below.refl w.heap.size w).alloc (by first | (simp; done) | (simp; omega)) (.cells #[.bool sp, .slice op np cp, .slice ap mp dp] 24))
  have hxp := nest1_0 w (.cells #[.bool sp, .slice op np cp, .slice ap mp dp] 24)
  have hpp := hp.below hb0
  obtain ⟨w0, hw0⟩ : ∃ w0, w0 = (w.alloc (.cells #[.bool sp, .slice op np cp, .slice ap mp dp] 24)) := ⟨_, rfl⟩
  rw [← hw0] at hb0 hxp hpp
  have HB0 := Lib.hid hb0; have HW0 := Lib.hid hw0
  have BXp := Lib.hid hxp
  have Fp := Lib.hid hpp
  clear hb0 hw0 hxp hpp hp
  have l1 := rl_n p; have l2 := rl_d p
  have hz1 := decB_size (n := nn p) (by omega); have hz2 := decB_size (n := p.den) (by omega)
  have heq : (⟨(rtx p).toArray⟩ : ByteArray) = decB (nn p) := by
    unfold rtx; rw [hs, if_pos hd, decB_decL]; apply ByteArray.ext; simp
  rw [heq]
  have hlo : (wd 1).length ≤ 1 := by rw [wd_one_len]; exact Nat.le_refl _
  obtain ⟨c, hc⟩ : ∃ c, c = cmpN p.den 1 := ⟨_, rfl⟩
  have hc0 : c = 0 := by rw [hc]; exact cmpN_eq hd
  have hcb : (c == 0) = true := by rw [hc0]; rfl
  have HC := Lib.hid hc; have HS := Lib.hid hs; have HSP := Lib.hid hs; clear hc hs heq hd hc0
  have ht1 := fun v wx (h : Num wx v (wd (nn p))) => text_any v _ wx h (by omega)
  rw [val_wd] at ht1
  obtain ⟨B, hB⟩ : ∃ B, B = decB (nn p) := ⟨_, rfl⟩; obtain ⟨D, hD⟩ : ∃ D, D = decB p.den := ⟨_, rfl⟩
  rw [← hB] at ht1 hz1 ⊢
  rw [← hD] at hz2
  have HT1 := Lib.hid ht1; clear ht1 hB hD
  go_enter Tryd.func54, Tryd.ntmps54
  have hs := parts_any _ p w0 Fp.out
  have HS := Lib.hid hs; clear hs
  go_wp2_with fail
  rw [← HW0.out]
  (with_reducible refine HS.out.mono ?_); rintro e w1 ⟨v1, u1, rfl, hb1, hn1, hm1⟩
  clear HS
  rw [HSP.out]
  have HB1 := Lib.hid (HB0.out.step hb1)
  have Fp := Lib.hid (Fp.out.below hb1)
  have BXp := Lib.hid (heap_below BXp.out hb1)
  have N := Lib.hid hn1
  have D0 := Lib.hid hm1
  clear hn1 hm1
  clear hb1
  have hs := HT1.out _ w1 N.out
  have HS := Lib.hid hs; clear hs
  go_wp2_with fail
  (with_reducible refine HS.out.mono ?_); rintro e w2 ⟨rfl, hb2⟩
  clear HS
  have HB2 := Lib.hid (HB1.out.step hb2)
  have Fp := Lib.hid (Fp.out.below hb2)
  have N := Lib.hid (N.out.below hb2)
  have D0 := Lib.hid (D0.out.below hb2)
  have BXp := Lib.hid (heap_below BXp.out hb2)
  clear hb2
  have hs := one_any w2
  have HS := Lib.hid hs; clear hs
  go_wp2_with fail
  (with_reducible refine HS.out.mono ?_); rintro e w3 ⟨v3, rfl, hb3, hn3⟩
  clear HS
  have HB3 := Lib.hid (HB2.out.step hb3)
  have Fp := Lib.hid (Fp.out.below hb3)
  have N := Lib.hid (N.out.below hb3)
  have D0 := Lib.hid (D0.out.below hb3)
  have BXp := Lib.hid (heap_below BXp.out hb3)
  have ONE := Lib.hid hn3; clear hn3
  clear hb3
  have hs := cmpN_ D0.out ONE.out (by omega) (by omega)
  rw [← HC.out] at hs
  have HS := Lib.hid hs; clear hs
  go_wp2_with fail
  (with_reducible refine HS.out.mono ?_); rintro e w4 ⟨rfl, hb4⟩
  clear HS
  have HB4 := Lib.hid (HB3.out.step hb4)
  have Fp := Lib.hid (Fp.out.below hb4)
  have N := Lib.hid (N.out.below hb4)
  have D0 := Lib.hid (D0.out.below hb4)
  have ONE := Lib.hid (ONE.out.below hb4)
  have BXp := Lib.hid (heap_below BXp.out hb4)
  clear hb4
  go_wp2_with fail
  all_goals first | (go_ret; exact ⟨by first | rfl | (simp; done), HB4.out⟩) | (rename_i h; exact absurd h (by simp; omega))
set_option maxRecDepth 100000 in
set_option maxHeartbeats 3200000 in
theorem text_f0 (vp : Value) (p : Rat) (w : World) (hp : RatIs w vp p) (hs : ng p = false) (hd : p.den ≠ 1) :
    Calls Tryd.prog 54 #[vp] w (RetV w (.string ⟨(rtx p).toArray⟩)) := by
  obtain ⟨sp, op, np, cp, ap, mp, dp, rfl⟩ := hp.shape
  have hlp := hp.rl
  have hb0 := ((Below.refl w.heap.size w).alloc (by first | (simp; done) | (simp; omega)) (.cells #[.bool sp, .slice op np cp, .slice ap mp dp] 24))
  have hxp := nest1_0 w (.cells #[.bool sp, .slice op np cp, .slice ap mp dp] 24)
  have hpp := hp.below hb0
  obtain ⟨w0, hw0⟩ : ∃ w0, w0 = (w.alloc (.cells #[.bool sp, .slice op np cp, .slice ap mp dp] 24)) := ⟨_, rfl⟩
  rw [← hw0] at hb0 hxp hpp
  have HB0 := Lib.hid hb0; have HW0 := Lib.hid hw0
  have BXp := Lib.hid hxp
  have Fp := Lib.hid hpp
  clear hb0 hw0 hxp hpp hp
  have l1 := rl_n p; have l2 := rl_d p
  have hz1 := decB_size (n := nn p) (by omega); have hz2 := decB_size (n := p.den) (by omega)
  have heq : (⟨(rtx p).toArray⟩ : ByteArray) = decB (nn p) ++ (⟨#[47]⟩ ++ decB p.den) := by
    unfold rtx; rw [hs, if_neg hd, decB_decL, decB_decL]; apply ByteArray.ext; simp
  rw [heq]
  have hlo : (wd 1).length ≤ 1 := by rw [wd_one_len]; exact Nat.le_refl _
  obtain ⟨c, hc⟩ : ∃ c, c = cmpN p.den 1 := ⟨_, rfl⟩
  have hcb : (c == 0) = false := by rw [hc, beq_eq_false_iff_ne]; exact fun e => hd (cmpN_zero e)
  have HC := Lib.hid hc; have HS := Lib.hid hs; have HSP := Lib.hid hs; clear hc hs heq hd
  have ht1 := fun v wx (h : Num wx v (wd (nn p))) => text_any v _ wx h (by omega)
  rw [val_wd] at ht1
  obtain ⟨B, hB⟩ : ∃ B, B = decB (nn p) := ⟨_, rfl⟩; obtain ⟨D, hD⟩ : ∃ D, D = decB p.den := ⟨_, rfl⟩
  rw [← hB] at ht1 hz1 ⊢
  rw [← hD] at hz2 ⊢
  have ht2 := fun v wx (h : Num wx v (wd p.den)) => text_any v _ wx h (by omega)
  rw [val_wd, ← hD] at ht2
  have HT2 := Lib.hid ht2; clear ht2
  have HT1 := Lib.hid ht1; clear ht1 hB hD
  go_enter Tryd.func54, Tryd.ntmps54
  have hs := parts_any _ p w0 Fp.out
  have HS := Lib.hid hs; clear hs
  go_wp2_with fail
  rw [← HW0.out]
  (with_reducible refine HS.out.mono ?_); rintro e w1 ⟨v1, u1, rfl, hb1, hn1, hm1⟩
  clear HS
  rw [HSP.out]
  have HB1 := Lib.hid (HB0.out.step hb1)
  have Fp := Lib.hid (Fp.out.below hb1)
  have BXp := Lib.hid (heap_below BXp.out hb1)
  have N := Lib.hid hn1
  have D0 := Lib.hid hm1
  clear hn1 hm1
  clear hb1
  have hs := HT1.out _ w1 N.out
  have HS := Lib.hid hs; clear hs
  go_wp2_with fail
  (with_reducible refine HS.out.mono ?_); rintro e w2 ⟨rfl, hb2⟩
  clear HS
  have HB2 := Lib.hid (HB1.out.step hb2)
  have Fp := Lib.hid (Fp.out.below hb2)
  have N := Lib.hid (N.out.below hb2)
  have D0 := Lib.hid (D0.out.below hb2)
  have BXp := Lib.hid (heap_below BXp.out hb2)
  clear hb2
  have hs := one_any w2
  have HS := Lib.hid hs; clear hs
  go_wp2_with fail
  (with_reducible refine HS.out.mono ?_); rintro e w3 ⟨v3, rfl, hb3, hn3⟩
  clear HS
  have HB3 := Lib.hid (HB2.out.step hb3)
  have Fp := Lib.hid (Fp.out.below hb3)
  have N := Lib.hid (N.out.below hb3)
  have D0 := Lib.hid (D0.out.below hb3)
  have BXp := Lib.hid (heap_below BXp.out hb3)
  have ONE := Lib.hid hn3; clear hn3
  clear hb3
  have hs := cmpN_ D0.out ONE.out (by omega) (by omega)
  rw [← HC.out] at hs
  have HS := Lib.hid hs; clear hs
  go_wp2_with fail
  (with_reducible refine HS.out.mono ?_); rintro e w4 ⟨rfl, hb4⟩
  clear HS
  have HB4 := Lib.hid (HB3.out.step hb4)
  have Fp := Lib.hid (Fp.out.below hb4)
  have N := Lib.hid (N.out.below hb4)
  have D0 := Lib.hid (D0.out.below hb4)
  have ONE := Lib.hid (ONE.out.below hb4)
  have BXp := Lib.hid (heap_below BXp.out hb4)
  clear hb4
  have hs := HT2.out _ w4 D0.out
  have HS := Lib.hid hs; clear hs
  go_wp2_with fail
  (with_reducible refine HS.out.mono ?_); rintro e w5 ⟨rfl, hb5⟩
  clear HS
  have HB5 := Lib.hid (HB4.out.step hb5)
  have Fp := Lib.hid (Fp.out.below hb5)
  have N := Lib.hid (N.out.below hb5)
  have D0 := Lib.hid (D0.out.below hb5)
  have ONE := Lib.hid (ONE.out.below hb5)
  have BXp := Lib.hid (heap_below BXp.out hb5)
  clear hb5
  go_wp2_with fail
  all_goals first | (go_ret; exact ⟨by first | rfl | (simp; done), HB5.out⟩) | (rename_i h; exact absurd h (by simp; omega))
set_option maxRecDepth 100000 in
set_option maxHeartbeats 3200000 in
theorem text_t1 (vp : Value) (p : Rat) (w : World) (hp : RatIs w vp p) (hs : ng p = true) (hd : p.den = 1) :
    Calls Tryd.prog 54 #[vp] w (RetV w (.string ⟨(rtx p).toArray⟩)) := by
  obtain ⟨sp, op, np, cp, ap, mp, dp, rfl⟩ := hp.shape
  have hlp := hp.rl
  have hb0 := ((Below.refl w.heap.size w).alloc (by first | (simp; done) | (simp; omega)) (.cells #[.bool sp, .slice op np cp, .slice ap mp dp] 24))
  have hxp := nest1_0 w (.cells #[.bool sp, .slice op np cp, .slice ap mp dp] 24)
  have hpp := hp.below hb0
  obtain ⟨w0, hw0⟩ : ∃ w0, w0 = (w.alloc (.cells #[.bool sp, .slice op np cp, .slice ap mp dp] 24)) := ⟨_, rfl⟩
  rw [← hw0] at hb0 hxp hpp
  have HB0 := Lib.hid hb0; have HW0 := Lib.hid hw0
  have BXp := Lib.hid hxp
  have Fp := Lib.hid hpp
  clear hb0 hw0 hxp hpp hp
  have l1 := rl_n p; have l2 := rl_d p
  have hz1 := decB_size (n := nn p) (by omega); have hz2 := decB_size (n := p.den) (by omega)
  have heq : (⟨(rtx p).toArray⟩ : ByteArray) = ⟨#[45]⟩ ++ decB (nn p) := by
    unfold rtx; rw [hs, if_pos hd, decB_decL]; apply ByteArray.ext; simp
  rw [heq]
  have hlo : (wd 1).length ≤ 1 := by rw [wd_one_len]; exact Nat.le_refl _
  obtain ⟨c, hc⟩ : ∃ c, c = cmpN p.den 1 := ⟨_, rfl⟩
  have hc0 : c = 0 := by rw [hc]; exact cmpN_eq hd
  have hcb : (c == 0) = true := by rw [hc0]; rfl
  have HC := Lib.hid hc; have HS := Lib.hid hs; have HSP := Lib.hid hs; clear hc hs heq hd hc0
  have ht1 := fun v wx (h : Num wx v (wd (nn p))) => text_any v _ wx h (by omega)
  rw [val_wd] at ht1
  obtain ⟨B, hB⟩ : ∃ B, B = decB (nn p) := ⟨_, rfl⟩; obtain ⟨D, hD⟩ : ∃ D, D = decB p.den := ⟨_, rfl⟩
  rw [← hB] at ht1 hz1 ⊢
  rw [← hD] at hz2
  have HT1 := Lib.hid ht1; clear ht1 hB hD
  go_enter Tryd.func54, Tryd.ntmps54
  have hs := parts_any _ p w0 Fp.out
  have HS := Lib.hid hs; clear hs
  go_wp2_with fail
  rw [← HW0.out]
  (with_reducible refine HS.out.mono ?_); rintro e w1 ⟨v1, u1, rfl, hb1, hn1, hm1⟩
  clear HS
  rw [HSP.out]
  have HB1 := Lib.hid (HB0.out.step hb1)
  have Fp := Lib.hid (Fp.out.below hb1)
  have BXp := Lib.hid (heap_below BXp.out hb1)
  have N := Lib.hid hn1
  have D0 := Lib.hid hm1
  clear hn1 hm1
  clear hb1
  have hs := HT1.out _ w1 N.out
  have HS := Lib.hid hs; clear hs
  go_wp2_with fail
  (with_reducible refine HS.out.mono ?_); rintro e w2 ⟨rfl, hb2⟩
  clear HS
  have HB2 := Lib.hid (HB1.out.step hb2)
  have Fp := Lib.hid (Fp.out.below hb2)
  have N := Lib.hid (N.out.below hb2)
  have D0 := Lib.hid (D0.out.below hb2)
  have BXp := Lib.hid (heap_below BXp.out hb2)
  clear hb2
  have hs := one_any w2
  have HS := Lib.hid hs; clear hs
  go_wp2_with fail
  (with_reducible refine HS.out.mono ?_); rintro e w3 ⟨v3, rfl, hb3, hn3⟩
  clear HS
  have HB3 := Lib.hid (HB2.out.step hb3)
  have Fp := Lib.hid (Fp.out.below hb3)
  have N := Lib.hid (N.out.below hb3)
  have D0 := Lib.hid (D0.out.below hb3)
  have BXp := Lib.hid (heap_below BXp.out hb3)
  have ONE := Lib.hid hn3; clear hn3
  clear hb3
  have hs := cmpN_ D0.out ONE.out (by omega) (by omega)
  rw [← HC.out] at hs
  have HS := Lib.hid hs; clear hs
  go_wp2_with fail
  (with_reducible refine HS.out.mono ?_); rintro e w4 ⟨rfl, hb4⟩
  clear HS
  have HB4 := Lib.hid (HB3.out.step hb4)
  have Fp := Lib.hid (Fp.out.below hb4)
  have N := Lib.hid (N.out.below hb4)
  have D0 := Lib.hid (D0.out.below hb4)
  have ONE := Lib.hid (ONE.out.below hb4)
  have BXp := Lib.hid (heap_below BXp.out hb4)
  clear hb4
  go_wp2_with fail
  all_goals first | (go_ret; exact ⟨by first | rfl | (simp; done), HB4.out⟩) | (rename_i h; exact absurd h (by simp; omega))
set_option maxRecDepth 100000 in
set_option maxHeartbeats 3200000 in
theorem text_t0 (vp : Value) (p : Rat) (w : World) (hp : RatIs w vp p) (hs : ng p = true) (hd : p.den ≠ 1) :
    Calls Tryd.prog 54 #[vp] w (RetV w (.string ⟨(rtx p).toArray⟩)) := by
  obtain ⟨sp, op, np, cp, ap, mp, dp, rfl⟩ := hp.shape
  have hlp := hp.rl
  have hb0 := ((Below.refl w.heap.size w).alloc (by first | (simp; done) | (simp; omega)) (.cells #[.bool sp, .slice op np cp, .slice ap mp dp] 24))
  have hxp := nest1_0 w (.cells #[.bool sp, .slice op np cp, .slice ap mp dp] 24)
  have hpp := hp.below hb0
  obtain ⟨w0, hw0⟩ : ∃ w0, w0 = (w.alloc (.cells #[.bool sp, .slice op np cp, .slice ap mp dp] 24)) := ⟨_, rfl⟩
  rw [← hw0] at hb0 hxp hpp
  have HB0 := Lib.hid hb0; have HW0 := Lib.hid hw0
  have BXp := Lib.hid hxp
  have Fp := Lib.hid hpp
  clear hb0 hw0 hxp hpp hp
  have l1 := rl_n p; have l2 := rl_d p
  have hz1 := decB_size (n := nn p) (by omega); have hz2 := decB_size (n := p.den) (by omega)
  have heq : (⟨(rtx p).toArray⟩ : ByteArray) = ⟨#[45]⟩ ++ decB (nn p) ++ (⟨#[47]⟩ ++ decB p.den) := by
    unfold rtx; rw [hs, if_neg hd, decB_decL, decB_decL]; apply ByteArray.ext; simp
  rw [heq]
  have hlo : (wd 1).length ≤ 1 := by rw [wd_one_len]; exact Nat.le_refl _
  obtain ⟨c, hc⟩ : ∃ c, c = cmpN p.den 1 := ⟨_, rfl⟩
  have hcb : (c == 0) = false := by rw [hc, beq_eq_false_iff_ne]; exact fun e => hd (cmpN_zero e)
  have HC := Lib.hid hc; have HS := Lib.hid hs; have HSP := Lib.hid hs; clear hc hs heq hd
  have ht1 := fun v wx (h : Num wx v (wd (nn p))) => text_any v _ wx h (by omega)
  rw [val_wd] at ht1
  obtain ⟨B, hB⟩ : ∃ B, B = decB (nn p) := ⟨_, rfl⟩; obtain ⟨D, hD⟩ : ∃ D, D = decB p.den := ⟨_, rfl⟩
  rw [← hB] at ht1 hz1 ⊢
  rw [← hD] at hz2 ⊢
  have ht2 := fun v wx (h : Num wx v (wd p.den)) => text_any v _ wx h (by omega)
  rw [val_wd, ← hD] at ht2
  have HT2 := Lib.hid ht2; clear ht2
  have HT1 := Lib.hid ht1; clear ht1 hB hD
  go_enter Tryd.func54, Tryd.ntmps54
  have hs := parts_any _ p w0 Fp.out
  have HS := Lib.hid hs; clear hs
  go_wp2_with fail
  rw [← HW0.out]
  (with_reducible refine HS.out.mono ?_); rintro e w1 ⟨v1, u1, rfl, hb1, hn1, hm1⟩
  clear HS
  rw [HSP.out]
  have HB1 := Lib.hid (HB0.out.step hb1)
  have Fp := Lib.hid (Fp.out.below hb1)
  have BXp := Lib.hid (heap_below BXp.out hb1)
  have N := Lib.hid hn1
  have D0 := Lib.hid hm1
  clear hn1 hm1
  clear hb1
  have hs := HT1.out _ w1 N.out
  have HS := Lib.hid hs; clear hs
  go_wp2_with fail
  (with_reducible refine HS.out.mono ?_); rintro e w2 ⟨rfl, hb2⟩
  clear HS
  have HB2 := Lib.hid (HB1.out.step hb2)
  have Fp := Lib.hid (Fp.out.below hb2)
  have N := Lib.hid (N.out.below hb2)
  have D0 := Lib.hid (D0.out.below hb2)
  have BXp := Lib.hid (heap_below BXp.out hb2)
  clear hb2
  have hs := one_any w2
  have HS := Lib.hid hs; clear hs
  go_wp2_with fail
  (with_reducible refine HS.out.mono ?_); rintro e w3 ⟨v3, rfl, hb3, hn3⟩
  clear HS
  have HB3 := Lib.hid (HB2.out.step hb3)
  have Fp := Lib.hid (Fp.out.below hb3)
  have N := Lib.hid (N.out.below hb3)
  have D0 := Lib.hid (D0.out.below hb3)
  have BXp := Lib.hid (heap_below BXp.out hb3)
  have ONE := Lib.hid hn3; clear hn3
  clear hb3
  have hs := cmpN_ D0.out ONE.out (by omega) (by omega)
  rw [← HC.out] at hs
  have HS := Lib.hid hs; clear hs
  go_wp2_with fail
  (with_reducible refine HS.out.mono ?_); rintro e w4 ⟨rfl, hb4⟩
  clear HS
  have HB4 := Lib.hid (HB3.out.step hb4)
  have Fp := Lib.hid (Fp.out.below hb4)
  have N := Lib.hid (N.out.below hb4)
  have D0 := Lib.hid (D0.out.below hb4)
  have ONE := Lib.hid (ONE.out.below hb4)
  have BXp := Lib.hid (heap_below BXp.out hb4)
  clear hb4
  have hs := HT2.out _ w4 D0.out
  have HS := Lib.hid hs; clear hs
  go_wp2_with fail
  (with_reducible refine HS.out.mono ?_); rintro e w5 ⟨rfl, hb5⟩
  clear HS
  have HB5 := Lib.hid (HB4.out.step hb5)
  have Fp := Lib.hid (Fp.out.below hb5)
  have N := Lib.hid (N.out.below hb5)
  have D0 := Lib.hid (D0.out.below hb5)
  have ONE := Lib.hid (ONE.out.below hb5)
  have BXp := Lib.hid (heap_below BXp.out hb5)
  clear hb5
  go_wp2_with fail
  all_goals first | (go_ret; exact ⟨by first | rfl | (simp; done), HB5.out⟩) | (rename_i h; exact absurd h (by simp; omega))
theorem textq_any (vp : Value) (p : Rat) (w : World) (hp : RatIs w vp p) : Calls Tryd.prog 54 #[vp] w (RetV w (.string ⟨(rtx p).toArray⟩)) := by
  by_cases h : ng p = true
  · by_cases h2 : p.den = 1
    · exact text_t1 vp p w hp h h2
    · exact text_t0 vp p w hp h h2
  · have h := Bool.eq_false_iff.2 h
    by_cases h2 : p.den = 1
    · exact text_f1 vp p w hp h h2
    · exact text_f0 vp p w hp h h2
theorem IsR.fields {w : World} {s : Bool} {x y : Value} {q : Rat} (h : IsR w (.agg #[.bool s, x, y]) q) : s = ng q ∧ Num w x (wd (nn q)) ∧ Num w y (wd (dn q)) := by
  obtain ⟨va, vb, e, h1, h2⟩ := h
  cases e
  exact ⟨rfl, h1, h2⟩
theorem wd_inj {m n : Nat} (h : wd m = wd n) : m = n := by
  have := congrArg val h
  rwa [val_wd, val_wd] at this
set_option maxRecDepth 100000 in
set_option maxHeartbeats 3200000 in
theorem same_rat0 (vp : Value) (p : Rat) (vq : Value) (q : Rat) (w : World) (hp : RatIs w vp p) (hq : RatIs w vq q) (gp : IsR w vp p) (gq : IsR w vq q) (hs : ng p ≠ ng q) :
    Calls Tryd.prog 35 #[vp, vq] w (RetV w (.bool (decide (p = q)))) := by
  obtain ⟨sp, op, np, cp, ap, mp, dp, rfl⟩ := hp.shape
  have hlp := hp.rl
  obtain ⟨sq, oq, nq, cq, aq, mq, dq, rfl⟩ := hq.shape
  have hlq := hq.rl
  obtain ⟨e1, g1, g2⟩ := gp.fields
  obtain ⟨e2, g3, g4⟩ := gq.fields
  have hb0 := (((Below.refl w.heap.size w).alloc (by first | (simp; done) | (simp; omega)) (.cells #[.bool sp, .slice op np cp, .slice ap mp dp] 24)).alloc (by first | (simp; done) | (simp; omega)) (.cells #[.bool sq, .slice oq nq cq, .slice aq mq dq] 24))
  have hxp := nest2_0 w (.cells #[.bool sp, .slice op np cp, .slice ap mp dp] 24) (.cells #[.bool sq, .slice oq nq cq, .slice aq mq dq] 24)
  have hxq := nest2_1 w (.cells #[.bool sp, .slice op np cp, .slice ap mp dp] 24) (.cells #[.bool sq, .slice oq nq cq, .slice aq mq dq] 24)
  have hpp := hp.below hb0
  have hpq := hq.below hb0
  obtain ⟨w0, hw0⟩ : ∃ w0, w0 = ((w.alloc (.cells #[.bool sp, .slice op np cp, .slice ap mp dp] 24)).alloc (.cells #[.bool sq, .slice oq nq cq, .slice aq mq dq] 24)) := ⟨_, rfl⟩
  rw [← hw0] at hb0 hxp hxq hpp hpq
  have HB0 := Lib.hid hb0; have HW0 := Lib.hid hw0
  have BXp := Lib.hid hxp
  have BXq := Lib.hid hxq
  have Fp := Lib.hid hpp
  have Fq := Lib.hid hpq
  clear hb0 hw0 hxp hxq hpp hp hpq hq
  have N := Lib.hid (g1.below HB0.out)
  have D := Lib.hid (g2.below HB0.out)
  have M := Lib.hid (g3.below HB0.out)
  have E := Lib.hid (g4.below HB0.out)
  have l1 := rl_n p; have l2 := dn_len p
  have hd : decide (p = q) = false := decide_eq_false fun e => hs (by rw [e])
  rw [hd]
  have f1 : (sp == sq) = false := by rw [e1, e2, beq_eq_false_iff_ne]; exact hs
  clear hs e1 e2 hd gp gq g1 g2 g3 g4
  go_enter Tryd.func35, Tryd.ntmps35
  go_wp2_with fail
  rw [← HW0.out]
  go_ret
  exact ⟨by first | rfl | (simp; done), HB0.out⟩
set_option maxRecDepth 100000 in
set_option maxHeartbeats 3200000 in
theorem same_rat1 (vp : Value) (p : Rat) (vq : Value) (q : Rat) (w : World) (hp : RatIs w vp p) (hq : RatIs w vq q) (gp : IsR w vp p) (gq : IsR w vq q) (hs : ng p = ng q) (hn : nn p ≠ nn q) :
    Calls Tryd.prog 35 #[vp, vq] w (RetV w (.bool (decide (p = q)))) := by
  obtain ⟨sp, op, np, cp, ap, mp, dp, rfl⟩ := hp.shape
  have hlp := hp.rl
  obtain ⟨sq, oq, nq, cq, aq, mq, dq, rfl⟩ := hq.shape
  have hlq := hq.rl
  obtain ⟨e1, g1, g2⟩ := gp.fields
  obtain ⟨e2, g3, g4⟩ := gq.fields
  have hb0 := (((Below.refl w.heap.size w).alloc (by first | (simp; done) | (simp; omega)) (.cells #[.bool sp, .slice op np cp, .slice ap mp dp] 24)).alloc (by first | (simp; done) | (simp; omega)) (.cells #[.bool sq, .slice oq nq cq, .slice aq mq dq] 24))
  have hxp := nest2_0 w (.cells #[.bool sp, .slice op np cp, .slice ap mp dp] 24) (.cells #[.bool sq, .slice oq nq cq, .slice aq mq dq] 24)
  have hxq := nest2_1 w (.cells #[.bool sp, .slice op np cp, .slice ap mp dp] 24) (.cells #[.bool sq, .slice oq nq cq, .slice aq mq dq] 24)
  have hpp := hp.below hb0
  have hpq := hq.below hb0
  obtain ⟨w0, hw0⟩ : ∃ w0, w0 = ((w.alloc (.cells #[.bool sp, .slice op np cp, .slice ap mp dp] 24)).alloc (.cells #[.bool sq, .slice oq nq cq, .slice aq mq dq] 24)) := ⟨_, rfl⟩
  rw [← hw0] at hb0 hxp hxq hpp hpq
  have HB0 := Lib.hid hb0; have HW0 := Lib.hid hw0
  have BXp := Lib.hid hxp
  have BXq := Lib.hid hxq
  have Fp := Lib.hid hpp
  have Fq := Lib.hid hpq
  clear hb0 hw0 hxp hxq hpp hp hpq hq
  have N := Lib.hid (g1.below HB0.out)
  have D := Lib.hid (g2.below HB0.out)
  have M := Lib.hid (g3.below HB0.out)
  have E := Lib.hid (g4.below HB0.out)
  have l1 := rl_n p; have l2 := dn_len p
  have f1 : (sp == sq) = true := by rw [e1, e2, beq_iff_eq]; exact hs
  have hd : decide (p = q) = false := decide_eq_false fun e => hn (by rw [e])
  rw [hd]
  have hw : decide (wd (nn p) = wd (nn q)) = false := decide_eq_false fun e => hn (wd_inj e)
  have HW := Lib.hid hw; clear hw
  clear hs e1 e2 hd gp gq g1 g2 g3 g4 hn
  go_enter Tryd.func35, Tryd.ntmps35
  have hs := words_any _ _ _ _ w0 N.out M.out (by omega)
  rw [HW.out] at hs
  have HS := Lib.hid hs; clear hs
  go_wp2_with fail
  rw [← HW0.out]
  (with_reducible refine HS.out.mono ?_); rintro e w1 ⟨rfl, hb1⟩
  clear HS
  have HB1 := Lib.hid (HB0.out.step hb1)
  have Fp := Lib.hid (Fp.out.below hb1)
  have Fq := Lib.hid (Fq.out.below hb1)
  have N := Lib.hid (N.out.below hb1)
  have D := Lib.hid (D.out.below hb1)
  have M := Lib.hid (M.out.below hb1)
  have E := Lib.hid (E.out.below hb1)
  have BXp := Lib.hid (heap_below BXp.out hb1)
  have BXq := Lib.hid (heap_below BXq.out hb1)
  clear hb1
  go_wp2_with fail
  go_ret
  exact ⟨by first | rfl | (simp; done), HB1.out⟩
set_option maxRecDepth 100000 in
set_option maxHeartbeats 3200000 in
theorem same_rat2 (vp : Value) (p : Rat) (vq : Value) (q : Rat) (w : World) (hp : RatIs w vp p) (hq : RatIs w vq q) (gp : IsR w vp p) (gq : IsR w vq q) (hs : ng p = ng q) (hn : nn p = nn q) :
    Calls Tryd.prog 35 #[vp, vq] w (RetV w (.bool (decide (p = q)))) := by
  obtain ⟨sp, op, np, cp, ap, mp, dp, rfl⟩ := hp.shape
  have hlp := hp.rl
  obtain ⟨sq, oq, nq, cq, aq, mq, dq, rfl⟩ := hq.shape
  have hlq := hq.rl
  obtain ⟨e1, g1, g2⟩ := gp.fields
  obtain ⟨e2, g3, g4⟩ := gq.fields
  have hb0 := (((Below.refl w.heap.size w).alloc (by first | (simp; done) | (simp; omega)) (.cells #[.bool sp, .slice op np cp, .slice ap mp dp] 24)).alloc (by first | (simp; done) | (simp; omega)) (.cells #[.bool sq, .slice oq nq cq, .slice aq mq dq] 24))
  have hxp := nest2_0 w (.cells #[.bool sp, .slice op np cp, .slice ap mp dp] 24) (.cells #[.bool sq, .slice oq nq cq, .slice aq mq dq] 24)
  have hxq := nest2_1 w (.cells #[.bool sp, .slice op np cp, .slice ap mp dp] 24) (.cells #[.bool sq, .slice oq nq cq, .slice aq mq dq] 24)
  have hpp := hp.below hb0
  have hpq := hq.below hb0
  obtain ⟨w0, hw0⟩ : ∃ w0, w0 = ((w.alloc (.cells #[.bool sp, .slice op np cp, .slice ap mp dp] 24)).alloc (.cells #[.bool sq, .slice oq nq cq, .slice aq mq dq] 24)) := ⟨_, rfl⟩
  rw [← hw0] at hb0 hxp hxq hpp hpq
  have HB0 := Lib.hid hb0; have HW0 := Lib.hid hw0
  have BXp := Lib.hid hxp
  have BXq := Lib.hid hxq
  have Fp := Lib.hid hpp
  have Fq := Lib.hid hpq
  clear hb0 hw0 hxp hxq hpp hp hpq hq
  have N := Lib.hid (g1.below HB0.out)
  have D := Lib.hid (g2.below HB0.out)
  have M := Lib.hid (g3.below HB0.out)
  have E := Lib.hid (g4.below HB0.out)
  have l1 := rl_n p; have l2 := dn_len p
  have f1 : (sp == sq) = true := by rw [e1, e2, beq_iff_eq]; exact hs
  have hw : decide (wd (nn p) = wd (nn q)) = true := decide_eq_true (by rw [hn])
  have HW := Lib.hid hw; clear hw
  have hd : decide (p = q) = decide (wd (dn p) = wd (dn q)) := by rw [decide_eq_decide]; exact ⟨fun e => by rw [e], fun e => ext_fields hs hn (wd_inj e)⟩
  rw [hd]
  obtain ⟨r, hr⟩ : ∃ r, r = decide (wd (dn p) = wd (dn q)) := ⟨_, rfl⟩
  rw [← hr]
  have HR := Lib.hid hr; clear hr
  clear hs e1 e2 hd gp gq g1 g2 g3 g4 hn
  go_enter Tryd.func35, Tryd.ntmps35
  have hs := words_any _ _ _ _ w0 N.out M.out (by omega)
  rw [HW.out] at hs
  have HS := Lib.hid hs; clear hs
  go_wp2_with fail
  rw [← HW0.out]
  (with_reducible refine HS.out.mono ?_); rintro e w1 ⟨rfl, hb1⟩
  clear HS
  have HB1 := Lib.hid (HB0.out.step hb1)
  have Fp := Lib.hid (Fp.out.below hb1)
  have Fq := Lib.hid (Fq.out.below hb1)
  have N := Lib.hid (N.out.below hb1)
  have D := Lib.hid (D.out.below hb1)
  have M := Lib.hid (M.out.below hb1)
  have E := Lib.hid (E.out.below hb1)
  have BXp := Lib.hid (heap_below BXp.out hb1)
  have BXq := Lib.hid (heap_below BXq.out hb1)
  clear hb1
  have hs := words_any _ _ _ _ w1 D.out E.out (by omega)
  rw [← HR.out] at hs
  have HS := Lib.hid hs; clear hs
  obtain ⟨ep0, ep1, ep2⟩ := row3 BXp.out
  obtain ⟨eq0, eq1, eq2⟩ := row3 BXq.out
  go_wp2_with fail
  (with_reducible refine HS.out.mono ?_); rintro e w2 ⟨rfl, hb2⟩
  clear HS
  have HB2 := Lib.hid (HB1.out.step hb2)
  have Fp := Lib.hid (Fp.out.below hb2)
  have Fq := Lib.hid (Fq.out.below hb2)
  have N := Lib.hid (N.out.below hb2)
  have D := Lib.hid (D.out.below hb2)
  have M := Lib.hid (M.out.below hb2)
  have E := Lib.hid (E.out.below hb2)
  have BXp := Lib.hid (heap_below BXp.out hb2)
  have BXq := Lib.hid (heap_below BXq.out hb2)
  clear hb2
  go_wp2_with fail
  go_ret
  exact ⟨by first | rfl | (simp; done), HB2.out⟩
theorem rat_any (vp : Value) (p : Rat) (vq : Value) (q : Rat) (w : World) (hp : IsR w vp p) (hq : IsR w vq q) (lp : rl p ≤ 100000) (lq : rl q ≤ 100000) :
    Calls Tryd.prog 35 #[vp, vq] w (RetV w (.bool (decide (p = q)))) := by
  by_cases h : ng p = ng q
  · by_cases h2 : nn p = nn q
    · exact same_rat2 vp p vq q w (hp.is lp) (hq.is lq) hp hq h h2
    · exact same_rat1 vp p vq q w (hp.is lp) (hq.is lq) hp hq h h2
  · exact same_rat0 vp p vq q w (hp.is lp) (hq.is lq) hp hq h
theorem rat_same (vp : Value) (vq : Value) (q : Rat) (w : World) (hp : IsR w vp q) (hq : IsR w vq q) (lq : rl q ≤ 100000) :
    Calls Tryd.prog 35 #[vp, vq] w (RetV w (.bool true)) := by
  have h := rat_any vp q vq q w hp hq lq lq
  rw [decide_eq_true rfl] at h; exact h
end Go.Proofs.YtaefimegiobkmaaDoor
/-
  faultlinelaw03.large: whether one of some intervals has too many words; faultlinelaw03.same.
  Conditions: each theorem's own.
-/
namespace Go.Proofs.YtaefimegiobkmaaDoor
open Go.RowKit Go.ChangeShapes Go.WideShapes

/-- one of the first n intervals has an end with more than 6 words -/
def bigS (l1 l2 l3 l4 : Nat → Nat) : Nat → Bool
  | 0 => false
  | n + 1 => bigS l1 l2 l3 l4 n || (decide (6 < l1 n) || decide (6 < l2 n) || decide (6 < l3 n) || decide (6 < l4 n))
theorem bigS_mono {l1 l2 l3 l4 : Nat → Nat} {k n : Nat} (h : bigS l1 l2 l3 l4 k = true) (hkn : k ≤ n) : bigS l1 l2 l3 l4 n = true := by
  obtain ⟨d, rfl⟩ : ∃ d, n = k + d := ⟨n - k, by omega⟩
  clear hkn
  induction d with
  | zero => exact h
  | succ d ih => rw [← Nat.add_assoc]; simp only [bigS]; rw [ih, Bool.true_or]
set_option maxRecDepth 100000 in
set_option maxHeartbeats 3200000 in
theorem slarge_any (g n : Nat) (l1 l2 l3 l4 : Nat → Nat) (w : World) (hn : n ≤ 1000000) (hg : g < w.heap.size) (hl : ∀ j, l1 j ≤ 9223372036854775807 ∧ l2 j ≤ 9223372036854775807 ∧ l3 j ≤ 9223372036854775807 ∧ l4 j ≤ 9223372036854775807)
    (hV : ∀ j, j < n → ∃ s a1 c1 a2 c2 t a3 c3 a4 c4, w.cell? ⟨g, j * 6, none⟩ = some (.bool s) ∧ w.cell? ⟨g, j * 6 + 1, none⟩ = some (.slice a1 (l1 j) c1) ∧ w.cell? ⟨g, j * 6 + 2, none⟩ = some (.slice a2 (l2 j) c2) ∧
      w.cell? ⟨g, j * 6 + 3, none⟩ = some (.bool t) ∧ w.cell? ⟨g, j * 6 + 4, none⟩ = some (.slice a3 (l3 j) c3) ∧ w.cell? ⟨g, j * 6 + 5, none⟩ = some (.slice a4 (l4 j) c4)) :
    Calls Tryd.prog 8 #[.slice (some ⟨g, 0, none⟩) n n] w (RetV w (.bool (bigS l1 l2 l3 l4 n))) := by
  have HV := Lib.hid hV; have HL := Lib.hid hl; clear hV hl
  obtain ⟨r, hr⟩ : ∃ r, r = bigS l1 l2 l3 l4 n := ⟨_, rfl⟩
  rw [← hr]
  have HR := Lib.hid hr; clear hr
  go_enter Tryd.func8, Tryd.ntmps8
  go_wp2_with fail
  go_loopw [7] (fun iv wr => ∃ k : Nat, k ≤ n ∧ iv = .int .i64 k ∧ Hid (bigS l1 l2 l3 l4 k = false) ∧ Below w.heap.size w wr) (fun iv _ => n - (intOf iv).toNat)
  case atStart => exact ⟨0, Nat.zero_le _, rfl, Lib.hid rfl, Below.refl _ _⟩
  case round =>
    obtain ⟨k, hk, rfl, hno, hBr⟩ := hrel
    have HBR := Lib.hid hBr; clear hBr
    by_cases hkn : k < n
    · obtain ⟨s, a1, c1, a2, c2, t, a3, c3, a4, c4, h0, h1, h2, h3, h4, h5⟩ := HV.out k hkn
      have hc0 := (HBR.out.cell (p := ⟨g, k * 6, none⟩) hg).trans h0
      have hc1 := (HBR.out.cell (p := ⟨g, k * 6 + 1, none⟩) hg).trans h1
      have hc2 := (HBR.out.cell (p := ⟨g, k * 6 + 2, none⟩) hg).trans h2
      have hc3 := (HBR.out.cell (p := ⟨g, k * 6 + 3, none⟩) hg).trans h3
      have hc4 := (HBR.out.cell (p := ⟨g, k * 6 + 4, none⟩) hg).trans h4
      have hc5 := (HBR.out.cell (p := ⟨g, k * 6 + 5, none⟩) hg).trans h5
      obtain ⟨b1, b2, b3, b4⟩ := HL.out k
      obtain ⟨m1, hm1⟩ : ∃ m, m = l1 k := ⟨_, rfl⟩
      obtain ⟨m2, hm2⟩ : ∃ m, m = l2 k := ⟨_, rfl⟩
      obtain ⟨m3, hm3⟩ : ∃ m, m = l3 k := ⟨_, rfl⟩
      obtain ⟨m4, hm4⟩ : ∃ m, m = l4 k := ⟨_, rfl⟩
      rw [← hm1] at hc1 b1
      rw [← hm2] at hc2 b2
      rw [← hm3] at hc4 b3
      rw [← hm4] at hc5 b4
      clear h0 h1 h2 h3 h4 h5
      have HM1 := Lib.hid hm1; have HM2 := Lib.hid hm2; have HM3 := Lib.hid hm3; have HM4 := Lib.hid hm4; clear hm1 hm2 hm3 hm4
      have hal : Below w.heap.size w (wr.alloc (.cells #[.bool s, .slice a1 m1 c1, .slice a2 m2 c2, .bool t, .slice a3 m3 c3, .slice a4 m4 c4] 26)) := HBR.out.alloc HBR.out.size _
      have HAL := Lib.hid hal; clear hal
      by_cases hb : 6 < m1 ∨ 6 < m2 ∨ 6 < m3 ∨ 6 < m4
      · have hv : r = true := by
          rw [HR.out]
          refine bigS_mono (k := k + 1) ?_ hkn
          simp only [bigS]; rw [← HM1.out, ← HM2.out, ← HM3.out, ← HM4.out]
          rcases hb with h | h | h | h <;> simp [h]
        have HVV := Lib.hid hv; clear hv
        by_cases h1 : 6 < m1
        · have f1 : decide ((6 : Int) < (m1 : Int)) = true := decide_eq_true (by omega)
          clear hb h1
          go_wp2_with fail
          go_ret
          exact ⟨by rw [HVV.out]; rfl, HAL.out⟩
        by_cases h2 : 6 < m2
        · have f1 : decide ((6 : Int) < (m1 : Int)) = false := decide_eq_false (by omega)
          have f2 : decide ((6 : Int) < (m2 : Int)) = true := decide_eq_true (by omega)
          clear hb h1 h2
          go_wp2_with fail
          go_ret
          exact ⟨by rw [HVV.out]; rfl, HAL.out⟩
        by_cases h3 : 6 < m3
        · have f1 : decide ((6 : Int) < (m1 : Int)) = false := decide_eq_false (by omega)
          have f2 : decide ((6 : Int) < (m2 : Int)) = false := decide_eq_false (by omega)
          have f3 : decide ((6 : Int) < (m3 : Int)) = true := decide_eq_true (by omega)
          clear hb h1 h2 h3
          go_wp2_with fail
          go_ret
          exact ⟨by rw [HVV.out]; rfl, HAL.out⟩
        have h4 : 6 < m4 := by omega
        have f1 : decide ((6 : Int) < (m1 : Int)) = false := decide_eq_false (by omega)
        have f2 : decide ((6 : Int) < (m2 : Int)) = false := decide_eq_false (by omega)
        have f3 : decide ((6 : Int) < (m3 : Int)) = false := decide_eq_false (by omega)
        have f4 : decide ((6 : Int) < (m4 : Int)) = true := decide_eq_true (by omega)
        clear hb h1 h2 h3 h4
        go_wp2_with fail
        go_ret
        exact ⟨by rw [HVV.out]; rfl, HAL.out⟩
      · have f1 : decide ((6 : Int) < (m1 : Int)) = false := decide_eq_false (by omega)
        have f2 : decide ((6 : Int) < (m2 : Int)) = false := decide_eq_false (by omega)
        have f3 : decide ((6 : Int) < (m3 : Int)) = false := decide_eq_false (by omega)
        have f4 : decide ((6 : Int) < (m4 : Int)) = false := decide_eq_false (by omega)
        have hno2 : bigS l1 l2 l3 l4 (k + 1) = false := by
          simp only [bigS]; rw [hno.out, ← HM1.out, ← HM2.out, ← HM3.out, ← HM4.out, decide_eq_false (by omega), decide_eq_false (by omega), decide_eq_false (by omega), decide_eq_false (by omega)]; rfl
        have HNO := Lib.hid hno2; clear hno2 hb
        go_wp2_with fail
        go_roundw
        case rel => exact ⟨k + 1, by omega, by go_num, HNO, HAL.out⟩
        case measure => simp [intOf]; omega
    · obtain rfl : k = n := by omega
      have hv : r = false := by rw [HR.out]; exact hno.out
      have HVV := Lib.hid hv; clear hv
      go_wp2_with fail
      go_ret
      exact ⟨by rw [HVV.out]; rfl, HBR.out⟩
/-- an interval's shape -/
def SpSz (v : Value) (n1 n2 n3 n4 : Nat) : Prop := ∃ s o1 c1 o2 c2 t o3 c3 o4 c4, v = .agg #[.bool s, .slice o1 n1 c1, .slice o2 n2 c2, .bool t, .slice o3 n3 c3, .slice o4 n4 c4] ∧ n1 ≤ 9223372036854775807 ∧ n2 ≤ 9223372036854775807 ∧ n3 ≤ 9223372036854775807 ∧ n4 ≤ 9223372036854775807
def szS : Value → Nat × Nat × Nat × Nat
  | .agg #[_, .slice _ n1 _, .slice _ n2 _, _, .slice _ n3 _, .slice _ n4 _] => (n1, n2, n3, n4)
  | _ => (0, 0, 0, 0)
theorem SpV.sz {w : World} {v : Value} {s t : Bool} {a b c d : List Nat} (h : SpV w v s a b t c d) : SpSz v a.length b.length c.length d.length ∧ szS v = (a.length, b.length, c.length, d.length) := by
  obtain ⟨x0, x1, x2, x3, x4, x5, rfl, ⟨va, vb, e1, h1, h2⟩, ⟨vc, vd, e2, h3, h4⟩⟩ := h
  have e1' : x0 = .bool s ∧ x1 = va ∧ x2 = vb := by simpa using e1
  have e2' : x3 = .bool t ∧ x4 = vc ∧ x5 = vd := by simpa using e2
  obtain ⟨rfl, rfl, rfl⟩ := e1'
  obtain ⟨rfl, rfl, rfl⟩ := e2'
  obtain ⟨o1, c1, rfl, k1, l1, _⟩ := h1.shape
  obtain ⟨o2, c2, rfl, k2, l2, _⟩ := h2.shape
  obtain ⟨o3, c3, rfl, k3, l3, _⟩ := h3.shape
  obtain ⟨o4, c4, rfl, k4, l4, _⟩ := h4.shape
  exact ⟨⟨s, o1, c1, o2, c2, t, o3, c3, o4, c4, rfl, by omega, by omega, by omega, by omega⟩, rfl⟩
theorem slarge2s {s0 t0 : Bool} {o0 a0 o0x a0x : Option Addr} {n0 c0 m0 d0 n0x c0x m0x d0x : Nat} {s1 t1 : Bool} {o1 a1 o1x a1x : Option Addr} {n1 c1 m1 d1 n1x c1x m1x d1x : Nat} {g : Nat} {w : World} {T : TypeId} (h : w.heap[g]? = some (.cells #[.bool s0, .slice o0 n0 c0, .slice a0 m0 d0, .bool t0, .slice o0x n0x c0x, .slice a0x m0x d0x, .bool s1, .slice o1 n1 c1, .slice a1 m1 d1, .bool t1, .slice o1x n1x c1x, .slice a1x m1x d1x] T)) (k0 : n0 ≤ 6 ∧ m0 ≤ 6 ∧ n0x ≤ 6 ∧ m0x ≤ 6) (k1 : n1 ≤ 6 ∧ m1 ≤ 6 ∧ n1x ≤ 6 ∧ m1x ≤ 6) :
    Calls Tryd.prog 8 #[.slice (some ⟨g, 0, none⟩) 2 2] w (RetV w (.bool false)) := by
  have hk := slarge_any g 2 (fun j => if j = 0 then n0 else n1) (fun j => if j = 0 then m0 else m1) (fun j => if j = 0 then n0x else n1x) (fun j => if j = 0 then m0x else m1x) w (by decide) (Array.getElem?_eq_some_iff.1 h).1 (fun j => by show (if j = 0 then _ else _) ≤ _ ∧ (if j = 0 then _ else _) ≤ _ ∧ (if j = 0 then _ else _) ≤ _ ∧ (if j = 0 then _ else _) ≤ _; (repeat' split) <;> omega) (fun j hj => by
    rw [cell_of_row w g _ _ T (0, 0) h, cell_of_row w g _ _ T (0, 0) h, cell_of_row w g _ _ T (0, 0) h, cell_of_row w g _ _ T (0, 0) h, cell_of_row w g _ _ T (0, 0) h, cell_of_row w g _ _ T (0, 0) h]
    match j, hj with
    | 0, _ => exact ⟨_, _, _, _, _, _, _, _, _, _, rfl, rfl, rfl, rfl, rfl, rfl⟩
    | 1, _ => exact ⟨_, _, _, _, _, _, _, _, _, _, rfl, rfl, rfl, rfl, rfl, rfl⟩)
  have hr : bigS (fun j => if j = 0 then n0 else n1) (fun j => if j = 0 then m0 else m1) (fun j => if j = 0 then n0x else n1x) (fun j => if j = 0 then m0x else m1x) 2 = false := by
    simp [bigS]; omega
  rw [hr] at hk; exact hk
theorem slarge2b {s0 t0 : Bool} {o0 a0 o0x a0x : Option Addr} {n0 c0 m0 d0 n0x c0x m0x d0x : Nat} {s1 t1 : Bool} {o1 a1 o1x a1x : Option Addr} {n1 c1 m1 d1 n1x c1x m1x d1x : Nat} {g : Nat} {w : World} {T : TypeId} (h : w.heap[g]? = some (.cells #[.bool s0, .slice o0 n0 c0, .slice a0 m0 d0, .bool t0, .slice o0x n0x c0x, .slice a0x m0x d0x, .bool s1, .slice o1 n1 c1, .slice a1 m1 d1, .bool t1, .slice o1x n1x c1x, .slice a1x m1x d1x] T)) (k0 : n0 ≤ 9223372036854775807 ∧ m0 ≤ 9223372036854775807 ∧ n0x ≤ 9223372036854775807 ∧ m0x ≤ 9223372036854775807) (k1 : n1 ≤ 9223372036854775807 ∧ m1 ≤ 9223372036854775807 ∧ n1x ≤ 9223372036854775807 ∧ m1x ≤ 9223372036854775807) (hb : 6 < n0 ∨ 6 < m0 ∨ 6 < n0x ∨ 6 < m0x ∨ 6 < n1 ∨ 6 < m1 ∨ 6 < n1x ∨ 6 < m1x) :
    Calls Tryd.prog 8 #[.slice (some ⟨g, 0, none⟩) 2 2] w (RetV w (.bool true)) := by
  have hk := slarge_any g 2 (fun j => if j = 0 then n0 else n1) (fun j => if j = 0 then m0 else m1) (fun j => if j = 0 then n0x else n1x) (fun j => if j = 0 then m0x else m1x) w (by decide) (Array.getElem?_eq_some_iff.1 h).1 (fun j => by show (if j = 0 then _ else _) ≤ _ ∧ (if j = 0 then _ else _) ≤ _ ∧ (if j = 0 then _ else _) ≤ _ ∧ (if j = 0 then _ else _) ≤ _; (repeat' split) <;> omega) (fun j hj => by
    rw [cell_of_row w g _ _ T (0, 0) h, cell_of_row w g _ _ T (0, 0) h, cell_of_row w g _ _ T (0, 0) h, cell_of_row w g _ _ T (0, 0) h, cell_of_row w g _ _ T (0, 0) h, cell_of_row w g _ _ T (0, 0) h]
    match j, hj with
    | 0, _ => exact ⟨_, _, _, _, _, _, _, _, _, _, rfl, rfl, rfl, rfl, rfl, rfl⟩
    | 1, _ => exact ⟨_, _, _, _, _, _, _, _, _, _, rfl, rfl, rfl, rfl, rfl, rfl⟩)
  have hr : bigS (fun j => if j = 0 then n0 else n1) (fun j => if j = 0 then m0 else m1) (fun j => if j = 0 then n0x else n1x) (fun j => if j = 0 then m0x else m1x) 2 = true := by
    simp [bigS]; omega
  rw [hr] at hk; exact hk
theorem slarge3s {s0 t0 : Bool} {o0 a0 o0x a0x : Option Addr} {n0 c0 m0 d0 n0x c0x m0x d0x : Nat} {s1 t1 : Bool} {o1 a1 o1x a1x : Option Addr} {n1 c1 m1 d1 n1x c1x m1x d1x : Nat} {s2 t2 : Bool} {o2 a2 o2x a2x : Option Addr} {n2 c2 m2 d2 n2x c2x m2x d2x : Nat} {g : Nat} {w : World} {T : TypeId} (h : w.heap[g]? = some (.cells #[.bool s0, .slice o0 n0 c0, .slice a0 m0 d0, .bool t0, .slice o0x n0x c0x, .slice a0x m0x d0x, .bool s1, .slice o1 n1 c1, .slice a1 m1 d1, .bool t1, .slice o1x n1x c1x, .slice a1x m1x d1x, .bool s2, .slice o2 n2 c2, .slice a2 m2 d2, .bool t2, .slice o2x n2x c2x, .slice a2x m2x d2x] T)) (k0 : n0 ≤ 6 ∧ m0 ≤ 6 ∧ n0x ≤ 6 ∧ m0x ≤ 6) (k1 : n1 ≤ 6 ∧ m1 ≤ 6 ∧ n1x ≤ 6 ∧ m1x ≤ 6) (k2 : n2 ≤ 6 ∧ m2 ≤ 6 ∧ n2x ≤ 6 ∧ m2x ≤ 6) :
    Calls Tryd.prog 8 #[.slice (some ⟨g, 0, none⟩) 3 3] w (RetV w (.bool false)) := by
  have hk := slarge_any g 3 (fun j => if j = 0 then n0 else if j = 1 then n1 else n2) (fun j => if j = 0 then m0 else if j = 1 then m1 else m2) (fun j => if j = 0 then n0x else if j = 1 then n1x else n2x) (fun j => if j = 0 then m0x else if j = 1 then m1x else m2x) w (by decide) (Array.getElem?_eq_some_iff.1 h).1 (fun j => by show (if j = 0 then _ else _) ≤ _ ∧ (if j = 0 then _ else _) ≤ _ ∧ (if j = 0 then _ else _) ≤ _ ∧ (if j = 0 then _ else _) ≤ _; (repeat' split) <;> omega) (fun j hj => by
    rw [cell_of_row w g _ _ T (0, 0) h, cell_of_row w g _ _ T (0, 0) h, cell_of_row w g _ _ T (0, 0) h, cell_of_row w g _ _ T (0, 0) h, cell_of_row w g _ _ T (0, 0) h, cell_of_row w g _ _ T (0, 0) h]
    match j, hj with
    | 0, _ => exact ⟨_, _, _, _, _, _, _, _, _, _, rfl, rfl, rfl, rfl, rfl, rfl⟩
    | 1, _ => exact ⟨_, _, _, _, _, _, _, _, _, _, rfl, rfl, rfl, rfl, rfl, rfl⟩
    | 2, _ => exact ⟨_, _, _, _, _, _, _, _, _, _, rfl, rfl, rfl, rfl, rfl, rfl⟩)
  have hr : bigS (fun j => if j = 0 then n0 else if j = 1 then n1 else n2) (fun j => if j = 0 then m0 else if j = 1 then m1 else m2) (fun j => if j = 0 then n0x else if j = 1 then n1x else n2x) (fun j => if j = 0 then m0x else if j = 1 then m1x else m2x) 3 = false := by
    simp [bigS]; omega
  rw [hr] at hk; exact hk
theorem slarge3b {s0 t0 : Bool} {o0 a0 o0x a0x : Option Addr} {n0 c0 m0 d0 n0x c0x m0x d0x : Nat} {s1 t1 : Bool} {o1 a1 o1x a1x : Option Addr} {n1 c1 m1 d1 n1x c1x m1x d1x : Nat} {s2 t2 : Bool} {o2 a2 o2x a2x : Option Addr} {n2 c2 m2 d2 n2x c2x m2x d2x : Nat} {g : Nat} {w : World} {T : TypeId} (h : w.heap[g]? = some (.cells #[.bool s0, .slice o0 n0 c0, .slice a0 m0 d0, .bool t0, .slice o0x n0x c0x, .slice a0x m0x d0x, .bool s1, .slice o1 n1 c1, .slice a1 m1 d1, .bool t1, .slice o1x n1x c1x, .slice a1x m1x d1x, .bool s2, .slice o2 n2 c2, .slice a2 m2 d2, .bool t2, .slice o2x n2x c2x, .slice a2x m2x d2x] T)) (k0 : n0 ≤ 9223372036854775807 ∧ m0 ≤ 9223372036854775807 ∧ n0x ≤ 9223372036854775807 ∧ m0x ≤ 9223372036854775807) (k1 : n1 ≤ 9223372036854775807 ∧ m1 ≤ 9223372036854775807 ∧ n1x ≤ 9223372036854775807 ∧ m1x ≤ 9223372036854775807) (k2 : n2 ≤ 9223372036854775807 ∧ m2 ≤ 9223372036854775807 ∧ n2x ≤ 9223372036854775807 ∧ m2x ≤ 9223372036854775807) (hb : 6 < n0 ∨ 6 < m0 ∨ 6 < n0x ∨ 6 < m0x ∨ 6 < n1 ∨ 6 < m1 ∨ 6 < n1x ∨ 6 < m1x ∨ 6 < n2 ∨ 6 < m2 ∨ 6 < n2x ∨ 6 < m2x) :
    Calls Tryd.prog 8 #[.slice (some ⟨g, 0, none⟩) 3 3] w (RetV w (.bool true)) := by
  have hk := slarge_any g 3 (fun j => if j = 0 then n0 else if j = 1 then n1 else n2) (fun j => if j = 0 then m0 else if j = 1 then m1 else m2) (fun j => if j = 0 then n0x else if j = 1 then n1x else n2x) (fun j => if j = 0 then m0x else if j = 1 then m1x else m2x) w (by decide) (Array.getElem?_eq_some_iff.1 h).1 (fun j => by show (if j = 0 then _ else _) ≤ _ ∧ (if j = 0 then _ else _) ≤ _ ∧ (if j = 0 then _ else _) ≤ _ ∧ (if j = 0 then _ else _) ≤ _; (repeat' split) <;> omega) (fun j hj => by
    rw [cell_of_row w g _ _ T (0, 0) h, cell_of_row w g _ _ T (0, 0) h, cell_of_row w g _ _ T (0, 0) h, cell_of_row w g _ _ T (0, 0) h, cell_of_row w g _ _ T (0, 0) h, cell_of_row w g _ _ T (0, 0) h]
    match j, hj with
    | 0, _ => exact ⟨_, _, _, _, _, _, _, _, _, _, rfl, rfl, rfl, rfl, rfl, rfl⟩
    | 1, _ => exact ⟨_, _, _, _, _, _, _, _, _, _, rfl, rfl, rfl, rfl, rfl, rfl⟩
    | 2, _ => exact ⟨_, _, _, _, _, _, _, _, _, _, rfl, rfl, rfl, rfl, rfl, rfl⟩)
  have hr : bigS (fun j => if j = 0 then n0 else if j = 1 then n1 else n2) (fun j => if j = 0 then m0 else if j = 1 then m1 else m2) (fun j => if j = 0 then n0x else if j = 1 then n1x else n2x) (fun j => if j = 0 then m0x else if j = 1 then m1x else m2x) 3 = true := by
    simp [bigS]; omega
  rw [hr] at hk; exact hk
end Go.Proofs.YtaefimegiobkmaaDoor
/-
  faultlinelaw03.same: intervals with the same ends have the same fields.
  Conditions: each theorem's own.
-/
namespace Go.Proofs.YtaefimegiobkmaaDoor
open Go.RowKit Go.ChangeShapes Go.WideShapes

set_option maxRecDepth 100000 in
set_option maxHeartbeats 3200000 in
theorem spsame_any (va : Value) (a : Rat × Rat) (vb : Value) (w : World) (ha : IsSp w va a) (hb : IsSp w vb a) (la1 : rl a.1 ≤ 39000) (la2 : rl a.2 ≤ 39000) :
    Calls Tryd.prog 10 #[va, vb] w (RetV w (.bool true)) := by
  have HBW := Lib.hid (Below.refl w.heap.size w)
  have kz0 : rl 0 ≤ 1 := by rw [rl_zero]; exact Nat.le_refl _
  obtain ⟨qa, oa, na, ka, pa, ma, ra, qax, oax, nax, kax, pax, max, rax, rfl⟩ := ha.shape
  obtain ⟨qb, ob, nb, kb, pb, mb, rb, qbx, obx, nbx, kbx, pbx, mbx, rbx, rfl⟩ := hb.shape
  have Fa := Lib.hid ha; clear ha
  have Fal := Lib.hid (isSp_ends Fa.out).1; have Fah := Lib.hid (isSp_ends Fa.out).2
  have Fb := Lib.hid hb; clear hb
  have Fbl := Lib.hid (isSp_ends Fb.out).1; have Fbh := Lib.hid (isSp_ends Fb.out).2
  obtain ⟨w1, hw1⟩ : ∃ w1, w1 = w.alloc (.cells #[.bool qa, .slice oa na ka, .slice pa ma ra, .bool qax, .slice oax nax kax, .slice pax max rax] 26) := ⟨_, rfl⟩
  have hb1 : Below w.heap.size w w1 := by rw [hw1]; exact (Below.refl _ _).alloc (Nat.le_refl _) _
  have hx1 := heap_alloc_new w (.cells #[.bool qa, .slice oa na ka, .slice pa ma ra, .bool qax, .slice oax nax kax, .slice pax max rax] 26)
  obtain ⟨g1, hg1⟩ : ∃ g, g = w.heap.size := ⟨_, rfl⟩
  rw [← hw1, ← hg1] at hx1
  have lw1 : w.heap.size ≤ g1 := by rw [hg1]; exact HBW.out.size
  have HW1 := Lib.hid hw1; have HG1 := Lib.hid hg1; clear hw1 hg1
  have HB1 := Lib.hid (HBW.out.step hb1)
  have Fa := Lib.hid (Fa.out.below hb1)
  have Fal := Lib.hid (Fal.out.below hb1)
  have Fah := Lib.hid (Fah.out.below hb1)
  have Fb := Lib.hid (Fb.out.below hb1)
  have Fbl := Lib.hid (Fbl.out.below hb1)
  have Fbh := Lib.hid (Fbh.out.below hb1)
  have BX1 := Lib.hid hx1; clear hb1 hx1
  obtain ⟨w2, hw2⟩ : ∃ w2, w2 = w1.alloc (.cells #[.bool qb, .slice ob nb kb, .slice pb mb rb, .bool qbx, .slice obx nbx kbx, .slice pbx mbx rbx] 26) := ⟨_, rfl⟩
  have hb2 : Below w1.heap.size w1 w2 := by rw [hw2]; exact (Below.refl _ _).alloc (Nat.le_refl _) _
  have hx2 := heap_alloc_new w1 (.cells #[.bool qb, .slice ob nb kb, .slice pb mb rb, .bool qbx, .slice obx nbx kbx, .slice pbx mbx rbx] 26)
  obtain ⟨g2, hg2⟩ : ∃ g, g = w1.heap.size := ⟨_, rfl⟩
  rw [← hw2, ← hg2] at hx2
  have lw2 : w.heap.size ≤ g2 := by rw [hg2]; exact HB1.out.size
  have ltBX12 : g1 < g2 := by rw [hg2]; exact below_lt BX1.out
  have hs2 : g2 = w.heap.size + 1 := by rw [hg2, HW1.out]; simp
  have HS2 := Lib.hid hs2; clear hs2
  have HW2 := Lib.hid hw2; have HG2 := Lib.hid hg2; clear hw2 hg2
  have HB2 := Lib.hid (HB1.out.step hb2)
  have Fa := Lib.hid (Fa.out.below hb2)
  have Fal := Lib.hid (Fal.out.below hb2)
  have Fah := Lib.hid (Fah.out.below hb2)
  have Fb := Lib.hid (Fb.out.below hb2)
  have Fbl := Lib.hid (Fbl.out.below hb2)
  have Fbh := Lib.hid (Fbh.out.below hb2)
  have BX1 := Lib.hid (heap_below BX1.out hb2)
  have BX2 := Lib.hid hx2; clear hb2 hx2
  go_enter Tryd.func10, Tryd.ntmps10
  obtain ⟨x1_0, x1_1, x1_2, x1_3, x1_4, x1_5⟩ := row6 BX1.out
  obtain ⟨x2_0, x2_1, x2_2, x2_3, x2_4, x2_5⟩ := row6 BX2.out
  have hs := rat_same _ _ (a.1) w2 Fal.out Fbl.out (by omega)
  have HS := Lib.hid hs; clear hs
  try rw [HW2.out] at x1_0
  try rw [HG2.out] at x1_0
  try rw [HW1.out] at x1_0
  try rw [HG1.out] at x1_0
  try rw [HW2.out] at x1_1
  try rw [HG2.out] at x1_1
  try rw [HW1.out] at x1_1
  try rw [HG1.out] at x1_1
  try rw [HW2.out] at x1_2
  try rw [HG2.out] at x1_2
  try rw [HW1.out] at x1_2
  try rw [HG1.out] at x1_2
  try rw [HW2.out] at x1_3
  try rw [HG2.out] at x1_3
  try rw [HW1.out] at x1_3
  try rw [HG1.out] at x1_3
  try rw [HW2.out] at x1_4
  try rw [HG2.out] at x1_4
  try rw [HW1.out] at x1_4
  try rw [HG1.out] at x1_4
  try rw [HW2.out] at x1_5
  try rw [HG2.out] at x1_5
  try rw [HW1.out] at x1_5
  try rw [HG1.out] at x1_5
  try rw [HW2.out] at x2_0
  try rw [HG2.out] at x2_0
  try rw [HW1.out] at x2_0
  try rw [HG1.out] at x2_0
  try rw [HW2.out] at x2_1
  try rw [HG2.out] at x2_1
  try rw [HW1.out] at x2_1
  try rw [HG1.out] at x2_1
  try rw [HW2.out] at x2_2
  try rw [HG2.out] at x2_2
  try rw [HW1.out] at x2_2
  try rw [HG1.out] at x2_2
  try rw [HW2.out] at x2_3
  try rw [HG2.out] at x2_3
  try rw [HW1.out] at x2_3
  try rw [HG1.out] at x2_3
  try rw [HW2.out] at x2_4
  try rw [HG2.out] at x2_4
  try rw [HW1.out] at x2_4
  try rw [HG1.out] at x2_4
  try rw [HW2.out] at x2_5
  try rw [HG2.out] at x2_5
  try rw [HW1.out] at x2_5
  try rw [HG1.out] at x2_5
  go_wp2_with (with_reducible first | refine pauseCall ?_ | refine pauseLoop ?_ | refine pauseDraw ?_ | refine pauseBody ?_ | refine pauseRounds ?_)
  try rw [← HW1.out]
  try rw [← HW2.out]
  try rw [← HS2.out]
  try rw [← HG1.out]
  try rw [← HG2.out]
  clear x1_0 x1_1 x1_2 x1_3 x1_4 x1_5 x2_0 x2_1 x2_2 x2_3 x2_4 x2_5
  refine Pause.mk ?_
  (with_reducible refine HS.out.mono ?_); rintro e w3 ⟨rfl, hb3⟩
  clear HS
  have HB3 := Lib.hid (HB2.out.step hb3)
  have Fa := Lib.hid (Fa.out.below hb3)
  have Fal := Lib.hid (Fal.out.below hb3)
  have Fah := Lib.hid (Fah.out.below hb3)
  have Fb := Lib.hid (Fb.out.below hb3)
  have Fbl := Lib.hid (Fbl.out.below hb3)
  have Fbh := Lib.hid (Fbh.out.below hb3)
  have BX1 := Lib.hid (heap_below BX1.out hb3)
  have BX2 := Lib.hid (heap_below BX2.out hb3)
  clear hb3
  obtain ⟨x3_0, x3_1, x3_2, x3_3, x3_4, x3_5⟩ := row6 BX1.out
  obtain ⟨x4_0, x4_1, x4_2, x4_3, x4_4, x4_5⟩ := row6 BX2.out
  have hs := rat_same _ _ (a.2) w3 Fah.out Fbh.out (by omega)
  have HS := Lib.hid hs; clear hs
  go_wp2_with (with_reducible first | refine pauseCall ?_ | refine pauseLoop ?_ | refine pauseDraw ?_ | refine pauseBody ?_ | refine pauseRounds ?_)
  clear x3_0 x3_1 x3_2 x3_3 x3_4 x3_5 x4_0 x4_1 x4_2 x4_3 x4_4 x4_5
  refine Pause.mk ?_
  (with_reducible refine HS.out.mono ?_); rintro e w4 ⟨rfl, hb4⟩
  clear HS
  have HB4 := Lib.hid (HB3.out.step hb4)
  have Fa := Lib.hid (Fa.out.below hb4)
  have Fal := Lib.hid (Fal.out.below hb4)
  have Fah := Lib.hid (Fah.out.below hb4)
  have Fb := Lib.hid (Fb.out.below hb4)
  have Fbl := Lib.hid (Fbl.out.below hb4)
  have Fbh := Lib.hid (Fbh.out.below hb4)
  have BX1 := Lib.hid (heap_below BX1.out hb4)
  have BX2 := Lib.hid (heap_below BX2.out hb4)
  clear hb4
  go_wp2_with (with_reducible first | refine pauseCall ?_ | refine pauseLoop ?_ | refine pauseDraw ?_ | refine pauseBody ?_ | refine pauseRounds ?_)
  refine Pause.mk ?_
  go_ret
  exact ⟨by first | rfl | (simp; done), HB4.out⟩
end Go.Proofs.YtaefimegiobkmaaDoor
/-
  The texts of intervals.
  Conditions: each theorem's own.
-/
namespace Go.Proofs.YtaefimegiobkmaaDoor
open Go.RowKit Go.ChangeShapes Go.WideShapes

/-- the text of an interval -/
def stx (a : Rat × Rat) : List UInt8 := rtx a.1 ++ [46, 46] ++ rtx a.2
theorem rtx_len2 {q : Rat} {k : Nat} (h : rl q ≤ k) (hk : 0 < k) : (rtx q).length ≤ 20 * k + 2 := by
  unfold rtx
  have h1 := decL_words (Nat.le_trans (rl_n q) h) hk
  have h2 := decL_words (Nat.le_trans (rl_d q) h) hk
  rw [List.length_append, List.length_append]
  have e1 : (if ng q = true then [(45 : UInt8)] else []).length ≤ 1 := by split <;> simp
  have e2 : (if q.den = 1 then [] else (47 : UInt8) :: decL q.den).length ≤ 1 + (decL q.den).length := by split <;> simp; omega
  omega
set_option maxRecDepth 100000 in
set_option maxHeartbeats 3200000 in
theorem stext_any (va : Value) (a : Rat × Rat) (w : World) (ha : SpIs w va a) (la1 : rl a.1 ≤ 39000) (la2 : rl a.2 ≤ 39000) :
    Calls Tryd.prog 33 #[va] w (RetV w (.string ⟨(stx a).toArray⟩)) := by
  have HBW := Lib.hid (Below.refl w.heap.size w)
  have kz0 : rl 0 ≤ 1 := by rw [rl_zero]; exact Nat.le_refl _
  obtain ⟨qa, oa, na, ka, pa, ma, ra, qax, oax, nax, kax, pax, max, rax, rfl⟩ := ha.shape
  have hla := ha.rl; have hoa := ha.ok; obtain ⟨hlaa, hlab⟩ := hla
  have hoa := Lib.hid hoa
  obtain ⟨B1, hB1⟩ : ∃ B, B = (⟨(rtx ((a).1)).toArray⟩ : ByteArray) := ⟨_, rfl⟩
  obtain ⟨B2, hB2⟩ : ∃ B, B = (⟨(rtx ((a).2)).toArray⟩ : ByteArray) := ⟨_, rfl⟩
  have z1 : B1.size ≤ 1000000 := by rw [hB1]; have := rtx_len2 la1 (by decide); simp [ByteArray.size]; omega
  have z2 : B2.size ≤ 1000000 := by rw [hB2]; have := rtx_len2 la2 (by decide); simp [ByteArray.size]; omega
  rw [show (⟨(stx a).toArray⟩ : ByteArray) = B1 ++ ⟨#[46, 46]⟩ ++ B2 from by rw [hB1, hB2]; unfold stx; apply ByteArray.ext; simp]
  have z3 : (B1 ++ ⟨#[46, 46]⟩).size ≤ 1000002 := by rw [ByteArray.size_append]; exact Nat.add_le_add z1 (Nat.le_refl 2)
  have z4 : (⟨#[46, 46]⟩ : ByteArray).size = 2 := rfl
  have HT1 := Lib.hid hB1; have HT2 := Lib.hid hB2; clear hB1 hB2
  have Fa := Lib.hid ha; clear ha
  obtain ⟨w1, hw1⟩ : ∃ w1, w1 = w.alloc (.cells #[.bool qa, .slice oa na ka, .slice pa ma ra, .bool qax, .slice oax nax kax, .slice pax max rax] 26) := ⟨_, rfl⟩
  have hb1 : Below w.heap.size w w1 := by rw [hw1]; exact (Below.refl _ _).alloc (Nat.le_refl _) _
  have hx1 := heap_alloc_new w (.cells #[.bool qa, .slice oa na ka, .slice pa ma ra, .bool qax, .slice oax nax kax, .slice pax max rax] 26)
  obtain ⟨g1, hg1⟩ : ∃ g, g = w.heap.size := ⟨_, rfl⟩
  rw [← hw1, ← hg1] at hx1
  have lw1 : w.heap.size ≤ g1 := by rw [hg1]; exact HBW.out.size
  have HW1 := Lib.hid hw1; have HG1 := Lib.hid hg1; clear hw1 hg1
  have HB1 := Lib.hid (HBW.out.step hb1)
  have Fa := Lib.hid (Fa.out.below hb1)
  have BX1 := Lib.hid hx1; clear hb1 hx1
  go_enter Tryd.func33, Tryd.ntmps33
  obtain ⟨x1_0, x1_1, x1_2, x1_3, x1_4, x1_5⟩ := row6 BX1.out
  have hs := norm_any _ (a) w1 Fa.out
  have HS := Lib.hid hs; clear hs
  try rw [HW1.out] at x1_0
  try rw [HG1.out] at x1_0
  try rw [HW1.out] at x1_1
  try rw [HG1.out] at x1_1
  try rw [HW1.out] at x1_2
  try rw [HG1.out] at x1_2
  try rw [HW1.out] at x1_3
  try rw [HG1.out] at x1_3
  try rw [HW1.out] at x1_4
  try rw [HG1.out] at x1_4
  try rw [HW1.out] at x1_5
  try rw [HG1.out] at x1_5
  go_wp2_with (with_reducible first | refine pauseCall ?_ | refine pauseLoop ?_ | refine pauseDraw ?_ | refine pauseBody ?_ | refine pauseRounds ?_)
  try rw [← HW1.out]
  try rw [← HG1.out]
  clear x1_0 x1_1 x1_2 x1_3 x1_4 x1_5
  refine Pause.mk ?_
  (with_reducible refine HS.out.mono ?_); rintro e w2 ⟨v2, rfl, hb2, hn2⟩
  clear HS
  have HB2 := Lib.hid (HB1.out.step hb2)
  have Fa := Lib.hid (Fa.out.below hb2)
  have BX1 := Lib.hid (heap_below BX1.out hb2)
  have N2 := Lib.hid hn2; clear hn2
  obtain ⟨s2, o2, n2, c2, a2, m2, d2, s2x, o2x, n2x, c2x, a2x, m2x, d2x, rfl⟩ := N2.out.shape
  have N2l := Lib.hid (isSp_ends N2.out).1; have N2h := Lib.hid (isSp_ends N2.out).2
  clear hb2
  go_wp2_with (with_reducible refine wpList_pauseS ?_)
  refine wpList_stL g1 0 [.bool s2, .slice o2 n2 c2, .slice a2 m2 d2, .bool s2x, .slice o2x n2x c2x, .slice a2x m2x d2x] BX1.out rfl rfl (Nat.le_of_ble_eq_true rfl) (by kernel_rfl) rfl ?_
  intro w3 hp3
  have Fa := Lib.hid (putL_SS hp3 Fa.out BX1.out noW6)
  have N2 := Lib.hid (putL_SI hp3 N2.out BX1.out noW6)
  have N2l := Lib.hid (putL_I hp3 N2l.out BX1.out noW6)
  have N2h := Lib.hid (putL_I hp3 N2h.out BX1.out noW6)
  have nx3 : w3.heap[g1]? = some (.cells #[.bool s2, .slice o2 n2 c2, .slice a2 m2 d2, .bool s2x, .slice o2x n2x c2x, .slice a2x m2x d2x] 26) := by rw [hp3]; exact putL_6 BX1.out
  have BX1 := Lib.hid nx3; clear nx3
  have HB3 := Lib.hid (putLb hp3 HB2.out (by omega))
  clear hp3
  go_wp2_with (with_reducible first | refine pauseCall ?_ | refine pauseLoop ?_ | refine pauseDraw ?_ | refine pauseBody ?_ | refine pauseRounds ?_)
  refine Pause.mk ?_
  refine wp_region_facts (A := ?aa3) (w := w3) 6 [3] (by kernel_rfl) (Fl [KEq (.pointer (some ⟨g1, 0, none⟩)), KEq (.agg #[.bool s2, .slice o2 n2 c2, .slice a2 m2 d2]), KEq (.string B1), KEq (.string ((B1 : ByteArray) ++ (⟨#[46, 46]⟩ : ByteArray))), KEq (.pointer (some ⟨g1, 3, none⟩)), KEq (.agg #[.bool s2x, .slice o2x n2x c2x, .slice a2x m2x d2x])]) (fun i => false) (by kernel_rfl) ?hq3 (monoL (monoC (kEq _) (monoC (kEq _) (monoC (kEq _) (monoC (kEq _) (monoC (kEq _) (monoC (kEq _) monoN))))))) ?ha3 ?st3 ?tl3
  case hq3 =>
    intro c a d v w h
    first | (simp only [Exit.then] at h ⊢; exact h) | (simp only [Exit.inBlock, Exit.then] at h ⊢; exact h) | exact h
  case ha3 =>
    intro vals
    simp only [putsTo, dstOf, if_true, Act.put, List.setIfInBounds_toArray, List.set_cons_zero, List.set_cons_succ, List.getElem?_toArray, List.getElem?_cons_zero, List.getElem?_cons_succ, Option.bind_some]
    exact rfl
  case st3 =>
    simp only [List.take_succ_cons, List.take_zero]
    refine stepsOK_cons rfl rfl ?_ (stepsOK_cons rfl rfl ?_ (stepsOK_cons rfl rfl ?_ (stepsOK_pure rfl ?_ (stepsOK_cons rfl rfl ?_ (stepsOK_cons rfl rfl ?_ (stepsOK_nil))))))
    · intro vals w1 hb hd
      refine stepOK_value (v := (.pointer (some ⟨g1, 0, none⟩))) (w' := w1) (by go_simp) (leaves_mk (Below.refl _ _) rfl (fun h => by cases h))
    · intro vals w1 hb hd
      have d0 : KEq (.pointer (some ⟨g1, 0, none⟩)) (vals 0) w1 := hd 0 (by kernel_rfl)
      rw [show vals 0 = _ from d0]
      obtain ⟨e0, e1, e2, e3, e4, e5⟩ := row6 (heap_below BX1.out hb)
      refine stepOK_value (v := .agg #[.bool s2, .slice o2 n2 c2, .slice a2 m2 d2]) (w' := w1) (by go_simp) (leaves_mk (Below.refl _ _) rfl (fun h => by cases h))
    · intro vals w1 hb hd
      have d1 : KEq (.agg #[.bool s2, .slice o2 n2 c2, .slice a2 m2 d2]) (vals 1) w1 := hd 1 (by kernel_rfl)
      have z1 : vals 1 = _ := d1
      have hs := textq_any _ ((a).1) w1 ((N2l.out.below hb).is (by omega))
      rw [← HT1.out] at hs
      have HS := Lib.hid hs; clear hs
      rw [z1]; clear z1
      clear d1 hd
      refine stepOK_call (by go_simp; first | done | exact ⟨⟨rfl, rfl⟩, rfl⟩) ?_
      (with_reducible refine HS.out.mono ?_); rintro e w2 ⟨rfl, hb2⟩
      exact ⟨_, rfl, leaves_mk hb2 rfl (fun h => by cases h)⟩
    · intro vals w1 hb hd
      have d2 : KEq (.string B1) (vals 2) w1 := hd 2 (by kernel_rfl)
      rw [show vals 2 = _ from d2]
      refine stepPure_value (v := (.string ((B1 : ByteArray) ++ (⟨#[46, 46]⟩ : ByteArray)))) (fun w => by first | (go_simp; done) | (go_simp; rw [if_neg (by omega)]) | (go_simp; rw [if_neg (by simp; omega)]) | (go_simp; omega) | (go_simp; split <;> first | rfl | (exfalso; omega))) (leaves_mk (Below.refl _ _) rfl (fun h => by cases h))
    · intro vals w1 hb hd
      refine stepOK_value (v := (.pointer (some ⟨g1, 3, none⟩))) (w' := w1) (by go_simp) (leaves_mk (Below.refl _ _) rfl (fun h => by cases h))
    · intro vals w1 hb hd
      have d4 : KEq (.pointer (some ⟨g1, 3, none⟩)) (vals 4) w1 := hd 4 (by kernel_rfl)
      rw [show vals 4 = _ from d4]
      obtain ⟨e0, e1, e2, e3, e4, e5⟩ := row6 (heap_below BX1.out hb)
      refine stepOK_value (v := .agg #[.bool s2x, .slice o2x n2x c2x, .slice a2x m2x d2x]) (w' := w1) (by go_simp) (leaves_mk (Below.refl _ _) rfl (fun h => by cases h))
  case tl3 =>
    intro vals w4 hb4 hf hdis
    simp only [List.drop_succ_cons, List.drop_zero]
    have z3 : vals 3 = _ := hf 3 (by decide)
    try rw [z3]
    clear z3
    have z5 : vals 5 = _ := hf 5 (by decide)
    try rw [z5]
    clear z5
    clear hf hdis
    have HB4 := Lib.hid (HB3.out.step hb4)
    have Fa := Lib.hid (Fa.out.below hb4)
    have N2 := Lib.hid (N2.out.below hb4)
    have N2l := Lib.hid (N2l.out.below hb4)
    have N2h := Lib.hid (N2h.out.below hb4)
    have BX1 := Lib.hid (heap_below BX1.out hb4)
    clear hb4
    skip
    have hs := textq_any _ ((a).2) w4 (N2h.out.is (by omega))
    rw [← HT2.out] at hs
    have HS := Lib.hid hs; clear hs
    go_wp2_with (with_reducible first | refine pauseCall ?_ | refine pauseLoop ?_ | refine pauseDraw ?_ | refine pauseBody ?_ | refine pauseRounds ?_)
    refine Pause.mk ?_
    (with_reducible refine HS.out.mono ?_); rintro e w5 ⟨rfl, hb5⟩
    clear HS
    have HB5 := Lib.hid (HB4.out.step hb5)
    have Fa := Lib.hid (Fa.out.below hb5)
    have N2 := Lib.hid (N2.out.below hb5)
    have N2l := Lib.hid (N2l.out.below hb5)
    have N2h := Lib.hid (N2h.out.below hb5)
    have BX1 := Lib.hid (heap_below BX1.out hb5)
    clear hb5
    go_wp2_with (with_reducible first | refine pauseCall ?_ | refine pauseLoop ?_ | refine pauseDraw ?_ | refine pauseBody ?_ | refine pauseRounds ?_)
    refine Pause.mk ?_
    go_ret
    exact ⟨by first | rfl | (simp; done), HB5.out⟩
end Go.Proofs.YtaefimegiobkmaaDoor
