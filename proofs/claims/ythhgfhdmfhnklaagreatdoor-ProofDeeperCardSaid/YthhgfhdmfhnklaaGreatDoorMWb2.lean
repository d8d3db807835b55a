/-
  The texts Span2, Span3, Span5, OpenRs, one behind the other (what the law leans on, the rest).
  Conditions: each theorem's own.
-/
import Derived.Test.YthhgfhdmfhnklaaGreatDoorMWb1
/-
  span.of: the least interval around some numbers.
  Conditions: each theorem's own.
-/
namespace Go.Proofs.YthhgfhdmfhnklaaGreatDoor
open Go.RowKit Go.ChangeShapes Go.WideShapes

/-- the least, the greatest of some numbers: the first one, then those from place s on -/
def amn (q : Nat → Rat) (s : Nat) : Nat → Rat
  | 0 => q 0
  | k + 1 => mn (amn q s k) (q (k + s))
def amx (q : Nat → Rat) (s : Nat) : Nat → Rat
  | 0 => q 0
  | k + 1 => mx (amx q s k) (q (k + s))
theorem rl_am {q : Nat → Rat} {s m b : Nat} (h0 : rl (q 0) ≤ b) (h : ∀ j, j < m → rl (q (j + s)) ≤ b) : ∀ k, k ≤ m → rl (amn q s k) ≤ b ∧ rl (amx q s k) ≤ b := by
  intro k
  induction k with
  | zero => intro _; exact ⟨h0, h0⟩
  | succ k ih =>
    intro hk
    obtain ⟨i1, i2⟩ := ih (by omega)
    have h1 := rl_mn (amn q s k) (q (k + s)); have h2 := rl_mx (amx q s k) (q (k + s)); have h3 := h k (by omega)
    simp only [amn, amx]; omega
theorem cells3 {w w' : World} {g a b c : Nat} {x y z : Value} (hb : Below w.heap.size w w') (hg : g < w.heap.size) (h : w.cell? ⟨g, a, none⟩ = some x ∧ w.cell? ⟨g, b, none⟩ = some y ∧ w.cell? ⟨g, c, none⟩ = some z) :
    w'.cell? ⟨g, a, none⟩ = some x ∧ w'.cell? ⟨g, b, none⟩ = some y ∧ w'.cell? ⟨g, c, none⟩ = some z :=
  ⟨(hb.cell (p := ⟨g, a, none⟩) hg).trans h.1, (hb.cell (p := ⟨g, b, none⟩) hg).trans h.2.1, (hb.cell (p := ⟨g, c, none⟩) hg).trans h.2.2⟩
/-- a list of n fractions in memory, each with at most b words -/
def RatsAt (w : World) (g n b : Nat) (q : Nat → Rat) : Prop := ∀ j, j < n → ∃ s o k c a p d, (w.cell? ⟨g, j * 3, none⟩ = some (.bool s) ∧ w.cell? ⟨g, j * 3 + 1, none⟩ = some (.slice o k c) ∧ w.cell? ⟨g, j * 3 + 2, none⟩ = some (.slice a p d)) ∧ RatIs w (.agg #[.bool s, .slice o k c, .slice a p d]) (q j) ∧ rl (q j) ≤ b
set_option maxRecDepth 100000 in
set_option maxHeartbeats 6400000 in
theorem listOf_any {g m : Nat} (q : Nat → Rat) (w : World) (hm : m ≤ 1000) (hm0 : 0 < m) (hg : g < w.heap.size) (hV : RatsAt w g (m + 1) 40000 q) :
    Calls Tryz.prog 91 #[.slice (some ⟨g, 0, none⟩) (m + 1) (m + 1)] w (RetSp w (amn q 1 m, amx q 1 m)) := by
  have HBW := Lib.hid (Below.refl w.heap.size w)
  obtain ⟨t0, o0, n0, c0, a0, p0, d0, hC0, hF0, hL0⟩ := hV 0 (by omega)
  have hAm := rl_am (q := q) (s := 1) (m := m) (b := 40000) hL0 (fun j hj => by obtain ⟨_, _, _, _, _, _, _, _, _, h⟩ := hV (j + 1) (by omega); exact h)
  have HAM := Lib.hid hAm; have HV := Lib.hid hV; clear hAm hV
  have C0 := Lib.hid (show w.cell? ⟨g, 0, none⟩ = _ ∧ w.cell? ⟨g, 1, none⟩ = _ ∧ w.cell? ⟨g, 2, none⟩ = _ from by simpa using hC0); clear hC0
  have F0 := Lib.hid hF0; clear hF0
  have fm0 : (m = 0) = False := eq_false (by omega)
  have fl0 : decide ((0 : Int) < (((m + 1) : Nat) : Int)) = true := decide_eq_true (by omega)
  obtain ⟨w1, hw1⟩ : ∃ w1, w1 = w.alloc (.cells #[.bool false, .slice none 0 0, .slice none 0 0, .bool false, .slice none 0 0, .slice none 0 0] 56) := ⟨_, rfl⟩
  have hb1 : Below w.heap.size w w1 := by rw [hw1]; exact (Below.refl _ _).alloc (Nat.le_refl _) _
  have hx1 := heap_alloc_new w (.cells #[.bool false, .slice none 0 0, .slice none 0 0, .bool false, .slice none 0 0, .slice none 0 0] 56)
  obtain ⟨g1, hg1⟩ : ∃ g, g = w.heap.size := ⟨_, rfl⟩
  rw [← hw1, ← hg1] at hx1
  have lw1 : w.heap.size ≤ g1 := by rw [hg1]; exact HBW.out.size
  have HW1 := Lib.hid hw1; have HG1 := Lib.hid hg1; clear hw1 hg1
  have HB1 := Lib.hid (HBW.out.step hb1)
  have F0 := Lib.hid (F0.out.below hb1)
  have BX1 := Lib.hid hx1; clear hb1 hx1
  go_enter Tryz.func91, Tryz.ntmps91
  go_wp2_with (with_reducible first | refine pauseCall ?_ | refine pauseLoop ?_ | refine pauseDraw ?_ | refine pauseBody ?_ | refine pauseRounds ?_)
  try rw [← HW1.out]
  try rw [← HG1.out]
  refine Pause.mk ?_
  have k1 := rl_mn (q 0) (q 0)
  have k2 := rl_mx (q 0) (q 0)
  refine wp_region_facts (A := ?aa3) (w := w1) 16 [] (by kernel_rfl) (Fl [KEq (.slice (some ⟨g, 0, none⟩) (m + 1) (m + 1)), KEq (.pointer (some ⟨g, 0, none⟩)), KEq (.agg #[.bool t0, .slice o0 n0 c0, .slice a0 p0 d0]), KEq (.slice (some ⟨g, 0, none⟩) (m + 1) (m + 1)), KEq (.pointer (some ⟨g, 0, none⟩)), KEq (.agg #[.bool t0, .slice o0 n0 c0, .slice a0 p0 d0]), KIs (mn (q 0) (q 0)), KEq (.slice (some ⟨g, 0, none⟩) (m + 1) (m + 1)), KEq (.pointer (some ⟨g, 0, none⟩)), KEq (.agg #[.bool t0, .slice o0 n0 c0, .slice a0 p0 d0]), KEq (.slice (some ⟨g, 0, none⟩) (m + 1) (m + 1)), KEq (.pointer (some ⟨g, 0, none⟩)), KEq (.agg #[.bool t0, .slice o0 n0 c0, .slice a0 p0 d0]), KIs (mx (q 0) (q 0)), KSp ((mn (q 0) (q 0), mx (q 0) (q 0))), KNew w1.heap.size #[.bool false, .slice none 0 0, .slice none 0 0, .bool false, .slice none 0 0, .slice none 0 0] 56]) (fun i => i == 15) (by kernel_rfl) ?hq3 (monoL (monoC (kEq _) (monoC (kEq _) (monoC (kEq _) (monoC (kEq _) (monoC (kEq _) (monoC (kEq _) (monoC (kIs _) (monoC (kEq _) (monoC (kEq _) (monoC (kEq _) (monoC (kEq _) (monoC (kEq _) (monoC (kEq _) (monoC (kIs _) (monoC (kSp _) (monoC (kNew _ _ _) monoN))))))))))))))))) ?ha3 ?st3 ?tl3
  case hq3 =>
    intro c a d v w h
    first | (simp only [Exit.then] at h ⊢; exact h) | (simp only [Exit.inBlock, Exit.then] at h ⊢; exact h) | exact h
  case ha3 =>
    intro vals
    simp only [putsTo, dstOf, if_true, Act.put, List.setIfInBounds_toArray, List.set_cons_zero, List.set_cons_succ, List.getElem?_toArray, List.getElem?_cons_zero, List.getElem?_cons_succ, Option.bind_some]
    exact rfl
  case st3 =>
    simp only [List.take_succ_cons, List.take_zero]
    refine stepsOK_cons rfl rfl ?_ (stepsOK_cons rfl rfl ?_ (stepsOK_cons rfl rfl ?_ (stepsOK_cons rfl rfl ?_ (stepsOK_cons rfl rfl ?_ (stepsOK_cons rfl rfl ?_ (stepsOK_cons rfl rfl ?_ (stepsOK_cons rfl rfl ?_ (stepsOK_cons rfl rfl ?_ (stepsOK_cons rfl rfl ?_ (stepsOK_cons rfl rfl ?_ (stepsOK_cons rfl rfl ?_ (stepsOK_cons rfl rfl ?_ (stepsOK_cons rfl rfl ?_ (stepsOK_cons rfl rfl ?_ (stepsOK_cons rfl rfl ?_ (stepsOK_nil))))))))))))))))
    · intro vals w1 hb hd
      refine stepOK_value (v := (.slice (some ⟨g, 0, none⟩) (m + 1) (m + 1))) (w' := w1) (by go_simp) (leaves_mk (Below.refl _ _) rfl (fun h => by cases h))
    · intro vals w1 hb hd
      have d0 : KEq (.slice (some ⟨g, 0, none⟩) (m + 1) (m + 1)) (vals 0) w1 := hd 0 (by kernel_rfl)
      rw [show vals 0 = _ from d0]
      refine stepOK_value (v := (.pointer (some ⟨g, 0, none⟩))) (w' := w1) (by go_simp) (leaves_mk (Below.refl _ _) rfl (fun h => by cases h))
    · intro vals w1 hb hd
      have d1 : KEq (.pointer (some ⟨g, 0, none⟩)) (vals 1) w1 := hd 1 (by kernel_rfl)
      rw [show vals 1 = _ from d1]
      obtain ⟨e0, e1, e2⟩ := cells3 (HB1.out.step hb) hg C0.out
      refine stepOK_value (v := .agg #[.bool t0, .slice o0 n0 c0, .slice a0 p0 d0]) (w' := w1) (by go_simp) (leaves_mk (Below.refl _ _) rfl (fun h => by cases h))
    · intro vals w1 hb hd
      refine stepOK_value (v := (.slice (some ⟨g, 0, none⟩) (m + 1) (m + 1))) (w' := w1) (by go_simp) (leaves_mk (Below.refl _ _) rfl (fun h => by cases h))
    · intro vals w1 hb hd
      have d3 : KEq (.slice (some ⟨g, 0, none⟩) (m + 1) (m + 1)) (vals 3) w1 := hd 3 (by kernel_rfl)
      rw [show vals 3 = _ from d3]
      refine stepOK_value (v := (.pointer (some ⟨g, 0, none⟩))) (w' := w1) (by go_simp) (leaves_mk (Below.refl _ _) rfl (fun h => by cases h))
    · intro vals w1 hb hd
      have d4 : KEq (.pointer (some ⟨g, 0, none⟩)) (vals 4) w1 := hd 4 (by kernel_rfl)
      rw [show vals 4 = _ from d4]
      obtain ⟨e0, e1, e2⟩ := cells3 (HB1.out.step hb) hg C0.out
      refine stepOK_value (v := .agg #[.bool t0, .slice o0 n0 c0, .slice a0 p0 d0]) (w' := w1) (by go_simp) (leaves_mk (Below.refl _ _) rfl (fun h => by cases h))
    · intro vals w1 hb hd
      have d2 : KEq (.agg #[.bool t0, .slice o0 n0 c0, .slice a0 p0 d0]) (vals 2) w1 := hd 2 (by kernel_rfl)
      have d5 : KEq (.agg #[.bool t0, .slice o0 n0 c0, .slice a0 p0 d0]) (vals 5) w1 := hd 5 (by kernel_rfl)
      have z2 : vals 2 = _ := d2
      have z5 : vals 5 = _ := d5
      have hs := minq_any _ (q 0) _ (q 0) w1 (F0.out.below hb) (F0.out.below hb) (by omega) (by omega)
      have HS := Lib.hid hs; clear hs
      rw [z2]; clear z2
      rw [z5]; clear z5
      clear d2 d5 hd
      refine stepOK_call (by go_simp; first | done | exact ⟨⟨rfl, rfl⟩, rfl⟩) ?_
      (with_reducible refine HS.out.mono ?_); rintro e w2 ⟨v, rfl, hb2, hn⟩
      exact ⟨v, rfl, leaves_mk hb2 hn (fun h => by cases h)⟩
    · intro vals w1 hb hd
      refine stepOK_value (v := (.slice (some ⟨g, 0, none⟩) (m + 1) (m + 1))) (w' := w1) (by go_simp) (leaves_mk (Below.refl _ _) rfl (fun h => by cases h))
    · intro vals w1 hb hd
      have d7 : KEq (.slice (some ⟨g, 0, none⟩) (m + 1) (m + 1)) (vals 7) w1 := hd 7 (by kernel_rfl)
      rw [show vals 7 = _ from d7]
      refine stepOK_value (v := (.pointer (some ⟨g, 0, none⟩))) (w' := w1) (by go_simp) (leaves_mk (Below.refl _ _) rfl (fun h => by cases h))
    · intro vals w1 hb hd
      have d8 : KEq (.pointer (some ⟨g, 0, none⟩)) (vals 8) w1 := hd 8 (by kernel_rfl)
      rw [show vals 8 = _ from d8]
      obtain ⟨e0, e1, e2⟩ := cells3 (HB1.out.step hb) hg C0.out
      refine stepOK_value (v := .agg #[.bool t0, .slice o0 n0 c0, .slice a0 p0 d0]) (w' := w1) (by go_simp) (leaves_mk (Below.refl _ _) rfl (fun h => by cases h))
    · intro vals w1 hb hd
      refine stepOK_value (v := (.slice (some ⟨g, 0, none⟩) (m + 1) (m + 1))) (w' := w1) (by go_simp) (leaves_mk (Below.refl _ _) rfl (fun h => by cases h))
    · intro vals w1 hb hd
      have d10 : KEq (.slice (some ⟨g, 0, none⟩) (m + 1) (m + 1)) (vals 10) w1 := hd 10 (by kernel_rfl)
      rw [show vals 10 = _ from d10]
      refine stepOK_value (v := (.pointer (some ⟨g, 0, none⟩))) (w' := w1) (by go_simp) (leaves_mk (Below.refl _ _) rfl (fun h => by cases h))
    · intro vals w1 hb hd
      have d11 : KEq (.pointer (some ⟨g, 0, none⟩)) (vals 11) w1 := hd 11 (by kernel_rfl)
      rw [show vals 11 = _ from d11]
      obtain ⟨e0, e1, e2⟩ := cells3 (HB1.out.step hb) hg C0.out
      refine stepOK_value (v := .agg #[.bool t0, .slice o0 n0 c0, .slice a0 p0 d0]) (w' := w1) (by go_simp) (leaves_mk (Below.refl _ _) rfl (fun h => by cases h))
    · intro vals w1 hb hd
      have d9 : KEq (.agg #[.bool t0, .slice o0 n0 c0, .slice a0 p0 d0]) (vals 9) w1 := hd 9 (by kernel_rfl)
      have d12 : KEq (.agg #[.bool t0, .slice o0 n0 c0, .slice a0 p0 d0]) (vals 12) w1 := hd 12 (by kernel_rfl)
      have z9 : vals 9 = _ := d9
      have z12 : vals 12 = _ := d12
      have hs := maxq_any _ (q 0) _ (q 0) w1 (F0.out.below hb) (F0.out.below hb) (by omega) (by omega)
      have HS := Lib.hid hs; clear hs
      rw [z9]; clear z9
      rw [z12]; clear z12
      clear d9 d12 hd
      refine stepOK_call (by go_simp; first | done | exact ⟨⟨rfl, rfl⟩, rfl⟩) ?_
      (with_reducible refine HS.out.mono ?_); rintro e w2 ⟨v, rfl, hb2, hn⟩
      exact ⟨v, rfl, leaves_mk hb2 hn (fun h => by cases h)⟩
    · intro vals w1 hb hd
      have d6 : KIs (mn (q 0) (q 0)) (vals 6) w1 := hd 6 (by kernel_rfl)
      have R6 : Hid (IsR w1 (vals 6) (mn (q 0) (q 0))) := Lib.hid d6
      have d13 : KIs (mx (q 0) (q 0)) (vals 13) w1 := hd 13 (by kernel_rfl)
      have R13 : Hid (IsR w1 (vals 13) (mx (q 0) (q 0))) := Lib.hid d13
      obtain ⟨sx, ox, nx, cx, ax, mx, ex, zx⟩ := R6.out.shape
      have qx := R6.out; rw [zx] at qx; rw [zx]
      obtain ⟨sy, oy, ny, cy, ay, my, ey, zy⟩ := R13.out.shape
      have qy := R13.out; rw [zy] at qy; rw [zy]
      refine stepOK_value (v := .agg #[.bool sx, .slice ox nx cx, .slice ax mx ex, .bool sy, .slice oy ny cy, .slice ay my ey]) (w' := w1) (by go_simp) (leaves_mk (Below.refl _ _) (isSp_of qx qy) (fun h => by cases h))
    · intro vals w1 hb hd
      refine stepOK_value (v := .pointer (some ⟨w1.heap.size, 0, none⟩)) (w' := w1.alloc (.cells #[.bool false, .slice none 0 0, .slice none 0 0, .bool false, .slice none 0 0, .slice none 0 0] 56)) (by go_simp) (leaves_mk ((Below.refl _ _).alloc (Nat.le_refl _) _) ⟨_, hb.size, rfl, heap_alloc_new _ _⟩ (fun _ => ⟨rfl, by simp⟩))
  case tl3 =>
    intro vals w2 hb2 hf hdis
    simp only [List.drop_succ_cons, List.drop_zero]
    obtain ⟨u3_14, hu14⟩ : ∃ u, u = vals 14 := ⟨_, rfl⟩
    have hn3_14 : IsSp w2 (vals 14) ((mn (q 0) (q 0), mx (q 0) (q 0))) := hf 14 (by decide)
    rw [← hu14] at hn3_14 ⊢; clear hu14
    obtain ⟨g3_15, hg3_15, ev15, hz3_15⟩ : KNew w1.heap.size #[.bool false, .slice none 0 0, .slice none 0 0, .bool false, .slice none 0 0, .slice none 0 0] 56 (vals 15) w2 := hf 15 (by decide)
    have eq15 := ev15
    rw [ev15]; clear ev15
    have lw3_15 : w.heap.size ≤ g3_15 := Nat.le_trans HB1.out.size hg3_15
    have ltBX13_15 : g1 < g3_15 := Nat.lt_of_lt_of_le (below_lt BX1.out) hg3_15
    clear hf hdis eq15
    have HB2 := Lib.hid (HB1.out.step hb2)
    have F0 := Lib.hid (F0.out.below hb2)
    have BX1 := Lib.hid (heap_below BX1.out hb2)
    clear hb2
    have BX3_15 := Lib.hid hz3_15; clear hz3_15 hg3_15
    have N3_14 := Lib.hid hn3_14; clear hn3_14
    obtain ⟨s4, o4, n4, c4, a4, m4, d4, s4x, o4x, n4x, c4x, a4x, m4x, d4x, rfl⟩ := N3_14.out.shape
    have N3_14l := Lib.hid (show IsR _ _ (mn (q 0) (q 0)) from (isSp_ends N3_14.out).1); have N3_14h := Lib.hid (show IsR _ _ (mx (q 0) (q 0)) from (isSp_ends N3_14.out).2)
    skip
    go_wp2_with (with_reducible refine wpList_pauseS ?_)
    refine wpList_stL g3_15 0 [.bool s4, .slice o4 n4 c4, .slice a4 m4 d4, .bool s4x, .slice o4x n4x c4x, .slice a4x m4x d4x] BX3_15.out rfl rfl (Nat.le_of_ble_eq_true rfl) (by kernel_rfl) rfl ?_
    intro w3 hp3
    have F0 := Lib.hid (putL_R hp3 F0.out BX3_15.out noW6)
    have N3_14 := Lib.hid (putL_SI hp3 N3_14.out BX3_15.out noW6)
    have N3_14l := Lib.hid (putL_I hp3 N3_14l.out BX3_15.out noW6)
    have N3_14h := Lib.hid (putL_I hp3 N3_14h.out BX3_15.out noW6)
    have BX1 := Lib.hid (putLx hp3 BX1.out (by omega))
    have nx3 : w3.heap[g3_15]? = some (.cells #[.bool s4, .slice o4 n4 c4, .slice a4 m4 d4, .bool s4x, .slice o4x n4x c4x, .slice a4x m4x d4x] 56) := by rw [hp3]; exact putL_6 BX3_15.out
    have BX3_15 := Lib.hid nx3; clear nx3
    have HB3 := Lib.hid (putLb hp3 HB2.out (by omega))
    clear hp3
    go_wp2_with (with_reducible first | refine pauseCall ?_ | refine pauseLoop ?_ | refine pauseDraw ?_ | refine pauseBody ?_ | refine pauseRounds ?_)
    refine Pause.mk ?_
    have hN := N3_14.out
    rw [mn_self, mx_self] at hN
    have HN := Lib.hid hN; clear hN
    go_loopw [24] (fun kv wr => ∃ (k : Nat) (s1 : Bool) (o1 : Option Addr) (n1 c1 : Nat) (a1 : Option Addr) (p1 d1 : Nat) (s2 : Bool) (o2 : Option Addr) (n2 c2 : Nat) (a2 : Option Addr) (p2 d2 : Nat), k ≤ m ∧ kv = .int .i64 k ∧ Hid (wr.heap[g3_15]? = some (.cells #[.bool s1, .slice o1 n1 c1, .slice a1 p1 d1, .bool s2, .slice o2 n2 c2, .slice a2 p2 d2] 56)) ∧ IsSp wr (.agg #[.bool s1, .slice o1 n1 c1, .slice a1 p1 d1, .bool s2, .slice o2 n2 c2, .slice a2 p2 d2]) (amn q 1 k, amx q 1 k) ∧
        Hid (wr.heap[g1]? = some (.cells #[.bool false, .slice none 0 0, .slice none 0 0, .bool false, .slice none 0 0, .slice none 0 0] 56)) ∧ Below w.heap.size w wr) (fun kv _ => m - (intOf kv).toNat)
    case atStart => exact ⟨0, s4, o4, n4, c4, a4, m4, d4, s4x, o4x, n4x, c4x, a4x, m4x, d4x, Nat.zero_le _, rfl, BX3_15, HN.out, BX1, HB3.out⟩
    case round =>
      obtain ⟨k, s1, o1, n1, c1, a1, p1, d1, s2, o2, n2, c2, a2, p2, d2, hk, rfl, hxA, hIS, hxR, hBr⟩ := hrel
      have HBR := Lib.hid hBr; have HIS := Lib.hid hIS; clear hBr hIS
      have BXA := hxA; have BXR := hxR
      obtain ⟨hrn, hrx⟩ := HAM.out k hk
      have HISl := Lib.hid (isSp_ends HIS.out).1; have HISh := Lib.hid (isSp_ends HIS.out).2
      skip
      by_cases hkm : k < m
      · skip
        obtain ⟨t9, u9, x9, y9, z9, r9, h9, hC1, hF1, hL1⟩ := HV.out (k + 1) (by omega)
        have CE := Lib.hid (show w.cell? ⟨g, 3 + k * 3, none⟩ = _ ∧ w.cell? ⟨g, 3 + k * 3 + 1, none⟩ = _ ∧ w.cell? ⟨g, 3 + k * 3 + 2, none⟩ = _ from by rw [show 3 + k * 3 = (k + 1) * 3 by omega]; exact hC1); clear hC1
        have FE := Lib.hid (hF1.below HBR.out); clear hF1
        have hf1 : decide ((k : Int) < (m : Int)) = true := decide_eq_true (by omega)
        obtain ⟨x5_0, x5_1, x5_2⟩ := cells3 HBR.out hg CE.out
        obtain ⟨w14, hw14⟩ : ∃ w14, w14 = wr.alloc (.cells #[.bool t9, .slice u9 x9 y9, .slice z9 r9 h9] 54) := ⟨_, rfl⟩
        have hb14 : Below wr.heap.size wr w14 := by rw [hw14]; exact (Below.refl _ _).alloc (Nat.le_refl _) _
        have hx14 := heap_alloc_new wr (.cells #[.bool t9, .slice u9 x9 y9, .slice z9 r9 h9] 54)
        obtain ⟨g14, hg14⟩ : ∃ g, g = wr.heap.size := ⟨_, rfl⟩
        rw [← hw14, ← hg14] at hx14
        have lw14 : w.heap.size ≤ g14 := by rw [hg14]; exact HBR.out.size
        have ltBXR14 : g1 < g14 := by rw [hg14]; exact below_lt BXR.out
        have ltBXA14 : g3_15 < g14 := by rw [hg14]; exact below_lt BXA.out
        have HW14 := Lib.hid hw14; have HG14 := Lib.hid hg14; clear hw14 hg14
        have HB14 := Lib.hid (HBR.out.step hb14)
        have HIS := Lib.hid (HIS.out.below hb14)
        have HISl := Lib.hid (HISl.out.below hb14)
        have HISh := Lib.hid (HISh.out.below hb14)
        have FE := Lib.hid (FE.out.below hb14)
        have BXR := Lib.hid (heap_below BXR.out hb14)
        have BXA := Lib.hid (heap_below BXA.out hb14)
        have BX14 := Lib.hid hx14; clear hb14 hx14
        try rw [HG14.out] at x5_0
        try rw [HG14.out] at x5_1
        try rw [HG14.out] at x5_2
        go_wp2_with (with_reducible first | refine pauseCall ?_ | refine pauseLoop ?_ | refine pauseDraw ?_ | refine pauseBody ?_ | refine pauseRounds ?_)
        try rw [← HW14.out]
        try rw [← HG14.out]
        clear x5_0 x5_1 x5_2
        refine Pause.mk ?_
        have k6 := rl_mn (amn q 1 k) (q (k + 1))
        have k7 := rl_mx (amx q 1 k) (q (k + 1))
        refine wp_region_facts (A := ?aa8) (w := w14) 9 [] (by kernel_rfl) (Fl [KEq (.pointer (some ⟨g3_15, 0, none⟩)), KEq (.agg #[.bool s1, .slice o1 n1 c1, .slice a1 p1 d1]), KEq (.agg #[.bool t9, .slice u9 x9 y9, .slice z9 r9 h9]), KIs (mn (amn q 1 k) (q (k + 1))), KEq (.pointer (some ⟨g3_15, 3, none⟩)), KEq (.agg #[.bool s2, .slice o2 n2 c2, .slice a2 p2 d2]), KEq (.agg #[.bool t9, .slice u9 x9 y9, .slice z9 r9 h9]), KIs (mx (amx q 1 k) (q (k + 1))), KEq (.pointer (some ⟨g3_15, 0, none⟩))]) (fun i => false) (by kernel_rfl) ?hq8 (monoL (monoC (kEq _) (monoC (kEq _) (monoC (kEq _) (monoC (kIs _) (monoC (kEq _) (monoC (kEq _) (monoC (kEq _) (monoC (kIs _) (monoC (kEq _) monoN)))))))))) ?ha8 ?st8 ?tl8
        case hq8 =>
          intro c a d v w h
          first | (simp only [Exit.then] at h ⊢; exact h) | (simp only [Exit.inBlock, Exit.then] at h ⊢; exact h) | exact h
        case ha8 =>
          intro vals
          simp only [putsTo, dstOf, if_true, Act.put, List.setIfInBounds_toArray, List.set_cons_zero, List.set_cons_succ, List.getElem?_toArray, List.getElem?_cons_zero, List.getElem?_cons_succ, Option.bind_some]
          exact rfl
        case st8 =>
          simp only [List.take_succ_cons, List.take_zero]
          refine stepsOK_cons rfl rfl ?_ (stepsOK_cons rfl rfl ?_ (stepsOK_cons rfl rfl ?_ (stepsOK_cons rfl rfl ?_ (stepsOK_cons rfl rfl ?_ (stepsOK_cons rfl rfl ?_ (stepsOK_cons rfl rfl ?_ (stepsOK_cons rfl rfl ?_ (stepsOK_cons rfl rfl ?_ (stepsOK_nil)))))))))
          · intro vals w1 hb hd
            refine stepOK_value (v := (.pointer (some ⟨g3_15, 0, none⟩))) (w' := w1) (by go_simp) (leaves_mk (Below.refl _ _) rfl (fun h => by cases h))
          · intro vals w1 hb hd
            have d0 : KEq (.pointer (some ⟨g3_15, 0, none⟩)) (vals 0) w1 := hd 0 (by kernel_rfl)
            rw [show vals 0 = _ from d0]
            obtain ⟨e0, e1, e2, e3, e4, e5⟩ := row6 (heap_below BXA.out hb)
            refine stepOK_value (v := .agg #[.bool s1, .slice o1 n1 c1, .slice a1 p1 d1]) (w' := w1) (by go_simp) (leaves_mk (Below.refl _ _) rfl (fun h => by cases h))
          · intro vals w1 hb hd
            obtain ⟨e0, e1, e2⟩ := row3 (heap_below BX14.out hb)
            refine stepOK_value (v := .agg #[.bool t9, .slice u9 x9 y9, .slice z9 r9 h9]) (w' := w1) (by go_simp) (leaves_mk (Below.refl _ _) rfl (fun h => by cases h))
          · intro vals w1 hb hd
            have d1 : KEq (.agg #[.bool s1, .slice o1 n1 c1, .slice a1 p1 d1]) (vals 1) w1 := hd 1 (by kernel_rfl)
            have d2 : KEq (.agg #[.bool t9, .slice u9 x9 y9, .slice z9 r9 h9]) (vals 2) w1 := hd 2 (by kernel_rfl)
            have z1 : vals 1 = _ := d1
            have z2 : vals 2 = _ := d2
            have hs := minq_any _ (amn q 1 k) _ (q (k + 1)) w1 ((HISl.out.below hb).is (by omega)) (FE.out.below hb) (by omega) (by omega)
            have HS := Lib.hid hs; clear hs
            rw [z1]; clear z1
            rw [z2]; clear z2
            clear d1 d2 hd
            refine stepOK_call (by go_simp; first | done | exact ⟨⟨rfl, rfl⟩, rfl⟩) ?_
            (with_reducible refine HS.out.mono ?_); rintro e w2 ⟨v, rfl, hb2, hn⟩
            exact ⟨v, rfl, leaves_mk hb2 hn (fun h => by cases h)⟩
          · intro vals w1 hb hd
            refine stepOK_value (v := (.pointer (some ⟨g3_15, 3, none⟩))) (w' := w1) (by go_simp) (leaves_mk (Below.refl _ _) rfl (fun h => by cases h))
          · intro vals w1 hb hd
            have d4 : KEq (.pointer (some ⟨g3_15, 3, none⟩)) (vals 4) w1 := hd 4 (by kernel_rfl)
            rw [show vals 4 = _ from d4]
            obtain ⟨e0, e1, e2, e3, e4, e5⟩ := row6 (heap_below BXA.out hb)
            refine stepOK_value (v := .agg #[.bool s2, .slice o2 n2 c2, .slice a2 p2 d2]) (w' := w1) (by go_simp) (leaves_mk (Below.refl _ _) rfl (fun h => by cases h))
          · intro vals w1 hb hd
            obtain ⟨e0, e1, e2⟩ := row3 (heap_below BX14.out hb)
            refine stepOK_value (v := .agg #[.bool t9, .slice u9 x9 y9, .slice z9 r9 h9]) (w' := w1) (by go_simp) (leaves_mk (Below.refl _ _) rfl (fun h => by cases h))
          · intro vals w1 hb hd
            have d5 : KEq (.agg #[.bool s2, .slice o2 n2 c2, .slice a2 p2 d2]) (vals 5) w1 := hd 5 (by kernel_rfl)
            have d6 : KEq (.agg #[.bool t9, .slice u9 x9 y9, .slice z9 r9 h9]) (vals 6) w1 := hd 6 (by kernel_rfl)
            have z5 : vals 5 = _ := d5
            have z6 : vals 6 = _ := d6
            have hs := maxq_any _ (amx q 1 k) _ (q (k + 1)) w1 ((HISh.out.below hb).is (by omega)) (FE.out.below hb) (by omega) (by omega)
            have HS := Lib.hid hs; clear hs
            rw [z5]; clear z5
            rw [z6]; clear z6
            clear d5 d6 hd
            refine stepOK_call (by go_simp; first | done | exact ⟨⟨rfl, rfl⟩, rfl⟩) ?_
            (with_reducible refine HS.out.mono ?_); rintro e w2 ⟨v, rfl, hb2, hn⟩
            exact ⟨v, rfl, leaves_mk hb2 hn (fun h => by cases h)⟩
          · intro vals w1 hb hd
            refine stepOK_value (v := (.pointer (some ⟨g3_15, 0, none⟩))) (w' := w1) (by go_simp) (leaves_mk (Below.refl _ _) rfl (fun h => by cases h))
        case tl8 =>
          intro vals w15 hb15 hf hdis
          simp only [List.drop_succ_cons, List.drop_zero]
          obtain ⟨u8_3, hu3⟩ : ∃ u, u = vals 3 := ⟨_, rfl⟩
          have hn8_3 : IsR w15 (vals 3) (mn (amn q 1 k) (q (k + 1))) := hf 3 (by decide)
          rw [← hu3] at hn8_3 ⊢; clear hu3
          obtain ⟨u8_7, hu7⟩ : ∃ u, u = vals 7 := ⟨_, rfl⟩
          have hn8_7 : IsR w15 (vals 7) (mx (amx q 1 k) (q (k + 1))) := hf 7 (by decide)
          rw [← hu7] at hn8_7 ⊢; clear hu7
          have z8 : vals 8 = _ := hf 8 (by decide)
          try rw [z8]
          clear z8
          clear hf hdis
          have HB15 := Lib.hid (HB14.out.step hb15)
          have HIS := Lib.hid (HIS.out.below hb15)
          have HISl := Lib.hid (HISl.out.below hb15)
          have HISh := Lib.hid (HISh.out.below hb15)
          have FE := Lib.hid (FE.out.below hb15)
          have BXR := Lib.hid (heap_below BXR.out hb15)
          have BXA := Lib.hid (heap_below BXA.out hb15)
          have BX14 := Lib.hid (heap_below BX14.out hb15)
          clear hb15
          have N8_3 := Lib.hid hn8_3; clear hn8_3
          obtain ⟨s9, o9, n9, c9, a9, m9, d9, rfl⟩ := N8_3.out.shape
          have N8_7 := Lib.hid hn8_7; clear hn8_7
          obtain ⟨s10, o10, n10, c10, a10, m10, d10, rfl⟩ := N8_7.out.shape
          skip
          go_wp2_with (with_reducible refine wpList_pauseS ?_)
          refine wpList_stL g3_15 0 [.bool s9, .slice o9 n9 c9, .slice a9 m9 d9] BXA.out rfl rfl (Nat.le_of_ble_eq_true rfl) (by kernel_rfl) rfl ?_
          intro w16 hp16
          have HIS := Lib.hid (putL_SI hp16 HIS.out BXA.out noW6)
          have HISl := Lib.hid (putL_I hp16 HISl.out BXA.out noW6)
          have HISh := Lib.hid (putL_I hp16 HISh.out BXA.out noW6)
          have FE := Lib.hid (putL_R hp16 FE.out BXA.out noW6)
          have N8_3 := Lib.hid (putL_I hp16 N8_3.out BXA.out noW6)
          have N8_7 := Lib.hid (putL_I hp16 N8_7.out BXA.out noW6)
          have BXR := Lib.hid (putLx hp16 BXR.out (by omega))
          have BX14 := Lib.hid (putLx hp16 BX14.out (by omega))
          have nx16 : w16.heap[g3_15]? = some (.cells #[.bool s9, .slice o9 n9 c9, .slice a9 m9 d9, .bool s2, .slice o2 n2 c2, .slice a2 p2 d2] 56) := by rw [hp16]; exact putL_0 BXA.out
          have BXA := Lib.hid nx16; clear nx16
          have HB16 := Lib.hid (putLb hp16 HB15.out (by omega))
          clear hp16
          go_wp2_with (with_reducible refine wpList_pauseS ?_)
          refine wpList_stL g3_15 3 [.bool s10, .slice o10 n10 c10, .slice a10 m10 d10] BXA.out rfl rfl (Nat.le_of_ble_eq_true rfl) (by kernel_rfl) rfl ?_
          intro w17 hp17
          have HIS := Lib.hid (putL_SI hp17 HIS.out BXA.out noW6)
          have HISl := Lib.hid (putL_I hp17 HISl.out BXA.out noW6)
          have HISh := Lib.hid (putL_I hp17 HISh.out BXA.out noW6)
          have FE := Lib.hid (putL_R hp17 FE.out BXA.out noW6)
          have N8_3 := Lib.hid (putL_I hp17 N8_3.out BXA.out noW6)
          have N8_7 := Lib.hid (putL_I hp17 N8_7.out BXA.out noW6)
          have BXR := Lib.hid (putLx hp17 BXR.out (by omega))
          have BX14 := Lib.hid (putLx hp17 BX14.out (by omega))
          have nx17 : w17.heap[g3_15]? = some (.cells #[.bool s9, .slice o9 n9 c9, .slice a9 m9 d9, .bool s10, .slice o10 n10 c10, .slice a10 m10 d10] 56) := by rw [hp17]; exact putL_3 BXA.out
          have BXA := Lib.hid nx17; clear nx17
          have HB17 := Lib.hid (putLb hp17 HB16.out (by omega))
          clear hp17
          go_wp2_with (with_reducible first | refine pauseCall ?_ | refine pauseLoop ?_ | refine pauseDraw ?_ | refine pauseBody ?_ | refine pauseRounds ?_)
          refine Pause.mk ?_
          go_roundw
          case rel => exact ⟨k + 1, s9, o9, n9, c9, a9, m9, d9, s10, o10, n10, c10, a10, m10, d10, hkm, by go_num, BXA, isSp_of N8_3.out N8_7.out, BXR, HB17.out⟩
          case measure => simp [intOf]; omega
      · skip
        obtain rfl : k = m := by omega
        have hf1 : decide ((k : Int) < (k : Int)) = false := decide_eq_false (by omega)
        obtain ⟨x55_0, x55_1, x55_2, x55_3, x55_4, x55_5⟩ := row6 BXA.out
        go_wp2_with (with_reducible refine wpList_pauseS ?_)
        clear x55_0 x55_1 x55_2 x55_3 x55_4 x55_5
        refine wpList_stL g1 0 [.bool s1, .slice o1 n1 c1, .slice a1 p1 d1, .bool s2, .slice o2 n2 c2, .slice a2 p2 d2] BXR.out rfl rfl (Nat.le_of_ble_eq_true rfl) (by kernel_rfl) rfl ?_
        intro w64 hp64
        have HIS := Lib.hid (putL_SI hp64 HIS.out BXR.out noW6)
        have HISl := Lib.hid (putL_I hp64 HISl.out BXR.out noW6)
        have HISh := Lib.hid (putL_I hp64 HISh.out BXR.out noW6)
        have BXA := Lib.hid (putLx hp64 BXA.out (by omega))
        have nx64 : w64.heap[g1]? = some (.cells #[.bool s1, .slice o1 n1 c1, .slice a1 p1 d1, .bool s2, .slice o2 n2 c2, .slice a2 p2 d2] 56) := by rw [hp64]; exact putL_6 BXR.out
        have BXR := Lib.hid nx64; clear nx64
        have HB64 := Lib.hid (putLb hp64 HBR.out (by omega))
        clear hp64
        obtain ⟨x56_0, x56_1, x56_2, x56_3, x56_4, x56_5⟩ := row6 BXR.out
        go_wp2_with (with_reducible first | refine pauseCall ?_ | refine pauseLoop ?_ | refine pauseDraw ?_ | refine pauseBody ?_ | refine pauseRounds ?_)
        clear x56_0 x56_1 x56_2 x56_3 x56_4 x56_5
        refine Pause.mk ?_
        refine ret_span rfl g1 _ _ _ _ _ _ (by first | rfl | exact rfl) BXR.out rfl ?_
        exact ⟨_, rfl, HB64.out, HIS.out⟩
theorem of2 {g : Nat} {sg0 : Bool} {og0 ag0 : Option Addr} {ng0 cg0 mg0 dg0 : Nat} {qg0 : Rat} {sg1 : Bool} {og1 ag1 : Option Addr} {ng1 cg1 mg1 dg1 : Nat} {qg1 : Rat} (w : World) (hg : w.heap[g]? = some (.cells #[.bool sg0, .slice og0 ng0 cg0, .slice ag0 mg0 dg0, .bool sg1, .slice og1 ng1 cg1, .slice ag1 mg1 dg1] 54)) (hg0 : RatIs w (.agg #[.bool sg0, .slice og0 ng0 cg0, .slice ag0 mg0 dg0]) qg0) (lg0 : rl qg0 ≤ 40000) (hg1 : RatIs w (.agg #[.bool sg1, .slice og1 ng1 cg1, .slice ag1 mg1 dg1]) qg1) (lg1 : rl qg1 ≤ 40000) :
    Calls Tryz.prog 91 #[.slice (some ⟨g, 0, none⟩) 2 2] w (RetSp w (around2 qg0 qg1)) := by
  have hV : RatsAt w g 2 40000 (fun j => if j = 0 then qg0 else qg1) := by
    intro j hj
    rw [cell_of_row w g _ _ 54 (0, 0) hg, cell_of_row w g _ _ 54 (0, 0) hg, cell_of_row w g _ _ 54 (0, 0) hg]
    match j, hj with
    | 0, _ => exact ⟨_, _, _, _, _, _, _, ⟨rfl, rfl, rfl⟩, hg0, lg0⟩
    | 1, _ => exact ⟨_, _, _, _, _, _, _, ⟨rfl, rfl, rfl⟩, hg1, lg1⟩
  have h := listOf_any (fun j => if j = 0 then qg0 else qg1) w (m := 1) (by decide) (by decide) (Array.getElem?_eq_some_iff.1 hg).1 hV
  exact h
end Go.Proofs.YthhgfhdmfhnklaaGreatDoor
/-
  span.norm, Point, Make and the reference's Arg, Point, Make.
  Conditions: each theorem's own.
-/
namespace Go.Proofs.YthhgfhdmfhnklaaGreatDoor
open Go.RowKit Go.ChangeShapes Go.WideShapes

set_option maxRecDepth 100000 in
set_option maxHeartbeats 3200000 in
theorem norm_1 (va : Value) (sa : Bool) (aa ba : List Nat) (ta : Bool) (ca da : List Nat) (w : World) (ha : SpV w va sa aa ba ta ca da) (la : aa.length ≤ 40000) (lb : ba.length ≤ 40000) (lc : ca.length ≤ 40000) (ld : da.length ≤ 40000) (hv : ¬ (Vld sa aa ba ∧ Vld ta ca da ∧ rq sa aa ba ≤ rq ta ca da)) :
    Calls Tryz.prog 52 #[va] w (RetSp w (0, 0)) := by
  have HBW := Lib.hid (Below.refl w.heap.size w)
  have kz0 : rl 0 ≤ 1 := by rw [rl_zero]; exact Nat.le_refl _
  obtain ⟨qa, oa, na, ka, pa, ma, ra, qax, oax, nax, kax, pax, max, rax, rfl⟩ := ha.shape
  have HV := Lib.hid (decide_eq_false hv); clear hv
  have Fa := Lib.hid ha; clear ha
  have Fal := Lib.hid (spV_ends Fa.out).1; have Fah := Lib.hid (spV_ends Fa.out).2
  obtain ⟨w1, hw1⟩ : ∃ w1, w1 = w.alloc (.cells #[.bool qa, .slice oa na ka, .slice pa ma ra, .bool qax, .slice oax nax kax, .slice pax max rax] 56) := ⟨_, rfl⟩
  have hb1 : Below w.heap.size w w1 := by rw [hw1]; exact (Below.refl _ _).alloc (Nat.le_refl _) _
  have hx1 := heap_alloc_new w (.cells #[.bool qa, .slice oa na ka, .slice pa ma ra, .bool qax, .slice oax nax kax, .slice pax max rax] 56)
  obtain ⟨g1, hg1⟩ : ∃ g, g = w.heap.size := ⟨_, rfl⟩
  rw [← hw1, ← hg1] at hx1
  have lw1 : w.heap.size ≤ g1 := by rw [hg1]; exact HBW.out.size
  have HW1 := Lib.hid hw1; have HG1 := Lib.hid hg1; clear hw1 hg1
  have HB1 := Lib.hid (HBW.out.step hb1)
  have Fa := Lib.hid (Fa.out.below hb1)
  have Fal := Lib.hid (Fal.out.below hb1)
  have Fah := Lib.hid (Fah.out.below hb1)
  have BX1 := Lib.hid hx1; clear hb1 hx1
  obtain ⟨w2, hw2⟩ : ∃ w2, w2 = w1.alloc (.cells #[.bool false, .slice none 0 0, .slice none 0 0, .bool false, .slice none 0 0, .slice none 0 0] 56) := ⟨_, rfl⟩
  have hb2 : Below w1.heap.size w1 w2 := by rw [hw2]; exact (Below.refl _ _).alloc (Nat.le_refl _) _
  have hx2 := heap_alloc_new w1 (.cells #[.bool false, .slice none 0 0, .slice none 0 0, .bool false, .slice none 0 0, .slice none 0 0] 56)
  obtain ⟨g2, hg2⟩ : ∃ g, g = w1.heap.size := ⟨_, rfl⟩
  rw [← hw2, ← hg2] at hx2
  have lw2 : w.heap.size ≤ g2 := by rw [hg2]; exact HB1.out.size
  have ltBX12 : g1 < g2 := by rw [hg2]; exact below_lt BX1.out
  have hs2 : g2 = w.heap.size + 1 := by rw [hg2, HW1.out]; simp
  have HS2 := Lib.hid hs2; clear hs2
  have HW2 := Lib.hid hw2; have HG2 := Lib.hid hg2; clear hw2 hg2
  have HB2 := Lib.hid (HB1.out.step hb2)
  have Fa := Lib.hid (Fa.out.below hb2)
  have Fal := Lib.hid (Fal.out.below hb2)
  have Fah := Lib.hid (Fah.out.below hb2)
  have BX1 := Lib.hid (heap_below BX1.out hb2)
  have BX2 := Lib.hid hx2; clear hb2 hx2
  go_enter Tryz.func52, Tryz.ntmps52
  obtain ⟨x1_0, x1_1, x1_2, x1_3, x1_4, x1_5⟩ := row6 BX1.out
  have hs := svalid_any _ sa aa ba ta ca da w2 Fa.out (by omega) (by omega) (by omega) (by omega)
  rw [HV.out] at hs
  have HS := Lib.hid hs; clear hs
  try rw [HW2.out] at x1_0
  try rw [HG2.out] at x1_0
  try rw [HW1.out] at x1_0
  try rw [HG1.out] at x1_0
  try rw [HW2.out] at x1_1
  try rw [HG2.out] at x1_1
  try rw [HW1.out] at x1_1
  try rw [HG1.out] at x1_1
  try rw [HW2.out] at x1_2
  try rw [HG2.out] at x1_2
  try rw [HW1.out] at x1_2
  try rw [HG1.out] at x1_2
  try rw [HW2.out] at x1_3
  try rw [HG2.out] at x1_3
  try rw [HW1.out] at x1_3
  try rw [HG1.out] at x1_3
  try rw [HW2.out] at x1_4
  try rw [HG2.out] at x1_4
  try rw [HW1.out] at x1_4
  try rw [HG1.out] at x1_4
  try rw [HW2.out] at x1_5
  try rw [HG2.out] at x1_5
  try rw [HW1.out] at x1_5
  try rw [HG1.out] at x1_5
  go_wp2_with (with_reducible first | refine pauseCall ?_ | refine pauseLoop ?_ | refine pauseDraw ?_ | refine pauseBody ?_ | refine pauseRounds ?_)
  try rw [← HW1.out]
  try rw [← HW2.out]
  try rw [← HS2.out]
  try rw [← HG1.out]
  try rw [← HG2.out]
  clear x1_0 x1_1 x1_2 x1_3 x1_4 x1_5
  refine Pause.mk ?_
  (with_reducible refine HS.out.mono ?_); rintro e w3 ⟨rfl, hb3⟩
  clear HS
  have HB3 := Lib.hid (HB2.out.step hb3)
  have Fa := Lib.hid (Fa.out.below hb3)
  have Fal := Lib.hid (Fal.out.below hb3)
  have Fah := Lib.hid (Fah.out.below hb3)
  have BX1 := Lib.hid (heap_below BX1.out hb3)
  have BX2 := Lib.hid (heap_below BX2.out hb3)
  clear hb3
  go_wp2_with (with_reducible refine wpList_pauseS ?_)
  refine wpList_stL g2 0 [.bool false, .slice none 0 0, .slice none 0 0, .bool false, .slice none 0 0, .slice none 0 0] BX2.out rfl rfl (Nat.le_of_ble_eq_true rfl) (by kernel_rfl) rfl ?_
  intro w4 hp4
  have Fa := Lib.hid (putL_SV hp4 Fa.out BX2.out noW6)
  have Fal := Lib.hid (putL_V hp4 Fal.out BX2.out noW6)
  have Fah := Lib.hid (putL_V hp4 Fah.out BX2.out noW6)
  have BX1 := Lib.hid (putLx hp4 BX1.out (by omega))
  have nx4 : w4.heap[g2]? = some (.cells #[.bool false, .slice none 0 0, .slice none 0 0, .bool false, .slice none 0 0, .slice none 0 0] 56) := by rw [hp4]; exact putL_6 BX2.out
  have BX2 := Lib.hid nx4; clear nx4
  have HB4 := Lib.hid (putLb hp4 HB3.out (by omega))
  clear hp4
  obtain ⟨x2_0, x2_1, x2_2, x2_3, x2_4, x2_5⟩ := row6 BX2.out
  go_wp2_with (with_reducible first | refine pauseCall ?_ | refine pauseLoop ?_ | refine pauseDraw ?_ | refine pauseBody ?_ | refine pauseRounds ?_)
  clear x2_0 x2_1 x2_2 x2_3 x2_4 x2_5
  refine Pause.mk ?_
  refine ret_span rfl g2 _ _ _ _ _ _ (by first | rfl | exact rfl) BX2.out rfl ?_
  exact ⟨_, rfl, HB4.out, (isSp_zero _)⟩
set_option maxRecDepth 100000 in
set_option maxHeartbeats 3200000 in
theorem norm_2 (va : Value) (sa : Bool) (aa ba : List Nat) (ta : Bool) (ca da : List Nat) (w : World) (ha : SpV w va sa aa ba ta ca da) (la : aa.length ≤ 40000) (lb : ba.length ≤ 40000) (lc : ca.length ≤ 40000) (ld : da.length ≤ 40000) (hv : Vld sa aa ba ∧ Vld ta ca da ∧ rq sa aa ba ≤ rq ta ca da) :
    Calls Tryz.prog 52 #[va] w (RetSp w (rq sa aa ba, rq ta ca da)) := by
  have HBW := Lib.hid (Below.refl w.heap.size w)
  have kz0 : rl 0 ≤ 1 := by rw [rl_zero]; exact Nat.le_refl _
  obtain ⟨qa, oa, na, ka, pa, ma, ra, qax, oax, nax, kax, pax, max, rax, rfl⟩ := ha.shape
  have k1 : rl (rq sa aa ba) ≤ 40000 := rl_rq ha.lt.1.1 ha.lt.1.2 la lb (by decide); have k2 : rl (rq ta ca da) ≤ 40000 := rl_rq ha.lt.2.1 ha.lt.2.2 lc ld (by decide)
  have HV := Lib.hid (decide_eq_true hv); have HV1 := Lib.hid hv.1; have HV2 := Lib.hid hv.2.1; have HV3 := Lib.hid (around2_le hv.2.2); clear hv
  have Fa := Lib.hid ha; clear ha
  have Fal := Lib.hid (spV_ends Fa.out).1; have Fah := Lib.hid (spV_ends Fa.out).2
  obtain ⟨w1, hw1⟩ : ∃ w1, w1 = w.alloc (.cells #[.bool qa, .slice oa na ka, .slice pa ma ra, .bool qax, .slice oax nax kax, .slice pax max rax] 56) := ⟨_, rfl⟩
  have hb1 : Below w.heap.size w w1 := by rw [hw1]; exact (Below.refl _ _).alloc (Nat.le_refl _) _
  have hx1 := heap_alloc_new w (.cells #[.bool qa, .slice oa na ka, .slice pa ma ra, .bool qax, .slice oax nax kax, .slice pax max rax] 56)
  obtain ⟨g1, hg1⟩ : ∃ g, g = w.heap.size := ⟨_, rfl⟩
  rw [← hw1, ← hg1] at hx1
  have lw1 : w.heap.size ≤ g1 := by rw [hg1]; exact HBW.out.size
  have HW1 := Lib.hid hw1; have HG1 := Lib.hid hg1; clear hw1 hg1
  have HB1 := Lib.hid (HBW.out.step hb1)
  have Fa := Lib.hid (Fa.out.below hb1)
  have Fal := Lib.hid (Fal.out.below hb1)
  have Fah := Lib.hid (Fah.out.below hb1)
  have BX1 := Lib.hid hx1; clear hb1 hx1
  obtain ⟨w2, hw2⟩ : ∃ w2, w2 = w1.alloc (.cells #[.bool false, .slice none 0 0, .slice none 0 0, .bool false, .slice none 0 0, .slice none 0 0] 56) := ⟨_, rfl⟩
  have hb2 : Below w1.heap.size w1 w2 := by rw [hw2]; exact (Below.refl _ _).alloc (Nat.le_refl _) _
  have hx2 := heap_alloc_new w1 (.cells #[.bool false, .slice none 0 0, .slice none 0 0, .bool false, .slice none 0 0, .slice none 0 0] 56)
  obtain ⟨g2, hg2⟩ : ∃ g, g = w1.heap.size := ⟨_, rfl⟩
  rw [← hw2, ← hg2] at hx2
  have lw2 : w.heap.size ≤ g2 := by rw [hg2]; exact HB1.out.size
  have ltBX12 : g1 < g2 := by rw [hg2]; exact below_lt BX1.out
  have hs2 : g2 = w.heap.size + 1 := by rw [hg2, HW1.out]; simp
  have HS2 := Lib.hid hs2; clear hs2
  have HW2 := Lib.hid hw2; have HG2 := Lib.hid hg2; clear hw2 hg2
  have HB2 := Lib.hid (HB1.out.step hb2)
  have Fa := Lib.hid (Fa.out.below hb2)
  have Fal := Lib.hid (Fal.out.below hb2)
  have Fah := Lib.hid (Fah.out.below hb2)
  have BX1 := Lib.hid (heap_below BX1.out hb2)
  have BX2 := Lib.hid hx2; clear hb2 hx2
  go_enter Tryz.func52, Tryz.ntmps52
  obtain ⟨x1_0, x1_1, x1_2, x1_3, x1_4, x1_5⟩ := row6 BX1.out
  have hs := svalid_any _ sa aa ba ta ca da w2 Fa.out (by omega) (by omega) (by omega) (by omega)
  rw [HV.out] at hs
  have HS := Lib.hid hs; clear hs
  try rw [HW2.out] at x1_0
  try rw [HG2.out] at x1_0
  try rw [HW1.out] at x1_0
  try rw [HG1.out] at x1_0
  try rw [HW2.out] at x1_1
  try rw [HG2.out] at x1_1
  try rw [HW1.out] at x1_1
  try rw [HG1.out] at x1_1
  try rw [HW2.out] at x1_2
  try rw [HG2.out] at x1_2
  try rw [HW1.out] at x1_2
  try rw [HG1.out] at x1_2
  try rw [HW2.out] at x1_3
  try rw [HG2.out] at x1_3
  try rw [HW1.out] at x1_3
  try rw [HG1.out] at x1_3
  try rw [HW2.out] at x1_4
  try rw [HG2.out] at x1_4
  try rw [HW1.out] at x1_4
  try rw [HG1.out] at x1_4
  try rw [HW2.out] at x1_5
  try rw [HG2.out] at x1_5
  try rw [HW1.out] at x1_5
  try rw [HG1.out] at x1_5
  go_wp2_with (with_reducible first | refine pauseCall ?_ | refine pauseLoop ?_ | refine pauseDraw ?_ | refine pauseBody ?_ | refine pauseRounds ?_)
  try rw [← HW1.out]
  try rw [← HW2.out]
  try rw [← HS2.out]
  try rw [← HG1.out]
  try rw [← HG2.out]
  clear x1_0 x1_1 x1_2 x1_3 x1_4 x1_5
  refine Pause.mk ?_
  (with_reducible refine HS.out.mono ?_); rintro e w3 ⟨rfl, hb3⟩
  clear HS
  have HB3 := Lib.hid (HB2.out.step hb3)
  have Fa := Lib.hid (Fa.out.below hb3)
  have Fal := Lib.hid (Fal.out.below hb3)
  have Fah := Lib.hid (Fah.out.below hb3)
  have BX1 := Lib.hid (heap_below BX1.out hb3)
  have BX2 := Lib.hid (heap_below BX2.out hb3)
  clear hb3
  obtain ⟨x2_0, x2_1, x2_2, x2_3, x2_4, x2_5⟩ := row6 BX1.out
  obtain ⟨x3_0, x3_1, x3_2, x3_3, x3_4, x3_5⟩ := row6 BX1.out
  obtain ⟨w4, hw4⟩ : ∃ w4, w4 = w3.alloc (.cells #[.bool qa, .slice oa na ka, .slice pa ma ra, .bool qax, .slice oax nax kax, .slice pax max rax] 54) := ⟨_, rfl⟩
  have hb4 : Below w3.heap.size w3 w4 := by rw [hw4]; exact (Below.refl _ _).alloc (Nat.le_refl _) _
  have hx4 := heap_alloc_new w3 (.cells #[.bool qa, .slice oa na ka, .slice pa ma ra, .bool qax, .slice oax nax kax, .slice pax max rax] 54)
  obtain ⟨g4, hg4⟩ : ∃ g, g = w3.heap.size := ⟨_, rfl⟩
  rw [← hw4, ← hg4] at hx4
  have lw4 : w.heap.size ≤ g4 := by rw [hg4]; exact HB3.out.size
  have ltBX14 : g1 < g4 := by rw [hg4]; exact below_lt BX1.out
  have ltBX24 : g2 < g4 := by rw [hg4]; exact below_lt BX2.out
  have HW4 := Lib.hid hw4; have HG4 := Lib.hid hg4; clear hw4 hg4
  have HB4 := Lib.hid (HB3.out.step hb4)
  have Fa := Lib.hid (Fa.out.below hb4)
  have Fal := Lib.hid (Fal.out.below hb4)
  have Fah := Lib.hid (Fah.out.below hb4)
  have BX1 := Lib.hid (heap_below BX1.out hb4)
  have BX2 := Lib.hid (heap_below BX2.out hb4)
  have BX4 := Lib.hid hx4; clear hb4 hx4
  obtain ⟨k4, k5⟩ := rl_around2 (rq sa aa ba) (rq ta ca da)
  have hs := of2 w4 BX4.out (Fal.out.is (by omega) (by omega)) (by omega) (Fah.out.is (by omega) (by omega)) (by omega)
  have HS := Lib.hid hs; clear hs
  try rw [HG4.out] at x2_0
  try rw [HG4.out] at x2_1
  try rw [HG4.out] at x2_2
  try rw [HG4.out] at x2_3
  try rw [HG4.out] at x2_4
  try rw [HG4.out] at x2_5
  try rw [HG4.out] at x3_0
  try rw [HG4.out] at x3_1
  try rw [HG4.out] at x3_2
  try rw [HG4.out] at x3_3
  try rw [HG4.out] at x3_4
  try rw [HG4.out] at x3_5
  go_wp2_with (with_reducible first | refine pauseCall ?_ | refine pauseLoop ?_ | refine pauseDraw ?_ | refine pauseBody ?_ | refine pauseRounds ?_)
  try rw [← HW4.out]
  try rw [← HG4.out]
  clear x2_0 x2_1 x2_2 x2_3 x2_4 x2_5 x3_0 x3_1 x3_2 x3_3 x3_4 x3_5
  refine Pause.mk ?_
  (with_reducible refine HS.out.mono ?_); rintro e w5 ⟨v5, rfl, hb5, hn5⟩
  clear HS
  have HB5 := Lib.hid (HB4.out.step hb5)
  have Fa := Lib.hid (Fa.out.below hb5)
  have Fal := Lib.hid (Fal.out.below hb5)
  have Fah := Lib.hid (Fah.out.below hb5)
  have BX1 := Lib.hid (heap_below BX1.out hb5)
  have BX2 := Lib.hid (heap_below BX2.out hb5)
  have BX4 := Lib.hid (heap_below BX4.out hb5)
  clear BX4
  rw [HV3.out] at hn5
  have N5 := Lib.hid hn5; clear hn5
  obtain ⟨s6, o6, n6, c6, a6, m6, d6, s6x, o6x, n6x, c6x, a6x, m6x, d6x, rfl⟩ := N5.out.shape
  have N5l := Lib.hid (show IsR _ _ (rq sa aa ba) from (isSp_ends N5.out).1); have N5h := Lib.hid (show IsR _ _ (rq ta ca da) from (isSp_ends N5.out).2)
  clear hb5
  go_wp2_with (with_reducible refine wpList_pauseS ?_)
  refine wpList_stL g2 0 [.bool s6, .slice o6 n6 c6, .slice a6 m6 d6, .bool s6x, .slice o6x n6x c6x, .slice a6x m6x d6x] BX2.out rfl rfl (Nat.le_of_ble_eq_true rfl) (by kernel_rfl) rfl ?_
  intro w6 hp6
  have Fa := Lib.hid (putL_SV hp6 Fa.out BX2.out noW6)
  have Fal := Lib.hid (putL_V hp6 Fal.out BX2.out noW6)
  have Fah := Lib.hid (putL_V hp6 Fah.out BX2.out noW6)
  have N5 := Lib.hid (putL_SI hp6 N5.out BX2.out noW6)
  have N5l := Lib.hid (putL_I hp6 N5l.out BX2.out noW6)
  have N5h := Lib.hid (putL_I hp6 N5h.out BX2.out noW6)
  have BX1 := Lib.hid (putLx hp6 BX1.out (by omega))
  have nx6 : w6.heap[g2]? = some (.cells #[.bool s6, .slice o6 n6 c6, .slice a6 m6 d6, .bool s6x, .slice o6x n6x c6x, .slice a6x m6x d6x] 56) := by rw [hp6]; exact putL_6 BX2.out
  have BX2 := Lib.hid nx6; clear nx6
  have HB6 := Lib.hid (putLb hp6 HB5.out (by omega))
  clear hp6
  obtain ⟨x7_0, x7_1, x7_2, x7_3, x7_4, x7_5⟩ := row6 BX2.out
  go_wp2_with (with_reducible first | refine pauseCall ?_ | refine pauseLoop ?_ | refine pauseDraw ?_ | refine pauseBody ?_ | refine pauseRounds ?_)
  clear x7_0 x7_1 x7_2 x7_3 x7_4 x7_5
  refine Pause.mk ?_
  refine ret_span rfl g2 _ _ _ _ _ _ (by first | rfl | exact rfl) BX2.out rfl ?_
  exact ⟨_, rfl, HB6.out, N5.out⟩
theorem norm_any (va : Value) (a : Rat × Rat) (w : World) (ha : SpIs w va a) : Calls Tryz.prog 52 #[va] w (RetSp w a) := by
  obtain ⟨s, aa, ba, t, ca, da, h0, rfl, l1, l2, l3, l4⟩ := ha
  by_cases hv : Vld s aa ba ∧ Vld t ca da ∧ rq s aa ba ≤ rq t ca da
  · have h := norm_2 va s aa ba t ca da w h0 l1 l2 l3 l4 hv
    unfold sq; rw [if_pos hv]; exact h
  · unfold sq; rw [if_neg hv]; exact norm_1 va s aa ba t ca da w h0 l1 l2 l3 l4 hv
end Go.Proofs.YthhgfhdmfhnklaaGreatDoor
/-
  span: what lies in what: what they hand back.
  Conditions: each theorem's own.
-/
namespace Go.Proofs.YthhgfhdmfhnklaaGreatDoor
open Go.RowKit Go.ChangeShapes Go.WideShapes

set_option maxRecDepth 100000 in
set_option maxHeartbeats 3200000 in
theorem contains_1 (va : Value) (a : Rat × Rat) (vx : Value) (x : Rat) (w : World) (ha : SpIs w va a) (hx : RatIs w vx x) (la1 : rl a.1 ≤ 39000) (la2 : rl a.2 ≤ 39000) (lx : rl x ≤ 39000) (h : a.1 ≤ x) :
    Calls Tryz.prog 31 #[va, vx] w (RetV w (.bool (decide (inS a x)))) := by
  have HBW := Lib.hid (Below.refl w.heap.size w)
  have kz0 : rl 0 ≤ 1 := by rw [rl_zero]; exact Nat.le_refl _
  obtain ⟨qa, oa, na, ka, pa, ma, ra, qax, oax, nax, kax, pax, max, rax, rfl⟩ := ha.shape
  have hla := ha.rl; have hoa := ha.ok; obtain ⟨hlaa, hlab⟩ := hla
  have hoa := Lib.hid hoa
  obtain ⟨sx, ox, nx, cx, ax, mx, dx, rfl⟩ := hx.shape
  have hlx := hx.rl
  obtain ⟨n1, hn1⟩ : ∃ n, n = cq ((a).1) (x) := ⟨_, rfl⟩
  obtain ⟨n2, hn2⟩ : ∃ n, n = cq (x) ((a).2) := ⟨_, rfl⟩
  have f1 : decide (n1 ≤ 0) = true := by rw [hn1]; exact decide_eq_true ((cq_le _ _).2 h)
  rw [show decide (inS a x) = decide (n2 ≤ 0) from by rw [decide_eq_decide, hn2, cq_le]; exact ⟨fun k => k.2, fun k => ⟨h, k⟩⟩]
  have HN1 := Lib.hid hn1; have HN2 := Lib.hid hn2; clear hn1 hn2 h
  have Fa := Lib.hid ha; clear ha
  have Fx := Lib.hid hx; clear hx
  obtain ⟨w1, hw1⟩ : ∃ w1, w1 = w.alloc (.cells #[.bool qa, .slice oa na ka, .slice pa ma ra, .bool qax, .slice oax nax kax, .slice pax max rax] 56) := ⟨_, rfl⟩
  have hb1 : Below w.heap.size w w1 := by rw [hw1]; exact (Below.refl _ _).alloc (Nat.le_refl _) _
  have hx1 := heap_alloc_new w (.cells #[.bool qa, .slice oa na ka, .slice pa ma ra, .bool qax, .slice oax nax kax, .slice pax max rax] 56)
  obtain ⟨g1, hg1⟩ : ∃ g, g = w.heap.size := ⟨_, rfl⟩
  rw [← hw1, ← hg1] at hx1
  have lw1 : w.heap.size ≤ g1 := by rw [hg1]; exact HBW.out.size
  have HW1 := Lib.hid hw1; have HG1 := Lib.hid hg1; clear hw1 hg1
  have HB1 := Lib.hid (HBW.out.step hb1)
  have Fa := Lib.hid (Fa.out.below hb1)
  have Fx := Lib.hid (Fx.out.below hb1)
  have BX1 := Lib.hid hx1; clear hb1 hx1
  obtain ⟨w2, hw2⟩ : ∃ w2, w2 = w1.alloc (.cells #[.bool sx, .slice ox nx cx, .slice ax mx dx] 54) := ⟨_, rfl⟩
  have hb2 : Below w1.heap.size w1 w2 := by rw [hw2]; exact (Below.refl _ _).alloc (Nat.le_refl _) _
  have hx2 := heap_alloc_new w1 (.cells #[.bool sx, .slice ox nx cx, .slice ax mx dx] 54)
  obtain ⟨g2, hg2⟩ : ∃ g, g = w1.heap.size := ⟨_, rfl⟩
  rw [← hw2, ← hg2] at hx2
  have lw2 : w.heap.size ≤ g2 := by rw [hg2]; exact HB1.out.size
  have ltBX12 : g1 < g2 := by rw [hg2]; exact below_lt BX1.out
  have hs2 : g2 = w.heap.size + 1 := by rw [hg2, HW1.out]; simp
  have HS2 := Lib.hid hs2; clear hs2
  have HW2 := Lib.hid hw2; have HG2 := Lib.hid hg2; clear hw2 hg2
  have HB2 := Lib.hid (HB1.out.step hb2)
  have Fa := Lib.hid (Fa.out.below hb2)
  have Fx := Lib.hid (Fx.out.below hb2)
  have BX1 := Lib.hid (heap_below BX1.out hb2)
  have BX2 := Lib.hid hx2; clear hb2 hx2
  go_enter Tryz.func31, Tryz.ntmps31
  obtain ⟨x1_0, x1_1, x1_2, x1_3, x1_4, x1_5⟩ := row6 BX1.out
  have hs := norm_any _ (a) w2 Fa.out
  have HS := Lib.hid hs; clear hs
  try rw [HW2.out] at x1_0
  try rw [HG2.out] at x1_0
  try rw [HW1.out] at x1_0
  try rw [HG1.out] at x1_0
  try rw [HW2.out] at x1_1
  try rw [HG2.out] at x1_1
  try rw [HW1.out] at x1_1
  try rw [HG1.out] at x1_1
  try rw [HW2.out] at x1_2
  try rw [HG2.out] at x1_2
  try rw [HW1.out] at x1_2
  try rw [HG1.out] at x1_2
  try rw [HW2.out] at x1_3
  try rw [HG2.out] at x1_3
  try rw [HW1.out] at x1_3
  try rw [HG1.out] at x1_3
  try rw [HW2.out] at x1_4
  try rw [HG2.out] at x1_4
  try rw [HW1.out] at x1_4
  try rw [HG1.out] at x1_4
  try rw [HW2.out] at x1_5
  try rw [HG2.out] at x1_5
  try rw [HW1.out] at x1_5
  try rw [HG1.out] at x1_5
  go_wp2_with (with_reducible first | refine pauseCall ?_ | refine pauseLoop ?_ | refine pauseDraw ?_ | refine pauseBody ?_ | refine pauseRounds ?_)
  try rw [← HW1.out]
  try rw [← HW2.out]
  try rw [← HS2.out]
  try rw [← HG1.out]
  try rw [← HG2.out]
  clear x1_0 x1_1 x1_2 x1_3 x1_4 x1_5
  refine Pause.mk ?_
  (with_reducible refine HS.out.mono ?_); rintro e w3 ⟨v3, rfl, hb3, hn3⟩
  clear HS
  have HB3 := Lib.hid (HB2.out.step hb3)
  have Fa := Lib.hid (Fa.out.below hb3)
  have Fx := Lib.hid (Fx.out.below hb3)
  have BX1 := Lib.hid (heap_below BX1.out hb3)
  have BX2 := Lib.hid (heap_below BX2.out hb3)
  have N3 := Lib.hid hn3; clear hn3
  obtain ⟨s2, o2, n2, c2, a2, m2, d2, s2x, o2x, n2x, c2x, a2x, m2x, d2x, rfl⟩ := N3.out.shape
  have N3l := Lib.hid (isSp_ends N3.out).1; have N3h := Lib.hid (isSp_ends N3.out).2
  clear hb3
  go_wp2_with (with_reducible refine wpList_pauseS ?_)
  refine wpList_stL g1 0 [.bool s2, .slice o2 n2 c2, .slice a2 m2 d2, .bool s2x, .slice o2x n2x c2x, .slice a2x m2x d2x] BX1.out rfl rfl (Nat.le_of_ble_eq_true rfl) (by kernel_rfl) rfl ?_
  intro w4 hp4
  have Fa := Lib.hid (putL_SS hp4 Fa.out BX1.out noW6)
  have Fx := Lib.hid (putL_R hp4 Fx.out BX1.out noW6)
  have N3 := Lib.hid (putL_SI hp4 N3.out BX1.out noW6)
  have N3l := Lib.hid (putL_I hp4 N3l.out BX1.out noW6)
  have N3h := Lib.hid (putL_I hp4 N3h.out BX1.out noW6)
  have BX2 := Lib.hid (putLx hp4 BX2.out (by omega))
  have nx4 : w4.heap[g1]? = some (.cells #[.bool s2, .slice o2 n2 c2, .slice a2 m2 d2, .bool s2x, .slice o2x n2x c2x, .slice a2x m2x d2x] 56) := by rw [hp4]; exact putL_6 BX1.out
  have BX1 := Lib.hid nx4; clear nx4
  have HB4 := Lib.hid (putLb hp4 HB3.out (by omega))
  clear hp4
  obtain ⟨x3_0, x3_1, x3_2, x3_3, x3_4, x3_5⟩ := row6 BX1.out
  obtain ⟨x4_0, x4_1, x4_2⟩ := row3 BX2.out
  have hs := cmpq_any _ ((a).1) _ (x) w4 (N3l.out.is (by omega)) Fx.out (by omega) (by omega)
  rw [← HN1.out] at hs
  have HS := Lib.hid hs; clear hs
  go_wp2_with (with_reducible first | refine pauseCall ?_ | refine pauseLoop ?_ | refine pauseDraw ?_ | refine pauseBody ?_ | refine pauseRounds ?_)
  clear x3_0 x3_1 x3_2 x3_3 x3_4 x3_5 x4_0 x4_1 x4_2
  refine Pause.mk ?_
  (with_reducible refine HS.out.mono ?_); rintro e w5 ⟨rfl, hb5⟩
  clear HS
  have HB5 := Lib.hid (HB4.out.step hb5)
  have Fa := Lib.hid (Fa.out.below hb5)
  have Fx := Lib.hid (Fx.out.below hb5)
  have N3 := Lib.hid (N3.out.below hb5)
  have N3l := Lib.hid (N3l.out.below hb5)
  have N3h := Lib.hid (N3h.out.below hb5)
  have BX1 := Lib.hid (heap_below BX1.out hb5)
  have BX2 := Lib.hid (heap_below BX2.out hb5)
  clear hb5
  obtain ⟨x5_0, x5_1, x5_2⟩ := row3 BX2.out
  obtain ⟨x6_0, x6_1, x6_2, x6_3, x6_4, x6_5⟩ := row6 BX1.out
  have hs := cmpq_any _ (x) _ ((a).2) w5 Fx.out (N3h.out.is (by omega)) (by omega) (by omega)
  rw [← HN2.out] at hs
  have HS := Lib.hid hs; clear hs
  go_wp2_with (with_reducible first | refine pauseCall ?_ | refine pauseLoop ?_ | refine pauseDraw ?_ | refine pauseBody ?_ | refine pauseRounds ?_)
  clear x5_0 x5_1 x5_2 x6_0 x6_1 x6_2 x6_3 x6_4 x6_5
  refine Pause.mk ?_
  (with_reducible refine HS.out.mono ?_); rintro e w6 ⟨rfl, hb6⟩
  clear HS
  have HB6 := Lib.hid (HB5.out.step hb6)
  have Fa := Lib.hid (Fa.out.below hb6)
  have Fx := Lib.hid (Fx.out.below hb6)
  have N3 := Lib.hid (N3.out.below hb6)
  have N3l := Lib.hid (N3l.out.below hb6)
  have N3h := Lib.hid (N3h.out.below hb6)
  have BX1 := Lib.hid (heap_below BX1.out hb6)
  have BX2 := Lib.hid (heap_below BX2.out hb6)
  clear hb6
  go_wp2_with (with_reducible first | refine pauseCall ?_ | refine pauseLoop ?_ | refine pauseDraw ?_ | refine pauseBody ?_ | refine pauseRounds ?_)
  refine Pause.mk ?_
  go_ret
  exact ⟨by first | rfl | (simp; done), HB6.out⟩
set_option maxRecDepth 100000 in
set_option maxHeartbeats 3200000 in
theorem contains_2 (va : Value) (a : Rat × Rat) (vx : Value) (x : Rat) (w : World) (ha : SpIs w va a) (hx : RatIs w vx x) (la1 : rl a.1 ≤ 39000) (_la2 : rl a.2 ≤ 39000) (lx : rl x ≤ 39000) (h : ¬ a.1 ≤ x) :
    Calls Tryz.prog 31 #[va, vx] w (RetV w (.bool (decide (inS a x)))) := by
  have HBW := Lib.hid (Below.refl w.heap.size w)
  have kz0 : rl 0 ≤ 1 := by rw [rl_zero]; exact Nat.le_refl _
  obtain ⟨qa, oa, na, ka, pa, ma, ra, qax, oax, nax, kax, pax, max, rax, rfl⟩ := ha.shape
  have hla := ha.rl; have hoa := ha.ok; obtain ⟨hlaa, hlab⟩ := hla
  have hoa := Lib.hid hoa
  obtain ⟨sx, ox, nx, cx, ax, mx, dx, rfl⟩ := hx.shape
  have hlx := hx.rl
  obtain ⟨n1, hn1⟩ : ∃ n, n = cq ((a).1) (x) := ⟨_, rfl⟩
  obtain ⟨n2, hn2⟩ : ∃ n, n = cq (x) ((a).2) := ⟨_, rfl⟩
  have f1 : decide (n1 ≤ 0) = false := by rw [hn1]; exact decide_eq_false (fun k => h ((cq_le _ _).1 k))
  rw [show decide (inS a x) = false from decide_eq_false (fun k => h k.1)]
  have HN1 := Lib.hid hn1; have HN2 := Lib.hid hn2; clear hn1 hn2 h
  have Fa := Lib.hid ha; clear ha
  have Fx := Lib.hid hx; clear hx
  obtain ⟨w1, hw1⟩ : ∃ w1, w1 = w.alloc (.cells #[.bool qa, .slice oa na ka, .slice pa ma ra, .bool qax, .slice oax nax kax, .slice pax max rax] 56) := ⟨_, rfl⟩
  have hb1 : Below w.heap.size w w1 := by rw [hw1]; exact (Below.refl _ _).alloc (Nat.le_refl _) _
  have hx1 := heap_alloc_new w (.cells #[.bool qa, .slice oa na ka, .slice pa ma ra, .bool qax, .slice oax nax kax, .slice pax max rax] 56)
  obtain ⟨g1, hg1⟩ : ∃ g, g = w.heap.size := ⟨_, rfl⟩
  rw [← hw1, ← hg1] at hx1
  have lw1 : w.heap.size ≤ g1 := by rw [hg1]; exact HBW.out.size
  have HW1 := Lib.hid hw1; have HG1 := Lib.hid hg1; clear hw1 hg1
  have HB1 := Lib.hid (HBW.out.step hb1)
  have Fa := Lib.hid (Fa.out.below hb1)
  have Fx := Lib.hid (Fx.out.below hb1)
  have BX1 := Lib.hid hx1; clear hb1 hx1
  obtain ⟨w2, hw2⟩ : ∃ w2, w2 = w1.alloc (.cells #[.bool sx, .slice ox nx cx, .slice ax mx dx] 54) := ⟨_, rfl⟩
  have hb2 : Below w1.heap.size w1 w2 := by rw [hw2]; exact (Below.refl _ _).alloc (Nat.le_refl _) _
  have hx2 := heap_alloc_new w1 (.cells #[.bool sx, .slice ox nx cx, .slice ax mx dx] 54)
  obtain ⟨g2, hg2⟩ : ∃ g, g = w1.heap.size := ⟨_, rfl⟩
  rw [← hw2, ← hg2] at hx2
  have lw2 : w.heap.size ≤ g2 := by rw [hg2]; exact HB1.out.size
  have ltBX12 : g1 < g2 := by rw [hg2]; exact below_lt BX1.out
  have hs2 : g2 = w.heap.size + 1 := by rw [hg2, HW1.out]; simp
  have HS2 := Lib.hid hs2; clear hs2
  have HW2 := Lib.hid hw2; have HG2 := Lib.hid hg2; clear hw2 hg2
  have HB2 := Lib.hid (HB1.out.step hb2)
  have Fa := Lib.hid (Fa.out.below hb2)
  have Fx := Lib.hid (Fx.out.below hb2)
  have BX1 := Lib.hid (heap_below BX1.out hb2)
  have BX2 := Lib.hid hx2; clear hb2 hx2
  go_enter Tryz.func31, Tryz.ntmps31
  obtain ⟨x1_0, x1_1, x1_2, x1_3, x1_4, x1_5⟩ := row6 BX1.out
  have hs := norm_any _ (a) w2 Fa.out
  have HS := Lib.hid hs; clear hs
  try rw [HW2.out] at x1_0
  try rw [HG2.out] at x1_0
  try rw [HW1.out] at x1_0
  try rw [HG1.out] at x1_0
  try rw [HW2.out] at x1_1
  try rw [HG2.out] at x1_1
  try rw [HW1.out] at x1_1
  try rw [HG1.out] at x1_1
  try rw [HW2.out] at x1_2
  try rw [HG2.out] at x1_2
  try rw [HW1.out] at x1_2
  try rw [HG1.out] at x1_2
  try rw [HW2.out] at x1_3
  try rw [HG2.out] at x1_3
  try rw [HW1.out] at x1_3
  try rw [HG1.out] at x1_3
  try rw [HW2.out] at x1_4
  try rw [HG2.out] at x1_4
  try rw [HW1.out] at x1_4
  try rw [HG1.out] at x1_4
  try rw [HW2.out] at x1_5
  try rw [HG2.out] at x1_5
  try rw [HW1.out] at x1_5
  try rw [HG1.out] at x1_5
  go_wp2_with (with_reducible first | refine pauseCall ?_ | refine pauseLoop ?_ | refine pauseDraw ?_ | refine pauseBody ?_ | refine pauseRounds ?_)
  try rw [← HW1.out]
  try rw [← HW2.out]
  try rw [← HS2.out]
  try rw [← HG1.out]
  try rw [← HG2.out]
  clear x1_0 x1_1 x1_2 x1_3 x1_4 x1_5
  refine Pause.mk ?_
  (with_reducible refine HS.out.mono ?_); rintro e w3 ⟨v3, rfl, hb3, hn3⟩
  clear HS
  have HB3 := Lib.hid (HB2.out.step hb3)
  have Fa := Lib.hid (Fa.out.below hb3)
  have Fx := Lib.hid (Fx.out.below hb3)
  have BX1 := Lib.hid (heap_below BX1.out hb3)
  have BX2 := Lib.hid (heap_below BX2.out hb3)
  have N3 := Lib.hid hn3; clear hn3
  obtain ⟨s2, o2, n2, c2, a2, m2, d2, s2x, o2x, n2x, c2x, a2x, m2x, d2x, rfl⟩ := N3.out.shape
  have N3l := Lib.hid (isSp_ends N3.out).1; have N3h := Lib.hid (isSp_ends N3.out).2
  clear hb3
  go_wp2_with (with_reducible refine wpList_pauseS ?_)
  refine wpList_stL g1 0 [.bool s2, .slice o2 n2 c2, .slice a2 m2 d2, .bool s2x, .slice o2x n2x c2x, .slice a2x m2x d2x] BX1.out rfl rfl (Nat.le_of_ble_eq_true rfl) (by kernel_rfl) rfl ?_
  intro w4 hp4
  have Fa := Lib.hid (putL_SS hp4 Fa.out BX1.out noW6)
  have Fx := Lib.hid (putL_R hp4 Fx.out BX1.out noW6)
  have N3 := Lib.hid (putL_SI hp4 N3.out BX1.out noW6)
  have N3l := Lib.hid (putL_I hp4 N3l.out BX1.out noW6)
  have N3h := Lib.hid (putL_I hp4 N3h.out BX1.out noW6)
  have BX2 := Lib.hid (putLx hp4 BX2.out (by omega))
  have nx4 : w4.heap[g1]? = some (.cells #[.bool s2, .slice o2 n2 c2, .slice a2 m2 d2, .bool s2x, .slice o2x n2x c2x, .slice a2x m2x d2x] 56) := by rw [hp4]; exact putL_6 BX1.out
  have BX1 := Lib.hid nx4; clear nx4
  have HB4 := Lib.hid (putLb hp4 HB3.out (by omega))
  clear hp4
  obtain ⟨x3_0, x3_1, x3_2, x3_3, x3_4, x3_5⟩ := row6 BX1.out
  obtain ⟨x4_0, x4_1, x4_2⟩ := row3 BX2.out
  have hs := cmpq_any _ ((a).1) _ (x) w4 (N3l.out.is (by omega)) Fx.out (by omega) (by omega)
  rw [← HN1.out] at hs
  have HS := Lib.hid hs; clear hs
  go_wp2_with (with_reducible first | refine pauseCall ?_ | refine pauseLoop ?_ | refine pauseDraw ?_ | refine pauseBody ?_ | refine pauseRounds ?_)
  clear x3_0 x3_1 x3_2 x3_3 x3_4 x3_5 x4_0 x4_1 x4_2
  refine Pause.mk ?_
  (with_reducible refine HS.out.mono ?_); rintro e w5 ⟨rfl, hb5⟩
  clear HS
  have HB5 := Lib.hid (HB4.out.step hb5)
  have Fa := Lib.hid (Fa.out.below hb5)
  have Fx := Lib.hid (Fx.out.below hb5)
  have N3 := Lib.hid (N3.out.below hb5)
  have N3l := Lib.hid (N3l.out.below hb5)
  have N3h := Lib.hid (N3h.out.below hb5)
  have BX1 := Lib.hid (heap_below BX1.out hb5)
  have BX2 := Lib.hid (heap_below BX2.out hb5)
  clear hb5
  go_wp2_with (with_reducible first | refine pauseCall ?_ | refine pauseLoop ?_ | refine pauseDraw ?_ | refine pauseBody ?_ | refine pauseRounds ?_)
  refine Pause.mk ?_
  go_ret
  exact ⟨by first | rfl | (simp; done), HB5.out⟩
theorem contains_any (va : Value) (a : Rat × Rat) (vx : Value) (x : Rat) (w : World) (ha : SpIs w va a) (hx : RatIs w vx x) (la1 : rl a.1 ≤ 39000) (la2 : rl a.2 ≤ 39000) (lx : rl x ≤ 39000) :
    Calls Tryz.prog 31 #[va, vx] w (RetV w (.bool (decide (inS a x)))) := by
  by_cases h : a.1 ≤ x
  · exact contains_1 va a vx x w ha hx la1 la2 lx h
  · exact contains_2 va a vx x w ha hx la1 la2 lx h
set_option maxRecDepth 100000 in
set_option maxHeartbeats 3200000 in
theorem inside_1 (va : Value) (a : Rat × Rat) (vb : Value) (b : Rat × Rat) (w : World) (ha : SpIs w va a) (hb : SpIs w vb b) (la1 : rl a.1 ≤ 39000) (la2 : rl a.2 ≤ 39000) (lb1 : rl b.1 ≤ 39000) (lb2 : rl b.2 ≤ 39000) (h : inS b a.1) :
    Calls Tryz.prog 20 #[va, vb] w (RetV w (.bool (decide (subS a b)))) := by
  have HBW := Lib.hid (Below.refl w.heap.size w)
  have kz0 : rl 0 ≤ 1 := by rw [rl_zero]; exact Nat.le_refl _
  obtain ⟨qa, oa, na, ka, pa, ma, ra, qax, oax, nax, kax, pax, max, rax, rfl⟩ := ha.shape
  have hla := ha.rl; have hoa := ha.ok; obtain ⟨hlaa, hlab⟩ := hla
  have hoa := Lib.hid hoa
  obtain ⟨qb, ob, nb, kb, pb, mb, rb, qbx, obx, nbx, kbx, pbx, mbx, rbx, rfl⟩ := hb.shape
  have hlb := hb.rl; have hob := hb.ok; obtain ⟨hlba, hlbb⟩ := hlb
  have hob := Lib.hid hob
  rw [show decide (subS a b) = decide (inS (b) ((a).2)) from by rw [decide_eq_decide]; exact ⟨fun k => k.2, fun k => ⟨h, k⟩⟩]
  have HI := Lib.hid (decide_eq_true h); clear h
  have Fa := Lib.hid ha; clear ha
  have Fb := Lib.hid hb; clear hb
  obtain ⟨w1, hw1⟩ : ∃ w1, w1 = w.alloc (.cells #[.bool qa, .slice oa na ka, .slice pa ma ra, .bool qax, .slice oax nax kax, .slice pax max rax] 56) := ⟨_, rfl⟩
  have hb1 : Below w.heap.size w w1 := by rw [hw1]; exact (Below.refl _ _).alloc (Nat.le_refl _) _
  have hx1 := heap_alloc_new w (.cells #[.bool qa, .slice oa na ka, .slice pa ma ra, .bool qax, .slice oax nax kax, .slice pax max rax] 56)
  obtain ⟨g1, hg1⟩ : ∃ g, g = w.heap.size := ⟨_, rfl⟩
  rw [← hw1, ← hg1] at hx1
  have lw1 : w.heap.size ≤ g1 := by rw [hg1]; exact HBW.out.size
  have HW1 := Lib.hid hw1; have HG1 := Lib.hid hg1; clear hw1 hg1
  have HB1 := Lib.hid (HBW.out.step hb1)
  have Fa := Lib.hid (Fa.out.below hb1)
  have Fb := Lib.hid (Fb.out.below hb1)
  have BX1 := Lib.hid hx1; clear hb1 hx1
  obtain ⟨w2, hw2⟩ : ∃ w2, w2 = w1.alloc (.cells #[.bool qb, .slice ob nb kb, .slice pb mb rb, .bool qbx, .slice obx nbx kbx, .slice pbx mbx rbx] 56) := ⟨_, rfl⟩
  have hb2 : Below w1.heap.size w1 w2 := by rw [hw2]; exact (Below.refl _ _).alloc (Nat.le_refl _) _
  have hx2 := heap_alloc_new w1 (.cells #[.bool qb, .slice ob nb kb, .slice pb mb rb, .bool qbx, .slice obx nbx kbx, .slice pbx mbx rbx] 56)
  obtain ⟨g2, hg2⟩ : ∃ g, g = w1.heap.size := ⟨_, rfl⟩
  rw [← hw2, ← hg2] at hx2
  have lw2 : w.heap.size ≤ g2 := by rw [hg2]; exact HB1.out.size
  have ltBX12 : g1 < g2 := by rw [hg2]; exact below_lt BX1.out
  have hs2 : g2 = w.heap.size + 1 := by rw [hg2, HW1.out]; simp
  have HS2 := Lib.hid hs2; clear hs2
  have HW2 := Lib.hid hw2; have HG2 := Lib.hid hg2; clear hw2 hg2
  have HB2 := Lib.hid (HB1.out.step hb2)
  have Fa := Lib.hid (Fa.out.below hb2)
  have Fb := Lib.hid (Fb.out.below hb2)
  have BX1 := Lib.hid (heap_below BX1.out hb2)
  have BX2 := Lib.hid hx2; clear hb2 hx2
  go_enter Tryz.func20, Tryz.ntmps20
  obtain ⟨x1_0, x1_1, x1_2, x1_3, x1_4, x1_5⟩ := row6 BX1.out
  have hs := norm_any _ (a) w2 Fa.out
  have HS := Lib.hid hs; clear hs
  try rw [HW2.out] at x1_0
  try rw [HG2.out] at x1_0
  try rw [HW1.out] at x1_0
  try rw [HG1.out] at x1_0
  try rw [HW2.out] at x1_1
  try rw [HG2.out] at x1_1
  try rw [HW1.out] at x1_1
  try rw [HG1.out] at x1_1
  try rw [HW2.out] at x1_2
  try rw [HG2.out] at x1_2
  try rw [HW1.out] at x1_2
  try rw [HG1.out] at x1_2
  try rw [HW2.out] at x1_3
  try rw [HG2.out] at x1_3
  try rw [HW1.out] at x1_3
  try rw [HG1.out] at x1_3
  try rw [HW2.out] at x1_4
  try rw [HG2.out] at x1_4
  try rw [HW1.out] at x1_4
  try rw [HG1.out] at x1_4
  try rw [HW2.out] at x1_5
  try rw [HG2.out] at x1_5
  try rw [HW1.out] at x1_5
  try rw [HG1.out] at x1_5
  go_wp2_with (with_reducible first | refine pauseCall ?_ | refine pauseLoop ?_ | refine pauseDraw ?_ | refine pauseBody ?_ | refine pauseRounds ?_)
  try rw [← HW1.out]
  try rw [← HW2.out]
  try rw [← HS2.out]
  try rw [← HG1.out]
  try rw [← HG2.out]
  clear x1_0 x1_1 x1_2 x1_3 x1_4 x1_5
  refine Pause.mk ?_
  (with_reducible refine HS.out.mono ?_); rintro e w3 ⟨v3, rfl, hb3, hn3⟩
  clear HS
  have HB3 := Lib.hid (HB2.out.step hb3)
  have Fa := Lib.hid (Fa.out.below hb3)
  have Fb := Lib.hid (Fb.out.below hb3)
  have BX1 := Lib.hid (heap_below BX1.out hb3)
  have BX2 := Lib.hid (heap_below BX2.out hb3)
  have N3 := Lib.hid hn3; clear hn3
  obtain ⟨s2, o2, n2, c2, a2, m2, d2, s2x, o2x, n2x, c2x, a2x, m2x, d2x, rfl⟩ := N3.out.shape
  have N3l := Lib.hid (isSp_ends N3.out).1; have N3h := Lib.hid (isSp_ends N3.out).2
  clear hb3
  go_wp2_with (with_reducible refine wpList_pauseS ?_)
  refine wpList_stL g1 0 [.bool s2, .slice o2 n2 c2, .slice a2 m2 d2, .bool s2x, .slice o2x n2x c2x, .slice a2x m2x d2x] BX1.out rfl rfl (Nat.le_of_ble_eq_true rfl) (by kernel_rfl) rfl ?_
  intro w4 hp4
  have Fa := Lib.hid (putL_SS hp4 Fa.out BX1.out noW6)
  have Fb := Lib.hid (putL_SS hp4 Fb.out BX1.out noW6)
  have N3 := Lib.hid (putL_SI hp4 N3.out BX1.out noW6)
  have N3l := Lib.hid (putL_I hp4 N3l.out BX1.out noW6)
  have N3h := Lib.hid (putL_I hp4 N3h.out BX1.out noW6)
  have BX2 := Lib.hid (putLx hp4 BX2.out (by omega))
  have nx4 : w4.heap[g1]? = some (.cells #[.bool s2, .slice o2 n2 c2, .slice a2 m2 d2, .bool s2x, .slice o2x n2x c2x, .slice a2x m2x d2x] 56) := by rw [hp4]; exact putL_6 BX1.out
  have BX1 := Lib.hid nx4; clear nx4
  have HB4 := Lib.hid (putLb hp4 HB3.out (by omega))
  clear hp4
  obtain ⟨x3_0, x3_1, x3_2, x3_3, x3_4, x3_5⟩ := row6 BX2.out
  obtain ⟨x4_0, x4_1, x4_2, x4_3, x4_4, x4_5⟩ := row6 BX1.out
  have hs := contains_any _ (b) _ ((a).1) w4 Fb.out (N3l.out.is (by omega)) (by omega) (by omega) (by omega)
  rw [HI.out] at hs
  have HS := Lib.hid hs; clear hs
  go_wp2_with (with_reducible first | refine pauseCall ?_ | refine pauseLoop ?_ | refine pauseDraw ?_ | refine pauseBody ?_ | refine pauseRounds ?_)
  clear x3_0 x3_1 x3_2 x3_3 x3_4 x3_5 x4_0 x4_1 x4_2 x4_3 x4_4 x4_5
  refine Pause.mk ?_
  (with_reducible refine HS.out.mono ?_); rintro e w5 ⟨rfl, hb5⟩
  clear HS
  have HB5 := Lib.hid (HB4.out.step hb5)
  have Fa := Lib.hid (Fa.out.below hb5)
  have Fb := Lib.hid (Fb.out.below hb5)
  have N3 := Lib.hid (N3.out.below hb5)
  have N3l := Lib.hid (N3l.out.below hb5)
  have N3h := Lib.hid (N3h.out.below hb5)
  have BX1 := Lib.hid (heap_below BX1.out hb5)
  have BX2 := Lib.hid (heap_below BX2.out hb5)
  clear hb5
  obtain ⟨x5_0, x5_1, x5_2, x5_3, x5_4, x5_5⟩ := row6 BX2.out
  obtain ⟨x6_0, x6_1, x6_2, x6_3, x6_4, x6_5⟩ := row6 BX1.out
  have hs := contains_any _ (b) _ ((a).2) w5 Fb.out (N3h.out.is (by omega)) (by omega) (by omega) (by omega)
  have HS := Lib.hid hs; clear hs
  go_wp2_with (with_reducible first | refine pauseCall ?_ | refine pauseLoop ?_ | refine pauseDraw ?_ | refine pauseBody ?_ | refine pauseRounds ?_)
  clear x5_0 x5_1 x5_2 x5_3 x5_4 x5_5 x6_0 x6_1 x6_2 x6_3 x6_4 x6_5
  refine Pause.mk ?_
  (with_reducible refine HS.out.mono ?_); rintro e w6 ⟨rfl, hb6⟩
  clear HS
  have HB6 := Lib.hid (HB5.out.step hb6)
  have Fa := Lib.hid (Fa.out.below hb6)
  have Fb := Lib.hid (Fb.out.below hb6)
  have N3 := Lib.hid (N3.out.below hb6)
  have N3l := Lib.hid (N3l.out.below hb6)
  have N3h := Lib.hid (N3h.out.below hb6)
  have BX1 := Lib.hid (heap_below BX1.out hb6)
  have BX2 := Lib.hid (heap_below BX2.out hb6)
  clear hb6
  go_wp2_with (with_reducible first | refine pauseCall ?_ | refine pauseLoop ?_ | refine pauseDraw ?_ | refine pauseBody ?_ | refine pauseRounds ?_)
  refine Pause.mk ?_
  go_ret
  exact ⟨by first | rfl | (simp; done), HB6.out⟩
set_option maxRecDepth 100000 in
set_option maxHeartbeats 3200000 in
theorem inside_2 (va : Value) (a : Rat × Rat) (vb : Value) (b : Rat × Rat) (w : World) (ha : SpIs w va a) (hb : SpIs w vb b) (la1 : rl a.1 ≤ 39000) (la2 : rl a.2 ≤ 39000) (lb1 : rl b.1 ≤ 39000) (lb2 : rl b.2 ≤ 39000) (h : ¬ inS b a.1) :
    Calls Tryz.prog 20 #[va, vb] w (RetV w (.bool (decide (subS a b)))) := by
  have HBW := Lib.hid (Below.refl w.heap.size w)
  have kz0 : rl 0 ≤ 1 := by rw [rl_zero]; exact Nat.le_refl _
  obtain ⟨qa, oa, na, ka, pa, ma, ra, qax, oax, nax, kax, pax, max, rax, rfl⟩ := ha.shape
  have hla := ha.rl; have hoa := ha.ok; obtain ⟨hlaa, hlab⟩ := hla
  have hoa := Lib.hid hoa
  obtain ⟨qb, ob, nb, kb, pb, mb, rb, qbx, obx, nbx, kbx, pbx, mbx, rbx, rfl⟩ := hb.shape
  have hlb := hb.rl; have hob := hb.ok; obtain ⟨hlba, hlbb⟩ := hlb
  have hob := Lib.hid hob
  rw [show decide (subS a b) = false from decide_eq_false (fun k => h k.1)]
  have HI := Lib.hid (decide_eq_false h); clear h
  have Fa := Lib.hid ha; clear ha
  have Fb := Lib.hid hb; clear hb
  obtain ⟨w1, hw1⟩ : ∃ w1, w1 = w.alloc (.cells #[.bool qa, .slice oa na ka, .slice pa ma ra, .bool qax, .slice oax nax kax, .slice pax max rax] 56) := ⟨_, rfl⟩
  have hb1 : Below w.heap.size w w1 := by rw [hw1]; exact (Below.refl _ _).alloc (Nat.le_refl _) _
  have hx1 := heap_alloc_new w (.cells #[.bool qa, .slice oa na ka, .slice pa ma ra, .bool qax, .slice oax nax kax, .slice pax max rax] 56)
  obtain ⟨g1, hg1⟩ : ∃ g, g = w.heap.size := ⟨_, rfl⟩
  rw [← hw1, ← hg1] at hx1
  have lw1 : w.heap.size ≤ g1 := by rw [hg1]; exact HBW.out.size
  have HW1 := Lib.hid hw1; have HG1 := Lib.hid hg1; clear hw1 hg1
  have HB1 := Lib.hid (HBW.out.step hb1)
  have Fa := Lib.hid (Fa.out.below hb1)
  have Fb := Lib.hid (Fb.out.below hb1)
  have BX1 := Lib.hid hx1; clear hb1 hx1
  obtain ⟨w2, hw2⟩ : ∃ w2, w2 = w1.alloc (.cells #[.bool qb, .slice ob nb kb, .slice pb mb rb, .bool qbx, .slice obx nbx kbx, .slice pbx mbx rbx] 56) := ⟨_, rfl⟩
  have hb2 : Below w1.heap.size w1 w2 := by rw [hw2]; exact (Below.refl _ _).alloc (Nat.le_refl _) _
  have hx2 := heap_alloc_new w1 (.cells #[.bool qb, .slice ob nb kb, .slice pb mb rb, .bool qbx, .slice obx nbx kbx, .slice pbx mbx rbx] 56)
  obtain ⟨g2, hg2⟩ : ∃ g, g = w1.heap.size := ⟨_, rfl⟩
  rw [← hw2, ← hg2] at hx2
  have lw2 : w.heap.size ≤ g2 := by rw [hg2]; exact HB1.out.size
  have ltBX12 : g1 < g2 := by rw [hg2]; exact below_lt BX1.out
  have hs2 : g2 = w.heap.size + 1 := by rw [hg2, HW1.out]; simp
  have HS2 := Lib.hid hs2; clear hs2
  have HW2 := Lib.hid hw2; have HG2 := Lib.hid hg2; clear hw2 hg2
  have HB2 := Lib.hid (HB1.out.step hb2)
  have Fa := Lib.hid (Fa.out.below hb2)
  have Fb := Lib.hid (Fb.out.below hb2)
  have BX1 := Lib.hid (heap_below BX1.out hb2)
  have BX2 := Lib.hid hx2; clear hb2 hx2
  go_enter Tryz.func20, Tryz.ntmps20
  obtain ⟨x1_0, x1_1, x1_2, x1_3, x1_4, x1_5⟩ := row6 BX1.out
  have hs := norm_any _ (a) w2 Fa.out
  have HS := Lib.hid hs; clear hs
  try rw [HW2.out] at x1_0
  try rw [HG2.out] at x1_0
  try rw [HW1.out] at x1_0
  try rw [HG1.out] at x1_0
  try rw [HW2.out] at x1_1
  try rw [HG2.out] at x1_1
  try rw [HW1.out] at x1_1
  try rw [HG1.out] at x1_1
  try rw [HW2.out] at x1_2
  try rw [HG2.out] at x1_2
  try rw [HW1.out] at x1_2
  try rw [HG1.out] at x1_2
  try rw [HW2.out] at x1_3
  try rw [HG2.out] at x1_3
  try rw [HW1.out] at x1_3
  try rw [HG1.out] at x1_3
  try rw [HW2.out] at x1_4
  try rw [HG2.out] at x1_4
  try rw [HW1.out] at x1_4
  try rw [HG1.out] at x1_4
  try rw [HW2.out] at x1_5
  try rw [HG2.out] at x1_5
  try rw [HW1.out] at x1_5
  try rw [HG1.out] at x1_5
  go_wp2_with (with_reducible first | refine pauseCall ?_ | refine pauseLoop ?_ | refine pauseDraw ?_ | refine pauseBody ?_ | refine pauseRounds ?_)
  try rw [← HW1.out]
  try rw [← HW2.out]
  try rw [← HS2.out]
  try rw [← HG1.out]
  try rw [← HG2.out]
  clear x1_0 x1_1 x1_2 x1_3 x1_4 x1_5
  refine Pause.mk ?_
  (with_reducible refine HS.out.mono ?_); rintro e w3 ⟨v3, rfl, hb3, hn3⟩
  clear HS
  have HB3 := Lib.hid (HB2.out.step hb3)
  have Fa := Lib.hid (Fa.out.below hb3)
  have Fb := Lib.hid (Fb.out.below hb3)
  have BX1 := Lib.hid (heap_below BX1.out hb3)
  have BX2 := Lib.hid (heap_below BX2.out hb3)
  have N3 := Lib.hid hn3; clear hn3
  obtain ⟨s2, o2, n2, c2, a2, m2, d2, s2x, o2x, n2x, c2x, a2x, m2x, d2x, rfl⟩ := N3.out.shape
  have N3l := Lib.hid (isSp_ends N3.out).1; have N3h := Lib.hid (isSp_ends N3.out).2
  clear hb3
  go_wp2_with (with_reducible refine wpList_pauseS ?_)
  refine wpList_stL g1 0 [.bool s2, .slice o2 n2 c2, .slice a2 m2 d2, .bool s2x, .slice o2x n2x c2x, .slice a2x m2x d2x] BX1.out rfl rfl (Nat.le_of_ble_eq_true rfl) (by kernel_rfl) rfl ?_
  intro w4 hp4
  have Fa := Lib.hid (putL_SS hp4 Fa.out BX1.out noW6)
  have Fb := Lib.hid (putL_SS hp4 Fb.out BX1.out noW6)
  have N3 := Lib.hid (putL_SI hp4 N3.out BX1.out noW6)
  have N3l := Lib.hid (putL_I hp4 N3l.out BX1.out noW6)
  have N3h := Lib.hid (putL_I hp4 N3h.out BX1.out noW6)
  have BX2 := Lib.hid (putLx hp4 BX2.out (by omega))
  have nx4 : w4.heap[g1]? = some (.cells #[.bool s2, .slice o2 n2 c2, .slice a2 m2 d2, .bool s2x, .slice o2x n2x c2x, .slice a2x m2x d2x] 56) := by rw [hp4]; exact putL_6 BX1.out
  have BX1 := Lib.hid nx4; clear nx4
  have HB4 := Lib.hid (putLb hp4 HB3.out (by omega))
  clear hp4
  obtain ⟨x3_0, x3_1, x3_2, x3_3, x3_4, x3_5⟩ := row6 BX2.out
  obtain ⟨x4_0, x4_1, x4_2, x4_3, x4_4, x4_5⟩ := row6 BX1.out
  have hs := contains_any _ (b) _ ((a).1) w4 Fb.out (N3l.out.is (by omega)) (by omega) (by omega) (by omega)
  rw [HI.out] at hs
  have HS := Lib.hid hs; clear hs
  go_wp2_with (with_reducible first | refine pauseCall ?_ | refine pauseLoop ?_ | refine pauseDraw ?_ | refine pauseBody ?_ | refine pauseRounds ?_)
  clear x3_0 x3_1 x3_2 x3_3 x3_4 x3_5 x4_0 x4_1 x4_2 x4_3 x4_4 x4_5
  refine Pause.mk ?_
  (with_reducible refine HS.out.mono ?_); rintro e w5 ⟨rfl, hb5⟩
  clear HS
  have HB5 := Lib.hid (HB4.out.step hb5)
  have Fa := Lib.hid (Fa.out.below hb5)
  have Fb := Lib.hid (Fb.out.below hb5)
  have N3 := Lib.hid (N3.out.below hb5)
  have N3l := Lib.hid (N3l.out.below hb5)
  have N3h := Lib.hid (N3h.out.below hb5)
  have BX1 := Lib.hid (heap_below BX1.out hb5)
  have BX2 := Lib.hid (heap_below BX2.out hb5)
  clear hb5
  go_wp2_with (with_reducible first | refine pauseCall ?_ | refine pauseLoop ?_ | refine pauseDraw ?_ | refine pauseBody ?_ | refine pauseRounds ?_)
  refine Pause.mk ?_
  go_ret
  exact ⟨by first | rfl | (simp; done), HB5.out⟩
theorem inside_any (va : Value) (a : Rat × Rat) (vb : Value) (b : Rat × Rat) (w : World) (ha : SpIs w va a) (hb : SpIs w vb b) (la1 : rl a.1 ≤ 39000) (la2 : rl a.2 ≤ 39000) (lb1 : rl b.1 ≤ 39000) (lb2 : rl b.2 ≤ 39000) :
    Calls Tryz.prog 20 #[va, vb] w (RetV w (.bool (decide (subS a b)))) := by
  by_cases h : inS b a.1
  · exact inside_1 va a vb b w ha hb la1 la2 lb1 lb2 h
  · exact inside_2 va a vb b w ha hb la1 la2 lb1 lb2 h
end Go.Proofs.YthhgfhdmfhnklaaGreatDoor
/-
  An argument that is a list of fractions.
  Conditions: none beyond each theorem's own.
-/
namespace Go.Proofs.YthhgfhdmfhnklaaGreatDoor
open Go.RowKit Go.ChangeShapes Go.WideShapes Go.Joins Go.Deep

set_option maxRecDepth 100000 in
set_option maxHeartbeats 1600000 in
theorem open_rv {H : Type} {enc : TypeId × Value → H} {W : World} {cs : List Value} {x : DataW H × List MemPlace} {fuel : Nat}
    (h : DataW.trod enc Tryz.prog W 0 (fun _ => true) true fuel 54 cs = some x) : ∃ (r : Rv) (va vb : Value), cs = [.bool r.s, va, vb] ∧ Num W va r.a ∧ Num W vb r.b := by
  obtain ⟨y0, y1, y2, n, hx, hl, h0, h1, h2⟩ := trod_struct3 Tryz.underlying54 h
  have hl' : cs.length = 3 := hl.trans (by kernel_rfl)
  match cs, hl' with
  | [c0, c1, c2], _ =>
    have h0' : DataW.trod enc Tryz.prog W 0 (fun _ => true) true n 4 [c0] = some y0 := h0
    have h1' : DataW.trod enc Tryz.prog W 0 (fun _ => true) true n 52 [c1] = some y1 := h1
    have h2' : DataW.trod enc Tryz.prog W 0 (fun _ => true) true n 52 [c2] = some y2 := h2
    obtain ⟨b', k0, _⟩ := DataW.trod_bool Tryz.underlying4 h0'
    have e0 : c0 = .bool b' := by simpa using k0
    obtain ⟨a, ha⟩ := open_words_cell Tryz.underlying52 Tryz.underlying156 (by kernel_rfl) h1'
    obtain ⟨b, hb⟩ := open_words_cell Tryz.underlying52 Tryz.underlying156 (by kernel_rfl) h2'
    exact ⟨⟨b', a, b⟩, c1, c2, by rw [e0], ha, hb⟩
set_option maxRecDepth 100000 in
set_option maxHeartbeats 1600000 in
theorem open_rats {H : Type} {enc : TypeId × Value → H} {W : World} {v : Value} {d : DataW H} {p : List MemPlace} {base : Nat}
    (hv : Value.okWide Tryz.prog W .any base 50 v) (h : DataW.Trod enc Tryz.prog W 0 (fun _ => true) true 50 v d p) : ∃ L, RvsV W v L := by
  obtain ⟨a0, len0, cap0, rfl⟩ := okWide_slice Tryz.underlying50 hv
  obtain ⟨fuel, hf⟩ := h
  rcases open_slice Tryz.underlying50 hf with ⟨hcs, _⟩ | ⟨a, len, cap, m, n, D, Pl, hcs, _, hl, hm, hmm, _, hel⟩
  · have hcs' : Value.slice a0 len0 cap0 = .slice none 0 0 := by simpa [Value.cells] using hcs
    rw [hcs']; exact ⟨[], none, 0, rfl, Nat.le_refl _, by omega, fun _ => rfl, fun b off s h => by cases h⟩
  · have hcs' : Value.slice a0 len0 cap0 = .slice (some a) len cap := by simpa [Value.cells] using hcs
    rw [hcs']
    simp only [if_true] at hmm
    subst hmm
    have hc3 : Tryz.prog.cellsOf 54 = 3 := by kernel_rfl
    rw [hc3] at hel
    obtain ⟨F, hF⟩ := choose_lt (α := Rv) (n := len) (p := fun i r => ∃ va vb, W.cell? (a.add (i * 3)) = some (.bool r.s) ∧ W.cell? ((a.add (i * 3)).add 1) = some va ∧ W.cell? ((a.add (i * 3)).add 2) = some vb ∧ Num W va r.a ∧ Num W vb r.b) (fun i hi => by
      obtain ⟨cs', h1, h2⟩ := hel i (by omega)
      obtain ⟨r, va, vb, rfl, k1, k2⟩ := open_rv h2
      obtain ⟨_, _, hc⟩ := World.cells?_some h1
      refine ⟨r, va, vb, ?_, hc 1 (by omega), hc 2 (by omega), k1, k2⟩
      have := hc 0 (by omega)
      rw [show (a.add (i * 3)).add 0 = a.add (i * 3) from by simp [Addr.add]] at this
      exact this)
    refine ⟨(List.range len).map F, some a, m, by simp, by simp; omega, by unfold maxLen at hm; omega, by simp, ?_⟩
    intro b off s hs
    obtain rfl : a = ⟨b, off, s⟩ := Option.some.inj hs
    have h0 : 0 < len → b < W.heap.size ∧ s = none := fun h0 => by
      obtain ⟨va, vb, this, _⟩ := hF 0 h0
      rw [Nat.zero_mul] at this
      exact cell_none this rfl
    refine ⟨fun hh => h0 (by simpa using hh), fun j z hj => ?_⟩
    have hjl : j < len := by
      rcases Nat.lt_or_ge j len with q | q
      · exact q
      · rw [List.getElem?_eq_none (by simpa using q)] at hj; cases hj
    rw [List.getElem?_map, List.getElem?_range hjl] at hj
    have hz : F j = z := by simpa using hj
    subst hz
    obtain ⟨_, rfl⟩ := h0 (by omega)
    obtain ⟨va, vb, k1, k2, k3, k4, k5⟩ := hF j hjl
    rw [addr_add] at k1 k2 k3
    rw [addr_add] at k2 k3
    exact ⟨va, vb, k1, k2, k3, k4, k5⟩
end Go.Proofs.YthhgfhdmfhnklaaGreatDoor
