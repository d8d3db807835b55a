/-
  The texts Lw1, Lw2, OpenP, Close, Pd0, OpenRs, one behind the other (what the laws lean on).
  Conditions: each theorem's own.
-/
import Derived.Lib.SmallJoins
import Derived.Carry
import Derived.ShutString
import Derived.OpenShut
import Derived.Test.YthhgfhdmfhnklaaGreatDoorMW6
/-
  example of the laws of proof.
  Conditions: each theorem's own.
-/
namespace Go.Proofs.YthhgfhdmfhnklaaGreatDoor
open Go.RowKit Go.ChangeShapes Go.WideShapes

theorem own_rvs {w : World} {B : Nat} {e : TypeId} {v : Value} {l : List Rv} {xs : List Value} (h : w.ownsRow B e 3 v l.length xs)
    (hx : ∀ (j : Nat) r, l[j]? = some r → ∃ x0 x1 x2, xs[j * 3]? = some x0 ∧ xs[j * 3 + 1]? = some x1 ∧ xs[j * 3 + 2]? = some x2 ∧ RatV w (.agg #[x0, x1, x2]) r.s r.a r.b) : RvsV w v l := by
  obtain ⟨ao, c, rfl, h1, h2, h3⟩ := own_shape h
  refine ⟨ao, c, rfl, h1, h2, h3, ?_⟩
  intro b off s hs
  subst hs
  by_cases h0 : 0 < l.length
  · obtain ⟨g, e1, e2, e3, e4, e5, e6⟩ := own_cells h rfl h0
    cases e1
    refine ⟨fun _ => ⟨e3, rfl⟩, fun j r hj => ?_⟩
    obtain ⟨x0, x1, x2, k0, k1, k2, va, vb, he, k3, k4⟩ := hx j r hj
    cases he
    rw [Nat.zero_add]
    exact ⟨_, _, e6 _ _ k0, e6 _ _ k1, e6 _ _ k2, k3, k4⟩
  · have : l = [] := List.eq_nil_of_length_eq_zero (by omega)
    subst this
    exact ⟨fun h => absurd h (Nat.lt_irrefl _), fun j x hj => by simp at hj⟩
/-- what stands in the list so far -/
def ExS (w : World) (B q : Nat) (v : Value) (xs : List Value) : Prop :=
  OwnL w B 54 3 v q xs ∧ noU xs ∧ xs.length = q * 3 ∧ ∀ (j : Nat) r, (exL.take q)[j]? = some r → ∃ x0 x1 x2, xs[j * 3]? = some x0 ∧ xs[j * 3 + 1]? = some x1 ∧ xs[j * 3 + 2]? = some x2 ∧ RatV w (.agg #[x0, x1, x2]) r.s r.a r.b
theorem ExS.below {w w' : World} {B q : Nat} {v : Value} {xs : List Value} (h : ExS w B q v xs) (hb : Below w.heap.size w w') : ExS w' B q v xs :=
  ⟨h.1.below hb, h.2.1, h.2.2.1, fun j r hj => by obtain ⟨x0, x1, x2, k0, k1, k2, k3⟩ := h.2.2.2 j r hj; exact ⟨x0, x1, x2, k0, k1, k2, k3.below hb⟩⟩
theorem ExS.next {w w' : World} {B q : Nat} {v v' : Value} {xs : List Value} {x0 x1 x2 : Value} {r : Rv} (h : ExS w B q v xs) (hr : exL[q]? = some r) (ho : OwnL w' B 54 3 v' (q + 1) (xs ++ [x0, x1, x2])) (hg : w.grownBy w' v.ownBlock) (hn : noU [x0, x1, x2]) (hx : RatV w (.agg #[x0, x1, x2]) r.s r.a r.b) : ExS w' B (q + 1) v' (xs ++ [x0, x1, x2]) := by
  refine ⟨ho, noU_app h.2.1 hn, by rw [List.length_append, h.2.2.1]; simp; omega, fun j z hj => ?_⟩
  rw [take_snoc hr] at hj
  have hl : (exL.take q).length = q := by rw [List.length_take]; have := (List.getElem?_eq_some_iff.1 hr).1; omega
  have hxl := h.2.2.1
  by_cases hjq : j < q
  · rw [List.getElem?_append_left (by omega)] at hj
    obtain ⟨y0, y1, y2, k0, k1, k2, k3⟩ := h.2.2.2 j z hj
    exact ⟨y0, y1, y2, by rw [List.getElem?_append_left (by omega)]; exact k0, by rw [List.getElem?_append_left (by omega)]; exact k1, by rw [List.getElem?_append_left (by omega)]; exact k2, grown_V hg h.1 k3⟩
  · rw [List.getElem?_append_right (by omega), hl] at hj
    have hj0 : j = q := by
      rcases Nat.lt_or_ge 0 (j - q) with h' | h'
      · have := (List.getElem?_eq_some_iff.1 hj).1; simp at this; omega
      · omega
    subst hj0
    rw [Nat.sub_self] at hj
    cases hj
    exact ⟨x0, x1, x2, by rw [List.getElem?_append_right (by omega), hxl, Nat.sub_self]; rfl, by rw [List.getElem?_append_right (by omega), hxl, show j * 3 + 1 - j * 3 = 1 by omega]; rfl, by rw [List.getElem?_append_right (by omega), hxl, show j * 3 + 2 - j * 3 = 2 by omega]; rfl, grown_V hg h.1 hx⟩
/-- the example -/
def RetEx (w : World) (e : Ending) (w' : World) : Prop := ∃ vf vp, e = .returned (.tuple #[vf, vp]) ∧ Below w.heap.size w w' ∧ FmV w' vf exF ∧ RvsV w' vp exL
theorem ints_two {w : World} {g : Nat} {a b : Int} {T : TypeId} (h : w.heap[g]? = some (.cells #[.int .i64 a, .int .i64 b] T)) (ha : I64 a) (hb : I64 b) : IntsV w (.slice (some ⟨g, 0, none⟩) 2 2) [a, b] := by
  obtain ⟨x0, x1⟩ := row2c h
  refine ⟨_, _, rfl, Nat.le_refl _, by omega, (fun h => by cases h), ?_, ?_⟩
  · intro b' off s hs
    cases hs
    refine ⟨fun _ => ⟨below_lt h, rfl⟩, fun j x hj => ?_⟩
    match j with
    | 0 => cases hj; exact x0
    | 1 => cases hj; exact x1
    | j + 2 => simp at hj
  · intro x hx
    simp only [List.mem_cons, List.not_mem_nil, or_false] at hx
    rcases hx with rfl | rfl
    · exact ha
    · exact hb
theorem nds_two {w : World} {g : Nat} {n0 n1 : Nd} {a0 a1 : Value} {T : TypeId} (h : w.heap[g]? = some (.cells #[.int .i64 n0.kind, .int .i64 n0.K, a0, .int .i64 n1.kind, .int .i64 n1.K, a1] T)) (h0 : IntsV w a0 n0.args) (h1 : IntsV w a1 n1.args)
    (k0 : I64 n0.kind ∧ I64 n0.K) (k1 : I64 n1.kind ∧ I64 n1.K) : NdsV w (.slice (some ⟨g, 0, none⟩) 2 2) [n0, n1] := by
  obtain ⟨x0, x1, x2, x3, x4, x5⟩ := row6 h
  refine ⟨_, _, rfl, Nat.le_refl _, by omega, (fun h => by cases h), ?_⟩
  intro b' off s hs
  cases hs
  refine ⟨fun _ => ⟨below_lt h, rfl⟩, fun j x hj => ?_⟩
  match j with
  | 0 => cases hj; exact ⟨x0, x1, ⟨_, x2, h0⟩, k0.1, k0.2⟩
  | 1 => cases hj; exact ⟨x3, x4, ⟨_, x5, h1⟩, k1.1, k1.2⟩
  | j + 2 => simp at hj
theorem noWf {a b : Int} {o : Option Addr} {n c : Nat} : noW #[Value.int .i64 a, .slice o n c, .int .i64 b] := by
  intro j n; match j with
  | 0 => simp
  | 1 => simp
  | 2 => simp
  | j + 3 => simp
set_option maxRecDepth 100000 in
set_option maxHeartbeats 8000000 in
theorem example_any (w : World) : Calls Tryz.prog 35 #[] w (RetEx w) := by
  obtain ⟨g0, hG0⟩ : ∃ g, g = w.heap.size := ⟨_, rfl⟩
  obtain ⟨g1, hG1⟩ : ∃ g, g = w.heap.size + 1 := ⟨_, rfl⟩
  obtain ⟨g2, hG2⟩ : ∃ g, g = w.heap.size + 1 + 1 := ⟨_, rfl⟩
  obtain ⟨g3, hG3⟩ : ∃ g, g = w.heap.size + 1 + 1 + 1 := ⟨_, rfl⟩
  obtain ⟨g4, hG4⟩ : ∃ g, g = w.heap.size + 1 + 1 + 1 + 1 := ⟨_, rfl⟩
  obtain ⟨g5, hG5⟩ : ∃ g, g = w.heap.size + 1 + 1 + 1 + 1 + 1 := ⟨_, rfl⟩
  obtain ⟨w1, hw1⟩ : ∃ x, x = w.alloc (.cells #[.int .i64 0, .slice none 0 0, .int .i64 0] 24) := ⟨_, rfl⟩
  have hs1 : w1.heap.size = w.heap.size + 1 := by rw [hw1]; simp
  have hb1 : Below w.heap.size w w1 := by rw [hw1]; exact (Below.refl _ _).alloc (Nat.le_refl _) _
  have hh1 : w1.heap[g0]? = some (.cells #[.int .i64 0, .slice none 0 0, .int .i64 0] 24) := by rw [show g0 = w.heap.size by omega, hw1]; exact heap_alloc_new _ _
  obtain ⟨w2, hw2⟩ : ∃ x, x = w1.alloc (.cells #[.int .i64 1, .int .i64 2] 3) := ⟨_, rfl⟩
  have hs2 : w2.heap.size = w1.heap.size + 1 := by rw [hw2]; simp
  have hb2 : Below w1.heap.size w1 w2 := by rw [hw2]; exact (Below.refl _ _).alloc (Nat.le_refl _) _
  have hh2 : w2.heap[g1]? = some (.cells #[.int .i64 1, .int .i64 2] 3) := by rw [show g1 = w1.heap.size by omega, hw2]; exact heap_alloc_new _ _
  obtain ⟨w3, hw3⟩ : ∃ x, x = w2.alloc (.cells #[.int .i64 0, .int .i64 3] 3) := ⟨_, rfl⟩
  have hs3 : w3.heap.size = w2.heap.size + 1 := by rw [hw3]; simp
  have hb3 : Below w2.heap.size w2 w3 := by rw [hw3]; exact (Below.refl _ _).alloc (Nat.le_refl _) _
  have hh3 : w3.heap[g2]? = some (.cells #[.int .i64 0, .int .i64 3] 3) := by rw [show g2 = w2.heap.size by omega, hw3]; exact heap_alloc_new _ _
  obtain ⟨w4, hw4⟩ : ∃ x, x = w3.alloc (.cells #[.int .i64 2, .int .i64 0, .slice (some ⟨g1, 0, none⟩) 2 2, .int .i64 3, .int .i64 0, .slice (some ⟨g2, 0, none⟩) 2 2] 82) := ⟨_, rfl⟩
  have hs4 : w4.heap.size = w3.heap.size + 1 := by rw [hw4]; simp
  have hb4 : Below w3.heap.size w3 w4 := by rw [hw4]; exact (Below.refl _ _).alloc (Nat.le_refl _) _
  have hh4 : w4.heap[g3]? = some (.cells #[.int .i64 2, .int .i64 0, .slice (some ⟨g1, 0, none⟩) 2 2, .int .i64 3, .int .i64 0, .slice (some ⟨g2, 0, none⟩) 2 2] 82) := by rw [show g3 = w3.heap.size by omega, hw4]; exact heap_alloc_new _ _
  obtain ⟨w5, hw5⟩ : ∃ x, x = w4.alloc (.cells #[.int .i64 3, .slice (some ⟨g3, 0, none⟩) 2 2, .int .i64 4] 24) := ⟨_, rfl⟩
  have hs5 : w5.heap.size = w4.heap.size + 1 := by rw [hw5]; simp
  have hb5 : Below w4.heap.size w4 w5 := by rw [hw5]; exact (Below.refl _ _).alloc (Nat.le_refl _) _
  have hh5 : w5.heap[g4]? = some (.cells #[.int .i64 3, .slice (some ⟨g3, 0, none⟩) 2 2, .int .i64 4] 24) := by rw [show g4 = w4.heap.size by omega, hw5]; exact heap_alloc_new _ _
  obtain ⟨w6, hw6⟩ : ∃ x, x = w5.alloc (.cells #[.int .i64 2, .int .i64 3, .int .i64 4] 3) := ⟨_, rfl⟩
  have hs6 : w6.heap.size = w5.heap.size + 1 := by rw [hw6]; simp
  have hb6 : Below w5.heap.size w5 w6 := by rw [hw6]; exact (Below.refl _ _).alloc (Nat.le_refl _) _
  have hh6 : w6.heap[g5]? = some (.cells #[.int .i64 2, .int .i64 3, .int .i64 4] 3) := by rw [show g5 = w5.heap.size by omega, hw6]; exact heap_alloc_new _ _
  have HB6 := Lib.hid (show Below w.heap.size w w6 from (((((hb1.trans (hb2.mono (by omega))).trans (hb3.mono (by omega))).trans (hb4.mono (by omega))).trans (hb5.mono (by omega))).trans (hb6.mono (by omega))))
  have G0 := Lib.hid (heap_below (heap_below (heap_below (heap_below (heap_below hh1 hb2) hb3) hb4) hb5) hb6)
  have G1 := Lib.hid (heap_below (heap_below (heap_below (heap_below hh2 hb3) hb4) hb5) hb6)
  have G2 := Lib.hid (heap_below (heap_below (heap_below hh3 hb4) hb5) hb6)
  have G3 := Lib.hid (heap_below (heap_below hh4 hb5) hb6)
  have G4 := Lib.hid (heap_below hh5 hb6)
  have G5 := Lib.hid hh6
  have l0 : w.heap.size ≤ g0 := by omega
  have lg : g0 < w6.heap.size ∧ g1 < w6.heap.size ∧ g2 < w6.heap.size ∧ g3 < w6.heap.size ∧ g4 < w6.heap.size := by omega
  have n10 : g1 ≠ g0 := by omega
  have n20 : g2 ≠ g0 := by omega
  have n30 : g3 ≠ g0 := by omega
  clear hs1 hb1 hh1 hs2 hb2 hh2 hs3 hb3 hh3 hs4 hb4 hh4 hs5 hb5 hh5 hs6 hb6 hh6
  go_enter Tryz.func35, Tryz.ntmps35
  go_wp2_with fail
  rw [← hG5, ← hG4, ← hG3, ← hG2, ← hG1, ← hG0]
  rw [← hw1, ← hw2, ← hw3, ← hw4, ← hw5, ← hw6]
  clear hG0 hw1 hG1 hw2 hG2 hw3 hG3 hw4 hG4 hw5 hG5 hw6
  obtain ⟨B, hB⟩ : ∃ B, B = w6.heap.size := ⟨_, rfl⟩
  go_loopw [16, 3] (fun i' vp wx => ∃ (q : Nat) (xs : List Value), q ≤ 3 ∧ i' = .int .i64 q ∧ Hid (Below B w6 wx) ∧ Hid (ExS wx B q vp xs)) (fun i' _ _ => 3 - (intOf i').toNat)
  case atStart => exact ⟨0, [], by omega, rfl, Lib.hid (Below.refl _ _), Lib.hid ⟨OwnL.nil _ _ _ _, noU0, rfl, fun j r hj => by simp at hj⟩⟩
  case round =>
    obtain ⟨q, xs, hq, rfl, BX, EX⟩ := hrel
    obtain ⟨wo, rfl⟩ : ∃ wo : World, wo = wr := ⟨_, rfl⟩
    have BX6 := Lib.hid (show Below w6.heap.size w6 wo from hB ▸ BX.out)
    have hsz := BX.out.size
    by_cases hlt : q < 3
    · obtain ⟨c0, c1, c2⟩ := row3 (heap_below G5.out BX6.out)
      have hq3 : q = 0 ∨ q = 1 ∨ q = 2 := by omega
      rcases hq3 with rfl | rfl | rfl
      · have HK := Lib.hid (rmake_any 1 2 wo (by decide) (by decide) (by decide) (by decide))
        go_wp2_with (with_reducible refine pauseCall ?_)
        clear c0 c1 c2
        refine Pause.mk ?_
        (with_reducible refine HK.out.mono ?_); rintro e w7 ⟨vx, rfl, hb7, hn7⟩
        have hn7 : IsR w7 vx (1 / 2) := (show ((1 : Int) : Rat) / ((2 : Int) : Rat) = 1 / 2 by decide +kernel) ▸ hn7
        obtain ⟨sx, ox, nx, cx, ax, mx, dx, rfl⟩ := hn7.shape
        obtain ⟨w8, hw8⟩ : ∃ x, x = (w7.alloc (.cells #[.bool sx, .slice ox nx cx, .slice ax mx dx] 54)).alloc (.cells #[.bool sx, .slice ox nx cx, .slice ax mx dx] 54) := ⟨_, rfl⟩
        have hb8 : Below w7.heap.size w7 w8 := by rw [hw8]; exact ((Below.refl _ _).alloc (Nat.le_refl _) _).alloc (by simp) _
        have hz8 : w8.heap[w7.heap.size + 1]? = some (.cells #[.bool sx, .slice ox nx cx, .slice ax mx dx] 54) := by rw [hw8]; exact heap_alloc2_new w7 _ _
        obtain ⟨gz, hGz⟩ : ∃ g, g = w7.heap.size + 1 := ⟨_, rfl⟩
        rw [← hGz] at hz8
        have hb78 := hb7.trans (hb8.mono hb7.size)
        have BX8 := Lib.hid (BX.out.trans (hb78.mono (by omega))); have EX8 := Lib.hid (EX.out.below hb78); have RV := Lib.hid (hn7.below hb8); have GZ8 := Lib.hid hz8
        clear hb7 hb8 hb78 hz8 hn7 HK
        go_wp2_with (with_reducible refine wpList_pauseA ?_)
        rw [← hw8, ← hGz]; clear hw8 hGz
        refine wpList_appL B Tryz.ratTy rfl noU3 (by decide) _ 0 xs [.bool sx, .slice ox nx cx, .slice ax mx dx] gz 54 rfl rfl EX8.out.1 GZ8.out rfl rfl noU3 EX8.out.2.1 (by decide) (by decide) (by have := BX8.out.size; omega) ?_
        intro v' w9 ho9 hg9 _
        have hx9 := EX8.out.next (r := rvOf (1 / 2)) rfl ho9 hg9 noU3 RV.out
        have BX9 := Lib.hid (OwnL.low EX8.out.1 hg9 BX8.out (by have := BX8.out.size; omega)); have EX9 := Lib.hid hx9
        clear ho9 hg9 hx9
        go_wp2_with fail
        go_roundw
        case rel => exact ⟨1, _, by omega, rfl, Lib.hid BX9.out, Lib.hid EX9.out⟩
        case measure => simp [intOf]
      · have HK := Lib.hid (rmake_any 1 3 wo (by decide) (by decide) (by decide) (by decide))
        go_wp2_with (with_reducible refine pauseCall ?_)
        clear c0 c1 c2
        refine Pause.mk ?_
        (with_reducible refine HK.out.mono ?_); rintro e w7 ⟨vx, rfl, hb7, hn7⟩
        have hn7 : IsR w7 vx (1 / 3) := (show ((1 : Int) : Rat) / ((3 : Int) : Rat) = 1 / 3 by decide +kernel) ▸ hn7
        obtain ⟨sx, ox, nx, cx, ax, mx, dx, rfl⟩ := hn7.shape
        obtain ⟨w8, hw8⟩ : ∃ x, x = (w7.alloc (.cells #[.bool sx, .slice ox nx cx, .slice ax mx dx] 54)).alloc (.cells #[.bool sx, .slice ox nx cx, .slice ax mx dx] 54) := ⟨_, rfl⟩
        have hb8 : Below w7.heap.size w7 w8 := by rw [hw8]; exact ((Below.refl _ _).alloc (Nat.le_refl _) _).alloc (by simp) _
        have hz8 : w8.heap[w7.heap.size + 1]? = some (.cells #[.bool sx, .slice ox nx cx, .slice ax mx dx] 54) := by rw [hw8]; exact heap_alloc2_new w7 _ _
        obtain ⟨gz, hGz⟩ : ∃ g, g = w7.heap.size + 1 := ⟨_, rfl⟩
        rw [← hGz] at hz8
        have hb78 := hb7.trans (hb8.mono hb7.size)
        have BX8 := Lib.hid (BX.out.trans (hb78.mono (by omega))); have EX8 := Lib.hid (EX.out.below hb78); have RV := Lib.hid (hn7.below hb8); have GZ8 := Lib.hid hz8
        clear hb7 hb8 hb78 hz8 hn7 HK
        go_wp2_with (with_reducible refine wpList_pauseA ?_)
        rw [← hw8, ← hGz]; clear hw8 hGz
        refine wpList_appL B Tryz.ratTy rfl noU3 (by decide) _ 1 xs [.bool sx, .slice ox nx cx, .slice ax mx dx] gz 54 rfl rfl EX8.out.1 GZ8.out rfl rfl noU3 EX8.out.2.1 (by decide) (by decide) (by have := BX8.out.size; omega) ?_
        intro v' w9 ho9 hg9 _
        have hx9 := EX8.out.next (r := rvOf (1 / 3)) rfl ho9 hg9 noU3 RV.out
        have BX9 := Lib.hid (OwnL.low EX8.out.1 hg9 BX8.out (by have := BX8.out.size; omega)); have EX9 := Lib.hid hx9
        clear ho9 hg9 hx9
        go_wp2_with fail
        go_roundw
        case rel => exact ⟨2, _, by omega, rfl, Lib.hid BX9.out, Lib.hid EX9.out⟩
        case measure => simp [intOf]
      · have HK := Lib.hid (rmake_any 1 4 wo (by decide) (by decide) (by decide) (by decide))
        go_wp2_with (with_reducible refine pauseCall ?_)
        clear c0 c1 c2
        refine Pause.mk ?_
        (with_reducible refine HK.out.mono ?_); rintro e w7 ⟨vx, rfl, hb7, hn7⟩
        have hn7 : IsR w7 vx (1 / 4) := (show ((1 : Int) : Rat) / ((4 : Int) : Rat) = 1 / 4 by decide +kernel) ▸ hn7
        obtain ⟨sx, ox, nx, cx, ax, mx, dx, rfl⟩ := hn7.shape
        obtain ⟨w8, hw8⟩ : ∃ x, x = (w7.alloc (.cells #[.bool sx, .slice ox nx cx, .slice ax mx dx] 54)).alloc (.cells #[.bool sx, .slice ox nx cx, .slice ax mx dx] 54) := ⟨_, rfl⟩
        have hb8 : Below w7.heap.size w7 w8 := by rw [hw8]; exact ((Below.refl _ _).alloc (Nat.le_refl _) _).alloc (by simp) _
        have hz8 : w8.heap[w7.heap.size + 1]? = some (.cells #[.bool sx, .slice ox nx cx, .slice ax mx dx] 54) := by rw [hw8]; exact heap_alloc2_new w7 _ _
        obtain ⟨gz, hGz⟩ : ∃ g, g = w7.heap.size + 1 := ⟨_, rfl⟩
        rw [← hGz] at hz8
        have hb78 := hb7.trans (hb8.mono hb7.size)
        have BX8 := Lib.hid (BX.out.trans (hb78.mono (by omega))); have EX8 := Lib.hid (EX.out.below hb78); have RV := Lib.hid (hn7.below hb8); have GZ8 := Lib.hid hz8
        clear hb7 hb8 hb78 hz8 hn7 HK
        go_wp2_with (with_reducible refine wpList_pauseA ?_)
        rw [← hw8, ← hGz]; clear hw8 hGz
        refine wpList_appL B Tryz.ratTy rfl noU3 (by decide) _ 2 xs [.bool sx, .slice ox nx cx, .slice ax mx dx] gz 54 rfl rfl EX8.out.1 GZ8.out rfl rfl noU3 EX8.out.2.1 (by decide) (by decide) (by have := BX8.out.size; omega) ?_
        intro v' w9 ho9 hg9 _
        have hx9 := EX8.out.next (r := rvOf (1 / 4)) rfl ho9 hg9 noU3 RV.out
        have BX9 := Lib.hid (OwnL.low EX8.out.1 hg9 BX8.out (by have := BX8.out.size; omega)); have EX9 := Lib.hid hx9
        clear ho9 hg9 hx9
        go_wp2_with fail
        go_roundw
        case rel => exact ⟨3, _, by omega, rfl, Lib.hid BX9.out, Lib.hid EX9.out⟩
        case measure => simp [intOf]
    · have hq' : q = 3 := by omega
      subst hq'
      obtain ⟨x0, x1, x2⟩ := row3 (heap_below G4.out BX6.out)
      have GX0 := Lib.hid (heap_below G0.out BX6.out)
      go_wp2_with (with_reducible refine wpList_pauseS ?_)
      refine wpList_stL g0 0 [.int .i64 3, .slice (some ⟨g3, 0, none⟩) 2 2, .int .i64 4] GX0.out rfl rfl (Nat.le_of_ble_eq_true rfl) (by kernel_rfl) rfl ?_
      intro wz hpz
      have GZ := Lib.hid (show wz.heap[g0]? = some (.cells #[.int .i64 3, .slice (some ⟨g3, 0, none⟩) 2 2, .int .i64 4] 24) by rw [hpz]; exact putL_3r GX0.out)
      have Z1 := putLx hpz (heap_below G1.out BX6.out) n10; have Z2 := putLx hpz (heap_below G2.out BX6.out) n20; have Z3 := putLx hpz (heap_below G3.out BX6.out) n30
      have HBZ := Lib.hid (putLb hpz (HB6.out.trans (BX6.out.mono HB6.out.size)) l0)
      have HFZ := Lib.hid (show FmV wz (.agg #[.int .i64 3, .slice (some ⟨g3, 0, none⟩) 2 2, .int .i64 4]) exF from
        ⟨_, rfl, nds_two (n0 := ⟨2, 0, [1, 2]⟩) (n1 := ⟨3, 0, [0, 3]⟩) Z3 (ints_two Z1 ⟨by decide, by decide⟩ ⟨by decide, by decide⟩) (ints_two Z2 ⟨by decide, by decide⟩ ⟨by decide, by decide⟩) ⟨⟨by decide, by decide⟩, ⟨by decide, by decide⟩⟩ ⟨⟨by decide, by decide⟩, ⟨by decide, by decide⟩⟩, ⟨by decide, by decide⟩, ⟨by decide, by decide⟩⟩)
      have ho := EX.out.1
      have hne := fun e => (by have := (World.ownsRow.lt ho.1 g0 e).1; omega : False)
      have HPZ := Lib.hid (own_rvs (l := exL) (OwnL.put ho hpz hne (by rw [hpz]; exact putL_os2 _ _ _ _)).1 (fun j r hj => by
        obtain ⟨y0, y1, y2, k0, k1, k2, k3⟩ := EX.out.2.2.2 j r hj
        exact ⟨y0, y1, y2, k0, k1, k2, putL_V hpz k3 GX0.out noWf⟩))
      clear hpz x0 x1 x2 Z1 Z2 Z3 ho hne
      go_wp2_with (with_reducible first | refine pauseCall ?_ | refine pauseLoop ?_ | refine pauseDraw ?_ | refine pauseBody ?_ | refine pauseRounds ?_)
      refine ret_c2 rfl g0 #[.int .i64 3, .slice (some ⟨g3, 0, none⟩) 2 2, .int .i64 4] rfl GZ.out Tryz.underlying24 rfl (by kernel_rfl) rfl ?_
      exact ⟨_, _, rfl, HBZ.out, HFZ.out, HPZ.out⟩
end Go.Proofs.YthhgfhdmfhnklaaGreatDoor
/-
  awake of the laws of proof.
  Conditions: each theorem's own.
-/
namespace Go.Proofs.YthhgfhdmfhnklaaGreatDoor
open Go.RowKit Go.ChangeShapes Go.WideShapes

set_option maxRecDepth 100000 in
set_option maxHeartbeats 8000000 in
theorem awake41_any (w : World) : Calls Tryz.prog 10 #[] w (RetV w (.bool true)) := by
  go_enter Tryz.func10, Tryz.ntmps10
  go_wp2_with (with_reducible refine pauseCall ?_)
  refine Pause.mk ?_
  (with_reducible refine (example_any w).mono ?_); rintro e w1 ⟨vf, vp, rfl, hb1, hf, hp⟩
  have HB := Lib.hid hb1
  obtain ⟨nv, hvf, hn, hv, htp⟩ := hf
  obtain ⟨ao, c, rfl, hc, hc2, _⟩ := hn.shape
  have HF := Lib.hid (show FmV w1 (.agg #[.int .i64 3, .slice ao 2 c, .int .i64 4]) exF from ⟨_, rfl, hn, hv, htp⟩)
  obtain rfl : vf = .agg #[.int .i64 3, .slice ao 2 c, .int .i64 4] := hvf
  have HP := Lib.hid hp
  clear hb1 hn hv htp hp
  obtain ⟨w2, hw2⟩ : ∃ x, x = w1.alloc (.cells #[.int .i64 3, .slice ao 2 c, .int .i64 4] 24) := ⟨_, rfl⟩
  have hb2 : Below w1.heap.size w1 w2 := by rw [hw2]; exact (Below.refl _ _).alloc (Nat.le_refl _) _
  have hx2 : w2.heap[w1.heap.size]? = some (.cells #[.int .i64 3, .slice ao 2 c, .int .i64 4] 24) := by rw [hw2]; exact heap_alloc_new _ _
  obtain ⟨b2, hB2⟩ : ∃ b, b = w1.heap.size := ⟨_, rfl⟩
  rw [← hB2] at hx2
  have HB := Lib.hid (HB.out.trans (hb2.mono HB.out.size))
  have HF := Lib.hid (HF.out.below hb2)
  have HP := Lib.hid (HP.out.below hb2)
  have X1 := Lib.hid hx2
  clear hb2 hx2
  have HK := Lib.hid (make_f _ exF 3 w2 HF.out ⟨by decide, by decide⟩ (fun _ => by decide))
  rw [ex_m3, ex_t3] at HK
  obtain ⟨l0_0, l0_1, l0_2⟩ := row3 X1.out
  try rw [hw2] at l0_0
  try rw [hB2] at l0_0
  try rw [hw2] at l0_1
  try rw [hB2] at l0_1
  try rw [hw2] at l0_2
  try rw [hB2] at l0_2
  go_wp2_with (with_reducible refine pauseCall ?_)
  rw [← hw2, ← hB2]
  clear hw2 hB2 l0_0 l0_1 l0_2
  refine Pause.mk ?_
  (with_reducible refine HK.out.mono ?_); rintro e w3 ⟨v3, rfl, hb3, ht3⟩
  rw [errV_zero]
  have HB := Lib.hid (HB.out.trans (hb3.mono HB.out.size))
  have HF := Lib.hid (HF.out.below hb3)
  have HP := Lib.hid (HP.out.below hb3)
  have X1 := Lib.hid (heap_below X1.out hb3)
  obtain ⟨tv, tr, ta, tn, tc, rfl⟩ := ht3.shape
  have HT3 := Lib.hid (show TrV w3 _ exT3 from ht3)
  clear hb3 ht3 HK
  obtain ⟨w4, hw4⟩ : ∃ x, x = w3.alloc (.cells #[.int .i64 tv, .slice ta tn tc, .int .i64 tr] 27) := ⟨_, rfl⟩
  have hb4 : Below w3.heap.size w3 w4 := by rw [hw4]; exact (Below.refl _ _).alloc (Nat.le_refl _) _
  have hx4 : w4.heap[w3.heap.size]? = some (.cells #[.int .i64 tv, .slice ta tn tc, .int .i64 tr] 27) := by rw [hw4]; exact heap_alloc_new _ _
  obtain ⟨b4, hB4⟩ : ∃ b, b = w3.heap.size := ⟨_, rfl⟩
  rw [← hB4] at hx4
  have HB := Lib.hid (HB.out.trans (hb4.mono HB.out.size))
  have HF := Lib.hid (HF.out.below hb4)
  have HP := Lib.hid (HP.out.below hb4)
  have HT3 := Lib.hid (HT3.out.below hb4)
  have X1 := Lib.hid (heap_below X1.out hb4)
  have X3 := Lib.hid hx4
  clear hb4 hx4
  have HK := Lib.hid (value_c _ _ _ exF exT3 exL w4 HF.out HT3.out HP.out ex_sm (fun _ => by rw [ex_l3]; decide) 0 ex_s3)
  rw [ex_v] at HK
  obtain ⟨l0_0, l0_1, l0_2⟩ := row3 X1.out
  try rw [hw4] at l0_0
  try rw [hB4] at l0_0
  try rw [hw4] at l0_1
  try rw [hB4] at l0_1
  try rw [hw4] at l0_2
  try rw [hB4] at l0_2
  obtain ⟨l1_0, l1_1, l1_2⟩ := row3 X3.out
  try rw [hw4] at l1_0
  try rw [hB4] at l1_0
  try rw [hw4] at l1_1
  try rw [hB4] at l1_1
  try rw [hw4] at l1_2
  try rw [hB4] at l1_2
  go_wp2_with (with_reducible refine pauseCall ?_)
  rw [← hw4, ← hB4]
  clear hw4 hB4 l0_0 l0_1 l0_2 l1_0 l1_1 l1_2
  refine Pause.mk ?_
  (with_reducible refine HK.out.mono ?_); rintro e w5 ⟨v5, rfl, hb5, hn5⟩
  have HB := Lib.hid (HB.out.trans (hb5.mono HB.out.size))
  have HF := Lib.hid (HF.out.below hb5)
  have HP := Lib.hid (HP.out.below hb5)
  have HT3 := Lib.hid (HT3.out.below hb5)
  have X1 := Lib.hid (heap_below X1.out hb5)
  have X3 := Lib.hid (heap_below X3.out hb5)
  obtain ⟨sv, ov, nv, cv, av, mv, dv, rfl⟩ := hn5.shape
  have IV := Lib.hid hn5
  clear hb5 hn5 HK
  obtain ⟨w6, hw6⟩ : ∃ x, x = w5.alloc (.cells #[.bool sv, .slice ov nv cv, .slice av mv dv] 54) := ⟨_, rfl⟩
  have hb6 : Below w5.heap.size w5 w6 := by rw [hw6]; exact (Below.refl _ _).alloc (Nat.le_refl _) _
  have hx6 : w6.heap[w5.heap.size]? = some (.cells #[.bool sv, .slice ov nv cv, .slice av mv dv] 54) := by rw [hw6]; exact heap_alloc_new _ _
  obtain ⟨b6, hB6⟩ : ∃ b, b = w5.heap.size := ⟨_, rfl⟩
  rw [← hB6] at hx6
  have HB := Lib.hid (HB.out.trans (hb6.mono HB.out.size))
  have HF := Lib.hid (HF.out.below hb6)
  have HP := Lib.hid (HP.out.below hb6)
  have HT3 := Lib.hid (HT3.out.below hb6)
  have IV := Lib.hid (IV.out.below hb6)
  have X1 := Lib.hid (heap_below X1.out hb6)
  have X3 := Lib.hid (heap_below X3.out hb6)
  have X5 := Lib.hid hx6
  clear hb6 hx6
  have HK := Lib.hid (make_f _ exF 1 w6 HF.out ⟨by decide, by decide⟩ (fun _ => by decide))
  rw [ex_m1, ex_t1] at HK
  obtain ⟨l0_0, l0_1, l0_2⟩ := row3 X1.out
  try rw [hw6] at l0_0
  try rw [hB6] at l0_0
  try rw [hw6] at l0_1
  try rw [hB6] at l0_1
  try rw [hw6] at l0_2
  try rw [hB6] at l0_2
  go_wp2_with (with_reducible refine pauseCall ?_)
  rw [← hw6, ← hB6]
  clear hw6 hB6 l0_0 l0_1 l0_2
  refine Pause.mk ?_
  (with_reducible refine HK.out.mono ?_); rintro e w7 ⟨v7, rfl, hb7, ht7⟩
  rw [errV_zero]
  have HB := Lib.hid (HB.out.trans (hb7.mono HB.out.size))
  have HF := Lib.hid (HF.out.below hb7)
  have HP := Lib.hid (HP.out.below hb7)
  have HT3 := Lib.hid (HT3.out.below hb7)
  have IV := Lib.hid (IV.out.below hb7)
  have X1 := Lib.hid (heap_below X1.out hb7)
  have X3 := Lib.hid (heap_below X3.out hb7)
  have X5 := Lib.hid (heap_below X5.out hb7)
  obtain ⟨uv, ur, ua, un, uc, rfl⟩ := ht7.shape
  have HT7 := Lib.hid (show TrV w7 _ exT1 from ht7)
  clear hb7 ht7 HK
  obtain ⟨w8, hw8⟩ : ∃ x, x = w7.alloc (.cells #[.int .i64 uv, .slice ua un uc, .int .i64 ur] 27) := ⟨_, rfl⟩
  have hb8 : Below w7.heap.size w7 w8 := by rw [hw8]; exact (Below.refl _ _).alloc (Nat.le_refl _) _
  have hx8 : w8.heap[w7.heap.size]? = some (.cells #[.int .i64 uv, .slice ua un uc, .int .i64 ur] 27) := by rw [hw8]; exact heap_alloc_new _ _
  obtain ⟨b8, hB8⟩ : ∃ b, b = w7.heap.size := ⟨_, rfl⟩
  rw [← hB8] at hx8
  have HB := Lib.hid (HB.out.trans (hb8.mono HB.out.size))
  have HF := Lib.hid (HF.out.below hb8)
  have HP := Lib.hid (HP.out.below hb8)
  have HT3 := Lib.hid (HT3.out.below hb8)
  have IV := Lib.hid (IV.out.below hb8)
  have HT7 := Lib.hid (HT7.out.below hb8)
  have X1 := Lib.hid (heap_below X1.out hb8)
  have X3 := Lib.hid (heap_below X3.out hb8)
  have X5 := Lib.hid (heap_below X5.out hb8)
  have X7 := Lib.hid hx8
  clear hb8 hx8
  have HK := Lib.hid (bounds_any _ _ _ exF exT1 exL w8 HF.out HT7.out HP.out ex_sm (fun _ => by rw [ex_l1]; decide) 0 ex_s1)
  rw [ex_b] at HK
  obtain ⟨l0_0, l0_1, l0_2⟩ := row3 X1.out
  try rw [hw8] at l0_0
  try rw [hB8] at l0_0
  try rw [hw8] at l0_1
  try rw [hB8] at l0_1
  try rw [hw8] at l0_2
  try rw [hB8] at l0_2
  obtain ⟨l1_0, l1_1, l1_2⟩ := row3 X7.out
  try rw [hw8] at l1_0
  try rw [hB8] at l1_0
  try rw [hw8] at l1_1
  try rw [hB8] at l1_1
  try rw [hw8] at l1_2
  try rw [hB8] at l1_2
  go_wp2_with (with_reducible refine pauseCall ?_)
  rw [← hw8, ← hB8]
  clear hw8 hB8 l0_0 l0_1 l0_2 l1_0 l1_1 l1_2
  refine Pause.mk ?_
  (with_reducible refine HK.out.mono ?_); rintro e w9 ⟨v9, rfl, hb9, hn9⟩
  rw [errV_zero]
  have HB := Lib.hid (HB.out.trans (hb9.mono HB.out.size))
  have HT3 := Lib.hid (HT3.out.below hb9)
  have IV := Lib.hid (IV.out.below hb9)
  have X3 := Lib.hid (heap_below X3.out hb9)
  have X5 := Lib.hid (heap_below X5.out hb9)
  obtain ⟨s0, o0, n0, c0, a0, m0, d0, s1, o1, n1, c1, a1, m1, d1, rfl⟩ := hn9.shape
  have IB := Lib.hid hn9
  clear hb9 hn9 HK HF HP HT7 X1 X7
  obtain ⟨w10, hw10⟩ : ∃ x, x = w9.alloc (.cells #[.bool s0, .slice o0 n0 c0, .slice a0 m0 d0, .bool s1, .slice o1 n1 c1, .slice a1 m1 d1] 56) := ⟨_, rfl⟩
  have hb10 : Below w9.heap.size w9 w10 := by rw [hw10]; exact (Below.refl _ _).alloc (Nat.le_refl _) _
  have hx10 : w10.heap[w9.heap.size]? = some (.cells #[.bool s0, .slice o0 n0 c0, .slice a0 m0 d0, .bool s1, .slice o1 n1 c1, .slice a1 m1 d1] 56) := by rw [hw10]; exact heap_alloc_new _ _
  obtain ⟨b10, hB10⟩ : ∃ b, b = w9.heap.size := ⟨_, rfl⟩
  rw [← hB10] at hx10
  have HB := Lib.hid (HB.out.trans (hb10.mono HB.out.size))
  have HT3 := Lib.hid (HT3.out.below hb10)
  have IV := Lib.hid (IV.out.below hb10)
  have IB := Lib.hid (IB.out.below hb10)
  have X3 := Lib.hid (heap_below X3.out hb10)
  have X5 := Lib.hid (heap_below X5.out hb10)
  have X9 := Lib.hid hx10
  clear hb10 hx10
  have HK := Lib.hid (sptext_any _ exT3 3 w10 (by decide) HT3.out (by rw [show ((3 : Nat) : Int) = 3 from rfl, ex_c3]) ex_rs (by rw [ex_tt]; decide))
  rw [ex_tt, show ((3 : Nat) : Int) = 3 from rfl] at HK
  obtain ⟨l0_0, l0_1, l0_2⟩ := row3 X3.out
  try rw [hw10] at l0_0
  try rw [hB10] at l0_0
  try rw [hw10] at l0_1
  try rw [hB10] at l0_1
  try rw [hw10] at l0_2
  try rw [hB10] at l0_2
  go_wp2_with (with_reducible refine pauseCall ?_)
  rw [← hw10, ← hB10]
  clear hw10 hB10 l0_0 l0_1 l0_2
  refine Pause.mk ?_
  (with_reducible refine HK.out.mono ?_); rintro e w11 ⟨rfl, hb11⟩
  have HB := Lib.hid (HB.out.trans (hb11.mono HB.out.size))
  have IV := Lib.hid (IV.out.below hb11)
  have IB := Lib.hid (IB.out.below hb11)
  have X5 := Lib.hid (heap_below X5.out hb11)
  have X9 := Lib.hid (heap_below X9.out hb11)
  clear hb11 HK X3 HT3
  have HK := Lib.hid (textq_any _ (13 / 24) w11 (IV.out.is (by decide +kernel)))
  rw [ex_x] at HK
  obtain ⟨l0, l1, l2⟩ := row3 X5.out
  go_wp2_with (with_reducible refine pauseCall ?_)
  clear l0 l1 l2
  refine Pause.mk ?_
  (with_reducible refine HK.out.mono ?_); rintro e w12 ⟨rfl, hb12⟩
  have HB := Lib.hid (HB.out.trans (hb12.mono HB.out.size))
  have IB := Lib.hid (IB.out.below hb12)
  have X9 := Lib.hid (heap_below X9.out hb12)
  clear hb12 HK
  have HK := Lib.hid (textq_any _ (1 / 2) w12 ((isSp_ends IB.out).1.is (by decide +kernel)))
  rw [ex_x2] at HK
  obtain ⟨l0, l1, l2, l3, l4, l5⟩ := row6 X9.out
  go_wp2_with (with_reducible refine pauseCall ?_)
  clear l0 l1 l2 l3 l4 l5
  refine Pause.mk ?_
  (with_reducible refine HK.out.mono ?_); rintro e w13 ⟨rfl, hb13⟩
  have HB := Lib.hid (HB.out.trans (hb13.mono HB.out.size))
  have IB := Lib.hid (IB.out.below hb13)
  have X9 := Lib.hid (heap_below X9.out hb13)
  clear hb13 HK
  have HK := Lib.hid (textq_any _ 1 w13 ((isSp_ends IB.out).2.is (by decide +kernel)))
  rw [ex_x1] at HK
  obtain ⟨l0, l1, l2, l3, l4, l5⟩ := row6 X9.out
  go_wp2_with (with_reducible refine pauseCall ?_)
  clear l0 l1 l2 l3 l4 l5
  refine Pause.mk ?_
  (with_reducible refine HK.out.mono ?_); rintro e w14 ⟨rfl, hb14⟩
  have HB := Lib.hid (HB.out.trans (hb14.mono HB.out.size))
  clear hb14 HK
  go_wp2_with fail
  go_ret
  exact ⟨rfl, HB.out⟩
end Go.Proofs.YthhgfhdmfhnklaaGreatDoor
/-
  Arguments that are formulas and trees.
  Conditions: none beyond each theorem's own.
-/
namespace Go.Proofs.YthhgfhdmfhnklaaGreatDoor
open Go.RowKit Go.ChangeShapes Go.WideShapes Go.Joins Go.Deep

theorem nodeTys : NodeTys Tryz.prog 3 80 82 :=
  ⟨Tryz.underlying3, by kernel_rfl, Tryz.underlying80, by kernel_rfl, by kernel_rfl, ⟨_, _, _, Tryz.underlying82, rfl, rfl, rfl, rfl, rfl, rfl⟩⟩
set_option maxRecDepth 100000 in
set_option maxHeartbeats 1600000 in
theorem open_fm {H : Type} {enc : TypeId × Value → H} {W : World} {v : Value} {d : DataW H} {p : List MemPlace} {base : Nat}
    (hv : Value.okWide Tryz.prog W .any base 24 v) (h : DataW.Trod enc Tryz.prog W 0 (fun _ => true) true 24 v d p) : ∃ f, FmV W v f := by
  obtain ⟨v0, v1, v2, y0, y1, y2, n, rfl, _, _, h0, h1, h2⟩ := Go.Joins.open_agg3 Tryz.underlying24 (by kernel_rfl) (by kernel_rfl) hv h
  have h0' : DataW.trod enc Tryz.prog W 0 (fun _ => true) true n 3 [v0] = some y0 := h0
  have h1' : DataW.trod enc Tryz.prog W 0 (fun _ => true) true n 22 [v1] = some y1 := h1
  have h2' : DataW.trod enc Tryz.prog W 0 (fun _ => true) true n 3 [v2] = some y2 := h2
  obtain ⟨k0, e0, _, w0⟩ := DataW.trod_int Tryz.underlying3 h0'
  obtain ⟨k2, e2, _, w2⟩ := DataW.trod_int Tryz.underlying3 h2'
  obtain ⟨l, hl⟩ := open_nodes nodeTys Tryz.underlying22 h1'
  have e0' : v0 = .int .i64 k0 := by simpa using e0
  have e2' : v2 = .int .i64 k2 := by simpa using e2
  exact ⟨⟨k0, l, k2⟩, v1, by rw [e0', e2'], hl, i64_wf w0, i64_wf w2⟩
end Go.Proofs.YthhgfhdmfhnklaaGreatDoor
/-
  The last step of a law's proof: true was handed back and nothing that was there has changed, so the row's claim holds.
  Conditions: each theorem's own.
-/
namespace Go.Proofs.YthhgfhdmfhnklaaGreatDoor
open Go.RowKit Go.ChangeShapes Go.WideShapes

theorem trodAll_below {H : Type} {enc : TypeId × Value → H} {P : Program} (hl : laidOutB P = true) {W W' : World} (hb : Below W.heap.size W W') :
    ∀ (ts : List TypeId) (vs : List Value) (ds : List (DataW H)) (ps : List MemPlace), (ts.all fun t => P.readableRec t && decide (t < P.types.size)) = true →
      DataW.TrodAll enc P W 0 (fun _ => true) true ts vs ds ps → (∀ x ∈ ps, x.block < W.heap.size) → DataW.TrodAll enc P W' 0 (fun b => decide (b < W.heap.size)) true ts vs ds ps := by
  intro ts
  induction ts with
  | nil =>
    intro vs ds ps hr h hlt
    cases vs <;> cases ds <;> first | exact h | exact h.elim
  | cons t ts ih =>
    intro vs ds ps hr h hlt
    simp only [List.all_cons, Bool.and_eq_true, decide_eq_true_eq] at hr
    cases vs with
    | nil => cases ds <;> exact h.elim
    | cons v vs =>
      cases ds with
      | nil => exact h.elim
      | cons d ds =>
        obtain ⟨p, q, h1, h2, rfl⟩ := h
        exact ⟨p, q, Below.trod hl hr.1.1 hr.1.2 h1 hb (fun x hx => hlt x (List.mem_append_left _ hx)),
          ih vs ds q hr.2 h2 (fun x hx => hlt x (List.mem_append_right _ hx)), rfl⟩

theorem law_close {H : Type} {enc : TypeId × Value → H} {P : Program} {f : Func} {s : ChangeSpec} {W W' : World} {args : Array Value} {ds gs : List (DataW H)} {before : List MemPlace} {tb : TypeId}
    (hl : laidOutB P = true) (hrd : (f.params.toList.all fun t => P.readableRec t && decide (t < P.types.size)) = true) (hvars : s.vars = []) (hr : f.resultTypes = #[tb]) (hbool : P.underlying tb = some .bool)
    (hres : (s.fn H (ds ++ gs)).results = [.lit (.bool true)]) (hargs : (s.fn H (ds ++ gs)).args = ds) (hvs : (s.fn H (ds ++ gs)).vars = [])
    (hW : DataW.Whole enc P f.params.toList s.vars false W args.toList ds gs before) (hb : Below W.heap.size W W') :
    s.post enc P f false true false false W args (.bool true) W' := by
  have hlt := hW.lt
  have hW' := hW
  obtain ⟨p, q, hA, hV, rfl, hz, hn⟩ := hW
  rw [hvars] at hV
  obtain ⟨rfl, rfl⟩ := trodVars_none hV
  refine ⟨ds, [], p ++ [], [], p, [], hW', ?_, ?_, ?_, hb.frame _, fun h => by cases h⟩
  · rw [hres, hr]
    exact ⟨[], [], shut_bool hbool true, rfl, rfl⟩
  · rw [hargs]
    exact trodAll_below hl hb _ _ _ _ hrd hA (fun x hx => by simpa using hlt x (List.mem_append_left _ hx))
  · rw [hvs, hvars]; rfl
end Go.Proofs.YthhgfhdmfhnklaaGreatDoor
/-
  What valid formulas and chances give: grown trees are certificates; deeper ones give no wider bounds.
  Conditions: each theorem's own.
-/
namespace Go.Proofs.YthhgfhdmfhnklaaGreatDoor
open Go.RowKit Go.ChangeShapes Go.WideShapes

structure ValidP (f : Fm) (L : List Rv) : Prop where
  v8 : f.vars ≤ 8
  fe : fmErr f = 0
  len : (L.length : Int) = f.vars
  pr : ∀ r ∈ L, prB r.s r.a r.b = true
  sm : ∀ r ∈ L, r.a.length ≤ 3 ∧ r.b.length ≤ 3
theorem RvsV.lt {w : World} {v : Value} {L : List Rv} (h : RvsV w v L) : ∀ r ∈ L, U32 r.a ∧ U32 r.b := by
  intro r hr
  obtain ⟨j, hj, e⟩ := List.getElem_of_mem hr
  have hx : L[j]? = some r := by rw [List.getElem?_eq_getElem hj, e]
  obtain ⟨ao, c, rfl, hc, hc2, _⟩ := h.shape
  obtain ⟨b, off, rfl, hb, _, hat⟩ := h.at (by omega)
  obtain ⟨va, vb, _, _, _, n1, n2⟩ := hat j r hx
  exact ⟨n1.lt, n2.lt⟩
theorem grT_len {f : Fm} : ∀ d y n y' n', 2 * (trLeaves (grT f d y n) y' n').length = grN f d y n + 1
  | 0, y, n, y', n' => by simp only [grT, grN, leafT_leaves]; rfl
  | d + 1, y, n, y', n' => by
    simp only [grT, grN]
    split
    · rw [leafT_leaves]; rfl
    · simp only [trLeaves, Int.toNat_natCast, List.length_append]
      have h1 := grT_len (f := f) d y (n ||| 1 <<< fmNext f y n) y' (n' ||| 1 <<< fmNext f y n)
      have h2 := grT_len (f := f) d (y ||| 1 <<< fmNext f y n) n (y' ||| 1 <<< fmNext f y n) n'
      omega
theorem ValidP.tr {f : Fm} {L : List Rv} (h : ValidP f L) (d : Nat) : trErr f.vars (grT f d 0 0) 0 0 = (grN f d 0 0, 0) := by
  have h1 := grN_cap h.fe h.v8 d
  have := grT_err h.fe d 0 0 0 0 (fun i => by simp) (by omega)
  rwa [Nat.zero_add] at this
theorem ValidP.cErr {f : Fm} {L : List Rv} (h : ValidP f L) (d : Nat) : cErr f (grT f d 0 0) = 0 := by
  rw [cErr_t h.fe, h.tr d]
theorem ValidP.few {f : Fm} {L : List Rv} (h : ValidP f L) (d : Nat) : (trLeaves (grT f d 0 0) 0 0).length ≤ 300 := by
  have h1 := grN_cap h.fe h.v8 d
  have h2 := grT_len (f := f) d 0 0 0 0
  omega
theorem sErr_of {f : Fm} {t : Tr} {L : List Rv} (h1 : cErr f t = 0) (h2 : (L.length : Int) = f.vars) (h3 : ∀ r ∈ L, prB r.s r.a r.b = true) (h4 : firstBad f (trLeaves t 0 0) 0 < 0) : sErr f t L = 0 := by
  unfold sErr
  rw [if_neg (by rw [h1]; decide), if_neg (fun k => k h2), if_neg, if_neg (by omega)]
  intro k
  obtain ⟨r, hr, hk⟩ := List.any_eq_true.1 k
  rw [h3 r hr] at hk; cases hk
theorem ValidP.sErr {f : Fm} {L : List Rv} (h : ValidP f L) (d : Nat) : sErr f (grT f d 0 0) L = 0 :=
  sErr_of (h.cErr d) h.len h.pr (by rw [(firstBad_hold _ _).2 (grT_hold d 0 0)]; decide)
theorem ValidP.ps {f : Fm} {L : List Rv} (h : ValidP f L) : (L.map Rv.q).length = f.vars.toNat ∧ ∀ p ∈ L.map Rv.q, 0 ≤ p ∧ p ≤ 1 := by
  refine ⟨by rw [List.length_map]; have := h.len; omega, fun p hp => ?_⟩
  obtain ⟨r, hr, rfl⟩ := List.mem_map.1 hp
  have := of_decide_eq_true (h.pr r hr)
  exact this.2
end Go.Proofs.YthhgfhdmfhnklaaGreatDoor
/-
  An argument that is a list of fractions.
  Conditions: none beyond each theorem's own.
-/
namespace Go.Proofs.YthhgfhdmfhnklaaGreatDoor
open Go.RowKit Go.ChangeShapes Go.WideShapes Go.Joins Go.Deep

instance : Inhabited Rv := ⟨⟨false, [], []⟩⟩
end Go.Proofs.YthhgfhdmfhnklaaGreatDoor
