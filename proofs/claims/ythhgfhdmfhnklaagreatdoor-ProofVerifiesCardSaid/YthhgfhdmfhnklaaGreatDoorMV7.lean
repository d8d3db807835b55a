/-
  The texts Lw1, Lw2, R9a, R9b, R9c, Sp3r, Sp2, R41a, Sp4r, R41b, OpenP, one behind the other (what the law leans on).
  Conditions: each theorem's own.
-/
import Derived.Lib.SmallJoins
import Derived.Test.YthhgfhdmfhnklaaGreatDoorMV6
/-
  example of the laws of proof.
  Conditions: each theorem's own.
-/
namespace Go.Proofs.YthhgfhdmfhnklaaGreatDoor
open Go.RowKit Go.ChangeShapes Go.WideShapes

theorem own_rvs {w : World} {B : Nat} {e : TypeId} {v : Value} {l : List Rv} {xs : List Value} (h : w.ownsRow B e 3 v l.length xs)
    (hx : ∀ (j : Nat) r, l[j]? = some r → ∃ x0 x1 x2, xs[j * 3]? = some x0 ∧ xs[j * 3 + 1]? = some x1 ∧ xs[j * 3 + 2]? = some x2 ∧ RatV w (.agg #[x0, x1, x2]) r.s r.a r.b) : RvsV w v l := by
  obtain ⟨ao, c, rfl, h1, h2, h3⟩ := own_shape h
  refine ⟨ao, c, rfl, h1, h2, h3, ?_⟩
  intro b off s hs
  subst hs
  by_cases h0 : 0 < l.length
  · obtain ⟨g, e1, e2, e3, e4, e5, e6⟩ := own_cells h rfl h0
    cases e1
    refine ⟨fun _ => ⟨e3, rfl⟩, fun j r hj => ?_⟩
    obtain ⟨x0, x1, x2, k0, k1, k2, va, vb, he, k3, k4⟩ := hx j r hj
    cases he
    rw [Nat.zero_add]
    exact ⟨_, _, e6 _ _ k0, e6 _ _ k1, e6 _ _ k2, k3, k4⟩
  · have : l = [] := List.eq_nil_of_length_eq_zero (by omega)
    subst this
    exact ⟨fun h => absurd h (Nat.lt_irrefl _), fun j x hj => by simp at hj⟩
/-- what stands in the list so far -/
def ExS (w : World) (B q : Nat) (v : Value) (xs : List Value) : Prop :=
  OwnL w B 54 3 v q xs ∧ noU xs ∧ xs.length = q * 3 ∧ ∀ (j : Nat) r, (exL.take q)[j]? = some r → ∃ x0 x1 x2, xs[j * 3]? = some x0 ∧ xs[j * 3 + 1]? = some x1 ∧ xs[j * 3 + 2]? = some x2 ∧ RatV w (.agg #[x0, x1, x2]) r.s r.a r.b
theorem ExS.below {w w' : World} {B q : Nat} {v : Value} {xs : List Value} (h : ExS w B q v xs) (hb : Below w.heap.size w w') : ExS w' B q v xs :=
  ⟨h.1.below hb, h.2.1, h.2.2.1, fun j r hj => by obtain ⟨x0, x1, x2, k0, k1, k2, k3⟩ := h.2.2.2 j r hj; exact ⟨x0, x1, x2, k0, k1, k2, k3.below hb⟩⟩
theorem ExS.next {w w' : World} {B q : Nat} {v v' : Value} {xs : List Value} {x0 x1 x2 : Value} {r : Rv} (h : ExS w B q v xs) (hr : exL[q]? = some r) (ho : OwnL w' B 54 3 v' (q + 1) (xs ++ [x0, x1, x2])) (hg : w.grownBy w' v.ownBlock) (hn : noU [x0, x1, x2]) (hx : RatV w (.agg #[x0, x1, x2]) r.s r.a r.b) : ExS w' B (q + 1) v' (xs ++ [x0, x1, x2]) := by
  refine ⟨ho, noU_app h.2.1 hn, by rw [List.length_append, h.2.2.1]; simp; omega, fun j z hj => ?_⟩
  rw [take_snoc hr] at hj
  have hl : (exL.take q).length = q := by rw [List.length_take]; have := (List.getElem?_eq_some_iff.1 hr).1; omega
  have hxl := h.2.2.1
  by_cases hjq : j < q
  · rw [List.getElem?_append_left (by omega)] at hj
    obtain ⟨y0, y1, y2, k0, k1, k2, k3⟩ := h.2.2.2 j z hj
    exact ⟨y0, y1, y2, by rw [List.getElem?_append_left (by omega)]; exact k0, by rw [List.getElem?_append_left (by omega)]; exact k1, by rw [List.getElem?_append_left (by omega)]; exact k2, grown_V hg h.1 k3⟩
  · rw [List.getElem?_append_right (by omega), hl] at hj
    have hj0 : j = q := by
      rcases Nat.lt_or_ge 0 (j - q) with h' | h'
      · have := (List.getElem?_eq_some_iff.1 hj).1; simp at this; omega
      · omega
    subst hj0
    rw [Nat.sub_self] at hj
    cases hj
    exact ⟨x0, x1, x2, by rw [List.getElem?_append_right (by omega), hxl, Nat.sub_self]; rfl, by rw [List.getElem?_append_right (by omega), hxl, show j * 3 + 1 - j * 3 = 1 by omega]; rfl, by rw [List.getElem?_append_right (by omega), hxl, show j * 3 + 2 - j * 3 = 2 by omega]; rfl, grown_V hg h.1 hx⟩
/-- the example -/
def RetEx (w : World) (e : Ending) (w' : World) : Prop := ∃ vf vp, e = .returned (.tuple #[vf, vp]) ∧ Below w.heap.size w w' ∧ FmV w' vf exF ∧ RvsV w' vp exL
theorem ints_two {w : World} {g : Nat} {a b : Int} {T : TypeId} (h : w.heap[g]? = some (.cells #[.int .i64 a, .int .i64 b] T)) (ha : I64 a) (hb : I64 b) : IntsV w (.slice (some ⟨g, 0, none⟩) 2 2) [a, b] := by
  obtain ⟨x0, x1⟩ := row2c h
  refine ⟨_, _, rfl, Nat.le_refl _, by omega, (fun h => by cases h), ?_, ?_⟩
  · intro b' off s hs
    cases hs
    refine ⟨fun _ => ⟨below_lt h, rfl⟩, fun j x hj => ?_⟩
    match j with
    | 0 => cases hj; exact x0
    | 1 => cases hj; exact x1
    | j + 2 => simp at hj
  · intro x hx
    simp only [List.mem_cons, List.not_mem_nil, or_false] at hx
    rcases hx with rfl | rfl
    · exact ha
    · exact hb
theorem nds_two {w : World} {g : Nat} {n0 n1 : Nd} {a0 a1 : Value} {T : TypeId} (h : w.heap[g]? = some (.cells #[.int .i64 n0.kind, .int .i64 n0.K, a0, .int .i64 n1.kind, .int .i64 n1.K, a1] T)) (h0 : IntsV w a0 n0.args) (h1 : IntsV w a1 n1.args)
    (k0 : I64 n0.kind ∧ I64 n0.K) (k1 : I64 n1.kind ∧ I64 n1.K) : NdsV w (.slice (some ⟨g, 0, none⟩) 2 2) [n0, n1] := by
  obtain ⟨x0, x1, x2, x3, x4, x5⟩ := row6 h
  refine ⟨_, _, rfl, Nat.le_refl _, by omega, (fun h => by cases h), ?_⟩
  intro b' off s hs
  cases hs
  refine ⟨fun _ => ⟨below_lt h, rfl⟩, fun j x hj => ?_⟩
  match j with
  | 0 => cases hj; exact ⟨x0, x1, ⟨_, x2, h0⟩, k0.1, k0.2⟩
  | 1 => cases hj; exact ⟨x3, x4, ⟨_, x5, h1⟩, k1.1, k1.2⟩
  | j + 2 => simp at hj
theorem noWf {a b : Int} {o : Option Addr} {n c : Nat} : noW #[Value.int .i64 a, .slice o n c, .int .i64 b] := by
  intro j n; match j with
  | 0 => simp
  | 1 => simp
  | 2 => simp
  | j + 3 => simp
set_option maxRecDepth 100000 in
set_option maxHeartbeats 8000000 in
theorem example_any (w : World) : Calls Tryz.prog 35 #[] w (RetEx w) := by
  obtain ⟨g0, hG0⟩ : ∃ g, g = w.heap.size := ⟨_, rfl⟩
  obtain ⟨g1, hG1⟩ : ∃ g, g = w.heap.size + 1 := ⟨_, rfl⟩
  obtain ⟨g2, hG2⟩ : ∃ g, g = w.heap.size + 1 + 1 := ⟨_, rfl⟩
  obtain ⟨g3, hG3⟩ : ∃ g, g = w.heap.size + 1 + 1 + 1 := ⟨_, rfl⟩
  obtain ⟨g4, hG4⟩ : ∃ g, g = w.heap.size + 1 + 1 + 1 + 1 := ⟨_, rfl⟩
  obtain ⟨g5, hG5⟩ : ∃ g, g = w.heap.size + 1 + 1 + 1 + 1 + 1 := ⟨_, rfl⟩
  obtain ⟨w1, hw1⟩ : ∃ x, x = w.alloc (.cells #[.int .i64 0, .slice none 0 0, .int .i64 0] 24) := ⟨_, rfl⟩
  have hs1 : w1.heap.size = w.heap.size + 1 := by rw [hw1]; simp
  have hb1 : Below w.heap.size w w1 := by rw [hw1]; exact (Below.refl _ _).alloc (Nat.le_refl _) _
  have hh1 : w1.heap[g0]? = some (.cells #[.int .i64 0, .slice none 0 0, .int .i64 0] 24) := by rw [show g0 = w.heap.size by omega, hw1]; exact heap_alloc_new _ _
  obtain ⟨w2, hw2⟩ : ∃ x, x = w1.alloc (.cells #[.int .i64 1, .int .i64 2] 3) := ⟨_, rfl⟩
  have hs2 : w2.heap.size = w1.heap.size + 1 := by rw [hw2]; simp
  have hb2 : Below w1.heap.size w1 w2 := by rw [hw2]; exact (Below.refl _ _).alloc (Nat.le_refl _) _
  have hh2 : w2.heap[g1]? = some (.cells #[.int .i64 1, .int .i64 2] 3) := by rw [show g1 = w1.heap.size by omega, hw2]; exact heap_alloc_new _ _
  obtain ⟨w3, hw3⟩ : ∃ x, x = w2.alloc (.cells #[.int .i64 0, .int .i64 3] 3) := ⟨_, rfl⟩
  have hs3 : w3.heap.size = w2.heap.size + 1 := by rw [hw3]; simp
  have hb3 : Below w2.heap.size w2 w3 := by rw [hw3]; exact (Below.refl _ _).alloc (Nat.le_refl _) _
  have hh3 : w3.heap[g2]? = some (.cells #[.int .i64 0, .int .i64 3] 3) := by rw [show g2 = w2.heap.size by omega, hw3]; exact heap_alloc_new _ _
  obtain ⟨w4, hw4⟩ : ∃ x, x = w3.alloc (.cells #[.int .i64 2, .int .i64 0, .slice (some ⟨g1, 0, none⟩) 2 2, .int .i64 3, .int .i64 0, .slice (some ⟨g2, 0, none⟩) 2 2] 82) := ⟨_, rfl⟩
  have hs4 : w4.heap.size = w3.heap.size + 1 := by rw [hw4]; simp
  have hb4 : Below w3.heap.size w3 w4 := by rw [hw4]; exact (Below.refl _ _).alloc (Nat.le_refl _) _
  have hh4 : w4.heap[g3]? = some (.cells #[.int .i64 2, .int .i64 0, .slice (some ⟨g1, 0, none⟩) 2 2, .int .i64 3, .int .i64 0, .slice (some ⟨g2, 0, none⟩) 2 2] 82) := by rw [show g3 = w3.heap.size by omega, hw4]; exact heap_alloc_new _ _
  obtain ⟨w5, hw5⟩ : ∃ x, x = w4.alloc (.cells #[.int .i64 3, .slice (some ⟨g3, 0, none⟩) 2 2, .int .i64 4] 24) := ⟨_, rfl⟩
  have hs5 : w5.heap.size = w4.heap.size + 1 := by rw [hw5]; simp
  have hb5 : Below w4.heap.size w4 w5 := by rw [hw5]; exact (Below.refl _ _).alloc (Nat.le_refl _) _
  have hh5 : w5.heap[g4]? = some (.cells #[.int .i64 3, .slice (some ⟨g3, 0, none⟩) 2 2, .int .i64 4] 24) := by rw [show g4 = w4.heap.size by omega, hw5]; exact heap_alloc_new _ _
  obtain ⟨w6, hw6⟩ : ∃ x, x = w5.alloc (.cells #[.int .i64 2, .int .i64 3, .int .i64 4] 3) := ⟨_, rfl⟩
  have hs6 : w6.heap.size = w5.heap.size + 1 := by rw [hw6]; simp
  have hb6 : Below w5.heap.size w5 w6 := by rw [hw6]; exact (Below.refl _ _).alloc (Nat.le_refl _) _
  have hh6 : w6.heap[g5]? = some (.cells #[.int .i64 2, .int .i64 3, .int .i64 4] 3) := by rw [show g5 = w5.heap.size by omega, hw6]; exact heap_alloc_new _ _
  have HB6 := Lib.hid (show Below w.heap.size w w6 from (((((hb1.trans (hb2.mono (by omega))).trans (hb3.mono (by omega))).trans (hb4.mono (by omega))).trans (hb5.mono (by omega))).trans (hb6.mono (by omega))))
  have G0 := Lib.hid (heap_below (heap_below (heap_below (heap_below (heap_below hh1 hb2) hb3) hb4) hb5) hb6)
  have G1 := Lib.hid (heap_below (heap_below (heap_below (heap_below hh2 hb3) hb4) hb5) hb6)
  have G2 := Lib.hid (heap_below (heap_below (heap_below hh3 hb4) hb5) hb6)
  have G3 := Lib.hid (heap_below (heap_below hh4 hb5) hb6)
  have G4 := Lib.hid (heap_below hh5 hb6)
  have G5 := Lib.hid hh6
  have l0 : w.heap.size ≤ g0 := by omega
  have lg : g0 < w6.heap.size ∧ g1 < w6.heap.size ∧ g2 < w6.heap.size ∧ g3 < w6.heap.size ∧ g4 < w6.heap.size := by omega
  have n10 : g1 ≠ g0 := by omega
  have n20 : g2 ≠ g0 := by omega
  have n30 : g3 ≠ g0 := by omega
  clear hs1 hb1 hh1 hs2 hb2 hh2 hs3 hb3 hh3 hs4 hb4 hh4 hs5 hb5 hh5 hs6 hb6 hh6
  go_enter Tryz.func35, Tryz.ntmps35
  go_wp2_with fail
  rw [← hG5, ← hG4, ← hG3, ← hG2, ← hG1, ← hG0]
  rw [← hw1, ← hw2, ← hw3, ← hw4, ← hw5, ← hw6]
  clear hG0 hw1 hG1 hw2 hG2 hw3 hG3 hw4 hG4 hw5 hG5 hw6
  obtain ⟨B, hB⟩ : ∃ B, B = w6.heap.size := ⟨_, rfl⟩
  go_loopw [16, 3] (fun i' vp wx => ∃ (q : Nat) (xs : List Value), q ≤ 3 ∧ i' = .int .i64 q ∧ Hid (Below B w6 wx) ∧ Hid (ExS wx B q vp xs)) (fun i' _ _ => 3 - (intOf i').toNat)
  case atStart => exact ⟨0, [], by omega, rfl, Lib.hid (Below.refl _ _), Lib.hid ⟨OwnL.nil _ _ _ _, noU0, rfl, fun j r hj => by simp at hj⟩⟩
  case round =>
    obtain ⟨q, xs, hq, rfl, BX, EX⟩ := hrel
    obtain ⟨wo, rfl⟩ : ∃ wo : World, wo = wr := ⟨_, rfl⟩
    have BX6 := Lib.hid (show Below w6.heap.size w6 wo from hB ▸ BX.out)
    have hsz := BX.out.size
    by_cases hlt : q < 3
    · obtain ⟨c0, c1, c2⟩ := row3 (heap_below G5.out BX6.out)
      have hq3 : q = 0 ∨ q = 1 ∨ q = 2 := by omega
      rcases hq3 with rfl | rfl | rfl
      · have HK := Lib.hid (rmake_any 1 2 wo (by decide) (by decide) (by decide) (by decide))
        go_wp2_with (with_reducible refine pauseCall ?_)
        clear c0 c1 c2
        refine Pause.mk ?_
        (with_reducible refine HK.out.mono ?_); rintro e w7 ⟨vx, rfl, hb7, hn7⟩
        have hn7 : IsR w7 vx (1 / 2) := (show ((1 : Int) : Rat) / ((2 : Int) : Rat) = 1 / 2 by decide +kernel) ▸ hn7
        obtain ⟨sx, ox, nx, cx, ax, mx, dx, rfl⟩ := hn7.shape
        obtain ⟨w8, hw8⟩ : ∃ x, x = (w7.alloc (.cells #[.bool sx, .slice ox nx cx, .slice ax mx dx] 54)).alloc (.cells #[.bool sx, .slice ox nx cx, .slice ax mx dx] 54) := ⟨_, rfl⟩
        have hb8 : Below w7.heap.size w7 w8 := by rw [hw8]; exact ((Below.refl _ _).alloc (Nat.le_refl _) _).alloc (by simp) _
        have hz8 : w8.heap[w7.heap.size + 1]? = some (.cells #[.bool sx, .slice ox nx cx, .slice ax mx dx] 54) := by rw [hw8]; exact heap_alloc2_new w7 _ _
        obtain ⟨gz, hGz⟩ : ∃ g, g = w7.heap.size + 1 := ⟨_, rfl⟩
        rw [← hGz] at hz8
        have hb78 := hb7.trans (hb8.mono hb7.size)
        have BX8 := Lib.hid (BX.out.trans (hb78.mono (by omega))); have EX8 := Lib.hid (EX.out.below hb78); have RV := Lib.hid (hn7.below hb8); have GZ8 := Lib.hid hz8
        clear hb7 hb8 hb78 hz8 hn7 HK
        go_wp2_with (with_reducible refine wpList_pauseA ?_)
        rw [← hw8, ← hGz]; clear hw8 hGz
        refine wpList_appL B Tryz.ratTy rfl noU3 (by decide) _ 0 xs [.bool sx, .slice ox nx cx, .slice ax mx dx] gz 54 rfl rfl EX8.out.1 GZ8.out rfl rfl noU3 EX8.out.2.1 (by decide) (by decide) (by have := BX8.out.size; omega) ?_
        intro v' w9 ho9 hg9 _
        have hx9 := EX8.out.next (r := rvOf (1 / 2)) rfl ho9 hg9 noU3 RV.out
        have BX9 := Lib.hid (OwnL.low EX8.out.1 hg9 BX8.out (by have := BX8.out.size; omega)); have EX9 := Lib.hid hx9
        clear ho9 hg9 hx9
        go_wp2_with fail
        go_roundw
        case rel => exact ⟨1, _, by omega, rfl, Lib.hid BX9.out, Lib.hid EX9.out⟩
        case measure => simp [intOf]
      · have HK := Lib.hid (rmake_any 1 3 wo (by decide) (by decide) (by decide) (by decide))
        go_wp2_with (with_reducible refine pauseCall ?_)
        clear c0 c1 c2
        refine Pause.mk ?_
        (with_reducible refine HK.out.mono ?_); rintro e w7 ⟨vx, rfl, hb7, hn7⟩
        have hn7 : IsR w7 vx (1 / 3) := (show ((1 : Int) : Rat) / ((3 : Int) : Rat) = 1 / 3 by decide +kernel) ▸ hn7
        obtain ⟨sx, ox, nx, cx, ax, mx, dx, rfl⟩ := hn7.shape
        obtain ⟨w8, hw8⟩ : ∃ x, x = (w7.alloc (.cells #[.bool sx, .slice ox nx cx, .slice ax mx dx] 54)).alloc (.cells #[.bool sx, .slice ox nx cx, .slice ax mx dx] 54) := ⟨_, rfl⟩
        have hb8 : Below w7.heap.size w7 w8 := by rw [hw8]; exact ((Below.refl _ _).alloc (Nat.le_refl _) _).alloc (by simp) _
        have hz8 : w8.heap[w7.heap.size + 1]? = some (.cells #[.bool sx, .slice ox nx cx, .slice ax mx dx] 54) := by rw [hw8]; exact heap_alloc2_new w7 _ _
        obtain ⟨gz, hGz⟩ : ∃ g, g = w7.heap.size + 1 := ⟨_, rfl⟩
        rw [← hGz] at hz8
        have hb78 := hb7.trans (hb8.mono hb7.size)
        have BX8 := Lib.hid (BX.out.trans (hb78.mono (by omega))); have EX8 := Lib.hid (EX.out.below hb78); have RV := Lib.hid (hn7.below hb8); have GZ8 := Lib.hid hz8
        clear hb7 hb8 hb78 hz8 hn7 HK
        go_wp2_with (with_reducible refine wpList_pauseA ?_)
        rw [← hw8, ← hGz]; clear hw8 hGz
        refine wpList_appL B Tryz.ratTy rfl noU3 (by decide) _ 1 xs [.bool sx, .slice ox nx cx, .slice ax mx dx] gz 54 rfl rfl EX8.out.1 GZ8.out rfl rfl noU3 EX8.out.2.1 (by decide) (by decide) (by have := BX8.out.size; omega) ?_
        intro v' w9 ho9 hg9 _
        have hx9 := EX8.out.next (r := rvOf (1 / 3)) rfl ho9 hg9 noU3 RV.out
        have BX9 := Lib.hid (OwnL.low EX8.out.1 hg9 BX8.out (by have := BX8.out.size; omega)); have EX9 := Lib.hid hx9
        clear ho9 hg9 hx9
        go_wp2_with fail
        go_roundw
        case rel => exact ⟨2, _, by omega, rfl, Lib.hid BX9.out, Lib.hid EX9.out⟩
        case measure => simp [intOf]
      · have HK := Lib.hid (rmake_any 1 4 wo (by decide) (by decide) (by decide) (by decide))
        go_wp2_with (with_reducible refine pauseCall ?_)
        clear c0 c1 c2
        refine Pause.mk ?_
        (with_reducible refine HK.out.mono ?_); rintro e w7 ⟨vx, rfl, hb7, hn7⟩
        have hn7 : IsR w7 vx (1 / 4) := (show ((1 : Int) : Rat) / ((4 : Int) : Rat) = 1 / 4 by decide +kernel) ▸ hn7
        obtain ⟨sx, ox, nx, cx, ax, mx, dx, rfl⟩ := hn7.shape
        obtain ⟨w8, hw8⟩ : ∃ x, x = (w7.alloc (.cells #[.bool sx, .slice ox nx cx, .slice ax mx dx] 54)).alloc (.cells #[.bool sx, .slice ox nx cx, .slice ax mx dx] 54) := ⟨_, rfl⟩
        have hb8 : Below w7.heap.size w7 w8 := by rw [hw8]; exact ((Below.refl _ _).alloc (Nat.le_refl _) _).alloc (by simp) _
        have hz8 : w8.heap[w7.heap.size + 1]? = some (.cells #[.bool sx, .slice ox nx cx, .slice ax mx dx] 54) := by rw [hw8]; exact heap_alloc2_new w7 _ _
        obtain ⟨gz, hGz⟩ : ∃ g, g = w7.heap.size + 1 := ⟨_, rfl⟩
        rw [← hGz] at hz8
        have hb78 := hb7.trans (hb8.mono hb7.size)
        have BX8 := Lib.hid (BX.out.trans (hb78.mono (by omega))); have EX8 := Lib.hid (EX.out.below hb78); have RV := Lib.hid (hn7.below hb8); have GZ8 := Lib.hid hz8
        clear hb7 hb8 hb78 hz8 hn7 HK
        go_wp2_with (with_reducible refine wpList_pauseA ?_)
        rw [← hw8, ← hGz]; clear hw8 hGz
        refine wpList_appL B Tryz.ratTy rfl noU3 (by decide) _ 2 xs [.bool sx, .slice ox nx cx, .slice ax mx dx] gz 54 rfl rfl EX8.out.1 GZ8.out rfl rfl noU3 EX8.out.2.1 (by decide) (by decide) (by have := BX8.out.size; omega) ?_
        intro v' w9 ho9 hg9 _
        have hx9 := EX8.out.next (r := rvOf (1 / 4)) rfl ho9 hg9 noU3 RV.out
        have BX9 := Lib.hid (OwnL.low EX8.out.1 hg9 BX8.out (by have := BX8.out.size; omega)); have EX9 := Lib.hid hx9
        clear ho9 hg9 hx9
        go_wp2_with fail
        go_roundw
        case rel => exact ⟨3, _, by omega, rfl, Lib.hid BX9.out, Lib.hid EX9.out⟩
        case measure => simp [intOf]
    · have hq' : q = 3 := by omega
      subst hq'
      obtain ⟨x0, x1, x2⟩ := row3 (heap_below G4.out BX6.out)
      have GX0 := Lib.hid (heap_below G0.out BX6.out)
      go_wp2_with (with_reducible refine wpList_pauseS ?_)
      refine wpList_stL g0 0 [.int .i64 3, .slice (some ⟨g3, 0, none⟩) 2 2, .int .i64 4] GX0.out rfl rfl (Nat.le_of_ble_eq_true rfl) (by kernel_rfl) rfl ?_
      intro wz hpz
      have GZ := Lib.hid (show wz.heap[g0]? = some (.cells #[.int .i64 3, .slice (some ⟨g3, 0, none⟩) 2 2, .int .i64 4] 24) by rw [hpz]; exact putL_3r GX0.out)
      have Z1 := putLx hpz (heap_below G1.out BX6.out) n10; have Z2 := putLx hpz (heap_below G2.out BX6.out) n20; have Z3 := putLx hpz (heap_below G3.out BX6.out) n30
      have HBZ := Lib.hid (putLb hpz (HB6.out.trans (BX6.out.mono HB6.out.size)) l0)
      have HFZ := Lib.hid (show FmV wz (.agg #[.int .i64 3, .slice (some ⟨g3, 0, none⟩) 2 2, .int .i64 4]) exF from
        ⟨_, rfl, nds_two (n0 := ⟨2, 0, [1, 2]⟩) (n1 := ⟨3, 0, [0, 3]⟩) Z3 (ints_two Z1 ⟨by decide, by decide⟩ ⟨by decide, by decide⟩) (ints_two Z2 ⟨by decide, by decide⟩ ⟨by decide, by decide⟩) ⟨⟨by decide, by decide⟩, ⟨by decide, by decide⟩⟩ ⟨⟨by decide, by decide⟩, ⟨by decide, by decide⟩⟩, ⟨by decide, by decide⟩, ⟨by decide, by decide⟩⟩)
      have ho := EX.out.1
      have hne := fun e => (by have := (World.ownsRow.lt ho.1 g0 e).1; omega : False)
      have HPZ := Lib.hid (own_rvs (l := exL) (OwnL.put ho hpz hne (by rw [hpz]; exact putL_os2 _ _ _ _)).1 (fun j r hj => by
        obtain ⟨y0, y1, y2, k0, k1, k2, k3⟩ := EX.out.2.2.2 j r hj
        exact ⟨y0, y1, y2, k0, k1, k2, putL_V hpz k3 GX0.out noWf⟩))
      clear hpz x0 x1 x2 Z1 Z2 Z3 ho hne
      go_wp2_with (with_reducible first | refine pauseCall ?_ | refine pauseLoop ?_ | refine pauseDraw ?_ | refine pauseBody ?_ | refine pauseRounds ?_)
      refine ret_c2 rfl g0 #[.int .i64 3, .slice (some ⟨g3, 0, none⟩) 2 2, .int .i64 4] rfl GZ.out Tryz.underlying24 rfl (by kernel_rfl) rfl ?_
      exact ⟨_, _, rfl, HBZ.out, HFZ.out, HPZ.out⟩
end Go.Proofs.YthhgfhdmfhnklaaGreatDoor
/-
  awake of the laws of proof.
  Conditions: each theorem's own.
-/
namespace Go.Proofs.YthhgfhdmfhnklaaGreatDoor
open Go.RowKit Go.ChangeShapes Go.WideShapes

set_option maxRecDepth 100000 in
set_option maxHeartbeats 8000000 in
theorem awake41_any (w : World) : Calls Tryz.prog 10 #[] w (RetV w (.bool true)) := by
  go_enter Tryz.func10, Tryz.ntmps10
  go_wp2_with (with_reducible refine pauseCall ?_)
  refine Pause.mk ?_
  (with_reducible refine (example_any w).mono ?_); rintro e w1 ⟨vf, vp, rfl, hb1, hf, hp⟩
  have HB := Lib.hid hb1
  obtain ⟨nv, hvf, hn, hv, htp⟩ := hf
  obtain ⟨ao, c, rfl, hc, hc2, _⟩ := hn.shape
  have HF := Lib.hid (show FmV w1 (.agg #[.int .i64 3, .slice ao 2 c, .int .i64 4]) exF from ⟨_, rfl, hn, hv, htp⟩)
  obtain rfl : vf = .agg #[.int .i64 3, .slice ao 2 c, .int .i64 4] := hvf
  have HP := Lib.hid hp
  clear hb1 hn hv htp hp
  obtain ⟨w2, hw2⟩ : ∃ x, x = w1.alloc (.cells #[.int .i64 3, .slice ao 2 c, .int .i64 4] 24) := ⟨_, rfl⟩
  have hb2 : Below w1.heap.size w1 w2 := by rw [hw2]; exact (Below.refl _ _).alloc (Nat.le_refl _) _
  have hx2 : w2.heap[w1.heap.size]? = some (.cells #[.int .i64 3, .slice ao 2 c, .int .i64 4] 24) := by rw [hw2]; exact heap_alloc_new _ _
  obtain ⟨b2, hB2⟩ : ∃ b, b = w1.heap.size := ⟨_, rfl⟩
  rw [← hB2] at hx2
  have HB := Lib.hid (HB.out.trans (hb2.mono HB.out.size))
  have HF := Lib.hid (HF.out.below hb2)
  have HP := Lib.hid (HP.out.below hb2)
  have X1 := Lib.hid hx2
  clear hb2 hx2
  have HK := Lib.hid (make_f _ exF 3 w2 HF.out ⟨by decide, by decide⟩ (fun _ => by decide))
  rw [ex_m3, ex_t3] at HK
  obtain ⟨l0_0, l0_1, l0_2⟩ := row3 X1.out
  try rw [hw2] at l0_0
  try rw [hB2] at l0_0
  try rw [hw2] at l0_1
  try rw [hB2] at l0_1
  try rw [hw2] at l0_2
  try rw [hB2] at l0_2
  go_wp2_with (with_reducible refine pauseCall ?_)
  rw [← hw2, ← hB2]
  clear hw2 hB2 l0_0 l0_1 l0_2
  refine Pause.mk ?_
  (with_reducible refine HK.out.mono ?_); rintro e w3 ⟨v3, rfl, hb3, ht3⟩
  rw [errV_zero]
  have HB := Lib.hid (HB.out.trans (hb3.mono HB.out.size))
  have HF := Lib.hid (HF.out.below hb3)
  have HP := Lib.hid (HP.out.below hb3)
  have X1 := Lib.hid (heap_below X1.out hb3)
  obtain ⟨tv, tr, ta, tn, tc, rfl⟩ := ht3.shape
  have HT3 := Lib.hid (show TrV w3 _ exT3 from ht3)
  clear hb3 ht3 HK
  obtain ⟨w4, hw4⟩ : ∃ x, x = w3.alloc (.cells #[.int .i64 tv, .slice ta tn tc, .int .i64 tr] 27) := ⟨_, rfl⟩
  have hb4 : Below w3.heap.size w3 w4 := by rw [hw4]; exact (Below.refl _ _).alloc (Nat.le_refl _) _
  have hx4 : w4.heap[w3.heap.size]? = some (.cells #[.int .i64 tv, .slice ta tn tc, .int .i64 tr] 27) := by rw [hw4]; exact heap_alloc_new _ _
  obtain ⟨b4, hB4⟩ : ∃ b, b = w3.heap.size := ⟨_, rfl⟩
  rw [← hB4] at hx4
  have HB := Lib.hid (HB.out.trans (hb4.mono HB.out.size))
  have HF := Lib.hid (HF.out.below hb4)
  have HP := Lib.hid (HP.out.below hb4)
  have HT3 := Lib.hid (HT3.out.below hb4)
  have X1 := Lib.hid (heap_below X1.out hb4)
  have X3 := Lib.hid hx4
  clear hb4 hx4
  have HK := Lib.hid (value_c _ _ _ exF exT3 exL w4 HF.out HT3.out HP.out ex_sm (fun _ => by rw [ex_l3]; decide) 0 ex_s3)
  rw [ex_v] at HK
  obtain ⟨l0_0, l0_1, l0_2⟩ := row3 X1.out
  try rw [hw4] at l0_0
  try rw [hB4] at l0_0
  try rw [hw4] at l0_1
  try rw [hB4] at l0_1
  try rw [hw4] at l0_2
  try rw [hB4] at l0_2
  obtain ⟨l1_0, l1_1, l1_2⟩ := row3 X3.out
  try rw [hw4] at l1_0
  try rw [hB4] at l1_0
  try rw [hw4] at l1_1
  try rw [hB4] at l1_1
  try rw [hw4] at l1_2
  try rw [hB4] at l1_2
  go_wp2_with (with_reducible refine pauseCall ?_)
  rw [← hw4, ← hB4]
  clear hw4 hB4 l0_0 l0_1 l0_2 l1_0 l1_1 l1_2
  refine Pause.mk ?_
  (with_reducible refine HK.out.mono ?_); rintro e w5 ⟨v5, rfl, hb5, hn5⟩
  have HB := Lib.hid (HB.out.trans (hb5.mono HB.out.size))
  have HF := Lib.hid (HF.out.below hb5)
  have HP := Lib.hid (HP.out.below hb5)
  have HT3 := Lib.hid (HT3.out.below hb5)
  have X1 := Lib.hid (heap_below X1.out hb5)
  have X3 := Lib.hid (heap_below X3.out hb5)
  obtain ⟨sv, ov, nv, cv, av, mv, dv, rfl⟩ := hn5.shape
  have IV := Lib.hid hn5
  clear hb5 hn5 HK
  obtain ⟨w6, hw6⟩ : ∃ x, x = w5.alloc (.cells #[.bool sv, .slice ov nv cv, .slice av mv dv] 54) := ⟨_, rfl⟩
  have hb6 : Below w5.heap.size w5 w6 := by rw [hw6]; exact (Below.refl _ _).alloc (Nat.le_refl _) _
  have hx6 : w6.heap[w5.heap.size]? = some (.cells #[.bool sv, .slice ov nv cv, .slice av mv dv] 54) := by rw [hw6]; exact heap_alloc_new _ _
  obtain ⟨b6, hB6⟩ : ∃ b, b = w5.heap.size := ⟨_, rfl⟩
  rw [← hB6] at hx6
  have HB := Lib.hid (HB.out.trans (hb6.mono HB.out.size))
  have HF := Lib.hid (HF.out.below hb6)
  have HP := Lib.hid (HP.out.below hb6)
  have HT3 := Lib.hid (HT3.out.below hb6)
  have IV := Lib.hid (IV.out.below hb6)
  have X1 := Lib.hid (heap_below X1.out hb6)
  have X3 := Lib.hid (heap_below X3.out hb6)
  have X5 := Lib.hid hx6
  clear hb6 hx6
  have HK := Lib.hid (make_f _ exF 1 w6 HF.out ⟨by decide, by decide⟩ (fun _ => by decide))
  rw [ex_m1, ex_t1] at HK
  obtain ⟨l0_0, l0_1, l0_2⟩ := row3 X1.out
  try rw [hw6] at l0_0
  try rw [hB6] at l0_0
  try rw [hw6] at l0_1
  try rw [hB6] at l0_1
  try rw [hw6] at l0_2
  try rw [hB6] at l0_2
  go_wp2_with (with_reducible refine pauseCall ?_)
  rw [← hw6, ← hB6]
  clear hw6 hB6 l0_0 l0_1 l0_2
  refine Pause.mk ?_
  (with_reducible refine HK.out.mono ?_); rintro e w7 ⟨v7, rfl, hb7, ht7⟩
  rw [errV_zero]
  have HB := Lib.hid (HB.out.trans (hb7.mono HB.out.size))
  have HF := Lib.hid (HF.out.below hb7)
  have HP := Lib.hid (HP.out.below hb7)
  have HT3 := Lib.hid (HT3.out.below hb7)
  have IV := Lib.hid (IV.out.below hb7)
  have X1 := Lib.hid (heap_below X1.out hb7)
  have X3 := Lib.hid (heap_below X3.out hb7)
  have X5 := Lib.hid (heap_below X5.out hb7)
  obtain ⟨uv, ur, ua, un, uc, rfl⟩ := ht7.shape
  have HT7 := Lib.hid (show TrV w7 _ exT1 from ht7)
  clear hb7 ht7 HK
  obtain ⟨w8, hw8⟩ : ∃ x, x = w7.alloc (.cells #[.int .i64 uv, .slice ua un uc, .int .i64 ur] 27) := ⟨_, rfl⟩
  have hb8 : Below w7.heap.size w7 w8 := by rw [hw8]; exact (Below.refl _ _).alloc (Nat.le_refl _) _
  have hx8 : w8.heap[w7.heap.size]? = some (.cells #[.int .i64 uv, .slice ua un uc, .int .i64 ur] 27) := by rw [hw8]; exact heap_alloc_new _ _
  obtain ⟨b8, hB8⟩ : ∃ b, b = w7.heap.size := ⟨_, rfl⟩
  rw [← hB8] at hx8
  have HB := Lib.hid (HB.out.trans (hb8.mono HB.out.size))
  have HF := Lib.hid (HF.out.below hb8)
  have HP := Lib.hid (HP.out.below hb8)
  have HT3 := Lib.hid (HT3.out.below hb8)
  have IV := Lib.hid (IV.out.below hb8)
  have HT7 := Lib.hid (HT7.out.below hb8)
  have X1 := Lib.hid (heap_below X1.out hb8)
  have X3 := Lib.hid (heap_below X3.out hb8)
  have X5 := Lib.hid (heap_below X5.out hb8)
  have X7 := Lib.hid hx8
  clear hb8 hx8
  have HK := Lib.hid (bounds_any _ _ _ exF exT1 exL w8 HF.out HT7.out HP.out ex_sm (fun _ => by rw [ex_l1]; decide) 0 ex_s1)
  rw [ex_b] at HK
  obtain ⟨l0_0, l0_1, l0_2⟩ := row3 X1.out
  try rw [hw8] at l0_0
  try rw [hB8] at l0_0
  try rw [hw8] at l0_1
  try rw [hB8] at l0_1
  try rw [hw8] at l0_2
  try rw [hB8] at l0_2
  obtain ⟨l1_0, l1_1, l1_2⟩ := row3 X7.out
  try rw [hw8] at l1_0
  try rw [hB8] at l1_0
  try rw [hw8] at l1_1
  try rw [hB8] at l1_1
  try rw [hw8] at l1_2
  try rw [hB8] at l1_2
  go_wp2_with (with_reducible refine pauseCall ?_)
  rw [← hw8, ← hB8]
  clear hw8 hB8 l0_0 l0_1 l0_2 l1_0 l1_1 l1_2
  refine Pause.mk ?_
  (with_reducible refine HK.out.mono ?_); rintro e w9 ⟨v9, rfl, hb9, hn9⟩
  rw [errV_zero]
  have HB := Lib.hid (HB.out.trans (hb9.mono HB.out.size))
  have HT3 := Lib.hid (HT3.out.below hb9)
  have IV := Lib.hid (IV.out.below hb9)
  have X3 := Lib.hid (heap_below X3.out hb9)
  have X5 := Lib.hid (heap_below X5.out hb9)
  obtain ⟨s0, o0, n0, c0, a0, m0, d0, s1, o1, n1, c1, a1, m1, d1, rfl⟩ := hn9.shape
  have IB := Lib.hid hn9
  clear hb9 hn9 HK HF HP HT7 X1 X7
  obtain ⟨w10, hw10⟩ : ∃ x, x = w9.alloc (.cells #[.bool s0, .slice o0 n0 c0, .slice a0 m0 d0, .bool s1, .slice o1 n1 c1, .slice a1 m1 d1] 56) := ⟨_, rfl⟩
  have hb10 : Below w9.heap.size w9 w10 := by rw [hw10]; exact (Below.refl _ _).alloc (Nat.le_refl _) _
  have hx10 : w10.heap[w9.heap.size]? = some (.cells #[.bool s0, .slice o0 n0 c0, .slice a0 m0 d0, .bool s1, .slice o1 n1 c1, .slice a1 m1 d1] 56) := by rw [hw10]; exact heap_alloc_new _ _
  obtain ⟨b10, hB10⟩ : ∃ b, b = w9.heap.size := ⟨_, rfl⟩
  rw [← hB10] at hx10
  have HB := Lib.hid (HB.out.trans (hb10.mono HB.out.size))
  have HT3 := Lib.hid (HT3.out.below hb10)
  have IV := Lib.hid (IV.out.below hb10)
  have IB := Lib.hid (IB.out.below hb10)
  have X3 := Lib.hid (heap_below X3.out hb10)
  have X5 := Lib.hid (heap_below X5.out hb10)
  have X9 := Lib.hid hx10
  clear hb10 hx10
  have HK := Lib.hid (sptext_any _ exT3 3 w10 (by decide) HT3.out (by rw [show ((3 : Nat) : Int) = 3 from rfl, ex_c3]) ex_rs (by rw [ex_tt]; decide))
  rw [ex_tt, show ((3 : Nat) : Int) = 3 from rfl] at HK
  obtain ⟨l0_0, l0_1, l0_2⟩ := row3 X3.out
  try rw [hw10] at l0_0
  try rw [hB10] at l0_0
  try rw [hw10] at l0_1
  try rw [hB10] at l0_1
  try rw [hw10] at l0_2
  try rw [hB10] at l0_2
  go_wp2_with (with_reducible refine pauseCall ?_)
  rw [← hw10, ← hB10]
  clear hw10 hB10 l0_0 l0_1 l0_2
  refine Pause.mk ?_
  (with_reducible refine HK.out.mono ?_); rintro e w11 ⟨rfl, hb11⟩
  have HB := Lib.hid (HB.out.trans (hb11.mono HB.out.size))
  have IV := Lib.hid (IV.out.below hb11)
  have IB := Lib.hid (IB.out.below hb11)
  have X5 := Lib.hid (heap_below X5.out hb11)
  have X9 := Lib.hid (heap_below X9.out hb11)
  clear hb11 HK X3 HT3
  have HK := Lib.hid (textq_any _ (13 / 24) w11 (IV.out.is (by decide +kernel)))
  rw [ex_x] at HK
  obtain ⟨l0, l1, l2⟩ := row3 X5.out
  go_wp2_with (with_reducible refine pauseCall ?_)
  clear l0 l1 l2
  refine Pause.mk ?_
  (with_reducible refine HK.out.mono ?_); rintro e w12 ⟨rfl, hb12⟩
  have HB := Lib.hid (HB.out.trans (hb12.mono HB.out.size))
  have IB := Lib.hid (IB.out.below hb12)
  have X9 := Lib.hid (heap_below X9.out hb12)
  clear hb12 HK
  have HK := Lib.hid (textq_any _ (1 / 2) w12 ((isSp_ends IB.out).1.is (by decide +kernel)))
  rw [ex_x2] at HK
  obtain ⟨l0, l1, l2, l3, l4, l5⟩ := row6 X9.out
  go_wp2_with (with_reducible refine pauseCall ?_)
  clear l0 l1 l2 l3 l4 l5
  refine Pause.mk ?_
  (with_reducible refine HK.out.mono ?_); rintro e w13 ⟨rfl, hb13⟩
  have HB := Lib.hid (HB.out.trans (hb13.mono HB.out.size))
  have IB := Lib.hid (IB.out.below hb13)
  have X9 := Lib.hid (heap_below X9.out hb13)
  clear hb13 HK
  have HK := Lib.hid (textq_any _ 1 w13 ((isSp_ends IB.out).2.is (by decide +kernel)))
  rw [ex_x1] at HK
  obtain ⟨l0, l1, l2, l3, l4, l5⟩ := row6 X9.out
  go_wp2_with (with_reducible refine pauseCall ?_)
  clear l0 l1 l2 l3 l4 l5
  refine Pause.mk ?_
  (with_reducible refine HK.out.mono ?_); rintro e w14 ⟨rfl, hb14⟩
  have HB := Lib.hid (HB.out.trans (hb14.mono HB.out.size))
  clear hb14 HK
  go_wp2_with fail
  go_ret
  exact ⟨rfl, HB.out⟩
end Go.Proofs.YthhgfhdmfhnklaaGreatDoor
/-
  of of the reference of ternary values.
  Conditions: each theorem's own.
-/
namespace Go.Proofs.YthhgfhdmfhnklaaGreatDoor
open Go.RowKit Go.ChangeShapes Go.WideShapes

/-- a block of integers -/
theorem row_intsV {w : World} {g : Nat} {l : List Nat} {T : TypeId} (h : w.heap[g]? = some (.cells (ivals (nints l)).toArray T)) (hl : ∀ j, gd l j ≤ 1000000) (hm : l.length ≤ 1000000) : IntsV w (.slice (some ⟨g, 0, none⟩) l.length l.length) (nints l) := by
  refine ⟨_, l.length, by rw [nints_length], by rw [nints_length]; exact Nat.le_refl _, by omega, fun h => (by cases h), ?_, nints_lt hl⟩
  intro b off s hs
  cases hs
  have hg : g < w.heap.size := (Array.getElem?_eq_some_iff.1 h).1
  refine ⟨fun _ => ⟨hg, rfl⟩, fun j x hj => ?_⟩
  rw [Nat.zero_add, cell_of_row w g j _ T (0, 0) h]
  simpa using ivals_at hj
theorem own_row {w : World} {B n : Nat} {e : TypeId} {xs : List Value} {g : Nat} (h : w.ownsRow B e 1 (.slice (some ⟨g, 0, none⟩) n n) n xs) : ∃ T, w.heap[g]? = some (.cells xs.toArray T) := by
  rcases h.2 with ⟨h1, _⟩ | ⟨g', cap, cur, h1, _, hh, _, _, hs, ht⟩
  · cases h1
  · cases h1
    refine ⟨e, ?_⟩
    rw [hh, ← ht, List.take_of_length_le (by rw [Array.length_toList]; omega)]
set_option maxRecDepth 100000 in
set_option maxHeartbeats 4000000 in
theorem rof_any (V : Nat) (ao : Option Addr) (m c : Nat) (T : Int) (R : List Nat) (vv : Value) (y n A : Nat) (w : World) (hv : IntsV w vv (nints R)) (hV : V ≤ 24) (hR : R.length ≤ 128) (hy : y < 16777216) (hn : n < 16777216) (hA : A < V + R.length) :
    Calls Tryz.prog 118 #[.agg #[.int .i64 V, .slice ao m c, .int .i64 T], vv, .agg #[.int .i64 (y : Nat), .int .i64 (n : Nat)], .int .i64 (A : Nat)] w (RetV w (.int .i64 (gd (valsE V y n ++ R) A : Nat))) := by
  obtain ⟨av, cv, rfl, hcv, hcv2, hcv3⟩ := hv.shape
  rw [nints_length] at hcv hv ⊢
  obtain ⟨W, hW⟩ : ∃ W, W = (w.alloc (.cells #[.int .i64 V, .slice ao m c, .int .i64 T] 24)).alloc (.cells #[.int .i64 (y : Nat), .int .i64 (n : Nat)] 46) := ⟨_, rfl⟩
  have hbW : Below w.heap.size w W := by rw [hW]; exact ((Below.refl _ _).alloc (Nat.le_refl _) _).alloc (by simp) _
  have hg1 : W.heap[w.heap.size]? = some (.cells #[.int .i64 V, .slice ao m c, .int .i64 T] 24) := by rw [hW]; exact heap_alloc2_old w _ _
  have hg2 : W.heap[w.heap.size + 1]? = some (.cells #[.int .i64 (y : Nat), .int .i64 (n : Nat)] 46) := by rw [hW]; exact heap_alloc2_new w _ _
  obtain ⟨g1, hG1⟩ : ∃ g, g = w.heap.size := ⟨_, rfl⟩
  obtain ⟨g2, hG2⟩ : ∃ g, g = w.heap.size + 1 := ⟨_, rfl⟩
  rw [← hG1] at hg1; rw [← hG2] at hg2
  obtain ⟨x0, x1, x2⟩ := row3 hg1
  obtain ⟨y0, y1⟩ := row2c hg2
  have HV := Lib.hid (hv.below hbW); have HBW := Lib.hid hbW; clear hv hbW hg1 hg2
  rw [hW, hG1] at x0 x1 x2
  rw [hW, hG2] at y0 y1
  obtain ⟨ys, y1', yt, hY⟩ := bit_parts (x := y) (i := A) (by omega)
  obtain ⟨ns, n1, nt, hN⟩ := bit_parts (x := n) (i := A) (by omega)
  obtain ⟨q1, q2, q3, q4⟩ := hY
  obtain ⟨r1, r2, r3, r4⟩ := hN
  by_cases h : A < V
  · have h' : (A : Int) < (V : Int) := by omega
    have hval : gd (valsE V y n ++ R) A = ev3 y n A := by
      rw [gd_append, valsE_length, if_pos h, valsE_gd, if_pos h]
    rw [hval]; unfold ev3; rw [q4, r4]
    cases yt
    · cases nt
      · go_enter Tryz.func118, Tryz.ntmps118
        go_wp2_with fail
        rw [← hW]
        go_ret
        exact ⟨rfl, HBW.out⟩
      · go_enter Tryz.func118, Tryz.ntmps118
        go_wp2_with fail
        rw [← hW]
        go_ret
        exact ⟨rfl, HBW.out⟩
    · go_enter Tryz.func118, Tryz.ntmps118
      go_wp2_with fail
      rw [← hW]
      go_ret
      exact ⟨rfl, HBW.out⟩
  · have h' : (V : Int) ≤ (A : Int) := by omega
    have hval : gd (valsE V y n ++ R) A = gd R (A - V) := by
      rw [gd_append, valsE_length, if_neg h]
    rw [hval]
    obtain ⟨b, off, rfl, hb, hlen, hat⟩ := HV.out.at (by omega)
    have ca := hat (A - V) _ (nints_at (by omega))
    have hs : (A : Int) - (V : Int) = ((A - V : Nat) : Int) := by omega
    rw [hW] at ca
    have hDl : ((A - V : Nat) : Int) < (R.length : Int) := by omega
    go_enter Tryz.func118, Tryz.ntmps118
    go_wp2_with fail
    rw [← hW]
    go_ret
    exact ⟨rfl, HBW.out⟩
end Go.Proofs.YthhgfhdmfhnklaaGreatDoor
/-
  Values of the reference of ternary values.
  Conditions: each theorem's own.
-/
namespace Go.Proofs.YthhgfhdmfhnklaaGreatDoor
open Go.RowKit Go.ChangeShapes Go.WideShapes

theorem putL_30 {w : World} {g : Nat} {x0 x1 x2 y : Value} {T : TypeId} (h : w.heap[g]? = some (.cells #[x0, x1, x2] T)) : (putL w g 0 [y]).heap[g]? = some (.cells #[y, x1, x2] T) := by
  simp [putL, World.setCell, Array.getElem?_modify, h]
theorem putL_31 {w : World} {g : Nat} {x0 x1 x2 y : Value} {T : TypeId} (h : w.heap[g]? = some (.cells #[x0, x1, x2] T)) : (putL w g 1 [y]).heap[g]? = some (.cells #[x0, y, x2] T) := by
  simp [putL, World.setCell, Array.getElem?_modify, h]
theorem putL_32 {w : World} {g : Nat} {x0 x1 x2 y : Value} {T : TypeId} (h : w.heap[g]? = some (.cells #[x0, x1, x2] T)) : (putL w g 2 [y]).heap[g]? = some (.cells #[x0, x1, y] T) := by
  simp [putL, World.setCell, Array.getElem?_modify, h]
theorem putL_row {w : World} {g j : Nat} {l : List Nat} {T : TypeId} (h : w.heap[g]? = some (.cells (ivals (nints l)).toArray T)) (x : Nat) : (putL w g j [.int .i64 (x : Int)]).heap[g]? = some (.cells (ivals (nints (l.set j x))).toArray T) := by
  simp [putL, World.setCell, Array.getElem?_modify, h, ivals, nints, List.map_set]
/-- the row of values, so far -/
def refRow (V y n : Nat) (ns : List Nd) (j : Nat) : List Nat := (valsN (valsE V y n) (ns.take j)).drop V ++ List.replicate (ns.length - j) 0
theorem refRow_length (V y n : Nat) (ns : List Nd) (j : Nat) (hj : j ≤ ns.length) : (refRow V y n ns j).length = ns.length := by
  unfold refRow; simp only [List.length_append, List.length_drop, valsN_length, valsE_length, List.length_take, List.length_replicate]; omega
theorem refRow_zero (V y n : Nat) (ns : List Nd) : refRow V y n ns 0 = List.replicate ns.length 0 := by
  unfold refRow; rw [List.take_zero]; simp [valsN, valsE_length]
theorem refRow_full (V y n : Nat) (ns : List Nd) : refRow V y n ns ns.length = (valsN (valsE V y n) ns).drop V := by
  unfold refRow; rw [List.take_length]; simp
theorem valsN_split (V y n : Nat) (l : List Nd) : valsE V y n ++ (valsN (valsE V y n) l).drop V = valsN (valsE V y n) l := by
  apply List.ext_getElem?
  intro i
  by_cases h : i < V
  · rw [List.getElem?_append_left (by rw [valsE_length]; exact h)]
    have h1 := valsN_pre l (valsE V y n) i (by rw [valsE_length]; exact h)
    have hl : i < (valsN (valsE V y n) l).length := by rw [valsN_length, valsE_length]; omega
    rw [gd_lt _ _ hl, gd_lt _ _ (by rw [valsE_length]; exact h)] at h1
    rw [List.getElem?_eq_getElem hl, List.getElem?_eq_getElem (by rw [valsE_length]; exact h), h1]
  · rw [List.getElem?_append_right (by rw [valsE_length]; omega), valsE_length, List.getElem?_drop]
    congr 1; omega
theorem refRow_gd {V y n : Nat} {ns : List Nd} {j A : Nat} (hj : j ≤ ns.length) (hA : A < V + j) : gd (valsE V y n ++ refRow V y n ns j) A = gd (valsN (valsE V y n) (ns.take j)) A := by
  unfold refRow
  rw [← List.append_assoc, valsN_split, gd_append, if_pos (by rw [valsN_length, valsE_length, List.length_take]; omega)]
theorem refRow_step {V y n : Nat} {ns : List Nd} {j nx : Nat} {vs : List Nat} (hj : j < ns.length) (h : valsN (valsE V y n) (ns.take (j + 1)) = vs ++ [nx]) (hvs : vs = valsN (valsE V y n) (ns.take j)) : refRow V y n ns (j + 1) = (refRow V y n ns j).set j nx := by
  have hl : (vs.drop V).length = j := by rw [hvs, List.length_drop, valsN_length, valsE_length, List.length_take]; omega
  have hl2 : V ≤ vs.length := by rw [hvs, valsN_length, valsE_length]; omega
  unfold refRow
  rw [h, ← hvs, List.set_append, if_neg (by omega), hl, Nat.sub_self, List.drop_append_of_le_length hl2, show ns.length - j = (ns.length - (j + 1)) + 1 by omega, List.replicate_succ, List.set_cons_zero]
  simp
theorem refRow_le {V y n : Nat} {ns : List Nd} {j : Nat} (h : ∀ k, gd (valsN (valsE V y n) (ns.take j)) k ≤ 2) (i : Nat) : gd (refRow V y n ns j) i ≤ 1000000 := by
  unfold refRow
  rw [gd_append]
  split
  · have := h (V + i)
    unfold gd at this ⊢
    rw [List.getD_eq_getElem?_getD, List.getElem?_drop, ← List.getD_eq_getElem?_getD]; omega
  · unfold gd; rw [List.getD_eq_getElem?_getD, List.getElem?_replicate]; split <;> simp

set_option maxRecDepth 100000 in
set_option maxHeartbeats 4000000 in
theorem rvalues_any (vf : Value) (f : Fm) (y n : Nat) (w : World) (hf : FmV w vf f) (h0 : fmErr f = 0) (hcu : CubeOK f.vars y n) :
    Calls Tryz.prog 119 #[vf, .agg #[.int .i64 (y : Nat), .int .i64 (n : Nat)]] w (RetInts w (nints ((valsF f y n).drop f.vars.toNat))) := by
  obtain ⟨vb, yb⟩ := hcu.small
  obtain ⟨p0, p1, p2, p3⟩ := fmErr_parts h0
  obtain ⟨nv, rfl, hn, hv, ht⟩ := hf
  obtain ⟨ao, c, rfl, hc, hc2, _⟩ := hn.shape
  obtain ⟨v, ns, top⟩ := f
  simp only at hv hc ht hn p0 p1 p2 p3 ⊢
  obtain ⟨V, rfl⟩ : ∃ V : Nat, v = V := ⟨v.toNat, by omega⟩
  have HN := Lib.hid hn; clear hn
  have HP := Lib.hid p3; clear p3 hcu h0 ht hv
  have p2' : (ns.length : Int) ≤ 128 := by omega
  obtain ⟨W, hW⟩ : ∃ W, W = (w.alloc (.cells #[.int .i64 V, .slice ao ns.length c, .int .i64 top] 24)).alloc (.cells #[.int .i64 (y : Nat), .int .i64 (n : Nat)] 46) := ⟨_, rfl⟩
  have hbW : Below w.heap.size w W := by rw [hW]; exact ((Below.refl _ _).alloc (Nat.le_refl _) _).alloc (by simp) _
  have hg1 : W.heap[w.heap.size]? = some (.cells #[.int .i64 V, .slice ao ns.length c, .int .i64 top] 24) := by rw [hW]; exact heap_alloc2_old w _ _
  have hg2 : W.heap[w.heap.size + 1]? = some (.cells #[.int .i64 (y : Nat), .int .i64 (n : Nat)] 46) := by rw [hW]; exact heap_alloc2_new w _ _
  obtain ⟨g1, hG1⟩ : ∃ g, g = w.heap.size := ⟨_, rfl⟩
  obtain ⟨g2, hG2⟩ : ∃ g, g = w.heap.size + 1 := ⟨_, rfl⟩
  rw [← hG1] at hg1; rw [← hG2] at hg2
  have G1 := Lib.hid hg1; have G2 := Lib.hid hg2; clear hg1 hg2
  have HBW := Lib.hid hbW; clear hbW
  obtain ⟨x0, x1, x2⟩ := row3 G1.out
  go_enter Tryz.func119, Tryz.ntmps119
  go_wp2_with (with_reducible refine wpList_pauseM ?_)
  rw [← hW, ← hG2, ← hG1]
  clear hW hG1 hG2
  refine wpList_makeF W.heap.size Tryz.intTy rfl ns.length rfl rfl (by omega) (by omega) (by omega) (by decide) (Nat.le_refl _) ?_
  intro w1 ho1 hgr1
  have hb1 : Below W.heap.size W w1 := (Below.refl _ _).grown hgr1 (Nat.le_refl _) (fun k hk => by cases hk)
  obtain ⟨g5, hG5⟩ : ∃ g, g = W.heap.size := ⟨_, rfl⟩
  rw [← hG5] at ho1 ⊢
  obtain ⟨T5, hg5⟩ := own_row ho1
  have l5 : W.heap.size ≤ g5 := by omega
  clear hgr1 x0 x1 x2 ho1
  have HG5 := Lib.hid (show w1.heap[g5]? = some (.cells (ivals (nints (refRow V y n ns 0))).toArray T5) by rw [hg5, refRow_zero]; simp [ivals, nints])
  have HB1 := Lib.hid hb1; clear hb1 hg5 hG5
  obtain ⟨x0, x1, x2⟩ := row3 (heap_below G1.out HB1.out)
  go_wp2_with fail
  clear x0 x1 x2
  go_loopw [19] (fun i' wx => ∃ j : Nat, j ≤ ns.length ∧ i' = .int .i64 j ∧ Hid (Below W.heap.size W wx) ∧ Hid (wx.heap[g5]? = some (.cells (ivals (nints (refRow V y n ns j))).toArray T5))) (fun i' _ => ns.length - (intOf i').toNat)
  case atStart => exact ⟨0, Nat.zero_le _, rfl, HB1, HG5⟩
  case round =>
    obtain ⟨j, hj, rfl, HBX, G5⟩ := hrel
    obtain ⟨wo, rfl⟩ : ∃ wo : World, wo = wr := ⟨_, rfl⟩
    have HBV := Lib.hid (HBW.out.trans (HBX.out.mono HBW.out.size))
    by_cases hlt : j < ns.length
    · have hj' := hlt
      obtain ⟨x, hx⟩ : ∃ x, ns[j]? = some x := ⟨ns[j], List.getElem?_eq_getElem hlt⟩
      obtain ⟨b, off, rfl, hb, _, hat⟩ := (HN.out.below HBV.out).at (by omega)
      obtain ⟨c0, c1, ⟨av, c2, hI⟩, hk, hK⟩ := hat j x hx
      clear hat
      have he := ndsErr_at ns 0 HP.out j x hx
      rw [Nat.zero_add] at he
      have hle := fun k => valsN_le (ns.take j) 0 (valsE V y n) (ndsOK_take ns 0 j HP.out) (fun k => by rw [valsE_gd]; split <;> first | exact ev3_le _ _ _ | omega) k
      have hlen : (valsN (valsE V y n) (ns.take j)).length = V + j := by rw [valsN_length, valsE_length, List.length_take]; omega
      have hnext := valsN_take hx (valsE V y n)
      have RGD := Lib.hid (fun A (h : A < V + j) => refRow_gd (V := V) (y := y) (n := n) (ns := ns) hj h)
      have RLE := Lib.hid (refRow_le (V := V) (y := y) (n := n) (ns := ns) (j := j) hle)
      obtain ⟨vs, hvs⟩ : ∃ vs, vs = valsN (valsE V y n) (ns.take j) := ⟨_, rfl⟩
      rw [← hvs] at hle hlen hnext RGD
      have HNX := Lib.hid hnext; have HLE := Lib.hid hle; have HLN := Lib.hid hlen; clear hnext hle hlen
      have hvs := Lib.hid hvs
      have HX := Lib.hid hx; clear hx
      have ha16 := nd_16 he
      have HARG := Lib.hid (ndErr_arg he)
      have HE := Lib.hid he; clear he
      obtain ⟨kind, K, args⟩ := x
      simp only at c0 c1 c2 hI hk hK ha16 HARG
      obtain ⟨ao', c', rfl, hc', hc2', _⟩ := hI.shape
      have HI := Lib.hid hI; clear hI
      have HK := Lib.hid (And.intro hk hK); clear hk hK
      have hltz : (j : Int) < (ns.length : Int) := by omega
      obtain ⟨x0, x1, x2⟩ := row3 (heap_below G1.out HBX.out)
      go_wp2_with (with_reducible first | refine pauseLoop ?_ | refine pauseRounds ?_)
      clear x0 x1 x2 c0 c1 c2
      refine Pause.mk ?_
      obtain ⟨W3, hW3⟩ : ∃ W3, W3 = (wo.alloc (.cells #[.int .i64 kind, .int .i64 K, .slice ao' args.length c'] 82)).alloc (.cells #[.int .i64 0, .int .i64 0, .int .i64 0] 200) := ⟨_, rfl⟩
      have hb3 : Below wo.heap.size wo W3 := by rw [hW3]; exact ((Below.refl _ _).alloc (Nat.le_refl _) _).alloc (by simp) _
      have hg7 : W3.heap[wo.heap.size]? = some (.cells #[.int .i64 kind, .int .i64 K, .slice ao' args.length c'] 82) := by rw [hW3]; exact heap_alloc2_old wo _ _
      have hg8 : W3.heap[wo.heap.size + 1]? = some (.cells #[.int .i64 ((0 : Nat) : Int), .int .i64 ((0 : Nat) : Int), .int .i64 ((0 : Nat) : Int)] 200) := by rw [hW3]; exact heap_alloc2_new wo _ _
      rw [← hW3]; clear hW3
      obtain ⟨g8, hG8⟩ : ∃ g, g = wo.heap.size + 1 := ⟨_, rfl⟩
      obtain ⟨g7, hG7⟩ : ∃ g, g = wo.heap.size := ⟨_, rfl⟩
      rw [← hG8] at hg8 ⊢; rw [← hG7] at hg7 ⊢
      have l8 : wo.heap.size ≤ g8 := by omega
      have n78 : g7 ≠ g8 := by omega
      clear hG7 hG8
      have HB3 := Lib.hid hb3; have HG7 := Lib.hid hg7; have HG8 := Lib.hid hg8; clear hb3 hg7 hg8
      go_loopw [28] (fun i' wx => ∃ k n0 n1 n2 : Nat, k ≤ args.length ∧ i' = .int .i64 k ∧ n0 ≤ k ∧ n1 ≤ k ∧ n2 ≤ k ∧ n0 + n1 + n2 = k ∧ Hid (Below wo.heap.size wo wx) ∧ Hid (wx.heap[g7]? = some (.cells #[.int .i64 kind, .int .i64 K, .slice ao' args.length c'] 82)) ∧ Hid (wx.heap[g8]? = some (.cells #[.int .i64 ((n0 : Nat) : Int), .int .i64 ((n1 : Nat) : Int), .int .i64 ((n2 : Nat) : Int)] 200)) ∧ Hid (n0 = cntV vs (args.take k) 0 ∧ n1 = cntV vs (args.take k) 1 ∧ n2 = cntV vs (args.take k) 2)) (fun i' _ => args.length - (intOf i').toNat)
      case atStart => exact ⟨0, 0, 0, 0, Nat.zero_le _, rfl, Nat.le_refl _, Nat.le_refl _, Nat.le_refl _, rfl, HB3, HG7, HG8, Lib.hid ⟨rfl, rfl, rfl⟩⟩
      case round =>
        obtain ⟨k, n0, n1, n2, hk, rfl, q0, q1, q2, qs, HBO, G7, G8, CN⟩ := hrel
        obtain ⟨wi, rfl⟩ : ∃ wi : World, wi = wr := ⟨_, rfl⟩
        have HBY := Lib.hid (HBX.out.trans (HBO.out.mono HBX.out.size))
        have HBE := Lib.hid (HBW.out.trans (HBY.out.mono HBW.out.size))
        have G5 := Lib.hid (heap_below G5.out HBO.out)
        by_cases hlk : k < args.length
        · obtain ⟨ba, offa, rfl, hba, _, hata⟩ := (HI.out.below HBO.out).at (by omega)
          obtain ⟨a, hqa⟩ : ∃ a, args[k]? = some a := ⟨args[k], List.getElem?_eq_getElem hlk⟩
          have ca := hata k a hqa
          clear hata
          have hla := HARG.out a (List.mem_of_getElem? hqa)
          obtain ⟨A, rfl⟩ : ∃ A : Nat, a = A := ⟨a.toNat, by omega⟩
          have hAl : A < V + j := by omega
          have hx2 := HLE.out A
          have hlk' : (k : Int) < (args.length : Int) := by omega
          have S := fun z => cntV_snoc vs (args.take k) (A : Int) z
          rw [← take_snoc hqa] at S
          rw [Int.toNat_natCast] at S
          have hIV := row_intsV G5.out RLE.out (by rw [refRow_length _ _ _ _ _ hj]; omega)
          rw [refRow_length _ _ _ _ _ hj] at hIV
          have HC := Lib.hid (rof_any V (some ⟨b, off, none⟩) ns.length c top (refRow V y n ns j) _ y n A wi hIV (by omega) (by rw [refRow_length _ _ _ _ _ hj]; omega) vb yb (by rw [refRow_length _ _ _ _ _ hj]; omega))
          rw [RGD.out A hAl] at HC
          clear hIV
          obtain ⟨xv, hxv⟩ : ∃ xv, xv = gd vs A := ⟨_, rfl⟩
          rw [← hxv] at HC hx2 S
          have SS := Lib.hid S; clear S hqa hxv
          obtain ⟨x0, x1, x2⟩ := row3 (heap_below G1.out HBY.out)
          obtain ⟨y0, y1⟩ := row2c (heap_below G2.out HBY.out)
          go_wp2_with (with_reducible refine pauseCall ?_)
          clear x0 x1 x2 y0 y1 ca
          refine Pause.mk ?_
          (with_reducible refine HC.out.mono ?_); rintro e w2 ⟨rfl, hb2⟩
          have HBO := Lib.hid (HBO.out.trans (hb2.mono HBO.out.size))
          have G7 := Lib.hid (heap_below G7.out hb2); have G8 := Lib.hid (heap_below G8.out hb2)
          clear hb2 HC
          obtain ⟨z0, z1, z2⟩ := row3 G8.out
          have h3 : xv = 0 ∨ xv = 1 ∨ xv = 2 := by omega
          rcases h3 with rfl | rfl | rfl
          · go_wp2_with (with_reducible refine wpList_pauseS ?_)
            refine wpList_st1 g8 0 ((n0 : Int) + 1) G8.out rfl rfl (by simp) (by kernel_rfl) ?_
            intro w3 hp3
            have HB3 := Lib.hid (putLb hp3 HBO.out l8)
            have G73 := Lib.hid (putLx hp3 G7.out n78)
            have G83 := Lib.hid (show w3.heap[g8]? = some (.cells #[.int .i64 ((n0 + 1 : Nat) : Int), .int .i64 ((n1 : Nat) : Int), .int .i64 ((n2 : Nat) : Int)] 200) by rw [hp3]; exact putL_30 G8.out)
            clear hp3
            go_wp2_with fail
            go_roundw
            case rel => exact ⟨k + 1, n0 + 1, n1, n2, by omega, by go_num, by omega, by omega, by omega, by omega, HB3, G73, G83, Lib.hid ⟨by rw [SS.out, CN.out.1]; rfl, by rw [SS.out, CN.out.2.1]; rfl, by rw [SS.out, CN.out.2.2]; rfl⟩⟩
            case measure => simp [intOf]; omega
          · go_wp2_with (with_reducible refine wpList_pauseS ?_)
            refine wpList_st1 g8 1 ((n1 : Int) + 1) G8.out rfl rfl (by simp) (by kernel_rfl) ?_
            intro w3 hp3
            have HB3 := Lib.hid (putLb hp3 HBO.out l8)
            have G73 := Lib.hid (putLx hp3 G7.out n78)
            have G83 := Lib.hid (show w3.heap[g8]? = some (.cells #[.int .i64 ((n0 : Nat) : Int), .int .i64 ((n1 + 1 : Nat) : Int), .int .i64 ((n2 : Nat) : Int)] 200) by rw [hp3]; exact putL_31 G8.out)
            clear hp3
            go_wp2_with fail
            go_roundw
            case rel => exact ⟨k + 1, n0, n1 + 1, n2, by omega, by go_num, by omega, by omega, by omega, by omega, HB3, G73, G83, Lib.hid ⟨by rw [SS.out, CN.out.1]; rfl, by rw [SS.out, CN.out.2.1]; rfl, by rw [SS.out, CN.out.2.2]; rfl⟩⟩
            case measure => simp [intOf]; omega
          · go_wp2_with (with_reducible refine wpList_pauseS ?_)
            refine wpList_st1 g8 2 ((n2 : Int) + 1) G8.out rfl rfl (by simp) (by kernel_rfl) ?_
            intro w3 hp3
            have HB3 := Lib.hid (putLb hp3 HBO.out l8)
            have G73 := Lib.hid (putLx hp3 G7.out n78)
            have G83 := Lib.hid (show w3.heap[g8]? = some (.cells #[.int .i64 ((n0 : Nat) : Int), .int .i64 ((n1 : Nat) : Int), .int .i64 ((n2 + 1 : Nat) : Int)] 200) by rw [hp3]; exact putL_32 G8.out)
            clear hp3
            go_wp2_with fail
            go_roundw
            case rel => exact ⟨k + 1, n0, n1, n2 + 1, by omega, by go_num, by omega, by omega, by omega, by omega, HB3, G73, G83, Lib.hid ⟨by rw [SS.out, CN.out.1]; rfl, by rw [SS.out, CN.out.2.1]; rfl, by rw [SS.out, CN.out.2.2]; rfl⟩⟩
            case measure => simp [intOf]; omega
        · have hk' : k = args.length := by omega
          subst hk'
          have CN := Lib.hid CN.out
          rw [List.take_length] at CN
          obtain ⟨x0, x1, x2⟩ := row3 G7.out
          obtain ⟨z0, z1, z2⟩ := row3 G8.out
          have h7 : ¬ (kind < 0 ∨ 5 < kind) := fun h => by have h0 := HE.out; unfold ndErr at h0; rw [if_pos h] at h0; cases h0
          have hK0 := ndErr_K HE.out
          have HKK := HK.out
          unfold I64 at HKK
          simp only at h7 hK0
          obtain ⟨nx, hnx⟩ : ∃ nx, nx = ndVal ⟨kind, K, args⟩ n0 n1 n2 := ⟨_, rfl⟩
          have HNX2 := Lib.hid (show valsN (valsE V y n) (ns.take (j + 1)) = vs ++ [nx] by rw [HNX.out, hnx, CN.out.1, CN.out.2.1, CN.out.2.2])
          have HX2 := Lib.hid hnx; clear hnx
          clear CN
          have hkk : kind = 0 ∨ kind = 1 ∨ kind = 2 ∨ kind = 3 ∨ kind = 4 ∨ kind = 5 := by omega
          rcases hkk with rfl | rfl | rfl | rfl | rfl | rfl
          · skip
            have hKz := Lib.hid (hK0 rfl); clear hK0 h7
            go_wp2_with (with_reducible refine pauseCall ?_)
            refine Pause.mk ?_
            (with_reducible refine (truth_any _ _ _).mono ?_); rintro e w1 ⟨rfl, rfl⟩
            go_wp2_with (with_reducible refine wpList_pauseS ?_)
            refine wpList_st1 g5 j (nx : Nat) G5.out (by rfl) ?hy (by rw [List.size_toArray, ivals_length, nints_length, refRow_length _ _ _ _ _ hj]; omega) (by kernel_rfl) ?_
            case hy =>
              refine congrArg (fun n : Nat => Value.int .i64 (n : Int)) ?_
              rw [HX2.out]
              rcases hKz.out with rfl | rfl <;> rfl
            intro w5 hp5
            have HB5 := Lib.hid (putLb hp5 HBY.out l5)
            have G55 := Lib.hid (show w5.heap[g5]? = some (.cells (ivals (nints (refRow V y n ns (j + 1)))).toArray T5) by rw [hp5, refRow_step hj' HNX2.out hvs.out]; exact putL_row G5.out _)
            clear hp5
            go_wp2_with fail
            go_roundw
            case rel => exact ⟨j + 1, by omega, by go_num, HB5, G55⟩
            case measure => simp [intOf]; omega
          · skip
            clear hK0 h7
            go_wp2_with (with_reducible refine pauseCall ?_)
            refine Pause.mk ?_
            (with_reducible refine (truth_any _ _ _).mono ?_); rintro e w1 ⟨rfl, rfl⟩
            go_wp2_with (with_reducible refine wpList_pauseS ?_)
            refine wpList_st1 g5 j (nx : Nat) G5.out (by rfl) ?hy (by rw [List.size_toArray, ivals_length, nints_length, refRow_length _ _ _ _ _ hj]; omega) (by kernel_rfl) ?_
            case hy =>
              refine congrArg (fun n : Nat => Value.int .i64 (n : Int)) ?_
              rw [HX2.out]
              refine (lev_congr ?_ ?_)
              · first | (rw [Bool.eq_iff_iff]; simp; done) | (rw [Bool.eq_iff_iff]; simp; omega) | rw [Bool.eq_iff_iff]
              · first | (rw [Bool.eq_iff_iff]; simp; done) | (rw [Bool.eq_iff_iff]; simp; omega) | rw [Bool.eq_iff_iff]
            intro w5 hp5
            have HB5 := Lib.hid (putLb hp5 HBY.out l5)
            have G55 := Lib.hid (show w5.heap[g5]? = some (.cells (ivals (nints (refRow V y n ns (j + 1)))).toArray T5) by rw [hp5, refRow_step hj' HNX2.out hvs.out]; exact putL_row G5.out _)
            clear hp5
            go_wp2_with fail
            go_roundw
            case rel => exact ⟨j + 1, by omega, by go_num, HB5, G55⟩
            case measure => simp [intOf]; omega
          · skip
            clear hK0 h7
            go_wp2_with (with_reducible refine pauseCall ?_)
            refine Pause.mk ?_
            (with_reducible refine (truth_any _ _ _).mono ?_); rintro e w1 ⟨rfl, rfl⟩
            go_wp2_with (with_reducible refine wpList_pauseS ?_)
            refine wpList_st1 g5 j (nx : Nat) G5.out (by rfl) ?hy (by rw [List.size_toArray, ivals_length, nints_length, refRow_length _ _ _ _ _ hj]; omega) (by kernel_rfl) ?_
            case hy =>
              refine congrArg (fun n : Nat => Value.int .i64 (n : Int)) ?_
              rw [HX2.out]
              refine (lev_congr ?_ ?_)
              · first | (rw [Bool.eq_iff_iff]; simp; done) | (rw [Bool.eq_iff_iff]; simp; omega) | rw [Bool.eq_iff_iff]
              · first | (rw [Bool.eq_iff_iff]; simp; done) | (rw [Bool.eq_iff_iff]; simp; omega) | rw [Bool.eq_iff_iff]
            intro w5 hp5
            have HB5 := Lib.hid (putLb hp5 HBY.out l5)
            have G55 := Lib.hid (show w5.heap[g5]? = some (.cells (ivals (nints (refRow V y n ns (j + 1)))).toArray T5) by rw [hp5, refRow_step hj' HNX2.out hvs.out]; exact putL_row G5.out _)
            clear hp5
            go_wp2_with fail
            go_roundw
            case rel => exact ⟨j + 1, by omega, by go_num, HB5, G55⟩
            case measure => simp [intOf]; omega
          · skip
            clear hK0 h7
            go_wp2_with (with_reducible refine pauseCall ?_)
            refine Pause.mk ?_
            (with_reducible refine (truth_any _ _ _).mono ?_); rintro e w1 ⟨rfl, rfl⟩
            go_wp2_with (with_reducible refine wpList_pauseS ?_)
            refine wpList_st1 g5 j (nx : Nat) G5.out (by rfl) ?hy (by rw [List.size_toArray, ivals_length, nints_length, refRow_length _ _ _ _ _ hj]; omega) (by kernel_rfl) ?_
            case hy =>
              refine congrArg (fun n : Nat => Value.int .i64 (n : Int)) ?_
              rw [HX2.out]
              refine (lev_congr ?_ ?_)
              · first | (rw [Bool.eq_iff_iff]; simp; done) | (rw [Bool.eq_iff_iff]; simp; omega) | rw [Bool.eq_iff_iff]
              · first | (rw [Bool.eq_iff_iff]; simp; done) | (rw [Bool.eq_iff_iff]; simp; omega) | rw [Bool.eq_iff_iff]
            intro w5 hp5
            have HB5 := Lib.hid (putLb hp5 HBY.out l5)
            have G55 := Lib.hid (show w5.heap[g5]? = some (.cells (ivals (nints (refRow V y n ns (j + 1)))).toArray T5) by rw [hp5, refRow_step hj' HNX2.out hvs.out]; exact putL_row G5.out _)
            clear hp5
            go_wp2_with fail
            go_roundw
            case rel => exact ⟨j + 1, by omega, by go_num, HB5, G55⟩
            case measure => simp [intOf]; omega
          · skip
            clear hK0 h7
            go_wp2_with (with_reducible refine pauseCall ?_)
            refine Pause.mk ?_
            (with_reducible refine (truth_any _ _ _).mono ?_); rintro e w1 ⟨rfl, rfl⟩
            go_wp2_with (with_reducible refine wpList_pauseS ?_)
            refine wpList_st1 g5 j (nx : Nat) G5.out (by rfl) ?hy (by rw [List.size_toArray, ivals_length, nints_length, refRow_length _ _ _ _ _ hj]; omega) (by kernel_rfl) ?_
            case hy =>
              refine congrArg (fun n : Nat => Value.int .i64 (n : Int)) ?_
              rw [HX2.out]
              refine (lev_congr ?_ ?_)
              · first | (rw [Bool.eq_iff_iff]; simp; done) | (rw [Bool.eq_iff_iff]; simp; omega) | rw [Bool.eq_iff_iff]
              · first | (rw [Bool.eq_iff_iff]; simp; done) | (rw [Bool.eq_iff_iff]; simp; omega) | rw [Bool.eq_iff_iff]
            intro w5 hp5
            have HB5 := Lib.hid (putLb hp5 HBY.out l5)
            have G55 := Lib.hid (show w5.heap[g5]? = some (.cells (ivals (nints (refRow V y n ns (j + 1)))).toArray T5) by rw [hp5, refRow_step hj' HNX2.out hvs.out]; exact putL_row G5.out _)
            clear hp5
            go_wp2_with fail
            go_roundw
            case rel => exact ⟨j + 1, by omega, by go_num, HB5, G55⟩
            case measure => simp [intOf]; omega
          · clear hK0 h7
            have m0 : decide ((((n1 : Nat) : Int).tmod 2) = 1) = decide (n1 % 2 = 1) := by rw [Int.tmod_eq_emod_of_nonneg (by omega), Bool.eq_iff_iff]; simp; omega
            by_cases e2 : n2 = 0
            · subst e2
              go_wp2_with (with_reducible refine pauseCall ?_)
              refine Pause.mk ?_
              (with_reducible refine (truth_any _ _ _).mono ?_); rintro e w1 ⟨rfl, rfl⟩
              go_wp2_with (with_reducible refine wpList_pauseS ?_)
              refine wpList_st1 g5 j (nx : Nat) G5.out (by rfl) ?hy (by rw [List.size_toArray, ivals_length, nints_length, refRow_length _ _ _ _ _ hj]; omega) (by kernel_rfl) ?_
              case hy =>
                refine congrArg (fun n : Nat => Value.int .i64 (n : Int)) ?_
                rw [HX2.out]
                rw [ndVal_5 rfl]
                unfold lev
                rcases Nat.mod_two_eq_zero_or_one n1 with h | h <;> first | (simp [m0, h]; done) | (simp [h]; done) | (simp [m0, h]; omega)
              intro w5 hp5
              have HB5 := Lib.hid (putLb hp5 HBY.out l5)
              have G55 := Lib.hid (show w5.heap[g5]? = some (.cells (ivals (nints (refRow V y n ns (j + 1)))).toArray T5) by rw [hp5, refRow_step hj' HNX2.out hvs.out]; exact putL_row G5.out _)
              clear hp5
              go_wp2_with fail
              go_roundw
              case rel => exact ⟨j + 1, by omega, by go_num, HB5, G55⟩
              case measure => simp [intOf]; omega
            · have e2' : ¬ ((n2 : Nat) : Int) = 0 := by omega
              go_wp2_with (with_reducible refine pauseCall ?_)
              refine Pause.mk ?_
              (with_reducible refine (truth_any _ _ _).mono ?_); rintro e w1 ⟨rfl, rfl⟩
              go_wp2_with (with_reducible refine wpList_pauseS ?_)
              refine wpList_st1 g5 j (nx : Nat) G5.out (by rfl) ?hy (by rw [List.size_toArray, ivals_length, nints_length, refRow_length _ _ _ _ _ hj]; omega) (by kernel_rfl) ?_
              case hy =>
                refine congrArg (fun n : Nat => Value.int .i64 (n : Int)) ?_
                rw [HX2.out]
                rw [ndVal_5 rfl]
                refine (lev_congr ?_ ?_)
                · first | (rw [Bool.eq_iff_iff]; simp; done) | (rw [Bool.eq_iff_iff]; simp; omega) | rw [Bool.eq_iff_iff]
                · first | (rw [Bool.eq_iff_iff]; simp; done) | (rw [Bool.eq_iff_iff]; simp; omega) | rw [Bool.eq_iff_iff]
              intro w5 hp5
              have HB5 := Lib.hid (putLb hp5 HBY.out l5)
              have G55 := Lib.hid (show w5.heap[g5]? = some (.cells (ivals (nints (refRow V y n ns (j + 1)))).toArray T5) by rw [hp5, refRow_step hj' HNX2.out hvs.out]; exact putL_row G5.out _)
              clear hp5
              go_wp2_with fail
              go_roundw
              case rel => exact ⟨j + 1, by omega, by go_num, HB5, G55⟩
              case measure => simp [intOf]; omega
    · have hj' : j = ns.length := by omega
      subst hj'
      have hle := fun k => valsN_le (ns.take ns.length) 0 (valsE V y n) (ndsOK_take ns 0 ns.length HP.out) (fun k => by rw [valsE_gd]; split <;> first | exact ev3_le _ _ _ | omega) k
      have hIV := row_intsV G5.out (refRow_le (V := V) (y := y) (n := n) (ns := ns) hle) (by rw [refRow_length _ _ _ _ _ hj]; omega)
      rw [refRow_length _ _ _ _ _ hj, refRow_full] at hIV
      have HIV := Lib.hid hIV; clear hIV hle
      go_wp2_with fail
      go_ret
      exact ⟨_, rfl, HBV.out, HIV.out⟩
end Go.Proofs.YthhgfhdmfhnklaaGreatDoor
/-
  Value of the reference of ternary values.
  Conditions: each theorem's own.
-/
namespace Go.Proofs.YthhgfhdmfhnklaaGreatDoor
open Go.RowKit Go.ChangeShapes Go.WideShapes

set_option maxRecDepth 100000 in
set_option maxHeartbeats 4000000 in
theorem rvalue_any (vf : Value) (f : Fm) (y n : Nat) (w : World) (hf : FmV w vf f) (h0 : fmErr f = 0) (hcu : CubeOK f.vars y n) :
    Calls Tryz.prog 79 #[vf, .agg #[.int .i64 (y : Nat), .int .i64 (n : Nat)]] w (RetV w (.int .i64 (fmVal f y n : Nat))) := by
  obtain ⟨vb, yb⟩ := hcu.small
  obtain ⟨p0, p1, p2, p3⟩ := fmErr_parts h0
  have htop := fmErr_top h0
  obtain ⟨nv, rfl, hn, hv, ht⟩ := hf
  obtain ⟨ao, c, rfl, hc, hc2, _⟩ := hn.shape
  have hF := (show FmV w _ f from ⟨_, rfl, hn, hv, ht⟩)
  obtain ⟨v, ns, top⟩ := f
  simp only at hv hc ht hn p0 p1 p2 p3 htop ⊢
  obtain ⟨V, rfl⟩ : ∃ V : Nat, v = V := ⟨v.toNat, by omega⟩
  obtain ⟨T, rfl⟩ : ∃ T : Nat, top = T := ⟨top.toNat, by omega⟩
  have HF := Lib.hid hF; have HC := Lib.hid hcu; have E0 := Lib.hid h0
  have hT : T < V + ns.length := by omega
  obtain ⟨R, hR⟩ : ∃ R, R = (valsF ⟨V, ns, T⟩ y n).drop (V : Int).toNat := ⟨_, rfl⟩
  obtain ⟨fv, hfv⟩ : ∃ fv, fv = fmVal ⟨V, ns, T⟩ y n := ⟨_, rfl⟩
  have HV := Lib.hid (show gd (valsE V y n ++ R) T = fv by
    rw [hfv, hR]; unfold fmVal valsF; simp only [Int.toNat_natCast]; rw [valsN_split])
  have HL := Lib.hid (show R.length = ns.length by rw [hR, List.length_drop, valsF_length]; simp only [Int.toNat_natCast]; omega)
  have HR := Lib.hid hR
  rw [← hfv]
  clear hF hcu h0 p3 hv ht htop hn p0 hfv hR
  obtain ⟨W, hW⟩ : ∃ W, W = (w.alloc (.cells #[.int .i64 V, .slice ao ns.length c, .int .i64 T] 24)).alloc (.cells #[.int .i64 (y : Nat), .int .i64 (n : Nat)] 46) := ⟨_, rfl⟩
  have hbW : Below w.heap.size w W := by rw [hW]; exact ((Below.refl _ _).alloc (Nat.le_refl _) _).alloc (by simp) _
  have hg1 : W.heap[w.heap.size]? = some (.cells #[.int .i64 V, .slice ao ns.length c, .int .i64 T] 24) := by rw [hW]; exact heap_alloc2_old w _ _
  have hg2 : W.heap[w.heap.size + 1]? = some (.cells #[.int .i64 (y : Nat), .int .i64 (n : Nat)] 46) := by rw [hW]; exact heap_alloc2_new w _ _
  obtain ⟨g1, hG1⟩ : ∃ g, g = w.heap.size := ⟨_, rfl⟩
  obtain ⟨g2, hG2⟩ : ∃ g, g = w.heap.size + 1 := ⟨_, rfl⟩
  rw [← hG1] at hg1; rw [← hG2] at hg2
  have HBW := Lib.hid hbW; have G1 := Lib.hid hg1; have G2 := Lib.hid hg2; clear hbW hg1 hg2
  go_enter Tryz.func79, Tryz.ntmps79
  go_wp2_with (with_reducible first | refine pauseCall ?_ | refine pauseLoop ?_ | refine pauseDraw ?_ | refine pauseBody ?_ | refine pauseRounds ?_)
  rw [← hW]; clear hW
  rw [← hG2, ← hG1]; clear hG1 hG2
  refine Pause.mk ?_
  refine wp_region_facts (A := ?aaR9) (w := W) 8 [] (by kernel_rfl) (Fl [KEq (.agg #[.int .i64 V, .slice ao ns.length c, .int .i64 T]), KEq (.agg #[.int .i64 V, .slice ao ns.length c, .int .i64 T]), KEq (.agg #[.int .i64 (y : Nat), .int .i64 (n : Nat)]), KIV (nints R), KEq (.agg #[.int .i64 (y : Nat), .int .i64 (n : Nat)]), KEq (.pointer (some ⟨g1, 2, none⟩)), KEq (.int .i64 (T : Nat)), KEq (.int .i64 (fv : Nat))]) (fun i => false) (by kernel_rfl) ?hqR9 (monoL (monoC (kEq _) (monoC (kEq _) (monoC (kEq _) (monoC (kIV _) (monoC (kEq _) (monoC (kEq _) (monoC (kEq _) (monoC (kEq _) monoN))))))))) ?haR9 ?stR9 ?tlR9
  case hqR9 =>
    intro c a d v w h
    first | (simp only [Exit.then] at h ⊢; exact h) | (simp only [Exit.inBlock, Exit.then] at h ⊢; exact h) | exact h
  case haR9 =>
    intro vals
    simp only [putsTo, dstOf, if_true, Act.put, List.setIfInBounds_toArray, List.set_cons_zero, List.set_cons_succ, List.getElem?_toArray, List.getElem?_cons_zero, List.getElem?_cons_succ, Option.bind_some]
    exact rfl
  case stR9 =>
    simp only [List.take_succ_cons, List.take_zero]
    refine stepsOK_cons rfl rfl ?_ (stepsOK_cons rfl rfl ?_ (stepsOK_cons rfl rfl ?_ (stepsOK_cons rfl rfl ?_ (stepsOK_cons rfl rfl ?_ (stepsOK_cons rfl rfl ?_ (stepsOK_cons rfl rfl ?_ (stepsOK_cons rfl rfl ?_ (stepsOK_nil))))))))
    · intro vals w1 hb hd
      obtain ⟨e0, e1, e2⟩ := row3 (heap_below G1.out hb)
      refine stepOK_value (v := .agg #[.int .i64 V, .slice ao ns.length c, .int .i64 T]) (w' := w1) (by go_simp) (leaves_mk (Below.refl _ _) rfl (fun h => by cases h))
    · intro vals w1 hb hd
      obtain ⟨e0, e1, e2⟩ := row3 (heap_below G1.out hb)
      refine stepOK_value (v := .agg #[.int .i64 V, .slice ao ns.length c, .int .i64 T]) (w' := w1) (by go_simp) (leaves_mk (Below.refl _ _) rfl (fun h => by cases h))
    · intro vals w1 hb hd
      obtain ⟨e0, e1⟩ := row2c (heap_below G2.out hb)
      refine stepOK_value (v := .agg #[.int .i64 (y : Nat), .int .i64 (n : Nat)]) (w' := w1) (by go_simp) (leaves_mk (Below.refl _ _) rfl (fun h => by cases h))
    · intro vals w1 hb hd
      have d1 : KEq (.agg #[.int .i64 V, .slice ao ns.length c, .int .i64 T]) (vals 1) w1 := hd 1 (by kernel_rfl)
      have d2 : KEq (.agg #[.int .i64 (y : Nat), .int .i64 (n : Nat)]) (vals 2) w1 := hd 2 (by kernel_rfl)
      have HS := Lib.hid (rvalues_any _ ⟨V, ns, T⟩ y n w1 (HF.out.below (HBW.out.step hb)) E0.out HC.out)
      have z1 : vals 1 = _ := d1
      rw [z1]; clear z1
      have z2 : vals 2 = _ := d2
      rw [z2]; clear z2
      refine stepOK_call (by go_simp; first | done | exact ⟨⟨rfl, rfl⟩, rfl⟩) ?_
      (with_reducible refine HS.out.mono ?_); rintro e w2 ⟨v, rfl, hb2, hn⟩
      exact ⟨_, rfl, leaves_mk hb2 (by rw [HR.out]; exact hn) (fun h => by cases h)⟩
    · intro vals w1 hb hd
      obtain ⟨e0, e1⟩ := row2c (heap_below G2.out hb)
      refine stepOK_value (v := .agg #[.int .i64 (y : Nat), .int .i64 (n : Nat)]) (w' := w1) (by go_simp) (leaves_mk (Below.refl _ _) rfl (fun h => by cases h))
    · intro vals w1 hb hd
      refine stepOK_value (v := .pointer (some ⟨g1, 2, none⟩)) (w' := w1) (by go_simp) (leaves_mk (Below.refl _ _) rfl (fun h => by cases h))
    · intro vals w1 hb hd
      have d5 : KEq (.pointer (some ⟨g1, 2, none⟩)) (vals 5) w1 := hd 5 (by kernel_rfl)
      obtain ⟨e0, e1, e2⟩ := row3 (heap_below G1.out hb)
      rw [show vals 5 = _ from d5]
      refine stepOK_value (v := .int .i64 (T : Nat)) (w' := w1) (by go_simp) (leaves_mk (Below.refl _ _) rfl (fun h => by cases h))
    · intro vals w1 hb hd
      have d0 : KEq (.agg #[.int .i64 V, .slice ao ns.length c, .int .i64 T]) (vals 0) w1 := hd 0 (by kernel_rfl)
      have d3 : KIV (nints R) (vals 3) w1 := hd 3 (by kernel_rfl)
      have d4 : KEq (.agg #[.int .i64 (y : Nat), .int .i64 (n : Nat)]) (vals 4) w1 := hd 4 (by kernel_rfl)
      have d6 : KEq (.int .i64 (T : Nat)) (vals 6) w1 := hd 6 (by kernel_rfl)
      have HS := Lib.hid (rof_any V ao ns.length c (T : Nat) R (vals 3) y n T w1 d3 (by omega) (by rw [HL.out]; omega) vb yb (by rw [HL.out]; exact hT))
      have z0 : vals 0 = _ := d0
      rw [z0]; clear z0
      have z4 : vals 4 = _ := d4
      rw [z4]; clear z4
      have z6 : vals 6 = _ := d6
      rw [z6]; clear z6
      refine stepOK_call (by go_simp; first | done | exact ⟨⟨rfl, rfl⟩, rfl⟩) ?_
      (with_reducible refine HS.out.mono ?_); rintro e w2 ⟨rfl, hb2⟩
      exact ⟨_, rfl, leaves_mk hb2 (congrArg (fun n : Nat => Value.int .i64 (n : Int)) HV.out) (fun h => by cases h)⟩
  case tlR9 =>
    intro vals w2 hb2 hf hdis
    simp only [List.drop_succ_cons, List.drop_zero]
    have z7 : vals 7 = _ := hf 7 (by decide)
    rw [z7]
    clear z7 hf hdis
    have HB2 := Lib.hid (HBW.out.trans (hb2.mono HBW.out.size))
    go_wp2_with fail
    go_ret
    exact ⟨rfl, HB2.out⟩
end Go.Proofs.YthhgfhdmfhnklaaGreatDoor
/-
  The reference's below: the leaves of a tree.
  Conditions: each theorem's own.
-/
namespace Go.Proofs.YthhgfhdmfhnklaaGreatDoor
open Go.RowKit Go.ChangeShapes Go.WideShapes

/-- leaves in blocks of the call's own -/
def RetLfO (w : World) (L : List Lf) (e : Ending) (w' : World) : Prop := ∃ v', e = .returned v' ∧ Below w.heap.size w w' ∧ w'.ownsRow w.heap.size 48 3 v' L.length (lfCells L)

set_option maxRecDepth 100000 in
set_option maxHeartbeats 8000000 in
theorem rbelow_any (V : Nat) (hV : V ≤ 24) : ∀ (N : Nat) (t : Tr), SizeOf.sizeOf t < N → ∀ (x : Value) (y n above : Nat) (w : World), TrV w x t → trOK V t above → y < 16777216 → n < 16777216 → trLvs t ≤ 1000000 →
    Calls Tryz.prog 78 #[x, .agg #[.int .i64 (y : Nat), .int .i64 (n : Nat)]] w (RetLfO w (trLeaves t y n))
  | 0, _, h, _, _, _, _, _, _, _, _, _, _ => by omega
  | N + 1, .mk vv0 [] r, hN, x, y, n, above, w, ht, hok, hy, hn, hlen => by
    obtain ⟨ao, c, rfl, hks, hc1, hc2, hv, hr⟩ := ht.open
    simp only [List.length_nil] at hks hc1 ⊢
    obtain ⟨W, hW⟩ : ∃ W, W = (w.alloc (.cells #[.int .i64 vv0, .slice ao 0 c, .int .i64 r] 27)).alloc (.cells #[.int .i64 (y : Nat), .int .i64 (n : Nat)] 46) := ⟨_, rfl⟩
    have hbW : Below w.heap.size w W := by rw [hW]; exact ((Below.refl _ _).alloc (Nat.le_refl _) _).alloc (by simp) _
    have hB1 : W.heap[w.heap.size]? = some (.cells #[.int .i64 vv0, .slice ao 0 c, .int .i64 r] 27) := by rw [hW]; exact heap_alloc2_old w _ _
    have hB2 : W.heap[w.heap.size + 1]? = some (.cells #[.int .i64 (y : Nat), .int .i64 (n : Nat)] 46) := by rw [hW]; exact heap_alloc2_new w _ _
    obtain ⟨b1, hb1⟩ : ∃ g, g = w.heap.size := ⟨_, rfl⟩
    obtain ⟨b2, hb2⟩ : ∃ g, g = w.heap.size + 1 := ⟨_, rfl⟩
    rw [← hb1] at hB1; rw [← hb2] at hB2
    have ho := World.ownsRow_lit (base := w.heap.size) (size := 3) (e := 48) W #[.int .i64 (y : Nat), .int .i64 (n : Nat), .int .i64 r] 1 hbW.size (by decide) rfl
    rw [show W.heap.size = w.heap.size + 1 + 1 by rw [hW]; simp] at ho
    have hb3 : Below w.heap.size w (W.alloc (.cells #[.int .i64 (y : Nat), .int .i64 (n : Nat), .int .i64 r] 48)) := hbW.alloc hbW.size _
    have HO := Lib.hid ho; have HB3 := Lib.hid hb3
    obtain ⟨x0, x1, x2⟩ := row3 hB1
    clear ho hb3 hB1 hB2 hbW hks ht hok hb1 hb2
    rw [hW] at x0 x1 x2
    go_enter Tryz.func78, Tryz.ntmps78
    go_wp2_with fail
    clear x0 x1 x2
    go_ret
    exact ⟨_, rfl, by rw [hW] at HB3; exact HB3.out, by rw [show trLeaves (.mk vv0 [] r) y n = [⟨y, n, r⟩] by simp [trLeaves], lfCells_one]; rw [hW] at HO; exact HO.out⟩
  | N + 1, .mk v0 [a, b] r, hN, x, y, n, above, w, ht, hok, hy, hn, hlen => by
    simp only [trOK] at hok
    obtain ⟨q0, q1, q2, rfl, hoa, hob⟩ := hok
    obtain ⟨vn, rfl⟩ : ∃ vn : Nat, v0 = vn := ⟨v0.toNat, by omega⟩
    rw [Int.toNat_natCast] at hoa hob
    have hvn : vn < V := by omega
    obtain ⟨ao, c, rfl, hks, hc1, hc2, _, _⟩ := ht.open
    simp only [List.length_cons, List.length_nil] at hks hc1 ⊢
    obtain ⟨bk, ok, rfl, hbk, hjk, hat⟩ := hks.at (by decide); clear hjk hks ht
    obtain ⟨kva, kra, kaa, kna, kca, ca0, ca1, ca2, hTVa⟩ := (hat 0 a rfl).val
    obtain ⟨kvb, krb, kab, knb, kcb, cb0, cb1, cb2, hTVb⟩ := (hat 1 b rfl).val
    simp only [Nat.zero_mul, Nat.add_zero, Nat.one_mul] at ca0 ca1 ca2 cb0 cb1 cb2
    have hsa : SizeOf.sizeOf a < N := by have := sizeOf_kid (v := (vn : Int)) (r := 0) (ks := [a, b]) (k := a) (by simp); omega
    have hsb : SizeOf.sizeOf b < N := by have := sizeOf_kid (v := (vn : Int)) (r := 0) (ks := [a, b]) (k := b) (by simp); omega
    have KA := Lib.hid (And.intro ca0 (And.intro ca1 ca2)); have KB := Lib.hid (And.intro cb0 (And.intro cb1 cb2))
    have HTA := Lib.hid hTVa; have HTB := Lib.hid hTVb; have HSA := Lib.hid hsa; have HSB := Lib.hid hsb; have HOA := Lib.hid hoa; have HOB := Lib.hid hob
    clear ca0 ca1 ca2 cb0 cb1 cb2 hat hTVa hTVb hsa hsb hoa hob q0 q1 q2
    obtain ⟨P2, hP2⟩ : ∃ P : Nat, P = 2 ^ vn := ⟨_, rfl⟩
    have hp24 : P2 < 16777216 := by rw [hP2]; exact pow_l24 (by omega)
    have DP := Lib.hid (show IntKind.wrap .i64 (2 ^ vn) = (P2 : Int) by rw [shl_one (by omega), hP2])
    obtain ⟨nb, hnb⟩ : ∃ nb, nb = n ||| 1 <<< vn := ⟨_, rfl⟩
    obtain ⟨yb, hyb⟩ : ∃ yb, yb = y ||| 1 <<< vn := ⟨_, rfl⟩
    have hnb3 : nb = n ||| P2 := by rw [hnb, hP2, Nat.one_shiftLeft]
    have hyb3 : yb = y ||| P2 := by rw [hyb, hP2, Nat.one_shiftLeft]
    have HNB := Lib.hid (show nb < 16777216 by rw [hnb3]; exact Nat.or_lt_two_pow (n := 24) (by omega) (by omega))
    have HYB := Lib.hid (show yb < 16777216 by rw [hyb3]; exact Nat.or_lt_two_pow (n := 24) (by omega) (by omega))
    have DN := Lib.hid (show bits .or .i64 (n : Int) (P2 : Int) = (nb : Int) by rw [bits_or (by omega) (by omega), hnb3])
    have DY := Lib.hid (show bits .or .i64 (y : Int) (P2 : Int) = (yb : Int) by rw [bits_or (by omega) (by omega), hyb3])
    have TL := Lib.hid (show trLeaves (.mk (vn : Nat) [a, b] 0) y n = trLeaves a y nb ++ trLeaves b yb n by rw [hnb, hyb]; rfl)
    clear hP2 hnb hyb hnb3 hyb3
    simp only [trLvs] at hlen
    obtain ⟨W, hW⟩ : ∃ W, W = (w.alloc (.cells #[.int .i64 vn, .slice (some ⟨bk, ok, none⟩) 2 c, .int .i64 0] 27)).alloc (.cells #[.int .i64 (y : Nat), .int .i64 (n : Nat)] 46) := ⟨_, rfl⟩
    have hbW : Below w.heap.size w W := by rw [hW]; exact ((Below.refl _ _).alloc (Nat.le_refl _) _).alloc (by simp) _
    have hB1 : W.heap[w.heap.size]? = some (.cells #[.int .i64 vn, .slice (some ⟨bk, ok, none⟩) 2 c, .int .i64 0] 27) := by rw [hW]; exact heap_alloc2_old w _ _
    have hB2 : W.heap[w.heap.size + 1]? = some (.cells #[.int .i64 (y : Nat), .int .i64 (n : Nat)] 46) := by rw [hW]; exact heap_alloc2_new w _ _
    obtain ⟨b1, hb1⟩ : ∃ g, g = w.heap.size := ⟨_, rfl⟩
    obtain ⟨b2, hb2⟩ : ∃ g, g = w.heap.size + 1 := ⟨_, rfl⟩
    rw [← hb1] at hB1; rw [← hb2] at hB2
    have HB := Lib.hid hbW; have B1 := Lib.hid hB1; have B2 := Lib.hid hB2
    clear hbW hB1 hB2
    obtain ⟨x0, x1, x2⟩ := row3 B1.out
    rw [hW, hb1] at x0 x1 x2
    go_enter Tryz.func78, Tryz.ntmps78
    go_wp2_with (with_reducible first | refine pauseCall ?_ | refine pauseLoop ?_ | refine pauseDraw ?_ | refine pauseBody ?_ | refine pauseRounds ?_)
    rw [← hW, ← hb2, ← hb1]
    clear hW hb1 hb2 x0 x1 x2
    refine Pause.mk ?_
    refine wp_region_facts (A := ?aa3) (w := W) 13 [] (by kernel_rfl) (Fl [KEq (.pointer (some ⟨b1, 1, none⟩)), KEq (.slice (some ⟨bk, ok, none⟩) 2 c), KEq (.pointer (some ⟨bk, ok, none⟩)), KEq (.agg #[.int .i64 kva, .slice kaa kna kca, .int .i64 kra]), KEq (.pointer (some ⟨b2, 0, none⟩)), KEq (.int .i64 (y : Nat)), KEq (.pointer (some ⟨b2, 1, none⟩)), KEq (.int .i64 (n : Nat)), KEq (.pointer (some ⟨b1, 0, none⟩)), KEq (.int .i64 (vn : Nat)), KEq (.int .i64 (P2 : Nat)), KEq (.int .i64 (nb : Nat)), KEq (.agg #[.int .i64 (y : Nat), .int .i64 (nb : Nat)])]) (fun i => false) (by kernel_rfl) ?hq3 (monoL (monoC (kEq _) (monoC (kEq _) (monoC (kEq _) (monoC (kEq _) (monoC (kEq _) (monoC (kEq _) (monoC (kEq _) (monoC (kEq _) (monoC (kEq _) (monoC (kEq _) (monoC (kEq _) (monoC (kEq _) (monoC (kEq _) monoN)))))))))))))) ?ha3 ?st3 ?tl3
    case hq3 =>
      intro c a d v w h
      first | (simp only [Exit.then] at h ⊢; exact h) | (simp only [Exit.inBlock, Exit.then] at h ⊢; exact h) | exact h
    case ha3 =>
      intro vals
      simp only [putsTo, dstOf, if_true, Act.put, List.setIfInBounds_toArray, List.set_cons_zero, List.set_cons_succ, List.getElem?_toArray, List.getElem?_cons_zero, List.getElem?_cons_succ, Option.bind_some]
      exact rfl
    case st3 =>
      simp only [List.take_succ_cons, List.take_zero]
      refine stepsOK_cons rfl rfl ?_ (stepsOK_cons rfl rfl ?_ (stepsOK_cons rfl rfl ?_ (stepsOK_cons rfl rfl ?_ (stepsOK_cons rfl rfl ?_ (stepsOK_cons rfl rfl ?_ (stepsOK_cons rfl rfl ?_ (stepsOK_cons rfl rfl ?_ (stepsOK_cons rfl rfl ?_ (stepsOK_cons rfl rfl ?_ (stepsOK_cons rfl rfl ?_ (stepsOK_cons rfl rfl ?_ (stepsOK_cons rfl rfl ?_ (stepsOK_nil)))))))))))))
      · intro vals w1 hb hd
        refine stepOK_value (v := .pointer (some ⟨b1, 1, none⟩)) (w' := w1) (by go_simp) (leaves_mk (Below.refl _ _) rfl (fun h => by cases h))
      · intro vals w1 hb hd
        have d0 : KEq (.pointer (some ⟨b1, 1, none⟩)) (vals 0) w1 := hd 0 (by kernel_rfl)
        obtain ⟨e0, e1, e2⟩ := row3 (heap_below B1.out hb)
        rw [show vals 0 = _ from d0]
        refine stepOK_value (v := .slice (some ⟨bk, ok, none⟩) 2 c) (w' := w1) (by go_simp) (leaves_mk (Below.refl _ _) rfl (fun h => by cases h))
      · intro vals w1 hb hd
        have d1 : KEq (.slice (some ⟨bk, ok, none⟩) 2 c) (vals 1) w1 := hd 1 (by kernel_rfl)
        rw [show vals 1 = _ from d1]
        refine stepOK_value (v := .pointer (some ⟨bk, ok, none⟩)) (w' := w1) (by go_simp) (leaves_mk (Below.refl _ _) rfl (fun h => by cases h))
      · intro vals w1 hb hd
        have d2 : KEq (.pointer (some ⟨bk, ok, none⟩)) (vals 2) w1 := hd 2 (by kernel_rfl)
        have hbx := HB.out.trans (hb.mono HB.out.size)
        have k0 := (hbx.cell (p := ⟨bk, _, none⟩) hbk).trans KA.out.1
        have k1 := (hbx.cell (p := ⟨bk, _, none⟩) hbk).trans KA.out.2.1
        have k2 := (hbx.cell (p := ⟨bk, _, none⟩) hbk).trans KA.out.2.2
        rw [show vals 2 = _ from d2]
        refine stepOK_value (v := .agg #[.int .i64 kva, .slice kaa kna kca, .int .i64 kra]) (w' := w1) (by go_simp) (leaves_mk (Below.refl _ _) rfl (fun h => by cases h))
      · intro vals w1 hb hd
        refine stepOK_value (v := .pointer (some ⟨b2, 0, none⟩)) (w' := w1) (by go_simp) (leaves_mk (Below.refl _ _) rfl (fun h => by cases h))
      · intro vals w1 hb hd
        have d4 : KEq (.pointer (some ⟨b2, 0, none⟩)) (vals 4) w1 := hd 4 (by kernel_rfl)
        obtain ⟨e0, e1⟩ := row2c (heap_below B2.out hb)
        rw [show vals 4 = _ from d4]
        refine stepOK_value (v := .int .i64 (y : Nat)) (w' := w1) (by go_simp) (leaves_mk (Below.refl _ _) rfl (fun h => by cases h))
      · intro vals w1 hb hd
        refine stepOK_value (v := .pointer (some ⟨b2, 1, none⟩)) (w' := w1) (by go_simp) (leaves_mk (Below.refl _ _) rfl (fun h => by cases h))
      · intro vals w1 hb hd
        have d6 : KEq (.pointer (some ⟨b2, 1, none⟩)) (vals 6) w1 := hd 6 (by kernel_rfl)
        obtain ⟨e0, e1⟩ := row2c (heap_below B2.out hb)
        rw [show vals 6 = _ from d6]
        refine stepOK_value (v := .int .i64 (n : Nat)) (w' := w1) (by go_simp) (leaves_mk (Below.refl _ _) rfl (fun h => by cases h))
      · intro vals w1 hb hd
        refine stepOK_value (v := .pointer (some ⟨b1, 0, none⟩)) (w' := w1) (by go_simp) (leaves_mk (Below.refl _ _) rfl (fun h => by cases h))
      · intro vals w1 hb hd
        have d8 : KEq (.pointer (some ⟨b1, 0, none⟩)) (vals 8) w1 := hd 8 (by kernel_rfl)
        obtain ⟨e0, e1, e2⟩ := row3 (heap_below B1.out hb)
        rw [show vals 8 = _ from d8]
        refine stepOK_value (v := .int .i64 (vn : Nat)) (w' := w1) (by go_simp) (leaves_mk (Below.refl _ _) rfl (fun h => by cases h))
      · intro vals w1 hb hd
        have d9 : KEq (.int .i64 (vn : Nat)) (vals 9) w1 := hd 9 (by kernel_rfl)
        rw [show vals 9 = _ from d9]
        refine stepOK_value (v := .int .i64 (P2 : Nat)) (w' := w1) (by go_simp; first | done | exact DP.out) (leaves_mk (Below.refl _ _) rfl (fun h => by cases h))
      · intro vals w1 hb hd
        have d7 : KEq (.int .i64 (n : Nat)) (vals 7) w1 := hd 7 (by kernel_rfl)
        have d10 : KEq (.int .i64 (P2 : Nat)) (vals 10) w1 := hd 10 (by kernel_rfl)
        rw [show vals 7 = _ from d7]
        rw [show vals 10 = _ from d10]
        refine stepOK_value (v := .int .i64 (nb : Nat)) (w' := w1) (by go_simp; first | done | exact DN.out) (leaves_mk (Below.refl _ _) rfl (fun h => by cases h))
      · intro vals w1 hb hd
        have d5 : KEq (.int .i64 (y : Nat)) (vals 5) w1 := hd 5 (by kernel_rfl)
        have d11 : KEq (.int .i64 (nb : Nat)) (vals 11) w1 := hd 11 (by kernel_rfl)
        rw [show vals 5 = _ from d5]
        rw [show vals 11 = _ from d11]
        refine stepOK_value (v := .agg #[.int .i64 (y : Nat), .int .i64 (nb : Nat)]) (w' := w1) (by go_simp) (leaves_mk (Below.refl _ _) rfl (fun h => by cases h))
    case tl3 =>
      intro vals w2 hb2 hf hdis
      simp only [List.drop_succ_cons, List.drop_zero]
      have z3 : vals 3 = _ := hf 3 (by decide)
      have z12 : vals 12 = _ := hf 12 (by decide)
      rw [z3, z12]
      clear z3 z12 hf hdis
      have HB := Lib.hid (HB.out.trans (hb2.mono HB.out.size)); have B1 := Lib.hid (heap_below B1.out hb2); have B2 := Lib.hid (heap_below B2.out hb2)
      clear hb2
      have HK := Lib.hid (rbelow_any V hV N a HSA.out _ y nb _ w2 (HTA.out.below HB.out) HOA.out hy HNB.out (by omega))
      go_wp2_with (with_reducible refine pauseCall ?_)
      refine Pause.mk ?_
      (with_reducible refine HK.out.mono ?_); rintro e w3 ⟨v1, rfl, hb3, ho1⟩
      have HO := Lib.hid (own_base ho1 HB.out.size)
      have HB := Lib.hid (HB.out.trans (hb3.mono HB.out.size)); have B1 := Lib.hid (heap_below B1.out hb3); have B2 := Lib.hid (heap_below B2.out hb3)
      clear ho1 hb3 HK
      go_wp2_with (with_reducible first | refine pauseCall ?_ | refine pauseLoop ?_ | refine pauseDraw ?_ | refine pauseBody ?_ | refine pauseRounds ?_)
      refine Pause.mk ?_
      refine wp_region_facts (A := ?aa4) (w := w3) 13 [] (by kernel_rfl) (Fl [KEq (.pointer (some ⟨b1, 1, none⟩)), KEq (.slice (some ⟨bk, ok, none⟩) 2 c), KEq (.pointer (some ⟨bk, ok + 3, none⟩)), KEq (.agg #[.int .i64 kvb, .slice kab knb kcb, .int .i64 krb]), KEq (.pointer (some ⟨b2, 0, none⟩)), KEq (.int .i64 (y : Nat)), KEq (.pointer (some ⟨b1, 0, none⟩)), KEq (.int .i64 (vn : Nat)), KEq (.int .i64 (P2 : Nat)), KEq (.int .i64 (yb : Nat)), KEq (.pointer (some ⟨b2, 1, none⟩)), KEq (.int .i64 (n : Nat)), KEq (.agg #[.int .i64 (yb : Nat), .int .i64 (n : Nat)])]) (fun i => false) (by kernel_rfl) ?hq4 (monoL (monoC (kEq _) (monoC (kEq _) (monoC (kEq _) (monoC (kEq _) (monoC (kEq _) (monoC (kEq _) (monoC (kEq _) (monoC (kEq _) (monoC (kEq _) (monoC (kEq _) (monoC (kEq _) (monoC (kEq _) (monoC (kEq _) monoN)))))))))))))) ?ha4 ?st4 ?tl4
      case hq4 =>
        intro c a d v w h
        first | (simp only [Exit.then] at h ⊢; exact h) | (simp only [Exit.inBlock, Exit.then] at h ⊢; exact h) | exact h
      case ha4 =>
        intro vals
        simp only [putsTo, dstOf, if_true, Act.put, List.setIfInBounds_toArray, List.set_cons_zero, List.set_cons_succ, List.getElem?_toArray, List.getElem?_cons_zero, List.getElem?_cons_succ, Option.bind_some]
        exact rfl
      case st4 =>
        simp only [List.take_succ_cons, List.take_zero]
        refine stepsOK_cons rfl rfl ?_ (stepsOK_cons rfl rfl ?_ (stepsOK_cons rfl rfl ?_ (stepsOK_cons rfl rfl ?_ (stepsOK_cons rfl rfl ?_ (stepsOK_cons rfl rfl ?_ (stepsOK_cons rfl rfl ?_ (stepsOK_cons rfl rfl ?_ (stepsOK_cons rfl rfl ?_ (stepsOK_cons rfl rfl ?_ (stepsOK_cons rfl rfl ?_ (stepsOK_cons rfl rfl ?_ (stepsOK_cons rfl rfl ?_ (stepsOK_nil)))))))))))))
        · intro vals w1 hb hd
          refine stepOK_value (v := .pointer (some ⟨b1, 1, none⟩)) (w' := w1) (by go_simp) (leaves_mk (Below.refl _ _) rfl (fun h => by cases h))
        · intro vals w1 hb hd
          have d0 : KEq (.pointer (some ⟨b1, 1, none⟩)) (vals 0) w1 := hd 0 (by kernel_rfl)
          obtain ⟨e0, e1, e2⟩ := row3 (heap_below B1.out hb)
          rw [show vals 0 = _ from d0]
          refine stepOK_value (v := .slice (some ⟨bk, ok, none⟩) 2 c) (w' := w1) (by go_simp) (leaves_mk (Below.refl _ _) rfl (fun h => by cases h))
        · intro vals w1 hb hd
          have d1 : KEq (.slice (some ⟨bk, ok, none⟩) 2 c) (vals 1) w1 := hd 1 (by kernel_rfl)
          rw [show vals 1 = _ from d1]
          refine stepOK_value (v := .pointer (some ⟨bk, ok + 3, none⟩)) (w' := w1) (by go_simp) (leaves_mk (Below.refl _ _) rfl (fun h => by cases h))
        · intro vals w1 hb hd
          have d2 : KEq (.pointer (some ⟨bk, ok + 3, none⟩)) (vals 2) w1 := hd 2 (by kernel_rfl)
          have hbx := HB.out.trans (hb.mono HB.out.size)
          have k0 := (hbx.cell (p := ⟨bk, _, none⟩) hbk).trans KB.out.1
          have k1 := (hbx.cell (p := ⟨bk, _, none⟩) hbk).trans KB.out.2.1
          have k2 := (hbx.cell (p := ⟨bk, _, none⟩) hbk).trans KB.out.2.2
          rw [show vals 2 = _ from d2]
          refine stepOK_value (v := .agg #[.int .i64 kvb, .slice kab knb kcb, .int .i64 krb]) (w' := w1) (by go_simp) (leaves_mk (Below.refl _ _) rfl (fun h => by cases h))
        · intro vals w1 hb hd
          refine stepOK_value (v := .pointer (some ⟨b2, 0, none⟩)) (w' := w1) (by go_simp) (leaves_mk (Below.refl _ _) rfl (fun h => by cases h))
        · intro vals w1 hb hd
          have d4 : KEq (.pointer (some ⟨b2, 0, none⟩)) (vals 4) w1 := hd 4 (by kernel_rfl)
          obtain ⟨e0, e1⟩ := row2c (heap_below B2.out hb)
          rw [show vals 4 = _ from d4]
          refine stepOK_value (v := .int .i64 (y : Nat)) (w' := w1) (by go_simp) (leaves_mk (Below.refl _ _) rfl (fun h => by cases h))
        · intro vals w1 hb hd
          refine stepOK_value (v := .pointer (some ⟨b1, 0, none⟩)) (w' := w1) (by go_simp) (leaves_mk (Below.refl _ _) rfl (fun h => by cases h))
        · intro vals w1 hb hd
          have d6 : KEq (.pointer (some ⟨b1, 0, none⟩)) (vals 6) w1 := hd 6 (by kernel_rfl)
          obtain ⟨e0, e1, e2⟩ := row3 (heap_below B1.out hb)
          rw [show vals 6 = _ from d6]
          refine stepOK_value (v := .int .i64 (vn : Nat)) (w' := w1) (by go_simp) (leaves_mk (Below.refl _ _) rfl (fun h => by cases h))
        · intro vals w1 hb hd
          have d7 : KEq (.int .i64 (vn : Nat)) (vals 7) w1 := hd 7 (by kernel_rfl)
          rw [show vals 7 = _ from d7]
          refine stepOK_value (v := .int .i64 (P2 : Nat)) (w' := w1) (by go_simp; first | done | exact DP.out) (leaves_mk (Below.refl _ _) rfl (fun h => by cases h))
        · intro vals w1 hb hd
          have d5 : KEq (.int .i64 (y : Nat)) (vals 5) w1 := hd 5 (by kernel_rfl)
          have d8 : KEq (.int .i64 (P2 : Nat)) (vals 8) w1 := hd 8 (by kernel_rfl)
          rw [show vals 5 = _ from d5]
          rw [show vals 8 = _ from d8]
          refine stepOK_value (v := .int .i64 (yb : Nat)) (w' := w1) (by go_simp; first | done | exact DY.out) (leaves_mk (Below.refl _ _) rfl (fun h => by cases h))
        · intro vals w1 hb hd
          refine stepOK_value (v := .pointer (some ⟨b2, 1, none⟩)) (w' := w1) (by go_simp) (leaves_mk (Below.refl _ _) rfl (fun h => by cases h))
        · intro vals w1 hb hd
          have d10 : KEq (.pointer (some ⟨b2, 1, none⟩)) (vals 10) w1 := hd 10 (by kernel_rfl)
          obtain ⟨e0, e1⟩ := row2c (heap_below B2.out hb)
          rw [show vals 10 = _ from d10]
          refine stepOK_value (v := .int .i64 (n : Nat)) (w' := w1) (by go_simp) (leaves_mk (Below.refl _ _) rfl (fun h => by cases h))
        · intro vals w1 hb hd
          have d9 : KEq (.int .i64 (yb : Nat)) (vals 9) w1 := hd 9 (by kernel_rfl)
          have d11 : KEq (.int .i64 (n : Nat)) (vals 11) w1 := hd 11 (by kernel_rfl)
          rw [show vals 9 = _ from d9]
          rw [show vals 11 = _ from d11]
          refine stepOK_value (v := .agg #[.int .i64 (yb : Nat), .int .i64 (n : Nat)]) (w' := w1) (by go_simp) (leaves_mk (Below.refl _ _) rfl (fun h => by cases h))
      case tl4 =>
        intro vals w4 hb4 hf hdis
        simp only [List.drop_succ_cons, List.drop_zero]
        have z3 : vals 3 = _ := hf 3 (by decide)
        have z12 : vals 12 = _ := hf 12 (by decide)
        rw [z3, z12]
        clear z3 z12 hf hdis
        have HB := Lib.hid (HB.out.trans (hb4.mono HB.out.size)); have HO := Lib.hid (own_below HO.out hb4)
        clear hb4
        have HK := Lib.hid (rbelow_any V hV N b HSB.out _ yb n _ w4 (HTB.out.below HB.out) HOB.out HYB.out hn (by omega))
        go_wp2_with (with_reducible refine pauseCall ?_)
        refine Pause.mk ?_
        (with_reducible refine HK.out.mono ?_); rintro e w5 ⟨v2, rfl, hb5, ho2⟩
        have HL2 := Lib.hid (own_lfs ho2)
        have HB := Lib.hid (HB.out.trans (hb5.mono HB.out.size)); have HO := Lib.hid (own_below HO.out hb5)
        clear ho2 hb5 HK
        go_wp2_with (with_reducible refine wpList_pauseA ?_)
        refine wpList_appLs w.heap.size Tryz.leafTy rfl v1 v2 (trLeaves a y nb) (trLeaves b yb n) rfl rfl HO.out HL2.out (by rw [trLvs_length, trLvs_length]; omega) (by decide) HB.out.size ?_
        intro v' w' h1 h2
        have h3 := own_low HO.out h2 HB.out HB.out.size
        have H1 := Lib.hid h1; have H3 := Lib.hid h3
        clear h1 h2 h3
        go_wp2_with fail
        go_ret
        exact ⟨_, rfl, H3.out, by rw [TL.out]; exact H1.out⟩
  | N + 1, .mk _ [_] _, _, _, _, _, _, _, _, hok, _, _, _ => by simp only [trOK] at hok
  | N + 1, .mk _ (_ :: _ :: _ :: _) _, _, _, _, _, _, _, _, hok, _, _, _ => by simp only [trOK] at hok
end Go.Proofs.YthhgfhdmfhnklaaGreatDoor
/-
  The reference's walk and Check: the number of the error of any tree.
  Conditions: each theorem's own.
-/
namespace Go.Proofs.YthhgfhdmfhnklaaGreatDoor
open Go.RowKit Go.ChangeShapes Go.WideShapes

set_option maxRecDepth 100000 in
set_option maxHeartbeats 8000000 in
theorem rwalk_any (V : Nat) (hV : V ≤ 24) : ∀ (N : Nat) (t : Tr), SizeOf.sizeOf t < N → ∀ (x : Value) (above n : Nat) (w : World), TrV w x t → above < 16777216 → n ≤ 4096 →
    Calls Tryz.prog 63 #[x, .int .i64 (V : Nat), .int .i64 (above : Nat), .int .i64 (n : Nat)] w (RetV w (.tuple #[.int .i64 ((trErr V t above n).1 : Nat), .int .i64 ((trErr V t above n).2 : Nat)]))
  | 0, _, h, _, _, _, _, _, _, _ => by omega
  | N + 1, .mk v ks r, hN, x, above, n, w, ht, hab, hn => by
    obtain ⟨ao, c, rfl, hks, hc1, hc2, hv, hr⟩ := ht.open
    unfold I64 at hv hr
    obtain ⟨w1, hw1⟩ : ∃ w1, w1 = w.alloc (.cells #[.int .i64 v, .slice ao ks.length c, .int .i64 r] 27) := ⟨_, rfl⟩
    have hb1 : Below w.heap.size w w1 := by rw [hw1]; exact (Below.refl _ _).alloc (Nat.le_refl _) _
    have hB1 : w1.heap[w.heap.size]? = some (.cells #[.int .i64 v, .slice ao ks.length c, .int .i64 r] 27) := by rw [hw1]; exact heap_alloc_new w _
    obtain ⟨b1, hbb⟩ : ∃ b, b = w.heap.size := ⟨_, rfl⟩
    rw [← hbb] at hB1
    have HB := Lib.hid hb1; have B1 := Lib.hid hB1
    have HKS := Lib.hid hks
    clear hks hb1 ht hB1
    go_enter Tryz.func63, Tryz.ntmps63
    by_cases a1 : 4096 < n + 1
    · have R := Lib.hid (show trErr V (.mk v ks r) above n = (n + 1, 4) by unfold trErr; rw [if_pos a1])
      have a1' : (4096 : Int) < ((n : Nat) : Int) + 1 := by omega
      go_wp2_with fail
      go_ret2
      exact ⟨by rw [R.out]; rfl, by rw [hw1] at HB; exact HB.out⟩
    have A1 := Lib.hid a1
    have a1' : ((n : Nat) : Int) + 1 ≤ 4096 := by omega
    by_cases a2 : ks.length ≠ 0 ∧ ks.length ≠ 2
    · have R := Lib.hid (show trErr V (.mk v ks r) above n = (n + 1, 11) by unfold trErr; rw [if_neg A1.out, if_pos a2])
      obtain ⟨a3, a4⟩ := a2
      have a3' : ((ks.length : Int) != 0) = true := bne_iff_ne.2 (by omega)
      have a4' : ((ks.length : Int) != 2) = true := bne_iff_ne.2 (by omega)
      go_wp2_with fail
      go_ret2
      exact ⟨by rw [R.out]; rfl, by rw [hw1] at HB; exact HB.out⟩
    have A2 := Lib.hid a2
    by_cases a3 : ks.length = 0
    · have a3' : (ks.length : Int) = 0 := by omega
      by_cases a4 : v = 0
      · have R := Lib.hid (show trErr V (.mk v ks r) above n = (n + 1, 0) by unfold trErr; rw [if_neg A1.out, if_neg A2.out, if_pos a3, if_neg (by simp [a4])])
        subst a4
        go_wp2_with fail
        go_ret2
        exact ⟨by rw [R.out]; rfl, by rw [hw1, a3] at HB; exact HB.out⟩
      · have R := Lib.hid (show trErr V (.mk v ks r) above n = (n + 1, 2) by unfold trErr; rw [if_neg A1.out, if_neg A2.out, if_pos a3, if_pos a4])
        have a4' : (v != 0) = true := bne_iff_ne.2 a4
        go_wp2_with fail
        go_ret2
        exact ⟨by rw [R.out]; rfl, by rw [hw1, a3] at HB; exact HB.out⟩
    have a5 : ks.length = 2 := by omega
    rw [a5] at HKS B1 hc1 hw1
    have A3 := Lib.hid a3
    have HL := Lib.hid a5
    have TE : Hid (trErr V (.mk v ks r) above n = if v < 0 ∨ (V : Int) ≤ v then (n + 1, 3) else if above.testBit v.toNat then (n + 1, 6) else if r ≠ 0 then (n + 1, 2) else trsErr V ks (above ||| 1 <<< v.toNat) (n + 1)) := Lib.hid (by
      conv => lhs; unfold trErr
      rw [if_neg A1.out, if_neg A2.out, if_neg A3.out])
    clear a2 a3 A2 A3
    rw [a5]
    clear a5
    by_cases b1' : v < 0
    · have R := Lib.hid (show trErr V (.mk v ks r) above n = (n + 1, 3) by rw [TE.out, if_pos (.inl b1')])
      go_wp2_with fail
      go_ret2
      exact ⟨by rw [R.out]; rfl, by rw [hw1] at HB; exact HB.out⟩
    by_cases b2' : (V : Int) ≤ v
    · have R := Lib.hid (show trErr V (.mk v ks r) above n = (n + 1, 3) by rw [TE.out, if_pos (.inr b2')])
      go_wp2_with fail
      go_ret2
      exact ⟨by rw [R.out]; rfl, by rw [hw1] at HB; exact HB.out⟩
    have TE := Lib.hid (TE.out.trans (if_neg (by omega)))
    obtain ⟨vn, rfl⟩ : ∃ vn : Nat, v = vn := ⟨v.toNat, by omega⟩
    rw [Int.toNat_natCast] at TE
    have hvn : vn < V := by omega
    obtain ⟨xs, x1b, xt, hX⟩ := bit_parts (x := above) (i := vn) (by omega)
    have X1 := hX.1; have X2 := hX.2.1; have X3 := hX.2.2.1
    have hvz : (vn : Int) < (V : Int) := by omega
    clear b1' b2'
    cases xt with
    | true =>
      have R := Lib.hid (show trErr V (.mk (vn : Nat) ks r) above n = (n + 1, 6) by rw [TE.out, hX.2.2.2]; rfl)
      go_wp2_with fail
      go_ret2
      exact ⟨by rw [R.out]; rfl, by rw [hw1] at HB; exact HB.out⟩
    | false =>
      have TE := Lib.hid (TE.out.trans (if_neg (by rw [hX.2.2.2]; decide)))
      clear hX
      by_cases r0 : r ≠ 0
      · have R := Lib.hid (show trErr V (.mk (vn : Nat) ks r) above n = (n + 1, 2) by rw [TE.out, if_pos r0])
        have r0' : (r != 0) = true := bne_iff_ne.2 r0
        go_wp2_with fail
        go_ret2
        exact ⟨by rw [R.out]; rfl, by rw [hw1] at HB; exact HB.out⟩
      have r0 : r = 0 := by omega
      subst r0
      have TE := Lib.hid (TE.out.trans (if_neg (by decide)))
      obtain ⟨P2, hP2⟩ : ∃ P : Nat, P = 2 ^ vn := ⟨_, rfl⟩
      have hp24 : P2 < 16777216 := by rw [hP2]; exact pow_l24 (by omega)
      have DP := Lib.hid (show IntKind.wrap .i64 (2 ^ vn) = (P2 : Int) by rw [shl_one (by omega), hP2])
      obtain ⟨ab, hab2⟩ : ∃ ab, ab = above ||| 1 <<< vn := ⟨_, rfl⟩
      have hab3 : ab = above ||| P2 := by rw [hab2, hP2, Nat.one_shiftLeft]
      have HAB := Lib.hid (show ab < 16777216 by rw [hab3]; exact Nat.or_lt_two_pow (n := 24) (by omega) (by omega))
      have DO := Lib.hid (show bits .or .i64 (above : Int) (P2 : Int) = (ab : Int) by rw [bits_or (by omega) (by omega), hab3])
      rw [← hab2] at TE
      clear hP2 hab2 hab3
      go_wp2_with fail
      rw [← hw1, ← hbb]
      clear X1 X2 X3 hw1 hbb
      go_loopw [63, 3] (fun i' nn wx => ∃ j n' : Nat, j ≤ 2 ∧ i' = .int .i64 j ∧ nn = .int .i64 n' ∧ n' ≤ 4096 ∧ Hid (Below w1.heap.size w1 wx) ∧ Hid (trsErr V ks ab (n + 1) = trsErr V (ks.drop j) ab n')) (fun i' _ _ => 2 - (intOf i').toNat)
      case atStart => exact ⟨0, n + 1, by omega, rfl, by first | rfl | simp, by omega, Lib.hid (Below.refl _ _), Lib.hid rfl⟩
      case round =>
        obtain ⟨j, n', hj, rfl, rfl, hn', BW, TS⟩ := hrel
        obtain ⟨wo, rfl⟩ : ∃ wo : World, wo = wr := ⟨_, rfl⟩
        have HBo := Lib.hid (HB.out.trans (BW.out.mono HB.out.size))
        have B1o := Lib.hid (heap_below B1.out BW.out)
        by_cases hlt : j < 2
        · obtain ⟨t', ht'⟩ : ∃ t', ks[j]? = some t' := ⟨ks[j]'(by rw [HL.out]; exact hlt), List.getElem?_eq_getElem (by rw [HL.out]; exact hlt)⟩
          obtain ⟨bk, ok, rfl, hbk, hjk, hat⟩ := (HKS.out.below HBo.out).at (by decide); clear hjk
          obtain ⟨kv, kr, ka, kn, kc, c0, c1, c2, hTV⟩ := (hat j t' ht').val
          have hsz : SizeOf.sizeOf t' < N := by have := sizeOf_kid (v := (vn : Int)) (r := 0) (List.mem_of_getElem? ht'); omega
          have TD := Lib.hid (trsErr_drop (V := V) (ab := ab) (n := n') ht')
          have HSZ := Lib.hid hsz
          obtain ⟨w4, hw4⟩ : ∃ w4, w4 = wo.alloc (.cells #[.int .i64 kv, .slice ka kn kc, .int .i64 kr] 27) := ⟨_, rfl⟩
          have hb4 : Below wo.heap.size wo w4 := by rw [hw4]; exact (Below.refl _ _).alloc (Nat.le_refl _) _
          have HTV := Lib.hid (hTV.below hb4)
          clear hat hTV hsz ht'
          have hltz : (j : Int) < 2 := by omega
          have hB2 : w4.heap[wo.heap.size]? = some (.cells #[.int .i64 kv, .slice ka kn kc, .int .i64 kr] 27) := by rw [hw4]; exact heap_alloc_new wo _
          obtain ⟨b2, hbb⟩ : ∃ b, b = wo.heap.size := ⟨_, rfl⟩
          rw [← hbb] at hB2
          have B2 := Lib.hid hB2; have B1 := Lib.hid (heap_below B1o.out hb4)
          have HB0 := Lib.hid (HBo.out.trans (hb4.mono HBo.out.size)); have BW := Lib.hid (BW.out.trans (hb4.mono BW.out.size))
          have HB := Lib.hid (Below.refl w4.heap.size w4)
          have TC := trErr_cnt V t' ab n' hn'
          obtain ⟨m, hm⟩ : ∃ m, m = (trErr V t' ab n').1 := ⟨_, rfl⟩
          obtain ⟨ec, hec⟩ : ∃ ec, ec = (trErr V t' ab n').2 := ⟨_, rfl⟩
          have MC := Lib.hid (show Value.tuple #[.int .i64 ((trErr V t' ab n').1 : Nat), .int .i64 ((trErr V t' ab n').2 : Nat)] = .tuple #[.int .i64 (m : Nat), .int .i64 (ec : Nat)] by rw [hm, hec])
          have MM := Lib.hid (And.intro hm hec)
          rw [← hm, ← hec] at TC
          clear hB2 hb4 B1o HBo hm hec
          go_wp2_with (with_reducible first | refine pauseCall ?_ | refine pauseLoop ?_ | refine pauseDraw ?_ | refine pauseBody ?_ | refine pauseRounds ?_)
          rw [← hw4, ← hbb]
          clear hw4 hbb c0 c1 c2
          refine Pause.mk ?_
          refine wp_region_facts (A := ?aa19) (w := w4) 12 [11] (by kernel_rfl) (Fl [KEq (.agg #[.int .i64 kv, .slice ka kn kc, .int .i64 kr]), KEq (.int .i64 (V : Nat)), KEq (.int .i64 (above : Nat)), KEq (.pointer (some ⟨b1, 0, none⟩)), KEq (.int .i64 (vn : Nat)), KEq (.int .i64 (P2 : Nat)), KEq (.int .i64 (ab : Nat)), KEq ((.int .i64 (n' : Nat))), KEq (.tuple #[.int .i64 (m : Nat), .int .i64 (ec : Nat)]), KEq ((.tuple #[.int .i64 (m : Nat), .int .i64 (ec : Nat)])), KEq (.int .i64 (m : Nat)), KEq (.int .i64 (ec : Nat))]) (fun i => false) (by kernel_rfl) ?hq19 (monoL (monoC (kEq _) (monoC (kEq _) (monoC (kEq _) (monoC (kEq _) (monoC (kEq _) (monoC (kEq _) (monoC (kEq _) (monoC (kEq _) (monoC (kEq _) (monoC (kEq _) (monoC (kEq _) (monoC (kEq _) monoN))))))))))))) ?ha19 ?st19 ?tl19
          case hq19 =>
            intro c a d v w h
            first | (simp only [Exit.then] at h ⊢; exact h) | (simp only [Exit.inBlock, Exit.then] at h ⊢; exact h) | exact h
          case ha19 =>
            intro vals
            simp only [putsTo, dstOf, if_true, Act.put, List.setIfInBounds_toArray, List.set_cons_zero, List.set_cons_succ, List.getElem?_toArray, List.getElem?_cons_zero, List.getElem?_cons_succ, Option.bind_some]
            exact rfl
          case st19 =>
            simp only [List.take_succ_cons, List.take_zero]
            refine stepsOK_cons rfl rfl ?_ (stepsOK_cons rfl rfl ?_ (stepsOK_cons rfl rfl ?_ (stepsOK_cons rfl rfl ?_ (stepsOK_cons rfl rfl ?_ (stepsOK_cons rfl rfl ?_ (stepsOK_cons rfl rfl ?_ (stepsOK_cons rfl rfl ?_ (stepsOK_cons rfl rfl ?_ (stepsOK_cons rfl rfl ?_ (stepsOK_cons rfl rfl ?_ (stepsOK_pure rfl ?_ (stepsOK_nil))))))))))))
            · intro vals w1 hb hd
              obtain ⟨e0, e1, e2⟩ := row3 (heap_below B2.out hb)
              refine stepOK_value (v := .agg #[.int .i64 kv, .slice ka kn kc, .int .i64 kr]) (w' := w1) (by go_simp) (leaves_mk (Below.refl _ _) rfl (fun h => by cases h))
            · intro vals w1 hb hd
              refine stepOK_value (v := .int .i64 (V : Nat)) (w' := w1) (by go_simp) (leaves_mk (Below.refl _ _) rfl (fun h => by cases h))
            · intro vals w1 hb hd
              refine stepOK_value (v := .int .i64 (above : Nat)) (w' := w1) (by go_simp) (leaves_mk (Below.refl _ _) rfl (fun h => by cases h))
            · intro vals w1 hb hd
              refine stepOK_value (v := .pointer (some ⟨b1, 0, none⟩)) (w' := w1) (by go_simp) (leaves_mk (Below.refl _ _) rfl (fun h => by cases h))
            · intro vals w1 hb hd
              have d3 : KEq (.pointer (some ⟨b1, 0, none⟩)) (vals 3) w1 := hd 3 (by kernel_rfl)
              obtain ⟨e0, e1, e2⟩ := row3 (heap_below B1.out hb)
              rw [show vals 3 = _ from d3]
              refine stepOK_value (v := .int .i64 (vn : Nat)) (w' := w1) (by go_simp) (leaves_mk (Below.refl _ _) rfl (fun h => by cases h))
            · intro vals w1 hb hd
              have d4 : KEq (.int .i64 (vn : Nat)) (vals 4) w1 := hd 4 (by kernel_rfl)
              rw [show vals 4 = _ from d4]
              refine stepOK_value (v := .int .i64 (P2 : Nat)) (w' := w1) (by go_simp; first | done | exact DP.out) (leaves_mk (Below.refl _ _) rfl (fun h => by cases h))
            · intro vals w1 hb hd
              have d2 : KEq (.int .i64 (above : Nat)) (vals 2) w1 := hd 2 (by kernel_rfl)
              have d5 : KEq (.int .i64 (P2 : Nat)) (vals 5) w1 := hd 5 (by kernel_rfl)
              rw [show vals 2 = _ from d2]
              rw [show vals 5 = _ from d5]
              refine stepOK_value (v := .int .i64 (ab : Nat)) (w' := w1) (by go_simp; first | done | exact DO.out) (leaves_mk (Below.refl _ _) rfl (fun h => by cases h))
            · intro vals w1 hb hd
              refine stepOK_value (v := (.int .i64 (n' : Nat))) (w' := w1) (by go_simp) (leaves_mk (Below.refl _ _) rfl (fun h => by cases h))
            · intro vals w1 hb hd
              have d0 : KEq (.agg #[.int .i64 kv, .slice ka kn kc, .int .i64 kr]) (vals 0) w1 := hd 0 (by kernel_rfl)
              have d1 : KEq (.int .i64 (V : Nat)) (vals 1) w1 := hd 1 (by kernel_rfl)
              have d6 : KEq (.int .i64 (ab : Nat)) (vals 6) w1 := hd 6 (by kernel_rfl)
              have d7 : KEq ((.int .i64 (n' : Nat))) (vals 7) w1 := hd 7 (by kernel_rfl)
              have HS := Lib.hid (MC.out ▸ rwalk_any V hV N t' HSZ.out _ ab n' w1 (HTV.out.below (HB.out.step hb)) HAB.out hn')
              have z0 : vals 0 = _ := d0
              rw [z0]; clear z0
              have z1 : vals 1 = _ := d1
              rw [z1]; clear z1
              have z6 : vals 6 = _ := d6
              rw [z6]; clear z6
              have z7 : vals 7 = _ := d7
              rw [z7]; clear z7
              refine stepOK_call (by go_simp; first | done | exact ⟨⟨rfl, rfl⟩, rfl⟩) ?_
              (with_reducible refine HS.out.mono ?_); rintro e w2 ⟨rfl, hb2⟩
              exact ⟨_, rfl, leaves_mk hb2 rfl (fun h => by cases h)⟩
            · intro vals w1 hb hd
              have d8 : KEq (.tuple #[.int .i64 (m : Nat), .int .i64 (ec : Nat)]) (vals 8) w1 := hd 8 (by kernel_rfl)
              rw [show vals 8 = _ from d8]
              refine stepOK_value (v := (.tuple #[.int .i64 (m : Nat), .int .i64 (ec : Nat)])) (w' := w1) (by go_simp) (leaves_mk (Below.refl _ _) rfl (fun h => by cases h))
            · intro vals w1 hb hd
              have d9 : KEq ((.tuple #[.int .i64 (m : Nat), .int .i64 (ec : Nat)])) (vals 9) w1 := hd 9 (by kernel_rfl)
              rw [show vals 9 = _ from d9]
              refine stepOK_value (v := .int .i64 (m : Nat)) (w' := w1) (by go_simp) (leaves_mk (Below.refl _ _) rfl (fun h => by cases h))
            · intro vals w1 hb hd
              have d9 : KEq ((.tuple #[.int .i64 (m : Nat), .int .i64 (ec : Nat)])) (vals 9) w1 := hd 9 (by kernel_rfl)
              rw [show vals 9 = _ from d9]
              refine stepPure_value (v := .int .i64 (ec : Nat)) (fun w => by go_simp) (leaves_mk (Below.refl _ _) rfl (fun h => by cases h))
          case tl19 =>
              intro vals w5 hb5 hf hdis
              simp only [List.drop_succ_cons, List.drop_zero]
              have z10 : vals 10 = _ := hf 10 (by decide)
              have z11 : vals 11 = _ := hf 11 (by decide)
              rw [z10, z11]
              clear z10 z11 hf hdis
              have HB5 := Lib.hid (HB0.out.trans (hb5.mono HB0.out.size)); have BW5 := Lib.hid (BW.out.trans (hb5.mono BW.out.size))
              clear hb5
              by_cases E : ec = 0
              · have TC2 := TC.2 E
                have TS2 := Lib.hid (show trsErr V ks ab (n + 1) = trsErr V (ks.drop (j + 1)) ab m by rw [TS.out, TD.out, if_neg (by rw [← MM.out.2, E]; decide), MM.out.1])
                subst E
                clear TC
                go_wp2_with fail
                go_roundw
                case rel => exact ⟨j + 1, m, by omega, by go_num, rfl, TC2, Lib.hid BW5.out, Lib.hid TS2.out⟩
                case measure => simp [intOf]; omega
              · have R := Lib.hid (show trErr V (.mk (vn : Nat) ks 0) above n = (m, ec) by rw [TE.out, TS.out, TD.out, if_pos (by rw [← MM.out.2]; exact E), MM.out.1, MM.out.2])
                have E' : ((ec : Int) != 0) = true := bne_iff_ne.2 (by omega)
                clear TC E
                go_wp2_with fail
                go_ret2
                exact ⟨by rw [R.out]; rfl, HB5.out⟩
        · have hj' : j = 2 := by omega
          subst hj'
          have R := Lib.hid (show trErr V (.mk (vn : Nat) ks 0) above n = (n', 0) by rw [TE.out, TS.out, List.drop_of_length_le (by rw [HL.out]; exact Nat.le_refl _)]; rfl)
          go_wp2_with fail
          go_ret2
          exact ⟨by rw [R.out]; rfl, HBo.out⟩

set_option maxRecDepth 100000 in
set_option maxHeartbeats 2000000 in
theorem rscheck_any (x : Value) (t : Tr) (vars : Int) (w : World) (ht : TrV w x t) (hv : 0 ≤ vars ∧ vars ≤ 24) :
    Calls Tryz.prog 28 #[x, .int .i64 vars] w (RetV w (.int .i64 ((trErr vars t 0 0).2 : Nat))) := by
  obtain ⟨V, rfl⟩ : ∃ V : Nat, vars = V := ⟨vars.toNat, by omega⟩
  obtain ⟨v, r, ao, kn, c, rfl⟩ := ht.shape
  obtain ⟨W, hW⟩ : ∃ W, W = w.alloc (.cells #[.int .i64 v, .slice ao kn c, .int .i64 r] 27) := ⟨_, rfl⟩
  have hbW : Below w.heap.size w W := by rw [hW]; exact (Below.refl _ _).alloc (Nat.le_refl _) _
  have hk := rwalk_any V (by omega) _ t (Nat.lt_succ_self _) _ 0 0 W (ht.below hbW) (by decide) (by decide)
  rw [show ((0 : Nat) : Int) = 0 from rfl] at hk
  have HK := Lib.hid hk; clear hk
  have HBW := Lib.hid hbW
  clear hbW ht
  go_enter Tryz.func28, Tryz.ntmps28
  go_wp2_with (with_reducible refine pauseCall ?_)
  rw [← hW]; clear hW
  refine Pause.mk ?_
  (with_reducible refine HK.out.mono ?_); rintro e w6 ⟨rfl, hb6⟩
  have hb7 := HBW.out.trans (hb6.mono HBW.out.size)
  clear hb6 HK HBW
  go_wp2_with fail
  go_ret
  exact ⟨rfl, hb7⟩
end Go.Proofs.YthhgfhdmfhnklaaGreatDoor
/-
  Error of the reference of proof.
  Conditions: each theorem's own.
-/
namespace Go.Proofs.YthhgfhdmfhnklaaGreatDoor
open Go.RowKit Go.ChangeShapes Go.WideShapes

set_option maxRecDepth 100000 in
set_option maxHeartbeats 4000000 in
theorem rerror_any (vf x : Value) (f : Fm) (t : Tr) (w : World) (hf : FmV w vf f) (ht : TrV w x t) :
    Calls Tryz.prog 40 #[vf, x] w (RetV w (.int .i64 (cErr f t : Nat))) := by
  obtain ⟨nv, rfl, hn, hv, htp⟩ := hf
  obtain ⟨ao, c, rfl, hc, hc2, _⟩ := hn.shape
  have HF := Lib.hid (show FmV w _ f from ⟨_, rfl, hn, hv, htp⟩)
  have HT := Lib.hid ht
  obtain ⟨tv, tr, ta, tn, tc, rfl⟩ := ht.shape
  obtain ⟨W, hW⟩ : ∃ W, W = (w.alloc (.cells #[.int .i64 f.vars, .slice ao f.nodes.length c, .int .i64 f.top] 24)).alloc (.cells #[.int .i64 tv, .slice ta tn tc, .int .i64 tr] 27) := ⟨_, rfl⟩
  have hbW : Below w.heap.size w W := by rw [hW]; exact ((Below.refl _ _).alloc (Nat.le_refl _) _).alloc (by simp) _
  have hg1 : W.heap[w.heap.size]? = some (.cells #[.int .i64 f.vars, .slice ao f.nodes.length c, .int .i64 f.top] 24) := by rw [hW]; exact heap_alloc2_old w _ _
  have hg2 : W.heap[w.heap.size + 1]? = some (.cells #[.int .i64 tv, .slice ta tn tc, .int .i64 tr] 27) := by rw [hW]; exact heap_alloc2_new w _ _
  obtain ⟨g1, hG1⟩ : ∃ g, g = w.heap.size := ⟨_, rfl⟩
  obtain ⟨g2, hG2⟩ : ∃ g, g = w.heap.size + 1 := ⟨_, rfl⟩
  rw [← hG1] at hg1; rw [← hG2] at hg2
  have HBW := Lib.hid hbW; have G1 := Lib.hid hg1; have G2 := Lib.hid hg2
  obtain ⟨x0, x1, x2⟩ := row3 hg1
  obtain ⟨y0, y1, y2⟩ := row3 hg2
  rw [hW, hG1] at x0 x1 x2
  rw [hW, hG2] at y0 y1 y2
  clear hbW hg1 hg2 hn hv htp ht
  have HK := Lib.hid (rfcheck_any _ f W (HF.out.below HBW.out))
  obtain ⟨ec, hec⟩ : ∃ ec, cErr f t = ec := ⟨_, rfl⟩
  rw [hec]
  go_enter Tryz.func40, Tryz.ntmps40
  go_wp2_with (with_reducible refine pauseCall ?_)
  rw [← hW, ← hG2, ← hG1]; clear hW hG1 hG2 x0 x1 x2 y0 y1 y2
  refine Pause.mk ?_
  (with_reducible refine HK.out.mono ?_); rintro e w1 ⟨rfl, hb1⟩
  have HB1 := Lib.hid (HBW.out.trans (hb1.mono HBW.out.size))
  obtain ⟨x0, x1, x2⟩ := row3 (heap_below G1.out hb1)
  obtain ⟨y0, y1, y2⟩ := row3 (heap_below G2.out hb1)
  clear hb1 HK
  by_cases h0 : fmErr f = 0
  · obtain ⟨p0, p1, _, _⟩ := fmErr_parts h0
    rw [cErr_t h0] at hec
    have HK := Lib.hid (rscheck_any _ t f.vars w1 (HT.out.below HB1.out) ⟨p0, p1⟩)
    rw [hec] at HK
    rw [h0]
    clear hec
    go_wp2_with (with_reducible refine pauseCall ?_)
    refine Pause.mk ?_
    (with_reducible refine HK.out.mono ?_); rintro e w2 ⟨rfl, hb2⟩
    have HB2 := Lib.hid (HB1.out.trans (hb2.mono HB1.out.size))
    clear hb2 HK x0 x1 x2 y0 y1 y2
    go_wp2_with fail
    go_ret
    exact ⟨rfl, HB2.out⟩
  · rw [cErr_f h0] at hec
    rw [hec] at h0 ⊢
    clear hec
    have h0' : ¬ ((ec : Nat) : Int) = 0 := by omega
    go_wp2_with fail
    go_ret
    exact ⟨rfl, HB1.out⟩
end Go.Proofs.YthhgfhdmfhnklaaGreatDoor
/-
  The reference's Leaves: the leaves of a tree, or the error.
  Conditions: each theorem's own.
-/
namespace Go.Proofs.YthhgfhdmfhnklaaGreatDoor
open Go.RowKit Go.ChangeShapes Go.WideShapes


set_option maxRecDepth 100000 in
set_option maxHeartbeats 2000000 in
theorem rLeaves_any (x : Value) (t : Tr) (vars : Int) (w : World) (ht : TrV w x t) (hv : 0 ≤ vars ∧ vars ≤ 24) (ec : Nat) (hec : (trErr vars t 0 0).2 = ec) :
    Calls Tryz.prog 41 #[x, .int .i64 vars] w (fun e w' => ∃ v', e = .returned (.tuple #[v', .int .i64 (ec : Nat)]) ∧ Below w.heap.size w w' ∧ (ec = 0 → LfsV w' v' (trLeaves t 0 0))) := by
  obtain ⟨v, r, ao, kn, c, rfl⟩ := ht.shape
  obtain ⟨W, hW⟩ : ∃ W, W = w.alloc (.cells #[.int .i64 v, .slice ao kn c, .int .i64 r] 27) := ⟨_, rfl⟩
  have hbW : Below w.heap.size w W := by rw [hW]; exact (Below.refl _ _).alloc (Nat.le_refl _) _
  have hB1 : W.heap[w.heap.size]? = some (.cells #[.int .i64 v, .slice ao kn c, .int .i64 r] 27) := by rw [hW]; exact heap_alloc_new w _
  have HK := Lib.hid (rscheck_any _ t vars W (ht.below hbW) hv)
  rw [hec] at HK
  have HT := Lib.hid ht; have HBW := Lib.hid hbW; have B1 := Lib.hid hB1
  clear hbW ht hB1
  go_enter Tryz.func41, Tryz.ntmps41
  go_wp2_with (with_reducible refine pauseCall ?_)
  rw [← hW]
  refine Pause.mk ?_
  (with_reducible refine HK.out.mono ?_); rintro e w1 ⟨rfl, hb1⟩
  have HB1 := Lib.hid (HBW.out.trans (hb1.mono HBW.out.size))
  obtain ⟨x0, x1, x2⟩ := row3 (heap_below B1.out hb1)
  clear hb1 HK hW
  by_cases h0 : ec = 0
  · obtain ⟨m, hm⟩ : ∃ m, trErr vars t 0 0 = (m, 0) := ⟨_, Prod.ext rfl (hec.trans h0)⟩
    obtain ⟨k1, k2, k3⟩ := trErr_ok t 0 0 m hm
    obtain ⟨V, rfl⟩ : ∃ V : Nat, vars = V := ⟨vars.toNat, by omega⟩
    have hlv := (trDep_le t).2
    have hk := rbelow_any V (by omega) _ t (Nat.lt_succ_self _) _ 0 0 0 w1 (HT.out.below HB1.out) k1 (by decide) (by decide) (by omega)
    rw [show ((0 : Nat) : Int) = 0 from rfl] at hk
    have HK := Lib.hid hk
    clear hm k1 k2 k3 hk hec
    subst h0
    go_wp2_with (with_reducible refine pauseCall ?_)
    refine Pause.mk ?_
    (with_reducible refine HK.out.mono ?_); rintro e w2 ⟨v', rfl, hb2, ho⟩
    have HB2 := Lib.hid (HB1.out.trans (hb2.mono HB1.out.size)); have HL := Lib.hid (own_lfs ho)
    clear hb2 ho HK x0 x1 x2
    go_wp2_with fail
    go_ret2
    exact ⟨_, rfl, HB2.out, by first | exact HL.out | (intro _; exact HL.out)⟩
  · have h0' : ((ec : Int) != 0) = true := bne_iff_ne.2 (by omega)
    go_wp2_with fail
    go_ret2
    exact ⟨_, rfl, HB1.out, fun h => absurd h h0⟩
end Go.Proofs.YthhgfhdmfhnklaaGreatDoor
/-
  wrong and Verify of the reference of proof.
  Conditions: each theorem's own.
-/
namespace Go.Proofs.YthhgfhdmfhnklaaGreatDoor
open Go.RowKit Go.ChangeShapes Go.WideShapes

theorem unwanted_undef {ops : Array Oper} {o : Oper} {tmps : Array Value} {g : Nat} {t : Tmp} {want : Bool} (hg : o.guard = some (g, want)) (hd : (ops[g]?).bind (·.dst) = some t) (ht : tmps[t]? = some undef) : Region.wanted o (yielded ops tmps) = false := by
  have hy : yielded ops tmps g = none := by unfold yielded; rw [hd]; show (match tmps[t]? with | some (.bool b) => some b | _ => none) = none; rw [ht]; rfl
  unfold Region.wanted; rw [hg]
  simp [hy]
set_option maxRecDepth 100000 in
set_option maxHeartbeats 4000000 in
theorem rwrong_any (vf v : Value) (f : Fm) (l : List Lf) (w : World) (hf : FmV w vf f) (hl : LfsV w v l) (h0 : fmErr f = 0) (hcu : ∀ x ∈ l, CubeOK f.vars x.yes x.no) (hr : ∀ x ∈ l, I64 x.reason) (hlen : l.length ≤ 4096) :
    Calls Tryz.prog 42 #[vf, v] w (RetV w (.int .i64 (firstBad f l 0))) := by
  obtain ⟨nv, rfl, hn, hv, htp⟩ := hf
  obtain ⟨ao, c, rfl, hc, hc2, _⟩ := hn.shape
  have HF := Lib.hid (show FmV w _ f from ⟨_, rfl, hn, hv, htp⟩)
  obtain ⟨al, cl, rfl, hcl, hcl2, _⟩ := hl.shape
  have HL := Lib.hid hl
  obtain ⟨W, hW⟩ : ∃ W, W = w.alloc (.cells #[.int .i64 f.vars, .slice ao f.nodes.length c, .int .i64 f.top] 24) := ⟨_, rfl⟩
  have hbW : Below w.heap.size w W := by rw [hW]; exact (Below.refl _ _).alloc (Nat.le_refl _) _
  have hg1 : W.heap[w.heap.size]? = some (.cells #[.int .i64 f.vars, .slice ao f.nodes.length c, .int .i64 f.top] 24) := by rw [hW]; exact heap_alloc_new w _
  obtain ⟨g1, hG1⟩ : ∃ g, g = w.heap.size := ⟨_, rfl⟩
  rw [← hG1] at hg1
  have HBW := Lib.hid hbW; have G1 := Lib.hid hg1; have HCU := Lib.hid hcu; have HR := Lib.hid hr; have E0 := Lib.hid h0
  have hnd := (fmErr_parts h0).2.2.2
  have HND := Lib.hid hnd
  clear hbW hg1 hn hv htp hl hcu hr hnd h0
  go_enter Tryz.func42, Tryz.ntmps42
  go_wp2_with fail
  rw [← hW, ← hG1]; clear hW hG1
  go_loopw [9] (fun i' wx => ∃ q : Nat, q ≤ l.length ∧ i' = .int .i64 q ∧ Hid (Below W.heap.size W wx) ∧ Hid (firstBad f l 0 = firstBad f (l.drop q) q)) (fun i' _ => l.length - (intOf i').toNat)
  case atStart => exact ⟨0, Nat.zero_le _, rfl, Lib.hid (Below.refl _ _), Lib.hid rfl⟩
  case round =>
    obtain ⟨q, hq, rfl, BX, FB⟩ := hrel
    obtain ⟨wo, rfl⟩ : ∃ wo : World, wo = wr := ⟨_, rfl⟩
    have HBo := Lib.hid (HBW.out.trans (BX.out.mono HBW.out.size))
    by_cases hlt : q < l.length
    · obtain ⟨x, hx⟩ : ∃ x, l[q]? = some x := ⟨l[q], List.getElem?_eq_getElem hlt⟩
      obtain ⟨bl, ol, rfl, hbl, hjk, hat⟩ := (HL.out.below HBo.out).at (by omega); clear hjk
      obtain ⟨c0, c1, c2⟩ := hat q x hx
      have hmem := List.mem_of_getElem? hx
      have FD := Lib.hid (firstBad_drop (f := f) hx)
      have BP := Lib.hid (bad_ref HND.out x)
      have hri := HR.out x hmem
      unfold I64 at hri
      have HCX := Lib.hid (HCU.out x hmem)
      clear hat hx hmem
      obtain ⟨xy, xn, xr⟩ := x
      simp only at c0 c1 c2 hri HCX
      obtain ⟨w4, hw4⟩ : ∃ w4, w4 = wo.alloc (.cells #[.int .i64 (xy : Nat), .int .i64 (xn : Nat), .int .i64 xr] 48) := ⟨_, rfl⟩
      have hb4 : Below wo.heap.size wo w4 := by rw [hw4]; exact (Below.refl _ _).alloc (Nat.le_refl _) _
      have hx4 : w4.heap[wo.heap.size]? = some (.cells #[.int .i64 (xy : Nat), .int .i64 (xn : Nat), .int .i64 xr] 48) := by rw [hw4]; exact heap_alloc_new wo _
      obtain ⟨g4, hg4⟩ : ∃ g, g = wo.heap.size := ⟨_, rfl⟩
      rw [← hg4] at hx4
      have HB4 := Lib.hid (HBo.out.trans (hb4.mono HBo.out.size)); have BX4 := Lib.hid (BX.out.trans (hb4.mono BX.out.size))
      have G4 := Lib.hid hx4
      have G1' := Lib.hid (heap_below G1.out BX4.out)
      have hltz : (q : Int) < (l.length : Int) := by omega
      clear hb4 hx4
      go_wp2_with (with_reducible first | refine pauseCall ?_ | refine pauseLoop ?_ | refine pauseDraw ?_ | refine pauseBody ?_ | refine pauseRounds ?_)
      rw [← hw4, ← hg4]
      clear hw4 hg4 c0 c1 c2
      refine Pause.mk ?_
      try simp only at BP FD
      obtain ⟨fv, hfv⟩ : ∃ fv, fmVal f xy xn = fv := ⟨_, rfl⟩
      rw [hfv] at BP
      have HV := Lib.hid hfv; clear hfv
      have hcase : xr < 0 ∨ 2 < xr ∨ xr = 2 ∨ (0 ≤ xr ∧ xr < 2) := by omega
      rcases hcase with hxr | hxr | hxr | hxr
      · skip
        have R := Lib.hid (show firstBad f l 0 = (q : Int) by rw [FB.out, FD.out, if_pos (by rw [BP.out]; simp; omega)])
        have DV := Lib.hid (show xr < 0 by omega)
        refine wp_region_facts (A := ?aaA) (w := w4) 21 [] (by kernel_rfl) (Fl [KEq (.pointer (some ⟨g4, 2, none⟩)), KEq (.int .i64 xr), KEq (.bool true), KEq (.bool true), KAny, KAny, KAny, KEq (.bool true), KEq (.bool true), KAny, KAny, KAny, KEq undef, KAny, KAny, KAny, KAny, KAny, KAny, KAny, KAny]) (fun i => false) (by kernel_rfl) ?hqA (monoL (monoC (kEq _) (monoC (kEq _) (monoC (kEq _) (monoC (kEq _) (monoC (kAny) (monoC (kAny) (monoC (kAny) (monoC (kEq _) (monoC (kEq _) (monoC (kAny) (monoC (kAny) (monoC (kAny) (monoC (kEq _) (monoC (kAny) (monoC (kAny) (monoC (kAny) (monoC (kAny) (monoC (kAny) (monoC (kAny) (monoC (kAny) (monoC (kAny) monoN)))))))))))))))))))))) ?haA ?stA ?tlA
        case hqA =>
          intro c a d v w h
          first | (simp only [Exit.then] at h ⊢; exact h) | (simp only [Exit.inBlock, Exit.then] at h ⊢; exact h) | exact h
        case haA =>
          intro vals
          simp only [putsTo, dstOf, if_true, Act.put, List.setIfInBounds_toArray, List.set_cons_zero, List.set_cons_succ, List.getElem?_toArray, List.getElem?_cons_zero, List.getElem?_cons_succ, Option.bind_some]
          exact rfl
        case stA =>
          simp only [List.take_succ_cons, List.take_zero]
          refine stepsOK_cons rfl rfl ?_ (stepsOK_cons rfl rfl ?_ (stepsOK_cons rfl rfl ?_ (stepsOK_cons rfl rfl ?_ (stepsOK_guard rfl ?_ (stepsOK_guard rfl ?_ (stepsOK_guard rfl ?_ (stepsOK_cons rfl rfl ?_ (stepsOK_cons rfl rfl ?_ (stepsOK_guard rfl ?_ (stepsOK_guard rfl ?_ (stepsOK_guard rfl ?_ (stepsOK_guard rfl ?_ (stepsOK_guard rfl ?_ (stepsOK_guard rfl ?_ (stepsOK_guard rfl ?_ (stepsOK_guard rfl ?_ (stepsOK_guard rfl ?_ (stepsOK_guard rfl ?_ (stepsOK_guard rfl ?_ (stepsOK_guard rfl ?_ (stepsOK_nil)))))))))))))))))))))
          · intro vals w1 hb hd
            refine stepOK_value (v := .pointer (some ⟨g4, 2, none⟩)) (w' := w1) (by go_simp) (leaves_mk (Below.refl _ _) rfl (fun h => by cases h))
          · intro vals w1 hb hd
            have d0 : KEq (.pointer (some ⟨g4, 2, none⟩)) (vals 0) w1 := hd 0 (by kernel_rfl)
            obtain ⟨e0, e1, e2⟩ := row3 (heap_below G4.out hb)
            rw [show vals 0 = _ from d0]
            refine stepOK_value (v := .int .i64 xr) (w' := w1) (by go_simp) (leaves_mk (Below.refl _ _) rfl (fun h => by cases h))
          · intro vals w1 hb hd
            have d1 : KEq (.int .i64 xr) (vals 1) w1 := hd 1 (by kernel_rfl)
            rw [show vals 1 = _ from d1]
            refine stepOK_value (v := .bool true) (w' := w1) (by go_simp; first | done | exact DV.out | omega | (simp only [decide_eq_true_eq, decide_eq_false_iff_not]; omega) | (simp; omega)) (leaves_mk (Below.refl _ _) rfl (fun h => by cases h))
          · intro vals w1 hb hd
            have d2 : KEq (.bool true) (vals 2) w1 := hd 2 (by kernel_rfl)
            rw [show vals 2 = _ from d2]
            refine stepOK_value (v := .bool true) (w' := w1) (by go_simp) (leaves_mk (Below.refl _ _) rfl (fun h => by cases h))
          · intro vals w1 hb hd
            have dg : KEq (.bool true) (vals 3) w1 := hd 3 (by kernel_rfl)
            refine stepG_no (unwanted_of rfl rfl (congrArg some dg) rfl) ?_
            clear dg
            exact leaves_mk (Below.refl _ _) trivial (fun h => by cases h)
          · intro vals w1 hb hd
            have dg : KEq (.bool true) (vals 3) w1 := hd 3 (by kernel_rfl)
            refine stepG_no (unwanted_of rfl rfl (congrArg some dg) rfl) ?_
            clear dg
            exact leaves_mk (Below.refl _ _) trivial (fun h => by cases h)
          · intro vals w1 hb hd
            have dg : KEq (.bool true) (vals 3) w1 := hd 3 (by kernel_rfl)
            refine stepG_no (unwanted_of rfl rfl (congrArg some dg) rfl) ?_
            clear dg
            exact leaves_mk (Below.refl _ _) trivial (fun h => by cases h)
          · intro vals w1 hb hd
            have d3 : KEq (.bool true) (vals 3) w1 := hd 3 (by kernel_rfl)
            rw [show vals 3 = _ from d3]
            refine stepOK_value (v := .bool true) (w' := w1) (by go_simp) (leaves_mk (Below.refl _ _) rfl (fun h => by cases h))
          · intro vals w1 hb hd
            have d7 : KEq (.bool true) (vals 7) w1 := hd 7 (by kernel_rfl)
            rw [show vals 7 = _ from d7]
            refine stepOK_value (v := .bool true) (w' := w1) (by go_simp) (leaves_mk (Below.refl _ _) rfl (fun h => by cases h))
          · intro vals w1 hb hd
            have dg : KEq (.bool true) (vals 8) w1 := hd 8 (by kernel_rfl)
            refine stepG_no (unwanted_of rfl rfl (congrArg some dg) rfl) ?_
            clear dg
            exact leaves_mk (Below.refl _ _) trivial (fun h => by cases h)
          · intro vals w1 hb hd
            have dg : KEq (.bool true) (vals 8) w1 := hd 8 (by kernel_rfl)
            refine stepG_no (unwanted_of rfl rfl (congrArg some dg) rfl) ?_
            clear dg
            exact leaves_mk (Below.refl _ _) trivial (fun h => by cases h)
          · intro vals w1 hb hd
            have dg : KEq (.bool true) (vals 8) w1 := hd 8 (by kernel_rfl)
            refine stepG_no (unwanted_of rfl rfl (congrArg some dg) rfl) ?_
            clear dg
            exact leaves_mk (Below.refl _ _) trivial (fun h => by cases h)
          · intro vals w1 hb hd
            have dg : KEq (.bool true) (vals 8) w1 := hd 8 (by kernel_rfl)
            refine stepG_no (unwanted_of rfl rfl (congrArg some dg) rfl) ?_
            clear dg
            exact leaves_mk (Below.refl _ _) rfl (fun h => by cases h)
          · intro vals w1 hb hd
            have dg : KEq (undef) (vals 12) w1 := hd 12 (by kernel_rfl)
            refine stepG_no (unwanted_undef rfl rfl (congrArg some dg)) ?_
            clear dg
            exact leaves_mk (Below.refl _ _) trivial (fun h => by cases h)
          · intro vals w1 hb hd
            have dg : KEq (undef) (vals 12) w1 := hd 12 (by kernel_rfl)
            refine stepG_no (unwanted_undef rfl rfl (congrArg some dg)) ?_
            clear dg
            exact leaves_mk (Below.refl _ _) trivial (fun h => by cases h)
          · intro vals w1 hb hd
            have dg : KEq (undef) (vals 12) w1 := hd 12 (by kernel_rfl)
            refine stepG_no (unwanted_undef rfl rfl (congrArg some dg)) ?_
            clear dg
            exact leaves_mk (Below.refl _ _) trivial (fun h => by cases h)
          · intro vals w1 hb hd
            have dg : KEq (undef) (vals 12) w1 := hd 12 (by kernel_rfl)
            refine stepG_no (unwanted_undef rfl rfl (congrArg some dg)) ?_
            clear dg
            exact leaves_mk (Below.refl _ _) trivial (fun h => by cases h)
          · intro vals w1 hb hd
            have dg : KEq (undef) (vals 12) w1 := hd 12 (by kernel_rfl)
            refine stepG_no (unwanted_undef rfl rfl (congrArg some dg)) ?_
            clear dg
            exact leaves_mk (Below.refl _ _) trivial (fun h => by cases h)
          · intro vals w1 hb hd
            have dg : KEq (undef) (vals 12) w1 := hd 12 (by kernel_rfl)
            refine stepG_no (unwanted_undef rfl rfl (congrArg some dg)) ?_
            clear dg
            exact leaves_mk (Below.refl _ _) trivial (fun h => by cases h)
          · intro vals w1 hb hd
            have dg : KEq (undef) (vals 12) w1 := hd 12 (by kernel_rfl)
            refine stepG_no (unwanted_undef rfl rfl (congrArg some dg)) ?_
            clear dg
            exact leaves_mk (Below.refl _ _) trivial (fun h => by cases h)
          · intro vals w1 hb hd
            have dg : KEq (.bool true) (vals 8) w1 := hd 8 (by kernel_rfl)
            refine stepG_no (unwanted_of rfl rfl (congrArg some dg) rfl) ?_
            clear dg
            exact leaves_mk (Below.refl _ _) trivial (fun h => by cases h)
        case tlA =>
          intro vals w5 hb5 hf hdis
          simp only [List.drop_succ_cons, List.drop_zero]
          have z8 : vals 8 = _ := hf 8 (by decide)
          rw [z8]; clear z8
          clear hf hdis
          have BX5 := Lib.hid (BX4.out.trans (hb5.mono BX4.out.size)); have HB5 := Lib.hid (HB4.out.trans (hb5.mono HB4.out.size))
          clear hb5
          go_wp2_with fail
          go_ret
          exact ⟨by rw [R.out]; rfl, HB5.out⟩
      · skip
        have R := Lib.hid (show firstBad f l 0 = (q : Int) by rw [FB.out, FD.out, if_pos (by rw [BP.out]; simp; omega)])
        have DV := Lib.hid (show 2 < xr by omega)
        refine wp_region_facts (A := ?aaB) (w := w4) 21 [] (by kernel_rfl) (Fl [KEq (.pointer (some ⟨g4, 2, none⟩)), KEq (.int .i64 xr), KEq (.bool false), KEq (.bool false), KEq (.pointer (some ⟨g4, 2, none⟩)), KEq (.int .i64 xr), KEq (.bool true), KEq (.bool true), KEq (.bool true), KAny, KAny, KAny, KEq undef, KAny, KAny, KAny, KAny, KAny, KAny, KAny, KAny]) (fun i => false) (by kernel_rfl) ?hqB (monoL (monoC (kEq _) (monoC (kEq _) (monoC (kEq _) (monoC (kEq _) (monoC (kEq _) (monoC (kEq _) (monoC (kEq _) (monoC (kEq _) (monoC (kEq _) (monoC (kAny) (monoC (kAny) (monoC (kAny) (monoC (kEq _) (monoC (kAny) (monoC (kAny) (monoC (kAny) (monoC (kAny) (monoC (kAny) (monoC (kAny) (monoC (kAny) (monoC (kAny) monoN)))))))))))))))))))))) ?haB ?stB ?tlB
        case hqB =>
          intro c a d v w h
          first | (simp only [Exit.then] at h ⊢; exact h) | (simp only [Exit.inBlock, Exit.then] at h ⊢; exact h) | exact h
        case haB =>
          intro vals
          simp only [putsTo, dstOf, if_true, Act.put, List.setIfInBounds_toArray, List.set_cons_zero, List.set_cons_succ, List.getElem?_toArray, List.getElem?_cons_zero, List.getElem?_cons_succ, Option.bind_some]
          exact rfl
        case stB =>
          simp only [List.take_succ_cons, List.take_zero]
          refine stepsOK_cons rfl rfl ?_ (stepsOK_cons rfl rfl ?_ (stepsOK_cons rfl rfl ?_ (stepsOK_cons rfl rfl ?_ (stepsOK_guard rfl ?_ (stepsOK_guard rfl ?_ (stepsOK_guard rfl ?_ (stepsOK_cons rfl rfl ?_ (stepsOK_cons rfl rfl ?_ (stepsOK_guard rfl ?_ (stepsOK_guard rfl ?_ (stepsOK_guard rfl ?_ (stepsOK_guard rfl ?_ (stepsOK_guard rfl ?_ (stepsOK_guard rfl ?_ (stepsOK_guard rfl ?_ (stepsOK_guard rfl ?_ (stepsOK_guard rfl ?_ (stepsOK_guard rfl ?_ (stepsOK_guard rfl ?_ (stepsOK_guard rfl ?_ (stepsOK_nil)))))))))))))))))))))
          · intro vals w1 hb hd
            refine stepOK_value (v := .pointer (some ⟨g4, 2, none⟩)) (w' := w1) (by go_simp) (leaves_mk (Below.refl _ _) rfl (fun h => by cases h))
          · intro vals w1 hb hd
            have d0 : KEq (.pointer (some ⟨g4, 2, none⟩)) (vals 0) w1 := hd 0 (by kernel_rfl)
            obtain ⟨e0, e1, e2⟩ := row3 (heap_below G4.out hb)
            rw [show vals 0 = _ from d0]
            refine stepOK_value (v := .int .i64 xr) (w' := w1) (by go_simp) (leaves_mk (Below.refl _ _) rfl (fun h => by cases h))
          · intro vals w1 hb hd
            have d1 : KEq (.int .i64 xr) (vals 1) w1 := hd 1 (by kernel_rfl)
            rw [show vals 1 = _ from d1]
            refine stepOK_value (v := .bool false) (w' := w1) (by go_simp; first | done | exact DV.out | omega | (simp only [decide_eq_true_eq, decide_eq_false_iff_not]; omega) | (simp; omega)) (leaves_mk (Below.refl _ _) rfl (fun h => by cases h))
          · intro vals w1 hb hd
            have d2 : KEq (.bool false) (vals 2) w1 := hd 2 (by kernel_rfl)
            rw [show vals 2 = _ from d2]
            refine stepOK_value (v := .bool false) (w' := w1) (by go_simp) (leaves_mk (Below.refl _ _) rfl (fun h => by cases h))
          · intro vals w1 hb hd
            have dg : KEq (.bool false) (vals 3) w1 := hd 3 (by kernel_rfl)
            refine stepG_yes (wanted_of rfl rfl (congrArg some dg) rfl) ?_
            clear dg
            refine stepOK_value (v := .pointer (some ⟨g4, 2, none⟩)) (w' := w1) (by go_simp) (leaves_mk (Below.refl _ _) rfl (fun h => by cases h))
          · intro vals w1 hb hd
            have dg : KEq (.bool false) (vals 3) w1 := hd 3 (by kernel_rfl)
            refine stepG_yes (wanted_of rfl rfl (congrArg some dg) rfl) ?_
            clear dg
            have d4 : KEq (.pointer (some ⟨g4, 2, none⟩)) (vals 4) w1 := hd 4 (by kernel_rfl)
            obtain ⟨e0, e1, e2⟩ := row3 (heap_below G4.out hb)
            rw [show vals 4 = _ from d4]
            refine stepOK_value (v := .int .i64 xr) (w' := w1) (by go_simp) (leaves_mk (Below.refl _ _) rfl (fun h => by cases h))
          · intro vals w1 hb hd
            have dg : KEq (.bool false) (vals 3) w1 := hd 3 (by kernel_rfl)
            refine stepG_yes (wanted_of rfl rfl (congrArg some dg) rfl) ?_
            clear dg
            have d5 : KEq (.int .i64 xr) (vals 5) w1 := hd 5 (by kernel_rfl)
            rw [show vals 5 = _ from d5]
            refine stepOK_value (v := .bool true) (w' := w1) (by go_simp; first | done | exact DV.out | omega | (simp only [decide_eq_true_eq, decide_eq_false_iff_not]; omega) | (simp; omega)) (leaves_mk (Below.refl _ _) rfl (fun h => by cases h))
          · intro vals w1 hb hd
            have d3 : KEq (.bool false) (vals 3) w1 := hd 3 (by kernel_rfl)
            have d6 : KEq (.bool true) (vals 6) w1 := hd 6 (by kernel_rfl)
            rw [show vals 3 = _ from d3]
            rw [show vals 6 = _ from d6]
            refine stepOK_value (v := .bool true) (w' := w1) (by go_simp) (leaves_mk (Below.refl _ _) rfl (fun h => by cases h))
          · intro vals w1 hb hd
            have d7 : KEq (.bool true) (vals 7) w1 := hd 7 (by kernel_rfl)
            rw [show vals 7 = _ from d7]
            refine stepOK_value (v := .bool true) (w' := w1) (by go_simp) (leaves_mk (Below.refl _ _) rfl (fun h => by cases h))
          · intro vals w1 hb hd
            have dg : KEq (.bool true) (vals 8) w1 := hd 8 (by kernel_rfl)
            refine stepG_no (unwanted_of rfl rfl (congrArg some dg) rfl) ?_
            clear dg
            exact leaves_mk (Below.refl _ _) trivial (fun h => by cases h)
          · intro vals w1 hb hd
            have dg : KEq (.bool true) (vals 8) w1 := hd 8 (by kernel_rfl)
            refine stepG_no (unwanted_of rfl rfl (congrArg some dg) rfl) ?_
            clear dg
            exact leaves_mk (Below.refl _ _) trivial (fun h => by cases h)
          · intro vals w1 hb hd
            have dg : KEq (.bool true) (vals 8) w1 := hd 8 (by kernel_rfl)
            refine stepG_no (unwanted_of rfl rfl (congrArg some dg) rfl) ?_
            clear dg
            exact leaves_mk (Below.refl _ _) trivial (fun h => by cases h)
          · intro vals w1 hb hd
            have dg : KEq (.bool true) (vals 8) w1 := hd 8 (by kernel_rfl)
            refine stepG_no (unwanted_of rfl rfl (congrArg some dg) rfl) ?_
            clear dg
            exact leaves_mk (Below.refl _ _) rfl (fun h => by cases h)
          · intro vals w1 hb hd
            have dg : KEq (undef) (vals 12) w1 := hd 12 (by kernel_rfl)
            refine stepG_no (unwanted_undef rfl rfl (congrArg some dg)) ?_
            clear dg
            exact leaves_mk (Below.refl _ _) trivial (fun h => by cases h)
          · intro vals w1 hb hd
            have dg : KEq (undef) (vals 12) w1 := hd 12 (by kernel_rfl)
            refine stepG_no (unwanted_undef rfl rfl (congrArg some dg)) ?_
            clear dg
            exact leaves_mk (Below.refl _ _) trivial (fun h => by cases h)
          · intro vals w1 hb hd
            have dg : KEq (undef) (vals 12) w1 := hd 12 (by kernel_rfl)
            refine stepG_no (unwanted_undef rfl rfl (congrArg some dg)) ?_
            clear dg
            exact leaves_mk (Below.refl _ _) trivial (fun h => by cases h)
          · intro vals w1 hb hd
            have dg : KEq (undef) (vals 12) w1 := hd 12 (by kernel_rfl)
            refine stepG_no (unwanted_undef rfl rfl (congrArg some dg)) ?_
            clear dg
            exact leaves_mk (Below.refl _ _) trivial (fun h => by cases h)
          · intro vals w1 hb hd
            have dg : KEq (undef) (vals 12) w1 := hd 12 (by kernel_rfl)
            refine stepG_no (unwanted_undef rfl rfl (congrArg some dg)) ?_
            clear dg
            exact leaves_mk (Below.refl _ _) trivial (fun h => by cases h)
          · intro vals w1 hb hd
            have dg : KEq (undef) (vals 12) w1 := hd 12 (by kernel_rfl)
            refine stepG_no (unwanted_undef rfl rfl (congrArg some dg)) ?_
            clear dg
            exact leaves_mk (Below.refl _ _) trivial (fun h => by cases h)
          · intro vals w1 hb hd
            have dg : KEq (undef) (vals 12) w1 := hd 12 (by kernel_rfl)
            refine stepG_no (unwanted_undef rfl rfl (congrArg some dg)) ?_
            clear dg
            exact leaves_mk (Below.refl _ _) trivial (fun h => by cases h)
          · intro vals w1 hb hd
            have dg : KEq (.bool true) (vals 8) w1 := hd 8 (by kernel_rfl)
            refine stepG_no (unwanted_of rfl rfl (congrArg some dg) rfl) ?_
            clear dg
            exact leaves_mk (Below.refl _ _) trivial (fun h => by cases h)
        case tlB =>
          intro vals w5 hb5 hf hdis
          simp only [List.drop_succ_cons, List.drop_zero]
          have z8 : vals 8 = _ := hf 8 (by decide)
          rw [z8]; clear z8
          clear hf hdis
          have BX5 := Lib.hid (BX4.out.trans (hb5.mono BX4.out.size)); have HB5 := Lib.hid (HB4.out.trans (hb5.mono HB4.out.size))
          clear hb5
          go_wp2_with fail
          go_ret
          exact ⟨by rw [R.out]; rfl, HB5.out⟩
      · skip
        have NB := Lib.hid (show firstBad f l 0 = firstBad f (l.drop (q + 1)) (q + 1) by rw [FB.out, FD.out, if_neg (by rw [BP.out]; simp; omega)])
        have DV := Lib.hid (show ¬ xr < 2 by omega)
        refine wp_region_facts (A := ?aaC) (w := w4) 21 [] (by kernel_rfl) (Fl [KEq (.pointer (some ⟨g4, 2, none⟩)), KEq (.int .i64 xr), KEq (.bool false), KEq (.bool false), KEq (.pointer (some ⟨g4, 2, none⟩)), KEq (.int .i64 xr), KEq (.bool false), KEq (.bool false), KEq (.bool false), KEq (.pointer (some ⟨g4, 2, none⟩)), KEq (.int .i64 xr), KEq (.bool false), KEq (.bool false), KAny, KAny, KAny, KAny, KAny, KAny, KAny, KEq (.bool false)]) (fun i => false) (by kernel_rfl) ?hqC (monoL (monoC (kEq _) (monoC (kEq _) (monoC (kEq _) (monoC (kEq _) (monoC (kEq _) (monoC (kEq _) (monoC (kEq _) (monoC (kEq _) (monoC (kEq _) (monoC (kEq _) (monoC (kEq _) (monoC (kEq _) (monoC (kEq _) (monoC (kAny) (monoC (kAny) (monoC (kAny) (monoC (kAny) (monoC (kAny) (monoC (kAny) (monoC (kAny) (monoC (kEq _) monoN)))))))))))))))))))))) ?haC ?stC ?tlC
        case hqC =>
          intro c a d v w h
          first | (simp only [Exit.then] at h ⊢; exact h) | (simp only [Exit.inBlock, Exit.then] at h ⊢; exact h) | exact h
        case haC =>
          intro vals
          simp only [putsTo, dstOf, if_true, Act.put, List.setIfInBounds_toArray, List.set_cons_zero, List.set_cons_succ, List.getElem?_toArray, List.getElem?_cons_zero, List.getElem?_cons_succ, Option.bind_some]
          exact rfl
        case stC =>
          simp only [List.take_succ_cons, List.take_zero]
          refine stepsOK_cons rfl rfl ?_ (stepsOK_cons rfl rfl ?_ (stepsOK_cons rfl rfl ?_ (stepsOK_cons rfl rfl ?_ (stepsOK_guard rfl ?_ (stepsOK_guard rfl ?_ (stepsOK_guard rfl ?_ (stepsOK_cons rfl rfl ?_ (stepsOK_cons rfl rfl ?_ (stepsOK_guard rfl ?_ (stepsOK_guard rfl ?_ (stepsOK_guard rfl ?_ (stepsOK_guard rfl ?_ (stepsOK_guard rfl ?_ (stepsOK_guard rfl ?_ (stepsOK_guard rfl ?_ (stepsOK_guard rfl ?_ (stepsOK_guard rfl ?_ (stepsOK_guard rfl ?_ (stepsOK_guard rfl ?_ (stepsOK_guard rfl ?_ (stepsOK_nil)))))))))))))))))))))
          · intro vals w1 hb hd
            refine stepOK_value (v := .pointer (some ⟨g4, 2, none⟩)) (w' := w1) (by go_simp) (leaves_mk (Below.refl _ _) rfl (fun h => by cases h))
          · intro vals w1 hb hd
            have d0 : KEq (.pointer (some ⟨g4, 2, none⟩)) (vals 0) w1 := hd 0 (by kernel_rfl)
            obtain ⟨e0, e1, e2⟩ := row3 (heap_below G4.out hb)
            rw [show vals 0 = _ from d0]
            refine stepOK_value (v := .int .i64 xr) (w' := w1) (by go_simp) (leaves_mk (Below.refl _ _) rfl (fun h => by cases h))
          · intro vals w1 hb hd
            have d1 : KEq (.int .i64 xr) (vals 1) w1 := hd 1 (by kernel_rfl)
            rw [show vals 1 = _ from d1]
            refine stepOK_value (v := .bool false) (w' := w1) (by go_simp; first | done | exact DV.out | omega | (simp only [decide_eq_true_eq, decide_eq_false_iff_not]; omega) | (simp; omega)) (leaves_mk (Below.refl _ _) rfl (fun h => by cases h))
          · intro vals w1 hb hd
            have d2 : KEq (.bool false) (vals 2) w1 := hd 2 (by kernel_rfl)
            rw [show vals 2 = _ from d2]
            refine stepOK_value (v := .bool false) (w' := w1) (by go_simp) (leaves_mk (Below.refl _ _) rfl (fun h => by cases h))
          · intro vals w1 hb hd
            have dg : KEq (.bool false) (vals 3) w1 := hd 3 (by kernel_rfl)
            refine stepG_yes (wanted_of rfl rfl (congrArg some dg) rfl) ?_
            clear dg
            refine stepOK_value (v := .pointer (some ⟨g4, 2, none⟩)) (w' := w1) (by go_simp) (leaves_mk (Below.refl _ _) rfl (fun h => by cases h))
          · intro vals w1 hb hd
            have dg : KEq (.bool false) (vals 3) w1 := hd 3 (by kernel_rfl)
            refine stepG_yes (wanted_of rfl rfl (congrArg some dg) rfl) ?_
            clear dg
            have d4 : KEq (.pointer (some ⟨g4, 2, none⟩)) (vals 4) w1 := hd 4 (by kernel_rfl)
            obtain ⟨e0, e1, e2⟩ := row3 (heap_below G4.out hb)
            rw [show vals 4 = _ from d4]
            refine stepOK_value (v := .int .i64 xr) (w' := w1) (by go_simp) (leaves_mk (Below.refl _ _) rfl (fun h => by cases h))
          · intro vals w1 hb hd
            have dg : KEq (.bool false) (vals 3) w1 := hd 3 (by kernel_rfl)
            refine stepG_yes (wanted_of rfl rfl (congrArg some dg) rfl) ?_
            clear dg
            have d5 : KEq (.int .i64 xr) (vals 5) w1 := hd 5 (by kernel_rfl)
            rw [show vals 5 = _ from d5]
            refine stepOK_value (v := .bool false) (w' := w1) (by go_simp; first | done | exact DV.out | omega | (simp only [decide_eq_true_eq, decide_eq_false_iff_not]; omega) | (simp; omega)) (leaves_mk (Below.refl _ _) rfl (fun h => by cases h))
          · intro vals w1 hb hd
            have d3 : KEq (.bool false) (vals 3) w1 := hd 3 (by kernel_rfl)
            have d6 : KEq (.bool false) (vals 6) w1 := hd 6 (by kernel_rfl)
            rw [show vals 3 = _ from d3]
            rw [show vals 6 = _ from d6]
            refine stepOK_value (v := .bool false) (w' := w1) (by go_simp) (leaves_mk (Below.refl _ _) rfl (fun h => by cases h))
          · intro vals w1 hb hd
            have d7 : KEq (.bool false) (vals 7) w1 := hd 7 (by kernel_rfl)
            rw [show vals 7 = _ from d7]
            refine stepOK_value (v := .bool false) (w' := w1) (by go_simp) (leaves_mk (Below.refl _ _) rfl (fun h => by cases h))
          · intro vals w1 hb hd
            have dg : KEq (.bool false) (vals 8) w1 := hd 8 (by kernel_rfl)
            refine stepG_yes (wanted_of rfl rfl (congrArg some dg) rfl) ?_
            clear dg
            refine stepOK_value (v := .pointer (some ⟨g4, 2, none⟩)) (w' := w1) (by go_simp) (leaves_mk (Below.refl _ _) rfl (fun h => by cases h))
          · intro vals w1 hb hd
            have dg : KEq (.bool false) (vals 8) w1 := hd 8 (by kernel_rfl)
            refine stepG_yes (wanted_of rfl rfl (congrArg some dg) rfl) ?_
            clear dg
            have d9 : KEq (.pointer (some ⟨g4, 2, none⟩)) (vals 9) w1 := hd 9 (by kernel_rfl)
            obtain ⟨e0, e1, e2⟩ := row3 (heap_below G4.out hb)
            rw [show vals 9 = _ from d9]
            refine stepOK_value (v := .int .i64 xr) (w' := w1) (by go_simp) (leaves_mk (Below.refl _ _) rfl (fun h => by cases h))
          · intro vals w1 hb hd
            have dg : KEq (.bool false) (vals 8) w1 := hd 8 (by kernel_rfl)
            refine stepG_yes (wanted_of rfl rfl (congrArg some dg) rfl) ?_
            clear dg
            have d10 : KEq (.int .i64 xr) (vals 10) w1 := hd 10 (by kernel_rfl)
            rw [show vals 10 = _ from d10]
            refine stepOK_value (v := .bool false) (w' := w1) (by go_simp; first | done | exact DV.out | omega | (simp only [decide_eq_true_eq, decide_eq_false_iff_not]; omega) | (simp; omega)) (leaves_mk (Below.refl _ _) rfl (fun h => by cases h))
          · intro vals w1 hb hd
            have dg : KEq (.bool false) (vals 8) w1 := hd 8 (by kernel_rfl)
            refine stepG_yes (wanted_of rfl rfl (congrArg some dg) rfl) ?_
            clear dg
            have d11 : KEq (.bool false) (vals 11) w1 := hd 11 (by kernel_rfl)
            rw [show vals 11 = _ from d11]
            refine stepOK_value (v := .bool false) (w' := w1) (by go_simp) (leaves_mk (Below.refl _ _) rfl (fun h => by cases h))
          · intro vals w1 hb hd
            have dg : KEq (.bool false) (vals 12) w1 := hd 12 (by kernel_rfl)
            refine stepG_no (unwanted_of rfl rfl (congrArg some dg) rfl) ?_
            clear dg
            exact leaves_mk (Below.refl _ _) trivial (fun h => by cases h)
          · intro vals w1 hb hd
            have dg : KEq (.bool false) (vals 12) w1 := hd 12 (by kernel_rfl)
            refine stepG_no (unwanted_of rfl rfl (congrArg some dg) rfl) ?_
            clear dg
            exact leaves_mk (Below.refl _ _) trivial (fun h => by cases h)
          · intro vals w1 hb hd
            have dg : KEq (.bool false) (vals 12) w1 := hd 12 (by kernel_rfl)
            refine stepG_no (unwanted_of rfl rfl (congrArg some dg) rfl) ?_
            clear dg
            exact leaves_mk (Below.refl _ _) trivial (fun h => by cases h)
          · intro vals w1 hb hd
            have dg : KEq (.bool false) (vals 12) w1 := hd 12 (by kernel_rfl)
            refine stepG_no (unwanted_of rfl rfl (congrArg some dg) rfl) ?_
            clear dg
            exact leaves_mk (Below.refl _ _) trivial (fun h => by cases h)
          · intro vals w1 hb hd
            have dg : KEq (.bool false) (vals 12) w1 := hd 12 (by kernel_rfl)
            refine stepG_no (unwanted_of rfl rfl (congrArg some dg) rfl) ?_
            clear dg
            exact leaves_mk (Below.refl _ _) trivial (fun h => by cases h)
          · intro vals w1 hb hd
            have dg : KEq (.bool false) (vals 12) w1 := hd 12 (by kernel_rfl)
            refine stepG_no (unwanted_of rfl rfl (congrArg some dg) rfl) ?_
            clear dg
            exact leaves_mk (Below.refl _ _) trivial (fun h => by cases h)
          · intro vals w1 hb hd
            have dg : KEq (.bool false) (vals 12) w1 := hd 12 (by kernel_rfl)
            refine stepG_no (unwanted_of rfl rfl (congrArg some dg) rfl) ?_
            clear dg
            exact leaves_mk (Below.refl _ _) trivial (fun h => by cases h)
          · intro vals w1 hb hd
            have dg : KEq (.bool false) (vals 8) w1 := hd 8 (by kernel_rfl)
            refine stepG_yes (wanted_of rfl rfl (congrArg some dg) rfl) ?_
            clear dg
            have d12 : KEq (.bool false) (vals 12) w1 := hd 12 (by kernel_rfl)
            rw [show vals 12 = _ from d12]
            refine stepOK_value (v := .bool false) (w' := w1) (by go_simp) (leaves_mk (Below.refl _ _) rfl (fun h => by cases h))
        case tlC =>
          intro vals w5 hb5 hf hdis
          simp only [List.drop_succ_cons, List.drop_zero]
          have z8 : vals 8 = _ := hf 8 (by decide)
          rw [z8]; clear z8
          have z20 : vals 20 = _ := hf 20 (by decide)
          rw [z20]; clear z20
          clear hf hdis
          have BX5 := Lib.hid (BX4.out.trans (hb5.mono BX4.out.size)); have HB5 := Lib.hid (HB4.out.trans (hb5.mono HB4.out.size))
          clear hb5
          go_wp2_with fail
          go_roundw
          case rel => exact ⟨q + 1, by omega, by go_num, Lib.hid BX5.out, Lib.hid NB.out⟩
          case measure => simp [intOf]; omega
      · by_cases d1 : (fv : Int) = xr
        · skip
          have NB := Lib.hid (show firstBad f l 0 = firstBad f (l.drop (q + 1)) (q + 1) by rw [FB.out, FD.out, if_neg (by rw [BP.out]; simp; omega)])
          have DV := Lib.hid (show xr < 2 by omega)
          have DD := Lib.hid d1
          refine wp_region_facts (A := ?aaD1) (w := w4) 21 [] (by kernel_rfl) (Fl [KEq (.pointer (some ⟨g4, 2, none⟩)), KEq (.int .i64 xr), KEq (.bool false), KEq (.bool false), KEq (.pointer (some ⟨g4, 2, none⟩)), KEq (.int .i64 xr), KEq (.bool false), KEq (.bool false), KEq (.bool false), KEq (.pointer (some ⟨g4, 2, none⟩)), KEq (.int .i64 xr), KEq (.bool true), KEq (.bool true), KEq (.agg #[.int .i64 f.vars, .slice ao f.nodes.length c, .int .i64 f.top]), KEq (.pointer (some ⟨g4, 0, none⟩)), KEq (.agg #[.int .i64 (xy : Nat), .int .i64 (xn : Nat)]), KEq (.int .i64 (fv : Nat)), KEq (.pointer (some ⟨g4, 2, none⟩)), KEq (.int .i64 xr), KEq (.bool false), KEq (.bool false)]) (fun i => false) (by kernel_rfl) ?hqD1 (monoL (monoC (kEq _) (monoC (kEq _) (monoC (kEq _) (monoC (kEq _) (monoC (kEq _) (monoC (kEq _) (monoC (kEq _) (monoC (kEq _) (monoC (kEq _) (monoC (kEq _) (monoC (kEq _) (monoC (kEq _) (monoC (kEq _) (monoC (kEq _) (monoC (kEq _) (monoC (kEq _) (monoC (kEq _) (monoC (kEq _) (monoC (kEq _) (monoC (kEq _) (monoC (kEq _) monoN)))))))))))))))))))))) ?haD1 ?stD1 ?tlD1
          case hqD1 =>
            intro c a d v w h
            first | (simp only [Exit.then] at h ⊢; exact h) | (simp only [Exit.inBlock, Exit.then] at h ⊢; exact h) | exact h
          case haD1 =>
            intro vals
            simp only [putsTo, dstOf, if_true, Act.put, List.setIfInBounds_toArray, List.set_cons_zero, List.set_cons_succ, List.getElem?_toArray, List.getElem?_cons_zero, List.getElem?_cons_succ, Option.bind_some]
            exact rfl
          case stD1 =>
            simp only [List.take_succ_cons, List.take_zero]
            refine stepsOK_cons rfl rfl ?_ (stepsOK_cons rfl rfl ?_ (stepsOK_cons rfl rfl ?_ (stepsOK_cons rfl rfl ?_ (stepsOK_guard rfl ?_ (stepsOK_guard rfl ?_ (stepsOK_guard rfl ?_ (stepsOK_cons rfl rfl ?_ (stepsOK_cons rfl rfl ?_ (stepsOK_guard rfl ?_ (stepsOK_guard rfl ?_ (stepsOK_guard rfl ?_ (stepsOK_guard rfl ?_ (stepsOK_guard rfl ?_ (stepsOK_guard rfl ?_ (stepsOK_guard rfl ?_ (stepsOK_guard rfl ?_ (stepsOK_guard rfl ?_ (stepsOK_guard rfl ?_ (stepsOK_guard rfl ?_ (stepsOK_guard rfl ?_ (stepsOK_nil)))))))))))))))))))))
            · intro vals w1 hb hd
              refine stepOK_value (v := .pointer (some ⟨g4, 2, none⟩)) (w' := w1) (by go_simp) (leaves_mk (Below.refl _ _) rfl (fun h => by cases h))
            · intro vals w1 hb hd
              have d0 : KEq (.pointer (some ⟨g4, 2, none⟩)) (vals 0) w1 := hd 0 (by kernel_rfl)
              obtain ⟨e0, e1, e2⟩ := row3 (heap_below G4.out hb)
              rw [show vals 0 = _ from d0]
              refine stepOK_value (v := .int .i64 xr) (w' := w1) (by go_simp) (leaves_mk (Below.refl _ _) rfl (fun h => by cases h))
            · intro vals w1 hb hd
              have d1 : KEq (.int .i64 xr) (vals 1) w1 := hd 1 (by kernel_rfl)
              rw [show vals 1 = _ from d1]
              refine stepOK_value (v := .bool false) (w' := w1) (by go_simp; first | done | exact DV.out | omega | (simp only [decide_eq_true_eq, decide_eq_false_iff_not]; omega) | (simp; omega)) (leaves_mk (Below.refl _ _) rfl (fun h => by cases h))
            · intro vals w1 hb hd
              have d2 : KEq (.bool false) (vals 2) w1 := hd 2 (by kernel_rfl)
              rw [show vals 2 = _ from d2]
              refine stepOK_value (v := .bool false) (w' := w1) (by go_simp) (leaves_mk (Below.refl _ _) rfl (fun h => by cases h))
            · intro vals w1 hb hd
              have dg : KEq (.bool false) (vals 3) w1 := hd 3 (by kernel_rfl)
              refine stepG_yes (wanted_of rfl rfl (congrArg some dg) rfl) ?_
              clear dg
              refine stepOK_value (v := .pointer (some ⟨g4, 2, none⟩)) (w' := w1) (by go_simp) (leaves_mk (Below.refl _ _) rfl (fun h => by cases h))
            · intro vals w1 hb hd
              have dg : KEq (.bool false) (vals 3) w1 := hd 3 (by kernel_rfl)
              refine stepG_yes (wanted_of rfl rfl (congrArg some dg) rfl) ?_
              clear dg
              have d4 : KEq (.pointer (some ⟨g4, 2, none⟩)) (vals 4) w1 := hd 4 (by kernel_rfl)
              obtain ⟨e0, e1, e2⟩ := row3 (heap_below G4.out hb)
              rw [show vals 4 = _ from d4]
              refine stepOK_value (v := .int .i64 xr) (w' := w1) (by go_simp) (leaves_mk (Below.refl _ _) rfl (fun h => by cases h))
            · intro vals w1 hb hd
              have dg : KEq (.bool false) (vals 3) w1 := hd 3 (by kernel_rfl)
              refine stepG_yes (wanted_of rfl rfl (congrArg some dg) rfl) ?_
              clear dg
              have d5 : KEq (.int .i64 xr) (vals 5) w1 := hd 5 (by kernel_rfl)
              rw [show vals 5 = _ from d5]
              refine stepOK_value (v := .bool false) (w' := w1) (by go_simp; first | done | exact DV.out | omega | (simp only [decide_eq_true_eq, decide_eq_false_iff_not]; omega) | (simp; omega)) (leaves_mk (Below.refl _ _) rfl (fun h => by cases h))
            · intro vals w1 hb hd
              have d3 : KEq (.bool false) (vals 3) w1 := hd 3 (by kernel_rfl)
              have d6 : KEq (.bool false) (vals 6) w1 := hd 6 (by kernel_rfl)
              rw [show vals 3 = _ from d3]
              rw [show vals 6 = _ from d6]
              refine stepOK_value (v := .bool false) (w' := w1) (by go_simp) (leaves_mk (Below.refl _ _) rfl (fun h => by cases h))
            · intro vals w1 hb hd
              have d7 : KEq (.bool false) (vals 7) w1 := hd 7 (by kernel_rfl)
              rw [show vals 7 = _ from d7]
              refine stepOK_value (v := .bool false) (w' := w1) (by go_simp) (leaves_mk (Below.refl _ _) rfl (fun h => by cases h))
            · intro vals w1 hb hd
              have dg : KEq (.bool false) (vals 8) w1 := hd 8 (by kernel_rfl)
              refine stepG_yes (wanted_of rfl rfl (congrArg some dg) rfl) ?_
              clear dg
              refine stepOK_value (v := .pointer (some ⟨g4, 2, none⟩)) (w' := w1) (by go_simp) (leaves_mk (Below.refl _ _) rfl (fun h => by cases h))
            · intro vals w1 hb hd
              have dg : KEq (.bool false) (vals 8) w1 := hd 8 (by kernel_rfl)
              refine stepG_yes (wanted_of rfl rfl (congrArg some dg) rfl) ?_
              clear dg
              have d9 : KEq (.pointer (some ⟨g4, 2, none⟩)) (vals 9) w1 := hd 9 (by kernel_rfl)
              obtain ⟨e0, e1, e2⟩ := row3 (heap_below G4.out hb)
              rw [show vals 9 = _ from d9]
              refine stepOK_value (v := .int .i64 xr) (w' := w1) (by go_simp) (leaves_mk (Below.refl _ _) rfl (fun h => by cases h))
            · intro vals w1 hb hd
              have dg : KEq (.bool false) (vals 8) w1 := hd 8 (by kernel_rfl)
              refine stepG_yes (wanted_of rfl rfl (congrArg some dg) rfl) ?_
              clear dg
              have d10 : KEq (.int .i64 xr) (vals 10) w1 := hd 10 (by kernel_rfl)
              rw [show vals 10 = _ from d10]
              refine stepOK_value (v := .bool true) (w' := w1) (by go_simp; first | done | exact DV.out | omega | (simp only [decide_eq_true_eq, decide_eq_false_iff_not]; omega) | (simp; omega)) (leaves_mk (Below.refl _ _) rfl (fun h => by cases h))
            · intro vals w1 hb hd
              have dg : KEq (.bool false) (vals 8) w1 := hd 8 (by kernel_rfl)
              refine stepG_yes (wanted_of rfl rfl (congrArg some dg) rfl) ?_
              clear dg
              have d11 : KEq (.bool true) (vals 11) w1 := hd 11 (by kernel_rfl)
              rw [show vals 11 = _ from d11]
              refine stepOK_value (v := .bool true) (w' := w1) (by go_simp) (leaves_mk (Below.refl _ _) rfl (fun h => by cases h))
            · intro vals w1 hb hd
              have dg : KEq (.bool true) (vals 12) w1 := hd 12 (by kernel_rfl)
              refine stepG_yes (wanted_of rfl rfl (congrArg some dg) rfl) ?_
              clear dg
              obtain ⟨e0, e1, e2⟩ := row3 (heap_below G1'.out hb)
              refine stepOK_value (v := .agg #[.int .i64 f.vars, .slice ao f.nodes.length c, .int .i64 f.top]) (w' := w1) (by go_simp) (leaves_mk (Below.refl _ _) rfl (fun h => by cases h))
            · intro vals w1 hb hd
              have dg : KEq (.bool true) (vals 12) w1 := hd 12 (by kernel_rfl)
              refine stepG_yes (wanted_of rfl rfl (congrArg some dg) rfl) ?_
              clear dg
              refine stepOK_value (v := .pointer (some ⟨g4, 0, none⟩)) (w' := w1) (by go_simp) (leaves_mk (Below.refl _ _) rfl (fun h => by cases h))
            · intro vals w1 hb hd
              have dg : KEq (.bool true) (vals 12) w1 := hd 12 (by kernel_rfl)
              refine stepG_yes (wanted_of rfl rfl (congrArg some dg) rfl) ?_
              clear dg
              have d14 : KEq (.pointer (some ⟨g4, 0, none⟩)) (vals 14) w1 := hd 14 (by kernel_rfl)
              obtain ⟨e0, e1, e2⟩ := row3 (heap_below G4.out hb)
              rw [show vals 14 = _ from d14]
              refine stepOK_value (v := .agg #[.int .i64 (xy : Nat), .int .i64 (xn : Nat)]) (w' := w1) (by go_simp) (leaves_mk (Below.refl _ _) rfl (fun h => by cases h))
            · intro vals w1 hb hd
              have dg : KEq (.bool true) (vals 12) w1 := hd 12 (by kernel_rfl)
              refine stepG_yes (wanted_of rfl rfl (congrArg some dg) rfl) ?_
              clear dg
              have d13 : KEq (.agg #[.int .i64 f.vars, .slice ao f.nodes.length c, .int .i64 f.top]) (vals 13) w1 := hd 13 (by kernel_rfl)
              have d15 : KEq (.agg #[.int .i64 (xy : Nat), .int .i64 (xn : Nat)]) (vals 15) w1 := hd 15 (by kernel_rfl)
              have HS := Lib.hid (rvalue_any _ f xy xn w1 (HF.out.below (HB4.out.step hb)) E0.out HCX.out)
              have z13 : vals 13 = _ := d13
              rw [z13]; clear z13
              have z15 : vals 15 = _ := d15
              rw [z15]; clear z15
              refine stepOK_call (by go_simp; first | done | exact ⟨⟨rfl, rfl⟩, rfl⟩) ?_
              (with_reducible refine HS.out.mono ?_); rintro e w2 ⟨rfl, hb2⟩
              exact ⟨_, rfl, leaves_mk hb2 (congrArg (fun n : Nat => Value.int .i64 (n : Int)) HV.out) (fun h => by cases h)⟩
            · intro vals w1 hb hd
              have dg : KEq (.bool true) (vals 12) w1 := hd 12 (by kernel_rfl)
              refine stepG_yes (wanted_of rfl rfl (congrArg some dg) rfl) ?_
              clear dg
              refine stepOK_value (v := .pointer (some ⟨g4, 2, none⟩)) (w' := w1) (by go_simp) (leaves_mk (Below.refl _ _) rfl (fun h => by cases h))
            · intro vals w1 hb hd
              have dg : KEq (.bool true) (vals 12) w1 := hd 12 (by kernel_rfl)
              refine stepG_yes (wanted_of rfl rfl (congrArg some dg) rfl) ?_
              clear dg
              have d17 : KEq (.pointer (some ⟨g4, 2, none⟩)) (vals 17) w1 := hd 17 (by kernel_rfl)
              obtain ⟨e0, e1, e2⟩ := row3 (heap_below G4.out hb)
              rw [show vals 17 = _ from d17]
              refine stepOK_value (v := .int .i64 xr) (w' := w1) (by go_simp) (leaves_mk (Below.refl _ _) rfl (fun h => by cases h))
            · intro vals w1 hb hd
              have dg : KEq (.bool true) (vals 12) w1 := hd 12 (by kernel_rfl)
              refine stepG_yes (wanted_of rfl rfl (congrArg some dg) rfl) ?_
              clear dg
              have d16 : KEq (.int .i64 (fv : Nat)) (vals 16) w1 := hd 16 (by kernel_rfl)
              have d18 : KEq (.int .i64 xr) (vals 18) w1 := hd 18 (by kernel_rfl)
              rw [show vals 16 = _ from d16]
              rw [show vals 18 = _ from d18]
              refine stepOK_value (v := .bool false) (w' := w1) (by go_simp; first | done | exact DD.out | simpa using DD.out | omega) (leaves_mk (Below.refl _ _) rfl (fun h => by cases h))
            · intro vals w1 hb hd
              have dg : KEq (.bool false) (vals 8) w1 := hd 8 (by kernel_rfl)
              refine stepG_yes (wanted_of rfl rfl (congrArg some dg) rfl) ?_
              clear dg
              have d12 : KEq (.bool true) (vals 12) w1 := hd 12 (by kernel_rfl)
              have d19 : KEq (.bool false) (vals 19) w1 := hd 19 (by kernel_rfl)
              rw [show vals 12 = _ from d12]
              rw [show vals 19 = _ from d19]
              refine stepOK_value (v := .bool false) (w' := w1) (by go_simp) (leaves_mk (Below.refl _ _) rfl (fun h => by cases h))
          case tlD1 =>
            intro vals w5 hb5 hf hdis
            simp only [List.drop_succ_cons, List.drop_zero]
            have z8 : vals 8 = _ := hf 8 (by decide)
            rw [z8]; clear z8
            have z20 : vals 20 = _ := hf 20 (by decide)
            rw [z20]; clear z20
            clear hf hdis
            have BX5 := Lib.hid (BX4.out.trans (hb5.mono BX4.out.size)); have HB5 := Lib.hid (HB4.out.trans (hb5.mono HB4.out.size))
            clear hb5
            go_wp2_with fail
            go_roundw
            case rel => exact ⟨q + 1, by omega, by go_num, Lib.hid BX5.out, Lib.hid NB.out⟩
            case measure => simp [intOf]; omega
        · skip
          have R := Lib.hid (show firstBad f l 0 = (q : Int) by rw [FB.out, FD.out, if_pos (by rw [BP.out]; simp; omega)])
          have DV := Lib.hid (show xr < 2 by omega)
          have DD := Lib.hid (show (((fv : Nat) : Int) != xr) = true from bne_iff_ne.2 d1)
          refine wp_region_facts (A := ?aaD2) (w := w4) 21 [] (by kernel_rfl) (Fl [KEq (.pointer (some ⟨g4, 2, none⟩)), KEq (.int .i64 xr), KEq (.bool false), KEq (.bool false), KEq (.pointer (some ⟨g4, 2, none⟩)), KEq (.int .i64 xr), KEq (.bool false), KEq (.bool false), KEq (.bool false), KEq (.pointer (some ⟨g4, 2, none⟩)), KEq (.int .i64 xr), KEq (.bool true), KEq (.bool true), KEq (.agg #[.int .i64 f.vars, .slice ao f.nodes.length c, .int .i64 f.top]), KEq (.pointer (some ⟨g4, 0, none⟩)), KEq (.agg #[.int .i64 (xy : Nat), .int .i64 (xn : Nat)]), KEq (.int .i64 (fv : Nat)), KEq (.pointer (some ⟨g4, 2, none⟩)), KEq (.int .i64 xr), KEq (.bool true), KEq (.bool true)]) (fun i => false) (by kernel_rfl) ?hqD2 (monoL (monoC (kEq _) (monoC (kEq _) (monoC (kEq _) (monoC (kEq _) (monoC (kEq _) (monoC (kEq _) (monoC (kEq _) (monoC (kEq _) (monoC (kEq _) (monoC (kEq _) (monoC (kEq _) (monoC (kEq _) (monoC (kEq _) (monoC (kEq _) (monoC (kEq _) (monoC (kEq _) (monoC (kEq _) (monoC (kEq _) (monoC (kEq _) (monoC (kEq _) (monoC (kEq _) monoN)))))))))))))))))))))) ?haD2 ?stD2 ?tlD2
          case hqD2 =>
            intro c a d v w h
            first | (simp only [Exit.then] at h ⊢; exact h) | (simp only [Exit.inBlock, Exit.then] at h ⊢; exact h) | exact h
          case haD2 =>
            intro vals
            simp only [putsTo, dstOf, if_true, Act.put, List.setIfInBounds_toArray, List.set_cons_zero, List.set_cons_succ, List.getElem?_toArray, List.getElem?_cons_zero, List.getElem?_cons_succ, Option.bind_some]
            exact rfl
          case stD2 =>
            simp only [List.take_succ_cons, List.take_zero]
            refine stepsOK_cons rfl rfl ?_ (stepsOK_cons rfl rfl ?_ (stepsOK_cons rfl rfl ?_ (stepsOK_cons rfl rfl ?_ (stepsOK_guard rfl ?_ (stepsOK_guard rfl ?_ (stepsOK_guard rfl ?_ (stepsOK_cons rfl rfl ?_ (stepsOK_cons rfl rfl ?_ (stepsOK_guard rfl ?_ (stepsOK_guard rfl ?_ (stepsOK_guard rfl ?_ (stepsOK_guard rfl ?_ (stepsOK_guard rfl ?_ (stepsOK_guard rfl ?_ (stepsOK_guard rfl ?_ (stepsOK_guard rfl ?_ (stepsOK_guard rfl ?_ (stepsOK_guard rfl ?_ (stepsOK_guard rfl ?_ (stepsOK_guard rfl ?_ (stepsOK_nil)))))))))))))))))))))
            · intro vals w1 hb hd
              refine stepOK_value (v := .pointer (some ⟨g4, 2, none⟩)) (w' := w1) (by go_simp) (leaves_mk (Below.refl _ _) rfl (fun h => by cases h))
            · intro vals w1 hb hd
              have d0 : KEq (.pointer (some ⟨g4, 2, none⟩)) (vals 0) w1 := hd 0 (by kernel_rfl)
              obtain ⟨e0, e1, e2⟩ := row3 (heap_below G4.out hb)
              rw [show vals 0 = _ from d0]
              refine stepOK_value (v := .int .i64 xr) (w' := w1) (by go_simp) (leaves_mk (Below.refl _ _) rfl (fun h => by cases h))
            · intro vals w1 hb hd
              have d1 : KEq (.int .i64 xr) (vals 1) w1 := hd 1 (by kernel_rfl)
              rw [show vals 1 = _ from d1]
              refine stepOK_value (v := .bool false) (w' := w1) (by go_simp; first | done | exact DV.out | omega | (simp only [decide_eq_true_eq, decide_eq_false_iff_not]; omega) | (simp; omega)) (leaves_mk (Below.refl _ _) rfl (fun h => by cases h))
            · intro vals w1 hb hd
              have d2 : KEq (.bool false) (vals 2) w1 := hd 2 (by kernel_rfl)
              rw [show vals 2 = _ from d2]
              refine stepOK_value (v := .bool false) (w' := w1) (by go_simp) (leaves_mk (Below.refl _ _) rfl (fun h => by cases h))
            · intro vals w1 hb hd
              have dg : KEq (.bool false) (vals 3) w1 := hd 3 (by kernel_rfl)
              refine stepG_yes (wanted_of rfl rfl (congrArg some dg) rfl) ?_
              clear dg
              refine stepOK_value (v := .pointer (some ⟨g4, 2, none⟩)) (w' := w1) (by go_simp) (leaves_mk (Below.refl _ _) rfl (fun h => by cases h))
            · intro vals w1 hb hd
              have dg : KEq (.bool false) (vals 3) w1 := hd 3 (by kernel_rfl)
              refine stepG_yes (wanted_of rfl rfl (congrArg some dg) rfl) ?_
              clear dg
              have d4 : KEq (.pointer (some ⟨g4, 2, none⟩)) (vals 4) w1 := hd 4 (by kernel_rfl)
              obtain ⟨e0, e1, e2⟩ := row3 (heap_below G4.out hb)
              rw [show vals 4 = _ from d4]
              refine stepOK_value (v := .int .i64 xr) (w' := w1) (by go_simp) (leaves_mk (Below.refl _ _) rfl (fun h => by cases h))
            · intro vals w1 hb hd
              have dg : KEq (.bool false) (vals 3) w1 := hd 3 (by kernel_rfl)
              refine stepG_yes (wanted_of rfl rfl (congrArg some dg) rfl) ?_
              clear dg
              have d5 : KEq (.int .i64 xr) (vals 5) w1 := hd 5 (by kernel_rfl)
              rw [show vals 5 = _ from d5]
              refine stepOK_value (v := .bool false) (w' := w1) (by go_simp; first | done | exact DV.out | omega | (simp only [decide_eq_true_eq, decide_eq_false_iff_not]; omega) | (simp; omega)) (leaves_mk (Below.refl _ _) rfl (fun h => by cases h))
            · intro vals w1 hb hd
              have d3 : KEq (.bool false) (vals 3) w1 := hd 3 (by kernel_rfl)
              have d6 : KEq (.bool false) (vals 6) w1 := hd 6 (by kernel_rfl)
              rw [show vals 3 = _ from d3]
              rw [show vals 6 = _ from d6]
              refine stepOK_value (v := .bool false) (w' := w1) (by go_simp) (leaves_mk (Below.refl _ _) rfl (fun h => by cases h))
            · intro vals w1 hb hd
              have d7 : KEq (.bool false) (vals 7) w1 := hd 7 (by kernel_rfl)
              rw [show vals 7 = _ from d7]
              refine stepOK_value (v := .bool false) (w' := w1) (by go_simp) (leaves_mk (Below.refl _ _) rfl (fun h => by cases h))
            · intro vals w1 hb hd
              have dg : KEq (.bool false) (vals 8) w1 := hd 8 (by kernel_rfl)
              refine stepG_yes (wanted_of rfl rfl (congrArg some dg) rfl) ?_
              clear dg
              refine stepOK_value (v := .pointer (some ⟨g4, 2, none⟩)) (w' := w1) (by go_simp) (leaves_mk (Below.refl _ _) rfl (fun h => by cases h))
            · intro vals w1 hb hd
              have dg : KEq (.bool false) (vals 8) w1 := hd 8 (by kernel_rfl)
              refine stepG_yes (wanted_of rfl rfl (congrArg some dg) rfl) ?_
              clear dg
              have d9 : KEq (.pointer (some ⟨g4, 2, none⟩)) (vals 9) w1 := hd 9 (by kernel_rfl)
              obtain ⟨e0, e1, e2⟩ := row3 (heap_below G4.out hb)
              rw [show vals 9 = _ from d9]
              refine stepOK_value (v := .int .i64 xr) (w' := w1) (by go_simp) (leaves_mk (Below.refl _ _) rfl (fun h => by cases h))
            · intro vals w1 hb hd
              have dg : KEq (.bool false) (vals 8) w1 := hd 8 (by kernel_rfl)
              refine stepG_yes (wanted_of rfl rfl (congrArg some dg) rfl) ?_
              clear dg
              have d10 : KEq (.int .i64 xr) (vals 10) w1 := hd 10 (by kernel_rfl)
              rw [show vals 10 = _ from d10]
              refine stepOK_value (v := .bool true) (w' := w1) (by go_simp; first | done | exact DV.out | omega | (simp only [decide_eq_true_eq, decide_eq_false_iff_not]; omega) | (simp; omega)) (leaves_mk (Below.refl _ _) rfl (fun h => by cases h))
            · intro vals w1 hb hd
              have dg : KEq (.bool false) (vals 8) w1 := hd 8 (by kernel_rfl)
              refine stepG_yes (wanted_of rfl rfl (congrArg some dg) rfl) ?_
              clear dg
              have d11 : KEq (.bool true) (vals 11) w1 := hd 11 (by kernel_rfl)
              rw [show vals 11 = _ from d11]
              refine stepOK_value (v := .bool true) (w' := w1) (by go_simp) (leaves_mk (Below.refl _ _) rfl (fun h => by cases h))
            · intro vals w1 hb hd
              have dg : KEq (.bool true) (vals 12) w1 := hd 12 (by kernel_rfl)
              refine stepG_yes (wanted_of rfl rfl (congrArg some dg) rfl) ?_
              clear dg
              obtain ⟨e0, e1, e2⟩ := row3 (heap_below G1'.out hb)
              refine stepOK_value (v := .agg #[.int .i64 f.vars, .slice ao f.nodes.length c, .int .i64 f.top]) (w' := w1) (by go_simp) (leaves_mk (Below.refl _ _) rfl (fun h => by cases h))
            · intro vals w1 hb hd
              have dg : KEq (.bool true) (vals 12) w1 := hd 12 (by kernel_rfl)
              refine stepG_yes (wanted_of rfl rfl (congrArg some dg) rfl) ?_
              clear dg
              refine stepOK_value (v := .pointer (some ⟨g4, 0, none⟩)) (w' := w1) (by go_simp) (leaves_mk (Below.refl _ _) rfl (fun h => by cases h))
            · intro vals w1 hb hd
              have dg : KEq (.bool true) (vals 12) w1 := hd 12 (by kernel_rfl)
              refine stepG_yes (wanted_of rfl rfl (congrArg some dg) rfl) ?_
              clear dg
              have d14 : KEq (.pointer (some ⟨g4, 0, none⟩)) (vals 14) w1 := hd 14 (by kernel_rfl)
              obtain ⟨e0, e1, e2⟩ := row3 (heap_below G4.out hb)
              rw [show vals 14 = _ from d14]
              refine stepOK_value (v := .agg #[.int .i64 (xy : Nat), .int .i64 (xn : Nat)]) (w' := w1) (by go_simp) (leaves_mk (Below.refl _ _) rfl (fun h => by cases h))
            · intro vals w1 hb hd
              have dg : KEq (.bool true) (vals 12) w1 := hd 12 (by kernel_rfl)
              refine stepG_yes (wanted_of rfl rfl (congrArg some dg) rfl) ?_
              clear dg
              have d13 : KEq (.agg #[.int .i64 f.vars, .slice ao f.nodes.length c, .int .i64 f.top]) (vals 13) w1 := hd 13 (by kernel_rfl)
              have d15 : KEq (.agg #[.int .i64 (xy : Nat), .int .i64 (xn : Nat)]) (vals 15) w1 := hd 15 (by kernel_rfl)
              have HS := Lib.hid (rvalue_any _ f xy xn w1 (HF.out.below (HB4.out.step hb)) E0.out HCX.out)
              have z13 : vals 13 = _ := d13
              rw [z13]; clear z13
              have z15 : vals 15 = _ := d15
              rw [z15]; clear z15
              refine stepOK_call (by go_simp; first | done | exact ⟨⟨rfl, rfl⟩, rfl⟩) ?_
              (with_reducible refine HS.out.mono ?_); rintro e w2 ⟨rfl, hb2⟩
              exact ⟨_, rfl, leaves_mk hb2 (congrArg (fun n : Nat => Value.int .i64 (n : Int)) HV.out) (fun h => by cases h)⟩
            · intro vals w1 hb hd
              have dg : KEq (.bool true) (vals 12) w1 := hd 12 (by kernel_rfl)
              refine stepG_yes (wanted_of rfl rfl (congrArg some dg) rfl) ?_
              clear dg
              refine stepOK_value (v := .pointer (some ⟨g4, 2, none⟩)) (w' := w1) (by go_simp) (leaves_mk (Below.refl _ _) rfl (fun h => by cases h))
            · intro vals w1 hb hd
              have dg : KEq (.bool true) (vals 12) w1 := hd 12 (by kernel_rfl)
              refine stepG_yes (wanted_of rfl rfl (congrArg some dg) rfl) ?_
              clear dg
              have d17 : KEq (.pointer (some ⟨g4, 2, none⟩)) (vals 17) w1 := hd 17 (by kernel_rfl)
              obtain ⟨e0, e1, e2⟩ := row3 (heap_below G4.out hb)
              rw [show vals 17 = _ from d17]
              refine stepOK_value (v := .int .i64 xr) (w' := w1) (by go_simp) (leaves_mk (Below.refl _ _) rfl (fun h => by cases h))
            · intro vals w1 hb hd
              have dg : KEq (.bool true) (vals 12) w1 := hd 12 (by kernel_rfl)
              refine stepG_yes (wanted_of rfl rfl (congrArg some dg) rfl) ?_
              clear dg
              have d16 : KEq (.int .i64 (fv : Nat)) (vals 16) w1 := hd 16 (by kernel_rfl)
              have d18 : KEq (.int .i64 xr) (vals 18) w1 := hd 18 (by kernel_rfl)
              rw [show vals 16 = _ from d16]
              rw [show vals 18 = _ from d18]
              refine stepOK_value (v := .bool true) (w' := w1) (by go_simp; first | done | exact DD.out | simpa using DD.out | omega) (leaves_mk (Below.refl _ _) rfl (fun h => by cases h))
            · intro vals w1 hb hd
              have dg : KEq (.bool false) (vals 8) w1 := hd 8 (by kernel_rfl)
              refine stepG_yes (wanted_of rfl rfl (congrArg some dg) rfl) ?_
              clear dg
              have d12 : KEq (.bool true) (vals 12) w1 := hd 12 (by kernel_rfl)
              have d19 : KEq (.bool true) (vals 19) w1 := hd 19 (by kernel_rfl)
              rw [show vals 12 = _ from d12]
              rw [show vals 19 = _ from d19]
              refine stepOK_value (v := .bool true) (w' := w1) (by go_simp) (leaves_mk (Below.refl _ _) rfl (fun h => by cases h))
          case tlD2 =>
            intro vals w5 hb5 hf hdis
            simp only [List.drop_succ_cons, List.drop_zero]
            have z8 : vals 8 = _ := hf 8 (by decide)
            rw [z8]; clear z8
            have z20 : vals 20 = _ := hf 20 (by decide)
            rw [z20]; clear z20
            clear hf hdis
            have BX5 := Lib.hid (BX4.out.trans (hb5.mono BX4.out.size)); have HB5 := Lib.hid (HB4.out.trans (hb5.mono HB4.out.size))
            clear hb5
            go_wp2_with fail
            go_ret
            exact ⟨by rw [R.out]; rfl, HB5.out⟩
    · have hq' : q = l.length := by omega
      subst hq'
      have R := Lib.hid (show firstBad f l 0 = -1 by rw [FB.out, List.drop_length]; rfl)
      go_wp2_with fail
      go_ret
      exact ⟨by rw [R.out]; rfl, HBo.out⟩

set_option maxRecDepth 100000 in
set_option maxHeartbeats 4000000 in
theorem rverify_any (vf x : Value) (f : Fm) (t : Tr) (w : World) (hf : FmV w vf f) (ht : TrV w x t) :
    Calls Tryz.prog 12 #[vf, x] w (RetV w (.tuple #[.bool (verV f t).1, .int .i64 (verV f t).2.1, .int .i64 ((verV f t).2.2 : Nat)])) := by
  have hrs := leaves_reason t x 0 0 ht
  obtain ⟨ec, hec⟩ : ∃ ec, cErr f t = ec := ⟨_, rfl⟩
  obtain ⟨nv, rfl, hn, hv, htp⟩ := hf
  obtain ⟨ao, c, rfl, hc, hc2, _⟩ := hn.shape
  have HF := Lib.hid (show FmV w _ f from ⟨_, rfl, hn, hv, htp⟩)
  have HT := Lib.hid ht
  obtain ⟨tv, tr, ta, tn, tc, rfl⟩ := ht.shape
  obtain ⟨W, hW⟩ : ∃ W, W = (w.alloc (.cells #[.int .i64 f.vars, .slice ao f.nodes.length c, .int .i64 f.top] 24)).alloc (.cells #[.int .i64 tv, .slice ta tn tc, .int .i64 tr] 27) := ⟨_, rfl⟩
  have hbW : Below w.heap.size w W := by rw [hW]; exact ((Below.refl _ _).alloc (Nat.le_refl _) _).alloc (by simp) _
  have hg1 : W.heap[w.heap.size]? = some (.cells #[.int .i64 f.vars, .slice ao f.nodes.length c, .int .i64 f.top] 24) := by rw [hW]; exact heap_alloc2_old w _ _
  have hg2 : W.heap[w.heap.size + 1]? = some (.cells #[.int .i64 tv, .slice ta tn tc, .int .i64 tr] 27) := by rw [hW]; exact heap_alloc2_new w _ _
  obtain ⟨g1, hG1⟩ : ∃ g, g = w.heap.size := ⟨_, rfl⟩
  obtain ⟨g2, hG2⟩ : ∃ g, g = w.heap.size + 1 := ⟨_, rfl⟩
  rw [← hG1] at hg1; rw [← hG2] at hg2
  have HBW := Lib.hid hbW; have G1 := Lib.hid hg1; have G2 := Lib.hid hg2
  obtain ⟨x0, x1, x2⟩ := row3 hg1
  obtain ⟨y0, y1, y2⟩ := row3 hg2
  rw [hW, hG1] at x0 x1 x2
  rw [hW, hG2] at y0 y1 y2
  clear hbW hg1 hg2 hn hv htp ht
  have HK := Lib.hid (rerror_any _ _ f t W (HF.out.below HBW.out) (HT.out.below HBW.out))
  rw [hec] at HK
  go_enter Tryz.func12, Tryz.ntmps12
  go_wp2_with (with_reducible refine pauseCall ?_)
  rw [← hW, ← hG2, ← hG1]; clear hW hG1 hG2 x0 x1 x2 y0 y1 y2
  refine Pause.mk ?_
  (with_reducible refine HK.out.mono ?_); rintro e w1 ⟨rfl, hb1⟩
  have HB1 := Lib.hid (HBW.out.trans (hb1.mono HBW.out.size))
  have G1 := Lib.hid (heap_below G1.out hb1)
  obtain ⟨x0, x1, x2⟩ := row3 G1.out
  obtain ⟨y0, y1, y2⟩ := row3 (heap_below G2.out hb1)
  clear hb1 HK
  by_cases h0 : ec = 0
  · subst h0
    obtain ⟨fb, hfb⟩ : ∃ fb, fb = firstBad f (trLeaves t 0 0) 0 := ⟨_, rfl⟩
    have VV := Lib.hid (show verV f t = (decide (fb < 0), fb, 0) by unfold verV; rw [if_pos hec, hfb])
    have hfm := (cErr_ok hec).1
    obtain ⟨p0, p1, _, _⟩ := fmErr_parts hfm
    have HK := Lib.hid (rLeaves_any _ t f.vars w1 (HT.out.below HB1.out) ⟨p0, p1⟩ 0 (by rw [← cErr_t hfm]; exact hec))
    have HCT := Lib.hid (cert_cubes hec); have HLN := Lib.hid (cert_len hec); have HRS := Lib.hid hrs; have HFM := Lib.hid hfm; have HP := Lib.hid (And.intro p0 p1)
    clear hec hfm p0 p1 hrs
    go_wp2_with (with_reducible refine pauseCall ?_)
    refine Pause.mk ?_
    (with_reducible refine HK.out.mono ?_); rintro e w2 ⟨v', rfl, hb2, hl⟩
    have HB2 := Lib.hid (HB1.out.trans (hb2.mono HB1.out.size))
    have HK := Lib.hid (rwrong_any _ v' f _ w2 (HF.out.below HB2.out) (hl (by first | rfl | trivial)) HFM.out (fun z hz => okC_cube (HCT.out z hz) HP.out.1 HP.out.2) HRS.out HLN.out)
    rw [← hfb] at HK
    clear x0 x1 x2 y0 y1 y2 hfb
    obtain ⟨x0, x1, x2⟩ := row3 (heap_below G1.out hb2)
    clear hb2 hl
    go_wp2_with (with_reducible refine pauseCall ?_)
    clear x0 x1 x2
    refine Pause.mk ?_
    (with_reducible refine HK.out.mono ?_); rintro e w3 ⟨rfl, hb3⟩
    have HB3 := Lib.hid (HB2.out.trans (hb3.mono HB2.out.size))
    clear hb3 HK
    go_wp2_with fail
    go_ret3
    exact ⟨by rw [VV.out]; rfl, HB3.out⟩
  · have VV := Lib.hid (show verV f t = (false, 0, ec) by unfold verV; rw [if_neg (by rw [hec]; exact h0), hec])
    clear hec hrs
    have h0' : ¬ ((ec : Nat) : Int) = 0 := by omega
    go_wp2_with fail
    go_ret3
    exact ⟨by rw [VV.out]; rfl, HB1.out⟩
end Go.Proofs.YthhgfhdmfhnklaaGreatDoor
/-
  Arguments that are formulas and trees.
  Conditions: none beyond each theorem's own.
-/
namespace Go.Proofs.YthhgfhdmfhnklaaGreatDoor
open Go.RowKit Go.ChangeShapes Go.WideShapes Go.Joins Go.Deep

theorem nodeTys : NodeTys Tryz.prog 3 80 82 :=
  ⟨Tryz.underlying3, by kernel_rfl, Tryz.underlying80, by kernel_rfl, by kernel_rfl, ⟨_, _, _, Tryz.underlying82, rfl, rfl, rfl, rfl, rfl, rfl⟩⟩
theorem treeTys : TreeTys Tryz.prog 3 25 27 :=
  ⟨Tryz.underlying3, by kernel_rfl, Tryz.underlying25, by kernel_rfl, by kernel_rfl, ⟨_, _, _, Tryz.underlying27, rfl, rfl, rfl, rfl, rfl, rfl⟩⟩
set_option maxRecDepth 100000 in
set_option maxHeartbeats 1600000 in
theorem open_fm {H : Type} {enc : TypeId × Value → H} {W : World} {v : Value} {d : DataW H} {p : List MemPlace} {base : Nat}
    (hv : Value.okWide Tryz.prog W .any base 24 v) (h : DataW.Trod enc Tryz.prog W 0 (fun _ => true) true 24 v d p) : ∃ f, FmV W v f := by
  obtain ⟨v0, v1, v2, y0, y1, y2, n, rfl, _, _, h0, h1, h2⟩ := Go.Joins.open_agg3 Tryz.underlying24 (by kernel_rfl) (by kernel_rfl) hv h
  have h0' : DataW.trod enc Tryz.prog W 0 (fun _ => true) true n 3 [v0] = some y0 := h0
  have h1' : DataW.trod enc Tryz.prog W 0 (fun _ => true) true n 22 [v1] = some y1 := h1
  have h2' : DataW.trod enc Tryz.prog W 0 (fun _ => true) true n 3 [v2] = some y2 := h2
  obtain ⟨k0, e0, _, w0⟩ := DataW.trod_int Tryz.underlying3 h0'
  obtain ⟨k2, e2, _, w2⟩ := DataW.trod_int Tryz.underlying3 h2'
  obtain ⟨l, hl⟩ := open_nodes nodeTys Tryz.underlying22 h1'
  have e0' : v0 = .int .i64 k0 := by simpa using e0
  have e2' : v2 = .int .i64 k2 := by simpa using e2
  exact ⟨⟨k0, l, k2⟩, v1, by rw [e0', e2'], hl, i64_wf w0, i64_wf w2⟩
set_option maxRecDepth 100000 in
set_option maxHeartbeats 1600000 in
theorem open_tr {H : Type} {enc : TypeId × Value → H} {W : World} {v : Value} {d : DataW H} {p : List MemPlace} {base : Nat}
    (hv : Value.okWide Tryz.prog W .any base 27 v) (h : DataW.Trod enc Tryz.prog W 0 (fun _ => true) true 27 v d p) : ∃ t, TrV W v t := by
  obtain ⟨cs, rfl, hsz⟩ := okWide_struct Tryz.underlying27 hv
  obtain ⟨c0, c1, c2, rfl⟩ := array3 (hsz.trans (by kernel_rfl))
  obtain ⟨fuel, hf⟩ := h
  obtain ⟨a, r, ks, kv, e, hk, ha, hr⟩ := open_tree treeTys _ fuel _ d p (Nat.lt_succ_self _) hf
  have e' : [c0, c1, c2] = [.int .i64 a, kv, .int .i64 r] := e
  simp only [List.cons.injEq, and_true] at e'
  obtain ⟨rfl, rfl, rfl⟩ := e'
  exact ⟨.mk a ks r, c1, rfl, hk, ha, hr⟩
end Go.Proofs.YthhgfhdmfhnklaaGreatDoor
