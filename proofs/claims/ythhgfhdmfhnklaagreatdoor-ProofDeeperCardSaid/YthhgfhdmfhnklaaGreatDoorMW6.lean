/-
  The texts Pr3, DrawG, Pr4, Pr5, ShelfT, SpT, Ex0, Sp5, Lw0, one behind the other (what the laws lean on).
  Conditions: each theorem's own.
-/
import Derived.Shelf.Strconv.Itoa1
import Derived.Shelf.LaysM
import Derived.Shelf.Strconv.Itoa2
import Derived.Shelf.Strconv.Itoa3
import Derived.Shelf.Unicode.DecodeAny
import Derived.Test.YthhgfhdmfhnklaaGreatDoorMW5
/-
  proof.Bounds and Value.
  Conditions: each theorem's own.
-/
namespace Go.Proofs.YthhgfhdmfhnklaaGreatDoor
open Go.RowKit Go.ChangeShapes Go.WideShapes

theorem rl_sum {L : List Rv} {r : Int} {l : List Lf} (hL : L.length ≤ 24) (hsm : ∀ r ∈ L, r.a.length ≤ 3 ∧ r.b.length ≤ 3 ∧ rl r.q ≤ 3) (hl : l.length ≤ 300) : rl (sumF (L.map Rv.q) r l 0) ≤ 37000 := by
  have h1 := rl_sumF (k := 3) (L.map Rv.q) (fun p hp => by obtain ⟨z, hz, rfl⟩ := List.mem_map.1 hp; exact (hsm z hz).2.2) r l 0
  rw [rl_zero, List.length_map] at h1
  have h2 : L.length * (3 + 2) ≤ 24 * 5 := Nat.mul_le_mul_right 5 hL
  have h3 : l.length * (2 + L.length * (3 + 2)) ≤ 300 * (2 + 24 * 5) := Nat.mul_le_mul hl (by omega)
  omega
theorem sErr_parts {f : Fm} {t : Tr} {L : List Rv} (h : sErr f t L = 0) : cErr f t = 0 ∧ (L.length : Int) = f.vars ∧ (∀ r ∈ L, prB r.s r.a r.b = true) ∧ firstBad f (trLeaves t 0 0) 0 < 0 := by
  unfold sErr at h
  split at h
  · rename_i h1; exact absurd h h1
  rename_i h1
  split at h
  · cases h
  rename_i h2
  split at h
  · cases h
  rename_i h3
  split at h
  · cases h
  rename_i h4
  refine ⟨by omega, by omega, fun r hr => ?_, by omega⟩
  cases hb : prB r.s r.a r.b with
  | true => rfl
  | false => exact absurd (List.any_eq_true.2 ⟨r, hr, by rw [hb]; rfl⟩) h3
/-- bounds, with an error -/
def RetBd (w : World) (S : Rat × Rat) (er : Nat) (e : Ending) (w' : World) : Prop := ∃ v, e = .returned (.tuple #[v, errV er]) ∧ Below w.heap.size w w' ∧ IsSp w' v S
/-- the bounds that a certificate gives -/
def bndV (f : Fm) (t : Tr) (L : List Rv) : Rat × Rat := if sErr f t L = 0 then (sumF (L.map Rv.q) 1 (trLeaves t 0 0) 0, 1 - sumF (L.map Rv.q) 0 (trLeaves t 0 0) 0) else (0, 0)
set_option maxRecDepth 100000 in
set_option maxHeartbeats 8000000 in
theorem bounds_any (vf x v : Value) (f : Fm) (t : Tr) (L : List Rv) (w : World) (hf : FmV w vf f) (ht : TrV w x t) (hp : RvsV w v L) (hsm : ∀ r ∈ L, r.a.length ≤ 3 ∧ r.b.length ≤ 3 ∧ rl r.q ≤ 3) (hlv : cErr f t = 0 → (trLeaves t 0 0).length ≤ 300) (er : Nat) (her : sErr f t L = er) :
    Calls Tryz.prog 19 #[vf, v, x] w (RetBd w (bndV f t L) er) := by
  have hA : er = 0 → rl (sumF (L.map Rv.q) 0 (trLeaves t 0 0) 0) ≤ 37000 := fun h => by
    obtain ⟨k1, k2, _⟩ := sErr_parts (her.trans h)
    have := (fmErr_parts (cErr_ok k1).1).2.1
    exact rl_sum (by omega) hsm (hlv k1)
  have HB0 := Lib.hid her; have HA0 := Lib.hid hA; clear hA
  obtain ⟨ap, cp, rfl, hcp, hcp2, _⟩ := hp.shape
  obtain ⟨nv, rfl, hn, hv, htp⟩ := hf
  obtain ⟨ao, c, rfl, hc, hc2, _⟩ := hn.shape
  have HF := Lib.hid (show FmV w _ f from ⟨_, rfl, hn, hv, htp⟩)
  have HT := Lib.hid ht; have HP := Lib.hid hp
  obtain ⟨tv, tr, ta, tn, tc, rfl⟩ := ht.shape
  obtain ⟨W0, hW0⟩ : ∃ W, W = (w.alloc (.cells #[.int .i64 f.vars, .slice ao f.nodes.length c, .int .i64 f.top] 24)).alloc (.cells #[.int .i64 tv, .slice ta tn tc, .int .i64 tr] 27) := ⟨_, rfl⟩
  obtain ⟨W, hW⟩ : ∃ W, W = W0.alloc (.cells #[.bool false, .slice none 0 0, .slice none 0 0, .bool false, .slice none 0 0, .slice none 0 0] 56) := ⟨_, rfl⟩
  have hb0 : Below w.heap.size w W0 := by rw [hW0]; exact ((Below.refl _ _).alloc (Nat.le_refl _) _).alloc (by simp) _
  have hb1 : Below W0.heap.size W0 W := by rw [hW]; exact (Below.refl _ _).alloc (Nat.le_refl _) _
  have hs0 : W0.heap.size = w.heap.size + 1 + 1 := by rw [hW0]; simp
  have hg3 : W.heap[w.heap.size]? = some (.cells #[.int .i64 f.vars, .slice ao f.nodes.length c, .int .i64 f.top] 24) := heap_below (by rw [hW0]; exact heap_alloc2_old w _ _) hb1
  have hg5 : W.heap[w.heap.size + 1]? = some (.cells #[.int .i64 tv, .slice ta tn tc, .int .i64 tr] 27) := heap_below (by rw [hW0]; exact heap_alloc2_new w _ _) hb1
  have hg6 : W.heap[w.heap.size + 1 + 1]? = some (.cells #[.bool false, .slice none 0 0, .slice none 0 0, .bool false, .slice none 0 0, .slice none 0 0] 56) := by rw [hW, ← hs0]; exact heap_alloc_new W0 _
  rw [hW0] at hW
  obtain ⟨g3, hG3⟩ : ∃ g, g = w.heap.size := ⟨_, rfl⟩
  obtain ⟨g5, hG5⟩ : ∃ g, g = w.heap.size + 1 := ⟨_, rfl⟩
  obtain ⟨g6, hG6⟩ : ∃ g, g = w.heap.size + 1 + 1 := ⟨_, rfl⟩
  rw [← hG3] at hg3; rw [← hG5] at hg5; rw [← hG6] at hg6
  have l6 : w.heap.size ≤ g6 := by omega
  have HBW := Lib.hid (hb0.trans (hb1.mono hb0.size)); have G6 := Lib.hid hg6
  obtain ⟨x0, x1, x2⟩ := row3 hg3
  obtain ⟨y0, y1, y2⟩ := row3 hg5
  rw [hW, hG3] at x0 x1 x2
  rw [hW, hG5] at y0 y1 y2
  have HK := Lib.hid (sums_any _ _ _ f t L W (HF.out.below HBW.out) (HT.out.below HBW.out) (HP.out.below HBW.out) hsm hlv er her)
  clear hb0 hb1 hs0 hg3 hg5 hg6 hW0 hn hv htp ht hp hsm hlv her
  go_enter Tryz.func19, Tryz.ntmps19
  go_wp2_with (with_reducible refine pauseCall ?_)
  rw [← hW, ← hG6, ← hG5, ← hG3]; clear hW hG3 hG5 hG6 x0 x1 x2 y0 y1 y2
  refine Pause.mk ?_
  (with_reducible refine HK.out.mono ?_); rintro e w1 ⟨s0, s1, s2, o0, a0, o1, a1, o2, a2, n0, c0, m0, d0, n1, c1, m1, d1, n2, c2, m2, d2, vl, rfl, hb1, hr⟩
  obtain ⟨wa, hwa⟩ : ∃ wa, wa = w1.alloc (.cells #[.bool false, .slice none 0 0, .slice none 0 0, .bool false, .slice none 0 0, .slice none 0 0, .bool false, .slice none 0 0, .slice none 0 0] 105) := ⟨_, rfl⟩
  have hba : Below w1.heap.size w1 wa := by rw [hwa]; exact (Below.refl _ _).alloc (Nat.le_refl _) _
  have hga : wa.heap[w1.heap.size]? = some (.cells #[.bool false, .slice none 0 0, .slice none 0 0, .bool false, .slice none 0 0, .slice none 0 0, .bool false, .slice none 0 0, .slice none 0 0] 105) := by rw [hwa]; exact heap_alloc_new w1 _
  obtain ⟨g8, hG8⟩ : ∃ g, g = w1.heap.size := ⟨_, rfl⟩
  rw [← hG8] at hga
  go_wp2_with (with_reducible refine wpList_pauseS ?_)
  rw [← hwa, ← hG8]
  refine wpList_stL g8 0 [.bool s0, .slice o0 n0 c0, .slice a0 m0 d0, .bool s1, .slice o1 n1 c1, .slice a1 m1 d1, .bool s2, .slice o2 n2 c2, .slice a2 m2 d2] hga rfl rfl (Nat.le_of_ble_eq_true rfl) (by kernel_rfl) rfl ?_
  intro w2 hp2
  have ne68 : g6 ≠ g8 := by have := below_lt G6.out; have := hb1.size; omega
  have l8 : w.heap.size ≤ g8 := by have := (HBW.out.trans (hb1.mono HBW.out.size)).size; omega
  have hb12 := hb1.trans (hba.mono hb1.size)
  have HBc := Lib.hid (putLb hp2 (HBW.out.trans (hb12.mono HBW.out.size)) l8); have G6 := Lib.hid (putLx hp2 (heap_below G6.out hb12) ne68)
  have G8 := Lib.hid (show w2.heap[g8]? = some (.cells #[.bool s0, .slice o0 n0 c0, .slice a0 m0 d0, .bool s1, .slice o1 n1 c1, .slice a1 m1 d1, .bool s2, .slice o2 n2 c2, .slice a2 m2 d2] 105) by rw [hp2]; exact putL_99 hga)
  have HR := Lib.hid (show er = 0 → IsR w2 (.agg #[.bool s0, .slice o0 n0 c0, .slice a0 m0 d0]) (sumF (L.map Rv.q) 0 (trLeaves t 0 0) 0) ∧ IsR w2 (.agg #[.bool s1, .slice o1 n1 c1, .slice a1 m1 d1]) (sumF (L.map Rv.q) 1 (trLeaves t 0 0) 0) ∧ LfsV w2 vl (trLeaves t 0 0) from fun h => ⟨putL_I hp2 ((hr h).1.below hba) hga noW9, putL_I hp2 ((hr h).2.1.below hba) hga noW9, putL_lfs hp2 ((hr h).2.2.2.below hba) hga noI9⟩)
  clear hwa hG8 hp2 hba hga hb1 hb12 hr HK
  by_cases h0 : er = 0
  · subst h0
    have BV := Lib.hid (show bndV f t L = (sumF (L.map Rv.q) 1 (trLeaves t 0 0) 0, 1 - sumF (L.map Rv.q) 0 (trLeaves t 0 0) 0) by unfold bndV; rw [if_pos HB0.out])
    obtain ⟨i0, i1, il⟩ := HR.out rfl
    have HA := Lib.hid (HA0.out rfl)
    obtain ⟨A0, hA0⟩ : ∃ a, a = sumF (L.map Rv.q) 0 (trLeaves t 0 0) 0 := ⟨_, rfl⟩
    obtain ⟨A1, hA1⟩ : ∃ a, a = sumF (L.map Rv.q) 1 (trLeaves t 0 0) 0 := ⟨_, rfl⟩
    rw [← hA0] at i0 HA BV; rw [← hA1] at i1 BV
    have I0 := Lib.hid i0; have I1 := Lib.hid i1
    rw [errV_zero]
    clear i0 i1 il hA0 hA1 HR HA0 HB0
    go_wp2_with (with_reducible first | refine pauseCall ?_ | refine pauseLoop ?_ | refine pauseDraw ?_ | refine pauseBody ?_ | refine pauseRounds ?_)
    refine Pause.mk ?_
    refine wp_region_facts (A := ?aa4) (w := w2) 6 [] (by kernel_rfl) (Fl [KEq (.pointer (some ⟨g8, 3, none⟩)), KEq (.agg #[.bool s1, .slice o1 n1 c1, .slice a1 m1 d1]), KIs 1, KEq (.pointer (some ⟨g8, 0, none⟩)), KEq (.agg #[.bool s0, .slice o0 n0 c0, .slice a0 m0 d0]), KIs (1 - A0)]) (fun i => false) (by kernel_rfl) ?hq4 (monoL (monoC (kEq _) (monoC (kEq _) (monoC (kIs _) (monoC (kEq _) (monoC (kEq _) (monoC (kIs _) monoN))))))) ?ha4 ?st4 ?tl4
    case hq4 =>
      intro c a d v w h
      first | (simp only [Exit.then] at h ⊢; exact h) | (simp only [Exit.inBlock, Exit.then] at h ⊢; exact h) | exact h
    case ha4 =>
      intro vals
      simp only [putsTo, dstOf, if_true, Act.put, List.setIfInBounds_toArray, List.set_cons_zero, List.set_cons_succ, List.getElem?_toArray, List.getElem?_cons_zero, List.getElem?_cons_succ, Option.bind_some]
      exact rfl
    case st4 =>
      simp only [List.take_succ_cons, List.take_zero]
      refine stepsOK_cons rfl rfl ?_ (stepsOK_cons rfl rfl ?_ (stepsOK_cons rfl rfl ?_ (stepsOK_cons rfl rfl ?_ (stepsOK_cons rfl rfl ?_ (stepsOK_cons rfl rfl ?_ (stepsOK_nil))))))
      · intro vals w1 hb hd
        refine stepOK_value (v := .pointer (some ⟨g8, 3, none⟩)) (w' := w1) (by go_simp) (leaves_mk (Below.refl _ _) rfl (fun h => by cases h))
      · intro vals w1 hb hd
        have d0 : KEq (.pointer (some ⟨g8, 3, none⟩)) (vals 0) w1 := hd 0 (by kernel_rfl)
        obtain ⟨e0, e1, e2, e3, e4, e5, e6, e7, e8⟩ := row9 (heap_below G8.out hb)
        rw [show vals 0 = _ from d0]
        refine stepOK_value (v := .agg #[.bool s1, .slice o1 n1 c1, .slice a1 m1 d1]) (w' := w1) (by go_simp) (leaves_mk (Below.refl _ _) rfl (fun h => by cases h))
      · intro vals w1 hb hd
        have HS := Lib.hid (ofq_any 1 w1 (by decide) (by decide))
        refine stepOK_call (by go_simp; first | done | exact ⟨⟨rfl, rfl⟩, rfl⟩) ?_
        (with_reducible refine HS.out.mono ?_); rintro e w2 ⟨v, rfl, hb2, hn⟩
        exact ⟨v, rfl, leaves_mk hb2 hn (fun h => by cases h)⟩
      · intro vals w1 hb hd
        refine stepOK_value (v := .pointer (some ⟨g8, 0, none⟩)) (w' := w1) (by go_simp) (leaves_mk (Below.refl _ _) rfl (fun h => by cases h))
      · intro vals w1 hb hd
        have d3 : KEq (.pointer (some ⟨g8, 0, none⟩)) (vals 3) w1 := hd 3 (by kernel_rfl)
        obtain ⟨e0, e1, e2, e3, e4, e5, e6, e7, e8⟩ := row9 (heap_below G8.out hb)
        rw [show vals 3 = _ from d3]
        refine stepOK_value (v := .agg #[.bool s0, .slice o0 n0 c0, .slice a0 m0 d0]) (w' := w1) (by go_simp) (leaves_mk (Below.refl _ _) rfl (fun h => by cases h))
      · intro vals w1 hb hd
        have d2 : KIs 1 (vals 2) w1 := hd 2 (by kernel_rfl)
        have d4 : KEq (.agg #[.bool s0, .slice o0 n0 c0, .slice a0 m0 d0]) (vals 4) w1 := hd 4 (by kernel_rfl)
        have HS := Lib.hid (subq_any (vals 2) 1 _ A0 w1 (IsR.is d2 (by rw [rl_one]; decide)) ((I0.out.below hb).is (by have := HA.out; omega)))
        rw [show vals 4 = _ from d4]
        refine stepOK_call (by go_simp; first | done | exact ⟨⟨rfl, rfl⟩, rfl⟩) ?_
        (with_reducible refine HS.out.mono ?_); rintro e w2 ⟨v, rfl, hb2, hn⟩
        exact ⟨v, rfl, leaves_mk hb2 hn (fun h => by cases h)⟩
    case tl4 =>
      intro vals w3 hb3 hf hdis
      simp only [List.drop_succ_cons, List.drop_zero]
      have z1 : vals 1 = _ := hf 1 (by decide)
      obtain ⟨vm, hvm⟩ : ∃ u, u = vals 5 := ⟨_, rfl⟩
      have hn3 : IsR w3 (vals 5) (1 - A0) := hf 5 (by decide)
      rw [z1]
      rw [← hvm] at hn3 ⊢
      clear hf hdis hvm z1
      obtain ⟨sz, oz, nz, cz, az, mz, dz, rfl⟩ := hn3.shape
      have HBc := Lib.hid (HBc.out.trans (hb3.mono HBc.out.size)); have G6 := Lib.hid (heap_below G6.out hb3); have I1 := Lib.hid (I1.out.below hb3); have IM := Lib.hid hn3
      clear hb3 hn3
      go_wp2_with (with_reducible refine wpList_pauseS ?_)
      refine wpList_stL g6 0 [.bool s1, .slice o1 n1 c1, .slice a1 m1 d1, .bool sz, .slice oz nz cz, .slice az mz dz] G6.out rfl rfl (Nat.le_of_ble_eq_true rfl) (by kernel_rfl) rfl ?_
      intro wz hpz
      have GZ := Lib.hid (show wz.heap[g6]? = some (.cells #[.bool s1, .slice o1 n1 c1, .slice a1 m1 d1, .bool sz, .slice oz nz cz, .slice az mz dz] 56) by rw [hpz]; exact putL_6 G6.out)
      have HBZ := Lib.hid (putLb hpz HBc.out l6)
      have J1 := Lib.hid (putL_I hpz I1.out G6.out noW6); have JM := Lib.hid (putL_I hpz IM.out G6.out noW6)
      clear hpz
      go_wp2_with (with_reducible first | refine pauseCall ?_ | refine pauseLoop ?_ | refine pauseDraw ?_ | refine pauseBody ?_ | refine pauseRounds ?_)
      refine ret_span2 rfl g6 _ _ _ _ _ _ rfl GZ.out rfl ?_
      exact ⟨_, rfl, HBZ.out, by rw [BV.out]; exact isSp_of J1.out JM.out⟩
  · have BV := Lib.hid (show bndV f t L = (0, 0) by unfold bndV; rw [if_neg (by rw [HB0.out]; exact h0)])
    rw [errV_pos h0]
    go_wp2_with (with_reducible refine wpList_pauseS ?_)
    refine wpList_stL g6 0 [.bool false, .slice none 0 0, .slice none 0 0, .bool false, .slice none 0 0, .slice none 0 0] G6.out rfl rfl (Nat.le_of_ble_eq_true rfl) (by kernel_rfl) rfl ?_
    intro wz hpz
    have GZ := Lib.hid (show wz.heap[g6]? = some (.cells #[.bool false, .slice none 0 0, .slice none 0 0, .bool false, .slice none 0 0, .slice none 0 0] 56) by rw [hpz]; exact putL_6 G6.out)
    have HBZ := Lib.hid (putLb hpz HBc.out l6)
    clear hpz
    go_wp2_with (with_reducible first | refine pauseCall ?_ | refine pauseLoop ?_ | refine pauseDraw ?_ | refine pauseBody ?_ | refine pauseRounds ?_)
    refine ret_span2 rfl g6 _ _ _ _ _ _ rfl GZ.out rfl ?_
    exact ⟨_, by rw [errV_pos h0]; rfl, HBZ.out, by rw [BV.out]; exact isSp_of (isR_zero _) (isR_zero _)⟩

/-- the value that a certificate gives, and the number of the error -/
def valC (f : Fm) (t : Tr) (L : List Rv) : Rat × Nat :=
  if sErr f t L ≠ 0 then (0, sErr f t L) else if ((trLeaves t 0 0).any fun x => decide (x.reason = 2)) = true then (0, 18) else (sumF (L.map Rv.q) 1 (trLeaves t 0 0) 0, 0)
set_option maxRecDepth 100000 in
set_option maxHeartbeats 8000000 in
theorem value_c (vf x v : Value) (f : Fm) (t : Tr) (L : List Rv) (w : World) (hf : FmV w vf f) (ht : TrV w x t) (hp : RvsV w v L) (hsm : ∀ r ∈ L, r.a.length ≤ 3 ∧ r.b.length ≤ 3 ∧ rl r.q ≤ 3) (hlv : cErr f t = 0 → (trLeaves t 0 0).length ≤ 300) (er : Nat) (her : sErr f t L = er) :
    Calls Tryz.prog 22 #[vf, v, x] w (RetRE w (valC f t L).1 (errV (valC f t L).2)) := by
  have HB0 := Lib.hid her
  obtain ⟨ap, cp, rfl, hcp, hcp2, _⟩ := hp.shape
  obtain ⟨nv, rfl, hn, hv, htp⟩ := hf
  obtain ⟨ao, c, rfl, hc, hc2, _⟩ := hn.shape
  have HF := Lib.hid (show FmV w _ f from ⟨_, rfl, hn, hv, htp⟩)
  have HT := Lib.hid ht; have HP := Lib.hid hp
  obtain ⟨tv, tr, ta, tn, tc, rfl⟩ := ht.shape
  obtain ⟨W0, hW0⟩ : ∃ W, W = (w.alloc (.cells #[.int .i64 f.vars, .slice ao f.nodes.length c, .int .i64 f.top] 24)).alloc (.cells #[.int .i64 tv, .slice ta tn tc, .int .i64 tr] 27) := ⟨_, rfl⟩
  obtain ⟨W, hW⟩ : ∃ W, W = W0.alloc (.cells #[.bool false, .slice none 0 0, .slice none 0 0] 54) := ⟨_, rfl⟩
  have hb0 : Below w.heap.size w W0 := by rw [hW0]; exact ((Below.refl _ _).alloc (Nat.le_refl _) _).alloc (by simp) _
  have hb1 : Below W0.heap.size W0 W := by rw [hW]; exact (Below.refl _ _).alloc (Nat.le_refl _) _
  have hs0 : W0.heap.size = w.heap.size + 1 + 1 := by rw [hW0]; simp
  have hg3 : W.heap[w.heap.size]? = some (.cells #[.int .i64 f.vars, .slice ao f.nodes.length c, .int .i64 f.top] 24) := heap_below (by rw [hW0]; exact heap_alloc2_old w _ _) hb1
  have hg5 : W.heap[w.heap.size + 1]? = some (.cells #[.int .i64 tv, .slice ta tn tc, .int .i64 tr] 27) := heap_below (by rw [hW0]; exact heap_alloc2_new w _ _) hb1
  have hg6 : W.heap[w.heap.size + 1 + 1]? = some (.cells #[.bool false, .slice none 0 0, .slice none 0 0] 54) := by rw [hW, ← hs0]; exact heap_alloc_new W0 _
  rw [hW0] at hW
  obtain ⟨g3, hG3⟩ : ∃ g, g = w.heap.size := ⟨_, rfl⟩
  obtain ⟨g5, hG5⟩ : ∃ g, g = w.heap.size + 1 := ⟨_, rfl⟩
  obtain ⟨g6, hG6⟩ : ∃ g, g = w.heap.size + 1 + 1 := ⟨_, rfl⟩
  rw [← hG3] at hg3; rw [← hG5] at hg5; rw [← hG6] at hg6
  have l6 : w.heap.size ≤ g6 := by omega
  have HBW := Lib.hid (hb0.trans (hb1.mono hb0.size)); have G6 := Lib.hid hg6
  obtain ⟨x0, x1, x2⟩ := row3 hg3
  obtain ⟨y0, y1, y2⟩ := row3 hg5
  rw [hW, hG3] at x0 x1 x2
  rw [hW, hG5] at y0 y1 y2
  have HK := Lib.hid (sums_any _ _ _ f t L W (HF.out.below HBW.out) (HT.out.below HBW.out) (HP.out.below HBW.out) hsm hlv er her)
  clear hb0 hb1 hs0 hg3 hg5 hg6 hW0 hn hv htp ht hp hsm hlv her
  go_enter Tryz.func22, Tryz.ntmps22
  go_wp2_with (with_reducible refine pauseCall ?_)
  rw [← hW, ← hG6, ← hG5, ← hG3]; clear hW hG3 hG5 hG6 x0 x1 x2 y0 y1 y2
  refine Pause.mk ?_
  (with_reducible refine HK.out.mono ?_); rintro e w1 ⟨s0, s1, s2, o0, a0, o1, a1, o2, a2, n0, c0, m0, d0, n1, c1, m1, d1, n2, c2, m2, d2, vl, rfl, hb1, hr⟩
  obtain ⟨wa, hwa⟩ : ∃ wa, wa = w1.alloc (.cells #[.bool false, .slice none 0 0, .slice none 0 0, .bool false, .slice none 0 0, .slice none 0 0, .bool false, .slice none 0 0, .slice none 0 0] 105) := ⟨_, rfl⟩
  have hba : Below w1.heap.size w1 wa := by rw [hwa]; exact (Below.refl _ _).alloc (Nat.le_refl _) _
  have hga : wa.heap[w1.heap.size]? = some (.cells #[.bool false, .slice none 0 0, .slice none 0 0, .bool false, .slice none 0 0, .slice none 0 0, .bool false, .slice none 0 0, .slice none 0 0] 105) := by rw [hwa]; exact heap_alloc_new w1 _
  obtain ⟨g8, hG8⟩ : ∃ g, g = w1.heap.size := ⟨_, rfl⟩
  rw [← hG8] at hga
  go_wp2_with (with_reducible refine wpList_pauseS ?_)
  rw [← hwa, ← hG8]
  refine wpList_stL g8 0 [.bool s0, .slice o0 n0 c0, .slice a0 m0 d0, .bool s1, .slice o1 n1 c1, .slice a1 m1 d1, .bool s2, .slice o2 n2 c2, .slice a2 m2 d2] hga rfl rfl (Nat.le_of_ble_eq_true rfl) (by kernel_rfl) rfl ?_
  intro w2 hp2
  have ne68 : g6 ≠ g8 := by have := below_lt G6.out; have := hb1.size; omega
  have l8 : w.heap.size ≤ g8 := by have := (HBW.out.trans (hb1.mono HBW.out.size)).size; omega
  have hb12 := hb1.trans (hba.mono hb1.size)
  have HBc := Lib.hid (putLb hp2 (HBW.out.trans (hb12.mono HBW.out.size)) l8); have G6 := Lib.hid (putLx hp2 (heap_below G6.out hb12) ne68)
  have G8 := Lib.hid (show w2.heap[g8]? = some (.cells #[.bool s0, .slice o0 n0 c0, .slice a0 m0 d0, .bool s1, .slice o1 n1 c1, .slice a1 m1 d1, .bool s2, .slice o2 n2 c2, .slice a2 m2 d2] 105) by rw [hp2]; exact putL_99 hga)
  have HR := Lib.hid (show er = 0 → IsR w2 (.agg #[.bool s0, .slice o0 n0 c0, .slice a0 m0 d0]) (sumF (L.map Rv.q) 0 (trLeaves t 0 0) 0) ∧ IsR w2 (.agg #[.bool s1, .slice o1 n1 c1, .slice a1 m1 d1]) (sumF (L.map Rv.q) 1 (trLeaves t 0 0) 0) ∧ LfsV w2 vl (trLeaves t 0 0) from fun h => ⟨putL_I hp2 ((hr h).1.below hba) hga noW9, putL_I hp2 ((hr h).2.1.below hba) hga noW9, putL_lfs hp2 ((hr h).2.2.2.below hba) hga noI9⟩)
  clear hwa hG8 hp2 hba hga hb1 hb12 hr HK
  by_cases h0 : er = 0
  · subst h0
    obtain ⟨i0, i1, il⟩ := HR.out rfl
    have I1 := Lib.hid i1
    obtain ⟨al, cl, rfl, hcl, hcl2, _⟩ := il.shape
    obtain ⟨ls, hls⟩ : ∃ ls, ls = trLeaves t 0 0 := ⟨_, rfl⟩
    have VC := Lib.hid (show valC f t L = if (ls.any fun x => decide (x.reason = 2)) = true then (0, 18) else (sumF (L.map Rv.q) 1 ls 0, 0) by unfold valC; rw [if_neg (by rw [HB0.out]; exact fun h => h rfl), ← hls])
    rw [← hls] at il I1 hcl ⊢
    have HL := Lib.hid il
    rw [errV_zero]
    clear i0 i1 il hls HR HB0
    go_wp2_with fail
    go_loopw [27] (fun i' wx => ∃ q : Nat, q ≤ ls.length ∧ i' = .int .i64 q ∧ Hid (Below w2.heap.size w2 wx) ∧ Hid (∀ z ∈ ls.take q, decide (z.reason = 2) = false)) (fun i' _ => ls.length - (intOf i').toNat)
    case atStart => exact ⟨0, Nat.zero_le _, rfl, Lib.hid (Below.refl _ _), Lib.hid (by simp)⟩
    case round =>
      obtain ⟨q, hq, rfl, BX, PR⟩ := hrel
      obtain ⟨wo, rfl⟩ : ∃ wo : World, wo = wr := ⟨_, rfl⟩
      have HBc := Lib.hid (HBc.out.trans (BX.out.mono HBc.out.size)); have G6 := Lib.hid (heap_below G6.out BX.out); have G8 := Lib.hid (heap_below G8.out BX.out)
      have I1 := Lib.hid (I1.out.below BX.out)
      by_cases hlt : q < ls.length
      · obtain ⟨z, hz⟩ : ∃ z, ls[q]? = some z := ⟨ls[q], List.getElem?_eq_getElem hlt⟩
        obtain ⟨bl, ol, rfl, hbl, hjk, hat⟩ := (HL.out.below BX.out).at (by omega); clear hjk
        obtain ⟨c0', c1', c2'⟩ := hat q z hz
        have HZ := Lib.hid hz
        clear hat hz
        obtain ⟨zy, zn, zr⟩ := z
        simp only at c0' c1' c2'
        have hltz : (q : Int) < (ls.length : Int) := by omega
        obtain ⟨wa, hwa⟩ : ∃ wa, wa = wo.alloc (.cells #[.int .i64 0, .int .i64 0, .int .i64 0] 48) := ⟨_, rfl⟩
        have hba : Below wo.heap.size wo wa := by rw [hwa]; exact (Below.refl _ _).alloc (Nat.le_refl _) _
        have hga : wa.heap[wo.heap.size]? = some (.cells #[.int .i64 0, .int .i64 0, .int .i64 0] 48) := by rw [hwa]; exact heap_alloc_new wo _
        obtain ⟨gL, hGL⟩ : ∃ g, g = wo.heap.size := ⟨_, rfl⟩
        rw [← hGL] at hga
        go_wp2_with (with_reducible refine wpList_pauseS ?_)
        rw [← hwa, ← hGL]
        refine wpList_stL gL 0 [.int .i64 (zy : Nat), .int .i64 (zn : Nat), .int .i64 zr] hga rfl rfl (Nat.le_of_ble_eq_true rfl) (by kernel_rfl) rfl ?_
        intro w4 hp4
        have neL : g6 ≠ gL := by have := below_lt G6.out; omega
        have BX4 := Lib.hid (putLb hp4 (BX.out.trans (hba.mono BX.out.size)) (by have := BX.out.size; omega)); have HBc := Lib.hid (putLb hp4 (HBc.out.trans (hba.mono HBc.out.size)) (by have := HBc.out.size; omega)); have G6 := Lib.hid (putLx hp4 (heap_below G6.out hba) neL)
        have GL := Lib.hid (show w4.heap[gL]? = some (.cells #[.int .i64 (zy : Nat), .int .i64 (zn : Nat), .int .i64 zr] 48) by rw [hp4]; exact putL_3r hga)
        obtain ⟨l0, l1, l2⟩ := row3 GL.out
        clear hwa hGL hba hga hp4 c0' c1' c2'
        by_cases hr2 : zr = 2
        · have R := Lib.hid (show valC f t L = (0, 18) by rw [VC.out, if_pos (List.any_eq_true.2 ⟨_, List.mem_of_getElem? HZ.out, by simp [hr2]⟩)])
          subst hr2
          go_wp2_with (with_reducible refine wpList_pauseS ?_)
          refine wpList_stL g6 0 [.bool false, .slice none 0 0, .slice none 0 0] G6.out rfl rfl (Nat.le_of_ble_eq_true rfl) (by kernel_rfl) rfl ?_
          intro wz hpz
          have GZ := Lib.hid (show wz.heap[g6]? = some (.cells #[.bool false, .slice none 0 0, .slice none 0 0] 54) by rw [hpz]; exact putL_3r G6.out)
          have HBZ := Lib.hid (putLb hpz HBc.out l6)
          clear hpz
          go_wp2_with (with_reducible first | refine pauseCall ?_ | refine pauseLoop ?_ | refine pauseDraw ?_ | refine pauseBody ?_ | refine pauseRounds ?_)
          refine ret_rat2 rfl g6 _ _ _ rfl GZ.out rfl ?_
          exact ⟨_, by rw [R.out]; rfl, HBZ.out, by rw [R.out]; exact isR_zero _⟩
        · go_wp2_with fail
          go_roundw
          case rel => exact ⟨q + 1, by omega, by go_num, Lib.hid BX4.out, Lib.hid (fun z hz => by
            rw [take_snoc HZ.out] at hz
            rcases List.mem_append.1 hz with hz | hz
            · exact PR.out z hz
            · rw [List.mem_singleton] at hz; subst hz; exact decide_eq_false hr2)⟩
          case measure => simp [intOf]; omega
      · have hq' : q = ls.length := by omega
        subst hq'
        have PR2 := PR.out
        rw [List.take_length] at PR2
        have R := Lib.hid (show valC f t L = (sumF (L.map Rv.q) 1 ls 0, 0) by rw [VC.out, if_neg (by intro hh; obtain ⟨z, h1, h2⟩ := List.any_eq_true.1 hh; rw [PR2 z h1] at h2; cases h2)])
        obtain ⟨z0, z1, z2, z3, z4, z5, z6, z7, z8⟩ := row9 G8.out
        go_wp2_with (with_reducible refine wpList_pauseS ?_)
        refine wpList_stL g6 0 [.bool s1, .slice o1 n1 c1, .slice a1 m1 d1] G6.out rfl rfl (Nat.le_of_ble_eq_true rfl) (by kernel_rfl) rfl ?_
        intro wz hpz
        have GZ := Lib.hid (show wz.heap[g6]? = some (.cells #[.bool s1, .slice o1 n1 c1, .slice a1 m1 d1] 54) by rw [hpz]; exact putL_3r G6.out)
        have HBZ := Lib.hid (putLb hpz HBc.out l6)
        have J1 := Lib.hid (putL_I hpz I1.out G6.out noW3)
        clear hpz
        go_wp2_with (with_reducible first | refine pauseCall ?_ | refine pauseLoop ?_ | refine pauseDraw ?_ | refine pauseBody ?_ | refine pauseRounds ?_)
        refine ret_rat2 rfl g6 _ _ _ rfl GZ.out rfl ?_
        exact ⟨_, by rw [R.out]; rfl, HBZ.out, by rw [R.out]; exact J1.out⟩
  · have R := Lib.hid (show valC f t L = (0, er) by unfold valC; rw [if_pos (by rw [HB0.out]; exact h0), HB0.out])
    rw [errV_pos h0]
    go_wp2_with (with_reducible refine wpList_pauseS ?_)
    refine wpList_stL g6 0 [.bool false, .slice none 0 0, .slice none 0 0] G6.out rfl rfl (Nat.le_of_ble_eq_true rfl) (by kernel_rfl) rfl ?_
    intro wz hpz
    have GZ := Lib.hid (show wz.heap[g6]? = some (.cells #[.bool false, .slice none 0 0, .slice none 0 0] 54) by rw [hpz]; exact putL_3r G6.out)
    have HBZ := Lib.hid (putLb hpz HBc.out l6)
    clear hpz
    go_wp2_with (with_reducible first | refine pauseCall ?_ | refine pauseLoop ?_ | refine pauseDraw ?_ | refine pauseBody ?_ | refine pauseRounds ?_)
    refine ret_rat2 rfl g6 _ _ _ rfl GZ.out rfl ?_
    exact ⟨_, by rw [R.out, errV_pos h0]; rfl, HBZ.out, by rw [R.out]; exact isR_zero _⟩
end Go.Proofs.YthhgfhdmfhnklaaGreatDoor
/-
  A statement of open order, one of whose operations may write a block that was there: the law of Draw, with what is known before and behind that operation.
  Conditions: each theorem's own.
-/
namespace Go.Proofs.YthhgfhdmfhnklaaGreatDoor
open Go.RowKit Go.ChangeShapes Go.WideShapes

section
variable {P : Program} {ops : Array Oper} {md : Region.Mode}
/-- what stands behind some listed operations -/
structure DrawInvG (md : Region.Mode) (ops : Array Oper) (n : Nat) (F : Nat → Value → World → Prop) (AL : Nat → Bool) (Ac : Bool → World → Prop) (sp : Nat) (a0 : Act) (listed : Array Bool) (a : Act) (w : World) : Prop where
  head : HeadInv md ops n listed
  acc : Ac (listed.getD sp false) w
  vals : ∃ vals : Nat → Value, a = putsTo ops (fun j => listed.getD j false) vals a0 n ∧ (∀ j, j < n → listed.getD j false = true → F j (vals j) w) ∧
    (∀ j, j < n → listed.getD j false = true → AL j = true → ∃ g, vals j = .pointer (some ⟨g, 0, none⟩) ∧ g < w.heap.size) ∧
    (∀ j k, j < n → k < n → j ≠ k → listed.getD j false = true → listed.getD k false = true → AL j = true → AL k = true → vals j ≠ vals k)

/-- what a step leaves -/
def LeavesG (F : Nat → Value → World → Prop) (AL : Nat → Bool) (Ac : Bool → World → Prop) (sp i : Nat) (b : Bool) (w1 : World) (v : Value) (w2 : World) : Prop :=
  w1.heap.size ≤ w2.heap.size ∧ (∀ j u, j ≠ i → F j u w1 → F j u w2) ∧ Ac (b || i == sp) w2 ∧ F i v w2 ∧ (AL i = true → v = .pointer (some ⟨w1.heap.size, 0, none⟩) ∧ w1.heap.size < w2.heap.size)
theorem leavesG_mk {F : Nat → Value → World → Prop} {AL : Nat → Bool} {Ac : Bool → World → Prop} {sp i : Nat} {b : Bool} {w1 w2 : World} {v : Value} (hM : ∀ j v w1 w2, F j v w1 → Below w1.heap.size w1 w2 → F j v w2) (hAM : ∀ b w1 w2, Ac b w1 → Below w1.heap.size w1 w2 → Ac b w2) (hi : (i == sp) = false) (hac : Ac b w1)
    (hb : Below w1.heap.size w1 w2) (hf : F i v w2) (hal : AL i = true → v = .pointer (some ⟨w1.heap.size, 0, none⟩) ∧ w1.heap.size < w2.heap.size) : LeavesG F AL Ac sp i b w1 v w2 :=
  ⟨hb.size, fun j u _ h => hM j u w1 w2 h hb, by rw [hi, Bool.or_false]; exact hAM b w1 w2 hac hb, hf, hal⟩
theorem DrawInvG.next {n i : Nat} {oi : Oper} {fl : List Nat} {F : Nat → Value → World → Prop} {AL : Nat → Bool} {Ac : Bool → World → Prop} {sp : Nat} {w w' : World} {a0 a : Act} {listed : Array Bool} {v : Value} (hB : headB md ops fl n = true)
    (inv : DrawInvG md ops n F AL Ac sp a0 listed a w) (hi : i ∈ Region.ready md ops listed) (hin : i < n) (hoi : ops[i]? = some oi)
    (h : LeavesG F AL Ac sp i (listed.getD sp false) w v w') : DrawInvG md ops n F AL Ac sp a0 (listed.setIfInBounds i true) (a.put oi.dst v) w' := by
  obtain ⟨hiu, oi', hoi', hdeps⟩ := mem_ready.1 hi
  have : oi' = oi := Option.some.inj (hoi'.symm.trans hoi)
  subst this
  have hiu' := getD_both hiu
  have ok := headB_ok hB hin hoi
  have his : i < listed.size := by rw [inv.head.size]; exact (Array.getElem?_eq_some_iff.1 hoi).1
  have hdst : dstOf ops i = oi'.dst := by unfold dstOf; rw [hoi]; rfl
  obtain ⟨vals, rfl, hv, hg, hd⟩ := inv.vals
  obtain ⟨hb, hsv, hacc, hf, hal⟩ := h
  have hAcc : Ac ((listed.setIfInBounds i true).getD sp false) w' := by
    by_cases hs : i = sp
    · subst hs
      have : (listed.setIfInBounds i true).getD i false = true := by simp [his]
      rw [this]; simpa using hacc
    · rw [getD_set_ne false hs]
      have : (i == sp) = false := by simpa using hs
      rw [this, Bool.or_false] at hacc; exact hacc
  refine ⟨inv.head.set hi hin, hAcc, fun j => if j = i then v else vals j, ?_, ?_, ?_, ?_⟩
  · rw [← hdst, ← putsTo_set hiu' n hin (fun j hj hji => by rw [hdst]; exact ok.dst j hj hji)]
    refine putsTo_congr fun j hj => ⟨?_, fun _ => rfl⟩
    by_cases hji : j = i
    · subst hji; rw [if_pos rfl]; simp [his]
    · rw [if_neg hji, getD_set_ne false (Ne.symm hji)]
  · intro j hj hl
    show F j (if j = i then v else vals j) w'
    by_cases hji : j = i
    · subst hji; rw [if_pos rfl]; exact hf
    · rw [if_neg hji]
      rw [getD_set_ne false (Ne.symm hji)] at hl
      exact hsv _ _ hji (hv j hj hl)
  · intro j hj hl aj
    show ∃ g, (if j = i then v else vals j) = _ ∧ _
    by_cases hji : j = i
    · subst hji; rw [if_pos rfl]
      obtain ⟨e1, e2⟩ := hal aj
      exact ⟨_, e1, e2⟩
    · rw [if_neg hji]
      rw [getD_set_ne false (Ne.symm hji)] at hl
      obtain ⟨g, e1, e2⟩ := hg j hj hl aj
      exact ⟨g, e1, Nat.lt_of_lt_of_le e2 hb⟩
  · intro j k' hj hk' hjk hl hl' aj ak
    show (if j = i then v else vals j) ≠ (if k' = i then v else vals k')
    by_cases hji : j = i
    · subst hji
      have hki : k' ≠ j := fun e => hjk e.symm
      rw [if_pos rfl, if_neg hki]
      rw [getD_set_ne false (Ne.symm hki)] at hl'
      obtain ⟨e1, e2⟩ := hal aj
      obtain ⟨g, e3, e4⟩ := hg k' hk' hl' ak
      rw [e1, e3]
      intro h
      cases h; omega
    · rw [if_neg hji]
      rw [getD_set_ne false (Ne.symm hji)] at hl
      by_cases hki : k' = i
      · subst hki
        rw [if_pos rfl]
        obtain ⟨e1, e2⟩ := hal ak
        obtain ⟨g, e3, e4⟩ := hg j hj hl aj
        rw [e1, e3]
        intro h
        cases h; omega
      · rw [if_neg hki]
        rw [getD_set_ne false (Ne.symm hki)] at hl'
        exact hd j k' hj hk' hjk hl hl' aj ak

theorem wpAny_of_factsG {n : Nat} {fl : List Nat} {Q : Exit → Act → World → Prop} {F : Nat → Value → World → Prop} {AL : Nat → Bool} {Ac : Bool → World → Prop} {sp : Nat} {a0 : Act} (hB : headB md ops fl n = true)
    (hQ : ∀ c (a : Act) (d : Tmp) v w, Q (.panic c) (a.put (some d) v) w → Q (.panic c) a w)
    (hstep : ∀ i o, i < n → ops[i]? = some o → ∀ (vals : Nat → Value) (w1 : World) (b : Bool), (i = sp → b = false) → Ac b w1 → (∀ j, Region.waitsFor md ops i j = true → F j (vals j) w1) →
      if fl.contains i then StepPure P o (putsTo ops (fun _ => true) vals a0 n) (fun v => LeavesG F AL Ac sp i b w1 v w1) else StepG P ops o (putsTo ops (fun _ => true) vals a0 n) w1 (LeavesG F AL Ac sp i b w1))
    (hsp : sp < n) (hend : ∀ (vals : Nat → Value) (w1 : World), Ac true w1 → (∀ i, i < n → F i (vals i) w1) → (∀ i j, i < n → j < n → i ≠ j → AL i = true → AL j = true → vals i ≠ vals j) →
      wpList P ops Q (ops.toList.drop n) (putsTo ops (fun _ => true) vals a0 n) w1) :
    ∀ (m : Nat) (listed : Array Bool) (a : Act) (w : World), unl listed n = m → DrawInvG md ops n F AL Ac sp a0 listed a w → wpAny P md ops Q (m + (ops.size - n)) listed a w := by
  have hB' := hB
  unfold headB at hB'
  simp only [Bool.and_eq_true, decide_eq_true_eq] at hB'
  obtain ⟨⟨⟨⟨⟨hsel, hn⟩, ⟨hs, hfb⟩, hfn⟩, hc⟩, _⟩, hseq⟩ := hB'
  intro m
  induction m with
  | zero =>
    intro listed a w hm inv
    have hall := unl_zero n hm
    obtain ⟨vals, rfl, hv, _, hd⟩ := inv.vals
    have hl : listed = (Array.range ops.size).map fun i => decide (i < n) := by
      apply Array.ext
      · simp [inv.head.size]
      · intro j h1 h2
        simp only [Array.getElem_map, Array.getElem_range]
        by_cases hj : j < n
        · have := hall j hj
          simp [h1] at this; rw [this, decide_eq_true hj]
        · have hjs : j < ops.size := by rw [← inv.head.size]; exact h1
          have := inv.head.tail j (by omega) hjs
          simp [h1] at this; rw [this, decide_eq_false hj]
    have hend' := hend vals w (by have := inv.acc; rwa [hall sp hsp] at this) (fun i hi => hv i hi (hall i hi)) (fun i j hi hj hij ai aj => hd i j hi hj hij (hall i hi) (hall j hj) ai aj)
    rw [putsTo_congr (l' := fun _ => true) (v' := vals) (fun j hj => ⟨hall j hj, fun _ => rfl⟩)]
    rw [Nat.zero_add]
    have hlen : (ops.toList.drop n).length = ops.size - n := by simp
    have := wpAny_of_seq (P := P) (md := md) (Q' := Q) (ops.toList.drop n) n listed (putsTo ops (fun _ => true) vals a0 n) w (fun j => by simp [List.getElem?_drop]) (by rw [hlen, hl]; exact hseq) hend'
    rwa [hlen] at this
  | succ m ih =>
    intro listed a w hm inv
    have step : ∀ i oi, i ∈ Region.ready md ops listed → i < n → ops[i]? = some oi →
        (execOp a.eval oi = execOp (putsTo ops (fun _ => true) (Classical.choose inv.vals) a0 n).eval oi ∧ Region.wanted oi (yielded ops a.tmps) = Region.wanted oi (yielded ops (putsTo ops (fun _ => true) (Classical.choose inv.vals) a0 n).tmps)) ∧ (∀ j, Region.waitsFor md ops i j = true → F j (Classical.choose inv.vals j) w) ∧ unl (listed.setIfInBounds i true) n = m := by
      intro i oi hi hin hoi
      obtain ⟨ha, hv, _, _⟩ := Classical.choose_spec inv.vals
      obtain ⟨hiu, oi', hoi', hdeps⟩ := mem_ready.1 hi
      have : oi' = oi := Option.some.inj (hoi'.symm.trans hoi)
      subst this
      have ok := headB_ok hB hin hoi
      have his : i < listed.size := by rw [inv.head.size]; exact (Array.getElem?_eq_some_iff.1 hoi).1
      have hwl : ∀ j, Region.waitsFor md ops i j = true → listed.getD j false = true := fun j hj => by
        obtain ⟨o', ho', e, he, hb, hon⟩ := Region.waitsFor_spec hj
        have : o' = oi' := Option.some.inj (ho'.symm.trans hoi)
        subst this
        rw [← hon]; exact hdeps e he hb
      have hwn : ∀ j, Region.waitsFor md ops i j = true → j < n := fun j hj => by
        obtain ⟨o', ho', e, he, hb, hon⟩ := Region.waitsFor_spec hj
        have : o' = oi' := Option.some.inj (ho'.symm.trans hoi)
        subst this
        have := ok.early e he hb; omega
      refine ⟨?_, fun j hj => hv j (hwn j hj) (hwl j hj), by have := unl_set his (getD_both hiu) n hin; omega⟩
      have e := execOp_congr oi' (ρ := (putsTo ops (fun j => listed.getD j false) (Classical.choose inv.vals) a0 n).eval) (ρ' := (putsTo ops (fun _ => true) (Classical.choose inv.vals) a0 n).eval) (fun cs b => Region.noSelect_spec hsel i oi' cs b hoi)
        fun x hx => (putsTo_eval n (fun t ht j hj hdj => hwl j (ok.reads x hx t ht j hj hdj))).1
      have e2 := putsTo_wanted (ops := ops) (l := fun j => listed.getD j false) (vals := Classical.choose inv.vals) (a := a0) (o := oi') n (fun g b hg t ht j hj hdj => by
        obtain ⟨hgn, hw⟩ := ok.guard g b hg
        by_cases hjg : j = g
        · subst hjg; exact hwl _ hw
        · exfalso
          have hgs : g < ops.size := by omega
          have okg := headB_ok hB hgn (Array.getElem?_eq_getElem hgs)
          refine okg.dst j hj hjg t ?_ hdj
          unfold dstOf at ht
          rw [Array.getElem?_eq_getElem hgs] at ht; exact ht)
      rw [← ha] at e e2; exact ⟨e, e2⟩
    obtain ⟨k, hk, hku, hkl⟩ := unl_first (listed := listed) n (by omega)
    have hks : k < listed.size := by rw [inv.head.size]; omega
    have hkt := getD_in hks hku
    have hready : k ∈ Region.ready md ops listed := by
      rw [mem_ready]
      refine ⟨hkt, ops[k]'(by omega), by rw [Array.getElem?_eq_getElem], fun e he hb => ?_⟩
      exact hkl _ ((headB_ok hB hk (Array.getElem?_eq_getElem (by omega))).early e he hb)
    rw [show m + 1 + (ops.size - n) = (m + (ops.size - n)) + 1 by omega]
    by_cases hfl : ∃ i, i < n ∧ i ∈ Region.ready md ops listed ∧ fl.contains i = true
    · obtain ⟨i, hin, hi, hif⟩ := hfl
      obtain ⟨_, oi, hoi, _⟩ := mem_ready.1 hi
      obtain ⟨he, hdp, hu⟩ := step i oi hi hin hoi
      have st := hstep i oi hin hoi (Classical.choose inv.vals) w (listed.getD sp false) (fun e => by subst e; exact getD_both (mem_ready.1 hi).1) inv.acc hdp
      rw [if_pos hif] at st
      obtain ⟨v, hv, hL⟩ := st
      have hfi := List.all_eq_true.1 hfb i (by simpa using hif)
      rw [hoi] at hfi
      simp only [Bool.and_eq_true] at hfi
      obtain ⟨hgn, hfi⟩ := hfi
      have hgn : oi.guard = none := by simpa using hgn
      refine wpAny_first hoi (Region.noSelect_spec hsel) (fun c a w h => by
        cases hd : oi.dst with
        | none => rw [hd] at h; exact h
        | some d => rw [hd] at h; exact hQ c a d v w h) _ listed a w ?_ hi (.inl ⟨by simp [Region.wanted, hgn], fun w' => by rw [he.1]; exact hv w'⟩) (ih _ _ _ hu (inv.next hB hi hin hoi hL))
      intro j oj hj hji hun hno
      have h1 := List.all_eq_true.1 hfi j (List.mem_range.2 (Array.getElem?_eq_some_iff.1 hj).1)
      rw [hj] at h1
      simp only [Bool.or_eq_true, beq_iff_eq, hji, false_or] at h1
      rcases h1 with (h1 | h1) | h1
      · obtain ⟨o', ho', e, he, hb, hon⟩ := Region.waitsFor_spec h1
        have : o' = oj := Option.some.inj (ho'.symm.trans hj)
        subst this
        exact absurd hon (hno e he hb)
      · obtain ⟨o', ho', e, he, hb, hon⟩ := Region.waitsFor_spec h1
        obtain ⟨_, o2, ho2, hall⟩ := mem_ready.1 hi
        have : o' = o2 := Option.some.inj (ho'.symm.trans ho2)
        subst this
        have := hall e he hb
        rw [hon, getD_both hun] at this; cases this
      · exact h1
    · have hkf : fl.contains k = false := by
        cases h : fl.contains k with
        | false => rfl
        | true => exact absurd ⟨k, hk, hready, h⟩ hfl
      refine ⟨fun h0 => (by rw [h0] at hready; cases hready), fun i hi => ?_⟩
      have hin : i < n := by
        rcases Nat.lt_or_ge i n with h | h
        · exact h
        · exact absurd hi (tail_waitsF hs hc hn inv.head _ k rfl hk hkf hkt i h)
      obtain ⟨_, oi, hoi, _⟩ := mem_ready.1 hi
      obtain ⟨he, hdp, hu⟩ := step i oi hi hin hoi
      have st := hstep i oi hin hoi (Classical.choose inv.vals) w (listed.getD sp false) (fun e => by subst e; exact getD_both (mem_ready.1 hi).1) inv.acc hdp
      rw [if_neg (fun h => hfl ⟨i, hin, hi, h⟩)] at st
      refine wpOp_of_stepG hoi he.2 he.1 st ?_
      intro v w' hL
      exact ih _ _ _ hu (inv.next hB hi hin hoi hL)

/-- a list of facts, one for each operation from number i on; A: the frame with all values of the head -/
def stepsOKG (P : Program) (md : Region.Mode) (ops : Array Oper) (fl : List Nat) (F : Nat → Value → World → Prop) (AL : Nat → Bool) (Ac : Bool → World → Prop) (sp : Nat) (A : (Nat → Value) → Act) : List Oper → Nat → Prop
  | [], _ => True
  | o :: l, i => (∀ (vals : Nat → Value) (w1 : World) (b : Bool), (i = sp → b = false) → Ac b w1 → (∀ j, Region.waitsFor md ops i j = true → F j (vals j) w1) →
      if fl.contains i then StepPure P o (A vals) (fun v => LeavesG F AL Ac sp i b w1 v w1) else StepG P ops o (A vals) w1 (LeavesG F AL Ac sp i b w1)) ∧
    stepsOKG P md ops fl F AL Ac sp A l (i + 1)
theorem stepsOKG_at {fl : List Nat} {F : Nat → Value → World → Prop} {AL : Nat → Bool} {Ac : Bool → World → Prop} {sp : Nat} {A : (Nat → Value) → Act} : ∀ (l : List Oper) (i : Nat), stepsOKG P md ops fl F AL Ac sp A l i → ∀ k o, l[k]? = some o →
    ∀ (vals : Nat → Value) (w1 : World) (b : Bool), (i + k = sp → b = false) → Ac b w1 → (∀ j, Region.waitsFor md ops (i + k) j = true → F j (vals j) w1) →
      if fl.contains (i + k) then StepPure P o (A vals) (fun v => LeavesG F AL Ac sp (i + k) b w1 v w1) else StepG P ops o (A vals) w1 (LeavesG F AL Ac sp (i + k) b w1)
  | [], _, _, k, o, h => by simp at h
  | x :: l, i, hs, 0, o, h => by
    simp at h; subst h
    exact hs.1
  | x :: l, i, hs, k + 1, o, h => by
    have := stepsOKG_at l (i + 1) hs.2 k o (by simpa using h)
    rw [show i + 1 + k = i + (k + 1) by omega] at this
    exact this
/-- the law: whatever the order, each operation of the head leaves its fact; behind them the rest is walked -/
theorem wp_region_factsG {id : Nat} {Q : Exit → Act → World → Prop} {a : Act} {w : World} {l : List Oper} {A : (Nat → Value) → Act} (n : Nat) (fl : List Nat) (hm : P.follows .mixedOrders = true) (F : Nat → Value → World → Prop) (AL : Nat → Bool) (Ac : Bool → World → Prop) (sp : Nat) (hsp : sp < n) (h0 : Ac false { w with drawn := w.drawn + 1 })
    (hB : headB .any l.toArray fl n = true)
    (hQ : ∀ c (a : Act) (d : Tmp) v w, Q (.panic c) (a.put (some d) v) w → Q (.panic c) a w)
    (hA : ∀ vals : Nat → Value, putsTo l.toArray (fun _ => true) vals a n = A vals)
    (hstep : stepsOKG P .any l.toArray fl F AL Ac sp A (l.take n) 0)
    (hend : ∀ (vals : Nat → Value) (w1 : World), Ac true w1 → (∀ i, i < n → F i (vals i) w1) → (∀ i j, i < n → j < n → i ≠ j → AL i = true → AL j = true → vals i ≠ vals j) →
      wpList P l.toArray Q (l.drop n) (A vals) w1) : (Code.region id l.toArray true).wp P Q a w := by
  refine wp_region_any hm ?_
  have hB' := hB
  unfold headB at hB'
  simp only [Bool.and_eq_true, decide_eq_true_eq] at hB'
  have hn : n < l.toArray.size := hB'.1.1.1.1.2
  have hu : ∀ k, unl (Array.replicate l.toArray.size false) k = k := fun k => by
    induction k with
    | zero => rfl
    | succ k ih => unfold unl; rw [ih, getD_replicate_false]; rfl
  have key := wpAny_of_factsG (P := P) (Q := Q) (F := F) (AL := AL) (Ac := Ac) (sp := sp) (a0 := a) hB hQ (fun i o hi ho vals w1 b hs hb hd => by
      have := stepsOKG_at (l.take n) 0 hstep i o (by
        rw [List.getElem?_take, if_pos hi]; simpa using ho)
      rw [Nat.zero_add] at this; rw [hA]; exact this vals w1 b hs hb hd) hsp (fun vals w1 hb hf hd => by rw [hA]; simpa using hend vals w1 hb hf hd) n (Array.replicate l.toArray.size false) a { w with drawn := w.drawn + 1 } (hu n)
    ⟨⟨by simp, fun j oj _ hl => (by rw [getD_replicate_false] at hl; cases hl), fun t _ ht => getD_in (by simpa using ht) (getD_replicate_false _ _)⟩,
      by rw [getD_replicate_false]; exact h0, fun _ => undef, by
        have : ∀ k, putsTo l.toArray (fun j => (Array.replicate l.toArray.size false).getD j false) (fun _ => undef) a k = a := fun k => by
          induction k with
          | zero => rfl
          | succ k ih => unfold putsTo; rw [if_neg (by rw [getD_replicate_false]; decide), ih]
        exact (this n).symm, fun j _ hl => (by rw [getD_replicate_false] at hl; cases hl), fun j _ hl => (by rw [getD_replicate_false] at hl; cases hl), fun j _ _ _ _ hl => (by rw [getD_replicate_false] at hl; cases hl)⟩
  rw [show n + (l.toArray.size - n) = l.toArray.size by omega] at key
  exact key
section
variable {fl : List Nat} {F : Nat → Value → World → Prop} {AL : Nat → Bool} {Ac : Bool → World → Prop} {sp : Nat} {A : (Nat → Value) → Act} {i : Nat} {o : Oper} {l : List Oper}
theorem stepsOKG_nil : stepsOKG P md ops fl F AL Ac sp A [] i := trivial
theorem stepsOKG_cons (hi : fl.contains i = false) (hg : o.guard = none)
    (h : ∀ (vals : Nat → Value) (w1 : World) (b : Bool), (i = sp → b = false) → Ac b w1 → (∀ j, Region.waitsFor md ops i j = true → F j (vals j) w1) → StepOK P o (A vals) w1 (LeavesG F AL Ac sp i b w1))
    (hl : stepsOKG P md ops fl F AL Ac sp A l (i + 1)) : stepsOKG P md ops fl F AL Ac sp A (o :: l) i := ⟨fun vals w1 b hs hb hd => by rw [if_neg (by rw [hi]; decide)]; unfold StepG; rw [if_pos (by simp [Region.wanted, hg])]; exact h vals w1 b hs hb hd, hl⟩
theorem stepsOKG_pure (hi : fl.contains i = true)
    (h : ∀ (vals : Nat → Value) (w1 : World) (b : Bool), (i = sp → b = false) → Ac b w1 → (∀ j, Region.waitsFor md ops i j = true → F j (vals j) w1) → StepPure P o (A vals) (fun v => LeavesG F AL Ac sp i b w1 v w1))
    (hl : stepsOKG P md ops fl F AL Ac sp A l (i + 1)) : stepsOKG P md ops fl F AL Ac sp A (o :: l) i := ⟨fun vals w1 b hs hb hd => by rw [if_pos hi]; exact h vals w1 b hs hb hd, hl⟩
end
end
end Go.Proofs.YthhgfhdmfhnklaaGreatDoor
/-
  proof.grow and Make: trees of limited depth.
  Conditions: each theorem's own.
-/
namespace Go.Proofs.YthhgfhdmfhnklaaGreatDoor
open Go.RowKit Go.ChangeShapes Go.WideShapes

theorem row5 {w : World} {g : Nat} {x0 x1 x2 x3 x4 : Value} {T : TypeId} (h : w.heap[g]? = some (.cells #[x0, x1, x2, x3, x4] T)) :
    w.cell? ⟨g, 0, none⟩ = some x0 ∧ w.cell? ⟨g, 1, none⟩ = some x1 ∧ w.cell? ⟨g, 2, none⟩ = some x2 ∧ w.cell? ⟨g, 3, none⟩ = some x3 ∧ w.cell? ⟨g, 4, none⟩ = some x4 :=
  ⟨cell_of_row _ _ _ _ _ _ h, cell_of_row _ _ _ _ _ _ h, cell_of_row _ _ _ _ _ _ h, cell_of_row _ _ _ _ _ _ h, cell_of_row _ _ _ _ _ _ h⟩
theorem putL_54 {w : World} {g : Nat} {x0 x1 x2 x3 x4 y : Value} {T : TypeId} (h : w.heap[g]? = some (.cells #[x0, x1, x2, x3, x4] T)) : (putL w g 4 [y]).heap[g]? = some (.cells #[x0, x1, x2, x3, y] T) := by
  simp [putL, World.setCell, Array.getElem?_modify, h]
/-- the blocks of two trees' kids are as they were -/
def Keep6 (w w2 : World) : Prop := ∀ (k : Nat) (cs : Array Value), w.heap[k]? = some (.cells cs 27) → cs.size = 6 → w2.heap[k]? = w.heap[k]?
theorem keep6_trans {a b c : World} (h : Keep6 a b) (k : Keep6 b c) : Keep6 a c := fun i cs hi hs => by
  have := h i cs hi hs
  rw [← this]; exact k i cs (by rw [this]; exact hi) hs
theorem keep6_below {a b : World} (h : Below a.heap.size a b) : Keep6 a b := fun i _ hi _ => h.block i (Array.getElem?_eq_some_iff.1 hi).1
theorem keep6_gb {a b : World} {g : Nat} {cs : Array Value} {T : TypeId} (h : a.grownBy b (some g)) (hg : a.heap[g]? = some (.cells cs T)) (hs : cs.size ≠ 6) : Keep6 a b := fun i cs' hi h6 => by
  refine h.block i (Array.getElem?_eq_some_iff.1 hi).1 (fun e => ?_)
  cases e
  rw [hg] at hi
  cases hi; exact hs h6
theorem keep6_put {w w' : World} {p off : Nat} {l : List Value} {cs : Array Value} {T : TypeId} (hw : w' = putL w p off l) (hp : w.heap[p]? = some (.cells cs T)) (hs : cs.size ≠ 6) : Keep6 w w' := keep6_gb (gb_putL hw) hp hs
/-- a tree that stands whatever is written elsewhere -/
def TrG (w : World) (x : Value) (t : Tr) : Prop := ∀ w2, Keep6 w w2 → TrV w2 x t
theorem TrG.keep {w w' : World} {x : Value} {t : Tr} (h : TrG w x t) (k : Keep6 w w') : TrG w' x t := fun w2 h2 => h w2 (keep6_trans k h2)
theorem TrG.tr {w : World} {x : Value} {t : Tr} (h : TrG w x t) : TrV w x t := h w (fun _ _ _ _ => rfl)
def KGt (t : Tr) : Value → World → Prop := fun v w => TrG w v t
def KGr (t : Tr) : Value → World → Prop := fun v w => ∃ a, v = .tuple #[a, .nilIface] ∧ TrG w a t
theorem kGt_k {t : Tr} {v : Value} {w1 w2 : World} (h : KGt t v w1) (hg : Keep6 w1 w2) : KGt t v w2 := h.keep hg
theorem kGr_k {t : Tr} {v : Value} {w1 w2 : World} (h : KGr t v w1) (hg : Keep6 w1 w2) : KGr t v w2 := by
  obtain ⟨a, ha, ht⟩ := h
  exact ⟨a, ha, ht.keep hg⟩
theorem kGt (t : Tr) : MonoF (KGt t) := fun _ _ _ h hb => kGt_k h (keep6_below hb)
theorem kGr (t : Tr) : MonoF (KGr t) := fun _ _ _ h hb => kGr_k h (keep6_below hb)
theorem kNew_gb {B g : Nat} {cs : Array Value} {T : TypeId} {v : Value} {w1 w2 : World} (hB : g < B) (h : KNew B cs T v w1) (hg : w1.grownBy w2 (some g)) : KNew B cs T v w2 := by
  obtain ⟨k, h1, h2, h3⟩ := h
  exact ⟨k, h1, h2, gb_heap hg h3 (by omega)⟩
theorem trG_leaf {w : World} {v : Nat} (hv : v ≤ 2) : TrG w (.agg #[.int .i64 0, .slice none 0 0, .int .i64 (v : Nat)]) (leafT v) := fun w2 _ => TrV.leaf w2 ⟨by omega, by omega⟩
theorem okC_lt24 {V y n : Nat} (h : okC V y n) (hV : V ≤ 24) : y < 16777216 ∧ n < 16777216 := by
  obtain ⟨h1, h2, _⟩ := okC_lt h
  have := pow_24 hV
  omega
theorem grT_leaf0 {f : Fm} {d y n fv : Nat} (hfv : fmVal f y n = fv) (h : fv ≠ 2 ∨ d = 0) : grT f d y n = leafT fv ∧ grN f d y n = 1 := by
  cases d with
  | zero => simp only [grT, grN]; rw [hfv]; exact ⟨rfl, trivial⟩
  | succ d =>
    have h2 : fv ≠ 2 := by rcases h with h | h <;> omega
    simp only [grT, grN]; rw [hfv, if_pos h2, if_pos h2]; exact ⟨rfl, rfl⟩
/-- a grown tree, behind a grower -/
def RetGr (w : World) (g : Nat) (cs : Nat → Array Value) (T : TypeId) (t : Tr) (cnt : Nat) (e : Ending) (w' : World) : Prop :=
  ∃ v, e = .returned (.tuple #[v, .nilIface]) ∧ TrG w' v t ∧ w.grownBy w' (some g) ∧ w'.heap[g]? = some (.cells (cs cnt) T)

set_option maxRecDepth 100000 in
set_option maxHeartbeats 16000000 in
theorem grow_any (f : Fm) (hfm : fmErr f = 0) (ao : Option Addr) (c most : Nat) (hmost : most ≤ 24) (w0 : World) (hf : FmV w0 (.agg #[.int .i64 f.vars, .slice ao f.nodes.length c, .int .i64 f.top]) f) : ∀ (d y n deep cnt g : Nat) (w : World), Below w0.heap.size w0 w → w0.heap.size ≤ g →
    w.heap[g]? = some (.cells #[.int .i64 f.vars, .slice ao f.nodes.length c, .int .i64 f.top, .int .i64 (most : Nat), .int .i64 (cnt : Nat)] 99) → deep + d = most → okC f.vars.toNat y n → cnt + grN f d y n ≤ 4096 →
    Calls Tryz.prog 44 #[.pointer (some ⟨g, 0, none⟩), .agg #[.int .i64 (y : Nat), .int .i64 (n : Nat)], .int .i64 (deep : Nat)] w
      (RetGr w g (fun k => #[.int .i64 f.vars, .slice ao f.nodes.length c, .int .i64 f.top, .int .i64 (most : Nat), .int .i64 (k : Nat)]) 99 (grT f d y n) (cnt + grN f d y n)) := by
  obtain ⟨p0, p1, _, p3⟩ := fmErr_parts hfm
  have hV : f.vars.toNat ≤ 24 := by omega
  have HF := Lib.hid hf; have HFM := Lib.hid hfm; have HND := Lib.hid p3
  have HP01 := Lib.hid (And.intro p0 p1)
  clear hf hfm p3 p0 p1
  intro d
  induction d with
  | zero =>
    intro y n deep cnt g w hb0 hg0 hg hdm hok hcn
    obtain ⟨hy24, hn24⟩ := okC_lt24 hok hV
    have HCU := Lib.hid (okC_cube hok HP01.out.1 HP01.out.2)
    have HOK := Lib.hid hok; clear hok
    have hgl := (Array.getElem?_eq_some_iff.1 hg).1
    have hc0 := grN_pos f
    obtain ⟨W, hW⟩ : ∃ W, W = (w.alloc (.cells #[.int .i64 (y : Nat), .int .i64 (n : Nat)] 46)).alloc (.cells #[.int .i64 0, .slice none 0 0, .int .i64 0] 27) := ⟨_, rfl⟩
    have hbW : Below w.heap.size w W := by rw [hW]; exact ((Below.refl _ _).alloc (Nat.le_refl _) _).alloc (by simp) _
    have hg4 : W.heap[w.heap.size]? = some (.cells #[.int .i64 (y : Nat), .int .i64 (n : Nat)] 46) := by rw [hW]; exact heap_alloc2_old w _ _
    have hg6 : W.heap[w.heap.size + 1]? = some (.cells #[.int .i64 0, .slice none 0 0, .int .i64 0] 27) := by rw [hW]; exact heap_alloc2_new w _ _
    obtain ⟨g4, hG4⟩ : ∃ g, g = w.heap.size := ⟨_, rfl⟩
    obtain ⟨g6, hG6⟩ : ∃ g, g = w.heap.size + 1 := ⟨_, rfl⟩
    rw [← hG4] at hg4; rw [← hG6] at hg6
    have ne4 : g4 ≠ g := by omega
    have ne6 : g6 ≠ g := by omega
    have lt6 : w.heap.size ≤ g6 := by omega
    have hgW := heap_below hg hbW
    have GB0 := Lib.hid (gb_of_below (r := some g) hbW)
    have HB0 := Lib.hid (hb0.trans (hbW.mono hb0.size))
    obtain ⟨x0, x1, x2, x3, x4⟩ := row5 hgW
    rw [hW] at x0 x1 x2 x3 x4
    go_enter Tryz.func44, Tryz.ntmps44
    go_wp2_with (with_reducible refine wpList_pauseS ?_)
    rw [← hW, ← hG6, ← hG4]
    clear hW hG4 hG6 x0 x1 x2 x3 x4
    refine wpList_st1 g 4 ((cnt : Int) + 1) hgW rfl rfl (by simp) (by kernel_rfl) ?_
    intro w2 hp2
    have G5 := Lib.hid (show w2.heap[g]? = some (.cells #[.int .i64 f.vars, .slice ao f.nodes.length c, .int .i64 f.top, .int .i64 (most : Nat), .int .i64 ((cnt + 1 : Nat) : Int)] 99) by rw [hp2]; exact putL_54 hgW)
    have B4 := Lib.hid (putLx hp2 hg4 ne4); have B6 := Lib.hid (putLx hp2 hg6 ne6)
    have GB := Lib.hid (gb_trans GB0.out (gb_putL hp2)); have HB := Lib.hid (putLb hp2 HB0.out hg0)
    clear hp2 hgW hg4 hg6 GB0 HB0 hbW hb0 hg
    obtain ⟨x0, x1, x2, x3, x4⟩ := row5 G5.out
    have hcz : ((cnt + 1 : Nat) : Int) ≤ 4096 := by have := hc0 0 y n; have := hc0 0 y n; omega
    obtain ⟨fv, hfv⟩ : ∃ fv, fmVal f y n = fv := ⟨_, rfl⟩
    have hfv2 : fv ≤ 2 := by rw [← hfv]; exact fmVal_le HND.out y n
    have FVV := Lib.hid hfv
    go_wp2_with (with_reducible first | refine pauseCall ?_ | refine pauseLoop ?_ | refine pauseDraw ?_ | refine pauseBody ?_ | refine pauseRounds ?_)
    clear x0 x1 x2 x3 x4
    refine Pause.mk ?_
    refine wp_region_facts (A := ?aa4z) (w := w2) 9 [8] (by kernel_rfl) (Fl [KEq (.pointer (some ⟨g, 0, none⟩)), KEq (.pointer (some ⟨g, 0, none⟩)), KEq (.pointer (some ⟨g, 0, none⟩)), KEq (.agg #[.int .i64 f.vars, .slice ao f.nodes.length c, .int .i64 f.top]), KEq (.agg #[.int .i64 (y : Nat), .int .i64 (n : Nat)]), KEq (.tuple #[.int .i64 (fv : Nat), .nilIface]), KEq ((.tuple #[.int .i64 (fv : Nat), .nilIface])), KEq (.int .i64 (fv : Nat)), KEq (.nilIface)]) (fun i => false) (by kernel_rfl) ?hq4z (monoL (monoC (kEq _) (monoC (kEq _) (monoC (kEq _) (monoC (kEq _) (monoC (kEq _) (monoC (kEq _) (monoC (kEq _) (monoC (kEq _) (monoC (kEq _) monoN)))))))))) ?ha4z ?st4z ?tl4z
    case hq4z =>
      intro c a d v w h
      first | (simp only [Exit.then] at h ⊢; exact h) | (simp only [Exit.inBlock, Exit.then] at h ⊢; exact h) | exact h
    case ha4z =>
      intro vals
      simp only [putsTo, dstOf, if_true, Act.put, List.setIfInBounds_toArray, List.set_cons_zero, List.set_cons_succ, List.getElem?_toArray, List.getElem?_cons_zero, List.getElem?_cons_succ, Option.bind_some]
      exact rfl
    case st4z =>
      simp only [List.take_succ_cons, List.take_zero]
      refine stepsOK_cons rfl rfl ?_ (stepsOK_cons rfl rfl ?_ (stepsOK_cons rfl rfl ?_ (stepsOK_cons rfl rfl ?_ (stepsOK_cons rfl rfl ?_ (stepsOK_cons rfl rfl ?_ (stepsOK_cons rfl rfl ?_ (stepsOK_cons rfl rfl ?_ (stepsOK_pure rfl ?_ (stepsOK_nil)))))))))
      · intro vals w1 hb hd
        refine stepOK_value (v := .pointer (some ⟨g, 0, none⟩)) (w' := w1) (by go_simp) (leaves_mk (Below.refl _ _) rfl (fun h => by cases h))
      · intro vals w1 hb hd
        have d0 : KEq (.pointer (some ⟨g, 0, none⟩)) (vals 0) w1 := hd 0 (by kernel_rfl)
        rw [show vals 0 = _ from d0]
        refine stepOK_value (v := .pointer (some ⟨g, 0, none⟩)) (w' := w1) (by go_simp) (leaves_mk (Below.refl _ _) rfl (fun h => by cases h))
      · intro vals w1 hb hd
        have d1 : KEq (.pointer (some ⟨g, 0, none⟩)) (vals 1) w1 := hd 1 (by kernel_rfl)
        rw [show vals 1 = _ from d1]
        refine stepOK_value (v := .pointer (some ⟨g, 0, none⟩)) (w' := w1) (by go_simp) (leaves_mk (Below.refl _ _) rfl (fun h => by cases h))
      · intro vals w1 hb hd
        have d2 : KEq (.pointer (some ⟨g, 0, none⟩)) (vals 2) w1 := hd 2 (by kernel_rfl)
        obtain ⟨e0, e1, e2, e3, e4⟩ := row5 (heap_below G5.out hb)
        rw [show vals 2 = _ from d2]
        refine stepOK_value (v := .agg #[.int .i64 f.vars, .slice ao f.nodes.length c, .int .i64 f.top]) (w' := w1) (by go_simp) (leaves_mk (Below.refl _ _) rfl (fun h => by cases h))
      · intro vals w1 hb hd
        obtain ⟨e0, e1⟩ := row2c (heap_below B4.out hb)
        refine stepOK_value (v := .agg #[.int .i64 (y : Nat), .int .i64 (n : Nat)]) (w' := w1) (by go_simp) (leaves_mk (Below.refl _ _) rfl (fun h => by cases h))
      · intro vals w1 hb hd
        have d3 : KEq (.agg #[.int .i64 f.vars, .slice ao f.nodes.length c, .int .i64 f.top]) (vals 3) w1 := hd 3 (by kernel_rfl)
        have d4 : KEq (.agg #[.int .i64 (y : Nat), .int .i64 (n : Nat)]) (vals 4) w1 := hd 4 (by kernel_rfl)
        have HS := Lib.hid (FVV.out ▸ tvalue_any _ f y n w1 (HF.out.below (HB.out.trans (hb.mono HB.out.size))) HFM.out HCU.out)
        have z3 : vals 3 = _ := d3
        rw [z3]; clear z3
        have z4 : vals 4 = _ := d4
        rw [z4]; clear z4
        refine stepOK_call (by go_simp; first | done | exact ⟨⟨rfl, rfl⟩, rfl⟩) ?_
        (with_reducible refine HS.out.mono ?_); rintro e w2 ⟨rfl, hb2⟩
        exact ⟨_, rfl, leaves_mk hb2 rfl (fun h => by cases h)⟩
      · intro vals w1 hb hd
        have d5 : KEq (.tuple #[.int .i64 (fv : Nat), .nilIface]) (vals 5) w1 := hd 5 (by kernel_rfl)
        rw [show vals 5 = _ from d5]
        refine stepOK_value (v := (.tuple #[.int .i64 (fv : Nat), .nilIface])) (w' := w1) (by go_simp) (leaves_mk (Below.refl _ _) rfl (fun h => by cases h))
      · intro vals w1 hb hd
        have d6 : KEq ((.tuple #[.int .i64 (fv : Nat), .nilIface])) (vals 6) w1 := hd 6 (by kernel_rfl)
        rw [show vals 6 = _ from d6]
        refine stepOK_value (v := .int .i64 (fv : Nat)) (w' := w1) (by go_simp) (leaves_mk (Below.refl _ _) rfl (fun h => by cases h))
      · intro vals w1 hb hd
        have d6 : KEq ((.tuple #[.int .i64 (fv : Nat), .nilIface])) (vals 6) w1 := hd 6 (by kernel_rfl)
        rw [show vals 6 = _ from d6]
        refine stepPure_value (v := .nilIface) (fun w => by go_simp) (leaves_mk (Below.refl _ _) rfl (fun h => by cases h))
    case tl4z =>
      intro vals w3 hb3 hf hdis
      simp only [List.drop_succ_cons, List.drop_zero]
      have z7 : vals 7 = _ := hf 7 (by decide)
      have z8 : vals 8 = _ := hf 8 (by decide)
      rw [z7, z8]
      clear z7 z8 hf hdis
      have G5 := Lib.hid (heap_below G5.out hb3); have B4 := Lib.hid (heap_below B4.out hb3); have B6 := Lib.hid (heap_below B6.out hb3)
      have GB := Lib.hid (gb_below GB.out hb3); have HB := Lib.hid (HB.out.trans (hb3.mono HB.out.size))
      clear hb3
      obtain ⟨x0, x1, x2, x3, x4⟩ := row5 G5.out
      have GL := Lib.hid (grT_leaf0 (d := 0) hfv (.inr rfl))
      by_cases h2 : fv = 2
      · subst h2
        have hdd : (deep : Int) = (most : Int) := by omega
        go_wp2_with (with_reducible refine wpList_pauseS ?_)
        refine wpList_stL g6 0 [.int .i64 0, .slice none 0 0, .int .i64 2] B6.out rfl rfl (Nat.le_of_ble_eq_true rfl) (by kernel_rfl) rfl ?_
        intro wz hpz
        have GZ := Lib.hid (show wz.heap[g6]? = some (.cells #[.int .i64 0, .slice none 0 0, .int .i64 2] 27) by rw [hpz]; exact putL_3r B6.out)
        have G5 := Lib.hid (putLx hpz G5.out (Ne.symm ne6)); have GBz := Lib.hid (gb_row GB.out (gb_putL hpz) (fun k hk _ => fun e => by cases e; omega))
        clear hpz
        go_wp2_with (with_reducible first | refine pauseCall ?_ | refine pauseLoop ?_ | refine pauseDraw ?_ | refine pauseBody ?_ | refine pauseRounds ?_)
        refine ret_c2 rfl g6 #[.int .i64 0, .slice none 0 0, .int .i64 2] rfl GZ.out Tryz.underlying27 rfl (by kernel_rfl) rfl ?_
        rw [(GL.out).1, (GL.out).2]
        exact ⟨_, rfl, trG_leaf (v := 2) (by decide), GBz.out, G5.out⟩
      · have h2b : (((fv : Nat) : Int) != 2) = true := bne_iff_ne.2 (by omega)
        go_wp2_with (with_reducible refine wpList_pauseS ?_)
        refine wpList_stL g6 0 [.int .i64 0, .slice none 0 0, .int .i64 (fv : Nat)] B6.out rfl rfl (Nat.le_of_ble_eq_true rfl) (by kernel_rfl) rfl ?_
        intro wz hpz
        have GZ := Lib.hid (show wz.heap[g6]? = some (.cells #[.int .i64 0, .slice none 0 0, .int .i64 (fv : Nat)] 27) by rw [hpz]; exact putL_3r B6.out)
        have G5 := Lib.hid (putLx hpz G5.out (Ne.symm ne6)); have GBz := Lib.hid (gb_row GB.out (gb_putL hpz) (fun k hk _ => fun e => by cases e; omega))
        clear hpz
        go_wp2_with (with_reducible first | refine pauseCall ?_ | refine pauseLoop ?_ | refine pauseDraw ?_ | refine pauseBody ?_ | refine pauseRounds ?_)
        refine ret_c2 rfl g6 #[.int .i64 0, .slice none 0 0, .int .i64 (fv : Nat)] rfl GZ.out Tryz.underlying27 rfl (by kernel_rfl) rfl ?_
        rw [(GL.out).1, (GL.out).2]
        exact ⟨_, rfl, trG_leaf hfv2, GBz.out, G5.out⟩
  | succ d ih =>
    intro y n deep cnt g w hb0 hg0 hg hdm hok hcn
    obtain ⟨hy24, hn24⟩ := okC_lt24 hok hV
    have HCU := Lib.hid (okC_cube hok HP01.out.1 HP01.out.2)
    have HOK := Lib.hid hok; clear hok
    have hgl := (Array.getElem?_eq_some_iff.1 hg).1
    have hc0 := grN_pos f
    obtain ⟨W, hW⟩ : ∃ W, W = (w.alloc (.cells #[.int .i64 (y : Nat), .int .i64 (n : Nat)] 46)).alloc (.cells #[.int .i64 0, .slice none 0 0, .int .i64 0] 27) := ⟨_, rfl⟩
    have hbW : Below w.heap.size w W := by rw [hW]; exact ((Below.refl _ _).alloc (Nat.le_refl _) _).alloc (by simp) _
    have hg4 : W.heap[w.heap.size]? = some (.cells #[.int .i64 (y : Nat), .int .i64 (n : Nat)] 46) := by rw [hW]; exact heap_alloc2_old w _ _
    have hg6 : W.heap[w.heap.size + 1]? = some (.cells #[.int .i64 0, .slice none 0 0, .int .i64 0] 27) := by rw [hW]; exact heap_alloc2_new w _ _
    obtain ⟨g4, hG4⟩ : ∃ g, g = w.heap.size := ⟨_, rfl⟩
    obtain ⟨g6, hG6⟩ : ∃ g, g = w.heap.size + 1 := ⟨_, rfl⟩
    rw [← hG4] at hg4; rw [← hG6] at hg6
    have ne4 : g4 ≠ g := by omega
    have ne6 : g6 ≠ g := by omega
    have lt6 : w.heap.size ≤ g6 := by omega
    have hgW := heap_below hg hbW
    have GB0 := Lib.hid (gb_of_below (r := some g) hbW)
    have HB0 := Lib.hid (hb0.trans (hbW.mono hb0.size))
    obtain ⟨x0, x1, x2, x3, x4⟩ := row5 hgW
    rw [hW] at x0 x1 x2 x3 x4
    go_enter Tryz.func44, Tryz.ntmps44
    go_wp2_with (with_reducible refine wpList_pauseS ?_)
    rw [← hW, ← hG6, ← hG4]
    clear hW hG4 hG6 x0 x1 x2 x3 x4
    refine wpList_st1 g 4 ((cnt : Int) + 1) hgW rfl rfl (by simp) (by kernel_rfl) ?_
    intro w2 hp2
    have G5 := Lib.hid (show w2.heap[g]? = some (.cells #[.int .i64 f.vars, .slice ao f.nodes.length c, .int .i64 f.top, .int .i64 (most : Nat), .int .i64 ((cnt + 1 : Nat) : Int)] 99) by rw [hp2]; exact putL_54 hgW)
    have B4 := Lib.hid (putLx hp2 hg4 ne4); have B6 := Lib.hid (putLx hp2 hg6 ne6)
    have GB := Lib.hid (gb_trans GB0.out (gb_putL hp2)); have HB := Lib.hid (putLb hp2 HB0.out hg0)
    clear hp2 hgW hg4 hg6 GB0 HB0 hbW hb0 hg
    obtain ⟨x0, x1, x2, x3, x4⟩ := row5 G5.out
    have hcz : ((cnt + 1 : Nat) : Int) ≤ 4096 := by have := hc0 0 y n; have := hc0 (d + 1) y n; omega
    obtain ⟨fv, hfv⟩ : ∃ fv, fmVal f y n = fv := ⟨_, rfl⟩
    have hfv2 : fv ≤ 2 := by rw [← hfv]; exact fmVal_le HND.out y n
    have FVV := Lib.hid hfv
    go_wp2_with (with_reducible first | refine pauseCall ?_ | refine pauseLoop ?_ | refine pauseDraw ?_ | refine pauseBody ?_ | refine pauseRounds ?_)
    clear x0 x1 x2 x3 x4
    refine Pause.mk ?_
    refine wp_region_facts (A := ?aa4s) (w := w2) 9 [8] (by kernel_rfl) (Fl [KEq (.pointer (some ⟨g, 0, none⟩)), KEq (.pointer (some ⟨g, 0, none⟩)), KEq (.pointer (some ⟨g, 0, none⟩)), KEq (.agg #[.int .i64 f.vars, .slice ao f.nodes.length c, .int .i64 f.top]), KEq (.agg #[.int .i64 (y : Nat), .int .i64 (n : Nat)]), KEq (.tuple #[.int .i64 (fv : Nat), .nilIface]), KEq ((.tuple #[.int .i64 (fv : Nat), .nilIface])), KEq (.int .i64 (fv : Nat)), KEq (.nilIface)]) (fun i => false) (by kernel_rfl) ?hq4s (monoL (monoC (kEq _) (monoC (kEq _) (monoC (kEq _) (monoC (kEq _) (monoC (kEq _) (monoC (kEq _) (monoC (kEq _) (monoC (kEq _) (monoC (kEq _) monoN)))))))))) ?ha4s ?st4s ?tl4s
    case hq4s =>
      intro c a d v w h
      first | (simp only [Exit.then] at h ⊢; exact h) | (simp only [Exit.inBlock, Exit.then] at h ⊢; exact h) | exact h
    case ha4s =>
      intro vals
      simp only [putsTo, dstOf, if_true, Act.put, List.setIfInBounds_toArray, List.set_cons_zero, List.set_cons_succ, List.getElem?_toArray, List.getElem?_cons_zero, List.getElem?_cons_succ, Option.bind_some]
      exact rfl
    case st4s =>
      simp only [List.take_succ_cons, List.take_zero]
      refine stepsOK_cons rfl rfl ?_ (stepsOK_cons rfl rfl ?_ (stepsOK_cons rfl rfl ?_ (stepsOK_cons rfl rfl ?_ (stepsOK_cons rfl rfl ?_ (stepsOK_cons rfl rfl ?_ (stepsOK_cons rfl rfl ?_ (stepsOK_cons rfl rfl ?_ (stepsOK_pure rfl ?_ (stepsOK_nil)))))))))
      · intro vals w1 hb hd
        refine stepOK_value (v := .pointer (some ⟨g, 0, none⟩)) (w' := w1) (by go_simp) (leaves_mk (Below.refl _ _) rfl (fun h => by cases h))
      · intro vals w1 hb hd
        have d0 : KEq (.pointer (some ⟨g, 0, none⟩)) (vals 0) w1 := hd 0 (by kernel_rfl)
        rw [show vals 0 = _ from d0]
        refine stepOK_value (v := .pointer (some ⟨g, 0, none⟩)) (w' := w1) (by go_simp) (leaves_mk (Below.refl _ _) rfl (fun h => by cases h))
      · intro vals w1 hb hd
        have d1 : KEq (.pointer (some ⟨g, 0, none⟩)) (vals 1) w1 := hd 1 (by kernel_rfl)
        rw [show vals 1 = _ from d1]
        refine stepOK_value (v := .pointer (some ⟨g, 0, none⟩)) (w' := w1) (by go_simp) (leaves_mk (Below.refl _ _) rfl (fun h => by cases h))
      · intro vals w1 hb hd
        have d2 : KEq (.pointer (some ⟨g, 0, none⟩)) (vals 2) w1 := hd 2 (by kernel_rfl)
        obtain ⟨e0, e1, e2, e3, e4⟩ := row5 (heap_below G5.out hb)
        rw [show vals 2 = _ from d2]
        refine stepOK_value (v := .agg #[.int .i64 f.vars, .slice ao f.nodes.length c, .int .i64 f.top]) (w' := w1) (by go_simp) (leaves_mk (Below.refl _ _) rfl (fun h => by cases h))
      · intro vals w1 hb hd
        obtain ⟨e0, e1⟩ := row2c (heap_below B4.out hb)
        refine stepOK_value (v := .agg #[.int .i64 (y : Nat), .int .i64 (n : Nat)]) (w' := w1) (by go_simp) (leaves_mk (Below.refl _ _) rfl (fun h => by cases h))
      · intro vals w1 hb hd
        have d3 : KEq (.agg #[.int .i64 f.vars, .slice ao f.nodes.length c, .int .i64 f.top]) (vals 3) w1 := hd 3 (by kernel_rfl)
        have d4 : KEq (.agg #[.int .i64 (y : Nat), .int .i64 (n : Nat)]) (vals 4) w1 := hd 4 (by kernel_rfl)
        have HS := Lib.hid (FVV.out ▸ tvalue_any _ f y n w1 (HF.out.below (HB.out.trans (hb.mono HB.out.size))) HFM.out HCU.out)
        have z3 : vals 3 = _ := d3
        rw [z3]; clear z3
        have z4 : vals 4 = _ := d4
        rw [z4]; clear z4
        refine stepOK_call (by go_simp; first | done | exact ⟨⟨rfl, rfl⟩, rfl⟩) ?_
        (with_reducible refine HS.out.mono ?_); rintro e w2 ⟨rfl, hb2⟩
        exact ⟨_, rfl, leaves_mk hb2 rfl (fun h => by cases h)⟩
      · intro vals w1 hb hd
        have d5 : KEq (.tuple #[.int .i64 (fv : Nat), .nilIface]) (vals 5) w1 := hd 5 (by kernel_rfl)
        rw [show vals 5 = _ from d5]
        refine stepOK_value (v := (.tuple #[.int .i64 (fv : Nat), .nilIface])) (w' := w1) (by go_simp) (leaves_mk (Below.refl _ _) rfl (fun h => by cases h))
      · intro vals w1 hb hd
        have d6 : KEq ((.tuple #[.int .i64 (fv : Nat), .nilIface])) (vals 6) w1 := hd 6 (by kernel_rfl)
        rw [show vals 6 = _ from d6]
        refine stepOK_value (v := .int .i64 (fv : Nat)) (w' := w1) (by go_simp) (leaves_mk (Below.refl _ _) rfl (fun h => by cases h))
      · intro vals w1 hb hd
        have d6 : KEq ((.tuple #[.int .i64 (fv : Nat), .nilIface])) (vals 6) w1 := hd 6 (by kernel_rfl)
        rw [show vals 6 = _ from d6]
        refine stepPure_value (v := .nilIface) (fun w => by go_simp) (leaves_mk (Below.refl _ _) rfl (fun h => by cases h))
    case tl4s =>
      intro vals w3 hb3 hf hdis
      simp only [List.drop_succ_cons, List.drop_zero]
      have z7 : vals 7 = _ := hf 7 (by decide)
      have z8 : vals 8 = _ := hf 8 (by decide)
      rw [z7, z8]
      clear z7 z8 hf hdis
      have G5 := Lib.hid (heap_below G5.out hb3); have B4 := Lib.hid (heap_below B4.out hb3); have B6 := Lib.hid (heap_below B6.out hb3)
      have GB := Lib.hid (gb_below GB.out hb3); have HB := Lib.hid (HB.out.trans (hb3.mono HB.out.size))
      clear hb3
      obtain ⟨x0, x1, x2, x3, x4⟩ := row5 G5.out
      by_cases h2 : fv ≠ 2
      · have GL := Lib.hid (grT_leaf0 (d := d + 1) hfv (.inl h2))
        have h2b : (((fv : Nat) : Int) != 2) = true := bne_iff_ne.2 (by omega)
        go_wp2_with (with_reducible refine wpList_pauseS ?_)
        refine wpList_stL g6 0 [.int .i64 0, .slice none 0 0, .int .i64 (fv : Nat)] B6.out rfl rfl (Nat.le_of_ble_eq_true rfl) (by kernel_rfl) rfl ?_
        intro wz hpz
        have GZ := Lib.hid (show wz.heap[g6]? = some (.cells #[.int .i64 0, .slice none 0 0, .int .i64 (fv : Nat)] 27) by rw [hpz]; exact putL_3r B6.out)
        have G5 := Lib.hid (putLx hpz G5.out (Ne.symm ne6)); have GBz := Lib.hid (gb_row GB.out (gb_putL hpz) (fun k hk _ => fun e => by cases e; omega))
        clear hpz
        go_wp2_with (with_reducible first | refine pauseCall ?_ | refine pauseLoop ?_ | refine pauseDraw ?_ | refine pauseBody ?_ | refine pauseRounds ?_)
        refine ret_c2 rfl g6 #[.int .i64 0, .slice none 0 0, .int .i64 (fv : Nat)] rfl GZ.out Tryz.underlying27 rfl (by kernel_rfl) rfl ?_
        rw [(GL.out).1, (GL.out).2]
        exact ⟨_, rfl, trG_leaf hfv2, GBz.out, G5.out⟩
      have hfv' : fv = 2 := by omega
      subst hfv'
      have H2 := FVV
      obtain ⟨k1, k2⟩ := fmNext_ok HFM.out H2.out
      obtain ⟨k3, k4⟩ := ev3_open k2
      have hdn : ¬ (deep : Int) = (most : Int) := by omega
      go_wp2_with (with_reducible first | refine pauseCall ?_ | refine pauseLoop ?_ | refine pauseDraw ?_ | refine pauseBody ?_ | refine pauseRounds ?_)
      clear x0 x1 x2 x3 x4 hdn
      refine Pause.mk ?_
      refine wp_region_facts (A := ?aa7) (w := w3) 9 [8] (by kernel_rfl) (Fl [KEq (.pointer (some ⟨g, 0, none⟩)), KEq (.pointer (some ⟨g, 0, none⟩)), KEq (.pointer (some ⟨g, 0, none⟩)), KEq (.agg #[.int .i64 f.vars, .slice ao f.nodes.length c, .int .i64 f.top]), KEq (.agg #[.int .i64 (y : Nat), .int .i64 (n : Nat)]), KEq (.tuple #[.int .i64 (fmNext f y n : Nat), .nilIface]), KEq ((.tuple #[.int .i64 (fmNext f y n : Nat), .nilIface])), KEq (.int .i64 (fmNext f y n : Nat)), KEq (.nilIface)]) (fun i => false) (by kernel_rfl) ?hq7 (monoL (monoC (kEq _) (monoC (kEq _) (monoC (kEq _) (monoC (kEq _) (monoC (kEq _) (monoC (kEq _) (monoC (kEq _) (monoC (kEq _) (monoC (kEq _) monoN)))))))))) ?ha7 ?st7 ?tl7
      case hq7 =>
        intro c a d v w h
        first | (simp only [Exit.then] at h ⊢; exact h) | (simp only [Exit.inBlock, Exit.then] at h ⊢; exact h) | exact h
      case ha7 =>
        intro vals
        simp only [putsTo, dstOf, if_true, Act.put, List.setIfInBounds_toArray, List.set_cons_zero, List.set_cons_succ, List.getElem?_toArray, List.getElem?_cons_zero, List.getElem?_cons_succ, Option.bind_some]
        exact rfl
      case st7 =>
        simp only [List.take_succ_cons, List.take_zero]
        refine stepsOK_cons rfl rfl ?_ (stepsOK_cons rfl rfl ?_ (stepsOK_cons rfl rfl ?_ (stepsOK_cons rfl rfl ?_ (stepsOK_cons rfl rfl ?_ (stepsOK_cons rfl rfl ?_ (stepsOK_cons rfl rfl ?_ (stepsOK_cons rfl rfl ?_ (stepsOK_pure rfl ?_ (stepsOK_nil)))))))))
        · intro vals w1 hb hd
          refine stepOK_value (v := .pointer (some ⟨g, 0, none⟩)) (w' := w1) (by go_simp) (leaves_mk (Below.refl _ _) rfl (fun h => by cases h))
        · intro vals w1 hb hd
          have d0 : KEq (.pointer (some ⟨g, 0, none⟩)) (vals 0) w1 := hd 0 (by kernel_rfl)
          rw [show vals 0 = _ from d0]
          refine stepOK_value (v := .pointer (some ⟨g, 0, none⟩)) (w' := w1) (by go_simp) (leaves_mk (Below.refl _ _) rfl (fun h => by cases h))
        · intro vals w1 hb hd
          have d1 : KEq (.pointer (some ⟨g, 0, none⟩)) (vals 1) w1 := hd 1 (by kernel_rfl)
          rw [show vals 1 = _ from d1]
          refine stepOK_value (v := .pointer (some ⟨g, 0, none⟩)) (w' := w1) (by go_simp) (leaves_mk (Below.refl _ _) rfl (fun h => by cases h))
        · intro vals w1 hb hd
          have d2 : KEq (.pointer (some ⟨g, 0, none⟩)) (vals 2) w1 := hd 2 (by kernel_rfl)
          obtain ⟨e0, e1, e2, e3, e4⟩ := row5 (heap_below G5.out hb)
          rw [show vals 2 = _ from d2]
          refine stepOK_value (v := .agg #[.int .i64 f.vars, .slice ao f.nodes.length c, .int .i64 f.top]) (w' := w1) (by go_simp) (leaves_mk (Below.refl _ _) rfl (fun h => by cases h))
        · intro vals w1 hb hd
          obtain ⟨e0, e1⟩ := row2c (heap_below B4.out hb)
          refine stepOK_value (v := .agg #[.int .i64 (y : Nat), .int .i64 (n : Nat)]) (w' := w1) (by go_simp) (leaves_mk (Below.refl _ _) rfl (fun h => by cases h))
        · intro vals w1 hb hd
          have d3 : KEq (.agg #[.int .i64 f.vars, .slice ao f.nodes.length c, .int .i64 f.top]) (vals 3) w1 := hd 3 (by kernel_rfl)
          have d4 : KEq (.agg #[.int .i64 (y : Nat), .int .i64 (n : Nat)]) (vals 4) w1 := hd 4 (by kernel_rfl)
          have HS := Lib.hid (tnext_any _ f y n w1 (HF.out.below (HB.out.trans (hb.mono HB.out.size))) HFM.out HCU.out H2.out)
          have z3 : vals 3 = _ := d3
          rw [z3]; clear z3
          have z4 : vals 4 = _ := d4
          rw [z4]; clear z4
          refine stepOK_call (by go_simp; first | done | exact ⟨⟨rfl, rfl⟩, rfl⟩) ?_
          (with_reducible refine HS.out.mono ?_); rintro e w2 ⟨rfl, hb2⟩
          exact ⟨_, rfl, leaves_mk hb2 rfl (fun h => by cases h)⟩
        · intro vals w1 hb hd
          have d5 : KEq (.tuple #[.int .i64 (fmNext f y n : Nat), .nilIface]) (vals 5) w1 := hd 5 (by kernel_rfl)
          rw [show vals 5 = _ from d5]
          refine stepOK_value (v := (.tuple #[.int .i64 (fmNext f y n : Nat), .nilIface])) (w' := w1) (by go_simp) (leaves_mk (Below.refl _ _) rfl (fun h => by cases h))
        · intro vals w1 hb hd
          have d6 : KEq ((.tuple #[.int .i64 (fmNext f y n : Nat), .nilIface])) (vals 6) w1 := hd 6 (by kernel_rfl)
          rw [show vals 6 = _ from d6]
          refine stepOK_value (v := .int .i64 (fmNext f y n : Nat)) (w' := w1) (by go_simp) (leaves_mk (Below.refl _ _) rfl (fun h => by cases h))
        · intro vals w1 hb hd
          have d6 : KEq ((.tuple #[.int .i64 (fmNext f y n : Nat), .nilIface])) (vals 6) w1 := hd 6 (by kernel_rfl)
          rw [show vals 6 = _ from d6]
          refine stepPure_value (v := .nilIface) (fun w => by go_simp) (leaves_mk (Below.refl _ _) rfl (fun h => by cases h))
      case tl7 =>
        intro vals w4 hb4 hf hdis
        simp only [List.drop_succ_cons, List.drop_zero]
        have z7 : vals 7 = _ := hf 7 (by decide)
        have z8 : vals 8 = _ := hf 8 (by decide)
        rw [z7, z8]
        clear z7 z8 hf hdis
        have G5 := Lib.hid (heap_below G5.out hb4); have B4 := Lib.hid (heap_below B4.out hb4); have B6 := Lib.hid (heap_below B6.out hb4)
        have GB := Lib.hid (gb_below GB.out hb4); have HB := Lib.hid (HB.out.trans (hb4.mono HB.out.size))
        clear hb4
        obtain ⟨at_, hat⟩ : ∃ a, a = fmNext f y n := ⟨_, rfl⟩
        rw [← hat] at k1 k3 k4 ⊢
        obtain ⟨P2, hP2⟩ : ∃ P : Nat, P = 2 ^ at_ := ⟨_, rfl⟩
        have hp24 : P2 < 16777216 := by rw [hP2]; exact pow_l24 (by omega)
        have DP := Lib.hid (show IntKind.wrap .i64 (2 ^ at_) = (P2 : Int) by rw [shl_one (by omega), hP2])
        obtain ⟨nb, hnb⟩ : ∃ nb, nb = n ||| 1 <<< at_ := ⟨_, rfl⟩
        obtain ⟨yb, hyb⟩ : ∃ yb, yb = y ||| 1 <<< at_ := ⟨_, rfl⟩
        have hnb3 : nb = n ||| P2 := by rw [hnb, hP2, Nat.one_shiftLeft]
        have hyb3 : yb = y ||| P2 := by rw [hyb, hP2, Nat.one_shiftLeft]
        have DN := Lib.hid (show bits .or .i64 (n : Int) (P2 : Int) = (nb : Int) by rw [bits_or (by omega) (by omega), hnb3])
        have DY := Lib.hid (show bits .or .i64 (y : Int) (P2 : Int) = (yb : Int) by rw [bits_or (by omega) (by omega), hyb3])
        have OKA := Lib.hid (show okC f.vars.toNat y nb by rw [hnb]; exact okC_no HOK.out k1 k3)
        have OKB := Lib.hid (show okC f.vars.toNat yb n by rw [hyb]; exact okC_yes HOK.out k1 k4)
        have GT := Lib.hid (show grT f (d + 1) y n = .mk (at_ : Nat) [grT f d y nb, grT f d yb n] 0 ∧ grN f (d + 1) y n = 1 + grN f d y nb + grN f d yb n by
          simp only [grT, grN]
          rw [if_neg (by rw [H2.out]; decide), if_neg (by rw [H2.out]; decide), ← hat, ← hnb, ← hyb]; exact ⟨rfl, rfl⟩)
        rw [GT.out.2] at hcn
        clear hP2 hnb hyb hnb3 hyb3 k3 k4 hat k2
        obtain ⟨dp, hdp⟩ : ∃ x, x = deep + 1 := ⟨_, rfl⟩
        have HDP := Lib.hid (show IntKind.wrap .i64 ((deep : Int) + 1) = (dp : Int) by rw [wrap_small ⟨by omega, by omega⟩]; omega)
        have hdd : dp + d = most := by omega
        clear hdp
        obtain ⟨cnA, hcA⟩ : ∃ x, x = cnt + 1 + grN f d y nb := ⟨_, rfl⟩
        obtain ⟨cnB, hcB⟩ : ∃ x, x = cnA + grN f d yb n := ⟨_, rfl⟩
        have IHA := Lib.hid (fun w1 (hbl : Below w4.heap.size w4 w1) => hcA ▸ ih y nb dp (cnt + 1) g w1 (HB.out.trans (hbl.mono HB.out.size)) hg0 (heap_below G5.out hbl) (by omega) OKA.out (by omega))
        have hbg := below_lt G5.out
        obtain ⟨B0, hB0e⟩ : ∃ B, B = w4.heap.size := ⟨_, rfl⟩
        have hB0 : B0 ≤ w4.heap.size := by omega
        have hBg : g < B0 := by omega
        have hg4l := below_lt B4.out; have hg6l := below_lt B6.out
        go_wp2_with (with_reducible first | refine pauseCall ?_ | refine pauseLoop ?_ | refine pauseDraw ?_ | refine pauseBody ?_ | refine pauseRounds ?_)
        refine Pause.mk ?_
        have hM : ∀ j v w1 w2, Fl [KEq (.pointer (some ⟨g, 0, none⟩)), KEq (.pointer (some ⟨g4, 0, none⟩)), KEq (.int .i64 (y : Nat)), KEq (.pointer (some ⟨g4, 1, none⟩)), KEq (.int .i64 (n : Nat)), KEq (.int .i64 (at_ : Nat)), KEq (.int .i64 (P2 : Nat)), KEq (.int .i64 (nb : Nat)), KEq (.agg #[.int .i64 (y : Nat), .int .i64 (nb : Nat)]), KEq (.int .i64 (deep : Nat)), KEq (.int .i64 (dp : Nat)), KGr (grT f d y nb), KGr (grT f d y nb), KGt (grT f d y nb), KEq .nilIface, KNew B0 #[.int .i64 0, .slice none 0 0, .int .i64 0] 27] j v w1 → Below w1.heap.size w1 w2 → Fl [KEq (.pointer (some ⟨g, 0, none⟩)), KEq (.pointer (some ⟨g4, 0, none⟩)), KEq (.int .i64 (y : Nat)), KEq (.pointer (some ⟨g4, 1, none⟩)), KEq (.int .i64 (n : Nat)), KEq (.int .i64 (at_ : Nat)), KEq (.int .i64 (P2 : Nat)), KEq (.int .i64 (nb : Nat)), KEq (.agg #[.int .i64 (y : Nat), .int .i64 (nb : Nat)]), KEq (.int .i64 (deep : Nat)), KEq (.int .i64 (dp : Nat)), KGr (grT f d y nb), KGr (grT f d y nb), KGt (grT f d y nb), KEq .nilIface, KNew B0 #[.int .i64 0, .slice none 0 0, .int .i64 0] 27] j v w2 := monoL (monoC (kEq _) (monoC (kEq _) (monoC (kEq _) (monoC (kEq _) (monoC (kEq _) (monoC (kEq _) (monoC (kEq _) (monoC (kEq _) (monoC (kEq _) (monoC (kEq _) (monoC (kEq _) (monoC (kGr _) (monoC (kGr _) (monoC (kGt _) (monoC (kEq _) (monoC (kNew _ _ _) monoN))))))))))))))))
        have HM := hM
        obtain ⟨AcA, hAc⟩ : ∃ A : Bool → World → Prop, A = fun b w1 => if b then w4.grownBy w1 (some g) ∧ w1.heap[g]? = some (.cells #[.int .i64 f.vars, .slice ao f.nodes.length c, .int .i64 f.top, .int .i64 (most : Nat), .int .i64 (cnA : Nat)] 99) else Below w4.heap.size w4 w1 := ⟨_, rfl⟩
        have HAC : ∀ b w1, AcA b w1 → w4.grownBy w1 (some g) := fun b w1 h => by
          rw [hAc] at h; cases b with
          | true => exact h.1
          | false => exact gb_of_below h
        have HAF : ∀ w1, AcA false w1 → Below w4.heap.size w4 w1 := fun w1 h => by rw [hAc] at h; exact h
        have HAM : ∀ b w1 w2, AcA b w1 → Below w1.heap.size w1 w2 → AcA b w2 := fun b w1 w2 h hb => by
          rw [hAc] at h ⊢; cases b with
          | true => exact ⟨gb_below h.1 hb, heap_below h.2 hb⟩
          | false => exact h.trans (hb.mono h.size)
        have HB0s : ∀ b w1, AcA b w1 → B0 ≤ w1.heap.size := fun b w1 h => Nat.le_trans hB0 (HAC b w1 h).size
        have survA : ∀ j u w1 w2, j ≠ 11 → Fl [KEq (.pointer (some ⟨g, 0, none⟩)), KEq (.pointer (some ⟨g4, 0, none⟩)), KEq (.int .i64 (y : Nat)), KEq (.pointer (some ⟨g4, 1, none⟩)), KEq (.int .i64 (n : Nat)), KEq (.int .i64 (at_ : Nat)), KEq (.int .i64 (P2 : Nat)), KEq (.int .i64 (nb : Nat)), KEq (.agg #[.int .i64 (y : Nat), .int .i64 (nb : Nat)]), KEq (.int .i64 (deep : Nat)), KEq (.int .i64 (dp : Nat)), KGr (grT f d y nb), KGr (grT f d y nb), KGt (grT f d y nb), KEq .nilIface, KNew B0 #[.int .i64 0, .slice none 0 0, .int .i64 0] 27] j u w1 → w1.grownBy w2 (some g) → w1.heap[g]? = some (.cells #[.int .i64 f.vars, .slice ao f.nodes.length c, .int .i64 f.top, .int .i64 (most : Nat), .int .i64 ((cnt + 1 : Nat) : Int)] 99) → Fl [KEq (.pointer (some ⟨g, 0, none⟩)), KEq (.pointer (some ⟨g4, 0, none⟩)), KEq (.int .i64 (y : Nat)), KEq (.pointer (some ⟨g4, 1, none⟩)), KEq (.int .i64 (n : Nat)), KEq (.int .i64 (at_ : Nat)), KEq (.int .i64 (P2 : Nat)), KEq (.int .i64 (nb : Nat)), KEq (.agg #[.int .i64 (y : Nat), .int .i64 (nb : Nat)]), KEq (.int .i64 (deep : Nat)), KEq (.int .i64 (dp : Nat)), KGr (grT f d y nb), KGr (grT f d y nb), KGt (grT f d y nb), KEq .nilIface, KNew B0 #[.int .i64 0, .slice none 0 0, .int .i64 0] 27] j u w2 := fun j u w1 w2 hj h hg hg1 => by
          match j, hj with
          | 0, _ => exact h
          | 1, _ => exact h
          | 2, _ => exact h
          | 3, _ => exact h
          | 4, _ => exact h
          | 5, _ => exact h
          | 6, _ => exact h
          | 7, _ => exact h
          | 8, _ => exact h
          | 9, _ => exact h
          | 10, _ => exact h
          | 12, _ => exact kGr_k h (keep6_gb hg hg1 (by simp))
          | 13, _ => exact kGt_k h (keep6_gb hg hg1 (by simp))
          | 14, _ => exact h
          | 15, _ => exact kNew_gb hBg h hg
          | j + 16, _ => trivial
          | 11, hj => exact absurd rfl hj
        refine wp_region_factsG (A := ?aa10) (w := w4) 16 [14] (by kernel_rfl) (Fl [KEq (.pointer (some ⟨g, 0, none⟩)), KEq (.pointer (some ⟨g4, 0, none⟩)), KEq (.int .i64 (y : Nat)), KEq (.pointer (some ⟨g4, 1, none⟩)), KEq (.int .i64 (n : Nat)), KEq (.int .i64 (at_ : Nat)), KEq (.int .i64 (P2 : Nat)), KEq (.int .i64 (nb : Nat)), KEq (.agg #[.int .i64 (y : Nat), .int .i64 (nb : Nat)]), KEq (.int .i64 (deep : Nat)), KEq (.int .i64 (dp : Nat)), KGr (grT f d y nb), KGr (grT f d y nb), KGt (grT f d y nb), KEq .nilIface, KNew B0 #[.int .i64 0, .slice none 0 0, .int .i64 0] 27]) (fun i => i == 15) (AcA) 11 (by decide) ?h010 (by kernel_rfl) ?hq10 ?ha10 ?st10 ?tl10
        case h010 => rw [hAc]; exact (Below.refl _ _).drew
        case hq10 =>
          intro c a d v w h
          first | (simp only [Exit.then] at h ⊢; exact h) | (simp only [Exit.inBlock, Exit.then] at h ⊢; exact h) | exact h
        case ha10 =>
          intro vals
          simp only [putsTo, dstOf, if_true, Act.put, List.setIfInBounds_toArray, List.set_cons_zero, List.set_cons_succ, List.getElem?_toArray, List.getElem?_cons_zero, List.getElem?_cons_succ, Option.bind_some]
          exact rfl
        case st10 =>
          simp only [List.take_succ_cons, List.take_zero]
          refine stepsOKG_cons rfl rfl ?_ (stepsOKG_cons rfl rfl ?_ (stepsOKG_cons rfl rfl ?_ (stepsOKG_cons rfl rfl ?_ (stepsOKG_cons rfl rfl ?_ (stepsOKG_cons rfl rfl ?_ (stepsOKG_cons rfl rfl ?_ (stepsOKG_cons rfl rfl ?_ (stepsOKG_cons rfl rfl ?_ (stepsOKG_cons rfl rfl ?_ (stepsOKG_cons rfl rfl ?_ (stepsOKG_cons rfl rfl ?_ (stepsOKG_cons rfl rfl ?_ (stepsOKG_cons rfl rfl ?_ (stepsOKG_pure rfl ?_ (stepsOKG_cons rfl rfl ?_ (stepsOKG_nil))))))))))))))))
          · intro vals w1 b hsp hac hd
            refine stepOK_value (v := .pointer (some ⟨g, 0, none⟩)) (w' := w1) (by go_simp) (leavesG_mk HM HAM (by decide) hac (Below.refl _ _) rfl (fun h => by cases h))
          · intro vals w1 b hsp hac hd
            refine stepOK_value (v := .pointer (some ⟨g4, 0, none⟩)) (w' := w1) (by go_simp) (leavesG_mk HM HAM (by decide) hac (Below.refl _ _) rfl (fun h => by cases h))
          · intro vals w1 b hsp hac hd
            have d1 : KEq (.pointer (some ⟨g4, 0, none⟩)) (vals 1) w1 := hd 1 (by kernel_rfl)
            obtain ⟨e0, e1⟩ := row2c (gb_heap (HAC b w1 hac) B4.out ne4)
            rw [show vals 1 = _ from d1]
            refine stepOK_value (v := .int .i64 (y : Nat)) (w' := w1) (by go_simp) (leavesG_mk HM HAM (by decide) hac (Below.refl _ _) rfl (fun h => by cases h))
          · intro vals w1 b hsp hac hd
            refine stepOK_value (v := .pointer (some ⟨g4, 1, none⟩)) (w' := w1) (by go_simp) (leavesG_mk HM HAM (by decide) hac (Below.refl _ _) rfl (fun h => by cases h))
          · intro vals w1 b hsp hac hd
            have d3 : KEq (.pointer (some ⟨g4, 1, none⟩)) (vals 3) w1 := hd 3 (by kernel_rfl)
            obtain ⟨e0, e1⟩ := row2c (gb_heap (HAC b w1 hac) B4.out ne4)
            rw [show vals 3 = _ from d3]
            refine stepOK_value (v := .int .i64 (n : Nat)) (w' := w1) (by go_simp) (leavesG_mk HM HAM (by decide) hac (Below.refl _ _) rfl (fun h => by cases h))
          · intro vals w1 b hsp hac hd
            refine stepOK_value (v := .int .i64 (at_ : Nat)) (w' := w1) (by go_simp) (leavesG_mk HM HAM (by decide) hac (Below.refl _ _) rfl (fun h => by cases h))
          · intro vals w1 b hsp hac hd
            have d5 : KEq (.int .i64 (at_ : Nat)) (vals 5) w1 := hd 5 (by kernel_rfl)
            rw [show vals 5 = _ from d5]
            refine stepOK_value (v := .int .i64 (P2 : Nat)) (w' := w1) (by go_simp; first | done | exact DP.out) (leavesG_mk HM HAM (by decide) hac (Below.refl _ _) rfl (fun h => by cases h))
          · intro vals w1 b hsp hac hd
            have d4 : KEq (.int .i64 (n : Nat)) (vals 4) w1 := hd 4 (by kernel_rfl)
            have d6 : KEq (.int .i64 (P2 : Nat)) (vals 6) w1 := hd 6 (by kernel_rfl)
            rw [show vals 4 = _ from d4]
            rw [show vals 6 = _ from d6]
            refine stepOK_value (v := .int .i64 (nb : Nat)) (w' := w1) (by go_simp; first | done | exact DN.out) (leavesG_mk HM HAM (by decide) hac (Below.refl _ _) rfl (fun h => by cases h))
          · intro vals w1 b hsp hac hd
            have d2 : KEq (.int .i64 (y : Nat)) (vals 2) w1 := hd 2 (by kernel_rfl)
            have d7 : KEq (.int .i64 (nb : Nat)) (vals 7) w1 := hd 7 (by kernel_rfl)
            rw [show vals 2 = _ from d2]
            rw [show vals 7 = _ from d7]
            refine stepOK_value (v := .agg #[.int .i64 (y : Nat), .int .i64 (nb : Nat)]) (w' := w1) (by go_simp) (leavesG_mk HM HAM (by decide) hac (Below.refl _ _) rfl (fun h => by cases h))
          · intro vals w1 b hsp hac hd
            refine stepOK_value (v := .int .i64 (deep : Nat)) (w' := w1) (by go_simp) (leavesG_mk HM HAM (by decide) hac (Below.refl _ _) rfl (fun h => by cases h))
          · intro vals w1 b hsp hac hd
            have d9 : KEq (.int .i64 (deep : Nat)) (vals 9) w1 := hd 9 (by kernel_rfl)
            rw [show vals 9 = _ from d9]
            refine stepOK_value (v := .int .i64 (dp : Nat)) (w' := w1) (by go_simp; first | done | exact HDP.out) (leavesG_mk HM HAM (by decide) hac (Below.refl _ _) rfl (fun h => by cases h))
          · intro vals w1 b hsp hac hd
            have d0 : KEq (.pointer (some ⟨g, 0, none⟩)) (vals 0) w1 := hd 0 (by kernel_rfl)
            have d8 : KEq (.agg #[.int .i64 (y : Nat), .int .i64 (nb : Nat)]) (vals 8) w1 := hd 8 (by kernel_rfl)
            have d10 : KEq (.int .i64 (dp : Nat)) (vals 10) w1 := hd 10 (by kernel_rfl)
            obtain rfl : b = false := hsp rfl
            have hbl := HAF w1 hac
            have HS := Lib.hid (IHA.out w1 hbl)
            rw [show vals 0 = _ from d0, show vals 8 = _ from d8, show vals 10 = _ from d10]
            refine stepOK_call (by go_simp; first | done | exact ⟨⟨rfl, rfl⟩, rfl⟩) ?_
            (with_reducible refine HS.out.mono ?_); rintro e w2 ⟨v, rfl, hv, gb2, hg2⟩
            exact ⟨_, rfl, gb2.size, fun j u hj hF => survA j u w1 w2 hj hF gb2 (heap_below G5.out hbl), (by rw [hAc]; exact ⟨gb_trans (HAC false w1 hac) gb2, hg2⟩), ⟨v, rfl, hv⟩, fun h => by cases h⟩
          · intro vals w1 b hsp hac hd
            have d11 : KGr (grT f d y nb) (vals 11) w1 := hd 11 (by kernel_rfl)
            obtain ⟨v, ev, hv⟩ := d11
            rw [ev]
            refine stepOK_value (v := .tuple #[v, .nilIface]) (w' := w1) (by go_simp) (leavesG_mk HM HAM (by decide) hac (Below.refl _ _) ⟨v, rfl, hv⟩ (fun h => by cases h))
          · intro vals w1 b hsp hac hd
            have d12 : KGr (grT f d y nb) (vals 12) w1 := hd 12 (by kernel_rfl)
            obtain ⟨v, ev, hv⟩ := d12
            rw [ev]
            refine stepOK_value (v := v) (w' := w1) (by go_simp) (leavesG_mk HM HAM (by decide) hac (Below.refl _ _) hv (fun h => by cases h))
          · intro vals w1 b hsp hac hd
            have d12 : KGr (grT f d y nb) (vals 12) w1 := hd 12 (by kernel_rfl)
            obtain ⟨v, ev, hv⟩ := d12
            rw [ev]
            refine stepPure_value (v := .nilIface) (fun w => by go_simp) (leavesG_mk HM HAM (by decide) hac (Below.refl _ _) rfl (fun h => by cases h))
          · intro vals w1 b hsp hac hd
            refine stepOK_value (v := .pointer (some ⟨w1.heap.size, 0, none⟩)) (w' := w1.alloc (.cells #[.int .i64 0, .slice none 0 0, .int .i64 0] 27)) (by go_simp) (leavesG_mk HM HAM (by decide) hac ((Below.refl _ _).alloc (Nat.le_refl _) _) ⟨_, (HB0s _ _ hac), rfl, heap_alloc_new _ _⟩ (fun _ => ⟨rfl, by simp⟩))
        case tl10 =>
          intro vals w5 hacc hf hdis
          simp only [List.drop_succ_cons, List.drop_zero]
          rw [hAc] at hacc
          obtain ⟨gb5, hg5⟩ := hacc
          have z14 : vals 14 = _ := hf 14 (by decide)
          obtain ⟨gA, hgA, ev, hzA⟩ : KNew B0 #[.int .i64 0, .slice none 0 0, .int .i64 0] 27 (vals 15) w5 := hf 15 (by decide)
          have hta : TrG w5 (vals 13) (grT f d y nb) := hf 13 (by decide)
          rw [z14, ev]
          obtain ⟨va, hva⟩ : ∃ u, u = vals 13 := ⟨_, rfl⟩
          rw [← hva] at hta ⊢
          clear z14 ev hf hdis hva hAc HAC HAF HAM HB0s survA hM HM
          obtain ⟨av, ar, aa, an, ac, rfl⟩ := hta.tr.shape
          go_wp2_with (with_reducible refine wpList_pauseS ?_)
          refine wpList_stL gA 0 [.int .i64 av, .slice aa an ac, .int .i64 ar] hzA rfl rfl (Nat.le_of_ble_eq_true rfl) (by kernel_rfl) rfl ?_
          intro w6 hp6
          have hgb6 := gb_putL hp6
          have n4A : g4 ≠ gA := by omega
          have n6A : g6 ≠ gA := by omega
          have ngA : g ≠ gA := by omega
          have B4 := Lib.hid (putLx hp6 (gb_heap gb5 B4.out ne4) n4A); have B6 := Lib.hid (putLx hp6 (gb_heap gb5 B6.out ne6) n6A); have G5 := Lib.hid (putLx hp6 hg5 ngA)
          have BA := Lib.hid (show w6.heap[gA]? = some (.cells #[.int .i64 av, .slice aa an ac, .int .i64 ar] 27) by rw [hp6]; exact putL_3r hzA)
          have GB := Lib.hid (gb_row (gb_trans GB.out gb5) hgb6 (fun k hk _ => fun e => by cases e; have := GB.out.size; omega))
          have HB := Lib.hid (putLb hp6 (gb_low HB.out gb5 HB.out.size hg0) (by have := HB.out.size; omega))
          have TA := Lib.hid (hta.keep (keep6_put hp6 hzA (by simp)))
          clear hp6 gb5 hg5 hzA hta hgb6
          have hs6 : w4.heap.size ≤ w6.heap.size := by have := below_lt BA.out; have := below_lt G5.out; omega
          have IHB := Lib.hid (fun w1 (hbl : Below w6.heap.size w6 w1) => hcB ▸ ih yb n dp cnA g w1 (HB.out.trans (hbl.mono HB.out.size)) hg0 (heap_below G5.out hbl) (by omega) OKB.out (by omega))
          obtain ⟨B0, hB0e⟩ : ∃ B, B = w6.heap.size := ⟨_, rfl⟩
          have hB0 : B0 ≤ w6.heap.size := by omega
          have hBg : g < B0 := by have := below_lt G5.out; omega
          have hg4l := below_lt B4.out; have hg6l := below_lt B6.out; have hgAl := below_lt BA.out
          go_wp2_with (with_reducible first | refine pauseCall ?_ | refine pauseLoop ?_ | refine pauseDraw ?_ | refine pauseBody ?_ | refine pauseRounds ?_)
          refine Pause.mk ?_
          have hM : ∀ j v w1 w2, Fl [KEq (.pointer (some ⟨g, 0, none⟩)), KEq (.pointer (some ⟨g4, 0, none⟩)), KEq (.int .i64 (y : Nat)), KEq (.int .i64 (at_ : Nat)), KEq (.int .i64 (P2 : Nat)), KEq (.int .i64 (yb : Nat)), KEq (.pointer (some ⟨g4, 1, none⟩)), KEq (.int .i64 (n : Nat)), KEq (.agg #[.int .i64 (yb : Nat), .int .i64 (n : Nat)]), KEq (.int .i64 (deep : Nat)), KEq (.int .i64 (dp : Nat)), KGr (grT f d yb n), KGr (grT f d yb n), KGt (grT f d yb n), KEq .nilIface, KNew B0 #[.int .i64 0, .slice none 0 0, .int .i64 0] 27] j v w1 → Below w1.heap.size w1 w2 → Fl [KEq (.pointer (some ⟨g, 0, none⟩)), KEq (.pointer (some ⟨g4, 0, none⟩)), KEq (.int .i64 (y : Nat)), KEq (.int .i64 (at_ : Nat)), KEq (.int .i64 (P2 : Nat)), KEq (.int .i64 (yb : Nat)), KEq (.pointer (some ⟨g4, 1, none⟩)), KEq (.int .i64 (n : Nat)), KEq (.agg #[.int .i64 (yb : Nat), .int .i64 (n : Nat)]), KEq (.int .i64 (deep : Nat)), KEq (.int .i64 (dp : Nat)), KGr (grT f d yb n), KGr (grT f d yb n), KGt (grT f d yb n), KEq .nilIface, KNew B0 #[.int .i64 0, .slice none 0 0, .int .i64 0] 27] j v w2 := monoL (monoC (kEq _) (monoC (kEq _) (monoC (kEq _) (monoC (kEq _) (monoC (kEq _) (monoC (kEq _) (monoC (kEq _) (monoC (kEq _) (monoC (kEq _) (monoC (kEq _) (monoC (kEq _) (monoC (kGr _) (monoC (kGr _) (monoC (kGt _) (monoC (kEq _) (monoC (kNew _ _ _) monoN))))))))))))))))
          have HM := hM
          obtain ⟨AcB, hAc⟩ : ∃ A : Bool → World → Prop, A = fun b w1 => if b then w6.grownBy w1 (some g) ∧ w1.heap[g]? = some (.cells #[.int .i64 f.vars, .slice ao f.nodes.length c, .int .i64 f.top, .int .i64 (most : Nat), .int .i64 (cnB : Nat)] 99) else Below w6.heap.size w6 w1 := ⟨_, rfl⟩
          have HAC : ∀ b w1, AcB b w1 → w6.grownBy w1 (some g) := fun b w1 h => by
            rw [hAc] at h; cases b with
            | true => exact h.1
            | false => exact gb_of_below h
          have HAF : ∀ w1, AcB false w1 → Below w6.heap.size w6 w1 := fun w1 h => by rw [hAc] at h; exact h
          have HAM : ∀ b w1 w2, AcB b w1 → Below w1.heap.size w1 w2 → AcB b w2 := fun b w1 w2 h hb => by
            rw [hAc] at h ⊢; cases b with
            | true => exact ⟨gb_below h.1 hb, heap_below h.2 hb⟩
            | false => exact h.trans (hb.mono h.size)
          have HB0s : ∀ b w1, AcB b w1 → B0 ≤ w1.heap.size := fun b w1 h => Nat.le_trans hB0 (HAC b w1 h).size
          have survB : ∀ j u w1 w2, j ≠ 11 → Fl [KEq (.pointer (some ⟨g, 0, none⟩)), KEq (.pointer (some ⟨g4, 0, none⟩)), KEq (.int .i64 (y : Nat)), KEq (.int .i64 (at_ : Nat)), KEq (.int .i64 (P2 : Nat)), KEq (.int .i64 (yb : Nat)), KEq (.pointer (some ⟨g4, 1, none⟩)), KEq (.int .i64 (n : Nat)), KEq (.agg #[.int .i64 (yb : Nat), .int .i64 (n : Nat)]), KEq (.int .i64 (deep : Nat)), KEq (.int .i64 (dp : Nat)), KGr (grT f d yb n), KGr (grT f d yb n), KGt (grT f d yb n), KEq .nilIface, KNew B0 #[.int .i64 0, .slice none 0 0, .int .i64 0] 27] j u w1 → w1.grownBy w2 (some g) → w1.heap[g]? = some (.cells #[.int .i64 f.vars, .slice ao f.nodes.length c, .int .i64 f.top, .int .i64 (most : Nat), .int .i64 ((cnA : Nat) : Int)] 99) → Fl [KEq (.pointer (some ⟨g, 0, none⟩)), KEq (.pointer (some ⟨g4, 0, none⟩)), KEq (.int .i64 (y : Nat)), KEq (.int .i64 (at_ : Nat)), KEq (.int .i64 (P2 : Nat)), KEq (.int .i64 (yb : Nat)), KEq (.pointer (some ⟨g4, 1, none⟩)), KEq (.int .i64 (n : Nat)), KEq (.agg #[.int .i64 (yb : Nat), .int .i64 (n : Nat)]), KEq (.int .i64 (deep : Nat)), KEq (.int .i64 (dp : Nat)), KGr (grT f d yb n), KGr (grT f d yb n), KGt (grT f d yb n), KEq .nilIface, KNew B0 #[.int .i64 0, .slice none 0 0, .int .i64 0] 27] j u w2 := fun j u w1 w2 hj h hg hg1 => by
            match j, hj with
            | 0, _ => exact h
            | 1, _ => exact h
            | 2, _ => exact h
            | 3, _ => exact h
            | 4, _ => exact h
            | 5, _ => exact h
            | 6, _ => exact h
            | 7, _ => exact h
            | 8, _ => exact h
            | 9, _ => exact h
            | 10, _ => exact h
            | 12, _ => exact kGr_k h (keep6_gb hg hg1 (by simp))
            | 13, _ => exact kGt_k h (keep6_gb hg hg1 (by simp))
            | 14, _ => exact h
            | 15, _ => exact kNew_gb hBg h hg
            | j + 16, _ => trivial
            | 11, hj => exact absurd rfl hj
          refine wp_region_factsG (A := ?aa13) (w := w6) 16 [14] (by kernel_rfl) (Fl [KEq (.pointer (some ⟨g, 0, none⟩)), KEq (.pointer (some ⟨g4, 0, none⟩)), KEq (.int .i64 (y : Nat)), KEq (.int .i64 (at_ : Nat)), KEq (.int .i64 (P2 : Nat)), KEq (.int .i64 (yb : Nat)), KEq (.pointer (some ⟨g4, 1, none⟩)), KEq (.int .i64 (n : Nat)), KEq (.agg #[.int .i64 (yb : Nat), .int .i64 (n : Nat)]), KEq (.int .i64 (deep : Nat)), KEq (.int .i64 (dp : Nat)), KGr (grT f d yb n), KGr (grT f d yb n), KGt (grT f d yb n), KEq .nilIface, KNew B0 #[.int .i64 0, .slice none 0 0, .int .i64 0] 27]) (fun i => i == 15) (AcB) 11 (by decide) ?h013 (by kernel_rfl) ?hq13 ?ha13 ?st13 ?tl13
          case h013 => rw [hAc]; exact (Below.refl _ _).drew
          case hq13 =>
            intro c a d v w h
            first | (simp only [Exit.then] at h ⊢; exact h) | (simp only [Exit.inBlock, Exit.then] at h ⊢; exact h) | exact h
          case ha13 =>
            intro vals
            simp only [putsTo, dstOf, if_true, Act.put, List.setIfInBounds_toArray, List.set_cons_zero, List.set_cons_succ, List.getElem?_toArray, List.getElem?_cons_zero, List.getElem?_cons_succ, Option.bind_some]
            exact rfl
          case st13 =>
            simp only [List.take_succ_cons, List.take_zero]
            refine stepsOKG_cons rfl rfl ?_ (stepsOKG_cons rfl rfl ?_ (stepsOKG_cons rfl rfl ?_ (stepsOKG_cons rfl rfl ?_ (stepsOKG_cons rfl rfl ?_ (stepsOKG_cons rfl rfl ?_ (stepsOKG_cons rfl rfl ?_ (stepsOKG_cons rfl rfl ?_ (stepsOKG_cons rfl rfl ?_ (stepsOKG_cons rfl rfl ?_ (stepsOKG_cons rfl rfl ?_ (stepsOKG_cons rfl rfl ?_ (stepsOKG_cons rfl rfl ?_ (stepsOKG_cons rfl rfl ?_ (stepsOKG_pure rfl ?_ (stepsOKG_cons rfl rfl ?_ (stepsOKG_nil))))))))))))))))
            · intro vals w1 b hsp hac hd
              refine stepOK_value (v := .pointer (some ⟨g, 0, none⟩)) (w' := w1) (by go_simp) (leavesG_mk HM HAM (by decide) hac (Below.refl _ _) rfl (fun h => by cases h))
            · intro vals w1 b hsp hac hd
              refine stepOK_value (v := .pointer (some ⟨g4, 0, none⟩)) (w' := w1) (by go_simp) (leavesG_mk HM HAM (by decide) hac (Below.refl _ _) rfl (fun h => by cases h))
            · intro vals w1 b hsp hac hd
              have d1 : KEq (.pointer (some ⟨g4, 0, none⟩)) (vals 1) w1 := hd 1 (by kernel_rfl)
              obtain ⟨e0, e1⟩ := row2c (gb_heap (HAC b w1 hac) B4.out ne4)
              rw [show vals 1 = _ from d1]
              refine stepOK_value (v := .int .i64 (y : Nat)) (w' := w1) (by go_simp) (leavesG_mk HM HAM (by decide) hac (Below.refl _ _) rfl (fun h => by cases h))
            · intro vals w1 b hsp hac hd
              refine stepOK_value (v := .int .i64 (at_ : Nat)) (w' := w1) (by go_simp) (leavesG_mk HM HAM (by decide) hac (Below.refl _ _) rfl (fun h => by cases h))
            · intro vals w1 b hsp hac hd
              have d3 : KEq (.int .i64 (at_ : Nat)) (vals 3) w1 := hd 3 (by kernel_rfl)
              rw [show vals 3 = _ from d3]
              refine stepOK_value (v := .int .i64 (P2 : Nat)) (w' := w1) (by go_simp; first | done | exact DP.out) (leavesG_mk HM HAM (by decide) hac (Below.refl _ _) rfl (fun h => by cases h))
            · intro vals w1 b hsp hac hd
              have d2 : KEq (.int .i64 (y : Nat)) (vals 2) w1 := hd 2 (by kernel_rfl)
              have d4 : KEq (.int .i64 (P2 : Nat)) (vals 4) w1 := hd 4 (by kernel_rfl)
              rw [show vals 2 = _ from d2]
              rw [show vals 4 = _ from d4]
              refine stepOK_value (v := .int .i64 (yb : Nat)) (w' := w1) (by go_simp; first | done | exact DY.out) (leavesG_mk HM HAM (by decide) hac (Below.refl _ _) rfl (fun h => by cases h))
            · intro vals w1 b hsp hac hd
              refine stepOK_value (v := .pointer (some ⟨g4, 1, none⟩)) (w' := w1) (by go_simp) (leavesG_mk HM HAM (by decide) hac (Below.refl _ _) rfl (fun h => by cases h))
            · intro vals w1 b hsp hac hd
              have d6 : KEq (.pointer (some ⟨g4, 1, none⟩)) (vals 6) w1 := hd 6 (by kernel_rfl)
              obtain ⟨e0, e1⟩ := row2c (gb_heap (HAC b w1 hac) B4.out ne4)
              rw [show vals 6 = _ from d6]
              refine stepOK_value (v := .int .i64 (n : Nat)) (w' := w1) (by go_simp) (leavesG_mk HM HAM (by decide) hac (Below.refl _ _) rfl (fun h => by cases h))
            · intro vals w1 b hsp hac hd
              have d5 : KEq (.int .i64 (yb : Nat)) (vals 5) w1 := hd 5 (by kernel_rfl)
              have d7 : KEq (.int .i64 (n : Nat)) (vals 7) w1 := hd 7 (by kernel_rfl)
              rw [show vals 5 = _ from d5]
              rw [show vals 7 = _ from d7]
              refine stepOK_value (v := .agg #[.int .i64 (yb : Nat), .int .i64 (n : Nat)]) (w' := w1) (by go_simp) (leavesG_mk HM HAM (by decide) hac (Below.refl _ _) rfl (fun h => by cases h))
            · intro vals w1 b hsp hac hd
              refine stepOK_value (v := .int .i64 (deep : Nat)) (w' := w1) (by go_simp) (leavesG_mk HM HAM (by decide) hac (Below.refl _ _) rfl (fun h => by cases h))
            · intro vals w1 b hsp hac hd
              have d9 : KEq (.int .i64 (deep : Nat)) (vals 9) w1 := hd 9 (by kernel_rfl)
              rw [show vals 9 = _ from d9]
              refine stepOK_value (v := .int .i64 (dp : Nat)) (w' := w1) (by go_simp; first | done | exact HDP.out) (leavesG_mk HM HAM (by decide) hac (Below.refl _ _) rfl (fun h => by cases h))
            · intro vals w1 b hsp hac hd
              have d0 : KEq (.pointer (some ⟨g, 0, none⟩)) (vals 0) w1 := hd 0 (by kernel_rfl)
              have d8 : KEq (.agg #[.int .i64 (yb : Nat), .int .i64 (n : Nat)]) (vals 8) w1 := hd 8 (by kernel_rfl)
              have d10 : KEq (.int .i64 (dp : Nat)) (vals 10) w1 := hd 10 (by kernel_rfl)
              obtain rfl : b = false := hsp rfl
              have hbl := HAF w1 hac
              have HS := Lib.hid (IHB.out w1 hbl)
              rw [show vals 0 = _ from d0, show vals 8 = _ from d8, show vals 10 = _ from d10]
              refine stepOK_call (by go_simp; first | done | exact ⟨⟨rfl, rfl⟩, rfl⟩) ?_
              (with_reducible refine HS.out.mono ?_); rintro e w2 ⟨v, rfl, hv, gb2, hg2⟩
              exact ⟨_, rfl, gb2.size, fun j u hj hF => survB j u w1 w2 hj hF gb2 (heap_below G5.out hbl), (by rw [hAc]; exact ⟨gb_trans (HAC false w1 hac) gb2, hg2⟩), ⟨v, rfl, hv⟩, fun h => by cases h⟩
            · intro vals w1 b hsp hac hd
              have d11 : KGr (grT f d yb n) (vals 11) w1 := hd 11 (by kernel_rfl)
              obtain ⟨v, ev, hv⟩ := d11
              rw [ev]
              refine stepOK_value (v := .tuple #[v, .nilIface]) (w' := w1) (by go_simp) (leavesG_mk HM HAM (by decide) hac (Below.refl _ _) ⟨v, rfl, hv⟩ (fun h => by cases h))
            · intro vals w1 b hsp hac hd
              have d12 : KGr (grT f d yb n) (vals 12) w1 := hd 12 (by kernel_rfl)
              obtain ⟨v, ev, hv⟩ := d12
              rw [ev]
              refine stepOK_value (v := v) (w' := w1) (by go_simp) (leavesG_mk HM HAM (by decide) hac (Below.refl _ _) hv (fun h => by cases h))
            · intro vals w1 b hsp hac hd
              have d12 : KGr (grT f d yb n) (vals 12) w1 := hd 12 (by kernel_rfl)
              obtain ⟨v, ev, hv⟩ := d12
              rw [ev]
              refine stepPure_value (v := .nilIface) (fun w => by go_simp) (leavesG_mk HM HAM (by decide) hac (Below.refl _ _) rfl (fun h => by cases h))
            · intro vals w1 b hsp hac hd
              refine stepOK_value (v := .pointer (some ⟨w1.heap.size, 0, none⟩)) (w' := w1.alloc (.cells #[.int .i64 0, .slice none 0 0, .int .i64 0] 27)) (by go_simp) (leavesG_mk HM HAM (by decide) hac ((Below.refl _ _).alloc (Nat.le_refl _) _) ⟨_, (HB0s _ _ hac), rfl, heap_alloc_new _ _⟩ (fun _ => ⟨rfl, by simp⟩))
          case tl13 =>
            intro vals w7 hacc hf hdis
            simp only [List.drop_succ_cons, List.drop_zero]
            rw [hAc] at hacc
            obtain ⟨gb7, hg7⟩ := hacc
            have K67 := Lib.hid (keep6_gb gb7 G5.out (by simp))
            have z14 : vals 14 = _ := hf 14 (by decide)
            obtain ⟨gC, hgC, ev, hzC⟩ : KNew B0 #[.int .i64 0, .slice none 0 0, .int .i64 0] 27 (vals 15) w7 := hf 15 (by decide)
            have htb : TrG w7 (vals 13) (grT f d yb n) := hf 13 (by decide)
            rw [z14, ev]
            obtain ⟨vb, hvb⟩ : ∃ u, u = vals 13 := ⟨_, rfl⟩
            rw [← hvb] at htb ⊢
            clear z14 ev hf hdis hvb hAc HAC HAF HAM HB0s survB hM HM
            obtain ⟨bv, br, ba, bn, bc, rfl⟩ := htb.tr.shape
            go_wp2_with (with_reducible refine wpList_pauseS ?_)
            refine wpList_stL gC 0 [.int .i64 bv, .slice ba bn bc, .int .i64 br] hzC rfl rfl (Nat.le_of_ble_eq_true rfl) (by kernel_rfl) rfl ?_
            intro w8 hp8
            have hgb8 := gb_putL hp8
            have n6C : g6 ≠ gC := by omega
            have nAC : gA ≠ gC := by omega
            have ngC : g ≠ gC := by omega
            have nAg : gA ≠ g := by omega
            have B6 := Lib.hid (putLx hp8 (gb_heap gb7 B6.out ne6) n6C); have BA := Lib.hid (putLx hp8 (gb_heap gb7 BA.out nAg) nAC); have G5 := Lib.hid (putLx hp8 hg7 ngC)
            have BC := Lib.hid (show w8.heap[gC]? = some (.cells #[.int .i64 bv, .slice ba bn bc, .int .i64 br] 27) by rw [hp8]; exact putL_3r hzC)
            have GB := Lib.hid (gb_row (gb_trans GB.out gb7) hgb8 (fun k hk _ => fun e => by cases e; have := GB.out.size; omega))
            have TA := Lib.hid ((TA.out.keep K67.out).keep (keep6_put hp8 hzC (by simp))); have TB := Lib.hid (htb.keep (keep6_put hp8 hzC (by simp)))
            clear hp8 gb7 hg7 hzC htb hgb8
            obtain ⟨w9, hw9⟩ : ∃ w9, w9 = w8.alloc (.cells #[.int .i64 av, .slice aa an ac, .int .i64 ar, .int .i64 bv, .slice ba bn bc, .int .i64 br] 27) := ⟨_, rfl⟩
            have hb9 : Below w8.heap.size w8 w9 := by rw [hw9]; exact (Below.refl _ _).alloc (Nat.le_refl _) _
            have hg9 : w9.heap[w8.heap.size]? = some (.cells #[.int .i64 av, .slice aa an ac, .int .i64 ar, .int .i64 bv, .slice ba bn bc, .int .i64 br] 27) := by rw [hw9]; exact heap_alloc_new w8 _
            obtain ⟨g9, hG9⟩ : ∃ g, g = w8.heap.size := ⟨_, rfl⟩
            rw [← hG9] at hg9
            have ng9 : g9 ≠ g := by have := below_lt G5.out; omega
            have ng96 : g9 ≠ g6 := by have := below_lt B6.out; omega
            obtain ⟨a0, a1, a2⟩ := row3 BA.out
            obtain ⟨c0, c1, c2⟩ := row3 BC.out
            go_wp2_with (with_reducible refine wpList_pauseS ?_)
            rw [← hw9, ← hG9]
            clear hw9 hG9 a0 a1 a2 c0 c1 c2
            refine wpList_stL g6 0 [.int .i64 (at_ : Nat), .slice (some ⟨g9, 0, none⟩) 2 2, .int .i64 0] (heap_below B6.out hb9) rfl rfl (Nat.le_of_ble_eq_true rfl) (by kernel_rfl) rfl ?_
            intro wz hpz
            have GZ := Lib.hid (show wz.heap[g6]? = some (.cells #[.int .i64 (at_ : Nat), .slice (some ⟨g9, 0, none⟩) 2 2, .int .i64 0] 27) by rw [hpz]; exact putL_3r (heap_below B6.out hb9))
            have G5z := Lib.hid (putLx hpz (heap_below G5.out hb9) (Ne.symm ne6)); have GBz := Lib.hid (gb_row (gb_below GB.out hb9) (gb_putL hpz) (fun k hk _ => fun e => by cases e; omega))
            have G9z := Lib.hid (putLx hpz hg9 ng96)
            have KZ := keep6_trans (keep6_below hb9) (keep6_put hpz (heap_below B6.out hb9) (by simp)); have TAz := Lib.hid (TA.out.keep KZ); have TBz := Lib.hid (TB.out.keep KZ); clear KZ
            clear hpz hg9 hb9
            go_wp2_with (with_reducible first | refine pauseCall ?_ | refine pauseLoop ?_ | refine pauseDraw ?_ | refine pauseBody ?_ | refine pauseRounds ?_)
            refine ret_c2 rfl g6 #[.int .i64 (at_ : Nat), .slice (some ⟨g9, 0, none⟩) 2 2, .int .i64 0] rfl GZ.out Tryz.underlying27 rfl (by kernel_rfl) rfl ?_
            rw [(GT.out).1, (GT.out).2, show cnt + (1 + grN f d y nb + grN f d yb n) = cnB by omega]
            exact ⟨_, rfl, fun w2 h2 => trV_node (by rw [h2 g9 _ G9z.out rfl]; exact G9z.out) (TAz.out w2 h2) (TBz.out w2 h2) ⟨by omega, by omega⟩ ⟨by decide, by decide⟩, GBz.out, G5z.out⟩
end Go.Proofs.YthhgfhdmfhnklaaGreatDoor
/-
  proof.Make: a certificate of limited depth.
  Conditions: each theorem's own.
-/
namespace Go.Proofs.YthhgfhdmfhnklaaGreatDoor
open Go.RowKit Go.ChangeShapes Go.WideShapes

/-- the number of the error of Make -/
def mErr (f : Fm) (most : Int) : Nat := if fmErr f ≠ 0 then fmErr f else if most < 0 ∨ 24 < most then 3 else 0
/-- what Make gives -/
def mTr (f : Fm) (most : Int) : Tr := if mErr f most = 0 then grT f most.toNat 0 0 else .mk 0 [] 0
def RetMk (w : World) (t : Tr) (er : Nat) (e : Ending) (w' : World) : Prop := ∃ v, e = .returned (.tuple #[v, errV er]) ∧ Below w.heap.size w w' ∧ TrV w' v t
theorem grN_cap {f : Fm} (h : fmErr f = 0) (h8 : f.vars ≤ 8) (d : Nat) : grN f d 0 0 ≤ 511 := by
  have h1 := grN_small h d 0 0
  have h2 := opens_le 0 0 f.vars.toNat
  have h3 : 2 ^ (opens 0 0 f.vars.toNat + 1) ≤ 2 ^ 9 := Nat.pow_le_pow_right (by decide) (by omega)
  have e : 2 ^ 9 = 512 := by decide
  omega
set_option maxRecDepth 100000 in
set_option maxHeartbeats 8000000 in
theorem make_f (vf : Value) (f : Fm) (most : Int) (w : World) (hf : FmV w vf f) (hm : I64 most) (h8 : fmErr f = 0 → f.vars ≤ 8) :
    Calls Tryz.prog 14 #[vf, .int .i64 most] w (RetMk w (mTr f most) (mErr f most)) := by
  obtain ⟨nv, rfl, hn, hv, htp⟩ := hf
  obtain ⟨ao, c, rfl, hc, hc2, _⟩ := hn.shape
  have HF := Lib.hid (show FmV w _ f from ⟨_, rfl, hn, hv, htp⟩)
  unfold I64 at hm
  obtain ⟨W, hW⟩ : ∃ W, W = (w.alloc (.cells #[.int .i64 f.vars, .slice ao f.nodes.length c, .int .i64 f.top] 24)).alloc (.cells #[.int .i64 0, .slice none 0 0, .int .i64 0] 27) := ⟨_, rfl⟩
  have hbW : Below w.heap.size w W := by rw [hW]; exact ((Below.refl _ _).alloc (Nat.le_refl _) _).alloc (by simp) _
  have hg2 : W.heap[w.heap.size]? = some (.cells #[.int .i64 f.vars, .slice ao f.nodes.length c, .int .i64 f.top] 24) := by rw [hW]; exact heap_alloc2_old w _ _
  have hg4 : W.heap[w.heap.size + 1]? = some (.cells #[.int .i64 0, .slice none 0 0, .int .i64 0] 27) := by rw [hW]; exact heap_alloc2_new w _ _
  obtain ⟨g2, hG2⟩ : ∃ g, g = w.heap.size := ⟨_, rfl⟩
  obtain ⟨g4, hG4⟩ : ∃ g, g = w.heap.size + 1 := ⟨_, rfl⟩
  rw [← hG2] at hg2; rw [← hG4] at hg4
  have l4 : w.heap.size ≤ g4 := by omega
  have HBW := Lib.hid hbW; have G2 := Lib.hid hg2; have G4 := Lib.hid hg4; have H8 := Lib.hid h8
  obtain ⟨x0, x1, x2⟩ := row3 hg2
  rw [hW, hG2] at x0 x1 x2
  have HK := Lib.hid (fcheck_any _ f W (HF.out.below HBW.out))
  clear hbW hg2 hg4 hn hv htp h8
  go_enter Tryz.func14, Tryz.ntmps14
  go_wp2_with (with_reducible refine pauseCall ?_)
  rw [← hW, ← hG4, ← hG2]; clear hW hG2 hG4 x0 x1 x2
  refine Pause.mk ?_
  (with_reducible refine HK.out.mono ?_); rintro e w1 ⟨rfl, hb1⟩
  have HBc := Lib.hid (HBW.out.trans (hb1.mono HBW.out.size)); have G2 := Lib.hid (heap_below G2.out hb1); have G4 := Lib.hid (heap_below G4.out hb1)
  clear hb1 HK
  by_cases h0 : fmErr f ≠ 0
  · have R := Lib.hid (show mErr f most = fmErr f by unfold mErr; rw [if_pos h0])
    have RT := Lib.hid (show mTr f most = .mk 0 [] 0 by unfold mTr; rw [if_neg (by rw [R.out]; exact h0)])
    rw [errV_pos h0]
    go_wp2_with (with_reducible refine wpList_pauseS ?_)
    refine wpList_stL g4 0 [.int .i64 0, .slice none 0 0, .int .i64 0] G4.out rfl rfl (Nat.le_of_ble_eq_true rfl) (by kernel_rfl) rfl ?_
    intro wz hpz
    have GZ := Lib.hid (show wz.heap[g4]? = some (.cells #[.int .i64 0, .slice none 0 0, .int .i64 0] 27) by rw [hpz]; exact putL_3r G4.out)
    have HBZ := Lib.hid (putLb hpz HBc.out l4)
    clear hpz
    go_wp2_with (with_reducible first | refine pauseCall ?_ | refine pauseLoop ?_ | refine pauseDraw ?_ | refine pauseBody ?_ | refine pauseRounds ?_)
    refine ret_c2 rfl g4 #[.int .i64 0, .slice none 0 0, .int .i64 0] rfl GZ.out Tryz.underlying27 rfl (by kernel_rfl) rfl ?_
    exact ⟨_, by rw [R.out, errV_pos h0]; rfl, HBZ.out, by rw [RT.out]; exact TrV.leaf _ ⟨by decide, by decide⟩⟩
  have h0 : fmErr f = 0 := by omega
  have HFM := Lib.hid h0
  rw [h0, errV_zero]
  have E1 := Lib.hid (show mErr f most = if most < 0 ∨ 24 < most then 3 else 0 by unfold mErr; rw [if_neg (by rw [h0]; exact fun h => h rfl)])
  clear h0
  by_cases h1 : most < 0
  · have R := Lib.hid (E1.out.trans (if_pos (.inl h1)))
    have RT := Lib.hid (show mTr f most = .mk 0 [] 0 by unfold mTr; rw [if_neg (by rw [R.out]; decide)])
    go_wp2_with (with_reducible refine wpList_pauseS ?_)
    refine wpList_stL g4 0 [.int .i64 0, .slice none 0 0, .int .i64 0] G4.out rfl rfl (Nat.le_of_ble_eq_true rfl) (by kernel_rfl) rfl ?_
    intro wz hpz
    have GZ := Lib.hid (show wz.heap[g4]? = some (.cells #[.int .i64 0, .slice none 0 0, .int .i64 0] 27) by rw [hpz]; exact putL_3r G4.out)
    have HBZ := Lib.hid (putLb hpz HBc.out l4)
    clear hpz
    go_wp2_with (with_reducible first | refine pauseCall ?_ | refine pauseLoop ?_ | refine pauseDraw ?_ | refine pauseBody ?_ | refine pauseRounds ?_)
    refine ret_c2 rfl g4 #[.int .i64 0, .slice none 0 0, .int .i64 0] rfl GZ.out Tryz.underlying27 rfl (by kernel_rfl) rfl ?_
    exact ⟨_, by rw [R.out]; rfl, HBZ.out, by rw [RT.out]; exact TrV.leaf _ ⟨by decide, by decide⟩⟩
  by_cases h2 : 24 < most
  · have R := Lib.hid (E1.out.trans (if_pos (.inr h2)))
    have RT := Lib.hid (show mTr f most = .mk 0 [] 0 by unfold mTr; rw [if_neg (by rw [R.out]; decide)])
    go_wp2_with (with_reducible refine wpList_pauseS ?_)
    refine wpList_stL g4 0 [.int .i64 0, .slice none 0 0, .int .i64 0] G4.out rfl rfl (Nat.le_of_ble_eq_true rfl) (by kernel_rfl) rfl ?_
    intro wz hpz
    have GZ := Lib.hid (show wz.heap[g4]? = some (.cells #[.int .i64 0, .slice none 0 0, .int .i64 0] 27) by rw [hpz]; exact putL_3r G4.out)
    have HBZ := Lib.hid (putLb hpz HBc.out l4)
    clear hpz
    go_wp2_with (with_reducible first | refine pauseCall ?_ | refine pauseLoop ?_ | refine pauseDraw ?_ | refine pauseBody ?_ | refine pauseRounds ?_)
    refine ret_c2 rfl g4 #[.int .i64 0, .slice none 0 0, .int .i64 0] rfl GZ.out Tryz.underlying27 rfl (by kernel_rfl) rfl ?_
    exact ⟨_, by rw [R.out]; rfl, HBZ.out, by rw [RT.out]; exact TrV.leaf _ ⟨by decide, by decide⟩⟩
  have R := Lib.hid (E1.out.trans (if_neg (by omega)))
  have RT := Lib.hid (show mTr f most = grT f most.toNat 0 0 by unfold mTr; rw [if_pos R.out])
  obtain ⟨M, rfl⟩ : ∃ M : Nat, most = M := ⟨most.toNat, by omega⟩
  rw [Int.toNat_natCast] at RT
  clear E1
  obtain ⟨w4, hw4⟩ : ∃ w4, w4 = w1.alloc (.cells #[.int .i64 f.vars, .slice ao f.nodes.length c, .int .i64 f.top, .int .i64 (M : Nat), .int .i64 0] 99) := ⟨_, rfl⟩
  have hb4 : Below w1.heap.size w1 w4 := by rw [hw4]; exact (Below.refl _ _).alloc (Nat.le_refl _) _
  have hg7 : w4.heap[w1.heap.size]? = some (.cells #[.int .i64 f.vars, .slice ao f.nodes.length c, .int .i64 f.top, .int .i64 (M : Nat), .int .i64 0] 99) := by rw [hw4]; exact heap_alloc_new w1 _
  obtain ⟨g7, hG7⟩ : ∃ g, g = w1.heap.size := ⟨_, rfl⟩
  rw [← hG7] at hg7
  have ne47 : g4 ≠ g7 := by have := below_lt G4.out; omega
  have l7 : w.heap.size ≤ g7 := by have := HBc.out.size; omega
  have HB4 := Lib.hid (HBc.out.trans (hb4.mono HBc.out.size)); have G4 := Lib.hid (heap_below G4.out hb4)
  have hk := grow_any f HFM.out ao c M (by omega) w HF.out M 0 0 0 0 g7 w4 HB4.out l7 hg7 (by omega) (okC_zero _) (by have := grN_cap HFM.out (H8.out HFM.out) M; omega)
  rw [show ((0 : Nat) : Int) = 0 from rfl] at hk
  have HK := Lib.hid hk
  obtain ⟨x0, x1, x2⟩ := row3 G2.out
  clear hb4 hg7 hk
  go_wp2_with (with_reducible refine pauseCall ?_)
  rw [← hw4, ← hG7]; clear hw4 hG7 x0 x1 x2
  refine Pause.mk ?_
  (with_reducible refine HK.out.mono ?_); rintro e w5 ⟨va, rfl, hta, gb5, hg5⟩
  obtain ⟨av, ar, aa, an, ac, rfl⟩ := hta.tr.shape
  have HB5 := Lib.hid (gb_low HB4.out gb5 HB4.out.size l7); have G4 := Lib.hid (gb_heap gb5 G4.out ne47)
  obtain ⟨wa, hwa⟩ : ∃ wa, wa = w5.alloc (.cells #[.int .i64 0, .slice none 0 0, .int .i64 0] 27) := ⟨_, rfl⟩
  have hba : Below w5.heap.size w5 wa := by rw [hwa]; exact (Below.refl _ _).alloc (Nat.le_refl _) _
  have hga : wa.heap[w5.heap.size]? = some (.cells #[.int .i64 0, .slice none 0 0, .int .i64 0] 27) := by rw [hwa]; exact heap_alloc_new w5 _
  obtain ⟨g8, hG8⟩ : ∃ g, g = w5.heap.size := ⟨_, rfl⟩
  rw [← hG8] at hga
  have ne48 : g4 ≠ g8 := by have := below_lt G4.out; omega
  have l8 : w.heap.size ≤ g8 := by have := HB5.out.size; omega
  have HTA := Lib.hid (hta.keep (keep6_below hba)); have GA := Lib.hid hga
  have HBa := Lib.hid (HB5.out.trans (hba.mono HB5.out.size)); have G4 := Lib.hid (heap_below G4.out hba)
  clear gb5 hg5 hta hba hga HK
  go_wp2_with (with_reducible refine wpList_pauseS ?_)
  rw [← hwa, ← hG8]; clear hwa hG8
  refine wpList_stL g8 0 [.int .i64 av, .slice aa an ac, .int .i64 ar] GA.out rfl rfl (Nat.le_of_ble_eq_true rfl) (by kernel_rfl) rfl ?_
  intro w6 hp6
  have G8 := Lib.hid (show w6.heap[g8]? = some (.cells #[.int .i64 av, .slice aa an ac, .int .i64 ar] 27) by rw [hp6]; exact putL_3r GA.out)
  have HB6 := Lib.hid (putLb hp6 HBa.out l8); have G46 := Lib.hid (putLx hp6 G4.out ne48); have HT6 := Lib.hid (HTA.out.keep (keep6_put hp6 GA.out (by simp)))
  clear hp6
  obtain ⟨a0, a1, a2⟩ := row3 G8.out
  go_wp2_with (with_reducible refine wpList_pauseS ?_)
  refine wpList_stL g4 0 [.int .i64 av, .slice aa an ac, .int .i64 ar] G46.out rfl rfl (Nat.le_of_ble_eq_true rfl) (by kernel_rfl) rfl ?_
  intro wz hpz
  have GZ := Lib.hid (show wz.heap[g4]? = some (.cells #[.int .i64 av, .slice aa an ac, .int .i64 ar] 27) by rw [hpz]; exact putL_3r G46.out)
  have HBZ := Lib.hid (putLb hpz HB6.out l4); have HTZ := Lib.hid (HT6.out.keep (keep6_put hpz G46.out (by simp)))
  clear hpz a0 a1 a2
  go_wp2_with (with_reducible first | refine pauseCall ?_ | refine pauseLoop ?_ | refine pauseDraw ?_ | refine pauseBody ?_ | refine pauseRounds ?_)
  refine ret_c2 rfl g4 #[.int .i64 av, .slice aa an ac, .int .i64 ar] rfl GZ.out Tryz.underlying27 rfl (by kernel_rfl) rfl ?_
  exact ⟨_, by rw [R.out]; rfl, HBZ.out, by rw [RT.out]; exact HTZ.out.tr⟩
end Go.Proofs.YthhgfhdmfhnklaaGreatDoor
/-
  DERIVED: THE SHELF's CONTRACTS AT THIS DUMP, IN PLAIN WORDS (tools/lay-plain.mjs out of 'TryzShelfPick.lean', which tools/lay-shelf.mjs wrote): THE SAME DECLARATIONS UNDER THE SAME NAMES: 'import', 'namespace', 'open', 'def', 'theorem' AND NOTHING ELSE: no command of the shelf's: FOR A HAND-IN. Each laying: the table of numbers ('.._ren') and one theorem, a field a fact of the dump's own or the kernel's comparison; each contract: ONE APPLICATION.
-/
namespace Go.Proofs
open Go.Shelf
def TryzT.lays169_ren : Go.Shelf.Ren := ⟨fun | 169 => 72 | n => n, fun | 70 => 126 | 9 => 9 | 0 => 0 | 72 => 129 | 37 => 127 | 127 => 165 | 3 => 3 | 5 => 5 | n => n, fun | n => n⟩
theorem TryzT.lays169 : Go.Proofs.Lays.n169 Tryz.prog TryzT.lays169_ren := {
  mixed := by kernel_rfl
  f169 := Tryz.func72.trans (congrArg some (by kernel_rfl))
  t0 := Tryz.underlying0
  a0 := Tryz.isAgg0
  z0 := Tryz.sizeOf0
  v0 := Tryz.zeroValue0
  t3 := Tryz.underlying3
  a3 := Tryz.isAgg3
  z3 := Tryz.sizeOf3
  v3 := Tryz.zeroValue3
  t9 := Tryz.underlying9
  a9 := Tryz.isAgg9
  z9 := Tryz.sizeOf9
  v9 := Tryz.zeroValue9
  t37 := Tryz.underlying127
  a37 := Tryz.isAgg127
  z37 := Tryz.sizeOf127
  v37 := Tryz.zeroValue127
  t70 := Tryz.underlying126
  a70 := Tryz.isAgg126
  z70 := Tryz.sizeOf126
  v70 := Tryz.zeroValue126
  t72 := Tryz.underlying129
  a72 := Tryz.isAgg129
  z72 := Tryz.sizeOf129
  v72 := Tryz.zeroValue129
  t127 := Tryz.underlying165
  a127 := Tryz.isAgg165
  z127 := Tryz.sizeOf165
  v127 := Tryz.zeroValue165 }
theorem TryzT.Builder_Extra_169 : Builder.Extra Tryz.prog TryzT.lays169_ren := {
  sizeBuilder := by kernel_rfl
  liesBuilder := by kernel_rfl
  t5 := Tryz.underlying5
  a5 := Tryz.isAgg5
  z5 := Tryz.sizeOf5
  v5 := Tryz.zeroValue5
  infoByte := by kernel_rfl
  cellsByte := by kernel_rfl
  sizeByte := by kernel_rfl
  neB5 := by decide }
def TryzT.lays171_ren : Go.Shelf.Ren := ⟨fun | 171 => 110 | 243 => 143 | 246 => 164 | 283 => 168 | 284 => 169 | 285 => 170 | 286 => 171 | 129 => 175 | 317 => 174 | 318 => 176 | 319 => 177 | 320 => 178 | 337 => 183 | 338 => 184 | n => n, fun | 3 => 3 | 9 => 9 | 2 => 2 | 4 => 4 | 171 => 213 | 0 => 0 | 53 => 185 | 37 => 127 | 5 => 5 | 173 => 216 | 212 => 221 | 51 => 156 | 20 => 20 | 213 => 222 | 46 => 186 | 232 => 231 | 233 => 232 | n => n, fun | 17 => 0 | 18 => 4 | 19 => 5 | n => n⟩
theorem TryzT.lays171 : Go.Proofs.Lays.n171 Tryz.prog TryzT.lays171_ren := {
  mixed := by kernel_rfl
  f129 := Tryz.func175.trans (congrArg some (by kernel_rfl))
  f171 := Tryz.func110.trans (congrArg some (by kernel_rfl))
  f243 := Tryz.func143.trans (congrArg some (by kernel_rfl))
  f246 := Tryz.func164.trans (congrArg some (by kernel_rfl))
  f283 := Tryz.func168.trans (congrArg some (by kernel_rfl))
  f284 := Tryz.func169.trans (congrArg some (by kernel_rfl))
  f285 := Tryz.func170.trans (congrArg some (by kernel_rfl))
  f286 := Tryz.func171.trans (congrArg some (by kernel_rfl))
  f317 := Tryz.func174.trans (congrArg some (by kernel_rfl))
  f318 := Tryz.func176.trans (congrArg some (by kernel_rfl))
  f319 := Tryz.func177.trans (congrArg some (by kernel_rfl))
  f320 := Tryz.func178.trans (congrArg some (by kernel_rfl))
  f337 := Tryz.func183.trans (congrArg some (by kernel_rfl))
  f338 := Tryz.func184.trans (congrArg some (by kernel_rfl))
  t0 := Tryz.underlying0
  a0 := Tryz.isAgg0
  z0 := Tryz.sizeOf0
  v0 := Tryz.zeroValue0
  t2 := Tryz.underlying2
  a2 := Tryz.isAgg2
  z2 := Tryz.sizeOf2
  v2 := Tryz.zeroValue2
  t3 := Tryz.underlying3
  a3 := Tryz.isAgg3
  z3 := Tryz.sizeOf3
  v3 := Tryz.zeroValue3
  t4 := Tryz.underlying4
  a4 := Tryz.isAgg4
  z4 := Tryz.sizeOf4
  v4 := Tryz.zeroValue4
  t5 := Tryz.underlying5
  a5 := Tryz.isAgg5
  z5 := Tryz.sizeOf5
  v5 := Tryz.zeroValue5
  t9 := Tryz.underlying9
  a9 := Tryz.isAgg9
  z9 := Tryz.sizeOf9
  v9 := Tryz.zeroValue9
  t20 := Tryz.underlying20
  a20 := Tryz.isAgg20
  z20 := Tryz.sizeOf20
  v20 := Tryz.zeroValue20
  t37 := Tryz.underlying127
  a37 := Tryz.isAgg127
  z37 := Tryz.sizeOf127
  v37 := Tryz.zeroValue127
  t46 := Tryz.underlying186
  a46 := Tryz.isAgg186
  z46 := Tryz.sizeOf186
  v46 := Tryz.zeroValue186
  t51 := Tryz.underlying156
  a51 := Tryz.isAgg156
  z51 := Tryz.sizeOf156
  v51 := Tryz.zeroValue156
  t53 := Tryz.underlying185
  a53 := Tryz.isAgg185
  z53 := Tryz.sizeOf185
  v53 := Tryz.zeroValue185
  t171 := Tryz.underlying213
  a171 := Tryz.isAgg213
  z171 := Tryz.sizeOf213
  v171 := Tryz.zeroValue213
  t173 := Tryz.underlying216
  a173 := Tryz.isAgg216
  z173 := Tryz.sizeOf216
  v173 := Tryz.zeroValue216
  t212 := Tryz.underlying221
  a212 := Tryz.isAgg221
  z212 := Tryz.sizeOf221
  v212 := Tryz.zeroValue221
  t213 := Tryz.underlying222
  a213 := Tryz.isAgg222
  z213 := Tryz.sizeOf222
  t232 := Tryz.underlying231
  a232 := Tryz.isAgg231
  z232 := Tryz.sizeOf231
  v232 := Tryz.zeroValue231
  t233 := Tryz.underlying232
  a233 := Tryz.isAgg232
  z233 := Tryz.sizeOf232
  v233 := Tryz.zeroValue232
  g17 := by kernel_rfl
  g18 := by kernel_rfl
  g19 := by kernel_rfl }
open Go.RowKit Go.Sort Go.Lib in
/-- THE ROAD WITHOUT THE TABLE: 0 <= i < 100: NO PREMISE ON THE WORLD, AND THE WORLD IS AS IT WAS: a row that keeps its argument in that range need list no table ('laid = []'). (LAID: no walk: one application.) -/
theorem TryzT.strconv_Itoa_small (i : Nat) (hi : i < 100) (w : World) :
    Calls Tryz.prog 110 #[.int .i64 i] w fun e w' => e = .returned (.string ⟨(Lib.decDigits i).toArray⟩) ∧ w' = w := Any.strconv_Itoa_small TryzT.lays171 i hi w
end Go.Proofs
/-
  split.write and Text: the text of a tree.
  Conditions: each theorem's own.
-/
namespace Go.Proofs.YthhgfhdmfhnklaaGreatDoor
open Go.RowKit Go.ChangeShapes Go.WideShapes

/-- blocks but one, and but the rows of bytes, are as they were -/
def KeepB (b : Nat) (w w' : World) : Prop := ∀ k cs T, k ≠ b → w.heap[k]? = some (.cells cs T) → T ≠ 5 → w'.heap[k]? = some (.cells cs T)
theorem keepB_trans {b : Nat} {x y z : World} (h : KeepB b x y) (k : KeepB b y z) : KeepB b x z := fun i cs T hi hc hT => k i cs T hi (h i cs T hi hc hT) hT
theorem keepB_below {b : Nat} {x y : World} (h : Below x.heap.size x y) : KeepB b x y := fun _ _ _ _ hc _ => heap_below hc h
set_option maxRecDepth 100000 in
set_option maxHeartbeats 2000000 in
theorem writeString_k (B b : Nat) (bs : List Value) (s : ByteArray) (w : World) (h : Lib.IsBuilder 129 5 B b bs w) (hlen : bs.length + s.size ≤ 140737488355328) (hBw : B ≤ w.heap.size) :
    Calls Tryz.prog 109 #[.pointer (some ⟨b, 0, none⟩), .string s] w fun e w' => e = .returned (.tuple #[.int .i64 s.size, .nilIface]) ∧ (Lib.IsBuilder 129 5 B b (bs ++ Lib.strCells s) w' ∧ Below B w w' ∧ KeepB b w w') := by
  obtain ⟨i0, hi, hz0, hz1, hz2⟩ := info_parts Tryz.infoByte
  have hcc : Calls Tryz.prog 142 #[.pointer (some ⟨b, 0, none⟩)] w fun e w' => e = .returned (.tuple #[]) ∧ (Lib.BuilderAt 129 5 B b (.pointer (some ⟨b, 0, none⟩)) bs w' ∧ Below B w w' ∧ KeepB b w w') := by
    rcases h with h | h
    · refine (copyCheck_fresh b w h.cell0 h.shape h.frozen0).mono ?_
      rintro e w' ⟨rfl, rfl⟩
      exact ⟨rfl, h.used _, (Below.refl B w).setCell (p := ⟨b, 0, none⟩) h.1 _, fun k cs T hk hc _ => by rw [Below.heap_setCell _ _ _ _ hk]; exact hc⟩
    · refine (copyCheck_used b w h.cell0).mono ?_
      rintro e w' ⟨rfl, rfl⟩
      exact ⟨rfl, h, Below.refl B _, fun k cs T _ hc _ => hc⟩
  go_enter Tryz.func109, Tryz.ntmps109
  go_wp2_with fail
  (with_reducible refine hcc.mono ?_)
  rintro e w1 ⟨rfl, h1, hb1, hk1⟩
  obtain ⟨hB, v, hbk, hown, hne⟩ := h1
  have c0 : w1.cell? ⟨b, 0, none⟩ = some (.pointer (some ⟨b, 0, none⟩)) := by rw [Lib.cell_of_heap hbk]; rfl
  have c1 : w1.cell? ⟨b, 1, none⟩ = some v := by rw [Lib.cell_of_heap hbk]; rfl
  go_wp2_with (at_builtin; refine Lib.wpList_append_own_string _ rfl _ _ 127 9 rfl B 5 i0 Tryz.underlying127 Tryz.underlying9 hi hz0 hz1 hz2 _ _ _ rfl hown s rfl ?c3 ?c4 ?c5 ?_)
  case c3 => unfold maxLen; omega
  case c4 => omega
  case c5 => have := hb1.size; omega
  intro v' w2 hown' hgrow _
  have hlt : b < w1.heap.size := (Array.getElem?_eq_some_iff.1 hbk).1
  have hb2 : w2.heap[b]? = some (.cells #[.pointer (some ⟨b, 0, none⟩), v] 129 (0, 0)) := by
    rw [hgrow.block b hlt (fun e => hne e.symm)]
    exact hbk
  have hk2 : KeepB b w1 w2 := fun k cs T hk hc hT => by
    rw [hgrow.block k (Array.getElem?_eq_some_iff.1 hc).1 (fun e => ?_)]
    · exact hc
    · rcases hown.2 with ⟨hv, _⟩ | ⟨g, cap, cur, hv, _, hh, _⟩
      · rw [hv] at e; cases e
      · rw [hv] at e
        simp only [Value.ownBlock, Option.some.injEq] at e
        subst e
        rw [hc] at hh; cases hh; exact hT rfl
  have d0 : w2.cell? ⟨b, 0, none⟩ = some (.pointer (some ⟨b, 0, none⟩)) := by rw [Lib.cell_of_heap hb2]; rfl
  have d1 : w2.cell? ⟨b, 1, none⟩ = some v := by rw [Lib.cell_of_heap hb2]; rfl
  have f1 : w2.frozen? ⟨b, 1, none⟩ = false := Lib.frozen_of_heap hb2 1
  obtain ⟨ao, n', cap, rfl⟩ : ∃ ao n' cap, v' = .slice ao n' cap := by
    rcases hown'.2 with ⟨hv, _⟩ | ⟨g, cap, cur, hv, _⟩
    · exact ⟨_, _, _, hv⟩
    · exact ⟨_, _, _, hv⟩
  go_wp2
  go_ret2
  refine ⟨rfl, ?_, ?_, ?_⟩
  · exact .inr (Lib.BuilderAt.put (T := 129) (e := 5) hB hb2 (bs' := bs ++ Lib.strCells s) (by simpa [Lib.strCells_length] using hown') (by decide))
  · exact (hb1.grown hgrow (by have := hb1.size; omega) (fun k hk => (hown.lt k hk).1)).setCell (p := ⟨b, 1, none⟩) hB _
  · exact keepB_trans hk1 (keepB_trans hk2 (fun k cs T hk hc _ => by rw [Below.heap_setCell _ _ _ _ hk]; exact hc))

theorem isB_below {T e : TypeId} {B b : Nat} {bs : List Value} {w w' : World} (h : Lib.IsBuilder T e B b bs w) (hb : Below w.heap.size w w') : Lib.IsBuilder T e B b bs w' := by
  rcases h with ⟨h1, v, h2, h3, h4⟩ | ⟨h1, v, h2, h3, h4⟩
  · exact .inl ⟨h1, v, heap_below h2 hb, own_below h3 hb, h4⟩
  · exact .inr ⟨h1, v, heap_below h2 hb, own_below h3 hb, h4⟩
/-- a small number's text -/
def dgs (i : Int) : List UInt8 := Lib.decDigits i.toNat
/-- a tree's text -/
def trText : Tr → List UInt8
  | .mk v [a, b] _ => [91] ++ dgs v ++ [32] ++ (trText a ++ ([32] ++ (trText b ++ [93])))
  | .mk _ _ r => dgs r
/-- a tree with small reasons -/
def trRs : Tr → Prop
  | .mk _ [a, b] _ => trRs a ∧ trRs b
  | .mk _ _ r => 0 ≤ r ∧ r < 100
theorem bcell_app (l : List UInt8) (s : ByteArray) : Lib.byteCells l ++ Lib.strCells s = Lib.byteCells (l ++ s.data.toList) := by
  simp [Lib.byteCells, Lib.strCells]
set_option maxRecDepth 100000 in
set_option maxHeartbeats 8000000 in
theorem write_any (V : Nat) (hV : V ≤ 24) : ∀ (N : Nat) (t : Tr), SizeOf.sizeOf t < N → ∀ (x : Value) (l : List UInt8) (B b above : Nat) (w0 w : World), TrV w0 x t → Below w0.heap.size w0 w → w0.heap.size ≤ B → B ≤ w.heap.size → trOK V t above → trRs t →
    Lib.IsBuilder 129 5 B b (Lib.byteCells l) w → l.length + (trText t).length ≤ 1000000 →
    Calls Tryz.prog 71 #[.pointer (some ⟨b, 0, none⟩), x] w fun e w' => e = .returned (.tuple #[]) ∧ Lib.IsBuilder 129 5 B b (Lib.byteCells (l ++ trText t)) w' ∧ Below B w w' ∧ KeepB b w w'
  | 0, _, h, _, _, _, _, _, _, _, _, _, _, _, _, _, _, _ => by omega
  | N + 1, .mk v0 [] r, hN, x, l, B, b, above, w0, w, ht, hb0, hB0, hBw, hok, hrs, hbl, hlen => by
    obtain ⟨ao, c, rfl, hks, hc1, hc2, hv, hr⟩ := ht.open
    simp only [List.length_nil, trText] at hks hc1 hlen ⊢
    simp only [trRs] at hrs
    obtain ⟨w1, hw1⟩ : ∃ w1, w1 = w.alloc (.cells #[.int .i64 v0, .slice ao 0 c, .int .i64 r] 27) := ⟨_, rfl⟩
    have hb1 : Below w.heap.size w w1 := by rw [hw1]; exact (Below.refl _ _).alloc (Nat.le_refl _) _
    have hbl1 : Lib.IsBuilder 129 5 B b (Lib.byteCells l) w1 := isB_below hbl hb1
    obtain ⟨R, rfl⟩ : ∃ R : Nat, r = R := ⟨r.toNat, by omega⟩
    have HI := Lib.hid (fun wx => TryzT.strconv_Itoa_small R (by omega) wx)
    obtain ⟨S, hS⟩ : ∃ S, S = (⟨(Lib.decDigits R).toArray⟩ : ByteArray) := ⟨_, rfl⟩
    rw [← hS] at HI
    have hSd : S.data.toList = dgs (R : Int) := by rw [hS]; simp [dgs]
    have hSs : S.size = (dgs (R : Int)).length := by rw [hS]; simp [dgs, ByteArray.size]
    have HW := Lib.hid (writeString_k B b (Lib.byteCells l) S w1 hbl1 (by rw [hSs]; simp [Lib.byteCells]; omega) (Nat.le_trans hBw hb1.size))
    rw [bcell_app, hSd] at HW
    have HB1 := Lib.hid hb1
    clear hS hSd hSs hbl1 hbl hb1 hks ht
    go_enter Tryz.func71, Tryz.ntmps71
    go_wp2_with (with_reducible refine pauseCall ?_)
    rw [← hw1]; clear hw1
    refine Pause.mk ?_
    (with_reducible refine (HI.out _).mono ?_); rintro e wx ⟨rfl, rfl⟩
    go_wp2_with (with_reducible refine pauseCall ?_)
    refine Pause.mk ?_
    (with_reducible refine HW.out.mono ?_); rintro e w2 ⟨rfl, hbl2, hb2, hk2⟩
    go_wp2_with fail
    (try simp only [Exit.inBlock, Exit.then]); refine bodyPost_ret (results_none rfl _ _ _) rfl ?_
    exact ⟨rfl, hbl2, (HB1.out.mono hBw).trans hb2, keepB_trans (keepB_below HB1.out) hk2⟩
  | N + 1, .mk v0 [ta, tb] r, hN, x, l, B, b, above, w0, w, ht, hb0, hB0, hBw, hok, hrs, hbl, hlen => by
    simp only [trOK] at hok
    obtain ⟨q0, q1, q2, rfl, hoa, hob⟩ := hok
    obtain ⟨vn, rfl⟩ : ∃ vn : Nat, v0 = vn := ⟨v0.toNat, by omega⟩
    have hvn : vn < V := by omega
    simp only [trRs] at hrs
    obtain ⟨hra, hrb⟩ := hrs
    obtain ⟨ao, c, rfl, hks, hc1, hc2, _, _⟩ := ht.open
    simp only [List.length_cons, List.length_nil] at hks hc1 ⊢
    obtain ⟨bk, ok, rfl, hbk, hjk, hat⟩ := hks.at (by decide); clear hjk hks ht
    obtain ⟨kva, kra, kaa, kna, kca, ca0, ca1, ca2, hTVa⟩ := (hat 0 ta rfl).val
    obtain ⟨kvb, krb, kab, knb, kcb, cb0, cb1, cb2, hTVb⟩ := (hat 1 tb rfl).val
    simp only [Nat.zero_mul, Nat.add_zero, Nat.one_mul] at ca0 ca1 ca2 cb0 cb1 cb2
    have hsa : SizeOf.sizeOf ta < N := by have := sizeOf_kid (v := (vn : Int)) (r := 0) (ks := [ta, tb]) (k := ta) (by simp); omega
    have hsb : SizeOf.sizeOf tb < N := by have := sizeOf_kid (v := (vn : Int)) (r := 0) (ks := [ta, tb]) (k := tb) (by simp); omega
    have KA := Lib.hid (And.intro ca0 (And.intro ca1 ca2)); have KB := Lib.hid (And.intro cb0 (And.intro cb1 cb2))
    have HTA := Lib.hid hTVa; have HTB := Lib.hid hTVb; have HSA := Lib.hid hsa; have HSB := Lib.hid hsb; have HOA := Lib.hid hoa; have HOB := Lib.hid hob; have HRA := Lib.hid hra; have HRB := Lib.hid hrb
    clear ca0 ca1 ca2 cb0 cb1 cb2 hat hTVa hTVb hsa hsb hoa hob q0 q1 q2 hra hrb
    simp only [trText, List.length_append, List.length_cons, List.length_nil] at hlen
    obtain ⟨w1, hw1⟩ : ∃ w1, w1 = w.alloc (.cells #[.int .i64 (vn : Nat), .slice (some ⟨bk, ok, none⟩) 2 c, .int .i64 0] 27) := ⟨_, rfl⟩
    have hb1 : Below w.heap.size w w1 := by rw [hw1]; exact (Below.refl _ _).alloc (Nat.le_refl _) _
    have hg1 : w1.heap[w.heap.size]? = some (.cells #[.int .i64 (vn : Nat), .slice (some ⟨bk, ok, none⟩) 2 c, .int .i64 0] 27) := by rw [hw1]; exact heap_alloc_new w _
    have hbl1 : Lib.IsBuilder 129 5 B b (Lib.byteCells l) w1 := isB_below hbl hb1
    have hbne : w.heap.size ≠ b := by
      have : b < w.heap.size := by rcases hbl with h | h <;> (obtain ⟨_, _, h2, _⟩ := h; exact (Array.getElem?_eq_some_iff.1 h2).1)
      omega
    obtain ⟨g1, hG1⟩ : ∃ g, g = w.heap.size := ⟨_, rfl⟩
    rw [← hG1] at hg1 hbne
    have HI := Lib.hid (fun wx => TryzT.strconv_Itoa_small vn (by omega) wx)
    obtain ⟨S, hS⟩ : ∃ S, S = (⟨(Lib.decDigits vn).toArray⟩ : ByteArray) := ⟨_, rfl⟩
    rw [← hS] at HI
    obtain ⟨S2, hS2⟩ : ∃ S2, S2 = (⟨#[91]⟩ : ByteArray) ++ S ++ ⟨#[32]⟩ := ⟨_, rfl⟩
    have hSd : S2.data.toList = [91] ++ dgs (vn : Int) ++ [32] := by rw [hS2, hS]; simp [dgs]
    have hSl : S.size = (dgs (vn : Int)).length := by rw [hS]; simp [dgs, ByteArray.size]
    have hSs : S2.size = (dgs (vn : Int)).length + 2 := by rw [hS2, ByteArray.size_append, ByteArray.size_append, hSl]; have e1 : (⟨#[91]⟩ : ByteArray).size = 1 := rfl; have e2 : (⟨#[32]⟩ : ByteArray).size = 1 := rfl; omega
    have HW := Lib.hid (writeString_k B b (Lib.byteCells l) S2 w1 hbl1 (by rw [hSs]; simp [Lib.byteCells]; omega) (Nat.le_trans hBw hb1.size))
    rw [bcell_app, hSd] at HW
    have HB1 := Lib.hid hb1; have G1 := Lib.hid hg1; have HS2 := Lib.hid hS2
    have hlS : S.size ≤ 1000000 := by omega
    have e91 : (⟨#[91]⟩ : ByteArray).size = 1 := rfl
    have e32 : (⟨#[32]⟩ : ByteArray).size = 1 := rfl
    have hlS1 : ((⟨#[91]⟩ : ByteArray) ++ S).size ≤ 1000001 := by rw [ByteArray.size_append]; omega
    obtain ⟨x0, x1, x2⟩ := row3 hg1
    rw [hw1, hG1] at x0 x1 x2
    clear hS hS2 hSd hSs hSl hbl1 hbl hb1 hg1
    go_enter Tryz.func71, Tryz.ntmps71
    go_wp2_with (with_reducible refine pauseCall ?_)
    rw [← hw1, ← hG1]; clear hw1 hG1 x0 x1 x2
    refine Pause.mk ?_
    (with_reducible refine (HI.out _).mono ?_); rintro e wx ⟨rfl, rfl⟩
    go_wp2_with (with_reducible refine pauseCall ?_)
    refine Pause.mk ?_
    rw [← HS2.out]
    (with_reducible refine HW.out.mono ?_); rintro e w2 ⟨rfl, hbl2, hb2, hk2⟩
    have SZ := Lib.hid (Nat.le_trans (Nat.le_trans hBw HB1.out.size) hb2.size); have BT := Lib.hid ((HB1.out.mono hBw).trans hb2); have B0 := Lib.hid ((hb0.trans (HB1.out.mono hb0.size)).trans (hb2.mono hB0)); have KP := Lib.hid (keepB_trans (keepB_below HB1.out) hk2); have BL := Lib.hid hbl2
    have G1 := Lib.hid (hk2 g1 _ _ hbne G1.out (by decide))
    clear HW hbl2 hb2 hk2 HB1 HS2 HI hb0
    obtain ⟨x0, x1, x2⟩ := row3 G1.out
    have k0 := (B0.out.cell (p := ⟨bk, _, none⟩) hbk).trans KA.out.1; have k1 := (B0.out.cell (p := ⟨bk, _, none⟩) hbk).trans KA.out.2.1; have k2 := (B0.out.cell (p := ⟨bk, _, none⟩) hbk).trans KA.out.2.2
    have hbkl : bk < w2.heap.size := Nat.lt_of_lt_of_le hbk B0.out.size
    have HW := Lib.hid (write_any V hV N ta HSA.out _ _ B b _ w0 w2 HTA.out B0.out hB0 SZ.out HOA.out HRA.out BL.out (by simp only [List.length_append, List.length_cons, List.length_nil]; omega))
    go_wp2_with (with_reducible refine pauseCall ?_)
    clear x0 x1 x2 k0 k1 k2 hbkl
    refine Pause.mk ?_
    (with_reducible refine HW.out.mono ?_); rintro e w3 ⟨rfl, hbl3, hb3, hk3⟩
    have SZ := Lib.hid (Nat.le_trans SZ.out hb3.size); have BT := Lib.hid (BT.out.trans hb3); have B0 := Lib.hid (B0.out.trans (hb3.mono hB0)); have KP := Lib.hid (keepB_trans KP.out hk3); have BL := Lib.hid hbl3
    have G1 := Lib.hid (hk3 g1 _ _ hbne G1.out (by decide))
    clear HW hbl3 hb3 hk3
    have HW := Lib.hid (writeString_k B b _ (⟨#[32]⟩ : ByteArray) w3 BL.out (by simp only [Lib.byteCells, List.length_map, List.length_append, List.length_cons, List.length_nil]; have e1 : (⟨#[32]⟩ : ByteArray).size = 1 := rfl; omega) SZ.out)
    rw [bcell_app, show (⟨#[32]⟩ : ByteArray).data.toList = [32] from rfl] at HW
    go_wp2_with (with_reducible refine pauseCall ?_)
    refine Pause.mk ?_
    (with_reducible refine HW.out.mono ?_); rintro e w4 ⟨rfl, hbl4, hb4, hk4⟩
    have SZ := Lib.hid (Nat.le_trans SZ.out hb4.size); have BT := Lib.hid (BT.out.trans hb4); have B0 := Lib.hid (B0.out.trans (hb4.mono hB0)); have KP := Lib.hid (keepB_trans KP.out hk4); have BL := Lib.hid hbl4
    have G1 := Lib.hid (hk4 g1 _ _ hbne G1.out (by decide))
    clear HW hbl4 hb4 hk4
    obtain ⟨x0, x1, x2⟩ := row3 G1.out
    have k0 := (B0.out.cell (p := ⟨bk, _, none⟩) hbk).trans KB.out.1; have k1 := (B0.out.cell (p := ⟨bk, _, none⟩) hbk).trans KB.out.2.1; have k2 := (B0.out.cell (p := ⟨bk, _, none⟩) hbk).trans KB.out.2.2
    have hbkl : bk < w4.heap.size := Nat.lt_of_lt_of_le hbk B0.out.size
    have HW := Lib.hid (write_any V hV N tb HSB.out _ _ B b _ w0 w4 HTB.out B0.out hB0 SZ.out HOB.out HRB.out BL.out (by simp only [List.length_append, List.length_cons, List.length_nil]; omega))
    go_wp2_with (with_reducible refine pauseCall ?_)
    clear x0 x1 x2 k0 k1 k2 hbkl
    refine Pause.mk ?_
    (with_reducible refine HW.out.mono ?_); rintro e w5 ⟨rfl, hbl5, hb5, hk5⟩
    have SZ := Lib.hid (Nat.le_trans SZ.out hb5.size); have BT := Lib.hid (BT.out.trans hb5); have B0 := Lib.hid (B0.out.trans (hb5.mono hB0)); have KP := Lib.hid (keepB_trans KP.out hk5); have BL := Lib.hid hbl5
    have G1 := Lib.hid (hk5 g1 _ _ hbne G1.out (by decide))
    clear HW hbl5 hb5 hk5
    have HW := Lib.hid (writeString_k B b _ (⟨#[93]⟩ : ByteArray) w5 BL.out (by simp only [Lib.byteCells, List.length_map, List.length_append, List.length_cons, List.length_nil]; have e1 : (⟨#[93]⟩ : ByteArray).size = 1 := rfl; omega) SZ.out)
    rw [bcell_app, show (⟨#[93]⟩ : ByteArray).data.toList = [93] from rfl] at HW
    go_wp2_with (with_reducible refine pauseCall ?_)
    refine Pause.mk ?_
    (with_reducible refine HW.out.mono ?_); rintro e w6 ⟨rfl, hbl6, hb6, hk6⟩
    have SZ := Lib.hid (Nat.le_trans SZ.out hb6.size); have BT := Lib.hid (BT.out.trans hb6); have B0 := Lib.hid (B0.out.trans (hb6.mono hB0)); have KP := Lib.hid (keepB_trans KP.out hk6); have BL := Lib.hid hbl6
    have G1 := Lib.hid (hk6 g1 _ _ hbne G1.out (by decide))
    clear HW hbl6 hb6 hk6
    go_wp2_with fail
    go_end0
    exact ⟨rfl, by have := BL.out; simp only [trText, List.append_assoc] at this ⊢; exact this, BT.out, KP.out⟩
  | N + 1, .mk _ [_] _, _, _, _, _, _, _, _, _, _, _, _, _, hok, _, _, _ => by simp only [trOK] at hok
  | N + 1, .mk _ (_ :: _ :: _ :: _) _, _, _, _, _, _, _, _, _, _, _, _, _, hok, _, _, _ => by simp only [trOK] at hok

set_option maxRecDepth 100000 in
set_option maxHeartbeats 4000000 in
theorem sptext_any (x : Value) (t : Tr) (V : Nat) (w : World) (hV : V ≤ 24) (ht : TrV w x t) (hc : (trErr V t 0 0).2 = 0) (hrs : trRs t) (hlen : (trText t).length ≤ 1000000) :
    Calls Tryz.prog 36 #[x, .int .i64 (V : Nat)] w (RetV w (.tuple #[.string ⟨(trText t).toArray⟩, .nilIface])) := by
  obtain ⟨v, r, ao, kn, c, rfl⟩ := ht.shape
  obtain ⟨W, hW⟩ : ∃ W, W = w.alloc (.cells #[.int .i64 v, .slice ao kn c, .int .i64 r] 27) := ⟨_, rfl⟩
  have hbW : Below w.heap.size w W := by rw [hW]; exact (Below.refl _ _).alloc (Nat.le_refl _) _
  have hg1 : W.heap[w.heap.size]? = some (.cells #[.int .i64 v, .slice ao kn c, .int .i64 r] 27) := by rw [hW]; exact heap_alloc_new w _
  have hk := scheck_any _ t V W (ht.below hbW) ⟨by omega, by omega⟩
  rw [hc, errV_zero] at hk
  have HK := Lib.hid hk
  obtain ⟨k1, _, _⟩ := trErr_ok t 0 0 _ (Prod.ext rfl hc : trErr V t 0 0 = ((trErr V t 0 0).1, 0))
  have HBW := Lib.hid hbW; have G1 := Lib.hid hg1; have HT := Lib.hid ht; have HOK := Lib.hid k1
  clear hbW hg1 hk ht k1 hc
  go_enter Tryz.func36, Tryz.ntmps36
  go_wp2_with (with_reducible refine pauseCall ?_)
  rw [← hW]; clear hW
  refine Pause.mk ?_
  (with_reducible refine HK.out.mono ?_); rintro e w1 ⟨rfl, hb1⟩
  have HB1 := Lib.hid (HBW.out.trans (hb1.mono HBW.out.size)); have G1 := Lib.hid (heap_below G1.out hb1)
  clear hb1 HK
  obtain ⟨x0, x1, x2⟩ := row3 G1.out
  have hltb := below_lt G1.out
  have hbl := Lib.fresh_isBuilder 129 5 w1
  obtain ⟨w2, hw2⟩ : ∃ w2, w2 = w1.alloc (.cells #[.pointer none, .slice none 0 0] 129) := ⟨_, rfl⟩
  rw [← hw2] at hbl
  have hb2 : Below w1.heap.size w1 w2 := by rw [hw2]; exact (Below.refl _ _).alloc (Nat.le_refl _) _
  have HB2 := Lib.hid (HB1.out.trans (hb2.mono HB1.out.size))
  have HK := Lib.hid (write_any V hV _ t (Nat.lt_succ_self _) _ [] w1.heap.size w1.heap.size 0 w w2 HT.out HB2.out HB1.out.size hb2.size HOK.out hrs hbl (by simpa using hlen))
  have hsz := hb2.size
  clear hb2 hbl
  go_wp2_with (with_reducible refine pauseCall ?_)
  rw [← hw2]; clear hw2 x0 x1 x2
  refine Pause.mk ?_
  (with_reducible refine HK.out.mono ?_); rintro e w3 ⟨rfl, hbl3, hb3, hk3⟩
  have HB3 := Lib.hid (HB2.out.trans (hb3.mono HB1.out.size))
  rw [List.nil_append] at hbl3
  have HS := Lib.hid (Tryz.Builder_String_any w1.heap.size w1.heap.size (trText t) w3 hbl3 (Nat.le_trans hsz hb3.size))
  clear hbl3 hb3 hk3 HK
  go_wp2_with (with_reducible refine pauseCall ?_)
  refine Pause.mk ?_
  (with_reducible refine HS.out.mono ?_); rintro e w4 ⟨rfl, hb4⟩
  have HB4 := Lib.hid (HB3.out.trans (hb4.mono HB1.out.size))
  clear hb4 HS
  go_wp2_with fail
  go_ret2
  exact ⟨rfl, HB4.out⟩
end Go.Proofs.YthhgfhdmfhnklaaGreatDoor
/-
  The document's example in plain words: its trees, values, texts.
  Conditions: none.
-/
namespace Go.Proofs.YthhgfhdmfhnklaaGreatDoor
open Go.RowKit Go.ChangeShapes Go.WideShapes

def exF : Fm := ⟨3, [⟨2, 0, [1, 2]⟩, ⟨3, 0, [0, 3]⟩], 4⟩
/-- a fraction's valid form -/
def rvOf (q : Rat) : Rv := ⟨ng q, wd (nn q), wd (dn q)⟩
def exL : List Rv := [rvOf (1 / 2), rvOf (1 / 3), rvOf (1 / 4)]
theorem ex_err : fmErr exF = 0 := by decide
theorem ex_m3 : mErr exF 3 = 0 := by unfold mErr; rw [ex_err]; decide
theorem ex_m1 : mErr exF 1 = 0 := by unfold mErr; rw [ex_err]; decide
def exT3 : Tr := .mk 0 [.mk 1 [.mk 0 [] 0, .mk 2 [.mk 0 [] 0, .mk 0 [] 1] 0] 0, .mk 0 [] 1] 0
def exT1 : Tr := .mk 0 [.mk 0 [] 2, .mk 0 [] 1] 0
theorem ex_t3 : mTr exF 3 = exT3 := by unfold mTr; rw [if_pos ex_m3]; rfl
theorem ex_t1 : mTr exF 1 = exT1 := by unfold mTr; rw [if_pos ex_m1]; rfl
theorem ex_c3 : trErr 3 exT3 0 0 = (7, 0) := by decide +kernel
theorem ex_c1 : trErr 3 exT1 0 0 = (3, 0) := by decide +kernel
theorem ex_l3 : trLeaves exT3 0 0 = [⟨0, 3, 0⟩, ⟨2, 5, 0⟩, ⟨6, 1, 1⟩, ⟨1, 0, 1⟩] := by simp [exT3, trLeaves]
theorem ex_l1 : trLeaves exT1 0 0 = [⟨0, 1, 2⟩, ⟨1, 0, 1⟩] := by simp [exT1, trLeaves]
theorem ex_q : exL.map Rv.q = [1 / 2, 1 / 3, 1 / 4] := by decide +kernel
theorem ex_p : ∀ r ∈ exL, prB r.s r.a r.b = true := by decide +kernel
theorem ex_ce3 : cErr exF exT3 = 0 := by unfold cErr; rw [if_neg (by rw [ex_err]; decide)]; show (trErr 3 exT3 0 0).2 = 0; rw [ex_c3]
theorem ex_ce1 : cErr exF exT1 = 0 := by unfold cErr; rw [if_neg (by rw [ex_err]; decide)]; show (trErr 3 exT1 0 0).2 = 0; rw [ex_c1]
theorem ex_any : (exL.any fun r => !prB r.s r.a r.b) = false := by
  rw [List.any_eq_false]; intro r hr; rw [ex_p r hr]; decide
theorem ex_s3 : sErr exF exT3 exL = 0 := by
  unfold sErr
  rw [if_neg (by rw [ex_ce3]; decide), if_neg (by decide), if_neg (by rw [ex_any]; decide), if_neg (by rw [ex_l3]; decide)]
theorem ex_s1 : sErr exF exT1 exL = 0 := by
  unfold sErr
  rw [if_neg (by rw [ex_ce1]; decide), if_neg (by decide), if_neg (by rw [ex_any]; decide), if_neg (by rw [ex_l1]; decide)]
theorem ex_v : valC exF exT3 exL = (13 / 24, 0) := by
  unfold valC
  rw [if_neg (by rw [ex_s3]; decide), if_neg (by rw [ex_l3]; decide), ex_l3, ex_q]
  decide +kernel
theorem ex_b : bndV exF exT1 exL = (1 / 2, 1) := by
  unfold bndV
  rw [if_pos ex_s1, ex_l1, ex_q]
  decide +kernel
theorem ex_x : rtx (13 / 24) = [49, 51, 47, 50, 52] := by decide +kernel
theorem ex_x2 : rtx (1 / 2) = [49, 47, 50] := by decide +kernel
theorem ex_x1 : rtx 1 = [49] := by decide +kernel
theorem ex_tt : trText exT3 = [91, 48, 32, 91, 49, 32, 48, 32, 91, 50, 32, 48, 32, 49, 93, 93, 32, 49, 93] := by decide +kernel
theorem ex_rs : trRs exT3 := by simp [exT3, trRs]
theorem ex_sm : ∀ r ∈ exL, r.a.length ≤ 3 ∧ r.b.length ≤ 3 ∧ rl r.q ≤ 3 := by decide +kernel
end Go.Proofs.YthhgfhdmfhnklaaGreatDoor
/-
  Few: whether a tree has few nodes.
  Conditions: each theorem's own.
-/
namespace Go.Proofs.YthhgfhdmfhnklaaGreatDoor
open Go.RowKit Go.ChangeShapes Go.WideShapes

theorem leftKs_drop {ks : List Tr} {j d : Nat} {m : Int} {t : Tr} (h : ks[j]? = some t) (hm : 0 ≤ m) : leftKs (ks.drop j) m d = leftKs (ks.drop (j + 1)) (leftT t m d) d := by
  obtain ⟨h1, h2⟩ := List.getElem?_eq_some_iff.1 h
  rw [List.drop_eq_getElem_cons h1, h2]; simp only [leftKs]; rw [if_neg (by omega)]
theorem leftKs_dropn {ks : List Tr} {j d : Nat} {m : Int} {t : Tr} (h : ks[j]? = some t) (hm : m < 0) : leftKs (ks.drop j) m d = -1 := by
  obtain ⟨h1, h2⟩ := List.getElem?_eq_some_iff.1 h
  rw [List.drop_eq_getElem_cons h1, h2]; simp only [leftKs]; rw [if_pos hm]
set_option maxRecDepth 100000 in
set_option maxHeartbeats 4000000 in
theorem tleft_any : ∀ (N : Nat) (t : Tr), SizeOf.sizeOf t < N → ∀ (x : Value) (most : Int) (d : Nat) (w : World), TrV w x t → 0 ≤ most → most ≤ 1000 → d ≤ 101 →
    Calls Tryz.prog 67 #[x, .int .i64 most, .int .i64 (d : Nat)] w (RetV w (.int .i64 (leftT t most d)))
  | 0, _, h, _, _, _, _, _, _, _, _ => by omega
  | N + 1, .mk v ks r, hN, x, most, d, w, ht, hm0, hm1, hd => by
    obtain ⟨ao, c, rfl, hks, hc1, hc2, hv, hr⟩ := ht.open
    obtain ⟨w1, hw1⟩ : ∃ w1, w1 = w.alloc (.cells #[.int .i64 v, .slice ao ks.length c, .int .i64 r] 27) := ⟨_, rfl⟩
    have hb1 : Below w.heap.size w w1 := by rw [hw1]; exact (Below.refl _ _).alloc (Nat.le_refl _) _
    have HB := Lib.hid hb1; have HKS := Lib.hid hks
    clear hks hb1 ht
    have RW : Hid (w1 = w.alloc (.cells #[.int .i64 v, .slice ao ks.length c, .int .i64 r] 27)) := Lib.hid hw1
    by_cases a1 : 100 < d
    · have R := Lib.hid (show leftT (.mk v ks r) most d = -1 by unfold leftT; rw [if_pos (.inl a1)])
      have a1' : (100 : Int) < (d : Int) := by omega
      go_enter Tryz.func67, Tryz.ntmps67
      go_wp2_with fail
      go_ret
      exact ⟨by rw [R.out]; rfl, by rw [← RW.out]; exact HB.out⟩
    by_cases a2 : 10 < ks.length
    · have R := Lib.hid (show leftT (.mk v ks r) most d = -1 by unfold leftT; rw [if_pos (.inr a2)])
      have a2' : (10 : Int) < (ks.length : Int) := by omega
      go_enter Tryz.func67, Tryz.ntmps67
      go_wp2_with fail
      go_ret
      exact ⟨by rw [R.out]; rfl, by rw [← RW.out]; exact HB.out⟩
    have TE := Lib.hid (show leftT (.mk v ks r) most d = leftKs ks (most - 1) (d + 1) by unfold leftT; rw [if_neg (by omega)])
    have a2' : (ks.length : Int) ≤ 10 := by omega
    go_enter Tryz.func67, Tryz.ntmps67
    go_wp2_with fail
    rw [← hw1]; clear hw1 RW
    go_loopw [22, 1] (fun i' mm wx => ∃ (j : Nat) (m : Int), j ≤ ks.length ∧ i' = .int .i64 j ∧ mm = .int .i64 m ∧ -1 ≤ m ∧ m ≤ 1000 ∧ Hid (Below w1.heap.size w1 wx) ∧ Hid (leftKs ks (most - 1) (d + 1) = leftKs (ks.drop j) m (d + 1))) (fun i' _ _ => ks.length - (intOf i').toNat)
    case atStart => exact ⟨0, most - 1, by omega, rfl, rfl, by omega, by omega, Lib.hid (Below.refl _ _), Lib.hid rfl⟩
    case round =>
      obtain ⟨j, m, hj, rfl, rfl, hma, hmb, BW, TS⟩ := hrel
      obtain ⟨wo, rfl⟩ : ∃ wo : World, wo = wr := ⟨_, rfl⟩
      have HBo := Lib.hid (HB.out.trans (BW.out.mono HB.out.size))
      by_cases hlt : j < ks.length
      · obtain ⟨t', ht'⟩ : ∃ t', ks[j]? = some t' := ⟨ks[j], List.getElem?_eq_getElem hlt⟩
        obtain ⟨bk, ok, rfl, hbk, hjk, hat⟩ := (HKS.out.below HBo.out).at (by omega); clear hjk
        obtain ⟨kv, kr, ka, kn, kc, c0, c1, c2, hTV⟩ := (hat j t' ht').val
        have hltz : (j : Int) < (ks.length : Int) := by omega
        obtain ⟨w4, hw4⟩ : ∃ w4, w4 = wo.alloc (.cells #[.int .i64 kv, .slice ka kn kc, .int .i64 kr] 27) := ⟨_, rfl⟩
        have hb4 : Below wo.heap.size wo w4 := by rw [hw4]; exact (Below.refl _ _).alloc (Nat.le_refl _) _
        have HB4 := Lib.hid (HBo.out.trans (hb4.mono HBo.out.size)); have BW4 := Lib.hid (BW.out.trans (hb4.mono BW.out.size))
        by_cases hm : m < 0
        · have R := Lib.hid (show leftT (.mk v ks r) most d = -1 by rw [TE.out, TS.out, leftKs_dropn ht' hm])
          clear ht' hat hTV
          go_wp2_with fail
          go_ret
          exact ⟨by rw [R.out]; rfl, by rw [hw4] at HB4; exact HB4.out⟩
        · have hsz : SizeOf.sizeOf t' < N := by have := sizeOf_kid (v := v) (r := r) (List.mem_of_getElem? ht'); omega
          have hk := tleft_any N t' hsz _ m (d + 1) w4 (hTV.below hb4) (by omega) (by omega) (by omega)
          rw [show ((d + 1 : Nat) : Int) = (d : Int) + 1 from rfl] at hk
          have HK := Lib.hid hk
          have TS2 := Lib.hid (show leftKs ks (most - 1) (d + 1) = leftKs (ks.drop (j + 1)) (leftT t' m (d + 1)) (d + 1) by rw [TS.out, leftKs_drop ht' (by omega)])
          have hr := leftT_range t' m (d + 1) (by omega)
          obtain ⟨m2, hm2⟩ : ∃ m2, m2 = leftT t' m (d + 1) := ⟨_, rfl⟩
          rw [← hm2] at TS2 HK hr
          clear ht' hat hTV hk hb4 hm2 hsz
          go_wp2_with (with_reducible refine pauseCall ?_)
          rw [← hw4]; clear hw4 c0 c1 c2
          refine Pause.mk ?_
          (with_reducible refine HK.out.mono ?_); rintro e w5 ⟨rfl, hb5⟩
          have BW5 := Lib.hid (BW4.out.trans (hb5.mono BW4.out.size))
          clear hb5 HK
          go_wp2_with fail
          go_roundw
          case rel => exact ⟨j + 1, m2, by omega, by go_num, rfl, by omega, by omega, Lib.hid BW5.out, Lib.hid TS2.out⟩
          case measure => simp [intOf]; omega
      · have hj' : j = ks.length := by omega
        subst hj'
        have R := Lib.hid (show leftT (.mk v ks r) most d = m by rw [TE.out, TS.out, List.drop_length]; rfl)
        go_wp2_with fail
        go_ret
        exact ⟨by rw [R.out]; rfl, HBo.out⟩
theorem few_any (x : Value) (t : Tr) (w : World) (ht : TrV w x t) :
    Calls Tryz.prog 33 #[x, .int .i64 300] w (RetV w (.bool (decide (0 ≤ leftT t 300 0)))) := by
  obtain ⟨v, r, ao, kn, c, rfl⟩ := ht.shape
  obtain ⟨W, hW⟩ : ∃ W, W = w.alloc (.cells #[.int .i64 v, .slice ao kn c, .int .i64 r] 27) := ⟨_, rfl⟩
  have hbW : Below w.heap.size w W := by rw [hW]; exact (Below.refl _ _).alloc (Nat.le_refl _) _
  have hk := tleft_any _ t (Nat.lt_succ_self _) _ 300 0 W (ht.below hbW) (by decide) (by decide) (by decide)
  rw [show ((0 : Nat) : Int) = 0 from rfl] at hk
  have HK := Lib.hid hk
  have HBW := Lib.hid hbW
  clear hbW ht hk
  go_enter Tryz.func33, Tryz.ntmps33
  go_wp2_with (with_reducible refine pauseCall ?_)
  rw [← hW]; clear hW
  refine Pause.mk ?_
  (with_reducible refine HK.out.mono ?_); rintro e w6 ⟨rfl, hb6⟩
  have hb7 := HBW.out.trans (hb6.mono HBW.out.size)
  clear hb6 HK HBW
  go_wp2_with fail
  go_ret
  exact ⟨rfl, hb7⟩
end Go.Proofs.YthhgfhdmfhnklaaGreatDoor
/-
  light and example of the laws of proof.
  Conditions: each theorem's own.
-/
namespace Go.Proofs.YthhgfhdmfhnklaaGreatDoor
open Go.RowKit Go.ChangeShapes Go.WideShapes

/-- a formula and a tree are small -/
def lightB (f : Fm) (t : Tr) : Bool := decide (f.nodes.length ≤ 200) && (decide (0 ≤ leftT t 300 0) && (f.nodes.all (fun n => decide (n.args.length ≤ 40)) && (decide (fmErr f ≠ 0) || (decide (f.vars ≤ 8) && decide (f.nodes.length ≤ 20)))))
set_option maxRecDepth 100000 in
set_option maxHeartbeats 4000000 in
theorem light_any (vf x : Value) (f : Fm) (t : Tr) (w : World) (hf : FmV w vf f) (ht : TrV w x t) :
    Calls Tryz.prog 9 #[vf, x] w (RetV w (.bool (lightB f t))) := by
  obtain ⟨nv, rfl, hn, hv, htp⟩ := hf
  obtain ⟨ao, c, rfl, hc, hc2, _⟩ := hn.shape
  have HF := Lib.hid (show FmV w _ f from ⟨_, rfl, hn, hv, htp⟩)
  have HT := Lib.hid ht
  obtain ⟨tv, tr, ta, tn, tc, rfl⟩ := ht.shape
  obtain ⟨W, hW⟩ : ∃ W, W = (w.alloc (.cells #[.int .i64 f.vars, .slice ao f.nodes.length c, .int .i64 f.top] 24)).alloc (.cells #[.int .i64 tv, .slice ta tn tc, .int .i64 tr] 27) := ⟨_, rfl⟩
  have hbW : Below w.heap.size w W := by rw [hW]; exact ((Below.refl _ _).alloc (Nat.le_refl _) _).alloc (by simp) _
  have hg1 : W.heap[w.heap.size]? = some (.cells #[.int .i64 f.vars, .slice ao f.nodes.length c, .int .i64 f.top] 24) := by rw [hW]; exact heap_alloc2_old w _ _
  have hg2 : W.heap[w.heap.size + 1]? = some (.cells #[.int .i64 tv, .slice ta tn tc, .int .i64 tr] 27) := by rw [hW]; exact heap_alloc2_new w _ _
  obtain ⟨g1, hG1⟩ : ∃ g, g = w.heap.size := ⟨_, rfl⟩
  obtain ⟨g2, hG2⟩ : ∃ g, g = w.heap.size + 1 := ⟨_, rfl⟩
  rw [← hG1] at hg1; rw [← hG2] at hg2
  have HBW := Lib.hid hbW; have G1 := Lib.hid hg1; have G2 := Lib.hid hg2
  obtain ⟨x0, x1, x2⟩ := row3 hg1
  obtain ⟨y0, y1, y2⟩ := row3 hg2
  rw [hW, hG1] at x0 x1 x2
  rw [hW, hG2] at y0 y1 y2
  clear hbW hg1 hg2 hn hv htp ht
  go_enter Tryz.func9, Tryz.ntmps9
  by_cases a1 : 200 < f.nodes.length
  · have R := Lib.hid (show lightB f t = false by unfold lightB; rw [decide_eq_false (by omega), Bool.false_and])
    have a1' : (200 : Int) < (f.nodes.length : Int) := by omega
    go_wp2_with fail
    go_ret
    exact ⟨by rw [R.out]; rfl, by rw [hW] at HBW; exact HBW.out⟩
  have a1' : (f.nodes.length : Int) ≤ 200 := by omega
  have E1 := Lib.hid (show lightB f t = (decide (0 ≤ leftT t 300 0) && (f.nodes.all (fun n => decide (n.args.length ≤ 40)) && (decide (fmErr f ≠ 0) || (decide (f.vars ≤ 8) && decide (f.nodes.length ≤ 20))))) by unfold lightB; rw [decide_eq_true (by omega), Bool.true_and])
  have HK := Lib.hid (few_any _ t W (HT.out.below HBW.out))
  go_wp2_with (with_reducible refine pauseCall ?_)
  rw [← hW, ← hG2, ← hG1]; clear hW hG1 hG2 x0 x1 x2 y0 y1 y2
  refine Pause.mk ?_
  (with_reducible refine HK.out.mono ?_); rintro e w1 ⟨rfl, hb1⟩
  have HB1 := Lib.hid (HBW.out.trans (hb1.mono HBW.out.size)); have G1 := Lib.hid (heap_below G1.out hb1)
  clear hb1 HK G2 a1
  obtain ⟨fw, hfw⟩ : ∃ b, b = decide (0 ≤ leftT t 300 0) := ⟨_, rfl⟩
  rw [← hfw] at E1 ⊢; clear hfw
  cases fw with
  | false =>
    have R := Lib.hid (E1.out.trans (Bool.false_and _))
    go_wp2_with fail
    go_ret
    exact ⟨by rw [R.out]; rfl, HB1.out⟩
  | true =>
    have E2 := Lib.hid (E1.out.trans (Bool.true_and _))
    obtain ⟨x0, x1, x2⟩ := row3 G1.out
    clear E1
    go_wp2_with fail
    clear x0 x1 x2
    go_loopw [19] (fun i' wx => ∃ q : Nat, q ≤ f.nodes.length ∧ i' = .int .i64 q ∧ Hid (Below w1.heap.size w1 wx) ∧ Hid (∀ n ∈ f.nodes.take q, decide (n.args.length ≤ 40) = true)) (fun i' _ => f.nodes.length - (intOf i').toNat)
    case atStart => exact ⟨0, Nat.zero_le _, rfl, Lib.hid (Below.refl _ _), Lib.hid (by simp)⟩
    case round =>
      obtain ⟨q, hq, rfl, BX, PR⟩ := hrel
      obtain ⟨wo, rfl⟩ : ∃ wo : World, wo = wr := ⟨_, rfl⟩
      have HBo := Lib.hid (HB1.out.trans (BX.out.mono HB1.out.size)); have G1 := Lib.hid (heap_below G1.out BX.out)
      by_cases hlt : q < f.nodes.length
      · obtain ⟨n, hn⟩ : ∃ n, f.nodes[q]? = some n := ⟨f.nodes[q], List.getElem?_eq_getElem hlt⟩
        obtain ⟨nv, hnv, hnd, _, _⟩ := HF.out.below HBo.out
        cases hnv
        obtain ⟨bn, on, rfl, hbn, hjk, hatn⟩ := hnd.at (by omega); clear hjk hnd
        obtain ⟨c0, c1, ⟨va, c2, hI⟩, _, _⟩ := hatn q n hn
        obtain ⟨aa, ca, rfl, hca, hca2, _⟩ := hI.shape
        have HN := Lib.hid hn
        have hltz : (q : Int) < (f.nodes.length : Int) := by omega
        have hb4 : Below wo.heap.size wo (wo.alloc (.cells #[.int .i64 n.kind, .int .i64 n.K, .slice aa n.args.length ca] 82)) := (Below.refl _ _).alloc (Nat.le_refl _) _
        have BX4 := Lib.hid (BX.out.trans (hb4.mono BX.out.size)); have HB4 := Lib.hid (HBo.out.trans (hb4.mono HBo.out.size))
        clear hatn hI hb4 hn
        by_cases h40 : 40 < n.args.length
        · have R := Lib.hid (show lightB f t = false by
            rw [E2.out, show (f.nodes.all fun n => decide (n.args.length ≤ 40)) = false from by
              rw [List.all_eq_false]; exact ⟨n, List.mem_of_getElem? HN.out, by simp; omega⟩, Bool.false_and])
          have h40' : (40 : Int) < (n.args.length : Int) := by omega
          go_wp2_with fail
          go_ret
          exact ⟨by rw [R.out]; rfl, HB4.out⟩
        · have h40' : (n.args.length : Int) ≤ 40 := by omega
          go_wp2_with fail
          go_roundw
          case rel => exact ⟨q + 1, by omega, by go_num, Lib.hid BX4.out, Lib.hid (fun z hz => by
            rw [take_snoc HN.out] at hz
            rcases List.mem_append.1 hz with hz | hz
            · exact PR.out z hz
            · rw [List.mem_singleton] at hz; subst hz; exact decide_eq_true (by omega))⟩
          case measure => simp [intOf]; omega
      · have hq' : q = f.nodes.length := by omega
        subst hq'
        have PR2 := PR.out
        rw [List.take_length] at PR2
        have E3 := Lib.hid (show lightB f t = (decide (fmErr f ≠ 0) || (decide (f.vars ≤ 8) && decide (f.nodes.length ≤ 20))) by rw [E2.out, List.all_eq_true.2 PR2, Bool.true_and])
        have HK := Lib.hid (rfcheck_any _ f wo (HF.out.below HBo.out))
        obtain ⟨x0, x1, x2⟩ := row3 G1.out
        have HE := Lib.hid (And.intro trivial (fmErr_lt f))
        obtain ⟨fe, hfe⟩ : ∃ x, x = fmErr f := ⟨_, rfl⟩
        rw [← hfe] at HK E3; clear hfe HE PR PR2 E2
        go_wp2_with (with_reducible refine pauseCall ?_)
        clear x0 x1 x2
        refine Pause.mk ?_
        (with_reducible refine HK.out.mono ?_); rintro e w5 ⟨rfl, hb5⟩
        have HB5 := Lib.hid (HBo.out.trans (hb5.mono HBo.out.size))
        obtain ⟨x0, x1, x2⟩ := row3 (heap_below G1.out hb5)
        clear hb5 HK
        by_cases e1 : fe = 0
        · subst e1
          by_cases e2 : f.vars ≤ 8
          · by_cases e3 : f.nodes.length ≤ 20
            · have R := Lib.hid (show lightB f t = true by rw [E3.out]; simp [e2, e3])
              have e3' : (f.nodes.length : Int) ≤ 20 := by omega
              go_wp2_with fail
              go_ret
              exact ⟨by rw [R.out]; first | rfl | (simp; done) | (simp; omega), HB5.out⟩
            · have R := Lib.hid (show lightB f t = false by rw [E3.out, decide_eq_false e3]; simp)
              have e3' : ¬ (f.nodes.length : Int) ≤ 20 := by omega
              go_wp2_with fail
              go_ret
              exact ⟨by rw [R.out]; first | rfl | (simp; done) | (simp; omega), HB5.out⟩
          · have R := Lib.hid (show lightB f t = false by rw [E3.out]; simp [e2])
            go_wp2_with fail
            go_ret
            exact ⟨by rw [R.out]; first | rfl | (simp; done) | (simp; omega), HB5.out⟩
        · have R := Lib.hid (show lightB f t = true by rw [E3.out]; simp [e1])
          have e1' : ((fe : Int) != 0) = true := bne_iff_ne.2 (by omega)
          go_wp2_with fail
          go_ret
          exact ⟨by rw [R.out]; first | rfl | (simp; done) | (simp; omega), HB5.out⟩
end Go.Proofs.YthhgfhdmfhnklaaGreatDoor
