/-
  The texts Sp3, Sp4, TrMath11, Pr1, Rat12, RatF, NatMath13, Rat13, Rat15p, TrMath12, Rvs, Wt, Pr2, one behind the other (what the laws lean on).
  Conditions: each theorem's own.
-/
import Derived.Test.YthhgfhdmfhnklaaGreatDoorMW4
/-
  split.leaves: the leaves of a tree behind leaves.
  Conditions: each theorem's own.
-/
namespace Go.Proofs.YthhgfhdmfhnklaaGreatDoor
open Go.RowKit Go.ChangeShapes Go.WideShapes

theorem lf_noU (l : List Lf) : noU (lfCells l) := by
  intro u hu k
  obtain ⟨y, _, hy⟩ := List.mem_flatMap.1 hu
  simp only [Lf.cells, List.mem_cons, List.not_mem_nil, or_false] at hy
  rcases hy with rfl | rfl | rfl <;> exact fun e => by cases e
theorem noU_i3 {a b c : Int} : noU [Value.int .i64 a, .int .i64 b, .int .i64 c] := by
  intro u hu k
  simp only [List.mem_cons, List.not_mem_nil, or_false] at hu
  rcases hu with rfl | rfl | rfl <;> exact fun e => by cases e
theorem Tryz.leafTy : SliceTy Tryz.prog 42 48 (.agg #[.int .i64 0, .int .i64 0, .int .i64 0]) 3 24 := .mk' Tryz.underlying42 (by kernel_rfl)
theorem gb_row {a b c : World} {r r' : Option Nat} (h : a.grownBy b r) (k : b.grownBy c r') (hr : ∀ g, g < a.heap.size → r ≠ some g → r' ≠ some g) : a.grownBy c r :=
  ⟨k.os.trans h.os, k.tape.trans h.tape, k.output.trans h.output, Nat.le_trans h.size k.size, fun i hi hne => (k.block i (Nat.lt_of_lt_of_le hi h.size) (fun e => hr i hi (fun e2 => hne e2.symm) e.symm)).trans (h.block i hi hne)⟩
theorem gb_heap2 {a b : World} {r : Option Nat} {p : Nat} {o : Obj} (h : a.grownBy b r) (hp : a.heap[p]? = some o) (hne : r ≠ some p) : b.heap[p]? = some o := by
  rw [h.block p (Array.getElem?_eq_some_iff.1 hp).1 (fun e => hne e.symm)]; exact hp
theorem ownL_base {w : World} {B : Nat} {e : TypeId} {size : Nat} {v : Value} {n : Nat} {xs : List Value} (h : OwnL w B e size v n xs) {w0 w' : World} (hb : Below w0.heap.size w0 w) (hg : w.grownBy w' v.ownBlock) (hB : w0.heap.size ≤ B) : Below w0.heap.size w0 w' :=
  hb.grown hg hb.size (fun k hk => Nat.le_trans hB (World.ownsRow.lt h.1 k hk).1)
/-- leaves behind leaves of the call's own -/
def RetLv (w : World) (B : Nat) (v : Value) (L : List Lf) (e : Ending) (w' : World) : Prop :=
  ∃ v', e = .returned v' ∧ OwnL w' B 48 3 v' L.length (lfCells L) ∧ w.grownBy w' v.ownBlock ∧ ∀ g, g < w.heap.size → v.ownBlock ≠ some g → v'.ownBlock ≠ some g

set_option maxRecDepth 100000 in
set_option maxHeartbeats 8000000 in
theorem sleaves_any (V : Nat) (hV : V ≤ 24) : ∀ (N : Nat) (t : Tr), SizeOf.sizeOf t < N → ∀ (x vv : Value) (y n B above : Nat) (l : List Lf) (w0 w : World), TrV w0 x t → Below w0.heap.size w0 w → trOK V t above → y < 16777216 → n < 16777216 →
    OwnL w B 48 3 vv l.length (lfCells l) → w0.heap.size ≤ B → B ≤ w.heap.size → l.length + trLvs t ≤ 1000000 →
    Calls Tryz.prog 47 #[vv, x, .agg #[.int .i64 (y : Nat), .int .i64 (n : Nat)]] w (RetLv w B vv (l ++ trLeaves t y n))
  | 0, _, h, _, _, _, _, _, _, _, _, _, _, _, _, _, _, _, _, _, _ => by omega
  | N + 1, .mk vv0 [] r, hN, x, vv, y, n, B, above, l, w0, w, ht, hb0, hok, hy, hn, ho, hB0, hBw, hlen => by
    obtain ⟨ao, c, rfl, hks, hc1, hc2, hv, hr⟩ := ht.open
    simp only [List.length_nil, trLvs] at hks hc1 hlen ⊢
    obtain ⟨W, hW⟩ : ∃ W, W = (w.alloc (.cells #[.int .i64 vv0, .slice ao 0 c, .int .i64 r] 27)).alloc (.cells #[.int .i64 (y : Nat), .int .i64 (n : Nat)] 46) := ⟨_, rfl⟩
    have hbW : Below w.heap.size w W := by rw [hW]; exact ((Below.refl _ _).alloc (Nat.le_refl _) _).alloc (by simp) _
    have hB1 : W.heap[w.heap.size]? = some (.cells #[.int .i64 vv0, .slice ao 0 c, .int .i64 r] 27) := by rw [hW]; exact heap_alloc2_old w _ _
    have hB2 : W.heap[w.heap.size + 1]? = some (.cells #[.int .i64 (y : Nat), .int .i64 (n : Nat)] 46) := by rw [hW]; exact heap_alloc2_new w _ _
    obtain ⟨b1, hb1⟩ : ∃ g, g = w.heap.size := ⟨_, rfl⟩
    obtain ⟨b2, hb2⟩ : ∃ g, g = w.heap.size + 1 := ⟨_, rfl⟩
    rw [← hb1] at hB1; rw [← hb2] at hB2
    have hWs : W.heap.size = w.heap.size + 1 + 1 := by rw [hW]; simp
    have hz := heap_alloc_new W (.cells #[.int .i64 (y : Nat), .int .i64 (n : Nat), .int .i64 r] 48)
    have hb3 : Below w.heap.size w (W.alloc (.cells #[.int .i64 (y : Nat), .int .i64 (n : Nat), .int .i64 r] 48)) := hbW.alloc hbW.size _
    rw [hWs] at hz
    have HO := Lib.hid (ho.below hb3); have HB3 := Lib.hid hb3; have HZ := Lib.hid hz
    clear hWs
    obtain ⟨x0, x1, x2⟩ := row3 hB1
    clear hz hb3 hB1 hB2 hbW ho hks ht hb0 hok hb1 hb2
    rw [hW] at x0 x1 x2
    go_enter Tryz.func47, Tryz.ntmps47
    go_wp2_with (with_reducible refine wpList_pauseA ?_)
    rw [← hW]; clear hW x0 x1 x2
    refine wpList_appL B Tryz.leafTy rfl noU_i3 (by decide) vv l.length (lfCells l) [.int .i64 (y : Nat), .int .i64 (n : Nat), .int .i64 r] (w.heap.size + 1 + 1) 48 rfl rfl HO.out HZ.out rfl rfl noU_i3 (lf_noU l) (by omega) (by decide) (Nat.le_trans hBw HB3.out.size) ?_
    intro v' w' h1 h2 h3
    have H1 := Lib.hid h1; have H2 := Lib.hid h2; have H3 := Lib.hid h3
    clear h1 h2 h3
    go_wp2_with fail
    go_ret
    exact ⟨_, rfl, by rw [show trLeaves (.mk vv0 [] r) y n = [⟨y, n, r⟩] by simp [trLeaves], List.length_append, lfCells_app, lfCells_one]; exact H1.out, gb_trans (gb_of_below HB3.out) H2.out, fun g hg hne => H3.out g (Nat.lt_of_lt_of_le hg HB3.out.size) hne⟩
  | N + 1, .mk v0 [a, b] r, hN, x, vv, y, n, B, above, l, w0, w, ht, hb0, hok, hy, hn, ho, hB0, hBw, hlen => by
    simp only [trOK] at hok
    obtain ⟨q0, q1, q2, rfl, hoa, hob⟩ := hok
    obtain ⟨vn, rfl⟩ : ∃ vn : Nat, v0 = vn := ⟨v0.toNat, by omega⟩
    rw [Int.toNat_natCast] at hoa hob
    have hvn : vn < V := by omega
    obtain ⟨ao, c, rfl, hks, hc1, hc2, _, _⟩ := ht.open
    simp only [List.length_cons, List.length_nil] at hks hc1 ⊢
    obtain ⟨bk, ok, rfl, hbk, hjk, hat⟩ := hks.at (by decide); clear hjk hks ht
    obtain ⟨kva, kra, kaa, kna, kca, ca0, ca1, ca2, hTVa⟩ := (hat 0 a rfl).val
    obtain ⟨kvb, krb, kab, knb, kcb, cb0, cb1, cb2, hTVb⟩ := (hat 1 b rfl).val
    simp only [Nat.zero_mul, Nat.add_zero, Nat.one_mul] at ca0 ca1 ca2 cb0 cb1 cb2
    have hsa : SizeOf.sizeOf a < N := by have := sizeOf_kid (v := (vn : Int)) (r := 0) (ks := [a, b]) (k := a) (by simp); omega
    have hsb : SizeOf.sizeOf b < N := by have := sizeOf_kid (v := (vn : Int)) (r := 0) (ks := [a, b]) (k := b) (by simp); omega
    have KA := Lib.hid (And.intro ca0 (And.intro ca1 ca2)); have KB := Lib.hid (And.intro cb0 (And.intro cb1 cb2))
    have HTA := Lib.hid hTVa; have HTB := Lib.hid hTVb; have HSA := Lib.hid hsa; have HSB := Lib.hid hsb; have HOA := Lib.hid hoa; have HOB := Lib.hid hob
    clear ca0 ca1 ca2 cb0 cb1 cb2 hat hTVa hTVb hsa hsb hoa hob q0 q1 q2
    obtain ⟨P2, hP2⟩ : ∃ P : Nat, P = 2 ^ vn := ⟨_, rfl⟩
    have hp24 : P2 < 16777216 := by rw [hP2]; exact pow_l24 (by omega)
    have DP := Lib.hid (show IntKind.wrap .i64 (2 ^ vn) = (P2 : Int) by rw [shl_one (by omega), hP2])
    obtain ⟨nb, hnb⟩ : ∃ nb, nb = n ||| 1 <<< vn := ⟨_, rfl⟩
    obtain ⟨yb, hyb⟩ : ∃ yb, yb = y ||| 1 <<< vn := ⟨_, rfl⟩
    have hnb3 : nb = n ||| P2 := by rw [hnb, hP2, Nat.one_shiftLeft]
    have hyb3 : yb = y ||| P2 := by rw [hyb, hP2, Nat.one_shiftLeft]
    have HNB := Lib.hid (show nb < 16777216 by rw [hnb3]; exact Nat.or_lt_two_pow (n := 24) (by omega) (by omega))
    have HYB := Lib.hid (show yb < 16777216 by rw [hyb3]; exact Nat.or_lt_two_pow (n := 24) (by omega) (by omega))
    have DN := Lib.hid (show bits .or .i64 (n : Int) (P2 : Int) = (nb : Int) by rw [bits_or (by omega) (by omega), hnb3])
    have DY := Lib.hid (show bits .or .i64 (y : Int) (P2 : Int) = (yb : Int) by rw [bits_or (by omega) (by omega), hyb3])
    have TL := Lib.hid (show trLeaves (.mk (vn : Nat) [a, b] 0) y n = trLeaves a y nb ++ trLeaves b yb n by rw [hnb, hyb]; rfl)
    clear hP2 hnb hyb hnb3 hyb3
    simp only [trLvs] at hlen
    obtain ⟨W, hW⟩ : ∃ W, W = (w.alloc (.cells #[.int .i64 vn, .slice (some ⟨bk, ok, none⟩) 2 c, .int .i64 0] 27)).alloc (.cells #[.int .i64 (y : Nat), .int .i64 (n : Nat)] 46) := ⟨_, rfl⟩
    have hbW : Below w.heap.size w W := by rw [hW]; exact ((Below.refl _ _).alloc (Nat.le_refl _) _).alloc (by simp) _
    have hB1 : W.heap[w.heap.size]? = some (.cells #[.int .i64 vn, .slice (some ⟨bk, ok, none⟩) 2 c, .int .i64 0] 27) := by rw [hW]; exact heap_alloc2_old w _ _
    have hB2 : W.heap[w.heap.size + 1]? = some (.cells #[.int .i64 (y : Nat), .int .i64 (n : Nat)] 46) := by rw [hW]; exact heap_alloc2_new w _ _
    obtain ⟨b1, hb1⟩ : ∃ g, g = w.heap.size := ⟨_, rfl⟩
    obtain ⟨b2, hb2⟩ : ∃ g, g = w.heap.size + 1 := ⟨_, rfl⟩
    rw [← hb1] at hB1; rw [← hb2] at hB2
    have HB := Lib.hid (hb0.trans (hbW.mono hb0.size)); have B1 := Lib.hid hB1; have B2 := Lib.hid hB2
    have HO := Lib.hid (ho.below hbW); have HGW := Lib.hid (gb_of_below (r := vv.ownBlock) hbW)
    have n1 : vv.ownBlock ≠ some b1 := ho.lt (by omega)
    have n2 : vv.ownBlock ≠ some b2 := ho.lt (by omega)
    have hsz := hbW.size
    clear hbW hB1 hB2 ho hb0
    obtain ⟨x0, x1, x2⟩ := row3 B1.out
    rw [hW, hb1] at x0 x1 x2
    go_enter Tryz.func47, Tryz.ntmps47
    go_wp2_with (with_reducible first | refine pauseCall ?_ | refine pauseLoop ?_ | refine pauseDraw ?_ | refine pauseBody ?_ | refine pauseRounds ?_)
    rw [← hW, ← hb2, ← hb1]
    clear hW hb1 hb2 x0 x1 x2
    refine Pause.mk ?_
    refine wp_region_facts (A := ?aa3) (w := W) 14 [] (by kernel_rfl) (Fl [KEq (vv), KEq (.pointer (some ⟨b1, 1, none⟩)), KEq (.slice (some ⟨bk, ok, none⟩) 2 c), KEq (.pointer (some ⟨bk, ok, none⟩)), KEq (.agg #[.int .i64 kva, .slice kaa kna kca, .int .i64 kra]), KEq (.pointer (some ⟨b2, 0, none⟩)), KEq (.int .i64 (y : Nat)), KEq (.pointer (some ⟨b2, 1, none⟩)), KEq (.int .i64 (n : Nat)), KEq (.pointer (some ⟨b1, 0, none⟩)), KEq (.int .i64 (vn : Nat)), KEq (.int .i64 (P2 : Nat)), KEq (.int .i64 (nb : Nat)), KEq (.agg #[.int .i64 (y : Nat), .int .i64 (nb : Nat)])]) (fun i => false) (by kernel_rfl) ?hq3 (monoL (monoC (kEq _) (monoC (kEq _) (monoC (kEq _) (monoC (kEq _) (monoC (kEq _) (monoC (kEq _) (monoC (kEq _) (monoC (kEq _) (monoC (kEq _) (monoC (kEq _) (monoC (kEq _) (monoC (kEq _) (monoC (kEq _) (monoC (kEq _) monoN))))))))))))))) ?ha3 ?st3 ?tl3
    case hq3 =>
      intro c a d v w h
      first | (simp only [Exit.then] at h ⊢; exact h) | (simp only [Exit.inBlock, Exit.then] at h ⊢; exact h) | exact h
    case ha3 =>
      intro vals
      simp only [putsTo, dstOf, if_true, Act.put, List.setIfInBounds_toArray, List.set_cons_zero, List.set_cons_succ, List.getElem?_toArray, List.getElem?_cons_zero, List.getElem?_cons_succ, Option.bind_some]
      exact rfl
    case st3 =>
      simp only [List.take_succ_cons, List.take_zero]
      refine stepsOK_cons rfl rfl ?_ (stepsOK_cons rfl rfl ?_ (stepsOK_cons rfl rfl ?_ (stepsOK_cons rfl rfl ?_ (stepsOK_cons rfl rfl ?_ (stepsOK_cons rfl rfl ?_ (stepsOK_cons rfl rfl ?_ (stepsOK_cons rfl rfl ?_ (stepsOK_cons rfl rfl ?_ (stepsOK_cons rfl rfl ?_ (stepsOK_cons rfl rfl ?_ (stepsOK_cons rfl rfl ?_ (stepsOK_cons rfl rfl ?_ (stepsOK_cons rfl rfl ?_ (stepsOK_nil))))))))))))))
      · intro vals w1 hb hd
        refine stepOK_value (v := vv) (w' := w1) (by go_simp) (leaves_mk (Below.refl _ _) rfl (fun h => by cases h))
      · intro vals w1 hb hd
        refine stepOK_value (v := .pointer (some ⟨b1, 1, none⟩)) (w' := w1) (by go_simp) (leaves_mk (Below.refl _ _) rfl (fun h => by cases h))
      · intro vals w1 hb hd
        have d1 : KEq (.pointer (some ⟨b1, 1, none⟩)) (vals 1) w1 := hd 1 (by kernel_rfl)
        obtain ⟨e0, e1, e2⟩ := row3 (heap_below B1.out hb)
        rw [show vals 1 = _ from d1]
        refine stepOK_value (v := .slice (some ⟨bk, ok, none⟩) 2 c) (w' := w1) (by go_simp) (leaves_mk (Below.refl _ _) rfl (fun h => by cases h))
      · intro vals w1 hb hd
        have d2 : KEq (.slice (some ⟨bk, ok, none⟩) 2 c) (vals 2) w1 := hd 2 (by kernel_rfl)
        rw [show vals 2 = _ from d2]
        refine stepOK_value (v := .pointer (some ⟨bk, ok, none⟩)) (w' := w1) (by go_simp) (leaves_mk (Below.refl _ _) rfl (fun h => by cases h))
      · intro vals w1 hb hd
        have d3 : KEq (.pointer (some ⟨bk, ok, none⟩)) (vals 3) w1 := hd 3 (by kernel_rfl)
        have hbx := HB.out.trans (hb.mono HB.out.size)
        have k0 := (hbx.cell (p := ⟨bk, _, none⟩) hbk).trans KA.out.1
        have k1 := (hbx.cell (p := ⟨bk, _, none⟩) hbk).trans KA.out.2.1
        have k2 := (hbx.cell (p := ⟨bk, _, none⟩) hbk).trans KA.out.2.2
        rw [show vals 3 = _ from d3]
        refine stepOK_value (v := .agg #[.int .i64 kva, .slice kaa kna kca, .int .i64 kra]) (w' := w1) (by go_simp) (leaves_mk (Below.refl _ _) rfl (fun h => by cases h))
      · intro vals w1 hb hd
        refine stepOK_value (v := .pointer (some ⟨b2, 0, none⟩)) (w' := w1) (by go_simp) (leaves_mk (Below.refl _ _) rfl (fun h => by cases h))
      · intro vals w1 hb hd
        have d5 : KEq (.pointer (some ⟨b2, 0, none⟩)) (vals 5) w1 := hd 5 (by kernel_rfl)
        obtain ⟨e0, e1⟩ := row2c (heap_below B2.out hb)
        rw [show vals 5 = _ from d5]
        refine stepOK_value (v := .int .i64 (y : Nat)) (w' := w1) (by go_simp) (leaves_mk (Below.refl _ _) rfl (fun h => by cases h))
      · intro vals w1 hb hd
        refine stepOK_value (v := .pointer (some ⟨b2, 1, none⟩)) (w' := w1) (by go_simp) (leaves_mk (Below.refl _ _) rfl (fun h => by cases h))
      · intro vals w1 hb hd
        have d7 : KEq (.pointer (some ⟨b2, 1, none⟩)) (vals 7) w1 := hd 7 (by kernel_rfl)
        obtain ⟨e0, e1⟩ := row2c (heap_below B2.out hb)
        rw [show vals 7 = _ from d7]
        refine stepOK_value (v := .int .i64 (n : Nat)) (w' := w1) (by go_simp) (leaves_mk (Below.refl _ _) rfl (fun h => by cases h))
      · intro vals w1 hb hd
        refine stepOK_value (v := .pointer (some ⟨b1, 0, none⟩)) (w' := w1) (by go_simp) (leaves_mk (Below.refl _ _) rfl (fun h => by cases h))
      · intro vals w1 hb hd
        have d9 : KEq (.pointer (some ⟨b1, 0, none⟩)) (vals 9) w1 := hd 9 (by kernel_rfl)
        obtain ⟨e0, e1, e2⟩ := row3 (heap_below B1.out hb)
        rw [show vals 9 = _ from d9]
        refine stepOK_value (v := .int .i64 (vn : Nat)) (w' := w1) (by go_simp) (leaves_mk (Below.refl _ _) rfl (fun h => by cases h))
      · intro vals w1 hb hd
        have d10 : KEq (.int .i64 (vn : Nat)) (vals 10) w1 := hd 10 (by kernel_rfl)
        rw [show vals 10 = _ from d10]
        refine stepOK_value (v := .int .i64 (P2 : Nat)) (w' := w1) (by go_simp; first | done | exact DP.out) (leaves_mk (Below.refl _ _) rfl (fun h => by cases h))
      · intro vals w1 hb hd
        have d8 : KEq (.int .i64 (n : Nat)) (vals 8) w1 := hd 8 (by kernel_rfl)
        have d11 : KEq (.int .i64 (P2 : Nat)) (vals 11) w1 := hd 11 (by kernel_rfl)
        rw [show vals 8 = _ from d8]
        rw [show vals 11 = _ from d11]
        refine stepOK_value (v := .int .i64 (nb : Nat)) (w' := w1) (by go_simp; first | done | exact DN.out) (leaves_mk (Below.refl _ _) rfl (fun h => by cases h))
      · intro vals w1 hb hd
        have d6 : KEq (.int .i64 (y : Nat)) (vals 6) w1 := hd 6 (by kernel_rfl)
        have d12 : KEq (.int .i64 (nb : Nat)) (vals 12) w1 := hd 12 (by kernel_rfl)
        rw [show vals 6 = _ from d6]
        rw [show vals 12 = _ from d12]
        refine stepOK_value (v := .agg #[.int .i64 (y : Nat), .int .i64 (nb : Nat)]) (w' := w1) (by go_simp) (leaves_mk (Below.refl _ _) rfl (fun h => by cases h))
    case tl3 =>
      intro vals w2 hb2 hf hdis
      simp only [List.drop_succ_cons, List.drop_zero]
      have z0 : vals 0 = _ := hf 0 (by decide)
      have z4 : vals 4 = _ := hf 4 (by decide)
      have z13 : vals 13 = _ := hf 13 (by decide)
      rw [z0, z4, z13]
      clear z0 z4 z13 hf hdis
      have HB := Lib.hid (HB.out.trans (hb2.mono HB.out.size)); have B1 := Lib.hid (heap_below B1.out hb2); have B2 := Lib.hid (heap_below B2.out hb2)
      have HO := Lib.hid (HO.out.below hb2); have HGW := Lib.hid (gb_below HGW.out hb2)
      have hs2 := hb2.size
      clear hb2
      have HK := Lib.hid (sleaves_any V hV N a HSA.out _ vv y nb B _ l w0 w2 HTA.out HB.out HOA.out hy HNB.out HO.out hB0 (by omega) (by omega))
      go_wp2_with (with_reducible refine pauseCall ?_)
      refine Pause.mk ?_
      (with_reducible refine HK.out.mono ?_); rintro e w3 ⟨v1, rfl, ho1, gb1, ne1⟩
      have hs3 := gb1.size
      have lt1 := below_lt B1.out; have lt2 := below_lt B2.out
      have HB := Lib.hid (ownL_base HO.out HB.out gb1 hB0); have B1 := Lib.hid (gb_heap2 gb1 B1.out n1); have B2 := Lib.hid (gb_heap2 gb1 B2.out n2)
      have HGW := Lib.hid (gb_trans HGW.out gb1)
      have m1 : v1.ownBlock ≠ some b1 := ne1 b1 lt1 n1
      have m2 : v1.ownBlock ≠ some b2 := ne1 b2 lt2 n2
      have NE := Lib.hid (show ∀ g, g < w.heap.size → vv.ownBlock ≠ some g → v1.ownBlock ≠ some g from fun g hg h => ne1 g (by omega) h)
      have HO := Lib.hid ho1
      clear ho1 gb1 ne1 HK
      go_wp2_with (with_reducible first | refine pauseCall ?_ | refine pauseLoop ?_ | refine pauseDraw ?_ | refine pauseBody ?_ | refine pauseRounds ?_)
      refine Pause.mk ?_
      refine wp_region_facts (A := ?aa4) (w := w3) 14 [] (by kernel_rfl) (Fl [KEq (v1), KEq (.pointer (some ⟨b1, 1, none⟩)), KEq (.slice (some ⟨bk, ok, none⟩) 2 c), KEq (.pointer (some ⟨bk, ok + 3, none⟩)), KEq (.agg #[.int .i64 kvb, .slice kab knb kcb, .int .i64 krb]), KEq (.pointer (some ⟨b2, 0, none⟩)), KEq (.int .i64 (y : Nat)), KEq (.pointer (some ⟨b1, 0, none⟩)), KEq (.int .i64 (vn : Nat)), KEq (.int .i64 (P2 : Nat)), KEq (.int .i64 (yb : Nat)), KEq (.pointer (some ⟨b2, 1, none⟩)), KEq (.int .i64 (n : Nat)), KEq (.agg #[.int .i64 (yb : Nat), .int .i64 (n : Nat)])]) (fun i => false) (by kernel_rfl) ?hq4 (monoL (monoC (kEq _) (monoC (kEq _) (monoC (kEq _) (monoC (kEq _) (monoC (kEq _) (monoC (kEq _) (monoC (kEq _) (monoC (kEq _) (monoC (kEq _) (monoC (kEq _) (monoC (kEq _) (monoC (kEq _) (monoC (kEq _) (monoC (kEq _) monoN))))))))))))))) ?ha4 ?st4 ?tl4
      case hq4 =>
        intro c a d v w h
        first | (simp only [Exit.then] at h ⊢; exact h) | (simp only [Exit.inBlock, Exit.then] at h ⊢; exact h) | exact h
      case ha4 =>
        intro vals
        simp only [putsTo, dstOf, if_true, Act.put, List.setIfInBounds_toArray, List.set_cons_zero, List.set_cons_succ, List.getElem?_toArray, List.getElem?_cons_zero, List.getElem?_cons_succ, Option.bind_some]
        exact rfl
      case st4 =>
        simp only [List.take_succ_cons, List.take_zero]
        refine stepsOK_cons rfl rfl ?_ (stepsOK_cons rfl rfl ?_ (stepsOK_cons rfl rfl ?_ (stepsOK_cons rfl rfl ?_ (stepsOK_cons rfl rfl ?_ (stepsOK_cons rfl rfl ?_ (stepsOK_cons rfl rfl ?_ (stepsOK_cons rfl rfl ?_ (stepsOK_cons rfl rfl ?_ (stepsOK_cons rfl rfl ?_ (stepsOK_cons rfl rfl ?_ (stepsOK_cons rfl rfl ?_ (stepsOK_cons rfl rfl ?_ (stepsOK_cons rfl rfl ?_ (stepsOK_nil))))))))))))))
        · intro vals w1 hb hd
          refine stepOK_value (v := v1) (w' := w1) (by go_simp) (leaves_mk (Below.refl _ _) rfl (fun h => by cases h))
        · intro vals w1 hb hd
          refine stepOK_value (v := .pointer (some ⟨b1, 1, none⟩)) (w' := w1) (by go_simp) (leaves_mk (Below.refl _ _) rfl (fun h => by cases h))
        · intro vals w1 hb hd
          have d1 : KEq (.pointer (some ⟨b1, 1, none⟩)) (vals 1) w1 := hd 1 (by kernel_rfl)
          obtain ⟨e0, e1, e2⟩ := row3 (heap_below B1.out hb)
          rw [show vals 1 = _ from d1]
          refine stepOK_value (v := .slice (some ⟨bk, ok, none⟩) 2 c) (w' := w1) (by go_simp) (leaves_mk (Below.refl _ _) rfl (fun h => by cases h))
        · intro vals w1 hb hd
          have d2 : KEq (.slice (some ⟨bk, ok, none⟩) 2 c) (vals 2) w1 := hd 2 (by kernel_rfl)
          rw [show vals 2 = _ from d2]
          refine stepOK_value (v := .pointer (some ⟨bk, ok + 3, none⟩)) (w' := w1) (by go_simp) (leaves_mk (Below.refl _ _) rfl (fun h => by cases h))
        · intro vals w1 hb hd
          have d3 : KEq (.pointer (some ⟨bk, ok + 3, none⟩)) (vals 3) w1 := hd 3 (by kernel_rfl)
          have hbx := HB.out.trans (hb.mono HB.out.size)
          have k0 := (hbx.cell (p := ⟨bk, _, none⟩) hbk).trans KB.out.1
          have k1 := (hbx.cell (p := ⟨bk, _, none⟩) hbk).trans KB.out.2.1
          have k2 := (hbx.cell (p := ⟨bk, _, none⟩) hbk).trans KB.out.2.2
          rw [show vals 3 = _ from d3]
          refine stepOK_value (v := .agg #[.int .i64 kvb, .slice kab knb kcb, .int .i64 krb]) (w' := w1) (by go_simp) (leaves_mk (Below.refl _ _) rfl (fun h => by cases h))
        · intro vals w1 hb hd
          refine stepOK_value (v := .pointer (some ⟨b2, 0, none⟩)) (w' := w1) (by go_simp) (leaves_mk (Below.refl _ _) rfl (fun h => by cases h))
        · intro vals w1 hb hd
          have d5 : KEq (.pointer (some ⟨b2, 0, none⟩)) (vals 5) w1 := hd 5 (by kernel_rfl)
          obtain ⟨e0, e1⟩ := row2c (heap_below B2.out hb)
          rw [show vals 5 = _ from d5]
          refine stepOK_value (v := .int .i64 (y : Nat)) (w' := w1) (by go_simp) (leaves_mk (Below.refl _ _) rfl (fun h => by cases h))
        · intro vals w1 hb hd
          refine stepOK_value (v := .pointer (some ⟨b1, 0, none⟩)) (w' := w1) (by go_simp) (leaves_mk (Below.refl _ _) rfl (fun h => by cases h))
        · intro vals w1 hb hd
          have d7 : KEq (.pointer (some ⟨b1, 0, none⟩)) (vals 7) w1 := hd 7 (by kernel_rfl)
          obtain ⟨e0, e1, e2⟩ := row3 (heap_below B1.out hb)
          rw [show vals 7 = _ from d7]
          refine stepOK_value (v := .int .i64 (vn : Nat)) (w' := w1) (by go_simp) (leaves_mk (Below.refl _ _) rfl (fun h => by cases h))
        · intro vals w1 hb hd
          have d8 : KEq (.int .i64 (vn : Nat)) (vals 8) w1 := hd 8 (by kernel_rfl)
          rw [show vals 8 = _ from d8]
          refine stepOK_value (v := .int .i64 (P2 : Nat)) (w' := w1) (by go_simp; first | done | exact DP.out) (leaves_mk (Below.refl _ _) rfl (fun h => by cases h))
        · intro vals w1 hb hd
          have d6 : KEq (.int .i64 (y : Nat)) (vals 6) w1 := hd 6 (by kernel_rfl)
          have d9 : KEq (.int .i64 (P2 : Nat)) (vals 9) w1 := hd 9 (by kernel_rfl)
          rw [show vals 6 = _ from d6]
          rw [show vals 9 = _ from d9]
          refine stepOK_value (v := .int .i64 (yb : Nat)) (w' := w1) (by go_simp; first | done | exact DY.out) (leaves_mk (Below.refl _ _) rfl (fun h => by cases h))
        · intro vals w1 hb hd
          refine stepOK_value (v := .pointer (some ⟨b2, 1, none⟩)) (w' := w1) (by go_simp) (leaves_mk (Below.refl _ _) rfl (fun h => by cases h))
        · intro vals w1 hb hd
          have d11 : KEq (.pointer (some ⟨b2, 1, none⟩)) (vals 11) w1 := hd 11 (by kernel_rfl)
          obtain ⟨e0, e1⟩ := row2c (heap_below B2.out hb)
          rw [show vals 11 = _ from d11]
          refine stepOK_value (v := .int .i64 (n : Nat)) (w' := w1) (by go_simp) (leaves_mk (Below.refl _ _) rfl (fun h => by cases h))
        · intro vals w1 hb hd
          have d10 : KEq (.int .i64 (yb : Nat)) (vals 10) w1 := hd 10 (by kernel_rfl)
          have d12 : KEq (.int .i64 (n : Nat)) (vals 12) w1 := hd 12 (by kernel_rfl)
          rw [show vals 10 = _ from d10]
          rw [show vals 12 = _ from d12]
          refine stepOK_value (v := .agg #[.int .i64 (yb : Nat), .int .i64 (n : Nat)]) (w' := w1) (by go_simp) (leaves_mk (Below.refl _ _) rfl (fun h => by cases h))
      case tl4 =>
        intro vals w4 hb4 hf hdis
        simp only [List.drop_succ_cons, List.drop_zero]
        have z0 : vals 0 = _ := hf 0 (by decide)
        have z4 : vals 4 = _ := hf 4 (by decide)
        have z13 : vals 13 = _ := hf 13 (by decide)
        rw [z0, z4, z13]
        clear z0 z4 z13 hf hdis
        have HB := Lib.hid (HB.out.trans (hb4.mono HB.out.size))
        have HO := Lib.hid (HO.out.below hb4); have HGW := Lib.hid (gb_below HGW.out hb4)
        have hs4 := hb4.size
        clear hb4
        have HK := Lib.hid (sleaves_any V hV N b HSB.out _ v1 yb n B _ (l ++ trLeaves a y nb) w0 w4 HTB.out HB.out HOB.out HYB.out hn HO.out hB0 (by omega) (by rw [List.length_append, trLvs_length]; omega))
        go_wp2_with (with_reducible refine pauseCall ?_)
        refine Pause.mk ?_
        (with_reducible refine HK.out.mono ?_); rintro e w5 ⟨v2, rfl, ho2, gb2, ne2⟩
        have H1 := Lib.hid ho2; have H2 := Lib.hid (gb_row HGW.out gb2 NE.out)
        have H3 := Lib.hid (show ∀ g, g < w.heap.size → vv.ownBlock ≠ some g → v2.ownBlock ≠ some g from fun g hg h => ne2 g (by omega) (NE.out g hg h))
        clear ho2 gb2 ne2 HK
        go_wp2_with fail
        go_ret
        exact ⟨_, rfl, by rw [TL.out, ← List.append_assoc]; exact H1.out, H2.out, H3.out⟩
  | N + 1, .mk _ [_] _, _, _, _, _, _, _, _, _, _, _, _, _, hok, _, _, _, _, _, _ => by simp only [trOK] at hok
  | N + 1, .mk _ (_ :: _ :: _ :: _) _, _, _, _, _, _, _, _, _, _, _, _, _, hok, _, _, _, _, _, _ => by simp only [trOK] at hok
end Go.Proofs.YthhgfhdmfhnklaaGreatDoor
/-
  split.Leaves: the leaves of a tree, or the error.
  Conditions: each theorem's own.
-/
namespace Go.Proofs.YthhgfhdmfhnklaaGreatDoor
open Go.RowKit Go.ChangeShapes Go.WideShapes


set_option maxRecDepth 100000 in
set_option maxHeartbeats 2000000 in
theorem sLeaves_any (x : Value) (t : Tr) (vars : Int) (w : World) (ht : TrV w x t) (hv : 0 ≤ vars ∧ vars ≤ 24) (ec : Nat) (hec : (trErr vars t 0 0).2 = ec) :
    Calls Tryz.prog 17 #[x, .int .i64 vars] w (fun e w' => ∃ v', e = .returned (.tuple #[v', errV ec]) ∧ Below w.heap.size w w' ∧ (ec = 0 → LfsV w' v' (trLeaves t 0 0))) := by
  obtain ⟨v, r, ao, kn, c, rfl⟩ := ht.shape
  obtain ⟨W, hW⟩ : ∃ W, W = w.alloc (.cells #[.int .i64 v, .slice ao kn c, .int .i64 r] 27) := ⟨_, rfl⟩
  have hbW : Below w.heap.size w W := by rw [hW]; exact (Below.refl _ _).alloc (Nat.le_refl _) _
  have hB1 : W.heap[w.heap.size]? = some (.cells #[.int .i64 v, .slice ao kn c, .int .i64 r] 27) := by rw [hW]; exact heap_alloc_new w _
  have HK := Lib.hid (scheck_any _ t vars W (ht.below hbW) hv)
  rw [hec] at HK
  have HT := Lib.hid ht; have HBW := Lib.hid hbW; have B1 := Lib.hid hB1
  clear hbW ht hB1
  go_enter Tryz.func17, Tryz.ntmps17
  go_wp2_with (with_reducible refine pauseCall ?_)
  rw [← hW]
  refine Pause.mk ?_
  (with_reducible refine HK.out.mono ?_); rintro e w1 ⟨rfl, hb1⟩
  have HB1 := Lib.hid (HBW.out.trans (hb1.mono HBW.out.size))
  obtain ⟨x0, x1, x2⟩ := row3 (heap_below B1.out hb1)
  clear hb1 HK hW
  by_cases h0 : ec = 0
  · obtain ⟨m, hm⟩ : ∃ m, trErr vars t 0 0 = (m, 0) := ⟨_, Prod.ext rfl (hec.trans h0)⟩
    obtain ⟨k1, k2, k3⟩ := trErr_ok t 0 0 m hm
    obtain ⟨V, rfl⟩ : ∃ V : Nat, vars = V := ⟨vars.toNat, by omega⟩
    have hlv := (trDep_le t).2
    have hk := sleaves_any V (by omega) _ t (Nat.lt_succ_self _) _ (.slice none 0 0) 0 0 w1.heap.size 0 [] w w1 HT.out HB1.out k1 (by decide) (by decide) (OwnL.nil _ _ _ _) HB1.out.size (Nat.le_refl _) (by simp only [List.length_nil]; omega)
    rw [show ((0 : Nat) : Int) = 0 from rfl] at hk
    have HK := Lib.hid hk
    clear hm k1 k2 k3 hk hec
    subst h0
    rw [errV_zero]
    go_wp2_with (with_reducible refine pauseCall ?_)
    refine Pause.mk ?_
    (with_reducible refine HK.out.mono ?_); rintro e w2 ⟨v', rfl, ho, gb, _⟩
    have HB2 := Lib.hid (HB1.out.grown gb HB1.out.size (fun k hk => by cases hk)); have HL := Lib.hid (show LfsV w2 v' (trLeaves t 0 0) from own_lfs ho.1)
    clear gb ho HK x0 x1 x2
    go_wp2_with fail
    go_ret2
    exact ⟨_, rfl, HB2.out, by first | exact HL.out | (intro _; exact HL.out)⟩
  · rw [errV_pos h0]
    go_wp2_with fail
    go_ret2
    exact ⟨_, by rw [errV_pos h0]; rfl, HB1.out, fun h => absurd h h0⟩
end Go.Proofs.YthhgfhdmfhnklaaGreatDoor
/-
  The cubes of a tree's leaves; the number of a certificate's error.
  Conditions: none.
-/
namespace Go.Proofs.YthhgfhdmfhnklaaGreatDoor

theorem leaves_okC {vars : Int} : ∀ (t : Tr) (y n above : Nat), trOK vars t above → (∀ i, above.testBit i = (y.testBit i || n.testBit i)) → okC vars.toNat y n → ∀ x ∈ trLeaves t y n, okC vars.toNat x.yes x.no
  | .mk v [] r, y, n, above, _, _, hc, x, hx => by
    simp only [trLeaves, List.mem_singleton] at hx
    subst hx; exact hc
  | .mk v [a, b] r, y, n, above, ho, hb, hc, x, hx => by
    simp only [trOK] at ho
    obtain ⟨h0, h1, h2, _, ha, hbb⟩ := ho
    have hv : v.toNat < vars.toNat := by omega
    have hyn := hb v.toNat
    rw [h2] at hyn
    have hy : y.testBit v.toNat = false := by cases h : y.testBit v.toNat with
      | false => rfl
      | true => rw [h] at hyn; simp at hyn
    have hn : n.testBit v.toNat = false := by cases h : n.testBit v.toNat with
      | false => rfl
      | true => rw [h] at hyn; simp at hyn
    simp only [trLeaves, List.mem_append] at hx
    rcases hx with hx | hx
    · refine leaves_okC a y (n ||| 1 <<< v.toNat) _ ha (fun i => ?_) (okC_no hc hv hy) x hx
      rw [bit_or, bit_or, hb i, Bool.or_assoc]
    · refine leaves_okC b (y ||| 1 <<< v.toNat) n _ hbb (fun i => ?_) (okC_yes hc hv hn) x hx
      rw [bit_or, bit_or, hb i]
      cases y.testBit i <;> cases n.testBit i <;> simp
  | .mk _ [_] _, _, _, _, ho, _, _, _, _ => by simp only [trOK] at ho
  | .mk _ (_ :: _ :: _ :: _) _, _, _, _, ho, _, _, _, _ => by simp only [trOK] at ho
theorem okC_zero (vars : Nat) : okC vars 0 0 := fun i => ⟨fun h => by simp at h, fun h => by simp at h⟩
theorem okC_lt {V y n : Nat} (h : okC V y n) : y < 2 ^ V ∧ n < 2 ^ V ∧ y &&& n = 0 := by
  refine ⟨?_, ?_, ?_⟩
  · exact Nat.lt_pow_two_of_testBit y (fun i hi => by cases hb : y.testBit i with
      | false => rfl
      | true => have := ((h i).1 hb).2; omega)
  · exact Nat.lt_pow_two_of_testBit n (fun i hi => by cases hb : n.testBit i with
      | false => rfl
      | true => have := (h i).2 hb; omega)
  · apply Nat.eq_of_testBit_eq
    intro i
    rw [Nat.testBit_and, Nat.zero_testBit]
    cases hb : y.testBit i with
    | false => rfl
    | true => rw [((h i).1 hb).1]; rfl
/-- the number of the error of a formula and a tree -/
def cErr (f : Fm) (t : Tr) : Nat := if fmErr f ≠ 0 then fmErr f else (trErr f.vars t 0 0).2
theorem cErr_ok {f : Fm} {t : Tr} (h : cErr f t = 0) : fmErr f = 0 ∧ (trErr f.vars t 0 0).2 = 0 ∧ trOK f.vars t 0 ∧ trSz t ≤ 4096 := by
  unfold cErr at h
  split at h
  · rename_i h1; exact absurd h h1
  · rename_i h1
    have h2 : fmErr f = 0 := by omega
    obtain ⟨k1, k2, k3⟩ := trErr_ok t 0 0 _ (Prod.ext rfl h : trErr f.vars t 0 0 = ((trErr f.vars t 0 0).1, 0))
    exact ⟨h2, h, k1, by omega⟩
/-- a certificate's leaves: cubes over the formula's events -/
theorem cert_cubes {f : Fm} {t : Tr} (h : cErr f t = 0) : ∀ x ∈ trLeaves t 0 0, okC f.vars.toNat x.yes x.no :=
  leaves_okC t 0 0 0 (cErr_ok h).2.2.1 (fun i => by simp) (okC_zero _)
end Go.Proofs.YthhgfhdmfhnklaaGreatDoor
/-
  proof.leaves, first and Verify.
  Conditions: each theorem's own.
-/
namespace Go.Proofs.YthhgfhdmfhnklaaGreatDoor
open Go.RowKit Go.ChangeShapes Go.WideShapes

theorem okC_cube {vars : Int} {y n : Nat} (h : okC vars.toNat y n) (h0 : 0 ≤ vars) (h1 : vars ≤ 24) : CubeOK vars y n := ⟨h0, h1, (okC_lt h).1, (okC_lt h).2.1, (okC_lt h).2.2⟩
theorem cErr_f {f : Fm} {t : Tr} (h : fmErr f ≠ 0) : cErr f t = fmErr f := by unfold cErr; rw [if_pos h]
theorem cErr_t {f : Fm} {t : Tr} (h : fmErr f = 0) : cErr f t = (trErr f.vars t 0 0).2 := by unfold cErr; rw [if_neg (by rw [h]; exact fun h => h rfl)]
set_option maxRecDepth 100000 in
set_option maxHeartbeats 4000000 in
theorem pleaves_any (vf x : Value) (f : Fm) (t : Tr) (w : World) (hf : FmV w vf f) (ht : TrV w x t) (ec : Nat) (hec : cErr f t = ec) :
    Calls Tryz.prog 38 #[vf, x] w (fun e w' => ∃ v', e = .returned (.tuple #[v', errV ec]) ∧ Below w.heap.size w w' ∧ (ec = 0 → LfsV w' v' (trLeaves t 0 0))) := by
  obtain ⟨nv, rfl, hn, hv, htp⟩ := hf
  obtain ⟨ao, c, rfl, hc, hc2, _⟩ := hn.shape
  have HF := Lib.hid (show FmV w _ f from ⟨_, rfl, hn, hv, htp⟩)
  have HT := Lib.hid ht
  obtain ⟨tv, tr, ta, tn, tc, rfl⟩ := ht.shape
  obtain ⟨W, hW⟩ : ∃ W, W = (w.alloc (.cells #[.int .i64 f.vars, .slice ao f.nodes.length c, .int .i64 f.top] 24)).alloc (.cells #[.int .i64 tv, .slice ta tn tc, .int .i64 tr] 27) := ⟨_, rfl⟩
  have hbW : Below w.heap.size w W := by rw [hW]; exact ((Below.refl _ _).alloc (Nat.le_refl _) _).alloc (by simp) _
  have hg1 : W.heap[w.heap.size]? = some (.cells #[.int .i64 f.vars, .slice ao f.nodes.length c, .int .i64 f.top] 24) := by rw [hW]; exact heap_alloc2_old w _ _
  have hg2 : W.heap[w.heap.size + 1]? = some (.cells #[.int .i64 tv, .slice ta tn tc, .int .i64 tr] 27) := by rw [hW]; exact heap_alloc2_new w _ _
  obtain ⟨g1, hG1⟩ : ∃ g, g = w.heap.size := ⟨_, rfl⟩
  obtain ⟨g2, hG2⟩ : ∃ g, g = w.heap.size + 1 := ⟨_, rfl⟩
  rw [← hG1] at hg1; rw [← hG2] at hg2
  have HBW := Lib.hid hbW; have G1 := Lib.hid hg1; have G2 := Lib.hid hg2
  obtain ⟨x0, x1, x2⟩ := row3 hg1
  obtain ⟨y0, y1, y2⟩ := row3 hg2
  rw [hW, hG1] at x0 x1 x2
  rw [hW, hG2] at y0 y1 y2
  clear hbW hg1 hg2 hn hv htp ht
  have HK := Lib.hid (fcheck_any _ f W (HF.out.below HBW.out))
  go_enter Tryz.func38, Tryz.ntmps38
  go_wp2_with (with_reducible refine pauseCall ?_)
  rw [← hW, ← hG2, ← hG1]; clear hW hG1 hG2 x0 x1 x2 y0 y1 y2
  refine Pause.mk ?_
  (with_reducible refine HK.out.mono ?_); rintro e w1 ⟨rfl, hb1⟩
  have HB1 := Lib.hid (HBW.out.trans (hb1.mono HBW.out.size))
  obtain ⟨x0, x1, x2⟩ := row3 (heap_below G1.out hb1)
  obtain ⟨y0, y1, y2⟩ := row3 (heap_below G2.out hb1)
  clear hb1 HK
  by_cases h0 : fmErr f = 0
  · obtain ⟨p0, p1, _, _⟩ := fmErr_parts h0
    rw [cErr_t h0] at hec
    have HK := Lib.hid (sLeaves_any _ t f.vars w1 (HT.out.below HB1.out) ⟨p0, p1⟩ ec hec)
    rw [h0, errV_zero]
    clear hec
    go_wp2_with (with_reducible refine pauseCall ?_)
    refine Pause.mk ?_
    (with_reducible refine HK.out.mono ?_); rintro e w2 ⟨v', rfl, hb2, hl⟩
    have HB2 := Lib.hid (HB1.out.trans (hb2.mono HB1.out.size)); have HL := Lib.hid hl
    clear hb2 hl HK x0 x1 x2 y0 y1 y2
    go_wp2_with fail
    go_ret2
    exact ⟨_, rfl, HB2.out, HL.out⟩
  · rw [cErr_f h0] at hec
    rw [hec] at h0 ⊢
    rw [errV_pos h0]
    go_wp2_with fail
    go_ret2
    exact ⟨_, by rw [errV_pos h0]; rfl, HB1.out, fun h => absurd h h0⟩

theorem firstBad_drop {f : Fm} {l : List Lf} {q : Nat} {x : Lf} (h : l[q]? = some x) : firstBad f (l.drop q) q = if badL f x then (q : Int) else firstBad f (l.drop (q + 1)) (q + 1) := by
  obtain ⟨h1, h2⟩ := List.getElem?_eq_some_iff.1 h
  rw [List.drop_eq_getElem_cons h1, h2]; simp only [firstBad]
set_option maxRecDepth 100000 in
set_option maxHeartbeats 4000000 in
theorem pfirst_any (vf v : Value) (f : Fm) (l : List Lf) (w : World) (hf : FmV w vf f) (hl : LfsV w v l) (h0 : fmErr f = 0) (hcu : ∀ x ∈ l, CubeOK f.vars x.yes x.no) (hr : ∀ x ∈ l, I64 x.reason) (hlen : l.length ≤ 4096) :
    Calls Tryz.prog 39 #[vf, v] w (RetV w (.tuple #[.int .i64 (firstBad f l 0), .nilIface])) := by
  obtain ⟨nv, rfl, hn, hv, htp⟩ := hf
  obtain ⟨ao, c, rfl, hc, hc2, _⟩ := hn.shape
  have HF := Lib.hid (show FmV w _ f from ⟨_, rfl, hn, hv, htp⟩)
  obtain ⟨al, cl, rfl, hcl, hcl2, _⟩ := hl.shape
  have HL := Lib.hid hl
  obtain ⟨W, hW⟩ : ∃ W, W = w.alloc (.cells #[.int .i64 f.vars, .slice ao f.nodes.length c, .int .i64 f.top] 24) := ⟨_, rfl⟩
  have hbW : Below w.heap.size w W := by rw [hW]; exact (Below.refl _ _).alloc (Nat.le_refl _) _
  have hg1 : W.heap[w.heap.size]? = some (.cells #[.int .i64 f.vars, .slice ao f.nodes.length c, .int .i64 f.top] 24) := by rw [hW]; exact heap_alloc_new w _
  obtain ⟨g1, hG1⟩ : ∃ g, g = w.heap.size := ⟨_, rfl⟩
  rw [← hG1] at hg1
  have HBW := Lib.hid hbW; have G1 := Lib.hid hg1; have HCU := Lib.hid hcu; have HR := Lib.hid hr; have E0 := Lib.hid h0
  have hnd := (fmErr_parts h0).2.2.2
  have HND := Lib.hid hnd
  clear hbW hg1 hn hv htp hl hcu hr hnd h0
  go_enter Tryz.func39, Tryz.ntmps39
  go_wp2_with fail
  rw [← hW, ← hG1]; clear hW hG1
  go_loopw [12] (fun i' wx => ∃ q : Nat, q ≤ l.length ∧ i' = .int .i64 q ∧ Hid (Below W.heap.size W wx) ∧ Hid (firstBad f l 0 = firstBad f (l.drop q) q)) (fun i' _ => l.length - (intOf i').toNat)
  case atStart => exact ⟨0, Nat.zero_le _, rfl, Lib.hid (Below.refl _ _), Lib.hid rfl⟩
  case round =>
    obtain ⟨q, hq, rfl, BX, FB⟩ := hrel
    obtain ⟨wo, rfl⟩ : ∃ wo : World, wo = wr := ⟨_, rfl⟩
    have HBo := Lib.hid (HBW.out.trans (BX.out.mono HBW.out.size))
    by_cases hlt : q < l.length
    · obtain ⟨x, hx⟩ : ∃ x, l[q]? = some x := ⟨l[q], List.getElem?_eq_getElem hlt⟩
      obtain ⟨bl, ol, rfl, hbl, hjk, hat⟩ := (HL.out.below HBo.out).at (by omega); clear hjk
      obtain ⟨c0, c1, c2⟩ := hat q x hx
      have hmem := List.mem_of_getElem? hx
      have FD := Lib.hid (firstBad_drop (f := f) hx)
      have BP := Lib.hid (bad_prog HND.out x)
      have hri := HR.out x hmem
      unfold I64 at hri
      have HCX := Lib.hid (HCU.out x hmem)
      clear hat hx hmem
      obtain ⟨xy, xn, xr⟩ := x
      simp only at c0 c1 c2 hri HCX
      obtain ⟨w4, hw4⟩ : ∃ w4, w4 = wo.alloc (.cells #[.int .i64 (xy : Nat), .int .i64 (xn : Nat), .int .i64 xr] 48) := ⟨_, rfl⟩
      have hb4 : Below wo.heap.size wo w4 := by rw [hw4]; exact (Below.refl _ _).alloc (Nat.le_refl _) _
      have hx4 : w4.heap[wo.heap.size]? = some (.cells #[.int .i64 (xy : Nat), .int .i64 (xn : Nat), .int .i64 xr] 48) := by rw [hw4]; exact heap_alloc_new wo _
      obtain ⟨g4, hg4⟩ : ∃ g, g = wo.heap.size := ⟨_, rfl⟩
      rw [← hg4] at hx4
      have HB4 := Lib.hid (HBo.out.trans (hb4.mono HBo.out.size)); have BX4 := Lib.hid (BX.out.trans (hb4.mono BX.out.size))
      have G4 := Lib.hid hx4
      have G1' := Lib.hid (heap_below G1.out BX4.out)
      have hltz : (q : Int) < (l.length : Int) := by omega
      clear hb4
      by_cases r2 : xr = 2
      · have NB := Lib.hid (show firstBad f l 0 = firstBad f (l.drop (q + 1)) (q + 1) by rw [FB.out, FD.out, if_neg (by rw [BP.out]; simp [r2])])
        subst r2
        go_wp2_with fail
        rw [← hw4]
        go_roundw
        case rel => exact ⟨q + 1, by omega, by go_num, Lib.hid BX4.out, Lib.hid NB.out⟩
        case measure => simp [intOf]; omega
      · obtain ⟨x0, x1, x2⟩ := row3 G1'.out
        obtain ⟨z0, z1, z2⟩ := row3 hx4
        have HK := Lib.hid (tvalue_any _ f xy xn w4 (HF.out.below HB4.out) E0.out HCX.out)
        rw [hw4] at x0 x1 x2
        rw [hw4, hg4] at z0 z1 z2
        go_wp2_with (with_reducible refine pauseCall ?_)
        rw [← hw4, ← hg4]
        clear x0 x1 x2 z0 z1 z2 hw4 hg4 hx4 c0 c1 c2
        refine Pause.mk ?_
        (with_reducible refine HK.out.mono ?_); rintro e w5 ⟨rfl, hb5⟩
        have BX5 := Lib.hid (BX4.out.trans (hb5.mono BX4.out.size)); have HB5 := Lib.hid (HB4.out.trans (hb5.mono HB4.out.size))
        obtain ⟨z0, z1, z2⟩ := row3 (heap_below G4.out hb5)
        clear hb5 HK
        obtain ⟨fv, hfv⟩ : ∃ fv, fv = fmVal f xy xn := ⟨_, rfl⟩
        rw [← hfv] at BP ⊢; clear hfv
        by_cases d1 : (fv : Int) = xr
        · by_cases d2 : xr < 0
          · have R := Lib.hid (show firstBad f l 0 = (q : Int) by rw [FB.out, FD.out, if_pos (by rw [BP.out]; simp [r2, d2])])
            exfalso; omega
          · have NB := Lib.hid (show firstBad f l 0 = firstBad f (l.drop (q + 1)) (q + 1) by rw [FB.out, FD.out, if_neg (by rw [BP.out]; simp [d1]; omega)])
            subst d1
            go_wp2_with fail
            go_roundw
            case rel => exact ⟨q + 1, by omega, by go_num, Lib.hid BX5.out, Lib.hid NB.out⟩
            case measure => simp [intOf]; omega
        · have R := Lib.hid (show firstBad f l 0 = (q : Int) by rw [FB.out, FD.out, if_pos (by rw [BP.out]; simp [r2, d1])])
          have d1' : (((fv : Nat) : Int) != xr) = true := bne_iff_ne.2 d1
          go_wp2_with fail
          go_ret2
          exact ⟨by rw [R.out]; rfl, HB5.out⟩
    · have hq' : q = l.length := by omega
      subst hq'
      have R := Lib.hid (show firstBad f l 0 = -1 by rw [FB.out, List.drop_length]; rfl)
      go_wp2_with fail
      go_ret2
      exact ⟨by rw [R.out]; rfl, HBo.out⟩

theorem leaves_reason {w : World} : ∀ (t : Tr) (x : Value) (y n : Nat), TrV w x t → ∀ z ∈ trLeaves t y n, I64 z.reason
  | .mk v [] r, x, y, n, ht, z, hz => by
    simp only [trLeaves, List.mem_singleton] at hz
    subst hz; exact ht.open.choose_spec.choose_spec.2.2.2.2.2
  | .mk v [a, b] r, x, y, n, ht, z, hz => by
    obtain ⟨ao, c, rfl, hks, hc1, hc2, _, _⟩ := ht.open
    obtain ⟨bk, ok, rfl, hbk, hjk, hat⟩ := hks.at (by simp)
    obtain ⟨_, _, _, _, _, _, _, _, h1⟩ := (hat 0 a rfl).val
    obtain ⟨_, _, _, _, _, _, _, _, h2⟩ := (hat 1 b rfl).val
    simp only [trLeaves, List.mem_append] at hz
    rcases hz with hz | hz
    · exact leaves_reason a _ _ _ h1 z hz
    · exact leaves_reason b _ _ _ h2 z hz
  | .mk v [a] r, x, y, n, ht, z, hz => by
    simp only [trLeaves, List.mem_singleton] at hz
    subst hz; exact ht.open.choose_spec.choose_spec.2.2.2.2.2
  | .mk v (_ :: _ :: _ :: _) r, x, y, n, ht, z, hz => by
    simp only [trLeaves, List.mem_singleton] at hz
    subst hz; exact ht.open.choose_spec.choose_spec.2.2.2.2.2
end Go.Proofs.YthhgfhdmfhnklaaGreatDoor
/-
  The reference: size, Make, Of, Floor, Round: what they hand back.
  Conditions: each theorem's own.
-/
namespace Go.Proofs.YthhgfhdmfhnklaaGreatDoor
open Go.RowKit Go.ChangeShapes Go.WideShapes

/-- two words of a number -/
def RetTwo (w : World) (n : Nat) (e : Ending) (w' : World) : Prop := ∃ v l, e = .returned v ∧ Below w.heap.size w w' ∧ Num w' v l ∧ val l = n ∧ l.length = 2
theorem two_words (n : Nat) : val [n % 4294967296, n / 4294967296] = n := by
  simp only [val]; omega
set_option maxRecDepth 100000 in
set_option maxHeartbeats 800000 in
theorem rsize_any (n : Int) (w : World) (h0 : -9223372036854775808 ≤ n) (h1 : n < 9223372036854775808) :
    Calls Tryz.prog 108 #[.int .i64 n] w (RetTwo w n.natAbs) := by
  obtain ⟨m, hm⟩ : ∃ m, m = n.natAbs := ⟨_, rfl⟩
  rw [← hm]
  have hmb : m ≤ 9223372036854775808 := by omega
  have hlo := num_lit w 156 #[.int .u32 ((m % 4294967296 : Nat) : Int), .int .u32 ((m / 4294967296 : Nat) : Int)] [m % 4294967296, m / 4294967296] 2 (U32.cons (by omega) (U32.cons (by omega) U32.nil)) rfl (by simp) rfl
  have HLO := Lib.hid hlo
  have e0 : ((m % 4294967296 : Nat) : Int) = (m : Int) % 4294967296 := by omega
  have e1 : ((m / 4294967296 : Nat) : Int) = (m : Int) / 4294967296 := by omega
  rw [e0, e1] at HLO
  by_cases h : n < 0
  · have hn : n = -(m : Int) := by omega
    subst hn
    have f1 : decide (-(m : Int) < 0) = true := decide_eq_true h
    have f2 : decide (0 < m) = true := decide_eq_true (by omega)
    have hwr : IntKind.u64.wrap (-IntKind.u64.wrap (-(m : Int))) = (m : Int) := by
      have e : ∀ n : Int, IntKind.u64.wrap n = n % 18446744073709551616 := fun n => rfl
      rw [e, e]; omega
    clear hm hlo e0 e1
    go_enter Tryz.func108, Tryz.ntmps108
    go_wp2_with fail
    go_ret
    exact ⟨_, _, rfl, (Below.refl _ _).alloc (Nat.le_refl _) _, HLO.out, two_words m, rfl⟩
  · have hn : n = (m : Int) := by omega
    subst hn
    have f1 : decide ((m : Int) < 0) = false := decide_eq_false h
    clear hm hlo e0 e1
    go_enter Tryz.func108, Tryz.ntmps108
    go_wp2_with fail
    go_ret
    exact ⟨_, _, rfl, (Below.refl _ _).alloc (Nat.le_refl _) _, HLO.out, two_words m, rfl⟩
set_option maxRecDepth 100000 in
set_option maxHeartbeats 3200000 in
theorem rmake_any (n : Int) (d : Int) (w : World)  (h0 : -9223372036854775808 ≤ n) (h1 : n < 9223372036854775808) (g0 : -9223372036854775808 ≤ d) (g1 : d < 9223372036854775808) :
    Calls Tryz.prog 70 #[.int .i64 n, .int .i64 d] w (RetRE w ((n : Rat) / (d : Rat)) (.int .i64 (zc d.natAbs : Nat))) := by
  have hb0 := ((Below.refl w.heap.size w).alloc (by first | (simp; done) | (simp; omega)) (.cells #[.bool false, .slice none 0 0, .slice none 0 0] 54))
  have hxR := nest1_0 w (.cells #[.bool false, .slice none 0 0, .slice none 0 0] 54)
  obtain ⟨w0, hw0⟩ : ∃ w0, w0 = (w.alloc (.cells #[.bool false, .slice none 0 0, .slice none 0 0] 54)) := ⟨_, rfl⟩
  rw [← hw0] at hb0 hxR
  have HB0 := Lib.hid hb0; have HW0 := Lib.hid hw0
  have BXR := Lib.hid hxR
  clear hb0 hw0 hxR
  have BD := Lib.hid (And.intro h0 h1); have BG := Lib.hid (And.intro g0 g1)
  obtain ⟨z, hz⟩ : ∃ z, z = zc d.natAbs := ⟨_, rfl⟩
  rw [← hz]
  have HZ := Lib.hid hz; clear hz
  go_enter Tryz.func70, Tryz.ntmps70
  have hs := rsize_any n w0 BD.out.1 BD.out.2
  have HS := Lib.hid hs; clear hs
  go_wp2_with fail
  rw [← HW0.out]
  (with_reducible refine HS.out.mono ?_); rintro e w1 ⟨v1, l1, rfl, hb1, hn1, hv1, hl1⟩
  clear HS
  have HB1 := Lib.hid (HB0.out.step hb1)
  have BXR := Lib.hid (heap_below BXR.out hb1)
  have N := Lib.hid hn1; have VN := Lib.hid hv1; have LN := Lib.hid hl1; clear hn1 hb1 hv1 hl1
  have hs := rsize_any d w1 BG.out.1 BG.out.2
  have HS := Lib.hid hs; clear hs
  go_wp2_with fail
  (with_reducible refine HS.out.mono ?_); rintro e w2 ⟨v2, l2, rfl, hb2, hn2, hv2, hl2⟩
  clear HS
  have HB2 := Lib.hid (HB1.out.step hb2)
  have N := Lib.hid (N.out.below hb2)
  have BXR := Lib.hid (heap_below BXR.out hb2)
  have D := Lib.hid hn2; have VD := Lib.hid hv2; have LD := Lib.hid hl2; clear hn2 hb2 hv2 hl2
  have hs := rfrom_any (!(decide (n < 0) == decide (d < 0))) _ _ _ _ w2 N.out D.out (by rw [LN.out]; decide) (by rw [LD.out]; decide)
  rw [VN.out, VD.out, q_ints, ← HZ.out] at hs
  have HS := Lib.hid hs; clear hs
  go_wp2_with fail
  (with_reducible refine HS.out.mono ?_); rintro e w3 ⟨v3, rfl, hb3, hn3⟩
  clear HS
  have HB3 := Lib.hid (HB2.out.step hb3)
  have N := Lib.hid (N.out.below hb3)
  have D := Lib.hid (D.out.below hb3)
  have BXR := Lib.hid (heap_below BXR.out hb3)
  have Q := Lib.hid hn3; clear hn3
  clear hb3
  obtain ⟨sQ, oQ, nQ, cQ, aQ, mQ, dQ, rfl⟩ := Q.out.shape
  obtain ⟨eR0, eR1, eR2⟩ := row3 BXR.out
  obtain ⟨fR0, fR1, fR2⟩ := froz3 BXR.out
  go_wp2_with fail
  refine ret_rat2 rfl w.heap.size _ _ _ rfl (put3_heap BXR.out) rfl ?_
  exact ⟨_, rfl, put3_below HB3.out (by omega) _ _ _, isR_put Q.out BXR.out⟩
end Go.Proofs.YthhgfhdmfhnklaaGreatDoor
/-
  The fields of a fraction's value.
  Conditions: none.
-/
namespace Go.Proofs.YthhgfhdmfhnklaaGreatDoor
theorem RatV.fields {w : World} {s s' : Bool} {x y : Value} {a b : List Nat} (h : RatV w (.agg #[.bool s, x, y]) s' a b) : s = s' ∧ Num w x a ∧ Num w y b := by
  obtain ⟨va, vb, he, h1, h2⟩ := h
  cases he; exact ⟨rfl, h1, h2⟩
end Go.Proofs.YthhgfhdmfhnklaaGreatDoor
/-
  Decimal texts there and back.
  Conditions: none.
-/
namespace Go.Proofs.YthhgfhdmfhnklaaGreatDoor

/-- the decimal text of a number, as a list -/
def decL (n : Nat) : List UInt8 := if n = 0 then [48] else (digD n).reverse
theorem decB_decL (n : Nat) : decB n = ⟨(decL n).toArray⟩ := by
  unfold decB decL; split <;> rfl
theorem decL_len {n k : Nat} (h : n < 10 ^ k) (hk : 0 < k) : (decL n).length ≤ k := by
  unfold decL; split
  · exact hk
  · rw [List.length_reverse]; exact digD_len h
/-- the length of the text of a number of few words -/
theorem decL_words {n k : Nat} (h : (wd n).length ≤ k) (hk : 0 < k) : (decL n).length ≤ 10 * k := by
  refine decL_len (Nat.lt_of_lt_of_le (m := 4294967296 ^ k) ?_ (pow_ten k)) (by omega)
  have h1 := val_lt (u32_wd n)
  rw [val_wd] at h1
  exact Nat.lt_of_lt_of_le h1 (Nat.pow_le_pow_right (by decide) h)
end Go.Proofs.YthhgfhdmfhnklaaGreatDoor
/-
  Text of a fraction; whether two fractions have the same fields.
  Conditions: each theorem's own.
-/
namespace Go.Proofs.YthhgfhdmfhnklaaGreatDoor
open Go.RowKit Go.ChangeShapes Go.WideShapes

/-- the text of a number -/
def rtx (p : Rat) : List UInt8 := (if ng p then [45] else []) ++ decL (nn p) ++ (if p.den = 1 then [] else 47 :: decL p.den)
theorem decB_size {n : Nat} (h : (wd n).length ≤ 100000) : (decB n).size ≤ 1000000 := by
  rw [decB_decL]
  have := decL_words h (by decide)
  simp [ByteArray.size]; omega
theorem cmpN_zero {m n : Nat} (h : cmpN m n = 0) : m = n := by
  unfold cmpN at h; split at h
  · cases h
  · split at h
    · cases h
    · omega
set_option maxRecDepth 100000 in
set_option maxHeartbeats 3200000 in
theorem text_f1 (vp : Value) (p : Rat) (w : World) (hp : RatIs w vp p) (hs : ng p = false) (hd : p.den = 1) :
    Calls Tryz.prog 37 #[vp] w (RetV w (.string ⟨(rtx p).toArray⟩)) := by
  obtain ⟨sp, op, np, cp, ap, mp, dp, rfl⟩ := hp.shape
  have hlp := hp.rl
  have hb0 := ((Below.refl w.heap.size w).alloc (by first | (simp; done) | (simp; omega)) (.cells #[.bool sp, .slice op np cp, .slice ap mp dp] 54))
  have hxp := nest1_0 w (.cells #[.bool sp, .slice op np cp, .slice ap mp dp] 54)
  have hpp := hp.below hb0
  obtain ⟨w0, hw0⟩ : ∃ w0, w0 = (w.alloc (.cells #[.bool sp, .slice op np cp, .slice ap mp dp] 54)) := ⟨_, rfl⟩
  rw [← hw0] at hb0 hxp hpp
  have HB0 := Lib.hid hb0; have HW0 := Lib.hid hw0
  have BXp := Lib.hid hxp
  have Fp := Lib.hid hpp
  clear hb0 hw0 hxp hpp hp
  have l1 := rl_n p; have l2 := rl_d p
  have hz1 := decB_size (n := nn p) (by omega); have hz2 := decB_size (n := p.den) (by omega)
  have heq : (⟨(rtx p).toArray⟩ : ByteArray) = decB (nn p) := by
    unfold rtx; rw [hs, if_pos hd, decB_decL]; apply ByteArray.ext; simp
  rw [heq]
  have hlo : (wd 1).length ≤ 1 := by rw [wd_one_len]; exact Nat.le_refl _
  obtain ⟨c, hc⟩ : ∃ c, c = cmpN p.den 1 := ⟨_, rfl⟩
  have hc0 : c = 0 := by rw [hc]; exact cmpN_eq hd
  have hcb : (c == 0) = true := by rw [hc0]; rfl
  have HC := Lib.hid hc; have HS := Lib.hid hs; have HSP := Lib.hid hs; clear hc hs heq hd hc0
  have ht1 := fun v wx (h : Num wx v (wd (nn p))) => text_any v _ wx h (by omega)
  rw [val_wd] at ht1
  obtain ⟨B, hB⟩ : ∃ B, B = decB (nn p) := ⟨_, rfl⟩; obtain ⟨D, hD⟩ : ∃ D, D = decB p.den := ⟨_, rfl⟩
  rw [← hB] at ht1 hz1 ⊢
  rw [← hD] at hz2
  have HT1 := Lib.hid ht1; clear ht1 hB hD
  go_enter Tryz.func37, Tryz.ntmps37
  have hs := parts_any _ p w0 Fp.out
  have HS := Lib.hid hs; clear hs
  go_wp2_with fail
  rw [← HW0.out]
  (with_reducible refine HS.out.mono ?_); rintro e w1 ⟨v1, u1, rfl, hb1, hn1, hm1⟩
  clear HS
  rw [HSP.out]
  have HB1 := Lib.hid (HB0.out.step hb1)
  have Fp := Lib.hid (Fp.out.below hb1)
  have BXp := Lib.hid (heap_below BXp.out hb1)
  have N := Lib.hid hn1
  have D0 := Lib.hid hm1
  clear hn1 hm1
  clear hb1
  have hs := HT1.out _ w1 N.out
  have HS := Lib.hid hs; clear hs
  go_wp2_with fail
  (with_reducible refine HS.out.mono ?_); rintro e w2 ⟨rfl, hb2⟩
  clear HS
  have HB2 := Lib.hid (HB1.out.step hb2)
  have Fp := Lib.hid (Fp.out.below hb2)
  have N := Lib.hid (N.out.below hb2)
  have D0 := Lib.hid (D0.out.below hb2)
  have BXp := Lib.hid (heap_below BXp.out hb2)
  clear hb2
  have hs := one_any w2
  have HS := Lib.hid hs; clear hs
  go_wp2_with fail
  (with_reducible refine HS.out.mono ?_); rintro e w3 ⟨v3, rfl, hb3, hn3⟩
  clear HS
  have HB3 := Lib.hid (HB2.out.step hb3)
  have Fp := Lib.hid (Fp.out.below hb3)
  have N := Lib.hid (N.out.below hb3)
  have D0 := Lib.hid (D0.out.below hb3)
  have BXp := Lib.hid (heap_below BXp.out hb3)
  have ONE := Lib.hid hn3; clear hn3
  clear hb3
  have hs := cmpN_ D0.out ONE.out (by omega) (by omega)
  rw [← HC.out] at hs
  have HS := Lib.hid hs; clear hs
  go_wp2_with fail
  (with_reducible refine HS.out.mono ?_); rintro e w4 ⟨rfl, hb4⟩
  clear HS
  have HB4 := Lib.hid (HB3.out.step hb4)
  have Fp := Lib.hid (Fp.out.below hb4)
  have N := Lib.hid (N.out.below hb4)
  have D0 := Lib.hid (D0.out.below hb4)
  have ONE := Lib.hid (ONE.out.below hb4)
  have BXp := Lib.hid (heap_below BXp.out hb4)
  clear hb4
  go_wp2_with fail
  all_goals first | (go_ret; exact ⟨by first | rfl | (simp; done), HB4.out⟩) | (rename_i h; exact absurd h (by simp; omega))
set_option maxRecDepth 100000 in
set_option maxHeartbeats 3200000 in
theorem text_f0 (vp : Value) (p : Rat) (w : World) (hp : RatIs w vp p) (hs : ng p = false) (hd : p.den ≠ 1) :
    Calls Tryz.prog 37 #[vp] w (RetV w (.string ⟨(rtx p).toArray⟩)) := by
  obtain ⟨sp, op, np, cp, ap, mp, dp, rfl⟩ := hp.shape
  have hlp := hp.rl
  have hb0 := ((Below.refl w.heap.size w).alloc (by first | (simp; done) | (simp; omega)) (.cells #[.bool sp, .slice op np cp, .slice ap mp dp] 54))
  have hxp := nest1_0 w (.cells #[.bool sp, .slice op np cp, .slice ap mp dp] 54)
  have hpp := hp.below hb0
  obtain ⟨w0, hw0⟩ : ∃ w0, w0 = (w.alloc (.cells #[.bool sp, .slice op np cp, .slice ap mp dp] 54)) := ⟨_, rfl⟩
  rw [← hw0] at hb0 hxp hpp
  have HB0 := Lib.hid hb0; have HW0 := Lib.hid hw0
  have BXp := Lib.hid hxp
  have Fp := Lib.hid hpp
  clear hb0 hw0 hxp hpp hp
  have l1 := rl_n p; have l2 := rl_d p
  have hz1 := decB_size (n := nn p) (by omega); have hz2 := decB_size (n := p.den) (by omega)
  have heq : (⟨(rtx p).toArray⟩ : ByteArray) = decB (nn p) ++ (⟨#[47]⟩ ++ decB p.den) := by
    unfold rtx; rw [hs, if_neg hd, decB_decL, decB_decL]; apply ByteArray.ext; simp
  rw [heq]
  have hlo : (wd 1).length ≤ 1 := by rw [wd_one_len]; exact Nat.le_refl _
  obtain ⟨c, hc⟩ : ∃ c, c = cmpN p.den 1 := ⟨_, rfl⟩
  have hcb : (c == 0) = false := by rw [hc, beq_eq_false_iff_ne]; exact fun e => hd (cmpN_zero e)
  have HC := Lib.hid hc; have HS := Lib.hid hs; have HSP := Lib.hid hs; clear hc hs heq hd
  have ht1 := fun v wx (h : Num wx v (wd (nn p))) => text_any v _ wx h (by omega)
  rw [val_wd] at ht1
  obtain ⟨B, hB⟩ : ∃ B, B = decB (nn p) := ⟨_, rfl⟩; obtain ⟨D, hD⟩ : ∃ D, D = decB p.den := ⟨_, rfl⟩
  rw [← hB] at ht1 hz1 ⊢
  rw [← hD] at hz2 ⊢
  have ht2 := fun v wx (h : Num wx v (wd p.den)) => text_any v _ wx h (by omega)
  rw [val_wd, ← hD] at ht2
  have HT2 := Lib.hid ht2; clear ht2
  have HT1 := Lib.hid ht1; clear ht1 hB hD
  go_enter Tryz.func37, Tryz.ntmps37
  have hs := parts_any _ p w0 Fp.out
  have HS := Lib.hid hs; clear hs
  go_wp2_with fail
  rw [← HW0.out]
  (with_reducible refine HS.out.mono ?_); rintro e w1 ⟨v1, u1, rfl, hb1, hn1, hm1⟩
  clear HS
  rw [HSP.out]
  have HB1 := Lib.hid (HB0.out.step hb1)
  have Fp := Lib.hid (Fp.out.below hb1)
  have BXp := Lib.hid (heap_below BXp.out hb1)
  have N := Lib.hid hn1
  have D0 := Lib.hid hm1
  clear hn1 hm1
  clear hb1
  have hs := HT1.out _ w1 N.out
  have HS := Lib.hid hs; clear hs
  go_wp2_with fail
  (with_reducible refine HS.out.mono ?_); rintro e w2 ⟨rfl, hb2⟩
  clear HS
  have HB2 := Lib.hid (HB1.out.step hb2)
  have Fp := Lib.hid (Fp.out.below hb2)
  have N := Lib.hid (N.out.below hb2)
  have D0 := Lib.hid (D0.out.below hb2)
  have BXp := Lib.hid (heap_below BXp.out hb2)
  clear hb2
  have hs := one_any w2
  have HS := Lib.hid hs; clear hs
  go_wp2_with fail
  (with_reducible refine HS.out.mono ?_); rintro e w3 ⟨v3, rfl, hb3, hn3⟩
  clear HS
  have HB3 := Lib.hid (HB2.out.step hb3)
  have Fp := Lib.hid (Fp.out.below hb3)
  have N := Lib.hid (N.out.below hb3)
  have D0 := Lib.hid (D0.out.below hb3)
  have BXp := Lib.hid (heap_below BXp.out hb3)
  have ONE := Lib.hid hn3; clear hn3
  clear hb3
  have hs := cmpN_ D0.out ONE.out (by omega) (by omega)
  rw [← HC.out] at hs
  have HS := Lib.hid hs; clear hs
  go_wp2_with fail
  (with_reducible refine HS.out.mono ?_); rintro e w4 ⟨rfl, hb4⟩
  clear HS
  have HB4 := Lib.hid (HB3.out.step hb4)
  have Fp := Lib.hid (Fp.out.below hb4)
  have N := Lib.hid (N.out.below hb4)
  have D0 := Lib.hid (D0.out.below hb4)
  have ONE := Lib.hid (ONE.out.below hb4)
  have BXp := Lib.hid (heap_below BXp.out hb4)
  clear hb4
  have hs := HT2.out _ w4 D0.out
  have HS := Lib.hid hs; clear hs
  go_wp2_with fail
  (with_reducible refine HS.out.mono ?_); rintro e w5 ⟨rfl, hb5⟩
  clear HS
  have HB5 := Lib.hid (HB4.out.step hb5)
  have Fp := Lib.hid (Fp.out.below hb5)
  have N := Lib.hid (N.out.below hb5)
  have D0 := Lib.hid (D0.out.below hb5)
  have ONE := Lib.hid (ONE.out.below hb5)
  have BXp := Lib.hid (heap_below BXp.out hb5)
  clear hb5
  go_wp2_with fail
  all_goals first | (go_ret; exact ⟨by first | rfl | (simp; done), HB5.out⟩) | (rename_i h; exact absurd h (by simp; omega))
set_option maxRecDepth 100000 in
set_option maxHeartbeats 3200000 in
theorem text_t1 (vp : Value) (p : Rat) (w : World) (hp : RatIs w vp p) (hs : ng p = true) (hd : p.den = 1) :
    Calls Tryz.prog 37 #[vp] w (RetV w (.string ⟨(rtx p).toArray⟩)) := by
  obtain ⟨sp, op, np, cp, ap, mp, dp, rfl⟩ := hp.shape
  have hlp := hp.rl
  have hb0 := ((Below.refl w.heap.size w).alloc (by first | (simp; done) | (simp; omega)) (.cells #[.bool sp, .slice op np cp, .slice ap mp dp] 54))
  have hxp := nest1_0 w (.cells #[.bool sp, .slice op np cp, .slice ap mp dp] 54)
  have hpp := hp.below hb0
  obtain ⟨w0, hw0⟩ : ∃ w0, w0 = (w.alloc (.cells #[.bool sp, .slice op np cp, .slice ap mp dp] 54)) := ⟨_, rfl⟩
  rw [← hw0] at hb0 hxp hpp
  have HB0 := Lib.hid hb0; have HW0 := Lib.hid hw0
  have BXp := Lib.hid hxp
  have Fp := Lib.hid hpp
  clear hb0 hw0 hxp hpp hp
  have l1 := rl_n p; have l2 := rl_d p
  have hz1 := decB_size (n := nn p) (by omega); have hz2 := decB_size (n := p.den) (by omega)
  have heq : (⟨(rtx p).toArray⟩ : ByteArray) = ⟨#[45]⟩ ++ decB (nn p) := by
    unfold rtx; rw [hs, if_pos hd, decB_decL]; apply ByteArray.ext; simp
  rw [heq]
  have hlo : (wd 1).length ≤ 1 := by rw [wd_one_len]; exact Nat.le_refl _
  obtain ⟨c, hc⟩ : ∃ c, c = cmpN p.den 1 := ⟨_, rfl⟩
  have hc0 : c = 0 := by rw [hc]; exact cmpN_eq hd
  have hcb : (c == 0) = true := by rw [hc0]; rfl
  have HC := Lib.hid hc; have HS := Lib.hid hs; have HSP := Lib.hid hs; clear hc hs heq hd hc0
  have ht1 := fun v wx (h : Num wx v (wd (nn p))) => text_any v _ wx h (by omega)
  rw [val_wd] at ht1
  obtain ⟨B, hB⟩ : ∃ B, B = decB (nn p) := ⟨_, rfl⟩; obtain ⟨D, hD⟩ : ∃ D, D = decB p.den := ⟨_, rfl⟩
  rw [← hB] at ht1 hz1 ⊢
  rw [← hD] at hz2
  have HT1 := Lib.hid ht1; clear ht1 hB hD
  go_enter Tryz.func37, Tryz.ntmps37
  have hs := parts_any _ p w0 Fp.out
  have HS := Lib.hid hs; clear hs
  go_wp2_with fail
  rw [← HW0.out]
  (with_reducible refine HS.out.mono ?_); rintro e w1 ⟨v1, u1, rfl, hb1, hn1, hm1⟩
  clear HS
  rw [HSP.out]
  have HB1 := Lib.hid (HB0.out.step hb1)
  have Fp := Lib.hid (Fp.out.below hb1)
  have BXp := Lib.hid (heap_below BXp.out hb1)
  have N := Lib.hid hn1
  have D0 := Lib.hid hm1
  clear hn1 hm1
  clear hb1
  have hs := HT1.out _ w1 N.out
  have HS := Lib.hid hs; clear hs
  go_wp2_with fail
  (with_reducible refine HS.out.mono ?_); rintro e w2 ⟨rfl, hb2⟩
  clear HS
  have HB2 := Lib.hid (HB1.out.step hb2)
  have Fp := Lib.hid (Fp.out.below hb2)
  have N := Lib.hid (N.out.below hb2)
  have D0 := Lib.hid (D0.out.below hb2)
  have BXp := Lib.hid (heap_below BXp.out hb2)
  clear hb2
  have hs := one_any w2
  have HS := Lib.hid hs; clear hs
  go_wp2_with fail
  (with_reducible refine HS.out.mono ?_); rintro e w3 ⟨v3, rfl, hb3, hn3⟩
  clear HS
  have HB3 := Lib.hid (HB2.out.step hb3)
  have Fp := Lib.hid (Fp.out.below hb3)
  have N := Lib.hid (N.out.below hb3)
  have D0 := Lib.hid (D0.out.below hb3)
  have BXp := Lib.hid (heap_below BXp.out hb3)
  have ONE := Lib.hid hn3; clear hn3
  clear hb3
  have hs := cmpN_ D0.out ONE.out (by omega) (by omega)
  rw [← HC.out] at hs
  have HS := Lib.hid hs; clear hs
  go_wp2_with fail
  (with_reducible refine HS.out.mono ?_); rintro e w4 ⟨rfl, hb4⟩
  clear HS
  have HB4 := Lib.hid (HB3.out.step hb4)
  have Fp := Lib.hid (Fp.out.below hb4)
  have N := Lib.hid (N.out.below hb4)
  have D0 := Lib.hid (D0.out.below hb4)
  have ONE := Lib.hid (ONE.out.below hb4)
  have BXp := Lib.hid (heap_below BXp.out hb4)
  clear hb4
  go_wp2_with fail
  all_goals first | (go_ret; exact ⟨by first | rfl | (simp; done), HB4.out⟩) | (rename_i h; exact absurd h (by simp; omega))
set_option maxRecDepth 100000 in
set_option maxHeartbeats 3200000 in
theorem text_t0 (vp : Value) (p : Rat) (w : World) (hp : RatIs w vp p) (hs : ng p = true) (hd : p.den ≠ 1) :
    Calls Tryz.prog 37 #[vp] w (RetV w (.string ⟨(rtx p).toArray⟩)) := by
  obtain ⟨sp, op, np, cp, ap, mp, dp, rfl⟩ := hp.shape
  have hlp := hp.rl
  have hb0 := ((Below.refl w.heap.size w).alloc (by first | (simp; done) | (simp; omega)) (.cells #[.bool sp, .slice op np cp, .slice ap mp dp] 54))
  have hxp := nest1_0 w (.cells #[.bool sp, .slice op np cp, .slice ap mp dp] 54)
  have hpp := hp.below hb0
  obtain ⟨w0, hw0⟩ : ∃ w0, w0 = (w.alloc (.cells #[.bool sp, .slice op np cp, .slice ap mp dp] 54)) := ⟨_, rfl⟩
  rw [← hw0] at hb0 hxp hpp
  have HB0 := Lib.hid hb0; have HW0 := Lib.hid hw0
  have BXp := Lib.hid hxp
  have Fp := Lib.hid hpp
  clear hb0 hw0 hxp hpp hp
  have l1 := rl_n p; have l2 := rl_d p
  have hz1 := decB_size (n := nn p) (by omega); have hz2 := decB_size (n := p.den) (by omega)
  have heq : (⟨(rtx p).toArray⟩ : ByteArray) = ⟨#[45]⟩ ++ decB (nn p) ++ (⟨#[47]⟩ ++ decB p.den) := by
    unfold rtx; rw [hs, if_neg hd, decB_decL, decB_decL]; apply ByteArray.ext; simp
  rw [heq]
  have hlo : (wd 1).length ≤ 1 := by rw [wd_one_len]; exact Nat.le_refl _
  obtain ⟨c, hc⟩ : ∃ c, c = cmpN p.den 1 := ⟨_, rfl⟩
  have hcb : (c == 0) = false := by rw [hc, beq_eq_false_iff_ne]; exact fun e => hd (cmpN_zero e)
  have HC := Lib.hid hc; have HS := Lib.hid hs; have HSP := Lib.hid hs; clear hc hs heq hd
  have ht1 := fun v wx (h : Num wx v (wd (nn p))) => text_any v _ wx h (by omega)
  rw [val_wd] at ht1
  obtain ⟨B, hB⟩ : ∃ B, B = decB (nn p) := ⟨_, rfl⟩; obtain ⟨D, hD⟩ : ∃ D, D = decB p.den := ⟨_, rfl⟩
  rw [← hB] at ht1 hz1 ⊢
  rw [← hD] at hz2 ⊢
  have ht2 := fun v wx (h : Num wx v (wd p.den)) => text_any v _ wx h (by omega)
  rw [val_wd, ← hD] at ht2
  have HT2 := Lib.hid ht2; clear ht2
  have HT1 := Lib.hid ht1; clear ht1 hB hD
  go_enter Tryz.func37, Tryz.ntmps37
  have hs := parts_any _ p w0 Fp.out
  have HS := Lib.hid hs; clear hs
  go_wp2_with fail
  rw [← HW0.out]
  (with_reducible refine HS.out.mono ?_); rintro e w1 ⟨v1, u1, rfl, hb1, hn1, hm1⟩
  clear HS
  rw [HSP.out]
  have HB1 := Lib.hid (HB0.out.step hb1)
  have Fp := Lib.hid (Fp.out.below hb1)
  have BXp := Lib.hid (heap_below BXp.out hb1)
  have N := Lib.hid hn1
  have D0 := Lib.hid hm1
  clear hn1 hm1
  clear hb1
  have hs := HT1.out _ w1 N.out
  have HS := Lib.hid hs; clear hs
  go_wp2_with fail
  (with_reducible refine HS.out.mono ?_); rintro e w2 ⟨rfl, hb2⟩
  clear HS
  have HB2 := Lib.hid (HB1.out.step hb2)
  have Fp := Lib.hid (Fp.out.below hb2)
  have N := Lib.hid (N.out.below hb2)
  have D0 := Lib.hid (D0.out.below hb2)
  have BXp := Lib.hid (heap_below BXp.out hb2)
  clear hb2
  have hs := one_any w2
  have HS := Lib.hid hs; clear hs
  go_wp2_with fail
  (with_reducible refine HS.out.mono ?_); rintro e w3 ⟨v3, rfl, hb3, hn3⟩
  clear HS
  have HB3 := Lib.hid (HB2.out.step hb3)
  have Fp := Lib.hid (Fp.out.below hb3)
  have N := Lib.hid (N.out.below hb3)
  have D0 := Lib.hid (D0.out.below hb3)
  have BXp := Lib.hid (heap_below BXp.out hb3)
  have ONE := Lib.hid hn3; clear hn3
  clear hb3
  have hs := cmpN_ D0.out ONE.out (by omega) (by omega)
  rw [← HC.out] at hs
  have HS := Lib.hid hs; clear hs
  go_wp2_with fail
  (with_reducible refine HS.out.mono ?_); rintro e w4 ⟨rfl, hb4⟩
  clear HS
  have HB4 := Lib.hid (HB3.out.step hb4)
  have Fp := Lib.hid (Fp.out.below hb4)
  have N := Lib.hid (N.out.below hb4)
  have D0 := Lib.hid (D0.out.below hb4)
  have ONE := Lib.hid (ONE.out.below hb4)
  have BXp := Lib.hid (heap_below BXp.out hb4)
  clear hb4
  have hs := HT2.out _ w4 D0.out
  have HS := Lib.hid hs; clear hs
  go_wp2_with fail
  (with_reducible refine HS.out.mono ?_); rintro e w5 ⟨rfl, hb5⟩
  clear HS
  have HB5 := Lib.hid (HB4.out.step hb5)
  have Fp := Lib.hid (Fp.out.below hb5)
  have N := Lib.hid (N.out.below hb5)
  have D0 := Lib.hid (D0.out.below hb5)
  have ONE := Lib.hid (ONE.out.below hb5)
  have BXp := Lib.hid (heap_below BXp.out hb5)
  clear hb5
  go_wp2_with fail
  all_goals first | (go_ret; exact ⟨by first | rfl | (simp; done), HB5.out⟩) | (rename_i h; exact absurd h (by simp; omega))
theorem textq_any (vp : Value) (p : Rat) (w : World) (hp : RatIs w vp p) : Calls Tryz.prog 37 #[vp] w (RetV w (.string ⟨(rtx p).toArray⟩)) := by
  by_cases h : ng p = true
  · by_cases h2 : p.den = 1
    · exact text_t1 vp p w hp h h2
    · exact text_t0 vp p w hp h h2
  · have h := Bool.eq_false_iff.2 h
    by_cases h2 : p.den = 1
    · exact text_f1 vp p w hp h h2
    · exact text_f0 vp p w hp h h2
theorem IsR.fields {w : World} {s : Bool} {x y : Value} {q : Rat} (h : IsR w (.agg #[.bool s, x, y]) q) : s = ng q ∧ Num w x (wd (nn q)) ∧ Num w y (wd (dn q)) := by
  obtain ⟨va, vb, e, h1, h2⟩ := h
  cases e
  exact ⟨rfl, h1, h2⟩
end Go.Proofs.YthhgfhdmfhnklaaGreatDoor
/-
  Int, Prob and the reference's Int, Prob: what they hand back.
  Conditions: each theorem's own.
-/
namespace Go.Proofs.YthhgfhdmfhnklaaGreatDoor
open Go.RowKit Go.ChangeShapes Go.WideShapes

/-- whether fields are a probability -/
def prB (s : Bool) (a b : List Nat) : Bool := decide (Vld s a b ∧ 0 ≤ rq s a b ∧ rq s a b ≤ 1)
theorem prB_no {s : Bool} {a b : List Nat} (h : ¬ Vld s a b) : prB s a b = false := decide_eq_false (fun k => h k.1)
theorem prB_neg {s : Bool} {a b : List Nat} (h : rq s a b < 0) : prB s a b = false := decide_eq_false (fun k => by have := k.2.1; grind)
theorem prB_of {s : Bool} {a b : List Nat} (h : Vld s a b) (h0 : 0 ≤ rq s a b) : prB s a b = decide (cq (rq s a b) 1 ≤ 0) := by
  unfold prB; rw [decide_eq_decide, cq_le]; exact ⟨fun k => k.2.2, fun k => ⟨h, h0, k⟩⟩
theorem cmpN_cq {q : Rat} (h : 0 ≤ q) : decide (cmpN (nn q) (dn q) ≤ 0) = decide (cq q 1 ≤ 0) := by
  have hs : ng q = false := decide_eq_false (by grind)
  have hp := prob_iff q
  rw [decide_eq_decide, cq_le]
  have : cmpN (nn q) (dn q) ≤ 0 ↔ nn q ≤ dn q := by unfold cmpN; split <;> (try split) <;> omega
  rw [this]
  exact ⟨fun k => (hp.1 ⟨hs, k⟩).2, fun k => (hp.2 ⟨h, k⟩).2⟩
set_option maxRecDepth 100000 in
set_option maxHeartbeats 3200000 in
theorem prob_no (vp : Value) (p : Rat) (w : World) (hp : RatIs w vp p) {sr : Bool} {ar br : List Nat} (hr : RatV w vp sr ar br) (hla : ar.length ≤ 100000) (hlb : br.length ≤ 100000) (hpe : p = rq sr ar br) (hv : ¬ Vld sr ar br) :
    Calls Tryz.prog 86 #[vp] w (RetV w (.bool (prB sr ar br))) := by
  obtain ⟨sp, op, np, cp, ap, mp, dp, rfl⟩ := hp.shape
  have hlp := hp.rl
  have hsr : sp = sr := hr.fields.1
  subst hsr
  rw [prB_no hv]
  have HV := Lib.hid (decide_eq_false hv); clear hv hpe
  have hb0 := ((Below.refl w.heap.size w).alloc (by first | (simp; done) | (simp; omega)) (.cells #[.bool sp, .slice op np cp, .slice ap mp dp] 54))
  have hxp := nest1_0 w (.cells #[.bool sp, .slice op np cp, .slice ap mp dp] 54)
  have hpp := hp.below hb0
  have hpraw := hr.below hb0
  obtain ⟨w0, hw0⟩ : ∃ w0, w0 = (w.alloc (.cells #[.bool sp, .slice op np cp, .slice ap mp dp] 54)) := ⟨_, rfl⟩
  rw [← hw0] at hb0 hxp hpp hpraw
  have HB0 := Lib.hid hb0; have HW0 := Lib.hid hw0
  have BXp := Lib.hid hxp
  have Fp := Lib.hid hpp
  have Fraw := Lib.hid hpraw; clear hpraw hr
  clear hb0 hw0 hxp hpp hp
  go_enter Tryz.func86, Tryz.ntmps86
  have hs := valid_any _ _ ar br w0 Fraw.out (by omega) (by omega)
  rw [HV.out] at hs
  have HS := Lib.hid hs; clear hs
  go_wp2_with fail
  rw [← HW0.out]
  (with_reducible refine HS.out.mono ?_); rintro e w1 ⟨rfl, hb1⟩
  clear HS
  have HB1 := Lib.hid (HB0.out.step hb1)
  have Fp := Lib.hid (Fp.out.below hb1)
  have Fraw := Lib.hid (Fraw.out.below hb1)
  have BXp := Lib.hid (heap_below BXp.out hb1)
  clear hb1
  go_wp2_with fail
  go_ret
  exact ⟨by first | rfl | (simp; done), HB1.out⟩
set_option maxRecDepth 100000 in
set_option maxHeartbeats 3200000 in
theorem prob_neg (vp : Value) (p : Rat) (w : World) (hp : RatIs w vp p) {sr : Bool} {ar br : List Nat} (hr : RatV w vp sr ar br) (hla : ar.length ≤ 100000) (hlb : br.length ≤ 100000) (hpe : p = rq sr ar br) (hv : Vld sr ar br) (hq : p < 0) :
    Calls Tryz.prog 86 #[vp] w (RetV w (.bool (prB sr ar br))) := by
  obtain ⟨sp, op, np, cp, ap, mp, dp, rfl⟩ := hp.shape
  have hlp := hp.rl
  have hsr : sp = sr := hr.fields.1
  subst hsr
  obtain ⟨q1, q2, q3⟩ := vld_fields hr.lt.1 hr.lt.2 hv
  rw [← hpe] at q1 q2 q3
  have HV := Lib.hid (decide_eq_true hv)
  rw [prB_neg (by rw [← hpe]; exact hq)]
  have hs : sp = true := by rw [q1]; exact decide_eq_true hq
  have HS0 := Lib.hid hs; clear hs
  clear hv hpe q1 q2 q3 hq
  have hb0 := ((Below.refl w.heap.size w).alloc (by first | (simp; done) | (simp; omega)) (.cells #[.bool sp, .slice op np cp, .slice ap mp dp] 54))
  have hxp := nest1_0 w (.cells #[.bool sp, .slice op np cp, .slice ap mp dp] 54)
  have hpp := hp.below hb0
  have hpraw := hr.below hb0
  obtain ⟨w0, hw0⟩ : ∃ w0, w0 = (w.alloc (.cells #[.bool sp, .slice op np cp, .slice ap mp dp] 54)) := ⟨_, rfl⟩
  rw [← hw0] at hb0 hxp hpp hpraw
  have HB0 := Lib.hid hb0; have HW0 := Lib.hid hw0
  have BXp := Lib.hid hxp
  have Fp := Lib.hid hpp
  have Fraw := Lib.hid hpraw; clear hpraw hr
  clear hb0 hw0 hxp hpp hp
  go_enter Tryz.func86, Tryz.ntmps86
  have hs0 := HS0.out; clear HS0; subst hs0
  have hs := valid_any _ _ ar br w0 Fraw.out (by omega) (by omega)
  rw [HV.out] at hs
  have HS := Lib.hid hs; clear hs
  go_wp2_with fail
  rw [← HW0.out]
  (with_reducible refine HS.out.mono ?_); rintro e w1 ⟨rfl, hb1⟩
  clear HS
  have HB1 := Lib.hid (HB0.out.step hb1)
  have Fp := Lib.hid (Fp.out.below hb1)
  have Fraw := Lib.hid (Fraw.out.below hb1)
  have BXp := Lib.hid (heap_below BXp.out hb1)
  clear hb1
  obtain ⟨ep0, ep1, ep2⟩ := row3 BXp.out
  go_wp2_with fail
  clear ep0 ep1 ep2
  go_ret
  exact ⟨by first | rfl | (simp; done), HB1.out⟩
set_option maxRecDepth 100000 in
set_option maxHeartbeats 3200000 in
theorem prob_in (vp : Value) (p : Rat) (w : World) (hp : RatIs w vp p) {sr : Bool} {ar br : List Nat} (hr : RatV w vp sr ar br) (hla : ar.length ≤ 100000) (hlb : br.length ≤ 100000) (hpe : p = rq sr ar br) (hv : Vld sr ar br) (hq : 0 ≤ p) :
    Calls Tryz.prog 86 #[vp] w (RetV w (.bool (prB sr ar br))) := by
  obtain ⟨sp, op, np, cp, ap, mp, dp, rfl⟩ := hp.shape
  have hlp := hp.rl
  have hsr : sp = sr := hr.fields.1
  subst hsr
  obtain ⟨q1, q2, q3⟩ := vld_fields hr.lt.1 hr.lt.2 hv
  rw [← hpe] at q1 q2 q3
  have HV := Lib.hid (decide_eq_true hv)
  rw [prB_of hv (by rw [← hpe]; exact hq), ← hpe, ← cmpN_cq hq]
  have hs : sp = false := by rw [q1]; exact decide_eq_false (by grind)
  have HS0 := Lib.hid hs; clear hs
  subst q2; subst q3
  obtain ⟨c, hc⟩ : ∃ c, c = cmpN (nn p) (dn p) := ⟨_, rfl⟩
  rw [← hc]
  obtain ⟨r, hrr⟩ : ∃ r, r = decide (c ≤ 0) := ⟨_, rfl⟩
  have HR := Lib.hid hrr; have HC := Lib.hid hc; clear hc hv hpe q1 hq
  rw [← hrr]
  have hr2 : decide (c ≤ 0) = r := hrr.symm
  clear hrr
  have hb0 := ((Below.refl w.heap.size w).alloc (by first | (simp; done) | (simp; omega)) (.cells #[.bool sp, .slice op np cp, .slice ap mp dp] 54))
  have hxp := nest1_0 w (.cells #[.bool sp, .slice op np cp, .slice ap mp dp] 54)
  have hpp := hp.below hb0
  have hpraw := hr.below hb0
  obtain ⟨w0, hw0⟩ : ∃ w0, w0 = (w.alloc (.cells #[.bool sp, .slice op np cp, .slice ap mp dp] 54)) := ⟨_, rfl⟩
  rw [← hw0] at hb0 hxp hpp hpraw
  have HB0 := Lib.hid hb0; have HW0 := Lib.hid hw0
  have BXp := Lib.hid hxp
  have Fp := Lib.hid hpp
  have Fraw := Lib.hid hpraw; clear hpraw hr
  clear hb0 hw0 hxp hpp hp
  go_enter Tryz.func86, Tryz.ntmps86
  have hs0 := HS0.out; clear HS0; subst hs0
  have hs := valid_any _ _ (wd (nn p)) (wd (dn p)) w0 Fraw.out (by omega) (by omega)
  rw [HV.out] at hs
  have HS := Lib.hid hs; clear hs
  go_wp2_with fail
  rw [← HW0.out]
  (with_reducible refine HS.out.mono ?_); rintro e w1 ⟨rfl, hb1⟩
  clear HS
  have HB1 := Lib.hid (HB0.out.step hb1)
  have Fp := Lib.hid (Fp.out.below hb1)
  have Fraw := Lib.hid (Fraw.out.below hb1)
  have BXp := Lib.hid (heap_below BXp.out hb1)
  clear hb1
  have hs := cmpN_ Fraw.out.fields.2.1 Fraw.out.fields.2.2 (by omega) (by omega)
  rw [← HC.out] at hs
  have HS := Lib.hid hs; clear hs
  obtain ⟨ep0, ep1, ep2⟩ := row3 BXp.out
  go_wp2_with fail
  clear ep0 ep1 ep2
  (with_reducible refine HS.out.mono ?_); rintro e w2 ⟨rfl, hb2⟩
  clear HS
  have HB2 := Lib.hid (HB1.out.step hb2)
  have Fp := Lib.hid (Fp.out.below hb2)
  have Fraw := Lib.hid (Fraw.out.below hb2)
  have BXp := Lib.hid (heap_below BXp.out hb2)
  clear hb2
  go_wp2_with fail
  go_ret
  exact ⟨by first | rfl | (simp; done), HB2.out⟩
theorem prob_any (v : Value) (s : Bool) (a b : List Nat) (w : World) (h : RatV w v s a b) (hla : a.length ≤ 40000) (hlb : b.length ≤ 40000) :
    Calls Tryz.prog 86 #[v] w (RetV w (.bool (prB s a b))) := by
  have hi : RatIs w v (rq s a b) := h.is (by omega) (by omega)
  skip
  by_cases hv : Vld s a b
  · by_cases hq : rq s a b < 0
    · exact prob_neg v _ w hi h (by omega) (by omega) rfl hv hq
    · exact prob_in v _ w hi h (by omega) (by omega) rfl hv (by grind)
  · exact prob_no v _ w hi h (by omega) (by omega) rfl hv
end Go.Proofs.YthhgfhdmfhnklaaGreatDoor
/-
  Fractions by their fields; the weight of a cube as the code sums it up.
  Conditions: none.
-/
namespace Go.Proofs.YthhgfhdmfhnklaaGreatDoor

/-- a fraction's fields -/
structure Rv where
  s : Bool
  a : List Nat
  b : List Nat
def Rv.q (r : Rv) : Rat := rq r.s r.a r.b
/-- the weight, factor by factor -/
def wtG : List Rat → Nat → Nat → Nat → Rat → Rat
  | [], _, _, _, acc => acc
  | p :: ps, i, y, n, acc => wtG ps (i + 1) y n (if y.testBit i then acc * p else if n.testBit i then acc * (1 - p) else acc)
theorem wtG_eq : ∀ (ps : List Rat) (i y n : Nat) (acc : Rat), wtG ps i y n acc = acc * wtL ps i y n
  | [], i, y, n, acc => by simp only [wtG, wtL]; grind
  | p :: ps, i, y, n, acc => by
    simp only [wtG, wtL]
    rw [wtG_eq ps]
    unfold wtAt
    split
    · grind
    split
    · grind
    · grind
theorem wtG_drop {ps : List Rat} {q y n : Nat} {p acc : Rat} (h : ps[q]? = some p) : wtG (ps.drop q) q y n acc = wtG (ps.drop (q + 1)) (q + 1) y n (if y.testBit q then acc * p else if n.testBit q then acc * (1 - p) else acc) := by
  obtain ⟨h1, h2⟩ := List.getElem?_eq_some_iff.1 h
  rw [List.drop_eq_getElem_cons h1, h2]; simp only [wtG]
/-- fractions in [0, 1], of few words -/
structure RvOK (k : Nat) (r : Rv) : Prop where
  pr : prB r.s r.a r.b = true
  la : r.a.length ≤ k
  lb : r.b.length ≤ k
  lq : rl r.q ≤ k
theorem RvOK.range {k : Nat} {r : Rv} (h : RvOK k r) : 0 ≤ r.q ∧ r.q ≤ 1 := by
  have := of_decide_eq_true h.pr
  exact ⟨this.2.1, this.2.2⟩
theorem rl_wtAt {p : Rat} {k : Nat} (h : rl p ≤ k) (a b : Bool) : rl (wtAt p a b) ≤ k + 2 := by
  unfold wtAt
  have h1 := rl_one
  have h2 := rl_sub 1 p
  split
  · omega
  split
  · omega
  · omega
theorem rl_wtL {k : Nat} : ∀ (ps : List Rat) (i y n : Nat), (∀ p ∈ ps, rl p ≤ k) → rl (wtL ps i y n) ≤ 1 + ps.length * (k + 2)
  | [], i, y, n, _ => by simp only [wtL]; have := rl_one; omega
  | p :: ps, i, y, n, h => by
    simp only [wtL]
    have h1 := rl_wtAt (h p (by simp)) (y.testBit i) (n.testBit i)
    have h2 := rl_wtL ps (i + 1) y n (fun q hq => h q (by simp [hq]))
    have h3 := rl_mul (wtAt p (y.testBit i) (n.testBit i)) (wtL ps (i + 1) y n)
    simp only [List.length_cons]
    rw [Nat.add_mul]
    omega
/-- the sum of so many weights is short -/
theorem rl_sumF {k : Nat} (ps : List Rat) (hp : ∀ p ∈ ps, rl p ≤ k) (r : Int) : ∀ (l : List Lf) (a : Rat), rl (sumF ps r l a) ≤ rl a + l.length * (2 + ps.length * (k + 2))
  | [], a => by simp only [sumF]; omega
  | x :: xs, a => by
    simp only [sumF]
    split
    · have h1 := rl_sumF ps hp r xs (a + wt ps x.yes x.no)
      have h2 := rl_add a (wt ps x.yes x.no)
      have h3 : rl (wt ps x.yes x.no) ≤ 1 + ps.length * (k + 2) := rl_wtL ps 0 x.yes x.no hp
      simp only [List.length_cons]; rw [Nat.add_mul]; omega
    · have h1 := rl_sumF ps hp r xs a
      simp only [List.length_cons]; rw [Nat.add_mul]; omega
end Go.Proofs.YthhgfhdmfhnklaaGreatDoor
/-
  Lists of fractions in memory.
  Conditions: each theorem's own.
-/
namespace Go.Proofs.YthhgfhdmfhnklaaGreatDoor
open Go.RowKit Go.ChangeShapes Go.WideShapes

/-- three cells read as a fraction of these fields -/
def RvAt (w : World) (b off : Nat) (r : Rv) : Prop := ∃ va vb, w.cell? ⟨b, off, none⟩ = some (.bool r.s) ∧ w.cell? ⟨b, off + 1, none⟩ = some va ∧ w.cell? ⟨b, off + 2, none⟩ = some vb ∧ Num w va r.a ∧ Num w vb r.b
def RvsV (w : World) (v : Value) (l : List Rv) : Prop :=
  ∃ ao c, v = .slice ao l.length c ∧ l.length ≤ c ∧ c ≤ 9223372036854775807 ∧ (ao = none → c = 0) ∧
    ∀ b off s, ao = some ⟨b, off, s⟩ → (0 < l.length → b < w.heap.size ∧ s = none) ∧ ∀ (j : Nat) x, l[j]? = some x → RvAt w b (off + j * 3) x
theorem RvsV.below {w w' : World} {v : Value} {l : List Rv} (h : RvsV w v l) (hb : Below w.heap.size w w') : RvsV w' v l := by
  obtain ⟨ao, c, rfl, h1, h2, h3, h4⟩ := h
  refine ⟨ao, c, rfl, h1, h2, h3, ?_⟩
  intro b off s hs
  obtain ⟨k1, k3⟩ := h4 b off s hs
  refine ⟨fun h0 => ⟨Nat.lt_of_lt_of_le (k1 h0).1 hb.size, (k1 h0).2⟩, fun j x hj => ?_⟩
  have hlt := (k1 (getElem?_pos' hj)).1
  obtain ⟨va, vb, q1, q2, q3, q4, q5⟩ := k3 j x hj
  refine ⟨va, vb, ?_, ?_, ?_, q4.below hb, q5.below hb⟩
  · rw [hb.cell (p := ⟨b, _, none⟩) hlt]; exact q1
  · rw [hb.cell (p := ⟨b, _, none⟩) hlt]; exact q2
  · rw [hb.cell (p := ⟨b, _, none⟩) hlt]; exact q3
theorem RvsV.shape {w : World} {v : Value} {l : List Rv} (h : RvsV w v l) : ∃ ao c, v = .slice ao l.length c ∧ l.length ≤ c ∧ c ≤ 9223372036854775807 ∧ (ao = none → c = 0) := by
  obtain ⟨ao', c', e, h1, h2, h3, h4⟩ := h
  exact ⟨ao', c', e, h1, h2, h3⟩
theorem RvsV.at {w : World} {ao : Option Addr} {n c : Nat} {l : List Rv} (h : RvsV w (.slice ao n c) l) (hn : 0 < n) :
    ∃ b off, ao = some ⟨b, off, none⟩ ∧ b < w.heap.size ∧ n = l.length ∧ ∀ (j : Nat) x, l[j]? = some x → RvAt w b (off + j * 3) x := by
  obtain ⟨ao', c', e, h1, h2, h3, h4⟩ := h
  cases e
  cases hao : ao with
  | none => have := h3 hao; omega
  | some a =>
    obtain ⟨b, off, s⟩ := a
    obtain ⟨k1, k2⟩ := h4 b off s hao
    obtain ⟨k3, rfl⟩ := k1 hn
    exact ⟨b, off, rfl, k3, rfl, k2⟩
/-- the value of a fraction that stands in memory -/
theorem RvAt.val {w : World} {b off : Nat} {r : Rv} (h : RvAt w b off r) : ∃ ao n c bo m d, w.cell? ⟨b, off, none⟩ = some (.bool r.s) ∧ w.cell? ⟨b, off + 1, none⟩ = some (.slice ao n c) ∧ w.cell? ⟨b, off + 2, none⟩ = some (.slice bo m d) ∧ RatV w (.agg #[.bool r.s, .slice ao n c, .slice bo m d]) r.s r.a r.b := by
  obtain ⟨va, vb, q1, q2, q3, q4, q5⟩ := h
  obtain ⟨ao, c, rfl, _⟩ := q4.shape
  obtain ⟨bo, d, rfl, _⟩ := q5.shape
  exact ⟨ao, _, c, bo, _, d, q1, q2, q3, _, _, rfl, q4, q5⟩
/-- the walk's zero fraction -/
theorem RetRE.of {w w' : World} {q : Rat} {er v : Value} (hb : Below w.heap.size w w') (h : IsR w' v q) : RetRE w q er (.returned (.tuple #[v, er])) w' := ⟨v, rfl, hb, h⟩
end Go.Proofs.YthhgfhdmfhnklaaGreatDoor
/-
  cube.Check and Weight: the weight of a cube.
  Conditions: each theorem's own.
-/
namespace Go.Proofs.YthhgfhdmfhnklaaGreatDoor
open Go.RowKit Go.ChangeShapes Go.WideShapes

theorem mask_any (x : Nat) (w : World) (h : x < 16777216) : Calls Tryz.prog 130 #[.int .i64 (x : Nat)] w (RetS w (.bool true)) := by
  have h' : ((x : Nat) : Int) < 16777216 := by omega
  go_enter Tryz.func130, Tryz.ntmps130
  go_wp2
  go_ret
  exact ⟨ret_bool (by first | rfl | (simp; omega)), rfl⟩
set_option maxRecDepth 100000 in
theorem ccheck_any (y n : Nat) (w : World) (hy : y < 16777216) (hn : n < 16777216) (hyn : y &&& n = 0) : Calls Tryz.prog 92 #[.agg #[.int .i64 (y : Nat), .int .i64 (n : Nat)]] w (RetV w .nilIface) := by
  obtain ⟨W, hW⟩ : ∃ W, W = w.alloc (.cells #[.int .i64 (y : Nat), .int .i64 (n : Nat)] 46) := ⟨_, rfl⟩
  have hbW : Below w.heap.size w W := by rw [hW]; exact (Below.refl _ _).alloc (Nat.le_refl _) _
  have HA := Lib.hid (mask_any y W hy); have HB := Lib.hid (mask_any n W hn)
  have hA := show bits .and .i64 (y : Int) (n : Int) = 0 by rw [bits_and (by omega) (by omega), hyn]; rfl
  have hg := (heap_alloc_new w (.cells #[.int .i64 (y : Nat), .int .i64 (n : Nat)] 46))
  rw [← hW] at hg
  obtain ⟨g1, hG1⟩ : ∃ g, g = w.heap.size := ⟨_, rfl⟩
  rw [← hG1] at hg
  go_enter Tryz.func92, Tryz.ntmps92
  go_wp2_with (with_reducible refine pauseCall ?_)
  rw [← hW, ← hG1]; clear hW hG1
  obtain ⟨x0, x1⟩ := row2c hg
  refine Pause.mk ?_
  (with_reducible refine HA.out.mono ?_); rintro e w1 ⟨rfl, rfl⟩
  go_wp2_with (with_reducible refine pauseCall ?_)
  refine Pause.mk ?_
  (with_reducible refine HB.out.mono ?_); rintro e w1 ⟨rfl, rfl⟩
  go_wp2_with fail
  go_ret
  exact ⟨rfl, hbW⟩
/-- a bit, as the code masks it -/
theorem mask_parts {x i : Nat} (hx : x < 4611686018427387904) (hi : i < 24) : ∃ (xa : Nat) (xt : Bool), bits .and .i64 (x : Int) ((2 ^ i : Nat) : Int) = (xa : Int) ∧ ((((xa : Nat) : Int)) != 0) = xt ∧ x.testBit i = xt := by
  have h24 := pow_l24 hi
  refine ⟨x &&& 2 ^ i, x.testBit i, bits_and (by omega) (by omega), ?_, rfl⟩
  have e : x &&& 2 ^ i = if x.testBit i then 2 ^ i else 0 := by
    apply Nat.eq_of_testBit_eq
    intro j
    rw [Nat.testBit_and, Nat.testBit_two_pow]
    by_cases hj : i = j
    · subst hj; cases h : x.testBit i <;> simp
    · cases h : x.testBit i <;> simp [hj]
  rw [e]
  have hp : (2 ^ i : Nat) ≠ 0 := Nat.pos_iff_ne_zero.1 (Nat.pow_pos (by decide))
  cases x.testBit i with
  | false => rfl
  | true => rw [if_pos rfl]; exact bne_iff_ne.2 (by omega)
theorem putL_3r {w : World} {g : Nat} {x0 x1 x2 y0 y1 y2 : Value} {T : TypeId} (h : w.heap[g]? = some (.cells #[x0, x1, x2] T)) : (putL w g 0 [y0, y1, y2]).heap[g]? = some (.cells #[y0, y1, y2] T) := by
  simp [putL, World.setCell, Array.getElem?_modify, h]
set_option maxRecDepth 100000 in
set_option maxHeartbeats 8000000 in
theorem weight_any (v : Value) (L : List Rv) (y n k : Nat) (w : World) (hp : RvsV w v L) (hok : ∀ r ∈ L, RvOK k r) (hlen : L.length ≤ 24) (hy : y < 2 ^ L.length) (hn : n < 2 ^ L.length) (hyn : y &&& n = 0) (hk : k ≤ 1000) :
    Calls Tryz.prog 53 #[.agg #[.int .i64 (y : Nat), .int .i64 (n : Nat)], v] w (RetRE w (wt (L.map Rv.q) y n) .nilIface) := by
  have hl24 := pow_24 hlen
  have hov : y ||| n < 2 ^ L.length := Nat.or_lt_two_pow hy hn
  have hy' : y < 16777216 := by omega
  have hn' : n < 16777216 := by omega
  obtain ⟨ao, c, rfl, hc, hc2, _⟩ := hp.shape
  obtain ⟨W, hW⟩ : ∃ W, W = (w.alloc (.cells #[.int .i64 (y : Nat), .int .i64 (n : Nat)] 46)).alloc (.cells #[.bool false, .slice none 0 0, .slice none 0 0] 54) := ⟨_, rfl⟩
  have hbW : Below w.heap.size w W := by rw [hW]; exact ((Below.refl _ _).alloc (Nat.le_refl _) _).alloc (by simp) _
  have hg2 : W.heap[w.heap.size]? = some (.cells #[.int .i64 (y : Nat), .int .i64 (n : Nat)] 46) := by rw [hW]; exact heap_alloc2_old w _ _
  have hg4 : W.heap[w.heap.size + 1]? = some (.cells #[.bool false, .slice none 0 0, .slice none 0 0] 54) := by rw [hW]; exact heap_alloc2_new w _ _
  obtain ⟨g2, hG2⟩ : ∃ g, g = w.heap.size := ⟨_, rfl⟩
  obtain ⟨g4, hG4⟩ : ∃ g, g = w.heap.size + 1 := ⟨_, rfl⟩
  rw [← hG2] at hg2; rw [← hG4] at hg4
  have l4 : w.heap.size ≤ g4 := by omega
  have HBW := Lib.hid hbW; have G2 := Lib.hid hg2; have G4 := Lib.hid hg4; have HP := Lib.hid hp; have HOK := Lib.hid hok
  have hor : ((y ||| n : Nat) : Int) < ((2 ^ L.length : Nat) : Int) := by omega
  have HOR := Lib.hid (And.intro (bits_or (x := y) (y := n) (by omega) (by omega)) (show ((y ||| n : Nat) : Int) / 2 ^ L.length = 0 by
    have e : (2 : Int) ^ L.length = ((2 ^ L.length : Nat) : Int) := by simp
    rw [e]; exact Int.ediv_eq_zero_of_lt (by omega) hor))
  have HK := Lib.hid (ccheck_any y n W hy' hn' hyn)
  have H0 := Lib.hid (And.intro hy hn)
  clear hbW hg2 hg4 hp hok hor hov hy hn hl24
  go_enter Tryz.func53, Tryz.ntmps53
  go_wp2_with (with_reducible refine pauseCall ?_)
  rw [← hW, ← hG4, ← hG2]; clear hW hG4 hG2
  refine Pause.mk ?_
  (with_reducible refine HK.out.mono ?_); rintro e w1 ⟨rfl, hb1⟩
  have HB1 := Lib.hid (HBW.out.trans (hb1.mono HBW.out.size)); have G2 := Lib.hid (heap_below G2.out hb1); have G4 := Lib.hid (heap_below G4.out hb1)
  clear hb1 HK
  have hlz : (L.length : Int) ≤ 24 := by omega
  go_wp2_with fail
  go_loopw [27] (fun i' wx => ∃ q : Nat, q ≤ L.length ∧ i' = .int .i64 q ∧ Hid (Below w1.heap.size w1 wx)) (fun i' _ => L.length - (intOf i').toNat)
  case atStart => exact ⟨0, Nat.zero_le _, rfl, Lib.hid (Below.refl _ _)⟩
  case round =>
    obtain ⟨q, hq, rfl, BX⟩ := hrel
    obtain ⟨wo, rfl⟩ : ∃ wo : World, wo = wr := ⟨_, rfl⟩
    have HBo := Lib.hid (HB1.out.trans (BX.out.mono HB1.out.size))
    by_cases hlt : q < L.length
    · obtain ⟨r, hr⟩ : ∃ r, L[q]? = some r := ⟨L[q], List.getElem?_eq_getElem hlt⟩
      obtain ⟨bp, op, rfl, hbp, hjk, hat⟩ := (HP.out.below HBo.out).at (by omega); clear hjk
      obtain ⟨ax, nx, cx, bx, mx, dx, c0, c1, c2, hRV⟩ := (hat q r hr).val
      have ho := HOK.out r (List.mem_of_getElem? hr)
      obtain ⟨w4, hw4⟩ : ∃ w4, w4 = wo.alloc (.cells #[.bool r.s, .slice ax nx cx, .slice bx mx dx] 54) := ⟨_, rfl⟩
      have hb4 : Below wo.heap.size wo w4 := by rw [hw4]; exact (Below.refl _ _).alloc (Nat.le_refl _) _
      have hk2 := prob_any _ r.s r.a r.b w4 (hRV.below hb4) (by have := ho.la; omega) (by have := ho.lb; omega)
      rw [ho.pr] at hk2
      have HK := Lib.hid hk2
      have BX4 := Lib.hid (BX.out.trans (hb4.mono BX.out.size))
      have hltz : (q : Int) < (L.length : Int) := by omega
      clear hat hr ho hRV hb4 hk2
      go_wp2_with (with_reducible refine pauseCall ?_)
      rw [← hw4]; clear hw4 c0 c1 c2
      refine Pause.mk ?_
      (with_reducible refine HK.out.mono ?_); rintro e w5 ⟨rfl, hb5⟩
      have BX5 := Lib.hid (BX4.out.trans (hb5.mono BX4.out.size))
      clear hb5 HK
      go_wp2_with fail
      go_roundw
      case rel => exact ⟨q + 1, by omega, by go_num, Lib.hid BX5.out⟩
      case measure => simp [intOf]; omega
    · have hq' : q = L.length := by omega
      subst hq'
      have G2 := Lib.hid (heap_below G2.out BX.out); have G4 := Lib.hid (heap_below G4.out BX.out)
      obtain ⟨y0, y1⟩ := row2c G2.out
      have hor := HOR.out.1; have hov := HOR.out.2
      have HK := Lib.hid (ofq_any 1 wo (by decide) (by decide))
      go_wp2_with (with_reducible refine pauseCall ?_)
      refine Pause.mk ?_
      (with_reducible refine HK.out.mono ?_); rintro e w5 ⟨v1, rfl, hb5, hn5⟩
      have HB5 := Lib.hid (HBo.out.trans (hb5.mono HBo.out.size)); have G2 := Lib.hid (heap_below G2.out hb5); have G4 := Lib.hid (heap_below G4.out hb5)
      obtain ⟨s1, o1, n1, c1, a1, m1, d1, rfl⟩ := hn5.shape
      have IONE := Lib.hid (show IsR w5 _ 1 from hn5)
      clear hb5 hn5 HK y0 y1 hor hov
      obtain ⟨w6, hw6⟩ : ∃ w6, w6 = (w5.alloc (.cells #[.bool s1, .slice o1 n1 c1, .slice a1 m1 d1] 54)).alloc (.cells #[.bool s1, .slice o1 n1 c1, .slice a1 m1 d1] 54) := ⟨_, rfl⟩
      have hb6 : Below w5.heap.size w5 w6 := by rw [hw6]; exact ((Below.refl _ _).alloc (Nat.le_refl _) _).alloc (by simp) _
      have hg9 : w6.heap[w5.heap.size]? = some (.cells #[.bool s1, .slice o1 n1 c1, .slice a1 m1 d1] 54) := by rw [hw6]; exact heap_alloc2_old w5 _ _
      have hgo : w6.heap[w5.heap.size + 1]? = some (.cells #[.bool s1, .slice o1 n1 c1, .slice a1 m1 d1] 54) := by rw [hw6]; exact heap_alloc2_new w5 _ _
      obtain ⟨g9, hG9⟩ : ∃ g, g = w5.heap.size := ⟨_, rfl⟩
      obtain ⟨go, hGo⟩ : ∃ g, g = w5.heap.size + 1 := ⟨_, rfl⟩
      rw [← hG9] at hg9; rw [← hGo] at hgo
      have ne9 : g9 ≠ go := by omega
      have ne4 : g4 ≠ go := by have := below_lt G4.out; omega
      have ne2 : g2 ≠ go := by have := below_lt G2.out; omega
      have lgo : w.heap.size ≤ go := by have := HB5.out.size; omega
      have HB6 := Lib.hid (HB5.out.trans (hb6.mono HB5.out.size)); have G2 := Lib.hid (heap_below G2.out hb6); have G4 := Lib.hid (heap_below G4.out hb6)
      have IONE := Lib.hid (IONE.out.below hb6); have G9 := Lib.hid hg9; have GO := Lib.hid hgo
      clear hb6 hg9 hgo
      go_wp2_with fail
      rw [← hw6, ← hGo, ← hG9]
      clear hw6 hG9 hGo
      go_loopw [52] (fun i' wx => ∃ (q : Nat) (acc : Rat) (so : Bool) (oo ao : Option Addr) (no co mo do_ : Nat), q ≤ L.length ∧ i' = .int .i64 q ∧ Hid (Below w.heap.size w wx) ∧ Hid (wx.heap[g2]? = some (.cells #[.int .i64 (y : Nat), .int .i64 (n : Nat)] 46)) ∧ Hid (wx.heap[g4]? = some (.cells #[.bool false, .slice none 0 0, .slice none 0 0] 54)) ∧
        Hid (wx.heap[g9]? = some (.cells #[.bool s1, .slice o1 n1 c1, .slice a1 m1 d1] 54)) ∧ Hid (wx.heap[go]? = some (.cells #[.bool so, .slice oo no co, .slice ao mo do_] 54)) ∧ Hid (IsR wx (.agg #[.bool s1, .slice o1 n1 c1, .slice a1 m1 d1]) 1) ∧ Hid (IsR wx (.agg #[.bool so, .slice oo no co, .slice ao mo do_]) acc) ∧
        Hid (wtG (L.map Rv.q) 0 y n 1 = wtG ((L.map Rv.q).drop q) q y n acc) ∧ Hid (rl acc ≤ 1 + q * 1002)) (fun i' _ => L.length - (intOf i').toNat)
      case atStart => exact ⟨0, 1, s1, o1, a1, n1, c1, m1, d1, Nat.zero_le _, rfl, Lib.hid HB6.out, Lib.hid G2.out, Lib.hid G4.out, Lib.hid G9.out, Lib.hid GO.out, Lib.hid IONE.out, Lib.hid IONE.out, Lib.hid rfl, Lib.hid (by rw [rl_one]; omega)⟩
      case round =>
        obtain ⟨q, acc, so, oo, ao', no, co, mo, do_, hq, rfl, BX, G2, G4, G9, GO, IONE, IOUT, WG, HACC⟩ := hrel
        obtain ⟨wo, rfl⟩ : ∃ wo : World, wo = wr := ⟨_, rfl⟩
        by_cases hlt : q < L.length
        · obtain ⟨r, hr⟩ : ∃ r, L[q]? = some r := ⟨L[q], List.getElem?_eq_getElem hlt⟩
          obtain ⟨bp, op, rfl, hbp, hjk, hat⟩ := (HP.out.below BX.out).at (by omega); clear hjk
          obtain ⟨ox, nx, cx, ax, mx, dx, c0, c1', c2, hRV⟩ := (hat q r hr).val
          have ho := HOK.out r (List.mem_of_getElem? hr)
          have WD := Lib.hid (wtG_drop (ps := L.map Rv.q) (q := q) (y := y) (n := n) (p := r.q) (acc := acc) (by rw [List.getElem?_map, hr]; rfl))
          obtain ⟨w4, hw4⟩ : ∃ w4, w4 = wo.alloc (.cells #[.bool r.s, .slice ox nx cx, .slice ax mx dx] 54) := ⟨_, rfl⟩
          have hb4 : Below wo.heap.size wo w4 := by rw [hw4]; exact (Below.refl _ _).alloc (Nat.le_refl _) _
          have hgx : w4.heap[wo.heap.size]? = some (.cells #[.bool r.s, .slice ox nx cx, .slice ax mx dx] 54) := by rw [hw4]; exact heap_alloc_new wo _
          obtain ⟨gx, hGx⟩ : ∃ g, g = wo.heap.size := ⟨_, rfl⟩
          rw [← hGx] at hgx
          have PX := Lib.hid (show RatIs w4 (.agg #[.bool r.s, .slice ox nx cx, .slice ax mx dx]) r.q from (hRV.below hb4).is (by have := ho.la; omega) (by have := ho.lb; omega))
          have HPL := Lib.hid (show rl r.q ≤ 1000 by have := ho.lq; omega)
          have GX := Lib.hid hgx
          have nex : gx ≠ go := by have := below_lt GO.out; omega
          obtain ⟨p, hpq⟩ : ∃ p, p = r.q := ⟨_, rfl⟩
          obtain ⟨sx, hsx⟩ : ∃ s, s = r.s := ⟨_, rfl⟩
          rw [← hpq] at PX HPL WD
          rw [← hsx] at PX GX c0 hw4
          have BX := Lib.hid (BX.out.trans (hb4.mono BX.out.size)); have G2 := Lib.hid (heap_below G2.out hb4); have G4 := Lib.hid (heap_below G4.out hb4); have G9 := Lib.hid (heap_below G9.out hb4); have GO := Lib.hid (heap_below GO.out hb4)
          have IONE := Lib.hid (IONE.out.below hb4); have IOUT := Lib.hid (IOUT.out.below hb4)
          have hltz : (q : Int) < (L.length : Int) := by omega
          clear hat hr ho hRV hgx hpq hsx
          obtain ⟨ya, yt, Y1, Y2, Y3⟩ := mask_parts (x := y) (i := q) (by omega) (by omega)
          obtain ⟨na, nt, N1, N2, N3⟩ := mask_parts (x := n) (i := q) (by omega) (by omega)
          have hsh := shl_one (V := q) (by omega)
          obtain ⟨P2, hP2⟩ : ∃ P : Nat, P = 2 ^ q := ⟨_, rfl⟩
          rw [← hP2] at Y1 N1 hsh
          rw [Y3, N3] at WD
          clear hP2 Y3 N3
          obtain ⟨y0, y1⟩ := row2c G2.out
          obtain ⟨o0, o1', o2⟩ := row3 GO.out
          obtain ⟨z0, z1, z2⟩ := row3 GX.out
          rw [hw4] at y0 y1 o0 o1' o2
          rw [hw4, hGx] at z0 z1 z2
          cases yt with
          | true =>
            have HK := Lib.hid (mulq_any _ acc _ p w4 (IOUT.out.is (by have := HACC.out; omega)) PX.out)
            go_wp2_with (with_reducible refine pauseCall ?_)
            rw [← hw4, ← hGx]
            clear hw4 hGx y0 y1 o0 o1' o2 z0 z1 z2 c0 c1' c2 Y1 N1 hsh hb4
            refine Pause.mk ?_
            (with_reducible refine HK.out.mono ?_); rintro e w5 ⟨vm, rfl, hb5, hn5⟩
            obtain ⟨so', oo', no', co', ao2, mo', do2, rfl⟩ := hn5.shape
            have BX := Lib.hid (BX.out.trans (hb5.mono BX.out.size)); have G2 := Lib.hid (heap_below G2.out hb5); have G4 := Lib.hid (heap_below G4.out hb5); have G9 := Lib.hid (heap_below G9.out hb5); have GO := Lib.hid (heap_below GO.out hb5)
            have IONE := Lib.hid (IONE.out.below hb5); have IM := Lib.hid hn5
            clear hb5 hn5
            go_wp2_with (with_reducible refine wpList_pauseS ?_)
            refine wpList_stL go 0 [.bool so', .slice oo' no' co', .slice ao2 mo' do2] GO.out rfl rfl (Nat.le_of_ble_eq_true rfl) (by kernel_rfl) rfl ?_
            intro w6 hp6
            have BX6 := Lib.hid (putLb hp6 BX.out lgo); have G26 := Lib.hid (putLx hp6 G2.out ne2); have G46 := Lib.hid (putLx hp6 G4.out ne4); have G96 := Lib.hid (putLx hp6 G9.out ne9)
            have GO6 := Lib.hid (show w6.heap[go]? = some (.cells #[.bool so', .slice oo' no' co', .slice ao2 mo' do2] 54) by rw [hp6]; exact putL_3r GO.out)
            have IONE6 := Lib.hid (putL_I hp6 IONE.out GO.out noW3); have IM6 := Lib.hid (putL_I hp6 IM.out GO.out noW3)
            clear hp6 BX G2 G4 G9 GO IONE IM
            go_wp2_with fail
            go_roundw
            case rel => exact ⟨q + 1, acc * p, so', oo', ao2, no', co', mo', do2, by omega, by go_num, Lib.hid BX6.out, Lib.hid G26.out, Lib.hid G46.out, Lib.hid G96.out, Lib.hid GO6.out, Lib.hid IONE6.out, Lib.hid IM6.out, Lib.hid (by rw [WG.out, WD.out]; rfl), Lib.hid (by have := HACC.out; have := HPL.out; have := rl_mul acc p; have := rl_mul acc (1 - p); have := rl_sub 1 p; have := rl_one; omega)⟩
            case measure => simp [intOf]; omega
          | false =>
            cases nt with
            | true =>
              go_wp2_with (with_reducible first | refine pauseCall ?_ | refine pauseLoop ?_ | refine pauseDraw ?_ | refine pauseBody ?_ | refine pauseRounds ?_)
              rw [← hw4, ← hGx]
              clear hw4 hGx y0 y1 o0 o1' o2 z0 z1 z2 c0 c1' c2 Y1 N1 hsh hb4
              refine Pause.mk ?_
              refine wp_region_facts (A := ?aa23) (w := w4) 5 [] (by kernel_rfl) (Fl [KEq (.agg #[.bool so, .slice oo no co, .slice ao' mo do_]), KEq (.agg #[.bool s1, .slice o1 n1 c1, .slice a1 m1 d1]), KEq (.agg #[.bool sx, .slice ox nx cx, .slice ax mx dx]), KIs (1 - p), KIs (acc * (1 - p))]) (fun i => false) (by kernel_rfl) ?hq23 (monoL (monoC (kEq _) (monoC (kEq _) (monoC (kEq _) (monoC (kIs _) (monoC (kIs _) monoN)))))) ?ha23 ?st23 ?tl23
              case hq23 =>
                intro c a d v w h
                first | (simp only [Exit.then] at h ⊢; exact h) | (simp only [Exit.inBlock, Exit.then] at h ⊢; exact h) | exact h
              case ha23 =>
                intro vals
                simp only [putsTo, dstOf, if_true, Act.put, List.setIfInBounds_toArray, List.set_cons_zero, List.set_cons_succ, List.getElem?_toArray, List.getElem?_cons_zero, List.getElem?_cons_succ, Option.bind_some]
                exact rfl
              case st23 =>
                simp only [List.take_succ_cons, List.take_zero]
                refine stepsOK_cons rfl rfl ?_ (stepsOK_cons rfl rfl ?_ (stepsOK_cons rfl rfl ?_ (stepsOK_cons rfl rfl ?_ (stepsOK_cons rfl rfl ?_ (stepsOK_nil)))))
                · intro vals w1 hb hd
                  obtain ⟨e0, e1, e2⟩ := row3 (heap_below GO.out hb)
                  refine stepOK_value (v := .agg #[.bool so, .slice oo no co, .slice ao' mo do_]) (w' := w1) (by go_simp) (leaves_mk (Below.refl _ _) rfl (fun h => by cases h))
                · intro vals w1 hb hd
                  obtain ⟨e0, e1, e2⟩ := row3 (heap_below G9.out hb)
                  refine stepOK_value (v := .agg #[.bool s1, .slice o1 n1 c1, .slice a1 m1 d1]) (w' := w1) (by go_simp) (leaves_mk (Below.refl _ _) rfl (fun h => by cases h))
                · intro vals w1 hb hd
                  obtain ⟨e0, e1, e2⟩ := row3 (heap_below GX.out hb)
                  refine stepOK_value (v := .agg #[.bool sx, .slice ox nx cx, .slice ax mx dx]) (w' := w1) (by go_simp) (leaves_mk (Below.refl _ _) rfl (fun h => by cases h))
                · intro vals w1 hb hd
                  have d1 : KEq (.agg #[.bool s1, .slice o1 n1 c1, .slice a1 m1 d1]) (vals 1) w1 := hd 1 (by kernel_rfl)
                  have d2 : KEq (.agg #[.bool sx, .slice ox nx cx, .slice ax mx dx]) (vals 2) w1 := hd 2 (by kernel_rfl)
                  have HS := Lib.hid (subq_any _ 1 _ p w1 ((IONE.out.below hb).is (by rw [rl_one]; decide)) (PX.out.below hb))
                  have z1 : vals 1 = _ := d1
                  rw [z1]; clear z1
                  have z2 : vals 2 = _ := d2
                  rw [z2]; clear z2
                  refine stepOK_call (by go_simp; first | done | exact ⟨⟨rfl, rfl⟩, rfl⟩) ?_
                  (with_reducible refine HS.out.mono ?_); rintro e w2 ⟨v, rfl, hb2, hn⟩
                  exact ⟨v, rfl, leaves_mk hb2 hn (fun h => by cases h)⟩
                · intro vals w1 hb hd
                  have d0 : KEq (.agg #[.bool so, .slice oo no co, .slice ao' mo do_]) (vals 0) w1 := hd 0 (by kernel_rfl)
                  have d3 : KIs (1 - p) (vals 3) w1 := hd 3 (by kernel_rfl)
                  have HS := Lib.hid (mulq_any _ acc (vals 3) (1 - p) w1 ((IOUT.out.below hb).is (by have := HACC.out; omega)) (IsR.is d3 (by have := rl_sub 1 p; have := rl_one; have := HPL.out; omega)))
                  rw [show vals 0 = _ from d0]
                  refine stepOK_call (by go_simp; first | done | exact ⟨⟨rfl, rfl⟩, rfl⟩) ?_
                  (with_reducible refine HS.out.mono ?_); rintro e w2 ⟨v, rfl, hb2, hn⟩
                  exact ⟨v, rfl, leaves_mk hb2 hn (fun h => by cases h)⟩
              case tl23 =>
                intro vals w5 hb5 hf hdis
                simp only [List.drop_succ_cons, List.drop_zero]
                obtain ⟨vm, hvm⟩ : ∃ u, u = vals 4 := ⟨_, rfl⟩
                have hn5 : IsR w5 (vals 4) (acc * (1 - p)) := hf 4 (by decide)
                rw [← hvm] at hn5 ⊢
                clear hf hdis hvm
                obtain ⟨so', oo', no', co', ao2, mo', do2, rfl⟩ := hn5.shape
                have BX := Lib.hid (BX.out.trans (hb5.mono BX.out.size)); have G2 := Lib.hid (heap_below G2.out hb5); have G4 := Lib.hid (heap_below G4.out hb5); have G9 := Lib.hid (heap_below G9.out hb5); have GO := Lib.hid (heap_below GO.out hb5)
                have IONE := Lib.hid (IONE.out.below hb5); have IM := Lib.hid hn5
                clear hb5 hn5
                go_wp2_with (with_reducible refine wpList_pauseS ?_)
                refine wpList_stL go 0 [.bool so', .slice oo' no' co', .slice ao2 mo' do2] GO.out rfl rfl (Nat.le_of_ble_eq_true rfl) (by kernel_rfl) rfl ?_
                intro w6 hp6
                have BX6 := Lib.hid (putLb hp6 BX.out lgo); have G26 := Lib.hid (putLx hp6 G2.out ne2); have G46 := Lib.hid (putLx hp6 G4.out ne4); have G96 := Lib.hid (putLx hp6 G9.out ne9)
                have GO6 := Lib.hid (show w6.heap[go]? = some (.cells #[.bool so', .slice oo' no' co', .slice ao2 mo' do2] 54) by rw [hp6]; exact putL_3r GO.out)
                have IONE6 := Lib.hid (putL_I hp6 IONE.out GO.out noW3); have IM6 := Lib.hid (putL_I hp6 IM.out GO.out noW3)
                clear hp6 BX G2 G4 G9 GO IONE IM
                go_wp2_with fail
                go_roundw
                case rel => exact ⟨q + 1, acc * (1 - p), so', oo', ao2, no', co', mo', do2, by omega, by go_num, Lib.hid BX6.out, Lib.hid G26.out, Lib.hid G46.out, Lib.hid G96.out, Lib.hid GO6.out, Lib.hid IONE6.out, Lib.hid IM6.out, Lib.hid (by rw [WG.out, WD.out]; rfl), Lib.hid (by have := HACC.out; have := HPL.out; have := rl_mul acc p; have := rl_mul acc (1 - p); have := rl_sub 1 p; have := rl_one; omega)⟩
                case measure => simp [intOf]; omega
            | false =>
              have BX := BX.out
              go_wp2_with fail
              rw [← hw4]
              go_roundw
              case rel => exact ⟨q + 1, acc, so, oo, ao', no, co, mo, do_, by omega, by go_num, Lib.hid BX, Lib.hid G2.out, Lib.hid G4.out, Lib.hid G9.out, Lib.hid GO.out, Lib.hid IONE.out, Lib.hid IOUT.out, Lib.hid (by rw [WG.out, WD.out]; rfl), Lib.hid (by have := HACC.out; omega)⟩
              case measure => simp [intOf]; omega
        · have hq' : q = L.length := by omega
          subst hq'
          have R := Lib.hid (show acc = wt (L.map Rv.q) y n by
            have := WG.out
            rw [wtG_eq, List.drop_of_length_le (by simp)] at this
            simp only [wtG] at this
            unfold wt; rw [← this]; grind)
          obtain ⟨o0, o1', o2⟩ := row3 GO.out
          go_wp2_with (with_reducible refine wpList_pauseS ?_)
          refine wpList_stL g4 0 [.bool so, .slice oo no co, .slice ao' mo do_] G4.out rfl rfl (Nat.le_of_ble_eq_true rfl) (by kernel_rfl) rfl ?_
          intro w7 hp7
          have hi7 := putL_I hp7 IOUT.out G4.out noW3
          have hg7 : w7.heap[g4]? = some (.cells #[.bool so, .slice oo no co, .slice ao' mo do_] 54) := by rw [hp7]; exact putL_3r G4.out
          have hb7 := putLb hp7 BX.out l4
          have HI7 := Lib.hid hi7; have HG7 := Lib.hid hg7; have HB7 := Lib.hid hb7
          clear hp7 hi7 hg7 hb7 o0 o1' o2
          go_wp2_with (with_reducible first | refine pauseCall ?_ | refine pauseLoop ?_ | refine pauseDraw ?_ | refine pauseBody ?_ | refine pauseRounds ?_)
          refine ret_rat2 rfl g4 _ _ _ rfl HG7.out rfl ?_
          exact ⟨_, rfl, HB7.out, by rw [← R.out]; exact HI7.out⟩
end Go.Proofs.YthhgfhdmfhnklaaGreatDoor
/-
  proof.sums: the weights of the leaves by their reasons.
  Conditions: each theorem's own.
-/
namespace Go.Proofs.YthhgfhdmfhnklaaGreatDoor
open Go.RowKit Go.ChangeShapes Go.WideShapes

theorem row9 {w : World} {g : Nat} {x0 x1 x2 x3 x4 x5 x6 x7 x8 : Value} {T : TypeId} (h : w.heap[g]? = some (.cells #[x0, x1, x2, x3, x4, x5, x6, x7, x8] T)) :
    w.cell? ⟨g, 0, none⟩ = some x0 ∧ w.cell? ⟨g, 1, none⟩ = some x1 ∧ w.cell? ⟨g, 2, none⟩ = some x2 ∧ w.cell? ⟨g, 3, none⟩ = some x3 ∧ w.cell? ⟨g, 4, none⟩ = some x4 ∧ w.cell? ⟨g, 5, none⟩ = some x5 ∧ w.cell? ⟨g, 6, none⟩ = some x6 ∧ w.cell? ⟨g, 7, none⟩ = some x7 ∧ w.cell? ⟨g, 8, none⟩ = some x8 :=
  ⟨cell_of_row _ _ _ _ _ _ h, cell_of_row _ _ _ _ _ _ h, cell_of_row _ _ _ _ _ _ h, cell_of_row _ _ _ _ _ _ h, cell_of_row _ _ _ _ _ _ h, cell_of_row _ _ _ _ _ _ h, cell_of_row _ _ _ _ _ _ h, cell_of_row _ _ _ _ _ _ h, cell_of_row _ _ _ _ _ _ h⟩
theorem putL_99 {w : World} {g : Nat} {x0 x1 x2 x3 x4 x5 x6 x7 x8 y0 y1 y2 y3 y4 y5 y6 y7 y8 : Value} {T : TypeId} (h : w.heap[g]? = some (.cells #[x0, x1, x2, x3, x4, x5, x6, x7, x8] T)) : (putL w g 0 [y0, y1, y2, y3, y4, y5, y6, y7, y8]).heap[g]? = some (.cells #[y0, y1, y2, y3, y4, y5, y6, y7, y8] T) := by
  simp [putL, World.setCell, Array.getElem?_modify, h]
theorem putL_90 {w : World} {g : Nat} {x0 x1 x2 x3 x4 x5 x6 x7 x8 y0 y1 y2 : Value} {T : TypeId} (h : w.heap[g]? = some (.cells #[x0, x1, x2, x3, x4, x5, x6, x7, x8] T)) : (putL w g 0 [y0, y1, y2]).heap[g]? = some (.cells #[y0, y1, y2, x3, x4, x5, x6, x7, x8] T) := by
  simp [putL, World.setCell, Array.getElem?_modify, h]
theorem putL_93 {w : World} {g : Nat} {x0 x1 x2 x3 x4 x5 x6 x7 x8 y0 y1 y2 : Value} {T : TypeId} (h : w.heap[g]? = some (.cells #[x0, x1, x2, x3, x4, x5, x6, x7, x8] T)) : (putL w g 3 [y0, y1, y2]).heap[g]? = some (.cells #[x0, x1, x2, y0, y1, y2, x6, x7, x8] T) := by
  simp [putL, World.setCell, Array.getElem?_modify, h]
theorem putL_96 {w : World} {g : Nat} {x0 x1 x2 x3 x4 x5 x6 x7 x8 y0 y1 y2 : Value} {T : TypeId} (h : w.heap[g]? = some (.cells #[x0, x1, x2, x3, x4, x5, x6, x7, x8] T)) : (putL w g 6 [y0, y1, y2]).heap[g]? = some (.cells #[x0, x1, x2, x3, x4, x5, y0, y1, y2] T) := by
  simp [putL, World.setCell, Array.getElem?_modify, h]
theorem noW9 {s0 s1 s2 : Bool} {o0 a0 o1 a1 o2 a2 : Option Addr} {n0 c0 m0 d0 n1 c1 m1 d1 n2 c2 m2 d2 : Nat} : noW #[Value.bool s0, .slice o0 n0 c0, .slice a0 m0 d0, .bool s1, .slice o1 n1 c1, .slice a1 m1 d1, .bool s2, .slice o2 n2 c2, .slice a2 m2 d2] := by
  intro j n; match j with
  | 0 => simp
  | 1 => simp
  | 2 => simp
  | 3 => simp
  | 4 => simp
  | 5 => simp
  | 6 => simp
  | 7 => simp
  | 8 => simp
  | j + 9 => simp
/-- cells that hold no integers of 64 bits -/
def noI (cs : Array Value) : Prop := ∀ (j : Nat) (n : Int), cs[j]? ≠ some (.int .i64 n)
theorem noI9 {s0 s1 s2 : Bool} {o0 a0 o1 a1 o2 a2 : Option Addr} {n0 c0 m0 d0 n1 c1 m1 d1 n2 c2 m2 d2 : Nat} : noI #[Value.bool s0, .slice o0 n0 c0, .slice a0 m0 d0, .bool s1, .slice o1 n1 c1, .slice a1 m1 d1, .bool s2, .slice o2 n2 c2, .slice a2 m2 d2] := by
  intro j n; match j with
  | 0 => simp
  | 1 => simp
  | 2 => simp
  | 3 => simp
  | 4 => simp
  | 5 => simp
  | 6 => simp
  | 7 => simp
  | 8 => simp
  | j + 9 => simp
theorem putL_lfs {w w' : World} {g off : Nat} {l : List Value} {cs : Array Value} {T : TypeId} {v : Value} {ls : List Lf} (hw : w' = putL w g off l) (hn : LfsV w v ls) (h : w.heap[g]? = some (.cells cs T)) (hc : noI cs) : LfsV w' v ls := by
  obtain ⟨ao, c, rfl, h1, h2, h3, h4⟩ := hn
  refine ⟨ao, c, rfl, h1, h2, h3, ?_⟩
  intro b' o s hs
  obtain ⟨k1, k2⟩ := h4 b' o s hs
  have hsz : w'.heap.size = w.heap.size := by rw [hw, putL_size]
  refine ⟨fun h0 => by rw [hsz]; exact k1 h0, fun j x hj => ?_⟩
  obtain ⟨q1, q2, q3⟩ := k2 j x hj
  have hne : b' ≠ g := by
    intro e
    subst e
    rw [cell_of_row w b' (o + j * 3) cs T (0, 0) h] at q1
    exact hc _ _ q1
  have hce : ∀ k, w'.cell? ⟨b', k, none⟩ = w.cell? ⟨b', k, none⟩ := fun k => by
    unfold World.cell?
    have e : w'.heap[b']? = w.heap[b']? := by rw [hw, putL_ne hne]
    simp only [e]
  exact ⟨by rw [hce]; exact q1, by rw [hce]; exact q2, by rw [hce]; exact q3⟩
theorem results_cell_tmp2 {fn : Func} {p u v : Tmp} {ty : TypeId} (h : fn.results = #[.cell p ty, .tmp u, .tmp v]) (tmps : Array Value) (P : Program) (w : World) :
    (results fn tmps).run P w =
      ((asAddr (tmps.getD p undef)).run P w).andThen fun a w₁ => ((loadVar ty a).run P w₁).andThen fun x w₂ => .ok (.tuple #[x, tmps.getD u undef, tmps.getD v undef]) w₂ := by
  simp only [results, h]
  simp [Sem.run_bind, Result.andThen]
/-- a function that hands back a variable of its own, and one or two more values -/
theorem ret_c2 {P : Program} {fn : Func} {R : Ending → World → Prop} {a : Act} {w : World} {p u : Tmp} {ty : TypeId} {d : TypeDesc} (h : fn.results = #[.cell p ty, .tmp u]) (g : Nat) (cs : Array Value)
    (hp : a.tmps.getD p undef = .pointer (some ⟨g, 0, none⟩)) (hg : w.heap[g]? = some (.cells cs ty)) (hu : P.underlying ty = some d) (hd : (match d with | .struct _ | .array _ _ => true | _ => false) = true) (hi : (P.info? ty).map (·.size) = some cs.size)
    (hf : a.defers = []) (hR : R (.returned (.tuple #[.agg cs, a.tmps.getD u undef])) w) : bodyPost P fn R .ret a w := by
  refine bodyPost_ret (v := .tuple #[.agg cs, a.tmps.getD u undef]) ?_ hf hR
  rw [results_cell_tmp h, hp]
  simp only [asAddr, Sem.run_pure, Result.andThen, run_loadVar_row w g ty ty cs _ d hg hu hd hi]
theorem ret_c3 {P : Program} {fn : Func} {R : Ending → World → Prop} {a : Act} {w : World} {p u v : Tmp} {ty : TypeId} {d : TypeDesc} (h : fn.results = #[.cell p ty, .tmp u, .tmp v]) (g : Nat) (cs : Array Value)
    (hp : a.tmps.getD p undef = .pointer (some ⟨g, 0, none⟩)) (hg : w.heap[g]? = some (.cells cs ty)) (hu : P.underlying ty = some d) (hd : (match d with | .struct _ | .array _ _ => true | _ => false) = true) (hi : (P.info? ty).map (·.size) = some cs.size)
    (hf : a.defers = []) (hR : R (.returned (.tuple #[.agg cs, a.tmps.getD u undef, a.tmps.getD v undef])) w) : bodyPost P fn R .ret a w := by
  refine bodyPost_ret (v := .tuple #[.agg cs, a.tmps.getD u undef, a.tmps.getD v undef]) ?_ hf hR
  rw [results_cell_tmp2 h, hp]
  simp only [asAddr, Sem.run_pure, Result.andThen, run_loadVar_row w g ty ty cs _ d hg hu hd hi]
/-- the number of the error of sums -/
def sErr (f : Fm) (t : Tr) (L : List Rv) : Nat :=
  if cErr f t ≠ 0 then cErr f t else if (L.length : Int) ≠ f.vars then 11 else if (L.any fun r => !prB r.s r.a r.b) = true then 3 else if 0 ≤ firstBad f (trLeaves t 0 0) 0 then 15 else 0
/-- three fractions, leaves, an error -/
def RetSums (w : World) (ps : List Rat) (ls : List Lf) (er : Nat) (e : Ending) (w' : World) : Prop :=
  ∃ (s0 s1 s2 : Bool) (o0 a0 o1 a1 o2 a2 : Option Addr) (n0 c0 m0 d0 n1 c1 m1 d1 n2 c2 m2 d2 : Nat) (v' : Value), e = .returned (.tuple #[.agg #[.bool s0, .slice o0 n0 c0, .slice a0 m0 d0, .bool s1, .slice o1 n1 c1, .slice a1 m1 d1, .bool s2, .slice o2 n2 c2, .slice a2 m2 d2], v', errV er]) ∧ Below w.heap.size w w' ∧
    (er = 0 → IsR w' (.agg #[.bool s0, .slice o0 n0 c0, .slice a0 m0 d0]) (sumF ps 0 ls 0) ∧ IsR w' (.agg #[.bool s1, .slice o1 n1 c1, .slice a1 m1 d1]) (sumF ps 1 ls 0) ∧ IsR w' (.agg #[.bool s2, .slice o2 n2 c2, .slice a2 m2 d2]) (sumF ps 2 ls 0) ∧ LfsV w' v' ls)
theorem retSums_err {w w' : World} {ps : List Rat} {ls : List Lf} {er : Nat} (hb : Below w.heap.size w w') (h : er ≠ 0) : RetSums w ps ls er (.returned (.tuple #[.agg #[.bool false, .slice none 0 0, .slice none 0 0, .bool false, .slice none 0 0, .slice none 0 0, .bool false, .slice none 0 0, .slice none 0 0], .slice none 0 0, errV er])) w' :=
  ⟨false, false, false, none, none, none, none, none, none, 0, 0, 0, 0, 0, 0, 0, 0, 0, 0, 0, 0, .slice none 0 0, rfl, hb, fun k => absurd k h⟩
theorem sumF_drop {ps : List Rat} {r : Int} {l : List Lf} {q : Nat} {x : Lf} {a : Rat} (h : l[q]? = some x) : sumF ps r (l.drop q) a = sumF ps r (l.drop (q + 1)) (if x.reason = r then a + wt ps x.yes x.no else a) := by
  obtain ⟨h1, h2⟩ := List.getElem?_eq_some_iff.1 h
  rw [List.drop_eq_getElem_cons h1, h2]; simp only [sumF]

set_option maxRecDepth 100000 in
set_option maxHeartbeats 8000000 in
theorem sums_any (vf x v : Value) (f : Fm) (t : Tr) (L : List Rv) (w : World) (hf : FmV w vf f) (ht : TrV w x t) (hp : RvsV w v L) (hsm : ∀ r ∈ L, r.a.length ≤ 3 ∧ r.b.length ≤ 3 ∧ rl r.q ≤ 3) (hlv : cErr f t = 0 → (trLeaves t 0 0).length ≤ 300) (er : Nat) (her : sErr f t L = er) :
    Calls Tryz.prog 49 #[vf, v, x] w (RetSums w (L.map Rv.q) (trLeaves t 0 0) er) := by
  have hrs := leaves_reason t x 0 0 ht
  obtain ⟨ec, hec⟩ : ∃ ec, cErr f t = ec := ⟨_, rfl⟩
  obtain ⟨ap, cp, rfl, hcp, hcp2, _⟩ := hp.shape
  obtain ⟨nv, rfl, hn, hv, htp⟩ := hf
  obtain ⟨ao, c, rfl, hc, hc2, _⟩ := hn.shape
  have HF := Lib.hid (show FmV w _ f from ⟨_, rfl, hn, hv, htp⟩)
  have HT := Lib.hid ht; have HP := Lib.hid hp
  obtain ⟨tv, tr, ta, tn, tc, rfl⟩ := ht.shape
  obtain ⟨W0, hW0⟩ : ∃ W, W = (w.alloc (.cells #[.int .i64 f.vars, .slice ao f.nodes.length c, .int .i64 f.top] 24)).alloc (.cells #[.int .i64 tv, .slice ta tn tc, .int .i64 tr] 27) := ⟨_, rfl⟩
  obtain ⟨W, hW⟩ : ∃ W, W = (W0.alloc (.cells #[.bool false, .slice none 0 0, .slice none 0 0, .bool false, .slice none 0 0, .slice none 0 0, .bool false, .slice none 0 0, .slice none 0 0] 105)).alloc (.cells #[.bool false, .slice none 0 0, .slice none 0 0, .bool false, .slice none 0 0, .slice none 0 0, .bool false, .slice none 0 0, .slice none 0 0] 105) := ⟨_, rfl⟩
  have hb0 : Below w.heap.size w W0 := by rw [hW0]; exact ((Below.refl _ _).alloc (Nat.le_refl _) _).alloc (by simp) _
  have hb1 : Below W0.heap.size W0 W := by rw [hW]; exact ((Below.refl _ _).alloc (Nat.le_refl _) _).alloc (by simp) _
  have hs0 : W0.heap.size = w.heap.size + 1 + 1 := by rw [hW0]; simp
  have hg3 : W.heap[w.heap.size]? = some (.cells #[.int .i64 f.vars, .slice ao f.nodes.length c, .int .i64 f.top] 24) := heap_below (by rw [hW0]; exact heap_alloc2_old w _ _) hb1
  have hg5 : W.heap[w.heap.size + 1]? = some (.cells #[.int .i64 tv, .slice ta tn tc, .int .i64 tr] 27) := heap_below (by rw [hW0]; exact heap_alloc2_new w _ _) hb1
  have hg6 : W.heap[w.heap.size + 1 + 1]? = some (.cells #[.bool false, .slice none 0 0, .slice none 0 0, .bool false, .slice none 0 0, .slice none 0 0, .bool false, .slice none 0 0, .slice none 0 0] 105) := by rw [hW, ← hs0]; exact heap_alloc2_old W0 _ _
  have hg9 : W.heap[w.heap.size + 1 + 1 + 1]? = some (.cells #[.bool false, .slice none 0 0, .slice none 0 0, .bool false, .slice none 0 0, .slice none 0 0, .bool false, .slice none 0 0, .slice none 0 0] 105) := by rw [hW, ← hs0]; exact heap_alloc2_new W0 _ _
  rw [hW0] at hW
  obtain ⟨g3, hG3⟩ : ∃ g, g = w.heap.size := ⟨_, rfl⟩
  obtain ⟨g5, hG5⟩ : ∃ g, g = w.heap.size + 1 := ⟨_, rfl⟩
  obtain ⟨g6, hG6⟩ : ∃ g, g = w.heap.size + 1 + 1 := ⟨_, rfl⟩
  obtain ⟨g9, hG9⟩ : ∃ g, g = w.heap.size + 1 + 1 + 1 := ⟨_, rfl⟩
  rw [← hG3] at hg3; rw [← hG5] at hg5; rw [← hG6] at hg6; rw [← hG9] at hg9
  have l6 : w.heap.size ≤ g6 := by omega
  have l9 : w.heap.size ≤ g9 := by omega
  have ne69 : g6 ≠ g9 := by omega
  have HBW := Lib.hid (hb0.trans (hb1.mono hb0.size)); have G3 := Lib.hid hg3; have G5 := Lib.hid hg5; have G6 := Lib.hid hg6; have G9 := Lib.hid hg9
  obtain ⟨x0, x1, x2⟩ := row3 hg3
  obtain ⟨y0, y1, y2⟩ := row3 hg5
  rw [hW, hG3] at x0 x1 x2
  rw [hW, hG5] at y0 y1 y2
  have HK := Lib.hid (pleaves_any _ _ f t W (HF.out.below HBW.out) (HT.out.below HBW.out) ec hec)
  have HSM := Lib.hid hsm; have HRS := Lib.hid hrs; have HEC := Lib.hid hec; have HER := Lib.hid her
  clear hb0 hb1 hs0 hg3 hg5 hg6 hg9 hW0 hn hv htp ht hp hsm hrs hec her
  go_enter Tryz.func49, Tryz.ntmps49
  go_wp2_with (with_reducible refine pauseCall ?_)
  rw [← hW, ← hG9, ← hG6, ← hG5, ← hG3]; clear hW hG3 hG5 hG6 hG9 x0 x1 x2 y0 y1 y2
  refine Pause.mk ?_
  (with_reducible refine HK.out.mono ?_); rintro e w1 ⟨vl, rfl, hb1, hl⟩
  have HBc := Lib.hid (HBW.out.trans (hb1.mono HBW.out.size)); have G3 := Lib.hid (heap_below G3.out hb1); have G6 := Lib.hid (heap_below G6.out hb1); have G9 := Lib.hid (heap_below G9.out hb1)
  clear hb1 HK G5
  by_cases h0 : ec ≠ 0
  · have R := Lib.hid (show er = ec by rw [← HER.out]; unfold sErr; rw [if_pos (by rw [HEC.out]; exact h0), HEC.out])
    obtain ⟨z0, z1, z2, z3, z4, z5, z6, z7, z8⟩ := row9 G9.out
    rw [errV_pos h0]
    go_wp2_with (with_reducible refine wpList_pauseS ?_)
    refine wpList_stL g6 0 [.bool false, .slice none 0 0, .slice none 0 0, .bool false, .slice none 0 0, .slice none 0 0, .bool false, .slice none 0 0, .slice none 0 0] G6.out rfl rfl (Nat.le_of_ble_eq_true rfl) (by kernel_rfl) rfl ?_
    intro wz hpz
    have GZ := Lib.hid (show wz.heap[g6]? = some (.cells #[.bool false, .slice none 0 0, .slice none 0 0, .bool false, .slice none 0 0, .slice none 0 0, .bool false, .slice none 0 0, .slice none 0 0] 105) by rw [hpz]; exact putL_99 G6.out)
    have HBZ := Lib.hid (putLb hpz HBc.out l6)
    clear hpz
    go_wp2_with (with_reducible first | refine pauseCall ?_ | refine pauseLoop ?_ | refine pauseDraw ?_ | refine pauseBody ?_ | refine pauseRounds ?_)
    refine ret_c3 rfl g6 #[.bool false, .slice none 0 0, .slice none 0 0, .bool false, .slice none 0 0, .slice none 0 0, .bool false, .slice none 0 0, .slice none 0 0] rfl GZ.out Tryz.underlying105 rfl (by kernel_rfl) rfl ?_
    rw [R.out]
    have := retSums_err (ps := L.map Rv.q) (ls := trLeaves t 0 0) HBZ.out h0
    rw [errV_pos h0] at this
    exact this
  have h0 : ec = 0 := by omega
  subst h0
  have hl := hl rfl
  have hlv := hlv HEC.out
  obtain ⟨hfm, hte, hok, hts⟩ := cErr_ok HEC.out
  obtain ⟨p0, p1, _, p3⟩ := fmErr_parts hfm
  obtain ⟨V, hV⟩ : ∃ V : Nat, f.vars = V := ⟨f.vars.toNat, by omega⟩
  have ER1 := Lib.hid (show er = if (L.length : Int) ≠ f.vars then 11 else if (L.any fun r => !prB r.s r.a r.b) = true then 3 else if 0 ≤ firstBad f (trLeaves t 0 0) 0 then 15 else 0 by rw [← HER.out]; unfold sErr; rw [if_neg (by rw [HEC.out]; exact fun h => h rfl)])
  have HL := Lib.hid hl; have HFM := Lib.hid hfm; have HCC := Lib.hid (cert_cubes HEC.out); have HND := Lib.hid p3
  have HLV := Lib.hid hlv
  rw [errV_zero]
  rw [hV] at p0 p1
  clear hl hfm hte hok hts p3 hlv HER
  obtain ⟨x0, x1, x2⟩ := row3 G3.out
  rw [hV] at x0
  by_cases h1 : (L.length : Int) ≠ (V : Int)
  · have R := Lib.hid (show er = 11 by rw [ER1.out, if_pos (by rw [hV]; exact h1)])
    have h1' : ((L.length : Int) != (V : Int)) = true := bne_iff_ne.2 h1
    obtain ⟨z0, z1, z2, z3, z4, z5, z6, z7, z8⟩ := row9 G9.out
    go_wp2_with (with_reducible refine wpList_pauseS ?_)
    refine wpList_stL g6 0 [.bool false, .slice none 0 0, .slice none 0 0, .bool false, .slice none 0 0, .slice none 0 0, .bool false, .slice none 0 0, .slice none 0 0] G6.out rfl rfl (Nat.le_of_ble_eq_true rfl) (by kernel_rfl) rfl ?_
    intro wz hpz
    have GZ := Lib.hid (show wz.heap[g6]? = some (.cells #[.bool false, .slice none 0 0, .slice none 0 0, .bool false, .slice none 0 0, .slice none 0 0, .bool false, .slice none 0 0, .slice none 0 0] 105) by rw [hpz]; exact putL_99 G6.out)
    have HBZ := Lib.hid (putLb hpz HBc.out l6)
    clear hpz
    go_wp2_with (with_reducible first | refine pauseCall ?_ | refine pauseLoop ?_ | refine pauseDraw ?_ | refine pauseBody ?_ | refine pauseRounds ?_)
    refine ret_c3 rfl g6 #[.bool false, .slice none 0 0, .slice none 0 0, .bool false, .slice none 0 0, .slice none 0 0, .bool false, .slice none 0 0, .slice none 0 0] rfl GZ.out Tryz.underlying105 rfl (by kernel_rfl) rfl ?_
    rw [R.out]
    exact retSums_err HBZ.out (by decide)
  have hLV : L.length = V := by omega
  have ER2 := Lib.hid (ER1.out.trans (if_neg (by rw [hV]; exact h1)))
  subst hLV
  clear h1 x1 x2 ER1
  go_wp2_with fail
  clear x0
  go_loopw [38] (fun i' wx => ∃ q : Nat, q ≤ L.length ∧ i' = .int .i64 q ∧ Hid (Below w1.heap.size w1 wx) ∧ Hid (∀ r ∈ L.take q, prB r.s r.a r.b = true)) (fun i' _ => L.length - (intOf i').toNat)
  case atStart => exact ⟨0, Nat.zero_le _, rfl, Lib.hid (Below.refl _ _), Lib.hid (by simp)⟩
  case round =>
    obtain ⟨q, hq, rfl, BX, PR⟩ := hrel
    obtain ⟨wo, rfl⟩ : ∃ wo : World, wo = wr := ⟨_, rfl⟩
    have HBo := Lib.hid (HBc.out.trans (BX.out.mono HBc.out.size)); have G3 := Lib.hid (heap_below G3.out BX.out); have G6 := Lib.hid (heap_below G6.out BX.out); have G9 := Lib.hid (heap_below G9.out BX.out)
    by_cases hlt : q < L.length
    · obtain ⟨r, hr⟩ : ∃ r, L[q]? = some r := ⟨L[q], List.getElem?_eq_getElem hlt⟩
      obtain ⟨bp, op, rfl, hbp, hjk, hat⟩ := (HP.out.below HBo.out).at (by omega); clear hjk
      obtain ⟨ax, nx, cx, bx, mx, dx, c0, c1, c2, hRV⟩ := (hat q r hr).val
      have ho := HSM.out r (List.mem_of_getElem? hr)
      obtain ⟨w4, hw4⟩ : ∃ w4, w4 = wo.alloc (.cells #[.bool r.s, .slice ax nx cx, .slice bx mx dx] 54) := ⟨_, rfl⟩
      have hb4 : Below wo.heap.size wo w4 := by rw [hw4]; exact (Below.refl _ _).alloc (Nat.le_refl _) _
      have hk2 := prob_any _ r.s r.a r.b w4 (hRV.below hb4) (by omega) (by omega)
      obtain ⟨pb, hpb⟩ : ∃ b, b = prB r.s r.a r.b := ⟨_, rfl⟩
      rw [← hpb] at hk2
      have HK := Lib.hid hk2; have HPB := Lib.hid hpb; have HR := Lib.hid hr
      have BX4 := Lib.hid (BX.out.trans (hb4.mono BX.out.size)); have HB4 := Lib.hid (HBo.out.trans (hb4.mono HBo.out.size)); have G6 := Lib.hid (heap_below G6.out hb4); have G9 := Lib.hid (heap_below G9.out hb4)
      have hltz : (q : Int) < (L.length : Int) := by omega
      clear hat hr ho hRV hb4 hk2 hpb
      go_wp2_with (with_reducible refine pauseCall ?_)
      rw [← hw4]; clear hw4 c0 c1 c2
      refine Pause.mk ?_
      (with_reducible refine HK.out.mono ?_); rintro e w5 ⟨rfl, hb5⟩
      have BX5 := Lib.hid (BX4.out.trans (hb5.mono BX4.out.size)); have HBc := Lib.hid (HB4.out.trans (hb5.mono HB4.out.size)); have G6 := Lib.hid (heap_below G6.out hb5); have G9 := Lib.hid (heap_below G9.out hb5)
      clear hb5 HK
      cases pb with
      | true =>
        go_wp2_with fail
        go_roundw
        case rel => exact ⟨q + 1, by omega, by go_num, Lib.hid BX5.out, Lib.hid (fun z hz => by
          rw [take_snoc HR.out] at hz
          rcases List.mem_append.1 hz with hz | hz
          · exact PR.out z hz
          · rw [List.mem_singleton] at hz; subst hz; exact HPB.out.symm)⟩
        case measure => simp [intOf]; omega
      | false =>
        have R := Lib.hid (show er = 3 by rw [ER2.out, if_pos (List.any_eq_true.2 ⟨r, List.mem_of_getElem? HR.out, by rw [← HPB.out]; rfl⟩)])
        obtain ⟨z0, z1, z2, z3, z4, z5, z6, z7, z8⟩ := row9 G9.out
        go_wp2_with (with_reducible refine wpList_pauseS ?_)
        refine wpList_stL g6 0 [.bool false, .slice none 0 0, .slice none 0 0, .bool false, .slice none 0 0, .slice none 0 0, .bool false, .slice none 0 0, .slice none 0 0] G6.out rfl rfl (Nat.le_of_ble_eq_true rfl) (by kernel_rfl) rfl ?_
        intro wz hpz
        have GZ := Lib.hid (show wz.heap[g6]? = some (.cells #[.bool false, .slice none 0 0, .slice none 0 0, .bool false, .slice none 0 0, .slice none 0 0, .bool false, .slice none 0 0, .slice none 0 0] 105) by rw [hpz]; exact putL_99 G6.out)
        have HBZ := Lib.hid (putLb hpz HBc.out l6)
        clear hpz
        go_wp2_with (with_reducible first | refine pauseCall ?_ | refine pauseLoop ?_ | refine pauseDraw ?_ | refine pauseBody ?_ | refine pauseRounds ?_)
        refine ret_c3 rfl g6 #[.bool false, .slice none 0 0, .slice none 0 0, .bool false, .slice none 0 0, .slice none 0 0, .bool false, .slice none 0 0, .slice none 0 0] rfl GZ.out Tryz.underlying105 rfl (by kernel_rfl) rfl ?_
        rw [R.out]
        exact retSums_err HBZ.out (by decide)
    · have hq' : q = L.length := by omega
      subst hq'
      have PR2 := PR.out
      rw [List.take_length] at PR2
      have ER3 := Lib.hid (ER2.out.trans (if_neg (by intro hh; obtain ⟨r, h1, h2⟩ := List.any_eq_true.1 hh; rw [PR2 r h1] at h2; cases h2)))
      have ROK := Lib.hid (show ∀ r ∈ L, RvOK 3 r from fun r hr => ⟨PR2 r hr, (HSM.out r hr).1, (HSM.out r hr).2.1, (HSM.out r hr).2.2⟩)
      clear PR2 PR ER2
      have hkf := pfirst_any _ vl f (trLeaves t 0 0) wo (HF.out.below HBo.out) (HL.out.below BX.out) HFM.out (fun z hz => okC_cube (HCC.out z hz) (by omega) (by omega)) HRS.out (by have := HLV.out; omega)
      rw [hV] at hkf
      have HKF := Lib.hid hkf; clear hkf
      obtain ⟨x0, x1, x2⟩ := row3 G3.out
      go_wp2_with (with_reducible refine pauseCall ?_)
      refine Pause.mk ?_
      (with_reducible refine HKF.out.mono ?_); rintro e w5 ⟨rfl, hb5⟩
      have HL := Lib.hid ((HL.out.below BX.out).below hb5)
      have HBc := Lib.hid (HBo.out.trans (hb5.mono HBo.out.size)); have G6 := Lib.hid (heap_below G6.out hb5); have G9 := Lib.hid (heap_below G9.out hb5)
      clear hb5 HKF x0 x1 x2 BX
      obtain ⟨fb, hfb⟩ : ∃ b, b = firstBad f (trLeaves t 0 0) 0 := ⟨_, rfl⟩
      rw [← hfb] at ER3 ⊢
      have hge := firstBad_ge f (trLeaves t 0 0) 0
      rw [← hfb] at hge
      have HFB := Lib.hid hfb
      clear hfb
      by_cases h2 : 0 ≤ fb
      · have R := Lib.hid (show er = 15 by rw [ER3.out, if_pos h2])
        obtain ⟨z0, z1, z2, z3, z4, z5, z6, z7, z8⟩ := row9 G9.out
        go_wp2_with (with_reducible refine wpList_pauseS ?_)
        refine wpList_stL g6 0 [.bool false, .slice none 0 0, .slice none 0 0, .bool false, .slice none 0 0, .slice none 0 0, .bool false, .slice none 0 0, .slice none 0 0] G6.out rfl rfl (Nat.le_of_ble_eq_true rfl) (by kernel_rfl) rfl ?_
        intro wz hpz
        have GZ := Lib.hid (show wz.heap[g6]? = some (.cells #[.bool false, .slice none 0 0, .slice none 0 0, .bool false, .slice none 0 0, .slice none 0 0, .bool false, .slice none 0 0, .slice none 0 0] 105) by rw [hpz]; exact putL_99 G6.out)
        have HBZ := Lib.hid (putLb hpz HBc.out l6)
        clear hpz
        go_wp2_with (with_reducible first | refine pauseCall ?_ | refine pauseLoop ?_ | refine pauseDraw ?_ | refine pauseBody ?_ | refine pauseRounds ?_)
        refine ret_c3 rfl g6 #[.bool false, .slice none 0 0, .slice none 0 0, .bool false, .slice none 0 0, .slice none 0 0, .bool false, .slice none 0 0, .slice none 0 0] rfl GZ.out Tryz.underlying105 rfl (by kernel_rfl) rfl ?_
        rw [R.out]
        exact retSums_err HBZ.out (by decide)
      have hfm1 : fb = -1 := by omega
      have R0 := Lib.hid (show er = 0 by rw [ER3.out, if_neg h2])
      have HH := Lib.hid ((firstBad_hold (trLeaves t 0 0) 0).1 (HFB.out.symm.trans hfm1))
      subst hfm1
      clear h2 hge HFB ER3
      obtain ⟨al, cl, rfl, hcl, hcl2, _⟩ := HL.out.shape
      obtain ⟨ls, hls⟩ : ∃ ls, ls = trLeaves t 0 0 := ⟨_, rfl⟩
      rw [← hls] at HL HCC HLV HH HRS hcl ⊢
      have hlv := HLV.out
      have HLS := Lib.hid hls
      clear hls
      go_wp2_with fail
      go_loopw [64] (fun i' wx => ∃ (q : Nat) (A0 A1 A2 : Rat) (s0 s1 s2 : Bool) (o0 a0 o1 a1 o2 a2 : Option Addr) (n0 c0 m0 d0 n1 c1 m1 d1 n2 c2 m2 d2 : Nat), q ≤ ls.length ∧ i' = .int .i64 q ∧ Hid (Below w.heap.size w wx) ∧ Hid (LfsV wx (.slice al ls.length cl) ls) ∧ Hid (wx.heap[g6]? = some (.cells #[.bool false, .slice none 0 0, .slice none 0 0, .bool false, .slice none 0 0, .slice none 0 0, .bool false, .slice none 0 0, .slice none 0 0] 105)) ∧
        Hid (wx.heap[g9]? = some (.cells #[.bool s0, .slice o0 n0 c0, .slice a0 m0 d0, .bool s1, .slice o1 n1 c1, .slice a1 m1 d1, .bool s2, .slice o2 n2 c2, .slice a2 m2 d2] 105)) ∧ Hid (IsR wx (.agg #[.bool s0, .slice o0 n0 c0, .slice a0 m0 d0]) A0) ∧ Hid (IsR wx (.agg #[.bool s1, .slice o1 n1 c1, .slice a1 m1 d1]) A1) ∧ Hid (IsR wx (.agg #[.bool s2, .slice o2 n2 c2, .slice a2 m2 d2]) A2) ∧
        Hid (sumF (L.map Rv.q) 0 ls 0 = sumF (L.map Rv.q) 0 (ls.drop q) A0 ∧ sumF (L.map Rv.q) 1 ls 0 = sumF (L.map Rv.q) 1 (ls.drop q) A1 ∧ sumF (L.map Rv.q) 2 ls 0 = sumF (L.map Rv.q) 2 (ls.drop q) A2) ∧ Hid (rl A0 ≤ 1 + q * 122 ∧ rl A1 ≤ 1 + q * 122 ∧ rl A2 ≤ 1 + q * 122)) (fun i' _ => ls.length - (intOf i').toNat)
      case atStart => exact ⟨0, 0, 0, 0, false, false, false, none, none, none, none, none, none, 0, 0, 0, 0, 0, 0, 0, 0, 0, 0, 0, 0, Nat.zero_le _, rfl, Lib.hid HBc.out, Lib.hid HL.out, Lib.hid G6.out, Lib.hid G9.out, Lib.hid (isR_zero _), Lib.hid (isR_zero _), Lib.hid (isR_zero _), Lib.hid ⟨rfl, rfl, rfl⟩, Lib.hid (by rw [rl_zero]; omega)⟩
      case round =>
        obtain ⟨q, A0, A1, A2, s0, s1, s2, o0, a0, o1, a1, o2, a2, n0, c0, m0, d0, n1, c1, m1, d1, n2, c2, m2, d2, hq, rfl, BX, HLx, G6, G9, I0, I1, I2, SF, HA⟩ := hrel
        obtain ⟨wo, rfl⟩ : ∃ wo : World, wo = wr := ⟨_, rfl⟩
        by_cases hlt : q < ls.length
        · obtain ⟨z, hz⟩ : ∃ z, ls[q]? = some z := ⟨ls[q], List.getElem?_eq_getElem hlt⟩
          obtain ⟨bl, ol, rfl, hbl, hjk, hat⟩ := HLx.out.at (by omega); clear hjk
          obtain ⟨c0', c1', c2'⟩ := hat q z hz
          have hmem := List.mem_of_getElem? hz
          have SD := Lib.hid (fun r a => sumF_drop (ps := L.map Rv.q) (r := r) (a := a) hz)
          have hcc := HCC.out z hmem
          have hlt3 := okC_lt hcc
          have hre : z.reason = 0 ∨ z.reason = 1 ∨ z.reason = 2 := by
            have := fmVal_le HND.out z.yes z.no
            rcases HH.out z hmem with h | h <;> omega
          obtain ⟨zy, zn, zr⟩ := z
          simp only at c0' c1' c2' hlt3 hre SD
          rw [hV, Int.toNat_natCast] at hlt3
          obtain ⟨w4, hw4⟩ : ∃ w4, w4 = wo.alloc (.cells #[.int .i64 (zy : Nat), .int .i64 (zn : Nat), .int .i64 zr] 48) := ⟨_, rfl⟩
          have hb4 : Below wo.heap.size wo w4 := by rw [hw4]; exact (Below.refl _ _).alloc (Nat.le_refl _) _
          have hg16 : w4.heap[wo.heap.size]? = some (.cells #[.int .i64 (zy : Nat), .int .i64 (zn : Nat), .int .i64 zr] 48) := by rw [hw4]; exact heap_alloc_new wo _
          obtain ⟨g16, hG16⟩ : ∃ g, g = wo.heap.size := ⟨_, rfl⟩
          rw [← hG16] at hg16
          have ne16 : g16 ≠ g9 := by have := below_lt G9.out; omega
          have BX := Lib.hid (BX.out.trans (hb4.mono BX.out.size)); have G6 := Lib.hid (heap_below G6.out hb4); have G9 := Lib.hid (heap_below G9.out hb4); have HLx := Lib.hid (HLx.out.below hb4)
          have I0 := Lib.hid (I0.out.below hb4); have I1 := Lib.hid (I1.out.below hb4); have I2 := Lib.hid (I2.out.below hb4)
          have G16 := Lib.hid hg16
          have HK := Lib.hid (weight_any _ L zy zn 3 w4 (HP.out.below BX.out) ROK.out (by omega) hlt3.1 hlt3.2.1 hlt3.2.2 (by decide))
          have HW := Lib.hid (show rl (wt (L.map Rv.q) zy zn) ≤ 121 by
            have := rl_wtL (k := 3) (L.map Rv.q) 0 zy zn (fun p hp => by obtain ⟨r, hr, rfl⟩ := List.mem_map.1 hp; exact (ROK.out r hr).lq)
            rw [List.length_map] at this
            unfold wt; have := Nat.mul_le_mul_right 5 (show L.length ≤ 24 by omega); omega)
          obtain ⟨wq, hwq⟩ : ∃ x, x = wt (L.map Rv.q) zy zn := ⟨_, rfl⟩
          rw [← hwq] at HK HW SD
          have hltz : (q : Int) < (ls.length : Int) := by omega
          obtain ⟨z0, z1, z2⟩ := row3 hg16
          rw [hw4, hG16] at z0 z1 z2
          clear hat hz hmem hcc hlt3 hg16 hwq hb4
          go_wp2_with (with_reducible refine pauseCall ?_)
          rw [← hw4, ← hG16]
          clear hw4 hG16 z0 z1 z2 c0' c1' c2'
          refine Pause.mk ?_
          (with_reducible refine HK.out.mono ?_); rintro e w5 ⟨vw, rfl, hb5, hn5⟩
          obtain ⟨sw, ow, nw, cw, aw, mw, dw, rfl⟩ := hn5.shape
          obtain ⟨w6, hw6⟩ : ∃ w6, w6 = w5.alloc (.cells #[.bool sw, .slice ow nw cw, .slice aw mw dw] 54) := ⟨_, rfl⟩
          have hb6 : Below w5.heap.size w5 w6 := by rw [hw6]; exact (Below.refl _ _).alloc (Nat.le_refl _) _
          have hg17 : w6.heap[w5.heap.size]? = some (.cells #[.bool sw, .slice ow nw cw, .slice aw mw dw] 54) := by rw [hw6]; exact heap_alloc_new w5 _
          obtain ⟨g17, hG17⟩ : ∃ g, g = w5.heap.size := ⟨_, rfl⟩
          rw [← hG17] at hg17
          have hb56 := hb5.trans (hb6.mono hb5.size)
          have BX := Lib.hid (BX.out.trans (hb56.mono BX.out.size)); have G6 := Lib.hid (heap_below G6.out hb56); have G9 := Lib.hid (heap_below G9.out hb56); have HLx := Lib.hid (HLx.out.below hb56); have G16 := Lib.hid (heap_below G16.out hb56)
          have I0 := Lib.hid (I0.out.below hb56); have I1 := Lib.hid (I1.out.below hb56); have I2 := Lib.hid (I2.out.below hb56)
          have IW := Lib.hid (hn5.below hb6); have G17 := Lib.hid hg17
          clear hb5 hb6 hb56 hn5 hg17 HK
          rcases hre with rfl | rfl | rfl
          · go_wp2_with (with_reducible first | refine pauseCall ?_ | refine pauseLoop ?_ | refine pauseDraw ?_ | refine pauseBody ?_ | refine pauseRounds ?_)
            rw [← hw6, ← hG17]
            clear hw6 hG17
            refine Pause.mk ?_
            refine wp_region_facts (A := ?aa24a) (w := w6) 9 [] (by kernel_rfl) (Fl [KEq (.pointer (some ⟨g16, 2, none⟩)), KEq (.int .i64 0), KEq (.pointer (some ⟨g16, 2, none⟩)), KEq (.int .i64 0), KEq (.pointer (some ⟨g9, 0, none⟩)), KEq (.agg #[.bool s0, .slice o0 n0 c0, .slice a0 m0 d0]), KEq (.agg #[.bool sw, .slice ow nw cw, .slice aw mw dw]), KIs (A0 + wq), KEq (.pointer (some ⟨g9, 0, none⟩))]) (fun i => false) (by kernel_rfl) ?hq24a (monoL (monoC (kEq _) (monoC (kEq _) (monoC (kEq _) (monoC (kEq _) (monoC (kEq _) (monoC (kEq _) (monoC (kEq _) (monoC (kIs _) (monoC (kEq _) monoN)))))))))) ?ha24a ?st24a ?tl24a
            case hq24a =>
              intro c a d v w h
              first | (simp only [Exit.then] at h ⊢; exact h) | (simp only [Exit.inBlock, Exit.then] at h ⊢; exact h) | exact h
            case ha24a =>
              intro vals
              simp only [putsTo, dstOf, if_true, Act.put, List.setIfInBounds_toArray, List.set_cons_zero, List.set_cons_succ, List.getElem?_toArray, List.getElem?_cons_zero, List.getElem?_cons_succ, Option.bind_some]
              exact rfl
            case st24a =>
              simp only [List.take_succ_cons, List.take_zero]
              refine stepsOK_cons rfl rfl ?_ (stepsOK_cons rfl rfl ?_ (stepsOK_cons rfl rfl ?_ (stepsOK_cons rfl rfl ?_ (stepsOK_cons rfl rfl ?_ (stepsOK_cons rfl rfl ?_ (stepsOK_cons rfl rfl ?_ (stepsOK_cons rfl rfl ?_ (stepsOK_cons rfl rfl ?_ (stepsOK_nil)))))))))
              · intro vals w1 hb hd
                refine stepOK_value (v := .pointer (some ⟨g16, 2, none⟩)) (w' := w1) (by go_simp) (leaves_mk (Below.refl _ _) rfl (fun h => by cases h))
              · intro vals w1 hb hd
                have d0 : KEq (.pointer (some ⟨g16, 2, none⟩)) (vals 0) w1 := hd 0 (by kernel_rfl)
                obtain ⟨e0, e1, e2⟩ := row3 (heap_below G16.out hb)
                rw [show vals 0 = _ from d0]
                refine stepOK_value (v := .int .i64 0) (w' := w1) (by go_simp) (leaves_mk (Below.refl _ _) rfl (fun h => by cases h))
              · intro vals w1 hb hd
                refine stepOK_value (v := .pointer (some ⟨g16, 2, none⟩)) (w' := w1) (by go_simp) (leaves_mk (Below.refl _ _) rfl (fun h => by cases h))
              · intro vals w1 hb hd
                have d2 : KEq (.pointer (some ⟨g16, 2, none⟩)) (vals 2) w1 := hd 2 (by kernel_rfl)
                obtain ⟨e0, e1, e2⟩ := row3 (heap_below G16.out hb)
                rw [show vals 2 = _ from d2]
                refine stepOK_value (v := .int .i64 0) (w' := w1) (by go_simp) (leaves_mk (Below.refl _ _) rfl (fun h => by cases h))
              · intro vals w1 hb hd
                have d3 : KEq (.int .i64 0) (vals 3) w1 := hd 3 (by kernel_rfl)
                rw [show vals 3 = _ from d3]
                refine stepOK_value (v := .pointer (some ⟨g9, 0, none⟩)) (w' := w1) (by go_simp) (leaves_mk (Below.refl _ _) rfl (fun h => by cases h))
              · intro vals w1 hb hd
                have d4 : KEq (.pointer (some ⟨g9, 0, none⟩)) (vals 4) w1 := hd 4 (by kernel_rfl)
                obtain ⟨e0, e1, e2, e3, e4, e5, e6, e7, e8⟩ := row9 (heap_below G9.out hb)
                rw [show vals 4 = _ from d4]
                refine stepOK_value (v := .agg #[.bool s0, .slice o0 n0 c0, .slice a0 m0 d0]) (w' := w1) (by go_simp) (leaves_mk (Below.refl _ _) rfl (fun h => by cases h))
              · intro vals w1 hb hd
                obtain ⟨e0, e1, e2⟩ := row3 (heap_below G17.out hb)
                refine stepOK_value (v := .agg #[.bool sw, .slice ow nw cw, .slice aw mw dw]) (w' := w1) (by go_simp) (leaves_mk (Below.refl _ _) rfl (fun h => by cases h))
              · intro vals w1 hb hd
                have d5 : KEq (.agg #[.bool s0, .slice o0 n0 c0, .slice a0 m0 d0]) (vals 5) w1 := hd 5 (by kernel_rfl)
                have d6 : KEq (.agg #[.bool sw, .slice ow nw cw, .slice aw mw dw]) (vals 6) w1 := hd 6 (by kernel_rfl)
                have HS := Lib.hid (addq_any _ A0 _ wq w1 ((I0.out.below hb).is (by have := HA.out; omega)) ((IW.out.below hb).is (by have := HW.out; omega)))
                have z5 : vals 5 = _ := d5
                rw [z5]; clear z5
                have z6 : vals 6 = _ := d6
                rw [z6]; clear z6
                refine stepOK_call (by go_simp; first | done | exact ⟨⟨rfl, rfl⟩, rfl⟩) ?_
                (with_reducible refine HS.out.mono ?_); rintro e w2 ⟨v, rfl, hb2, hn⟩
                exact ⟨v, rfl, leaves_mk hb2 hn (fun h => by cases h)⟩
              · intro vals w1 hb hd
                have d1 : KEq (.int .i64 0) (vals 1) w1 := hd 1 (by kernel_rfl)
                rw [show vals 1 = _ from d1]
                refine stepOK_value (v := .pointer (some ⟨g9, 0, none⟩)) (w' := w1) (by go_simp) (leaves_mk (Below.refl _ _) rfl (fun h => by cases h))
            case tl24a =>
              intro vals w7 hb7 hf hdis
              simp only [List.drop_succ_cons, List.drop_zero]
              have z8 : vals 8 = _ := hf 8 (by decide)
              obtain ⟨vm, hvm⟩ : ∃ u, u = vals 7 := ⟨_, rfl⟩
              have hn7 : IsR w7 (vals 7) (A0 + wq) := hf 7 (by decide)
              rw [z8]
              rw [← hvm] at hn7 ⊢
              clear hf hdis hvm z8
              obtain ⟨s0', o0', n0', c0', a0', m0', d0', rfl⟩ := hn7.shape
              have BX := Lib.hid (BX.out.trans (hb7.mono BX.out.size)); have G6 := Lib.hid (heap_below G6.out hb7); have G9 := Lib.hid (heap_below G9.out hb7); have HLx := Lib.hid (HLx.out.below hb7)
              have I0 := Lib.hid (I0.out.below hb7); have I1 := Lib.hid (I1.out.below hb7); have I2 := Lib.hid (I2.out.below hb7); have IM := Lib.hid hn7
              clear hb7 hn7
              go_wp2_with (with_reducible refine wpList_pauseS ?_)
              refine wpList_stL g9 0 [.bool s0', .slice o0' n0' c0', .slice a0' m0' d0'] G9.out rfl rfl (Nat.le_of_ble_eq_true rfl) (by kernel_rfl) rfl ?_
              intro w8 hp8
              have BX8 := Lib.hid (putLb hp8 BX.out l9); have G68 := Lib.hid (putLx hp8 G6.out ne69)
              have G98 := Lib.hid (show w8.heap[g9]? = some (.cells #[.bool s0', .slice o0' n0' c0', .slice a0' m0' d0', .bool s1, .slice o1 n1 c1, .slice a1 m1 d1, .bool s2, .slice o2 n2 c2, .slice a2 m2 d2] 105) by rw [hp8]; exact putL_90 G9.out)
              have J0 := Lib.hid (putL_I hp8 IM.out G9.out noW9); have J1 := Lib.hid (putL_I hp8 I1.out G9.out noW9); have J2 := Lib.hid (putL_I hp8 I2.out G9.out noW9)
              have HL8 := Lib.hid (putL_lfs hp8 HLx.out G9.out noI9)
              have SD0 := Lib.hid (SD.out 0 A0); have SD1 := Lib.hid (SD.out 1 A1); have SD2 := Lib.hid (SD.out 2 A2)
              clear hp8 BX G6 G9 I0 I1 I2 IM HLx
              go_wp2_with fail
              go_roundw
              case rel => exact ⟨q + 1, A0 + wq, A1, A2, s0', s1, s2, o0', a0', o1, a1, o2, a2, n0', c0', m0', d0', n1, c1, m1, d1, n2, c2, m2, d2, by omega, by go_num, Lib.hid BX8.out, Lib.hid HL8.out, Lib.hid G68.out, Lib.hid G98.out, Lib.hid J0.out, Lib.hid J1.out, Lib.hid J2.out,
                Lib.hid ⟨by rw [SF.out.1, SD0.out]; rfl, by rw [SF.out.2.1, SD1.out]; rfl, by rw [SF.out.2.2, SD2.out]; rfl⟩, Lib.hid (by have := HA.out; have := HW.out; have := rl_add A0 wq; omega)⟩
              case measure => simp [intOf]; omega
          · go_wp2_with (with_reducible first | refine pauseCall ?_ | refine pauseLoop ?_ | refine pauseDraw ?_ | refine pauseBody ?_ | refine pauseRounds ?_)
            rw [← hw6, ← hG17]
            clear hw6 hG17
            refine Pause.mk ?_
            refine wp_region_facts (A := ?aa24b) (w := w6) 9 [] (by kernel_rfl) (Fl [KEq (.pointer (some ⟨g16, 2, none⟩)), KEq (.int .i64 1), KEq (.pointer (some ⟨g16, 2, none⟩)), KEq (.int .i64 1), KEq (.pointer (some ⟨g9, 3, none⟩)), KEq (.agg #[.bool s1, .slice o1 n1 c1, .slice a1 m1 d1]), KEq (.agg #[.bool sw, .slice ow nw cw, .slice aw mw dw]), KIs (A1 + wq), KEq (.pointer (some ⟨g9, 3, none⟩))]) (fun i => false) (by kernel_rfl) ?hq24b (monoL (monoC (kEq _) (monoC (kEq _) (monoC (kEq _) (monoC (kEq _) (monoC (kEq _) (monoC (kEq _) (monoC (kEq _) (monoC (kIs _) (monoC (kEq _) monoN)))))))))) ?ha24b ?st24b ?tl24b
            case hq24b =>
              intro c a d v w h
              first | (simp only [Exit.then] at h ⊢; exact h) | (simp only [Exit.inBlock, Exit.then] at h ⊢; exact h) | exact h
            case ha24b =>
              intro vals
              simp only [putsTo, dstOf, if_true, Act.put, List.setIfInBounds_toArray, List.set_cons_zero, List.set_cons_succ, List.getElem?_toArray, List.getElem?_cons_zero, List.getElem?_cons_succ, Option.bind_some]
              exact rfl
            case st24b =>
              simp only [List.take_succ_cons, List.take_zero]
              refine stepsOK_cons rfl rfl ?_ (stepsOK_cons rfl rfl ?_ (stepsOK_cons rfl rfl ?_ (stepsOK_cons rfl rfl ?_ (stepsOK_cons rfl rfl ?_ (stepsOK_cons rfl rfl ?_ (stepsOK_cons rfl rfl ?_ (stepsOK_cons rfl rfl ?_ (stepsOK_cons rfl rfl ?_ (stepsOK_nil)))))))))
              · intro vals w1 hb hd
                refine stepOK_value (v := .pointer (some ⟨g16, 2, none⟩)) (w' := w1) (by go_simp) (leaves_mk (Below.refl _ _) rfl (fun h => by cases h))
              · intro vals w1 hb hd
                have d0 : KEq (.pointer (some ⟨g16, 2, none⟩)) (vals 0) w1 := hd 0 (by kernel_rfl)
                obtain ⟨e0, e1, e2⟩ := row3 (heap_below G16.out hb)
                rw [show vals 0 = _ from d0]
                refine stepOK_value (v := .int .i64 1) (w' := w1) (by go_simp) (leaves_mk (Below.refl _ _) rfl (fun h => by cases h))
              · intro vals w1 hb hd
                refine stepOK_value (v := .pointer (some ⟨g16, 2, none⟩)) (w' := w1) (by go_simp) (leaves_mk (Below.refl _ _) rfl (fun h => by cases h))
              · intro vals w1 hb hd
                have d2 : KEq (.pointer (some ⟨g16, 2, none⟩)) (vals 2) w1 := hd 2 (by kernel_rfl)
                obtain ⟨e0, e1, e2⟩ := row3 (heap_below G16.out hb)
                rw [show vals 2 = _ from d2]
                refine stepOK_value (v := .int .i64 1) (w' := w1) (by go_simp) (leaves_mk (Below.refl _ _) rfl (fun h => by cases h))
              · intro vals w1 hb hd
                have d3 : KEq (.int .i64 1) (vals 3) w1 := hd 3 (by kernel_rfl)
                rw [show vals 3 = _ from d3]
                refine stepOK_value (v := .pointer (some ⟨g9, 3, none⟩)) (w' := w1) (by go_simp) (leaves_mk (Below.refl _ _) rfl (fun h => by cases h))
              · intro vals w1 hb hd
                have d4 : KEq (.pointer (some ⟨g9, 3, none⟩)) (vals 4) w1 := hd 4 (by kernel_rfl)
                obtain ⟨e0, e1, e2, e3, e4, e5, e6, e7, e8⟩ := row9 (heap_below G9.out hb)
                rw [show vals 4 = _ from d4]
                refine stepOK_value (v := .agg #[.bool s1, .slice o1 n1 c1, .slice a1 m1 d1]) (w' := w1) (by go_simp) (leaves_mk (Below.refl _ _) rfl (fun h => by cases h))
              · intro vals w1 hb hd
                obtain ⟨e0, e1, e2⟩ := row3 (heap_below G17.out hb)
                refine stepOK_value (v := .agg #[.bool sw, .slice ow nw cw, .slice aw mw dw]) (w' := w1) (by go_simp) (leaves_mk (Below.refl _ _) rfl (fun h => by cases h))
              · intro vals w1 hb hd
                have d5 : KEq (.agg #[.bool s1, .slice o1 n1 c1, .slice a1 m1 d1]) (vals 5) w1 := hd 5 (by kernel_rfl)
                have d6 : KEq (.agg #[.bool sw, .slice ow nw cw, .slice aw mw dw]) (vals 6) w1 := hd 6 (by kernel_rfl)
                have HS := Lib.hid (addq_any _ A1 _ wq w1 ((I1.out.below hb).is (by have := HA.out; omega)) ((IW.out.below hb).is (by have := HW.out; omega)))
                have z5 : vals 5 = _ := d5
                rw [z5]; clear z5
                have z6 : vals 6 = _ := d6
                rw [z6]; clear z6
                refine stepOK_call (by go_simp; first | done | exact ⟨⟨rfl, rfl⟩, rfl⟩) ?_
                (with_reducible refine HS.out.mono ?_); rintro e w2 ⟨v, rfl, hb2, hn⟩
                exact ⟨v, rfl, leaves_mk hb2 hn (fun h => by cases h)⟩
              · intro vals w1 hb hd
                have d1 : KEq (.int .i64 1) (vals 1) w1 := hd 1 (by kernel_rfl)
                rw [show vals 1 = _ from d1]
                refine stepOK_value (v := .pointer (some ⟨g9, 3, none⟩)) (w' := w1) (by go_simp) (leaves_mk (Below.refl _ _) rfl (fun h => by cases h))
            case tl24b =>
              intro vals w7 hb7 hf hdis
              simp only [List.drop_succ_cons, List.drop_zero]
              have z8 : vals 8 = _ := hf 8 (by decide)
              obtain ⟨vm, hvm⟩ : ∃ u, u = vals 7 := ⟨_, rfl⟩
              have hn7 : IsR w7 (vals 7) (A1 + wq) := hf 7 (by decide)
              rw [z8]
              rw [← hvm] at hn7 ⊢
              clear hf hdis hvm z8
              obtain ⟨s1', o1', n1', c1', a1', m1', d1', rfl⟩ := hn7.shape
              have BX := Lib.hid (BX.out.trans (hb7.mono BX.out.size)); have G6 := Lib.hid (heap_below G6.out hb7); have G9 := Lib.hid (heap_below G9.out hb7); have HLx := Lib.hid (HLx.out.below hb7)
              have I0 := Lib.hid (I0.out.below hb7); have I1 := Lib.hid (I1.out.below hb7); have I2 := Lib.hid (I2.out.below hb7); have IM := Lib.hid hn7
              clear hb7 hn7
              go_wp2_with (with_reducible refine wpList_pauseS ?_)
              refine wpList_stL g9 3 [.bool s1', .slice o1' n1' c1', .slice a1' m1' d1'] G9.out rfl rfl (Nat.le_of_ble_eq_true rfl) (by kernel_rfl) rfl ?_
              intro w8 hp8
              have BX8 := Lib.hid (putLb hp8 BX.out l9); have G68 := Lib.hid (putLx hp8 G6.out ne69)
              have G98 := Lib.hid (show w8.heap[g9]? = some (.cells #[.bool s0, .slice o0 n0 c0, .slice a0 m0 d0, .bool s1', .slice o1' n1' c1', .slice a1' m1' d1', .bool s2, .slice o2 n2 c2, .slice a2 m2 d2] 105) by rw [hp8]; exact putL_93 G9.out)
              have J0 := Lib.hid (putL_I hp8 I0.out G9.out noW9); have J1 := Lib.hid (putL_I hp8 IM.out G9.out noW9); have J2 := Lib.hid (putL_I hp8 I2.out G9.out noW9)
              have HL8 := Lib.hid (putL_lfs hp8 HLx.out G9.out noI9)
              have SD0 := Lib.hid (SD.out 0 A0); have SD1 := Lib.hid (SD.out 1 A1); have SD2 := Lib.hid (SD.out 2 A2)
              clear hp8 BX G6 G9 I0 I1 I2 IM HLx
              go_wp2_with fail
              go_roundw
              case rel => exact ⟨q + 1, A0, A1 + wq, A2, s0, s1', s2, o0, a0, o1', a1', o2, a2, n0, c0, m0, d0, n1', c1', m1', d1', n2, c2, m2, d2, by omega, by go_num, Lib.hid BX8.out, Lib.hid HL8.out, Lib.hid G68.out, Lib.hid G98.out, Lib.hid J0.out, Lib.hid J1.out, Lib.hid J2.out,
                Lib.hid ⟨by rw [SF.out.1, SD0.out]; rfl, by rw [SF.out.2.1, SD1.out]; rfl, by rw [SF.out.2.2, SD2.out]; rfl⟩, Lib.hid (by have := HA.out; have := HW.out; have := rl_add A1 wq; omega)⟩
              case measure => simp [intOf]; omega
          · go_wp2_with (with_reducible first | refine pauseCall ?_ | refine pauseLoop ?_ | refine pauseDraw ?_ | refine pauseBody ?_ | refine pauseRounds ?_)
            rw [← hw6, ← hG17]
            clear hw6 hG17
            refine Pause.mk ?_
            refine wp_region_facts (A := ?aa24c) (w := w6) 9 [] (by kernel_rfl) (Fl [KEq (.pointer (some ⟨g16, 2, none⟩)), KEq (.int .i64 2), KEq (.pointer (some ⟨g16, 2, none⟩)), KEq (.int .i64 2), KEq (.pointer (some ⟨g9, 6, none⟩)), KEq (.agg #[.bool s2, .slice o2 n2 c2, .slice a2 m2 d2]), KEq (.agg #[.bool sw, .slice ow nw cw, .slice aw mw dw]), KIs (A2 + wq), KEq (.pointer (some ⟨g9, 6, none⟩))]) (fun i => false) (by kernel_rfl) ?hq24c (monoL (monoC (kEq _) (monoC (kEq _) (monoC (kEq _) (monoC (kEq _) (monoC (kEq _) (monoC (kEq _) (monoC (kEq _) (monoC (kIs _) (monoC (kEq _) monoN)))))))))) ?ha24c ?st24c ?tl24c
            case hq24c =>
              intro c a d v w h
              first | (simp only [Exit.then] at h ⊢; exact h) | (simp only [Exit.inBlock, Exit.then] at h ⊢; exact h) | exact h
            case ha24c =>
              intro vals
              simp only [putsTo, dstOf, if_true, Act.put, List.setIfInBounds_toArray, List.set_cons_zero, List.set_cons_succ, List.getElem?_toArray, List.getElem?_cons_zero, List.getElem?_cons_succ, Option.bind_some]
              exact rfl
            case st24c =>
              simp only [List.take_succ_cons, List.take_zero]
              refine stepsOK_cons rfl rfl ?_ (stepsOK_cons rfl rfl ?_ (stepsOK_cons rfl rfl ?_ (stepsOK_cons rfl rfl ?_ (stepsOK_cons rfl rfl ?_ (stepsOK_cons rfl rfl ?_ (stepsOK_cons rfl rfl ?_ (stepsOK_cons rfl rfl ?_ (stepsOK_cons rfl rfl ?_ (stepsOK_nil)))))))))
              · intro vals w1 hb hd
                refine stepOK_value (v := .pointer (some ⟨g16, 2, none⟩)) (w' := w1) (by go_simp) (leaves_mk (Below.refl _ _) rfl (fun h => by cases h))
              · intro vals w1 hb hd
                have d0 : KEq (.pointer (some ⟨g16, 2, none⟩)) (vals 0) w1 := hd 0 (by kernel_rfl)
                obtain ⟨e0, e1, e2⟩ := row3 (heap_below G16.out hb)
                rw [show vals 0 = _ from d0]
                refine stepOK_value (v := .int .i64 2) (w' := w1) (by go_simp) (leaves_mk (Below.refl _ _) rfl (fun h => by cases h))
              · intro vals w1 hb hd
                refine stepOK_value (v := .pointer (some ⟨g16, 2, none⟩)) (w' := w1) (by go_simp) (leaves_mk (Below.refl _ _) rfl (fun h => by cases h))
              · intro vals w1 hb hd
                have d2 : KEq (.pointer (some ⟨g16, 2, none⟩)) (vals 2) w1 := hd 2 (by kernel_rfl)
                obtain ⟨e0, e1, e2⟩ := row3 (heap_below G16.out hb)
                rw [show vals 2 = _ from d2]
                refine stepOK_value (v := .int .i64 2) (w' := w1) (by go_simp) (leaves_mk (Below.refl _ _) rfl (fun h => by cases h))
              · intro vals w1 hb hd
                have d3 : KEq (.int .i64 2) (vals 3) w1 := hd 3 (by kernel_rfl)
                rw [show vals 3 = _ from d3]
                refine stepOK_value (v := .pointer (some ⟨g9, 6, none⟩)) (w' := w1) (by go_simp) (leaves_mk (Below.refl _ _) rfl (fun h => by cases h))
              · intro vals w1 hb hd
                have d4 : KEq (.pointer (some ⟨g9, 6, none⟩)) (vals 4) w1 := hd 4 (by kernel_rfl)
                obtain ⟨e0, e1, e2, e3, e4, e5, e6, e7, e8⟩ := row9 (heap_below G9.out hb)
                rw [show vals 4 = _ from d4]
                refine stepOK_value (v := .agg #[.bool s2, .slice o2 n2 c2, .slice a2 m2 d2]) (w' := w1) (by go_simp) (leaves_mk (Below.refl _ _) rfl (fun h => by cases h))
              · intro vals w1 hb hd
                obtain ⟨e0, e1, e2⟩ := row3 (heap_below G17.out hb)
                refine stepOK_value (v := .agg #[.bool sw, .slice ow nw cw, .slice aw mw dw]) (w' := w1) (by go_simp) (leaves_mk (Below.refl _ _) rfl (fun h => by cases h))
              · intro vals w1 hb hd
                have d5 : KEq (.agg #[.bool s2, .slice o2 n2 c2, .slice a2 m2 d2]) (vals 5) w1 := hd 5 (by kernel_rfl)
                have d6 : KEq (.agg #[.bool sw, .slice ow nw cw, .slice aw mw dw]) (vals 6) w1 := hd 6 (by kernel_rfl)
                have HS := Lib.hid (addq_any _ A2 _ wq w1 ((I2.out.below hb).is (by have := HA.out; omega)) ((IW.out.below hb).is (by have := HW.out; omega)))
                have z5 : vals 5 = _ := d5
                rw [z5]; clear z5
                have z6 : vals 6 = _ := d6
                rw [z6]; clear z6
                refine stepOK_call (by go_simp; first | done | exact ⟨⟨rfl, rfl⟩, rfl⟩) ?_
                (with_reducible refine HS.out.mono ?_); rintro e w2 ⟨v, rfl, hb2, hn⟩
                exact ⟨v, rfl, leaves_mk hb2 hn (fun h => by cases h)⟩
              · intro vals w1 hb hd
                have d1 : KEq (.int .i64 2) (vals 1) w1 := hd 1 (by kernel_rfl)
                rw [show vals 1 = _ from d1]
                refine stepOK_value (v := .pointer (some ⟨g9, 6, none⟩)) (w' := w1) (by go_simp) (leaves_mk (Below.refl _ _) rfl (fun h => by cases h))
            case tl24c =>
              intro vals w7 hb7 hf hdis
              simp only [List.drop_succ_cons, List.drop_zero]
              have z8 : vals 8 = _ := hf 8 (by decide)
              obtain ⟨vm, hvm⟩ : ∃ u, u = vals 7 := ⟨_, rfl⟩
              have hn7 : IsR w7 (vals 7) (A2 + wq) := hf 7 (by decide)
              rw [z8]
              rw [← hvm] at hn7 ⊢
              clear hf hdis hvm z8
              obtain ⟨s2', o2', n2', c2', a2', m2', d2', rfl⟩ := hn7.shape
              have BX := Lib.hid (BX.out.trans (hb7.mono BX.out.size)); have G6 := Lib.hid (heap_below G6.out hb7); have G9 := Lib.hid (heap_below G9.out hb7); have HLx := Lib.hid (HLx.out.below hb7)
              have I0 := Lib.hid (I0.out.below hb7); have I1 := Lib.hid (I1.out.below hb7); have I2 := Lib.hid (I2.out.below hb7); have IM := Lib.hid hn7
              clear hb7 hn7
              go_wp2_with (with_reducible refine wpList_pauseS ?_)
              refine wpList_stL g9 6 [.bool s2', .slice o2' n2' c2', .slice a2' m2' d2'] G9.out rfl rfl (Nat.le_of_ble_eq_true rfl) (by kernel_rfl) rfl ?_
              intro w8 hp8
              have BX8 := Lib.hid (putLb hp8 BX.out l9); have G68 := Lib.hid (putLx hp8 G6.out ne69)
              have G98 := Lib.hid (show w8.heap[g9]? = some (.cells #[.bool s0, .slice o0 n0 c0, .slice a0 m0 d0, .bool s1, .slice o1 n1 c1, .slice a1 m1 d1, .bool s2', .slice o2' n2' c2', .slice a2' m2' d2'] 105) by rw [hp8]; exact putL_96 G9.out)
              have J0 := Lib.hid (putL_I hp8 I0.out G9.out noW9); have J1 := Lib.hid (putL_I hp8 I1.out G9.out noW9); have J2 := Lib.hid (putL_I hp8 IM.out G9.out noW9)
              have HL8 := Lib.hid (putL_lfs hp8 HLx.out G9.out noI9)
              have SD0 := Lib.hid (SD.out 0 A0); have SD1 := Lib.hid (SD.out 1 A1); have SD2 := Lib.hid (SD.out 2 A2)
              clear hp8 BX G6 G9 I0 I1 I2 IM HLx
              go_wp2_with fail
              go_roundw
              case rel => exact ⟨q + 1, A0, A1, A2 + wq, s0, s1, s2', o0, a0, o1, a1, o2', a2', n0, c0, m0, d0, n1, c1, m1, d1, n2', c2', m2', d2', by omega, by go_num, Lib.hid BX8.out, Lib.hid HL8.out, Lib.hid G68.out, Lib.hid G98.out, Lib.hid J0.out, Lib.hid J1.out, Lib.hid J2.out,
                Lib.hid ⟨by rw [SF.out.1, SD0.out]; rfl, by rw [SF.out.2.1, SD1.out]; rfl, by rw [SF.out.2.2, SD2.out]; rfl⟩, Lib.hid (by have := HA.out; have := HW.out; have := rl_add A2 wq; omega)⟩
              case measure => simp [intOf]; omega
        · have hq' : q = ls.length := by omega
          subst hq'
          have SF := SF.out
          rw [List.drop_length] at SF
          have S0 := Lib.hid (show sumF (L.map Rv.q) 0 ls 0 = A0 from SF.1); have S1 := Lib.hid (show sumF (L.map Rv.q) 1 ls 0 = A1 from SF.2.1); have S2 := Lib.hid (show sumF (L.map Rv.q) 2 ls 0 = A2 from SF.2.2)
          clear SF
          obtain ⟨z0, z1, z2, z3, z4, z5, z6, z7, z8⟩ := row9 G9.out
          go_wp2_with (with_reducible refine wpList_pauseS ?_)
          refine wpList_stL g6 0 [.bool s0, .slice o0 n0 c0, .slice a0 m0 d0, .bool s1, .slice o1 n1 c1, .slice a1 m1 d1, .bool s2, .slice o2 n2 c2, .slice a2 m2 d2] G6.out rfl rfl (Nat.le_of_ble_eq_true rfl) (by kernel_rfl) rfl ?_
          intro wz hpz
          have GZ := Lib.hid (show wz.heap[g6]? = some (.cells #[.bool s0, .slice o0 n0 c0, .slice a0 m0 d0, .bool s1, .slice o1 n1 c1, .slice a1 m1 d1, .bool s2, .slice o2 n2 c2, .slice a2 m2 d2] 105) by rw [hpz]; exact putL_99 G6.out)
          have HBZ := Lib.hid (putLb hpz BX.out l6)
          have J0 := Lib.hid (putL_I hpz I0.out G6.out noW9); have J1 := Lib.hid (putL_I hpz I1.out G6.out noW9); have J2 := Lib.hid (putL_I hpz I2.out G6.out noW9)
          have JL := Lib.hid (putL_lfs hpz HLx.out G6.out noI9)
          clear hpz z0 z1 z2 z3 z4 z5 z6 z7 z8
          go_wp2_with (with_reducible first | refine pauseCall ?_ | refine pauseLoop ?_ | refine pauseDraw ?_ | refine pauseBody ?_ | refine pauseRounds ?_)
          refine ret_c3 rfl g6 #[.bool s0, .slice o0 n0 c0, .slice a0 m0 d0, .bool s1, .slice o1 n1 c1, .slice a1 m1 d1, .bool s2, .slice o2 n2 c2, .slice a2 m2 d2] rfl GZ.out Tryz.underlying105 rfl (by kernel_rfl) rfl ?_
          rw [R0.out]
          have K0 := J0.out; have K1 := J1.out; have K2 := J2.out
          rw [← S0.out] at K0; rw [← S1.out] at K1; rw [← S2.out] at K2
          exact ⟨s0, s1, s2, o0, a0, o1, a1, o2, a2, n0, c0, m0, d0, n1, c1, m1, d1, n2, c2, m2, d2, .slice al ls.length cl, rfl, HBZ.out, fun _ => by rw [← HLS.out]; exact ⟨K0, K1, K2, JL.out⟩⟩
end Go.Proofs.YthhgfhdmfhnklaaGreatDoor
