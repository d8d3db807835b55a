/-
  What the law leans on, one text behind the other (the base).
  Conditions: each theorem's own.
-/
import Derived.Test.YthhgfhdmfhnklaaGreatDoorMV4
set_option maxRecDepth 100000
set_option maxHeartbeats 16000000
namespace Go.Proofs.YthhgfhdmfhnklaaGreatDoor
open Go.RowKit Go.ChangeShapes Go.WideShapes
theorem lf_noU (l : List Lf) : noU (qdi l) := by
 intro u hu k
 obtain ⟨y, _, hy⟩ := List.mem_flatMap.1 hu
 simp only [Lf.cells, List.mem_cons, List.not_mem_nil, or_false] at hy
 rcases hy with rfl | rfl | rfl <;> exact fun e => by cases e
theorem noU_i3 {a b c : Int} : noU [Value.int .i64 a, .int .i64 b, .int .i64 c] := by
 intro u hu k
 simp only [List.mem_cons, List.not_mem_nil, or_false] at hu
 rcases hu with rfl | rfl | rfl <;> exact fun e => by cases e
theorem Tryz.leafTy : qee Tryz.prog 42 48 (.agg #[.int .i64 0, .int .i64 0, .int .i64 0]) 3 24 := .mk' Tryz.underlying42 (by kernel_rfl)
theorem gb_row {a b c : World} {r r' : Option Nat} (h : a.grownBy b r) (k : b.grownBy c r') (hr : ∀ g, g < a.heap.size → r ≠ some g → r' ≠ some g) : a.grownBy c r :=
 ⟨k.os.trans h.os, k.tape.trans h.tape, k.output.trans h.output, Nat.le_trans h.size k.size, fun i hi hne => (k.block i (Nat.lt_of_lt_of_le hi h.size) (fun e => hr i hi (fun e2 => hne e2.symm) e.symm)).trans (h.block i hi hne)⟩
theorem gb_heap2 {a b : World} {r : Option Nat} {p : Nat} {o : Obj} (h : a.grownBy b r) (hp : a.heap[p]? = some o) (hne : r ≠ some p) : b.heap[p]? = some o := by
 rw [h.block p (Array.getElem?_eq_some_iff.1 hp).1 (fun e => hne e.symm)]; exact hp
theorem ownL_base {w : World} {B : Nat} {e : TypeId} {size : Nat} {v : Value} {n : Nat} {xs : List Value} (h : OwnL w B e size v n xs) {w0 w' : World} (hb : Below w0.heap.size w0 w) (hg : w.grownBy w' v.ownBlock) (hB : w0.heap.size ≤ B) : Below w0.heap.size w0 w' :=
 hb.grown hg hb.size (fun k hk => Nat.le_trans hB (World.ownsRow.lt h.1 k hk).1)
def RetLv (w : World) (B : Nat) (v : Value) (L : List Lf) (e : Ending) (w' : World) : Prop :=
 ∃ v', e = .returned v' ∧ OwnL w' B 48 3 v' L.length (qdi L) ∧ w.grownBy w' v.ownBlock ∧ ∀ g, g < w.heap.size → v.ownBlock ≠ some g → v'.ownBlock ≠ some g

theorem sleaves_any (V : Nat) (hV : V ≤ 24) : ∀ (N : Nat) (t : Tr), SizeOf.sizeOf t < N → ∀ (x vv : Value) (y n B above : Nat) (l : List Lf) (w0 w : World), TrV w0 x t → Below w0.heap.size w0 w → qej V t above → y < 16777216 → n < 16777216 →
  OwnL w B 48 3 vv l.length (qdi l) → w0.heap.size ≤ B → B ≤ w.heap.size → l.length + qdo t ≤ 1000000 →
  Calls Tryz.prog 47 #[vv, x, .agg #[.int .i64 (y : Nat), .int .i64 (n : Nat)]] w (RetLv w B vv (l ++ qah t y n))
 | 0, _, h, _, _, _, _, _, _, _, _, _, _, _, _, _, _, _, _, _, _ => by omega
 | N + 1, .mk vv0 [] r, hN, x, vv, y, n, B, above, l, w0, w, ht, hb0, hok, hy, hn, ho, hB0, hBw, hlen => by
  obtain ⟨ao, c, rfl, hks, hc1, hc2, hv, hr⟩ := ht.open
  simp only [List.length_nil, qdo] at hks hc1 hlen ⊢
  obtain ⟨W, hW, hbW, hB1, hB2⟩ := qBx2 w (.cells #[.int .i64 vv0, .slice ao 0 c, .int .i64 r] 27) (.cells #[.int .i64 (y : Nat), .int .i64 (n : Nat)] 46)
  obtain ⟨b1, hb1⟩ : ∃ g, g = w.heap.size := ⟨_, rfl⟩
  obtain ⟨b2, hb2⟩ : ∃ g, g = w.heap.size + 1 := ⟨_, rfl⟩
  rw [← hb1] at hB1; rw [← hb2] at hB2
  have hWs : W.heap.size = w.heap.size + 1 + 1 := by rw [hW]; simp
  have hz := heap_alloc_new W (.cells #[.int .i64 (y : Nat), .int .i64 (n : Nat), .int .i64 r] 48)
  have hb3 : Below w.heap.size w (W.alloc (.cells #[.int .i64 (y : Nat), .int .i64 (n : Nat), .int .i64 r] 48)) := hbW.alloc hbW.size _
  rw [hWs] at hz
  have HO := qHd (ho.below hb3); have HB3 := qHd hb3; have HZ := qHd hz
  clear hWs
  obtain ⟨x0, x1, x2⟩ := qay hB1
  clear hz hb3 hB1 hB2 hbW ho hks ht hb0 hok hb1 hb2
  rw [hW] at x0 x1 x2
  go_enter Tryz.func47, Tryz.ntmps47
  go_wp2_with (with_reducible refine qby ?_)
  rw [← hW]; clear hW x0 x1 x2
  refine wpList_appL B Tryz.leafTy rfl noU_i3 (by decide) vv l.length (qdi l) [.int .i64 (y : Nat), .int .i64 (n : Nat), .int .i64 r] (w.heap.size + 1 + 1) 48 rfl rfl HO.out HZ.out rfl rfl noU_i3 (lf_noU l) (by omega) (by decide) (Nat.le_trans hBw HB3.out.size) ?_
  intro v' w' h1 h2 h3
  have H1 := qHd h1; have H2 := qHd h2; have H3 := qHd h3
  clear h1 h2 h3
  go_wp2_with fail
  go_ret
  exact ⟨_, rfl, by rw [show qah (.mk vv0 [] r) y n = [⟨y, n, r⟩] by simp [qah], List.length_append, lfCells_app, lfCells_one]; exact H1.out, qey (qev HB3.out) H2.out, fun g hg hne => H3.out g (Nat.lt_of_lt_of_le hg HB3.out.size) hne⟩
 | N + 1, .mk v0 [a, b] r, hN, x, vv, y, n, B, above, l, w0, w, ht, hb0, hok, hy, hn, ho, hB0, hBw, hlen => by
  simp only [qej] at hok
  obtain ⟨q0, q1, q2, rfl, hoa, hob⟩ := hok
  obtain ⟨vn, rfl⟩ : ∃ vn : Nat, v0 = vn := ⟨v0.toNat, by omega⟩
  rw [Int.toNat_natCast] at hoa hob
  have hvn : vn < V := by omega
  obtain ⟨ao, c, rfl, hks, hc1, hc2, _, _⟩ := ht.open
  simp only [List.length_cons, List.length_nil] at hks hc1 ⊢
  obtain ⟨bk, ok, rfl, hbk, hjk, hat⟩ := hks.at (by decide); clear hjk hks ht
  obtain ⟨kva, kra, kaa, kna, kca, ca0, ca1, ca2, hTVa⟩ := (hat 0 a rfl).val
  obtain ⟨kvb, krb, kab, knb, kcb, cb0, cb1, cb2, hTVb⟩ := (hat 1 b rfl).val
  simp only [Nat.zero_mul, Nat.add_zero, Nat.one_mul] at ca0 ca1 ca2 cb0 cb1 cb2
  have hsa : SizeOf.sizeOf a < N := by have := qcj (v := (vn : Int)) (r := 0) (ks := [a, b]) (k := a) (by simp); omega
  have hsb : SizeOf.sizeOf b < N := by have := qcj (v := (vn : Int)) (r := 0) (ks := [a, b]) (k := b) (by simp); omega
  have KA := qHd (And.intro ca0 (And.intro ca1 ca2)); have KB := qHd (And.intro cb0 (And.intro cb1 cb2))
  have HTA := qHd hTVa; have HTB := qHd hTVb; have HSA := qHd hsa; have HSB := qHd hsb; have HOA := qHd hoa; have HOB := qHd hob
  clear ca0 ca1 ca2 cb0 cb1 cb2 hat hTVa hTVb hsa hsb hoa hob q0 q1 q2
  obtain ⟨P2, hP2⟩ : ∃ P : Nat, P = 2 ^ vn := ⟨_, rfl⟩
  have hp24 : P2 < 16777216 := by rw [hP2]; exact pow_l24 (by omega)
  have DP := qHd (show IntKind.wrap .i64 (2 ^ vn) = (P2 : Int) by rw [shl_one (by omega), hP2])
  obtain ⟨nb, hnb⟩ : ∃ nb, nb = n ||| 1 <<< vn := ⟨_, rfl⟩
  obtain ⟨yb, hyb⟩ : ∃ yb, yb = y ||| 1 <<< vn := ⟨_, rfl⟩
  have hnb3 : nb = n ||| P2 := by rw [hnb, hP2, Nat.one_shiftLeft]
  have hyb3 : yb = y ||| P2 := by rw [hyb, hP2, Nat.one_shiftLeft]
  have HNB := qHd (show nb < 16777216 by rw [hnb3]; exact Nat.or_lt_two_pow (n := 24) (by omega) (by omega))
  have HYB := qHd (show yb < 16777216 by rw [hyb3]; exact Nat.or_lt_two_pow (n := 24) (by omega) (by omega))
  have DN := qHd (show bits .or .i64 (n : Int) (P2 : Int) = (nb : Int) by rw [bits_or (by omega) (by omega), hnb3])
  have DY := qHd (show bits .or .i64 (y : Int) (P2 : Int) = (yb : Int) by rw [bits_or (by omega) (by omega), hyb3])
  have TL := qHd (show qah (.mk (vn : Nat) [a, b] 0) y n = qah a y nb ++ qah b yb n by rw [hnb, hyb]; rfl)
  clear hP2 hnb hyb hnb3 hyb3
  simp only [qdo] at hlen
  obtain ⟨W, hW, hbW, hB1, hB2⟩ := qBx2 w (.cells #[.int .i64 vn, .slice (some ⟨bk, ok, none⟩) 2 c, .int .i64 0] 27) (.cells #[.int .i64 (y : Nat), .int .i64 (n : Nat)] 46)
  obtain ⟨b1, hb1⟩ : ∃ g, g = w.heap.size := ⟨_, rfl⟩
  obtain ⟨b2, hb2⟩ : ∃ g, g = w.heap.size + 1 := ⟨_, rfl⟩
  rw [← hb1] at hB1; rw [← hb2] at hB2
  have HB := qHd (hb0.trans (hbW.mono hb0.size)); have B1 := qHd hB1; have B2 := qHd hB2
  have HO := qHd (ho.below hbW); have HGW := qHd (qev (r := vv.ownBlock) hbW)
  have n1 : vv.ownBlock ≠ some b1 := ho.lt (by omega)
  have n2 : vv.ownBlock ≠ some b2 := ho.lt (by omega)
  have hsz := hbW.size
  clear hbW hB1 hB2 ho hb0
  obtain ⟨x0, x1, x2⟩ := qay B1.out
  rw [hW, hb1] at x0 x1 x2
  go_enter Tryz.func47, Tryz.ntmps47
  go_wp2_with (with_reducible first | refine qad ?_ | refine qai ?_ | refine qaj ?_ | refine qak ?_ | refine qag ?_)
  rw [← hW, ← hb2, ← hb1]
  clear hW hb1 hb2 x0 x1 x2
  refine qap.mk ?_
  refine qao (A := ?aa3) (w := W) 14 [] (by kernel_rfl) (Fl [KEq (vv), KEq (.pointer (some ⟨b1, 1, none⟩)), KEq (.slice (some ⟨bk, ok, none⟩) 2 c), KEq (.pointer (some ⟨bk, ok, none⟩)), KEq (.agg #[.int .i64 kva, .slice kaa kna kca, .int .i64 kra]), KEq (.pointer (some ⟨b2, 0, none⟩)), KEq (.int .i64 (y : Nat)), KEq (.pointer (some ⟨b2, 1, none⟩)), KEq (.int .i64 (n : Nat)), KEq (.pointer (some ⟨b1, 0, none⟩)), KEq (.int .i64 (vn : Nat)), KEq (.int .i64 (P2 : Nat)), KEq (.int .i64 (nb : Nat)), KEq (.agg #[.int .i64 (y : Nat), .int .i64 (nb : Nat)])]) (fun i => false) (by kernel_rfl) ?hq3 (qcw (qae (kEq _) (qae (kEq _) (qae (kEq _) (qae (kEq _) (qae (kEq _) (qae (kEq _) (qae (kEq _) (qae (kEq _) (qae (kEq _) (qae (kEq _) (qae (kEq _) (qae (kEq _) (qae (kEq _) (qae (kEq _) qcv))))))))))))))) ?ha3 ?st3 ?tl3
  case hq3 =>
   intro c a d v w h
   first | (simp only [Exit.then] at h ⊢; exact h) | (simp only [Exit.inBlock, Exit.then] at h ⊢; exact h) | exact h
  case ha3 =>
   intro vals
   simp only [qba, qcd, if_true, Act.put, List.setIfInBounds_toArray, List.set_cons_zero, List.set_cons_succ, List.getElem?_toArray, List.getElem?_cons_zero, List.getElem?_cons_succ, Option.bind_some]
   exact rfl
  case st3 =>
   simp only [List.take_succ_cons, List.take_zero]
   refine qab rfl rfl ?_ (qab rfl rfl ?_ (qab rfl rfl ?_ (qab rfl rfl ?_ (qab rfl rfl ?_ (qab rfl rfl ?_ (qab rfl rfl ?_ (qab rfl rfl ?_ (qab rfl rfl ?_ (qab rfl rfl ?_ (qab rfl rfl ?_ (qab rfl rfl ?_ (qab rfl rfl ?_ (qab rfl rfl ?_ (qav))))))))))))))
   ·intro vals w1 hb hd
    refine qSv (vv) (by go_simp) (qLk rfl rfl)
   ·intro vals w1 hb hd
    refine qSv (.pointer (some ⟨b1, 1, none⟩)) (by go_simp) (qLk rfl rfl)
   ·intro vals w1 hb hd
    obtain ⟨e0, e1, e2⟩ := qay (qaa B1.out hb)
    rw [show vals 1 = .pointer (some ⟨b1, 1, none⟩) from hd 1 (by kernel_rfl)]
    refine qSv (.slice (some ⟨bk, ok, none⟩) 2 c) (by go_simp) (qLk rfl rfl)
   ·intro vals w1 hb hd
    rw [show vals 2 = .slice (some ⟨bk, ok, none⟩) 2 c from hd 2 (by kernel_rfl)]
    refine qSv (.pointer (some ⟨bk, ok, none⟩)) (by go_simp) (qLk rfl rfl)
   ·intro vals w1 hb hd
    have hbx := HB.out.trans (hb.mono HB.out.size)
    have k0 := (hbx.cell (p := ⟨bk, _, none⟩) hbk).trans KA.out.1
    have k1 := (hbx.cell (p := ⟨bk, _, none⟩) hbk).trans KA.out.2.1
    have k2 := (hbx.cell (p := ⟨bk, _, none⟩) hbk).trans KA.out.2.2
    rw [show vals 3 = .pointer (some ⟨bk, ok, none⟩) from hd 3 (by kernel_rfl)]
    refine qSv (.agg #[.int .i64 kva, .slice kaa kna kca, .int .i64 kra]) (by go_simp) (qLk rfl rfl)
   ·intro vals w1 hb hd
    refine qSv (.pointer (some ⟨b2, 0, none⟩)) (by go_simp) (qLk rfl rfl)
   ·intro vals w1 hb hd
    obtain ⟨e0, e1⟩ := qcy (qaa B2.out hb)
    rw [show vals 5 = .pointer (some ⟨b2, 0, none⟩) from hd 5 (by kernel_rfl)]
    refine qSv (.int .i64 (y : Nat)) (by go_simp) (qLk rfl rfl)
   ·intro vals w1 hb hd
    refine qSv (.pointer (some ⟨b2, 1, none⟩)) (by go_simp) (qLk rfl rfl)
   ·intro vals w1 hb hd
    obtain ⟨e0, e1⟩ := qcy (qaa B2.out hb)
    rw [show vals 7 = .pointer (some ⟨b2, 1, none⟩) from hd 7 (by kernel_rfl)]
    refine qSv (.int .i64 (n : Nat)) (by go_simp) (qLk rfl rfl)
   ·intro vals w1 hb hd
    refine qSv (.pointer (some ⟨b1, 0, none⟩)) (by go_simp) (qLk rfl rfl)
   ·intro vals w1 hb hd
    obtain ⟨e0, e1, e2⟩ := qay (qaa B1.out hb)
    rw [show vals 9 = .pointer (some ⟨b1, 0, none⟩) from hd 9 (by kernel_rfl)]
    refine qSv (.int .i64 (vn : Nat)) (by go_simp) (qLk rfl rfl)
   ·intro vals w1 hb hd
    rw [show vals 10 = .int .i64 (vn : Nat) from hd 10 (by kernel_rfl)]
    refine qSv (.int .i64 (P2 : Nat)) (by go_simp; first | done | exact DP.out) (qLk rfl rfl)
   ·intro vals w1 hb hd
    rw [show vals 8 = .int .i64 (n : Nat) from hd 8 (by kernel_rfl)]
    rw [show vals 11 = .int .i64 (P2 : Nat) from hd 11 (by kernel_rfl)]
    refine qSv (.int .i64 (nb : Nat)) (by go_simp; first | done | exact DN.out) (qLk rfl rfl)
   ·intro vals w1 hb hd
    rw [show vals 6 = .int .i64 (y : Nat) from hd 6 (by kernel_rfl)]
    rw [show vals 12 = .int .i64 (nb : Nat) from hd 12 (by kernel_rfl)]
    refine qSv (.agg #[.int .i64 (y : Nat), .int .i64 (nb : Nat)]) (by go_simp) (qLk rfl rfl)
  case tl3 =>
   intro vals w2 hb2 hf hdis
   simp only [List.drop_succ_cons, List.drop_zero]
   have z0 : vals 0 = _ := hf 0 (by decide)
   have z4 : vals 4 = _ := hf 4 (by decide)
   have z13 : vals 13 = _ := hf 13 (by decide)
   rw [z0, z4, z13]
   clear z0 z4 z13 hf hdis
   have HB := qHd (HB.out.trans (hb2.mono HB.out.size)); have B1 := qHd (qaa B1.out hb2); have B2 := qHd (qaa B2.out hb2)
   have HO := qHd (HO.out.below hb2); have HGW := qHd (qed HGW.out hb2)
   have hs2 := hb2.size
   clear hb2
   have HK := qHd (sleaves_any V hV N a HSA.out _ vv y nb B _ l w0 w2 HTA.out HB.out HOA.out hy HNB.out HO.out hB0 (by omega) (by omega))
   go_wp2_with (with_reducible refine qad ?_)
   refine qap.mk ?_
   (with_reducible refine HK.out.mono ?_); rintro e w3 ⟨v1, rfl, ho1, gb1, ne1⟩
   have hs3 := gb1.size
   have lt1 := qaw B1.out; have lt2 := qaw B2.out
   have HB := qHd (ownL_base HO.out HB.out gb1 hB0); have B1 := qHd (gb_heap2 gb1 B1.out n1); have B2 := qHd (gb_heap2 gb1 B2.out n2)
   have HGW := qHd (qey HGW.out gb1)
   have m1 : v1.ownBlock ≠ some b1 := ne1 b1 lt1 n1
   have m2 : v1.ownBlock ≠ some b2 := ne1 b2 lt2 n2
   have NE := qHd (show ∀ g, g < w.heap.size → vv.ownBlock ≠ some g → v1.ownBlock ≠ some g from fun g hg h => ne1 g (by omega) h)
   have HO := qHd ho1
   clear ho1 gb1 ne1 HK
   go_wp2_with (with_reducible first | refine qad ?_ | refine qai ?_ | refine qaj ?_ | refine qak ?_ | refine qag ?_)
   refine qap.mk ?_
   refine qao (A := ?aa4) (w := w3) 14 [] (by kernel_rfl) (Fl [KEq (v1), KEq (.pointer (some ⟨b1, 1, none⟩)), KEq (.slice (some ⟨bk, ok, none⟩) 2 c), KEq (.pointer (some ⟨bk, ok + 3, none⟩)), KEq (.agg #[.int .i64 kvb, .slice kab knb kcb, .int .i64 krb]), KEq (.pointer (some ⟨b2, 0, none⟩)), KEq (.int .i64 (y : Nat)), KEq (.pointer (some ⟨b1, 0, none⟩)), KEq (.int .i64 (vn : Nat)), KEq (.int .i64 (P2 : Nat)), KEq (.int .i64 (yb : Nat)), KEq (.pointer (some ⟨b2, 1, none⟩)), KEq (.int .i64 (n : Nat)), KEq (.agg #[.int .i64 (yb : Nat), .int .i64 (n : Nat)])]) (fun i => false) (by kernel_rfl) ?hq4 (qcw (qae (kEq _) (qae (kEq _) (qae (kEq _) (qae (kEq _) (qae (kEq _) (qae (kEq _) (qae (kEq _) (qae (kEq _) (qae (kEq _) (qae (kEq _) (qae (kEq _) (qae (kEq _) (qae (kEq _) (qae (kEq _) qcv))))))))))))))) ?ha4 ?st4 ?tl4
   case hq4 =>
    intro c a d v w h
    first | (simp only [Exit.then] at h ⊢; exact h) | (simp only [Exit.inBlock, Exit.then] at h ⊢; exact h) | exact h
   case ha4 =>
    intro vals
    simp only [qba, qcd, if_true, Act.put, List.setIfInBounds_toArray, List.set_cons_zero, List.set_cons_succ, List.getElem?_toArray, List.getElem?_cons_zero, List.getElem?_cons_succ, Option.bind_some]
    exact rfl
   case st4 =>
    simp only [List.take_succ_cons, List.take_zero]
    refine qab rfl rfl ?_ (qab rfl rfl ?_ (qab rfl rfl ?_ (qab rfl rfl ?_ (qab rfl rfl ?_ (qab rfl rfl ?_ (qab rfl rfl ?_ (qab rfl rfl ?_ (qab rfl rfl ?_ (qab rfl rfl ?_ (qab rfl rfl ?_ (qab rfl rfl ?_ (qab rfl rfl ?_ (qab rfl rfl ?_ (qav))))))))))))))
    ·intro vals w1 hb hd
     refine qSv (v1) (by go_simp) (qLk rfl rfl)
    ·intro vals w1 hb hd
     refine qSv (.pointer (some ⟨b1, 1, none⟩)) (by go_simp) (qLk rfl rfl)
    ·intro vals w1 hb hd
     obtain ⟨e0, e1, e2⟩ := qay (qaa B1.out hb)
     rw [show vals 1 = .pointer (some ⟨b1, 1, none⟩) from hd 1 (by kernel_rfl)]
     refine qSv (.slice (some ⟨bk, ok, none⟩) 2 c) (by go_simp) (qLk rfl rfl)
    ·intro vals w1 hb hd
     rw [show vals 2 = .slice (some ⟨bk, ok, none⟩) 2 c from hd 2 (by kernel_rfl)]
     refine qSv (.pointer (some ⟨bk, ok + 3, none⟩)) (by go_simp) (qLk rfl rfl)
    ·intro vals w1 hb hd
     have hbx := HB.out.trans (hb.mono HB.out.size)
     have k0 := (hbx.cell (p := ⟨bk, _, none⟩) hbk).trans KB.out.1
     have k1 := (hbx.cell (p := ⟨bk, _, none⟩) hbk).trans KB.out.2.1
     have k2 := (hbx.cell (p := ⟨bk, _, none⟩) hbk).trans KB.out.2.2
     rw [show vals 3 = .pointer (some ⟨bk, ok + 3, none⟩) from hd 3 (by kernel_rfl)]
     refine qSv (.agg #[.int .i64 kvb, .slice kab knb kcb, .int .i64 krb]) (by go_simp) (qLk rfl rfl)
    ·intro vals w1 hb hd
     refine qSv (.pointer (some ⟨b2, 0, none⟩)) (by go_simp) (qLk rfl rfl)
    ·intro vals w1 hb hd
     obtain ⟨e0, e1⟩ := qcy (qaa B2.out hb)
     rw [show vals 5 = .pointer (some ⟨b2, 0, none⟩) from hd 5 (by kernel_rfl)]
     refine qSv (.int .i64 (y : Nat)) (by go_simp) (qLk rfl rfl)
    ·intro vals w1 hb hd
     refine qSv (.pointer (some ⟨b1, 0, none⟩)) (by go_simp) (qLk rfl rfl)
    ·intro vals w1 hb hd
     obtain ⟨e0, e1, e2⟩ := qay (qaa B1.out hb)
     rw [show vals 7 = .pointer (some ⟨b1, 0, none⟩) from hd 7 (by kernel_rfl)]
     refine qSv (.int .i64 (vn : Nat)) (by go_simp) (qLk rfl rfl)
    ·intro vals w1 hb hd
     rw [show vals 8 = .int .i64 (vn : Nat) from hd 8 (by kernel_rfl)]
     refine qSv (.int .i64 (P2 : Nat)) (by go_simp; first | done | exact DP.out) (qLk rfl rfl)
    ·intro vals w1 hb hd
     rw [show vals 6 = .int .i64 (y : Nat) from hd 6 (by kernel_rfl)]
     rw [show vals 9 = .int .i64 (P2 : Nat) from hd 9 (by kernel_rfl)]
     refine qSv (.int .i64 (yb : Nat)) (by go_simp; first | done | exact DY.out) (qLk rfl rfl)
    ·intro vals w1 hb hd
     refine qSv (.pointer (some ⟨b2, 1, none⟩)) (by go_simp) (qLk rfl rfl)
    ·intro vals w1 hb hd
     obtain ⟨e0, e1⟩ := qcy (qaa B2.out hb)
     rw [show vals 11 = .pointer (some ⟨b2, 1, none⟩) from hd 11 (by kernel_rfl)]
     refine qSv (.int .i64 (n : Nat)) (by go_simp) (qLk rfl rfl)
    ·intro vals w1 hb hd
     rw [show vals 10 = .int .i64 (yb : Nat) from hd 10 (by kernel_rfl)]
     rw [show vals 12 = .int .i64 (n : Nat) from hd 12 (by kernel_rfl)]
     refine qSv (.agg #[.int .i64 (yb : Nat), .int .i64 (n : Nat)]) (by go_simp) (qLk rfl rfl)
   case tl4 =>
    intro vals w4 hb4 hf hdis
    simp only [List.drop_succ_cons, List.drop_zero]
    have z0 : vals 0 = _ := hf 0 (by decide)
    have z4 : vals 4 = _ := hf 4 (by decide)
    have z13 : vals 13 = _ := hf 13 (by decide)
    rw [z0, z4, z13]
    clear z0 z4 z13 hf hdis
    have HB := qHd (HB.out.trans (hb4.mono HB.out.size))
    have HO := qHd (HO.out.below hb4); have HGW := qHd (qed HGW.out hb4)
    have hs4 := hb4.size
    clear hb4
    have HK := qHd (sleaves_any V hV N b HSB.out _ v1 yb n B _ (l ++ qah a y nb) w0 w4 HTB.out HB.out HOB.out HYB.out hn HO.out hB0 (by omega) (by rw [List.length_append, qdn]; omega))
    go_wp2_with (with_reducible refine qad ?_)
    refine qap.mk ?_
    (with_reducible refine HK.out.mono ?_); rintro e w5 ⟨v2, rfl, ho2, gb2, ne2⟩
    have H1 := qHd ho2; have H2 := qHd (gb_row HGW.out gb2 NE.out)
    have H3 := qHd (show ∀ g, g < w.heap.size → vv.ownBlock ≠ some g → v2.ownBlock ≠ some g from fun g hg h => ne2 g (by omega) (NE.out g hg h))
    clear ho2 gb2 ne2 HK
    go_wp2_with fail
    go_ret
    exact ⟨_, rfl, by rw [TL.out, ← List.append_assoc]; exact H1.out, H2.out, H3.out⟩
 | N + 1, .mk _ [_] _, _, _, _, _, _, _, _, _, _, _, _, _, hok, _, _, _, _, _, _ => by simp only [qej] at hok
 | N + 1, .mk _ (_ :: _ :: _ :: _) _, _, _, _, _, _, _, _, _, _, _, _, _, hok, _, _, _, _, _, _ => by simp only [qej] at hok
theorem sLeaves_any (x : Value) (t : Tr) (vars : Int) (w : World) (ht : TrV w x t) (hv : 0 ≤ vars ∧ vars ≤ 24) (ec : Nat) (hec : (qbh vars t 0 0).2 = ec) :
  Calls Tryz.prog 17 #[x, .int .i64 vars] w (fun e w' => ∃ v', e = .returned (.tuple #[v', errV ec]) ∧ Below w.heap.size w w' ∧ (ec = 0 → LfsV w' v' (qah t 0 0))) := by
 obtain ⟨v, r, ao, kn, c, rfl⟩ := ht.shape
 obtain ⟨W, hW, hbW, hB1⟩ := qBx3 w (.cells #[.int .i64 v, .slice ao kn c, .int .i64 r] 27)
 have HK := qHd (scheck_any _ t vars W (ht.below hbW) hv)
 rw [hec] at HK
 have HT := qHd ht; have HBW := qHd hbW; have B1 := qHd hB1
 clear hbW ht hB1
 go_enter Tryz.func17, Tryz.ntmps17
 go_wp2_with (with_reducible refine qad ?_)
 rw [← hW]
 refine qap.mk ?_
 (with_reducible refine HK.out.mono ?_); rintro e w1 ⟨rfl, hb1⟩
 have HB1 := qHd (HBW.out.trans (hb1.mono HBW.out.size))
 obtain ⟨x0, x1, x2⟩ := qay (qaa B1.out hb1)
 clear hb1 HK hW
 by_cases h0 : ec = 0
 ·obtain ⟨m, hm⟩ : ∃ m, qbh vars t 0 0 = (m, 0) := ⟨_, Prod.ext rfl (hec.trans h0)⟩
  obtain ⟨k1, k2, k3⟩ := qfh t 0 0 m hm
  obtain ⟨V, rfl⟩ : ∃ V : Nat, vars = V := ⟨vars.toNat, by omega⟩
  have hlv := (qdf t).2
  have hk := sleaves_any V (by omega) _ t (Nat.lt_succ_self _) _ (.slice none 0 0) 0 0 w1.heap.size 0 [] w w1 HT.out HB1.out k1 (by decide) (by decide) (OwnL.nil _ _ _ _) HB1.out.size (Nat.le_refl _) (by simp only [List.length_nil]; omega)
  rw [show ((0 : Nat) : Int) = 0 from rfl] at hk
  have HK := qHd hk
  clear hm k1 k2 k3 hk hec
  subst h0
  rw [qbi]
  go_wp2_with (with_reducible refine qad ?_)
  refine qap.mk ?_
  (with_reducible refine HK.out.mono ?_); rintro e w2 ⟨v', rfl, ho, gb, _⟩
  have HB2 := qHd (HB1.out.grown gb HB1.out.size (fun k hk => by cases hk)); have HL := qHd (show LfsV w2 v' (qah t 0 0) from own_lfs ho.1)
  clear gb ho HK x0 x1 x2
  go_wp2_with fail
  go_ret2
  exact ⟨_, rfl, HB2.out, by first | exact HL.out | (intro _; exact HL.out)⟩
 ·rw [qbz h0]
  go_wp2_with fail
  go_ret2
  exact ⟨_, by rw [qbz h0]; rfl, HB1.out, fun h => absurd h h0⟩
theorem okC_cube {vars : Int} {y n : Nat} (h : okC vars.toNat y n) (h0 : 0 ≤ vars) (h1 : vars ≤ 24) : CubeOK vars y n := ⟨h0, h1, (okC_lt h).1, (okC_lt h).2.1, (okC_lt h).2.2⟩
theorem cErr_f {f : Fm} {t : Tr} (h : qcc f ≠ 0) : cErr f t = qcc f := by unfold cErr; rw [if_pos h]
theorem cErr_t {f : Fm} {t : Tr} (h : qcc f = 0) : cErr f t = (qbh f.vars t 0 0).2 := by unfold cErr; rw [if_neg (by rw [h]; exact fun h => h rfl)]
theorem pleaves_any (vf x : Value) (f : Fm) (t : Tr) (w : World) (hf : FmV w vf f) (ht : TrV w x t) (ec : Nat) (hec : cErr f t = ec) :
  Calls Tryz.prog 38 #[vf, x] w (fun e w' => ∃ v', e = .returned (.tuple #[v', errV ec]) ∧ Below w.heap.size w w' ∧ (ec = 0 → LfsV w' v' (qah t 0 0))) := by
 obtain ⟨nv, rfl, hn, hv, htp⟩ := hf
 obtain ⟨ao, c, rfl, hc, hc2, _⟩ := hn.shape
 have HF := qHd (show FmV w _ f from ⟨_, rfl, hn, hv, htp⟩)
 have HT := qHd ht
 obtain ⟨tv, tr, ta, tn, tc, rfl⟩ := ht.shape
 obtain ⟨W, hW, hbW, hg1, hg2⟩ := qBx2 w (.cells #[.int .i64 f.vars, .slice ao f.nodes.length c, .int .i64 f.top] 24) (.cells #[.int .i64 tv, .slice ta tn tc, .int .i64 tr] 27)
 obtain ⟨g1, hG1⟩ : ∃ g, g = w.heap.size := ⟨_, rfl⟩
 obtain ⟨g2, hG2⟩ : ∃ g, g = w.heap.size + 1 := ⟨_, rfl⟩
 rw [← hG1] at hg1; rw [← hG2] at hg2
 have HBW := qHd hbW; have G1 := qHd hg1; have G2 := qHd hg2
 obtain ⟨x0, x1, x2⟩ := qay hg1
 obtain ⟨y0, y1, y2⟩ := qay hg2
 rw [hW, hG1] at x0 x1 x2
 rw [hW, hG2] at y0 y1 y2
 clear hbW hg1 hg2 hn hv htp ht
 have HK := qHd (fcheck_any _ f W (HF.out.below HBW.out))
 go_enter Tryz.func38, Tryz.ntmps38
 go_wp2_with (with_reducible refine qad ?_)
 rw [← hW, ← hG2, ← hG1]; clear hW hG1 hG2 x0 x1 x2 y0 y1 y2
 refine qap.mk ?_
 (with_reducible refine HK.out.mono ?_); rintro e w1 ⟨rfl, hb1⟩
 have HB1 := qHd (HBW.out.trans (hb1.mono HBW.out.size))
 obtain ⟨x0, x1, x2⟩ := qay (qaa G1.out hb1)
 obtain ⟨y0, y1, y2⟩ := qay (qaa G2.out hb1)
 clear hb1 HK
 by_cases h0 : qcc f = 0
 ·obtain ⟨p0, p1, _, _⟩ := qbe h0
  rw [cErr_t h0] at hec
  have HK := qHd (sLeaves_any _ t f.vars w1 (HT.out.below HB1.out) ⟨p0, p1⟩ ec hec)
  rw [h0, qbi]
  clear hec
  go_wp2_with (with_reducible refine qad ?_)
  refine qap.mk ?_
  (with_reducible refine HK.out.mono ?_); rintro e w2 ⟨v', rfl, hb2, hl⟩
  have HB2 := qHd (HB1.out.trans (hb2.mono HB1.out.size)); have HL := qHd hl
  clear hb2 hl HK x0 x1 x2 y0 y1 y2
  go_wp2_with fail
  go_ret2
  exact ⟨_, rfl, HB2.out, HL.out⟩
 ·rw [cErr_f h0] at hec
  rw [hec] at h0 ⊢
  rw [qbz h0]
  go_wp2_with fail
  go_ret2
  exact ⟨_, by rw [qbz h0]; rfl, HB1.out, fun h => absurd h h0⟩

theorem firstBad_drop {f : Fm} {l : List Lf} {q : Nat} {x : Lf} (h : l[q]? = some x) : qbj f (l.drop q) q = if badL f x then (q : Int) else qbj f (l.drop (q + 1)) (q + 1) := by
 obtain ⟨h1, h2⟩ := List.getElem?_eq_some_iff.1 h
 rw [List.drop_eq_getElem_cons h1, h2]; simp only [qbj]
theorem pfirst_any (vf v : Value) (f : Fm) (l : List Lf) (w : World) (hf : FmV w vf f) (hl : LfsV w v l) (h0 : qcc f = 0) (hcu : ∀ x ∈ l, CubeOK f.vars x.yes x.no) (hr : ∀ x ∈ l, I64 x.reason) (hlen : l.length ≤ 4096) :
  Calls Tryz.prog 39 #[vf, v] w (qea w (.tuple #[.int .i64 (qbj f l 0), .nilIface])) := by
 obtain ⟨nv, rfl, hn, hv, htp⟩ := hf
 obtain ⟨ao, c, rfl, hc, hc2, _⟩ := hn.shape
 have HF := qHd (show FmV w _ f from ⟨_, rfl, hn, hv, htp⟩)
 obtain ⟨al, cl, rfl, hcl, hcl2, _⟩ := hl.shape
 have HL := qHd hl
 obtain ⟨W, hW, hbW, g1, hG1, hg1⟩ := qBx5 w (.cells #[.int .i64 f.vars, .slice ao f.nodes.length c, .int .i64 f.top] 24)
 have HBW := qHd hbW; have G1 := qHd hg1; have HCU := qHd hcu; have HR := qHd hr; have E0 := qHd h0
 have hnd := (qbe h0).2.2.2
 have HND := qHd hnd
 clear hbW hg1 hn hv htp hl hcu hr hnd h0
 go_enter Tryz.func39, Tryz.ntmps39
 go_wp2_with fail
 rw [← hW, ← hG1]; clear hW hG1
 go_loopw [12] (fun i' wx => ∃ q : Nat, q ≤ l.length ∧ i' = .int .i64 q ∧ Hid (Below W.heap.size W wx) ∧ Hid (qbj f l 0 = qbj f (l.drop q) q)) (fun i' _ => l.length - (intOf i').toNat)
 case atStart => exact ⟨0, Nat.zero_le _, rfl, qHd (Below.refl _ _), qHd rfl⟩
 case round =>
  obtain ⟨q, hq, rfl, BX, FB⟩ := hrel
  obtain ⟨wo, rfl⟩ : ∃ wo : World, wo = wr := ⟨_, rfl⟩
  have HBo := qHd (HBW.out.trans (BX.out.mono HBW.out.size))
  by_cases hlt : q < l.length
  ·obtain ⟨x, hx⟩ : ∃ x, l[q]? = some x := ⟨l[q], List.getElem?_eq_getElem hlt⟩
   obtain ⟨bl, ol, rfl, hbl, hjk, hat⟩ := (HL.out.below HBo.out).at (by omega); clear hjk
   obtain ⟨c0, c1, c2⟩ := hat q x hx
   have hmem := List.mem_of_getElem? hx
   have FD := qHd (firstBad_drop (f := f) hx)
   have BP := qHd (bad_prog HND.out x)
   have hri := HR.out x hmem
   unfold I64 at hri
   have HCX := qHd (HCU.out x hmem)
   clear hat hx hmem
   obtain ⟨xy, xn, xr⟩ := x
   simp only at c0 c1 c2 hri HCX
   obtain ⟨w4, hw4, hb4, g4, hg4, hx4⟩ := qBx5 wo (.cells #[.int .i64 (xy : Nat), .int .i64 (xn : Nat), .int .i64 xr] 48)
   have HB4 := qHd (HBo.out.trans (hb4.mono HBo.out.size)); have BX4 := qHd (BX.out.trans (hb4.mono BX.out.size))
   have G4 := qHd hx4
   have G1' := qHd (qaa G1.out BX4.out)
   have hltz : (q : Int) < (l.length : Int) := by omega
   clear hb4
   by_cases r2 : xr = 2
   ·have NB := qHd (show qbj f l 0 = qbj f (l.drop (q + 1)) (q + 1) by rw [FB.out, FD.out, if_neg (by rw [BP.out]; simp [r2])])
    subst r2
    go_wp2_with fail
    rw [← hw4]
    go_roundw
    case rel => exact ⟨q + 1, by omega, by go_num, qHd BX4.out, qHd NB.out⟩
    case measure => simp [intOf]; omega
   ·obtain ⟨x0, x1, x2⟩ := qay G1'.out
    obtain ⟨z0, z1, z2⟩ := qay hx4
    have HK := qHd (tvalue_any _ f xy xn w4 (HF.out.below HB4.out) E0.out HCX.out)
    rw [hw4] at x0 x1 x2
    rw [hw4, hg4] at z0 z1 z2
    go_wp2_with (with_reducible refine qad ?_)
    rw [← hw4, ← hg4]
    clear x0 x1 x2 z0 z1 z2 hw4 hg4 hx4 c0 c1 c2
    refine qap.mk ?_
    (with_reducible refine HK.out.mono ?_); rintro e w5 ⟨rfl, hb5⟩
    have BX5 := qHd (BX4.out.trans (hb5.mono BX4.out.size)); have HB5 := qHd (HB4.out.trans (hb5.mono HB4.out.size))
    obtain ⟨z0, z1, z2⟩ := qay (qaa G4.out hb5)
    clear hb5 HK
    obtain ⟨fv, hfv⟩ : ∃ fv, fv = qco f xy xn := ⟨_, rfl⟩
    rw [← hfv] at BP ⊢; clear hfv
    by_cases d1 : (fv : Int) = xr
    ·by_cases d2 : xr < 0
     ·have R := qHd (show qbj f l 0 = (q : Int) by rw [FB.out, FD.out, if_pos (by rw [BP.out]; simp [r2, d2])])
      exfalso; omega
     ·have NB := qHd (show qbj f l 0 = qbj f (l.drop (q + 1)) (q + 1) by rw [FB.out, FD.out, if_neg (by rw [BP.out]; simp [d1]; omega)])
      subst d1
      go_wp2_with fail
      go_roundw
      case rel => exact ⟨q + 1, by omega, by go_num, qHd BX5.out, qHd NB.out⟩
      case measure => simp [intOf]; omega
    ·have R := qHd (show qbj f l 0 = (q : Int) by rw [FB.out, FD.out, if_pos (by rw [BP.out]; simp [r2, d1])])
     have d1' : (((fv : Nat) : Int) != xr) = true := bne_iff_ne.2 d1
     go_wp2_with fail
     go_ret2
     exact ⟨by rw [R.out]; rfl, HB5.out⟩
  ·have hq' : q = l.length := by omega
   subst hq'
   have R := qHd (show qbj f l 0 = -1 by rw [FB.out, List.drop_length]; rfl)
   go_wp2_with fail
   go_ret2
   exact ⟨by rw [R.out]; rfl, HBo.out⟩

theorem qfx {w : World} : ∀ (t : Tr) (x : Value) (y n : Nat), TrV w x t → ∀ z ∈ qah t y n, I64 z.reason
 | .mk v [] r, x, y, n, ht, z, hz => by
  simp only [qah, List.mem_singleton] at hz
  subst hz; exact ht.open.choose_spec.choose_spec.2.2.2.2.2
 | .mk v [a, b] r, x, y, n, ht, z, hz => by
  obtain ⟨ao, c, rfl, hks, hc1, hc2, _, _⟩ := ht.open
  obtain ⟨bk, ok, rfl, hbk, hjk, hat⟩ := hks.at (by simp)
  obtain ⟨_, _, _, _, _, _, _, _, h1⟩ := (hat 0 a rfl).val
  obtain ⟨_, _, _, _, _, _, _, _, h2⟩ := (hat 1 b rfl).val
  simp only [qah, List.mem_append] at hz
  rcases hz with hz | hz
  ·exact qfx a _ _ _ h1 z hz
  ·exact qfx b _ _ _ h2 z hz
 | .mk v [a] r, x, y, n, ht, z, hz => by
  simp only [qah, List.mem_singleton] at hz
  subst hz; exact ht.open.choose_spec.choose_spec.2.2.2.2.2
 | .mk v (_ :: _ :: _ :: _) r, x, y, n, ht, z, hz => by
  simp only [qah, List.mem_singleton] at hz
  subst hz; exact ht.open.choose_spec.choose_spec.2.2.2.2.2
theorem mask_any (x : Nat) (w : World) (h : x < 16777216) : Calls Tryz.prog 130 #[.int .i64 (x : Nat)] w (RetS w (.bool true)) := by
 have h' : ((x : Nat) : Int) < 16777216 := by omega
 go_enter Tryz.func130, Tryz.ntmps130
 go_wp2
 go_ret
 exact ⟨qdp (by first | rfl | (simp; omega)), rfl⟩
theorem ccheck_any (y n : Nat) (w : World) (hy : y < 16777216) (hn : n < 16777216) (hyn : y &&& n = 0) : Calls Tryz.prog 92 #[.agg #[.int .i64 (y : Nat), .int .i64 (n : Nat)]] w (qea w .nilIface) := by
 obtain ⟨W, hW⟩ : ∃ W, W = w.alloc (.cells #[.int .i64 (y : Nat), .int .i64 (n : Nat)] 46) := ⟨_, rfl⟩
 have hbW : Below w.heap.size w W := by rw [hW]; exact qBA _ _
 have HA := qHd (mask_any y W hy); have HB := qHd (mask_any n W hn)
 have hA := show bits .and .i64 (y : Int) (n : Int) = 0 by rw [bits_and (by omega) (by omega), hyn]; rfl
 have hg := (heap_alloc_new w (.cells #[.int .i64 (y : Nat), .int .i64 (n : Nat)] 46))
 rw [← hW] at hg
 obtain ⟨g1, hG1⟩ : ∃ g, g = w.heap.size := ⟨_, rfl⟩
 rw [← hG1] at hg
 go_enter Tryz.func92, Tryz.ntmps92
 go_wp2_with (with_reducible refine qad ?_)
 rw [← hW, ← hG1]; clear hW hG1
 obtain ⟨x0, x1⟩ := qcy hg
 refine qap.mk ?_
 (with_reducible refine HA.out.mono ?_); rintro e w1 ⟨rfl, rfl⟩
 go_wp2_with (with_reducible refine qad ?_)
 refine qap.mk ?_
 (with_reducible refine HB.out.mono ?_); rintro e w1 ⟨rfl, rfl⟩
 go_wp2_with fail
 go_ret
 exact ⟨rfl, hbW⟩
theorem mask_parts {x i : Nat} (hx : x < 4611686018427387904) (hi : i < 24) : ∃ (xa : Nat) (xt : Bool), bits .and .i64 (x : Int) ((2 ^ i : Nat) : Int) = (xa : Int) ∧ ((((xa : Nat) : Int)) != 0) = xt ∧ x.testBit i = xt := by
 have h24 := pow_l24 hi
 refine ⟨x &&& 2 ^ i, x.testBit i, bits_and (by omega) (by omega), ?_, rfl⟩
 have e : x &&& 2 ^ i = if x.testBit i then 2 ^ i else 0 := by
  apply Nat.eq_of_testBit_eq
  intro j
  rw [Nat.testBit_and, Nat.testBit_two_pow]
  by_cases hj : i = j
  ·subst hj; cases h : x.testBit i <;> simp
  ·cases h : x.testBit i <;> simp [hj]
 rw [e]
 have hp : (2 ^ i : Nat) ≠ 0 := Nat.pos_iff_ne_zero.1 (Nat.pow_pos (by decide))
 cases x.testBit i with
 | false => rfl
 | true => rw [if_pos rfl]; exact bne_iff_ne.2 (by omega)
theorem qbd {w : World} {g : Nat} {x0 x1 x2 y0 y1 y2 : Value} {T : TypeId} (h : w.heap[g]? = some (.cells #[x0, x1, x2] T)) : (qel w g 0 [y0, y1, y2]).heap[g]? = some (.cells #[y0, y1, y2] T) := by
 simp [qel, World.setCell, Array.getElem?_modify, h]
theorem weight_any (v : Value) (L : List Rv) (y n k : Nat) (w : World) (hp : RvsV w v L) (hok : ∀ r ∈ L, RvOK k r) (hlen : L.length ≤ 24) (hy : y < 2 ^ L.length) (hn : n < 2 ^ L.length) (hyn : y &&& n = 0) (hk : k ≤ 1000) :
  Calls Tryz.prog 53 #[.agg #[.int .i64 (y : Nat), .int .i64 (n : Nat)], v] w (RetRE w (wt (L.map Rv.q) y n) .nilIface) := by
 have hl24 := pow_24 hlen
 have hov : y ||| n < 2 ^ L.length := Nat.or_lt_two_pow hy hn
 have hy' : y < 16777216 := by omega
 have hn' : n < 16777216 := by omega
 obtain ⟨ao, c, rfl, hc, hc2, _⟩ := hp.shape
 obtain ⟨W, hW, hbW, hg2, hg4⟩ := qBx2 w (.cells #[.int .i64 (y : Nat), .int .i64 (n : Nat)] 46) (.cells #[.bool false, .slice none 0 0, .slice none 0 0] 54)
 obtain ⟨g2, hG2⟩ : ∃ g, g = w.heap.size := ⟨_, rfl⟩
 obtain ⟨g4, hG4⟩ : ∃ g, g = w.heap.size + 1 := ⟨_, rfl⟩
 rw [← hG2] at hg2; rw [← hG4] at hg4
 have l4 : w.heap.size ≤ g4 := by omega
 have HBW := qHd hbW; have G2 := qHd hg2; have G4 := qHd hg4; have HP := qHd hp; have HOK := qHd hok
 have hor : ((y ||| n : Nat) : Int) < ((2 ^ L.length : Nat) : Int) := by omega
 have HOR := qHd (And.intro (bits_or (x := y) (y := n) (by omega) (by omega)) (show ((y ||| n : Nat) : Int) / 2 ^ L.length = 0 by
  have e : (2 : Int) ^ L.length = ((2 ^ L.length : Nat) : Int) := by simp
  rw [e]; exact Int.ediv_eq_zero_of_lt (by omega) hor))
 have HK := qHd (ccheck_any y n W hy' hn' hyn)
 have H0 := qHd (And.intro hy hn)
 clear hbW hg2 hg4 hp hok hor hov hy hn hl24
 go_enter Tryz.func53, Tryz.ntmps53
 go_wp2_with (with_reducible refine qad ?_)
 rw [← hW, ← hG4, ← hG2]; clear hW hG4 hG2
 refine qap.mk ?_
 (with_reducible refine HK.out.mono ?_); rintro e w1 ⟨rfl, hb1⟩
 have HB1 := qHd (HBW.out.trans (hb1.mono HBW.out.size)); have G2 := qHd (qaa G2.out hb1); have G4 := qHd (qaa G4.out hb1)
 clear hb1 HK
 have hlz : (L.length : Int) ≤ 24 := by omega
 go_wp2_with fail
 go_loopw [27] (fun i' wx => ∃ q : Nat, q ≤ L.length ∧ i' = .int .i64 q ∧ Hid (Below w1.heap.size w1 wx)) (fun i' _ => L.length - (intOf i').toNat)
 case atStart => exact ⟨0, Nat.zero_le _, rfl, qHd (Below.refl _ _)⟩
 case round =>
  obtain ⟨q, hq, rfl, BX⟩ := hrel
  obtain ⟨wo, rfl⟩ : ∃ wo : World, wo = wr := ⟨_, rfl⟩
  have HBo := qHd (HB1.out.trans (BX.out.mono HB1.out.size))
  by_cases hlt : q < L.length
  ·obtain ⟨r, hr⟩ : ∃ r, L[q]? = some r := ⟨L[q], List.getElem?_eq_getElem hlt⟩
   obtain ⟨bp, op, rfl, hbp, hjk, hat⟩ := (HP.out.below HBo.out).at (by omega); clear hjk
   obtain ⟨ax, nx, cx, bx, mx, dx, c0, c1, c2, hRV⟩ := (hat q r hr).val
   have ho := HOK.out r (List.mem_of_getElem? hr)
   obtain ⟨w4, hw4⟩ : ∃ w4, w4 = wo.alloc (.cells #[.bool r.s, .slice ax nx cx, .slice bx mx dx] 54) := ⟨_, rfl⟩
   have hb4 : Below wo.heap.size wo w4 := by rw [hw4]; exact qBA _ _
   have hk2 := prob_any _ r.s r.a r.b w4 (hRV.below hb4) (by have := ho.la; omega) (by have := ho.lb; omega)
   rw [ho.pr] at hk2
   have HK := qHd hk2
   have BX4 := qHd (BX.out.trans (hb4.mono BX.out.size))
   have hltz : (q : Int) < (L.length : Int) := by omega
   clear hat hr ho hRV hb4 hk2
   go_wp2_with (with_reducible refine qad ?_)
   rw [← hw4]; clear hw4 c0 c1 c2
   refine qap.mk ?_
   (with_reducible refine HK.out.mono ?_); rintro e w5 ⟨rfl, hb5⟩
   have BX5 := qHd (BX4.out.trans (hb5.mono BX4.out.size))
   clear hb5 HK
   go_wp2_with fail
   go_roundw
   case rel => exact ⟨q + 1, by omega, by go_num, qHd BX5.out⟩
   case measure => simp [intOf]; omega
  ·have hq' : q = L.length := by omega
   subst hq'
   have G2 := qHd (qaa G2.out BX.out); have G4 := qHd (qaa G4.out BX.out)
   obtain ⟨y0, y1⟩ := qcy G2.out
   have hor := HOR.out.1; have hov := HOR.out.2
   have HK := qHd (ofq_any 1 wo (by decide) (by decide))
   go_wp2_with (with_reducible refine qad ?_)
   refine qap.mk ?_
   (with_reducible refine HK.out.mono ?_); rintro e w5 ⟨v1, rfl, hb5, hn5⟩
   have HB5 := qHd (HBo.out.trans (hb5.mono HBo.out.size)); have G2 := qHd (qaa G2.out hb5); have G4 := qHd (qaa G4.out hb5)
   obtain ⟨s1, o1, n1, c1, a1, m1, d1, rfl⟩ := hn5.shape
   have IONE := qHd (show IsR w5 _ 1 from hn5)
   clear hb5 hn5 HK y0 y1 hor hov
   obtain ⟨w6, hw6, hb6, hg9, hgo⟩ := qBx2 w5 (.cells #[.bool s1, .slice o1 n1 c1, .slice a1 m1 d1] 54) (.cells #[.bool s1, .slice o1 n1 c1, .slice a1 m1 d1] 54)
   obtain ⟨g9, hG9⟩ : ∃ g, g = w5.heap.size := ⟨_, rfl⟩
   obtain ⟨go, hGo⟩ : ∃ g, g = w5.heap.size + 1 := ⟨_, rfl⟩
   rw [← hG9] at hg9; rw [← hGo] at hgo
   have ne9 : g9 ≠ go := by omega
   have ne4 : g4 ≠ go := by have := qaw G4.out; omega
   have ne2 : g2 ≠ go := by have := qaw G2.out; omega
   have lgo : w.heap.size ≤ go := by have := HB5.out.size; omega
   have HB6 := qHd (HB5.out.trans (hb6.mono HB5.out.size)); have G2 := qHd (qaa G2.out hb6); have G4 := qHd (qaa G4.out hb6)
   have IONE := qHd (IONE.out.below hb6); have G9 := qHd hg9; have GO := qHd hgo
   clear hb6 hg9 hgo
   go_wp2_with fail
   rw [← hw6, ← hGo, ← hG9]
   clear hw6 hG9 hGo
   go_loopw [52] (fun i' wx => ∃ (q : Nat) (acc : Rat) (so : Bool) (oo ao : Option Addr) (no co mo do_ : Nat), q ≤ L.length ∧ i' = .int .i64 q ∧ Hid (Below w.heap.size w wx) ∧ Hid (wx.heap[g2]? = some (.cells #[.int .i64 (y : Nat), .int .i64 (n : Nat)] 46)) ∧ Hid (wx.heap[g4]? = some (.cells #[.bool false, .slice none 0 0, .slice none 0 0] 54)) ∧
    Hid (wx.heap[g9]? = some (.cells #[.bool s1, .slice o1 n1 c1, .slice a1 m1 d1] 54)) ∧ Hid (wx.heap[go]? = some (.cells #[.bool so, .slice oo no co, .slice ao mo do_] 54)) ∧ Hid (IsR wx (.agg #[.bool s1, .slice o1 n1 c1, .slice a1 m1 d1]) 1) ∧ Hid (IsR wx (.agg #[.bool so, .slice oo no co, .slice ao mo do_]) acc) ∧
    Hid (wtG (L.map Rv.q) 0 y n 1 = wtG ((L.map Rv.q).drop q) q y n acc) ∧ Hid (rl acc ≤ 1 + q * 1002)) (fun i' _ => L.length - (intOf i').toNat)
   case atStart => exact ⟨0, 1, s1, o1, a1, n1, c1, m1, d1, Nat.zero_le _, rfl, qHd HB6.out, qHd G2.out, qHd G4.out, qHd G9.out, qHd GO.out, qHd IONE.out, qHd IONE.out, qHd rfl, qHd (by rw [rl_one]; omega)⟩
   case round =>
    obtain ⟨q, acc, so, oo, ao', no, co, mo, do_, hq, rfl, BX, G2, G4, G9, GO, IONE, IOUT, WG, HACC⟩ := hrel
    obtain ⟨wo, rfl⟩ : ∃ wo : World, wo = wr := ⟨_, rfl⟩
    by_cases hlt : q < L.length
    ·obtain ⟨r, hr⟩ : ∃ r, L[q]? = some r := ⟨L[q], List.getElem?_eq_getElem hlt⟩
     obtain ⟨bp, op, rfl, hbp, hjk, hat⟩ := (HP.out.below BX.out).at (by omega); clear hjk
     obtain ⟨ox, nx, cx, ax, mx, dx, c0, c1', c2, hRV⟩ := (hat q r hr).val
     have ho := HOK.out r (List.mem_of_getElem? hr)
     have WD := qHd (wtG_drop (ps := L.map Rv.q) (q := q) (y := y) (n := n) (p := r.q) (acc := acc) (by rw [List.getElem?_map, hr]; rfl))
     obtain ⟨w4, hw4, hb4, gx, hGx, hgx⟩ := qBx5 wo (.cells #[.bool r.s, .slice ox nx cx, .slice ax mx dx] 54)
     have PX := qHd (show qbs w4 (.agg #[.bool r.s, .slice ox nx cx, .slice ax mx dx]) r.q from (hRV.below hb4).is (by have := ho.la; omega) (by have := ho.lb; omega))
     have HPL := qHd (show rl r.q ≤ 1000 by have := ho.lq; omega)
     have GX := qHd hgx
     have nex : gx ≠ go := by have := qaw GO.out; omega
     obtain ⟨p, hpq⟩ : ∃ p, p = r.q := ⟨_, rfl⟩
     obtain ⟨sx, hsx⟩ : ∃ s, s = r.s := ⟨_, rfl⟩
     rw [← hpq] at PX HPL WD
     rw [← hsx] at PX GX c0 hw4
     have BX := qHd (BX.out.trans (hb4.mono BX.out.size)); have G2 := qHd (qaa G2.out hb4); have G4 := qHd (qaa G4.out hb4); have G9 := qHd (qaa G9.out hb4); have GO := qHd (qaa GO.out hb4)
     have IONE := qHd (IONE.out.below hb4); have IOUT := qHd (IOUT.out.below hb4)
     have hltz : (q : Int) < (L.length : Int) := by omega
     clear hat hr ho hRV hgx hpq hsx
     obtain ⟨ya, yt, Y1, Y2, Y3⟩ := mask_parts (x := y) (i := q) (by omega) (by omega)
     obtain ⟨na, nt, N1, N2, N3⟩ := mask_parts (x := n) (i := q) (by omega) (by omega)
     have hsh := shl_one (V := q) (by omega)
     obtain ⟨P2, hP2⟩ : ∃ P : Nat, P = 2 ^ q := ⟨_, rfl⟩
     rw [← hP2] at Y1 N1 hsh
     rw [Y3, N3] at WD
     clear hP2 Y3 N3
     obtain ⟨y0, y1⟩ := qcy G2.out
     obtain ⟨o0, o1', o2⟩ := qay GO.out
     obtain ⟨z0, z1, z2⟩ := qay GX.out
     rw [hw4] at y0 y1 o0 o1' o2
     rw [hw4, hGx] at z0 z1 z2
     cases yt with
     | true =>
      have HK := qHd (mulq_any _ acc _ p w4 (IOUT.out.is (by have := HACC.out; omega)) PX.out)
      go_wp2_with (with_reducible refine qad ?_)
      rw [← hw4, ← hGx]
      clear hw4 hGx y0 y1 o0 o1' o2 z0 z1 z2 c0 c1' c2 Y1 N1 hsh hb4
      refine qap.mk ?_
      (with_reducible refine HK.out.mono ?_); rintro e w5 ⟨vm, rfl, hb5, hn5⟩
      obtain ⟨so', oo', no', co', ao2, mo', do2, rfl⟩ := hn5.shape
      have BX := qHd (BX.out.trans (hb5.mono BX.out.size)); have G2 := qHd (qaa G2.out hb5); have G4 := qHd (qaa G4.out hb5); have G9 := qHd (qaa G9.out hb5); have GO := qHd (qaa GO.out hb5)
      have IONE := qHd (IONE.out.below hb5); have IM := qHd hn5
      clear hb5 hn5
      go_wp2_with (with_reducible refine qaf ?_)
      refine qan go 0 [.bool so', .slice oo' no' co', .slice ao2 mo' do2] GO.out rfl rfl (Nat.le_of_ble_eq_true rfl) (by kernel_rfl) rfl ?_
      intro w6 hp6
      have BX6 := qHd (qbl hp6 BX.out lgo); have G26 := qHd (qbr hp6 G2.out ne2); have G46 := qHd (qbr hp6 G4.out ne4); have G96 := qHd (qbr hp6 G9.out ne9)
      have GO6 := qHd (show w6.heap[go]? = some (.cells #[.bool so', .slice oo' no' co', .slice ao2 mo' do2] 54) by rw [hp6]; exact qbd GO.out)
      have IONE6 := qHd (qbq hp6 IONE.out GO.out noW3); have IM6 := qHd (qbq hp6 IM.out GO.out noW3)
      clear hp6 BX G2 G4 G9 GO IONE IM
      go_wp2_with fail
      go_roundw
      case rel => exact ⟨q + 1, acc * p, so', oo', ao2, no', co', mo', do2, by omega, by go_num, qHd BX6.out, qHd G26.out, qHd G46.out, qHd G96.out, qHd GO6.out, qHd IONE6.out, qHd IM6.out, qHd (by rw [WG.out, WD.out]; rfl), qHd (by have := HACC.out; have := HPL.out; have := rl_mul acc p; have := rl_mul acc (1 - p); have := rl_sub 1 p; have := rl_one; omega)⟩
      case measure => simp [intOf]; omega
     | false =>
      cases nt with
      | true =>
       go_wp2_with (with_reducible first | refine qad ?_ | refine qai ?_ | refine qaj ?_ | refine qak ?_ | refine qag ?_)
       rw [← hw4, ← hGx]
       clear hw4 hGx y0 y1 o0 o1' o2 z0 z1 z2 c0 c1' c2 Y1 N1 hsh hb4
       refine qap.mk ?_
       refine qao (A := ?aa23) (w := w4) 5 [] (by kernel_rfl) (Fl [KEq (.agg #[.bool so, .slice oo no co, .slice ao' mo do_]), KEq (.agg #[.bool s1, .slice o1 n1 c1, .slice a1 m1 d1]), KEq (.agg #[.bool sx, .slice ox nx cx, .slice ax mx dx]), KIs (1 - p), KIs (acc * (1 - p))]) (fun i => false) (by kernel_rfl) ?hq23 (qcw (qae (kEq _) (qae (kEq _) (qae (kEq _) (qae (kIs _) (qae (kIs _) qcv)))))) ?ha23 ?st23 ?tl23
       case hq23 =>
        intro c a d v w h
        first | (simp only [Exit.then] at h ⊢; exact h) | (simp only [Exit.inBlock, Exit.then] at h ⊢; exact h) | exact h
       case ha23 =>
        intro vals
        simp only [qba, qcd, if_true, Act.put, List.setIfInBounds_toArray, List.set_cons_zero, List.set_cons_succ, List.getElem?_toArray, List.getElem?_cons_zero, List.getElem?_cons_succ, Option.bind_some]
        exact rfl
       case st23 =>
        simp only [List.take_succ_cons, List.take_zero]
        refine qab rfl rfl ?_ (qab rfl rfl ?_ (qab rfl rfl ?_ (qab rfl rfl ?_ (qab rfl rfl ?_ (qav)))))
        ·intro vals w1 hb hd
         obtain ⟨e0, e1, e2⟩ := qay (qaa GO.out hb)
         refine qSv (.agg #[.bool so, .slice oo no co, .slice ao' mo do_]) (by go_simp) (qLk rfl rfl)
        ·intro vals w1 hb hd
         obtain ⟨e0, e1, e2⟩ := qay (qaa G9.out hb)
         refine qSv (.agg #[.bool s1, .slice o1 n1 c1, .slice a1 m1 d1]) (by go_simp) (qLk rfl rfl)
        ·intro vals w1 hb hd
         obtain ⟨e0, e1, e2⟩ := qay (qaa GX.out hb)
         refine qSv (.agg #[.bool sx, .slice ox nx cx, .slice ax mx dx]) (by go_simp) (qLk rfl rfl)
        ·intro vals w1 hb hd
         have d1 : KEq (.agg #[.bool s1, .slice o1 n1 c1, .slice a1 m1 d1]) (vals 1) w1 := hd 1 (by kernel_rfl)
         have d2 : KEq (.agg #[.bool sx, .slice ox nx cx, .slice ax mx dx]) (vals 2) w1 := hd 2 (by kernel_rfl)
         have HS := qHd (subq_any _ 1 _ p w1 ((IONE.out.below hb).is (by rw [rl_one]; decide)) (PX.out.below hb))
         have z1 : vals 1 = _ := d1
         rw [z1]; clear z1
         have z2 : vals 2 = _ := d2
         rw [z2]; clear z2
         refine qat (by go_simp; first | done | exact ⟨⟨rfl, rfl⟩, rfl⟩) ?_
         (with_reducible refine HS.out.mono ?_); rintro e w2 ⟨v, rfl, hb2, hn⟩
         exact ⟨v, rfl, qar hb2 hn (fun h => by cases h)⟩
        ·intro vals w1 hb hd
         have d3 : KIs (1 - p) (vals 3) w1 := hd 3 (by kernel_rfl)
         have HS := qHd (mulq_any _ acc (vals 3) (1 - p) w1 ((IOUT.out.below hb).is (by have := HACC.out; omega)) (IsR.is d3 (by have := rl_sub 1 p; have := rl_one; have := HPL.out; omega)))
         rw [show vals 0 = .agg #[.bool so, .slice oo no co, .slice ao' mo do_] from hd 0 (by kernel_rfl)]
         refine qat (by go_simp; first | done | exact ⟨⟨rfl, rfl⟩, rfl⟩) ?_
         (with_reducible refine HS.out.mono ?_); rintro e w2 ⟨v, rfl, hb2, hn⟩
         exact ⟨v, rfl, qar hb2 hn (fun h => by cases h)⟩
       case tl23 =>
        intro vals w5 hb5 hf hdis
        simp only [List.drop_succ_cons, List.drop_zero]
        obtain ⟨vm, hvm⟩ : ∃ u, u = vals 4 := ⟨_, rfl⟩
        have hn5 : IsR w5 (vals 4) (acc * (1 - p)) := hf 4 (by decide)
        rw [← hvm] at hn5 ⊢
        clear hf hdis hvm
        obtain ⟨so', oo', no', co', ao2, mo', do2, rfl⟩ := hn5.shape
        have BX := qHd (BX.out.trans (hb5.mono BX.out.size)); have G2 := qHd (qaa G2.out hb5); have G4 := qHd (qaa G4.out hb5); have G9 := qHd (qaa G9.out hb5); have GO := qHd (qaa GO.out hb5)
        have IONE := qHd (IONE.out.below hb5); have IM := qHd hn5
        clear hb5 hn5
        go_wp2_with (with_reducible refine qaf ?_)
        refine qan go 0 [.bool so', .slice oo' no' co', .slice ao2 mo' do2] GO.out rfl rfl (Nat.le_of_ble_eq_true rfl) (by kernel_rfl) rfl ?_
        intro w6 hp6
        have BX6 := qHd (qbl hp6 BX.out lgo); have G26 := qHd (qbr hp6 G2.out ne2); have G46 := qHd (qbr hp6 G4.out ne4); have G96 := qHd (qbr hp6 G9.out ne9)
        have GO6 := qHd (show w6.heap[go]? = some (.cells #[.bool so', .slice oo' no' co', .slice ao2 mo' do2] 54) by rw [hp6]; exact qbd GO.out)
        have IONE6 := qHd (qbq hp6 IONE.out GO.out noW3); have IM6 := qHd (qbq hp6 IM.out GO.out noW3)
        clear hp6 BX G2 G4 G9 GO IONE IM
        go_wp2_with fail
        go_roundw
        case rel => exact ⟨q + 1, acc * (1 - p), so', oo', ao2, no', co', mo', do2, by omega, by go_num, qHd BX6.out, qHd G26.out, qHd G46.out, qHd G96.out, qHd GO6.out, qHd IONE6.out, qHd IM6.out, qHd (by rw [WG.out, WD.out]; rfl), qHd (by have := HACC.out; have := HPL.out; have := rl_mul acc p; have := rl_mul acc (1 - p); have := rl_sub 1 p; have := rl_one; omega)⟩
        case measure => simp [intOf]; omega
      | false =>
       have BX := BX.out
       go_wp2_with fail
       rw [← hw4]
       go_roundw
       case rel => exact ⟨q + 1, acc, so, oo, ao', no, co, mo, do_, by omega, by go_num, qHd BX, qHd G2.out, qHd G4.out, qHd G9.out, qHd GO.out, qHd IONE.out, qHd IOUT.out, qHd (by rw [WG.out, WD.out]; rfl), qHd (by have := HACC.out; omega)⟩
       case measure => simp [intOf]; omega
    ·have hq' : q = L.length := by omega
     subst hq'
     have R := qHd (show acc = wt (L.map Rv.q) y n by
      have := WG.out
      rw [wtG_eq, List.drop_of_length_le (by simp)] at this
      simp only [wtG] at this
      unfold wt; rw [← this]; grind)
     obtain ⟨o0, o1', o2⟩ := qay GO.out
     go_wp2_with (with_reducible refine qaf ?_)
     refine qan g4 0 [.bool so, .slice oo no co, .slice ao' mo do_] G4.out rfl rfl (Nat.le_of_ble_eq_true rfl) (by kernel_rfl) rfl ?_
     intro w7 hp7
     have hi7 := qbq hp7 IOUT.out G4.out noW3
     have hg7 : w7.heap[g4]? = some (.cells #[.bool so, .slice oo no co, .slice ao' mo do_] 54) := by rw [hp7]; exact qbd G4.out
     have hb7 := qbl hp7 BX.out l4
     have HI7 := qHd hi7; have HG7 := qHd hg7; have HB7 := qHd hb7
     clear hp7 hi7 hg7 hb7 o0 o1' o2
     go_wp2_with (with_reducible first | refine qad ?_ | refine qai ?_ | refine qaj ?_ | refine qak ?_ | refine qag ?_)
     refine qft rfl g4 _ _ _ rfl HG7.out rfl ?_
     exact ⟨_, rfl, HB7.out, by rw [← R.out]; exact HI7.out⟩
theorem row9 {w : World} {g : Nat} {x0 x1 x2 x3 x4 x5 x6 x7 x8 : Value} {T : TypeId} (h : w.heap[g]? = some (.cells #[x0, x1, x2, x3, x4, x5, x6, x7, x8] T)) :
  w.cell? ⟨g, 0, none⟩ = some x0 ∧ w.cell? ⟨g, 1, none⟩ = some x1 ∧ w.cell? ⟨g, 2, none⟩ = some x2 ∧ w.cell? ⟨g, 3, none⟩ = some x3 ∧ w.cell? ⟨g, 4, none⟩ = some x4 ∧ w.cell? ⟨g, 5, none⟩ = some x5 ∧ w.cell? ⟨g, 6, none⟩ = some x6 ∧ w.cell? ⟨g, 7, none⟩ = some x7 ∧ w.cell? ⟨g, 8, none⟩ = some x8 :=
 ⟨cell_of_row _ _ _ _ _ _ h, cell_of_row _ _ _ _ _ _ h, cell_of_row _ _ _ _ _ _ h, cell_of_row _ _ _ _ _ _ h, cell_of_row _ _ _ _ _ _ h, cell_of_row _ _ _ _ _ _ h, cell_of_row _ _ _ _ _ _ h, cell_of_row _ _ _ _ _ _ h, cell_of_row _ _ _ _ _ _ h⟩
theorem putL_99 {w : World} {g : Nat} {x0 x1 x2 x3 x4 x5 x6 x7 x8 y0 y1 y2 y3 y4 y5 y6 y7 y8 : Value} {T : TypeId} (h : w.heap[g]? = some (.cells #[x0, x1, x2, x3, x4, x5, x6, x7, x8] T)) : (qel w g 0 [y0, y1, y2, y3, y4, y5, y6, y7, y8]).heap[g]? = some (.cells #[y0, y1, y2, y3, y4, y5, y6, y7, y8] T) := by
 simp [qel, World.setCell, Array.getElem?_modify, h]
theorem putL_90 {w : World} {g : Nat} {x0 x1 x2 x3 x4 x5 x6 x7 x8 y0 y1 y2 : Value} {T : TypeId} (h : w.heap[g]? = some (.cells #[x0, x1, x2, x3, x4, x5, x6, x7, x8] T)) : (qel w g 0 [y0, y1, y2]).heap[g]? = some (.cells #[y0, y1, y2, x3, x4, x5, x6, x7, x8] T) := by
 simp [qel, World.setCell, Array.getElem?_modify, h]
theorem putL_93 {w : World} {g : Nat} {x0 x1 x2 x3 x4 x5 x6 x7 x8 y0 y1 y2 : Value} {T : TypeId} (h : w.heap[g]? = some (.cells #[x0, x1, x2, x3, x4, x5, x6, x7, x8] T)) : (qel w g 3 [y0, y1, y2]).heap[g]? = some (.cells #[x0, x1, x2, y0, y1, y2, x6, x7, x8] T) := by
 simp [qel, World.setCell, Array.getElem?_modify, h]
theorem putL_96 {w : World} {g : Nat} {x0 x1 x2 x3 x4 x5 x6 x7 x8 y0 y1 y2 : Value} {T : TypeId} (h : w.heap[g]? = some (.cells #[x0, x1, x2, x3, x4, x5, x6, x7, x8] T)) : (qel w g 6 [y0, y1, y2]).heap[g]? = some (.cells #[x0, x1, x2, x3, x4, x5, y0, y1, y2] T) := by
 simp [qel, World.setCell, Array.getElem?_modify, h]
theorem noW9 {s0 s1 s2 : Bool} {o0 a0 o1 a1 o2 a2 : Option Addr} {n0 c0 m0 d0 n1 c1 m1 d1 n2 c2 m2 d2 : Nat} : noW #[Value.bool s0, .slice o0 n0 c0, .slice a0 m0 d0, .bool s1, .slice o1 n1 c1, .slice a1 m1 d1, .bool s2, .slice o2 n2 c2, .slice a2 m2 d2] := by
 intro j n; match j with
 | 0 => simp
 | 1 => simp
 | 2 => simp
 | 3 => simp
 | 4 => simp
 | 5 => simp
 | 6 => simp
 | 7 => simp
 | 8 => simp
 | j + 9 => simp
def noI (cs : Array Value) : Prop := ∀ (j : Nat) (n : Int), cs[j]? ≠ some (.int .i64 n)
theorem noI9 {s0 s1 s2 : Bool} {o0 a0 o1 a1 o2 a2 : Option Addr} {n0 c0 m0 d0 n1 c1 m1 d1 n2 c2 m2 d2 : Nat} : noI #[Value.bool s0, .slice o0 n0 c0, .slice a0 m0 d0, .bool s1, .slice o1 n1 c1, .slice a1 m1 d1, .bool s2, .slice o2 n2 c2, .slice a2 m2 d2] := by
 intro j n; match j with
 | 0 => simp
 | 1 => simp
 | 2 => simp
 | 3 => simp
 | 4 => simp
 | 5 => simp
 | 6 => simp
 | 7 => simp
 | 8 => simp
 | j + 9 => simp
theorem putL_lfs {w w' : World} {g off : Nat} {l : List Value} {cs : Array Value} {T : TypeId} {v : Value} {ls : List Lf} (hw : w' = qel w g off l) (hn : LfsV w v ls) (h : w.heap[g]? = some (.cells cs T)) (hc : noI cs) : LfsV w' v ls := by
 obtain ⟨ao, c, rfl, h1, h2, h3, h4⟩ := hn
 refine ⟨ao, c, rfl, h1, h2, h3, ?_⟩
 intro b' o s hs
 obtain ⟨k1, k2⟩ := h4 b' o s hs
 have hsz : w'.heap.size = w.heap.size := by rw [hw, putL_size]
 refine ⟨fun h0 => by rw [hsz]; exact k1 h0, fun j x hj => ?_⟩
 obtain ⟨q1, q2, q3⟩ := k2 j x hj
 have hne : b' ≠ g := by
  intro e
  subst e
  rw [cell_of_row w b' (o + j * 3) cs T (0, 0) h] at q1
  exact hc _ _ q1
 have hce : ∀ k, w'.cell? ⟨b', k, none⟩ = w.cell? ⟨b', k, none⟩ := fun k => by
  unfold World.cell?
  have e : w'.heap[b']? = w.heap[b']? := by rw [hw, putL_ne hne]
  simp only [e]
 exact ⟨by rw [hce]; exact q1, by rw [hce]; exact q2, by rw [hce]; exact q3⟩
theorem results_cell_tmp2 {fn : Func} {p u v : Tmp} {ty : TypeId} (h : fn.results = #[.cell p ty, .tmp u, .tmp v]) (tmps : Array Value) (P : Program) (w : World) :
  (results fn tmps).run P w =
   ((asAddr (tmps.getD p undef)).run P w).andThen fun a w₁ => ((loadVar ty a).run P w₁).andThen fun x w₂ => .ok (.tuple #[x, tmps.getD u undef, tmps.getD v undef]) w₂ := by
 simp only [results, h]
 simp [Sem.run_bind, Result.andThen]
theorem qcl {P : Program} {fn : Func} {R : Ending → World → Prop} {a : Act} {w : World} {p u : Tmp} {ty : TypeId} {d : TypeDesc} (h : fn.results = #[.cell p ty, .tmp u]) (g : Nat) (cs : Array Value)
  (hp : a.tmps.getD p undef = .pointer (some ⟨g, 0, none⟩)) (hg : w.heap[g]? = some (.cells cs ty)) (hu : P.underlying ty = some d) (hd : (match d with | .struct _ | .array _ _ => true | _ => false) = true) (hi : (P.info? ty).map (·.size) = some cs.size)
  (hf : a.defers = []) (hR : R (.returned (.tuple #[.agg cs, a.tmps.getD u undef])) w) : bodyPost P fn R .ret a w := by
 refine bodyPost_ret (v := .tuple #[.agg cs, a.tmps.getD u undef]) ?_ hf hR
 rw [results_cell_tmp h, hp]
 simp only [asAddr, Sem.run_pure, Result.andThen, run_loadVar_row w g ty ty cs _ d hg hu hd hi]
theorem ret_c3 {P : Program} {fn : Func} {R : Ending → World → Prop} {a : Act} {w : World} {p u v : Tmp} {ty : TypeId} {d : TypeDesc} (h : fn.results = #[.cell p ty, .tmp u, .tmp v]) (g : Nat) (cs : Array Value)
  (hp : a.tmps.getD p undef = .pointer (some ⟨g, 0, none⟩)) (hg : w.heap[g]? = some (.cells cs ty)) (hu : P.underlying ty = some d) (hd : (match d with | .struct _ | .array _ _ => true | _ => false) = true) (hi : (P.info? ty).map (·.size) = some cs.size)
  (hf : a.defers = []) (hR : R (.returned (.tuple #[.agg cs, a.tmps.getD u undef, a.tmps.getD v undef])) w) : bodyPost P fn R .ret a w := by
 refine bodyPost_ret (v := .tuple #[.agg cs, a.tmps.getD u undef, a.tmps.getD v undef]) ?_ hf hR
 rw [results_cell_tmp2 h, hp]
 simp only [asAddr, Sem.run_pure, Result.andThen, run_loadVar_row w g ty ty cs _ d hg hu hd hi]
def sErr (f : Fm) (t : Tr) (L : List Rv) : Nat :=
 if cErr f t ≠ 0 then cErr f t else if (L.length : Int) ≠ f.vars then 11 else if (L.any fun r => !prB r.s r.a r.b) = true then 3 else if 0 ≤ qbj f (qah t 0 0) 0 then 15 else 0
def RetSums (w : World) (ps : List Rat) (ls : List Lf) (er : Nat) (e : Ending) (w' : World) : Prop :=
 ∃ (s0 s1 s2 : Bool) (o0 a0 o1 a1 o2 a2 : Option Addr) (n0 c0 m0 d0 n1 c1 m1 d1 n2 c2 m2 d2 : Nat) (v' : Value), e = .returned (.tuple #[.agg #[.bool s0, .slice o0 n0 c0, .slice a0 m0 d0, .bool s1, .slice o1 n1 c1, .slice a1 m1 d1, .bool s2, .slice o2 n2 c2, .slice a2 m2 d2], v', errV er]) ∧ Below w.heap.size w w' ∧
  (er = 0 → IsR w' (.agg #[.bool s0, .slice o0 n0 c0, .slice a0 m0 d0]) (sumF ps 0 ls 0) ∧ IsR w' (.agg #[.bool s1, .slice o1 n1 c1, .slice a1 m1 d1]) (sumF ps 1 ls 0) ∧ IsR w' (.agg #[.bool s2, .slice o2 n2 c2, .slice a2 m2 d2]) (sumF ps 2 ls 0) ∧ LfsV w' v' ls)
theorem retSums_err {w w' : World} {ps : List Rat} {ls : List Lf} {er : Nat} (hb : Below w.heap.size w w') (h : er ≠ 0) : RetSums w ps ls er (.returned (.tuple #[.agg #[.bool false, .slice none 0 0, .slice none 0 0, .bool false, .slice none 0 0, .slice none 0 0, .bool false, .slice none 0 0, .slice none 0 0], .slice none 0 0, errV er])) w' :=
 ⟨false, false, false, none, none, none, none, none, none, 0, 0, 0, 0, 0, 0, 0, 0, 0, 0, 0, 0, .slice none 0 0, rfl, hb, fun k => absurd k h⟩
theorem sumF_drop {ps : List Rat} {r : Int} {l : List Lf} {q : Nat} {x : Lf} {a : Rat} (h : l[q]? = some x) : sumF ps r (l.drop q) a = sumF ps r (l.drop (q + 1)) (if x.reason = r then a + wt ps x.yes x.no else a) := by
 obtain ⟨h1, h2⟩ := List.getElem?_eq_some_iff.1 h
 rw [List.drop_eq_getElem_cons h1, h2]; simp only [sumF]

theorem sums_any (vf x v : Value) (f : Fm) (t : Tr) (L : List Rv) (w : World) (hf : FmV w vf f) (ht : TrV w x t) (hp : RvsV w v L) (hsm : ∀ r ∈ L, r.a.length ≤ 3 ∧ r.b.length ≤ 3 ∧ rl r.q ≤ 3) (hlv : cErr f t = 0 → (qah t 0 0).length ≤ 300) (er : Nat) (her : sErr f t L = er) :
  Calls Tryz.prog 49 #[vf, v, x] w (RetSums w (L.map Rv.q) (qah t 0 0) er) := by
 have hrs := qfx t x 0 0 ht
 obtain ⟨ec, hec⟩ : ∃ ec, cErr f t = ec := ⟨_, rfl⟩
 obtain ⟨ap, cp, rfl, hcp, hcp2, _⟩ := hp.shape
 obtain ⟨nv, rfl, hn, hv, htp⟩ := hf
 obtain ⟨ao, c, rfl, hc, hc2, _⟩ := hn.shape
 have HF := qHd (show FmV w _ f from ⟨_, rfl, hn, hv, htp⟩)
 have HT := qHd ht; have HP := qHd hp
 obtain ⟨tv, tr, ta, tn, tc, rfl⟩ := ht.shape
 obtain ⟨W0, hW0⟩ : ∃ W, W = (w.alloc (.cells #[.int .i64 f.vars, .slice ao f.nodes.length c, .int .i64 f.top] 24)).alloc (.cells #[.int .i64 tv, .slice ta tn tc, .int .i64 tr] 27) := ⟨_, rfl⟩
 obtain ⟨W, hW⟩ : ∃ W, W = (W0.alloc (.cells #[.bool false, .slice none 0 0, .slice none 0 0, .bool false, .slice none 0 0, .slice none 0 0, .bool false, .slice none 0 0, .slice none 0 0] 105)).alloc (.cells #[.bool false, .slice none 0 0, .slice none 0 0, .bool false, .slice none 0 0, .slice none 0 0, .bool false, .slice none 0 0, .slice none 0 0] 105) := ⟨_, rfl⟩
 have hb0 : Below w.heap.size w W0 := by rw [hW0]; exact ((Below.refl _ _).alloc (Nat.le_refl _) _).alloc (by simp) _
 have hb1 : Below W0.heap.size W0 W := by rw [hW]; exact ((Below.refl _ _).alloc (Nat.le_refl _) _).alloc (by simp) _
 have hs0 : W0.heap.size = w.heap.size + 1 + 1 := by rw [hW0]; simp
 have hg3 : W.heap[w.heap.size]? = some (.cells #[.int .i64 f.vars, .slice ao f.nodes.length c, .int .i64 f.top] 24) := qaa (by rw [hW0]; exact heap_alloc2_old w _ _) hb1
 have hg5 : W.heap[w.heap.size + 1]? = some (.cells #[.int .i64 tv, .slice ta tn tc, .int .i64 tr] 27) := qaa (by rw [hW0]; exact heap_alloc2_new w _ _) hb1
 have hg6 : W.heap[w.heap.size + 1 + 1]? = some (.cells #[.bool false, .slice none 0 0, .slice none 0 0, .bool false, .slice none 0 0, .slice none 0 0, .bool false, .slice none 0 0, .slice none 0 0] 105) := by rw [hW, ← hs0]; exact heap_alloc2_old W0 _ _
 have hg9 : W.heap[w.heap.size + 1 + 1 + 1]? = some (.cells #[.bool false, .slice none 0 0, .slice none 0 0, .bool false, .slice none 0 0, .slice none 0 0, .bool false, .slice none 0 0, .slice none 0 0] 105) := by rw [hW, ← hs0]; exact heap_alloc2_new W0 _ _
 rw [hW0] at hW
 obtain ⟨g3, hG3⟩ : ∃ g, g = w.heap.size := ⟨_, rfl⟩
 obtain ⟨g5, hG5⟩ : ∃ g, g = w.heap.size + 1 := ⟨_, rfl⟩
 obtain ⟨g6, hG6⟩ : ∃ g, g = w.heap.size + 1 + 1 := ⟨_, rfl⟩
 obtain ⟨g9, hG9⟩ : ∃ g, g = w.heap.size + 1 + 1 + 1 := ⟨_, rfl⟩
 rw [← hG3] at hg3; rw [← hG5] at hg5; rw [← hG6] at hg6; rw [← hG9] at hg9
 have l6 : w.heap.size ≤ g6 := by omega
 have l9 : w.heap.size ≤ g9 := by omega
 have ne69 : g6 ≠ g9 := by omega
 have HBW := qHd (hb0.trans (hb1.mono hb0.size)); have G3 := qHd hg3; have G5 := qHd hg5; have G6 := qHd hg6; have G9 := qHd hg9
 obtain ⟨x0, x1, x2⟩ := qay hg3
 obtain ⟨y0, y1, y2⟩ := qay hg5
 rw [hW, hG3] at x0 x1 x2
 rw [hW, hG5] at y0 y1 y2
 have HK := qHd (pleaves_any _ _ f t W (HF.out.below HBW.out) (HT.out.below HBW.out) ec hec)
 have HSM := qHd hsm; have HRS := qHd hrs; have HEC := qHd hec; have HER := qHd her
 clear hb0 hb1 hs0 hg3 hg5 hg6 hg9 hW0 hn hv htp ht hp hsm hrs hec her
 go_enter Tryz.func49, Tryz.ntmps49
 go_wp2_with (with_reducible refine qad ?_)
 rw [← hW, ← hG9, ← hG6, ← hG5, ← hG3]; clear hW hG3 hG5 hG6 hG9 x0 x1 x2 y0 y1 y2
 refine qap.mk ?_
 (with_reducible refine HK.out.mono ?_); rintro e w1 ⟨vl, rfl, hb1, hl⟩
 have HBc := qHd (HBW.out.trans (hb1.mono HBW.out.size)); have G3 := qHd (qaa G3.out hb1); have G6 := qHd (qaa G6.out hb1); have G9 := qHd (qaa G9.out hb1)
 clear hb1 HK G5
 by_cases h0 : ec ≠ 0
 ·have R := qHd (show er = ec by rw [← HER.out]; unfold sErr; rw [if_pos (by rw [HEC.out]; exact h0), HEC.out])
  obtain ⟨z0, z1, z2, z3, z4, z5, z6, z7, z8⟩ := row9 G9.out
  rw [qbz h0]
  go_wp2_with (with_reducible refine qaf ?_)
  refine qan g6 0 [.bool false, .slice none 0 0, .slice none 0 0, .bool false, .slice none 0 0, .slice none 0 0, .bool false, .slice none 0 0, .slice none 0 0] G6.out rfl rfl (Nat.le_of_ble_eq_true rfl) (by kernel_rfl) rfl ?_
  intro wz hpz
  have GZ := qHd (show wz.heap[g6]? = some (.cells #[.bool false, .slice none 0 0, .slice none 0 0, .bool false, .slice none 0 0, .slice none 0 0, .bool false, .slice none 0 0, .slice none 0 0] 105) by rw [hpz]; exact putL_99 G6.out)
  have HBZ := qHd (qbl hpz HBc.out l6)
  clear hpz
  go_wp2_with (with_reducible first | refine qad ?_ | refine qai ?_ | refine qaj ?_ | refine qak ?_ | refine qag ?_)
  refine ret_c3 rfl g6 #[.bool false, .slice none 0 0, .slice none 0 0, .bool false, .slice none 0 0, .slice none 0 0, .bool false, .slice none 0 0, .slice none 0 0] rfl GZ.out Tryz.underlying105 rfl (by kernel_rfl) rfl ?_
  rw [R.out]
  have := retSums_err (ps := L.map Rv.q) (ls := qah t 0 0) HBZ.out h0
  rw [qbz h0] at this
  exact this
 have h0 : ec = 0 := by omega
 subst h0
 have hl := hl rfl
 have hlv := hlv HEC.out
 obtain ⟨hfm, hte, hok, hts⟩ := qds HEC.out
 obtain ⟨p0, p1, _, p3⟩ := qbe hfm
 obtain ⟨V, hV⟩ : ∃ V : Nat, f.vars = V := ⟨f.vars.toNat, by omega⟩
 have ER1 := qHd (show er = if (L.length : Int) ≠ f.vars then 11 else if (L.any fun r => !prB r.s r.a r.b) = true then 3 else if 0 ≤ qbj f (qah t 0 0) 0 then 15 else 0 by rw [← HER.out]; unfold sErr; rw [if_neg (by rw [HEC.out]; exact fun h => h rfl)])
 have HL := qHd hl; have HFM := qHd hfm; have HCC := qHd (qdy HEC.out); have HND := qHd p3
 have HLV := qHd hlv
 rw [qbi]
 rw [hV] at p0 p1
 clear hl hfm hte hok hts p3 hlv HER
 obtain ⟨x0, x1, x2⟩ := qay G3.out
 rw [hV] at x0
 by_cases h1 : (L.length : Int) ≠ (V : Int)
 ·have R := qHd (show er = 11 by rw [ER1.out, if_pos (by rw [hV]; exact h1)])
  have h1' : ((L.length : Int) != (V : Int)) = true := bne_iff_ne.2 h1
  obtain ⟨z0, z1, z2, z3, z4, z5, z6, z7, z8⟩ := row9 G9.out
  go_wp2_with (with_reducible refine qaf ?_)
  refine qan g6 0 [.bool false, .slice none 0 0, .slice none 0 0, .bool false, .slice none 0 0, .slice none 0 0, .bool false, .slice none 0 0, .slice none 0 0] G6.out rfl rfl (Nat.le_of_ble_eq_true rfl) (by kernel_rfl) rfl ?_
  intro wz hpz
  have GZ := qHd (show wz.heap[g6]? = some (.cells #[.bool false, .slice none 0 0, .slice none 0 0, .bool false, .slice none 0 0, .slice none 0 0, .bool false, .slice none 0 0, .slice none 0 0] 105) by rw [hpz]; exact putL_99 G6.out)
  have HBZ := qHd (qbl hpz HBc.out l6)
  clear hpz
  go_wp2_with (with_reducible first | refine qad ?_ | refine qai ?_ | refine qaj ?_ | refine qak ?_ | refine qag ?_)
  refine ret_c3 rfl g6 #[.bool false, .slice none 0 0, .slice none 0 0, .bool false, .slice none 0 0, .slice none 0 0, .bool false, .slice none 0 0, .slice none 0 0] rfl GZ.out Tryz.underlying105 rfl (by kernel_rfl) rfl ?_
  rw [R.out]
  exact retSums_err HBZ.out (by decide)
 have hLV : L.length = V := by omega
 have ER2 := qHd (ER1.out.trans (if_neg (by rw [hV]; exact h1)))
 subst hLV
 clear h1 x1 x2 ER1
 go_wp2_with fail
 clear x0
 go_loopw [38] (fun i' wx => ∃ q : Nat, q ≤ L.length ∧ i' = .int .i64 q ∧ Hid (Below w1.heap.size w1 wx) ∧ Hid (∀ r ∈ L.take q, prB r.s r.a r.b = true)) (fun i' _ => L.length - (intOf i').toNat)
 case atStart => exact ⟨0, Nat.zero_le _, rfl, qHd (Below.refl _ _), qHd (by simp)⟩
 case round =>
  obtain ⟨q, hq, rfl, BX, PR⟩ := hrel
  obtain ⟨wo, rfl⟩ : ∃ wo : World, wo = wr := ⟨_, rfl⟩
  have HBo := qHd (HBc.out.trans (BX.out.mono HBc.out.size)); have G3 := qHd (qaa G3.out BX.out); have G6 := qHd (qaa G6.out BX.out); have G9 := qHd (qaa G9.out BX.out)
  by_cases hlt : q < L.length
  ·obtain ⟨r, hr⟩ : ∃ r, L[q]? = some r := ⟨L[q], List.getElem?_eq_getElem hlt⟩
   obtain ⟨bp, op, rfl, hbp, hjk, hat⟩ := (HP.out.below HBo.out).at (by omega); clear hjk
   obtain ⟨ax, nx, cx, bx, mx, dx, c0, c1, c2, hRV⟩ := (hat q r hr).val
   have ho := HSM.out r (List.mem_of_getElem? hr)
   obtain ⟨w4, hw4⟩ : ∃ w4, w4 = wo.alloc (.cells #[.bool r.s, .slice ax nx cx, .slice bx mx dx] 54) := ⟨_, rfl⟩
   have hb4 : Below wo.heap.size wo w4 := by rw [hw4]; exact qBA _ _
   have hk2 := prob_any _ r.s r.a r.b w4 (hRV.below hb4) (by omega) (by omega)
   obtain ⟨pb, hpb⟩ : ∃ b, b = prB r.s r.a r.b := ⟨_, rfl⟩
   rw [← hpb] at hk2
   have HK := qHd hk2; have HPB := qHd hpb; have HR := qHd hr
   have BX4 := qHd (BX.out.trans (hb4.mono BX.out.size)); have HB4 := qHd (HBo.out.trans (hb4.mono HBo.out.size)); have G6 := qHd (qaa G6.out hb4); have G9 := qHd (qaa G9.out hb4)
   have hltz : (q : Int) < (L.length : Int) := by omega
   clear hat hr ho hRV hb4 hk2 hpb
   go_wp2_with (with_reducible refine qad ?_)
   rw [← hw4]; clear hw4 c0 c1 c2
   refine qap.mk ?_
   (with_reducible refine HK.out.mono ?_); rintro e w5 ⟨rfl, hb5⟩
   have BX5 := qHd (BX4.out.trans (hb5.mono BX4.out.size)); have HBc := qHd (HB4.out.trans (hb5.mono HB4.out.size)); have G6 := qHd (qaa G6.out hb5); have G9 := qHd (qaa G9.out hb5)
   clear hb5 HK
   cases pb with
   | true =>
    go_wp2_with fail
    go_roundw
    case rel => exact ⟨q + 1, by omega, by go_num, qHd BX5.out, qHd (fun z hz => by
     rw [qen HR.out] at hz
     rcases List.mem_append.1 hz with hz | hz
     ·exact PR.out z hz
     ·rw [List.mem_singleton] at hz; subst hz; exact HPB.out.symm)⟩
    case measure => simp [intOf]; omega
   | false =>
    have R := qHd (show er = 3 by rw [ER2.out, if_pos (List.any_eq_true.2 ⟨r, List.mem_of_getElem? HR.out, by rw [← HPB.out]; rfl⟩)])
    obtain ⟨z0, z1, z2, z3, z4, z5, z6, z7, z8⟩ := row9 G9.out
    go_wp2_with (with_reducible refine qaf ?_)
    refine qan g6 0 [.bool false, .slice none 0 0, .slice none 0 0, .bool false, .slice none 0 0, .slice none 0 0, .bool false, .slice none 0 0, .slice none 0 0] G6.out rfl rfl (Nat.le_of_ble_eq_true rfl) (by kernel_rfl) rfl ?_
    intro wz hpz
    have GZ := qHd (show wz.heap[g6]? = some (.cells #[.bool false, .slice none 0 0, .slice none 0 0, .bool false, .slice none 0 0, .slice none 0 0, .bool false, .slice none 0 0, .slice none 0 0] 105) by rw [hpz]; exact putL_99 G6.out)
    have HBZ := qHd (qbl hpz HBc.out l6)
    clear hpz
    go_wp2_with (with_reducible first | refine qad ?_ | refine qai ?_ | refine qaj ?_ | refine qak ?_ | refine qag ?_)
    refine ret_c3 rfl g6 #[.bool false, .slice none 0 0, .slice none 0 0, .bool false, .slice none 0 0, .slice none 0 0, .bool false, .slice none 0 0, .slice none 0 0] rfl GZ.out Tryz.underlying105 rfl (by kernel_rfl) rfl ?_
    rw [R.out]
    exact retSums_err HBZ.out (by decide)
  ·have hq' : q = L.length := by omega
   subst hq'
   have PR2 := PR.out
   rw [List.take_length] at PR2
   have ER3 := qHd (ER2.out.trans (if_neg (by intro hh; obtain ⟨r, h1, h2⟩ := List.any_eq_true.1 hh; rw [PR2 r h1] at h2; cases h2)))
   have ROK := qHd (show ∀ r ∈ L, RvOK 3 r from fun r hr => ⟨PR2 r hr, (HSM.out r hr).1, (HSM.out r hr).2.1, (HSM.out r hr).2.2⟩)
   clear PR2 PR ER2
   have hkf := pfirst_any _ vl f (qah t 0 0) wo (HF.out.below HBo.out) (HL.out.below BX.out) HFM.out (fun z hz => okC_cube (HCC.out z hz) (by omega) (by omega)) HRS.out (by have := HLV.out; omega)
   rw [hV] at hkf
   have HKF := qHd hkf; clear hkf
   obtain ⟨x0, x1, x2⟩ := qay G3.out
   go_wp2_with (with_reducible refine qad ?_)
   refine qap.mk ?_
   (with_reducible refine HKF.out.mono ?_); rintro e w5 ⟨rfl, hb5⟩
   have HL := qHd ((HL.out.below BX.out).below hb5)
   have HBc := qHd (HBo.out.trans (hb5.mono HBo.out.size)); have G6 := qHd (qaa G6.out hb5); have G9 := qHd (qaa G9.out hb5)
   clear hb5 HKF x0 x1 x2 BX
   obtain ⟨fb, hfb⟩ : ∃ b, b = qbj f (qah t 0 0) 0 := ⟨_, rfl⟩
   rw [← hfb] at ER3 ⊢
   have hge := firstBad_ge f (qah t 0 0) 0
   rw [← hfb] at hge
   have HFB := qHd hfb
   clear hfb
   by_cases h2 : 0 ≤ fb
   ·have R := qHd (show er = 15 by rw [ER3.out, if_pos h2])
    obtain ⟨z0, z1, z2, z3, z4, z5, z6, z7, z8⟩ := row9 G9.out
    go_wp2_with (with_reducible refine qaf ?_)
    refine qan g6 0 [.bool false, .slice none 0 0, .slice none 0 0, .bool false, .slice none 0 0, .slice none 0 0, .bool false, .slice none 0 0, .slice none 0 0] G6.out rfl rfl (Nat.le_of_ble_eq_true rfl) (by kernel_rfl) rfl ?_
    intro wz hpz
    have GZ := qHd (show wz.heap[g6]? = some (.cells #[.bool false, .slice none 0 0, .slice none 0 0, .bool false, .slice none 0 0, .slice none 0 0, .bool false, .slice none 0 0, .slice none 0 0] 105) by rw [hpz]; exact putL_99 G6.out)
    have HBZ := qHd (qbl hpz HBc.out l6)
    clear hpz
    go_wp2_with (with_reducible first | refine qad ?_ | refine qai ?_ | refine qaj ?_ | refine qak ?_ | refine qag ?_)
    refine ret_c3 rfl g6 #[.bool false, .slice none 0 0, .slice none 0 0, .bool false, .slice none 0 0, .slice none 0 0, .bool false, .slice none 0 0, .slice none 0 0] rfl GZ.out Tryz.underlying105 rfl (by kernel_rfl) rfl ?_
    rw [R.out]
    exact retSums_err HBZ.out (by decide)
   have hfm1 : fb = -1 := by omega
   have R0 := qHd (show er = 0 by rw [ER3.out, if_neg h2])
   have HH := qHd ((qez (qah t 0 0) 0).1 (HFB.out.symm.trans hfm1))
   subst hfm1
   clear h2 hge HFB ER3
   obtain ⟨al, cl, rfl, hcl, hcl2, _⟩ := HL.out.shape
   obtain ⟨ls, hls⟩ : ∃ ls, ls = qah t 0 0 := ⟨_, rfl⟩
   rw [← hls] at HL HCC HLV HH HRS hcl ⊢
   have hlv := HLV.out
   have HLS := qHd hls
   clear hls
   go_wp2_with fail
   go_loopw [64] (fun i' wx => ∃ (q : Nat) (A0 A1 A2 : Rat) (s0 s1 s2 : Bool) (o0 a0 o1 a1 o2 a2 : Option Addr) (n0 c0 m0 d0 n1 c1 m1 d1 n2 c2 m2 d2 : Nat), q ≤ ls.length ∧ i' = .int .i64 q ∧ Hid (Below w.heap.size w wx) ∧ Hid (LfsV wx (.slice al ls.length cl) ls) ∧ Hid (wx.heap[g6]? = some (.cells #[.bool false, .slice none 0 0, .slice none 0 0, .bool false, .slice none 0 0, .slice none 0 0, .bool false, .slice none 0 0, .slice none 0 0] 105)) ∧
    Hid (wx.heap[g9]? = some (.cells #[.bool s0, .slice o0 n0 c0, .slice a0 m0 d0, .bool s1, .slice o1 n1 c1, .slice a1 m1 d1, .bool s2, .slice o2 n2 c2, .slice a2 m2 d2] 105)) ∧ Hid (IsR wx (.agg #[.bool s0, .slice o0 n0 c0, .slice a0 m0 d0]) A0) ∧ Hid (IsR wx (.agg #[.bool s1, .slice o1 n1 c1, .slice a1 m1 d1]) A1) ∧ Hid (IsR wx (.agg #[.bool s2, .slice o2 n2 c2, .slice a2 m2 d2]) A2) ∧
    Hid (sumF (L.map Rv.q) 0 ls 0 = sumF (L.map Rv.q) 0 (ls.drop q) A0 ∧ sumF (L.map Rv.q) 1 ls 0 = sumF (L.map Rv.q) 1 (ls.drop q) A1 ∧ sumF (L.map Rv.q) 2 ls 0 = sumF (L.map Rv.q) 2 (ls.drop q) A2) ∧ Hid (rl A0 ≤ 1 + q * 122 ∧ rl A1 ≤ 1 + q * 122 ∧ rl A2 ≤ 1 + q * 122)) (fun i' _ => ls.length - (intOf i').toNat)
   case atStart => exact ⟨0, 0, 0, 0, false, false, false, none, none, none, none, none, none, 0, 0, 0, 0, 0, 0, 0, 0, 0, 0, 0, 0, Nat.zero_le _, rfl, qHd HBc.out, qHd HL.out, qHd G6.out, qHd G9.out, qHd (qdg _), qHd (qdg _), qHd (qdg _), qHd ⟨rfl, rfl, rfl⟩, qHd (by rw [qeo]; omega)⟩
   case round =>
    obtain ⟨q, A0, A1, A2, s0, s1, s2, o0, a0, o1, a1, o2, a2, n0, c0, m0, d0, n1, c1, m1, d1, n2, c2, m2, d2, hq, rfl, BX, HLx, G6, G9, I0, I1, I2, SF, HA⟩ := hrel
    obtain ⟨wo, rfl⟩ : ∃ wo : World, wo = wr := ⟨_, rfl⟩
    by_cases hlt : q < ls.length
    ·obtain ⟨z, hz⟩ : ∃ z, ls[q]? = some z := ⟨ls[q], List.getElem?_eq_getElem hlt⟩
     obtain ⟨bl, ol, rfl, hbl, hjk, hat⟩ := HLx.out.at (by omega); clear hjk
     obtain ⟨c0', c1', c2'⟩ := hat q z hz
     have hmem := List.mem_of_getElem? hz
     have SD := qHd (fun r a => sumF_drop (ps := L.map Rv.q) (r := r) (a := a) hz)
     have hcc := HCC.out z hmem
     have hlt3 := okC_lt hcc
     have hre : z.reason = 0 ∨ z.reason = 1 ∨ z.reason = 2 := by
      have := fmVal_le HND.out z.yes z.no
      rcases HH.out z hmem with h | h <;> omega
     obtain ⟨zy, zn, zr⟩ := z
     simp only at c0' c1' c2' hlt3 hre SD
     rw [hV, Int.toNat_natCast] at hlt3
     obtain ⟨w4, hw4, hb4, g16, hG16, hg16⟩ := qBx5 wo (.cells #[.int .i64 (zy : Nat), .int .i64 (zn : Nat), .int .i64 zr] 48)
     have ne16 : g16 ≠ g9 := by have := qaw G9.out; omega
     have BX := qHd (BX.out.trans (hb4.mono BX.out.size)); have G6 := qHd (qaa G6.out hb4); have G9 := qHd (qaa G9.out hb4); have HLx := qHd (HLx.out.below hb4)
     have I0 := qHd (I0.out.below hb4); have I1 := qHd (I1.out.below hb4); have I2 := qHd (I2.out.below hb4)
     have G16 := qHd hg16
     have HK := qHd (weight_any _ L zy zn 3 w4 (HP.out.below BX.out) ROK.out (by omega) hlt3.1 hlt3.2.1 hlt3.2.2 (by decide))
     have HW := qHd (show rl (wt (L.map Rv.q) zy zn) ≤ 121 by
      have := rl_wtL (k := 3) (L.map Rv.q) 0 zy zn (fun p hp => by obtain ⟨r, hr, rfl⟩ := List.mem_map.1 hp; exact (ROK.out r hr).lq)
      rw [List.length_map] at this
      unfold wt; have := Nat.mul_le_mul_right 5 (show L.length ≤ 24 by omega); omega)
     obtain ⟨wq, hwq⟩ : ∃ x, x = wt (L.map Rv.q) zy zn := ⟨_, rfl⟩
     rw [← hwq] at HK HW SD
     have hltz : (q : Int) < (ls.length : Int) := by omega
     obtain ⟨z0, z1, z2⟩ := qay hg16
     rw [hw4, hG16] at z0 z1 z2
     clear hat hz hmem hcc hlt3 hg16 hwq hb4
     go_wp2_with (with_reducible refine qad ?_)
     rw [← hw4, ← hG16]
     clear hw4 hG16 z0 z1 z2 c0' c1' c2'
     refine qap.mk ?_
     (with_reducible refine HK.out.mono ?_); rintro e w5 ⟨vw, rfl, hb5, hn5⟩
     obtain ⟨sw, ow, nw, cw, aw, mw, dw, rfl⟩ := hn5.shape
     obtain ⟨w6, hw6, hb6, g17, hG17, hg17⟩ := qBx5 w5 (.cells #[.bool sw, .slice ow nw cw, .slice aw mw dw] 54)
     have hb56 := hb5.trans (hb6.mono hb5.size)
     have BX := qHd (BX.out.trans (hb56.mono BX.out.size)); have G6 := qHd (qaa G6.out hb56); have G9 := qHd (qaa G9.out hb56); have HLx := qHd (HLx.out.below hb56); have G16 := qHd (qaa G16.out hb56)
     have I0 := qHd (I0.out.below hb56); have I1 := qHd (I1.out.below hb56); have I2 := qHd (I2.out.below hb56)
     have IW := qHd (hn5.below hb6); have G17 := qHd hg17
     clear hb5 hb6 hb56 hn5 hg17 HK
     rcases hre with rfl | rfl | rfl
     ·go_wp2_with (with_reducible first | refine qad ?_ | refine qai ?_ | refine qaj ?_ | refine qak ?_ | refine qag ?_)
      rw [← hw6, ← hG17]
      clear hw6 hG17
      refine qap.mk ?_
      refine qao (A := ?aa24a) (w := w6) 9 [] (by kernel_rfl) (Fl [KEq (.pointer (some ⟨g16, 2, none⟩)), KEq (.int .i64 0), KEq (.pointer (some ⟨g16, 2, none⟩)), KEq (.int .i64 0), KEq (.pointer (some ⟨g9, 0, none⟩)), KEq (.agg #[.bool s0, .slice o0 n0 c0, .slice a0 m0 d0]), KEq (.agg #[.bool sw, .slice ow nw cw, .slice aw mw dw]), KIs (A0 + wq), KEq (.pointer (some ⟨g9, 0, none⟩))]) (fun i => false) (by kernel_rfl) ?hq24a (qcw (qae (kEq _) (qae (kEq _) (qae (kEq _) (qae (kEq _) (qae (kEq _) (qae (kEq _) (qae (kEq _) (qae (kIs _) (qae (kEq _) qcv)))))))))) ?ha24a ?st24a ?tl24a
      case hq24a =>
       intro c a d v w h
       first | (simp only [Exit.then] at h ⊢; exact h) | (simp only [Exit.inBlock, Exit.then] at h ⊢; exact h) | exact h
      case ha24a =>
       intro vals
       simp only [qba, qcd, if_true, Act.put, List.setIfInBounds_toArray, List.set_cons_zero, List.set_cons_succ, List.getElem?_toArray, List.getElem?_cons_zero, List.getElem?_cons_succ, Option.bind_some]
       exact rfl
      case st24a =>
       simp only [List.take_succ_cons, List.take_zero]
       refine qab rfl rfl ?_ (qab rfl rfl ?_ (qab rfl rfl ?_ (qab rfl rfl ?_ (qab rfl rfl ?_ (qab rfl rfl ?_ (qab rfl rfl ?_ (qab rfl rfl ?_ (qab rfl rfl ?_ (qav)))))))))
       ·intro vals w1 hb hd
        refine qSv (.pointer (some ⟨g16, 2, none⟩)) (by go_simp) (qLk rfl rfl)
       ·intro vals w1 hb hd
        obtain ⟨e0, e1, e2⟩ := qay (qaa G16.out hb)
        rw [show vals 0 = .pointer (some ⟨g16, 2, none⟩) from hd 0 (by kernel_rfl)]
        refine qSv (.int .i64 0) (by go_simp) (qLk rfl rfl)
       ·intro vals w1 hb hd
        refine qSv (.pointer (some ⟨g16, 2, none⟩)) (by go_simp) (qLk rfl rfl)
       ·intro vals w1 hb hd
        obtain ⟨e0, e1, e2⟩ := qay (qaa G16.out hb)
        rw [show vals 2 = .pointer (some ⟨g16, 2, none⟩) from hd 2 (by kernel_rfl)]
        refine qSv (.int .i64 0) (by go_simp) (qLk rfl rfl)
       ·intro vals w1 hb hd
        rw [show vals 3 = .int .i64 0 from hd 3 (by kernel_rfl)]
        refine qSv (.pointer (some ⟨g9, 0, none⟩)) (by go_simp) (qLk rfl rfl)
       ·intro vals w1 hb hd
        obtain ⟨e0, e1, e2, e3, e4, e5, e6, e7, e8⟩ := row9 (qaa G9.out hb)
        rw [show vals 4 = .pointer (some ⟨g9, 0, none⟩) from hd 4 (by kernel_rfl)]
        refine qSv (.agg #[.bool s0, .slice o0 n0 c0, .slice a0 m0 d0]) (by go_simp) (qLk rfl rfl)
       ·intro vals w1 hb hd
        obtain ⟨e0, e1, e2⟩ := qay (qaa G17.out hb)
        refine qSv (.agg #[.bool sw, .slice ow nw cw, .slice aw mw dw]) (by go_simp) (qLk rfl rfl)
       ·intro vals w1 hb hd
        have d5 : KEq (.agg #[.bool s0, .slice o0 n0 c0, .slice a0 m0 d0]) (vals 5) w1 := hd 5 (by kernel_rfl)
        have d6 : KEq (.agg #[.bool sw, .slice ow nw cw, .slice aw mw dw]) (vals 6) w1 := hd 6 (by kernel_rfl)
        have HS := qHd (addq_any _ A0 _ wq w1 ((I0.out.below hb).is (by have := HA.out; omega)) ((IW.out.below hb).is (by have := HW.out; omega)))
        have z5 : vals 5 = _ := d5
        rw [z5]; clear z5
        have z6 : vals 6 = _ := d6
        rw [z6]; clear z6
        refine qat (by go_simp; first | done | exact ⟨⟨rfl, rfl⟩, rfl⟩) ?_
        (with_reducible refine HS.out.mono ?_); rintro e w2 ⟨v, rfl, hb2, hn⟩
        exact ⟨v, rfl, qar hb2 hn (fun h => by cases h)⟩
       ·intro vals w1 hb hd
        rw [show vals 1 = .int .i64 0 from hd 1 (by kernel_rfl)]
        refine qSv (.pointer (some ⟨g9, 0, none⟩)) (by go_simp) (qLk rfl rfl)
      case tl24a =>
       intro vals w7 hb7 hf hdis
       simp only [List.drop_succ_cons, List.drop_zero]
       have z8 : vals 8 = _ := hf 8 (by decide)
       obtain ⟨vm, hvm⟩ : ∃ u, u = vals 7 := ⟨_, rfl⟩
       have hn7 : IsR w7 (vals 7) (A0 + wq) := hf 7 (by decide)
       rw [z8]
       rw [← hvm] at hn7 ⊢
       clear hf hdis hvm z8
       obtain ⟨s0', o0', n0', c0', a0', m0', d0', rfl⟩ := hn7.shape
       have BX := qHd (BX.out.trans (hb7.mono BX.out.size)); have G6 := qHd (qaa G6.out hb7); have G9 := qHd (qaa G9.out hb7); have HLx := qHd (HLx.out.below hb7)
       have I0 := qHd (I0.out.below hb7); have I1 := qHd (I1.out.below hb7); have I2 := qHd (I2.out.below hb7); have IM := qHd hn7
       clear hb7 hn7
       go_wp2_with (with_reducible refine qaf ?_)
       refine qan g9 0 [.bool s0', .slice o0' n0' c0', .slice a0' m0' d0'] G9.out rfl rfl (Nat.le_of_ble_eq_true rfl) (by kernel_rfl) rfl ?_
       intro w8 hp8
       have BX8 := qHd (qbl hp8 BX.out l9); have G68 := qHd (qbr hp8 G6.out ne69)
       have G98 := qHd (show w8.heap[g9]? = some (.cells #[.bool s0', .slice o0' n0' c0', .slice a0' m0' d0', .bool s1, .slice o1 n1 c1, .slice a1 m1 d1, .bool s2, .slice o2 n2 c2, .slice a2 m2 d2] 105) by rw [hp8]; exact putL_90 G9.out)
       have J0 := qHd (qbq hp8 IM.out G9.out noW9); have J1 := qHd (qbq hp8 I1.out G9.out noW9); have J2 := qHd (qbq hp8 I2.out G9.out noW9)
       have HL8 := qHd (putL_lfs hp8 HLx.out G9.out noI9)
       have SD0 := qHd (SD.out 0 A0); have SD1 := qHd (SD.out 1 A1); have SD2 := qHd (SD.out 2 A2)
       clear hp8 BX G6 G9 I0 I1 I2 IM HLx
       go_wp2_with fail
       go_roundw
       case rel => exact ⟨q + 1, A0 + wq, A1, A2, s0', s1, s2, o0', a0', o1, a1, o2, a2, n0', c0', m0', d0', n1, c1, m1, d1, n2, c2, m2, d2, by omega, by go_num, qHd BX8.out, qHd HL8.out, qHd G68.out, qHd G98.out, qHd J0.out, qHd J1.out, qHd J2.out,
        qHd ⟨by rw [SF.out.1, SD0.out]; rfl, by rw [SF.out.2.1, SD1.out]; rfl, by rw [SF.out.2.2, SD2.out]; rfl⟩, qHd (by have := HA.out; have := HW.out; have := rl_add A0 wq; omega)⟩
       case measure => simp [intOf]; omega
     ·go_wp2_with (with_reducible first | refine qad ?_ | refine qai ?_ | refine qaj ?_ | refine qak ?_ | refine qag ?_)
      rw [← hw6, ← hG17]
      clear hw6 hG17
      refine qap.mk ?_
      refine qao (A := ?aa24b) (w := w6) 9 [] (by kernel_rfl) (Fl [KEq (.pointer (some ⟨g16, 2, none⟩)), KEq (.int .i64 1), KEq (.pointer (some ⟨g16, 2, none⟩)), KEq (.int .i64 1), KEq (.pointer (some ⟨g9, 3, none⟩)), KEq (.agg #[.bool s1, .slice o1 n1 c1, .slice a1 m1 d1]), KEq (.agg #[.bool sw, .slice ow nw cw, .slice aw mw dw]), KIs (A1 + wq), KEq (.pointer (some ⟨g9, 3, none⟩))]) (fun i => false) (by kernel_rfl) ?hq24b (qcw (qae (kEq _) (qae (kEq _) (qae (kEq _) (qae (kEq _) (qae (kEq _) (qae (kEq _) (qae (kEq _) (qae (kIs _) (qae (kEq _) qcv)))))))))) ?ha24b ?st24b ?tl24b
      case hq24b =>
       intro c a d v w h
       first | (simp only [Exit.then] at h ⊢; exact h) | (simp only [Exit.inBlock, Exit.then] at h ⊢; exact h) | exact h
      case ha24b =>
       intro vals
       simp only [qba, qcd, if_true, Act.put, List.setIfInBounds_toArray, List.set_cons_zero, List.set_cons_succ, List.getElem?_toArray, List.getElem?_cons_zero, List.getElem?_cons_succ, Option.bind_some]
       exact rfl
      case st24b =>
       simp only [List.take_succ_cons, List.take_zero]
       refine qab rfl rfl ?_ (qab rfl rfl ?_ (qab rfl rfl ?_ (qab rfl rfl ?_ (qab rfl rfl ?_ (qab rfl rfl ?_ (qab rfl rfl ?_ (qab rfl rfl ?_ (qab rfl rfl ?_ (qav)))))))))
       ·intro vals w1 hb hd
        refine qSv (.pointer (some ⟨g16, 2, none⟩)) (by go_simp) (qLk rfl rfl)
       ·intro vals w1 hb hd
        obtain ⟨e0, e1, e2⟩ := qay (qaa G16.out hb)
        rw [show vals 0 = .pointer (some ⟨g16, 2, none⟩) from hd 0 (by kernel_rfl)]
        refine qSv (.int .i64 1) (by go_simp) (qLk rfl rfl)
       ·intro vals w1 hb hd
        refine qSv (.pointer (some ⟨g16, 2, none⟩)) (by go_simp) (qLk rfl rfl)
       ·intro vals w1 hb hd
        obtain ⟨e0, e1, e2⟩ := qay (qaa G16.out hb)
        rw [show vals 2 = .pointer (some ⟨g16, 2, none⟩) from hd 2 (by kernel_rfl)]
        refine qSv (.int .i64 1) (by go_simp) (qLk rfl rfl)
       ·intro vals w1 hb hd
        rw [show vals 3 = .int .i64 1 from hd 3 (by kernel_rfl)]
        refine qSv (.pointer (some ⟨g9, 3, none⟩)) (by go_simp) (qLk rfl rfl)
       ·intro vals w1 hb hd
        obtain ⟨e0, e1, e2, e3, e4, e5, e6, e7, e8⟩ := row9 (qaa G9.out hb)
        rw [show vals 4 = .pointer (some ⟨g9, 3, none⟩) from hd 4 (by kernel_rfl)]
        refine qSv (.agg #[.bool s1, .slice o1 n1 c1, .slice a1 m1 d1]) (by go_simp) (qLk rfl rfl)
       ·intro vals w1 hb hd
        obtain ⟨e0, e1, e2⟩ := qay (qaa G17.out hb)
        refine qSv (.agg #[.bool sw, .slice ow nw cw, .slice aw mw dw]) (by go_simp) (qLk rfl rfl)
       ·intro vals w1 hb hd
        have d5 : KEq (.agg #[.bool s1, .slice o1 n1 c1, .slice a1 m1 d1]) (vals 5) w1 := hd 5 (by kernel_rfl)
        have d6 : KEq (.agg #[.bool sw, .slice ow nw cw, .slice aw mw dw]) (vals 6) w1 := hd 6 (by kernel_rfl)
        have HS := qHd (addq_any _ A1 _ wq w1 ((I1.out.below hb).is (by have := HA.out; omega)) ((IW.out.below hb).is (by have := HW.out; omega)))
        have z5 : vals 5 = _ := d5
        rw [z5]; clear z5
        have z6 : vals 6 = _ := d6
        rw [z6]; clear z6
        refine qat (by go_simp; first | done | exact ⟨⟨rfl, rfl⟩, rfl⟩) ?_
        (with_reducible refine HS.out.mono ?_); rintro e w2 ⟨v, rfl, hb2, hn⟩
        exact ⟨v, rfl, qar hb2 hn (fun h => by cases h)⟩
       ·intro vals w1 hb hd
        rw [show vals 1 = .int .i64 1 from hd 1 (by kernel_rfl)]
        refine qSv (.pointer (some ⟨g9, 3, none⟩)) (by go_simp) (qLk rfl rfl)
      case tl24b =>
       intro vals w7 hb7 hf hdis
       simp only [List.drop_succ_cons, List.drop_zero]
       have z8 : vals 8 = _ := hf 8 (by decide)
       obtain ⟨vm, hvm⟩ : ∃ u, u = vals 7 := ⟨_, rfl⟩
       have hn7 : IsR w7 (vals 7) (A1 + wq) := hf 7 (by decide)
       rw [z8]
       rw [← hvm] at hn7 ⊢
       clear hf hdis hvm z8
       obtain ⟨s1', o1', n1', c1', a1', m1', d1', rfl⟩ := hn7.shape
       have BX := qHd (BX.out.trans (hb7.mono BX.out.size)); have G6 := qHd (qaa G6.out hb7); have G9 := qHd (qaa G9.out hb7); have HLx := qHd (HLx.out.below hb7)
       have I0 := qHd (I0.out.below hb7); have I1 := qHd (I1.out.below hb7); have I2 := qHd (I2.out.below hb7); have IM := qHd hn7
       clear hb7 hn7
       go_wp2_with (with_reducible refine qaf ?_)
       refine qan g9 3 [.bool s1', .slice o1' n1' c1', .slice a1' m1' d1'] G9.out rfl rfl (Nat.le_of_ble_eq_true rfl) (by kernel_rfl) rfl ?_
       intro w8 hp8
       have BX8 := qHd (qbl hp8 BX.out l9); have G68 := qHd (qbr hp8 G6.out ne69)
       have G98 := qHd (show w8.heap[g9]? = some (.cells #[.bool s0, .slice o0 n0 c0, .slice a0 m0 d0, .bool s1', .slice o1' n1' c1', .slice a1' m1' d1', .bool s2, .slice o2 n2 c2, .slice a2 m2 d2] 105) by rw [hp8]; exact putL_93 G9.out)
       have J0 := qHd (qbq hp8 I0.out G9.out noW9); have J1 := qHd (qbq hp8 IM.out G9.out noW9); have J2 := qHd (qbq hp8 I2.out G9.out noW9)
       have HL8 := qHd (putL_lfs hp8 HLx.out G9.out noI9)
       have SD0 := qHd (SD.out 0 A0); have SD1 := qHd (SD.out 1 A1); have SD2 := qHd (SD.out 2 A2)
       clear hp8 BX G6 G9 I0 I1 I2 IM HLx
       go_wp2_with fail
       go_roundw
       case rel => exact ⟨q + 1, A0, A1 + wq, A2, s0, s1', s2, o0, a0, o1', a1', o2, a2, n0, c0, m0, d0, n1', c1', m1', d1', n2, c2, m2, d2, by omega, by go_num, qHd BX8.out, qHd HL8.out, qHd G68.out, qHd G98.out, qHd J0.out, qHd J1.out, qHd J2.out,
        qHd ⟨by rw [SF.out.1, SD0.out]; rfl, by rw [SF.out.2.1, SD1.out]; rfl, by rw [SF.out.2.2, SD2.out]; rfl⟩, qHd (by have := HA.out; have := HW.out; have := rl_add A1 wq; omega)⟩
       case measure => simp [intOf]; omega
     ·go_wp2_with (with_reducible first | refine qad ?_ | refine qai ?_ | refine qaj ?_ | refine qak ?_ | refine qag ?_)
      rw [← hw6, ← hG17]
      clear hw6 hG17
      refine qap.mk ?_
      refine qao (A := ?aa24c) (w := w6) 9 [] (by kernel_rfl) (Fl [KEq (.pointer (some ⟨g16, 2, none⟩)), KEq (.int .i64 2), KEq (.pointer (some ⟨g16, 2, none⟩)), KEq (.int .i64 2), KEq (.pointer (some ⟨g9, 6, none⟩)), KEq (.agg #[.bool s2, .slice o2 n2 c2, .slice a2 m2 d2]), KEq (.agg #[.bool sw, .slice ow nw cw, .slice aw mw dw]), KIs (A2 + wq), KEq (.pointer (some ⟨g9, 6, none⟩))]) (fun i => false) (by kernel_rfl) ?hq24c (qcw (qae (kEq _) (qae (kEq _) (qae (kEq _) (qae (kEq _) (qae (kEq _) (qae (kEq _) (qae (kEq _) (qae (kIs _) (qae (kEq _) qcv)))))))))) ?ha24c ?st24c ?tl24c
      case hq24c =>
       intro c a d v w h
       first | (simp only [Exit.then] at h ⊢; exact h) | (simp only [Exit.inBlock, Exit.then] at h ⊢; exact h) | exact h
      case ha24c =>
       intro vals
       simp only [qba, qcd, if_true, Act.put, List.setIfInBounds_toArray, List.set_cons_zero, List.set_cons_succ, List.getElem?_toArray, List.getElem?_cons_zero, List.getElem?_cons_succ, Option.bind_some]
       exact rfl
      case st24c =>
       simp only [List.take_succ_cons, List.take_zero]
       refine qab rfl rfl ?_ (qab rfl rfl ?_ (qab rfl rfl ?_ (qab rfl rfl ?_ (qab rfl rfl ?_ (qab rfl rfl ?_ (qab rfl rfl ?_ (qab rfl rfl ?_ (qab rfl rfl ?_ (qav)))))))))
       ·intro vals w1 hb hd
        refine qSv (.pointer (some ⟨g16, 2, none⟩)) (by go_simp) (qLk rfl rfl)
       ·intro vals w1 hb hd
        obtain ⟨e0, e1, e2⟩ := qay (qaa G16.out hb)
        rw [show vals 0 = .pointer (some ⟨g16, 2, none⟩) from hd 0 (by kernel_rfl)]
        refine qSv (.int .i64 2) (by go_simp) (qLk rfl rfl)
       ·intro vals w1 hb hd
        refine qSv (.pointer (some ⟨g16, 2, none⟩)) (by go_simp) (qLk rfl rfl)
       ·intro vals w1 hb hd
        obtain ⟨e0, e1, e2⟩ := qay (qaa G16.out hb)
        rw [show vals 2 = .pointer (some ⟨g16, 2, none⟩) from hd 2 (by kernel_rfl)]
        refine qSv (.int .i64 2) (by go_simp) (qLk rfl rfl)
       ·intro vals w1 hb hd
        rw [show vals 3 = .int .i64 2 from hd 3 (by kernel_rfl)]
        refine qSv (.pointer (some ⟨g9, 6, none⟩)) (by go_simp) (qLk rfl rfl)
       ·intro vals w1 hb hd
        obtain ⟨e0, e1, e2, e3, e4, e5, e6, e7, e8⟩ := row9 (qaa G9.out hb)
        rw [show vals 4 = .pointer (some ⟨g9, 6, none⟩) from hd 4 (by kernel_rfl)]
        refine qSv (.agg #[.bool s2, .slice o2 n2 c2, .slice a2 m2 d2]) (by go_simp) (qLk rfl rfl)
       ·intro vals w1 hb hd
        obtain ⟨e0, e1, e2⟩ := qay (qaa G17.out hb)
        refine qSv (.agg #[.bool sw, .slice ow nw cw, .slice aw mw dw]) (by go_simp) (qLk rfl rfl)
       ·intro vals w1 hb hd
        have d5 : KEq (.agg #[.bool s2, .slice o2 n2 c2, .slice a2 m2 d2]) (vals 5) w1 := hd 5 (by kernel_rfl)
        have d6 : KEq (.agg #[.bool sw, .slice ow nw cw, .slice aw mw dw]) (vals 6) w1 := hd 6 (by kernel_rfl)
        have HS := qHd (addq_any _ A2 _ wq w1 ((I2.out.below hb).is (by have := HA.out; omega)) ((IW.out.below hb).is (by have := HW.out; omega)))
        have z5 : vals 5 = _ := d5
        rw [z5]; clear z5
        have z6 : vals 6 = _ := d6
        rw [z6]; clear z6
        refine qat (by go_simp; first | done | exact ⟨⟨rfl, rfl⟩, rfl⟩) ?_
        (with_reducible refine HS.out.mono ?_); rintro e w2 ⟨v, rfl, hb2, hn⟩
        exact ⟨v, rfl, qar hb2 hn (fun h => by cases h)⟩
       ·intro vals w1 hb hd
        rw [show vals 1 = .int .i64 2 from hd 1 (by kernel_rfl)]
        refine qSv (.pointer (some ⟨g9, 6, none⟩)) (by go_simp) (qLk rfl rfl)
      case tl24c =>
       intro vals w7 hb7 hf hdis
       simp only [List.drop_succ_cons, List.drop_zero]
       have z8 : vals 8 = _ := hf 8 (by decide)
       obtain ⟨vm, hvm⟩ : ∃ u, u = vals 7 := ⟨_, rfl⟩
       have hn7 : IsR w7 (vals 7) (A2 + wq) := hf 7 (by decide)
       rw [z8]
       rw [← hvm] at hn7 ⊢
       clear hf hdis hvm z8
       obtain ⟨s2', o2', n2', c2', a2', m2', d2', rfl⟩ := hn7.shape
       have BX := qHd (BX.out.trans (hb7.mono BX.out.size)); have G6 := qHd (qaa G6.out hb7); have G9 := qHd (qaa G9.out hb7); have HLx := qHd (HLx.out.below hb7)
       have I0 := qHd (I0.out.below hb7); have I1 := qHd (I1.out.below hb7); have I2 := qHd (I2.out.below hb7); have IM := qHd hn7
       clear hb7 hn7
       go_wp2_with (with_reducible refine qaf ?_)
       refine qan g9 6 [.bool s2', .slice o2' n2' c2', .slice a2' m2' d2'] G9.out rfl rfl (Nat.le_of_ble_eq_true rfl) (by kernel_rfl) rfl ?_
       intro w8 hp8
       have BX8 := qHd (qbl hp8 BX.out l9); have G68 := qHd (qbr hp8 G6.out ne69)
       have G98 := qHd (show w8.heap[g9]? = some (.cells #[.bool s0, .slice o0 n0 c0, .slice a0 m0 d0, .bool s1, .slice o1 n1 c1, .slice a1 m1 d1, .bool s2', .slice o2' n2' c2', .slice a2' m2' d2'] 105) by rw [hp8]; exact putL_96 G9.out)
       have J0 := qHd (qbq hp8 I0.out G9.out noW9); have J1 := qHd (qbq hp8 I1.out G9.out noW9); have J2 := qHd (qbq hp8 IM.out G9.out noW9)
       have HL8 := qHd (putL_lfs hp8 HLx.out G9.out noI9)
       have SD0 := qHd (SD.out 0 A0); have SD1 := qHd (SD.out 1 A1); have SD2 := qHd (SD.out 2 A2)
       clear hp8 BX G6 G9 I0 I1 I2 IM HLx
       go_wp2_with fail
       go_roundw
       case rel => exact ⟨q + 1, A0, A1, A2 + wq, s0, s1, s2', o0, a0, o1, a1, o2', a2', n0, c0, m0, d0, n1, c1, m1, d1, n2', c2', m2', d2', by omega, by go_num, qHd BX8.out, qHd HL8.out, qHd G68.out, qHd G98.out, qHd J0.out, qHd J1.out, qHd J2.out,
        qHd ⟨by rw [SF.out.1, SD0.out]; rfl, by rw [SF.out.2.1, SD1.out]; rfl, by rw [SF.out.2.2, SD2.out]; rfl⟩, qHd (by have := HA.out; have := HW.out; have := rl_add A2 wq; omega)⟩
       case measure => simp [intOf]; omega
    ·have hq' : q = ls.length := by omega
     subst hq'
     have SF := SF.out
     rw [List.drop_length] at SF
     have S0 := qHd (show sumF (L.map Rv.q) 0 ls 0 = A0 from SF.1); have S1 := qHd (show sumF (L.map Rv.q) 1 ls 0 = A1 from SF.2.1); have S2 := qHd (show sumF (L.map Rv.q) 2 ls 0 = A2 from SF.2.2)
     clear SF
     obtain ⟨z0, z1, z2, z3, z4, z5, z6, z7, z8⟩ := row9 G9.out
     go_wp2_with (with_reducible refine qaf ?_)
     refine qan g6 0 [.bool s0, .slice o0 n0 c0, .slice a0 m0 d0, .bool s1, .slice o1 n1 c1, .slice a1 m1 d1, .bool s2, .slice o2 n2 c2, .slice a2 m2 d2] G6.out rfl rfl (Nat.le_of_ble_eq_true rfl) (by kernel_rfl) rfl ?_
     intro wz hpz
     have GZ := qHd (show wz.heap[g6]? = some (.cells #[.bool s0, .slice o0 n0 c0, .slice a0 m0 d0, .bool s1, .slice o1 n1 c1, .slice a1 m1 d1, .bool s2, .slice o2 n2 c2, .slice a2 m2 d2] 105) by rw [hpz]; exact putL_99 G6.out)
     have HBZ := qHd (qbl hpz BX.out l6)
     have J0 := qHd (qbq hpz I0.out G6.out noW9); have J1 := qHd (qbq hpz I1.out G6.out noW9); have J2 := qHd (qbq hpz I2.out G6.out noW9)
     have JL := qHd (putL_lfs hpz HLx.out G6.out noI9)
     clear hpz z0 z1 z2 z3 z4 z5 z6 z7 z8
     go_wp2_with (with_reducible first | refine qad ?_ | refine qai ?_ | refine qaj ?_ | refine qak ?_ | refine qag ?_)
     refine ret_c3 rfl g6 #[.bool s0, .slice o0 n0 c0, .slice a0 m0 d0, .bool s1, .slice o1 n1 c1, .slice a1 m1 d1, .bool s2, .slice o2 n2 c2, .slice a2 m2 d2] rfl GZ.out Tryz.underlying105 rfl (by kernel_rfl) rfl ?_
     rw [R0.out]
     have K0 := J0.out; have K1 := J1.out; have K2 := J2.out
     rw [← S0.out] at K0; rw [← S1.out] at K1; rw [← S2.out] at K2
     exact ⟨s0, s1, s2, o0, a0, o1, a1, o2, a2, n0, c0, m0, d0, n1, c1, m1, d1, n2, c2, m2, d2, .slice al ls.length cl, rfl, HBZ.out, fun _ => by rw [← HLS.out]; exact ⟨K0, K1, K2, JL.out⟩⟩
theorem rl_sum {L : List Rv} {r : Int} {l : List Lf} (hL : L.length ≤ 24) (hsm : ∀ r ∈ L, r.a.length ≤ 3 ∧ r.b.length ≤ 3 ∧ rl r.q ≤ 3) (hl : l.length ≤ 300) : rl (sumF (L.map Rv.q) r l 0) ≤ 37000 := by
 have h1 := rl_sumF (k := 3) (L.map Rv.q) (fun p hp => by obtain ⟨z, hz, rfl⟩ := List.mem_map.1 hp; exact (hsm z hz).2.2) r l 0
 rw [qeo, List.length_map] at h1
 have h2 : L.length * (3 + 2) ≤ 24 * 5 := Nat.mul_le_mul_right 5 hL
 have h3 : l.length * (2 + L.length * (3 + 2)) ≤ 300 * (2 + 24 * 5) := Nat.mul_le_mul hl (by omega)
 omega
theorem qex {f : Fm} {t : Tr} {L : List Rv} (h : sErr f t L = 0) : cErr f t = 0 ∧ (L.length : Int) = f.vars ∧ (∀ r ∈ L, prB r.s r.a r.b = true) ∧ qbj f (qah t 0 0) 0 < 0 := by
 unfold sErr at h
 split at h
 ·rename_i h1; exact absurd h h1
 rename_i h1
 split at h
 ·cases h
 rename_i h2
 split at h
 ·cases h
 rename_i h3
 split at h
 ·cases h
 rename_i h4
 refine ⟨by omega, by omega, fun r hr => ?_, by omega⟩
 cases hb : prB r.s r.a r.b with
 | true => rfl
 | false => exact absurd (List.any_eq_true.2 ⟨r, hr, by rw [hb]; rfl⟩) h3
def RetBd (w : World) (S : Rat × Rat) (er : Nat) (e : Ending) (w' : World) : Prop := ∃ v, e = .returned (.tuple #[v, errV er]) ∧ Below w.heap.size w w' ∧ IsSp w' v S
def bndV (f : Fm) (t : Tr) (L : List Rv) : Rat × Rat := if sErr f t L = 0 then (sumF (L.map Rv.q) 1 (qah t 0 0) 0, 1 - sumF (L.map Rv.q) 0 (qah t 0 0) 0) else (0, 0)
theorem bounds_any (vf x v : Value) (f : Fm) (t : Tr) (L : List Rv) (w : World) (hf : FmV w vf f) (ht : TrV w x t) (hp : RvsV w v L) (hsm : ∀ r ∈ L, r.a.length ≤ 3 ∧ r.b.length ≤ 3 ∧ rl r.q ≤ 3) (hlv : cErr f t = 0 → (qah t 0 0).length ≤ 300) (er : Nat) (her : sErr f t L = er) :
  Calls Tryz.prog 19 #[vf, v, x] w (RetBd w (bndV f t L) er) := by
 have hA : er = 0 → rl (sumF (L.map Rv.q) 0 (qah t 0 0) 0) ≤ 37000 := fun h => by
  obtain ⟨k1, k2, _⟩ := qex (her.trans h)
  have := (qbe (qds k1).1).2.1
  exact rl_sum (by omega) hsm (hlv k1)
 have HB0 := qHd her; have HA0 := qHd hA; clear hA
 obtain ⟨ap, cp, rfl, hcp, hcp2, _⟩ := hp.shape
 obtain ⟨nv, rfl, hn, hv, htp⟩ := hf
 obtain ⟨ao, c, rfl, hc, hc2, _⟩ := hn.shape
 have HF := qHd (show FmV w _ f from ⟨_, rfl, hn, hv, htp⟩)
 have HT := qHd ht; have HP := qHd hp
 obtain ⟨tv, tr, ta, tn, tc, rfl⟩ := ht.shape
 obtain ⟨W0, hW0⟩ : ∃ W, W = (w.alloc (.cells #[.int .i64 f.vars, .slice ao f.nodes.length c, .int .i64 f.top] 24)).alloc (.cells #[.int .i64 tv, .slice ta tn tc, .int .i64 tr] 27) := ⟨_, rfl⟩
 obtain ⟨W, hW⟩ : ∃ W, W = W0.alloc (.cells #[.bool false, .slice none 0 0, .slice none 0 0, .bool false, .slice none 0 0, .slice none 0 0] 56) := ⟨_, rfl⟩
 have hb0 : Below w.heap.size w W0 := by rw [hW0]; exact ((Below.refl _ _).alloc (Nat.le_refl _) _).alloc (by simp) _
 have hb1 : Below W0.heap.size W0 W := by rw [hW]; exact qBA _ _
 have hs0 : W0.heap.size = w.heap.size + 1 + 1 := by rw [hW0]; simp
 have hg3 : W.heap[w.heap.size]? = some (.cells #[.int .i64 f.vars, .slice ao f.nodes.length c, .int .i64 f.top] 24) := qaa (by rw [hW0]; exact heap_alloc2_old w _ _) hb1
 have hg5 : W.heap[w.heap.size + 1]? = some (.cells #[.int .i64 tv, .slice ta tn tc, .int .i64 tr] 27) := qaa (by rw [hW0]; exact heap_alloc2_new w _ _) hb1
 have hg6 : W.heap[w.heap.size + 1 + 1]? = some (.cells #[.bool false, .slice none 0 0, .slice none 0 0, .bool false, .slice none 0 0, .slice none 0 0] 56) := by rw [hW, ← hs0]; exact heap_alloc_new W0 _
 rw [hW0] at hW
 obtain ⟨g3, hG3⟩ : ∃ g, g = w.heap.size := ⟨_, rfl⟩
 obtain ⟨g5, hG5⟩ : ∃ g, g = w.heap.size + 1 := ⟨_, rfl⟩
 obtain ⟨g6, hG6⟩ : ∃ g, g = w.heap.size + 1 + 1 := ⟨_, rfl⟩
 rw [← hG3] at hg3; rw [← hG5] at hg5; rw [← hG6] at hg6
 have l6 : w.heap.size ≤ g6 := by omega
 have HBW := qHd (hb0.trans (hb1.mono hb0.size)); have G6 := qHd hg6
 obtain ⟨x0, x1, x2⟩ := qay hg3
 obtain ⟨y0, y1, y2⟩ := qay hg5
 rw [hW, hG3] at x0 x1 x2
 rw [hW, hG5] at y0 y1 y2
 have HK := qHd (sums_any _ _ _ f t L W (HF.out.below HBW.out) (HT.out.below HBW.out) (HP.out.below HBW.out) hsm hlv er her)
 clear hb0 hb1 hs0 hg3 hg5 hg6 hW0 hn hv htp ht hp hsm hlv her
 go_enter Tryz.func19, Tryz.ntmps19
 go_wp2_with (with_reducible refine qad ?_)
 rw [← hW, ← hG6, ← hG5, ← hG3]; clear hW hG3 hG5 hG6 x0 x1 x2 y0 y1 y2
 refine qap.mk ?_
 (with_reducible refine HK.out.mono ?_); rintro e w1 ⟨s0, s1, s2, o0, a0, o1, a1, o2, a2, n0, c0, m0, d0, n1, c1, m1, d1, n2, c2, m2, d2, vl, rfl, hb1, hr⟩
 obtain ⟨wa, hwa, hba, g8, hG8, hga⟩ := qBx5 w1 (.cells #[.bool false, .slice none 0 0, .slice none 0 0, .bool false, .slice none 0 0, .slice none 0 0, .bool false, .slice none 0 0, .slice none 0 0] 105)
 go_wp2_with (with_reducible refine qaf ?_)
 rw [← hwa, ← hG8]
 refine qan g8 0 [.bool s0, .slice o0 n0 c0, .slice a0 m0 d0, .bool s1, .slice o1 n1 c1, .slice a1 m1 d1, .bool s2, .slice o2 n2 c2, .slice a2 m2 d2] hga rfl rfl (Nat.le_of_ble_eq_true rfl) (by kernel_rfl) rfl ?_
 intro w2 hp2
 have ne68 : g6 ≠ g8 := by have := qaw G6.out; have := hb1.size; omega
 have l8 : w.heap.size ≤ g8 := by have := (HBW.out.trans (hb1.mono HBW.out.size)).size; omega
 have hb12 := hb1.trans (hba.mono hb1.size)
 have HBc := qHd (qbl hp2 (HBW.out.trans (hb12.mono HBW.out.size)) l8); have G6 := qHd (qbr hp2 (qaa G6.out hb12) ne68)
 have G8 := qHd (show w2.heap[g8]? = some (.cells #[.bool s0, .slice o0 n0 c0, .slice a0 m0 d0, .bool s1, .slice o1 n1 c1, .slice a1 m1 d1, .bool s2, .slice o2 n2 c2, .slice a2 m2 d2] 105) by rw [hp2]; exact putL_99 hga)
 have HR := qHd (show er = 0 → IsR w2 (.agg #[.bool s0, .slice o0 n0 c0, .slice a0 m0 d0]) (sumF (L.map Rv.q) 0 (qah t 0 0) 0) ∧ IsR w2 (.agg #[.bool s1, .slice o1 n1 c1, .slice a1 m1 d1]) (sumF (L.map Rv.q) 1 (qah t 0 0) 0) ∧ LfsV w2 vl (qah t 0 0) from fun h => ⟨qbq hp2 ((hr h).1.below hba) hga noW9, qbq hp2 ((hr h).2.1.below hba) hga noW9, putL_lfs hp2 ((hr h).2.2.2.below hba) hga noI9⟩)
 clear hwa hG8 hp2 hba hga hb1 hb12 hr HK
 by_cases h0 : er = 0
 ·subst h0
  have BV := qHd (show bndV f t L = (sumF (L.map Rv.q) 1 (qah t 0 0) 0, 1 - sumF (L.map Rv.q) 0 (qah t 0 0) 0) by unfold bndV; rw [if_pos HB0.out])
  obtain ⟨i0, i1, il⟩ := HR.out rfl
  have HA := qHd (HA0.out rfl)
  obtain ⟨A0, hA0⟩ : ∃ a, a = sumF (L.map Rv.q) 0 (qah t 0 0) 0 := ⟨_, rfl⟩
  obtain ⟨A1, hA1⟩ : ∃ a, a = sumF (L.map Rv.q) 1 (qah t 0 0) 0 := ⟨_, rfl⟩
  rw [← hA0] at i0 HA BV; rw [← hA1] at i1 BV
  have I0 := qHd i0; have I1 := qHd i1
  rw [qbi]
  clear i0 i1 il hA0 hA1 HR HA0 HB0
  go_wp2_with (with_reducible first | refine qad ?_ | refine qai ?_ | refine qaj ?_ | refine qak ?_ | refine qag ?_)
  refine qap.mk ?_
  refine qao (A := ?aa4) (w := w2) 6 [] (by kernel_rfl) (Fl [KEq (.pointer (some ⟨g8, 3, none⟩)), KEq (.agg #[.bool s1, .slice o1 n1 c1, .slice a1 m1 d1]), KIs 1, KEq (.pointer (some ⟨g8, 0, none⟩)), KEq (.agg #[.bool s0, .slice o0 n0 c0, .slice a0 m0 d0]), KIs (1 - A0)]) (fun i => false) (by kernel_rfl) ?hq4 (qcw (qae (kEq _) (qae (kEq _) (qae (kIs _) (qae (kEq _) (qae (kEq _) (qae (kIs _) qcv))))))) ?ha4 ?st4 ?tl4
  case hq4 =>
   intro c a d v w h
   first | (simp only [Exit.then] at h ⊢; exact h) | (simp only [Exit.inBlock, Exit.then] at h ⊢; exact h) | exact h
  case ha4 =>
   intro vals
   simp only [qba, qcd, if_true, Act.put, List.setIfInBounds_toArray, List.set_cons_zero, List.set_cons_succ, List.getElem?_toArray, List.getElem?_cons_zero, List.getElem?_cons_succ, Option.bind_some]
   exact rfl
  case st4 =>
   simp only [List.take_succ_cons, List.take_zero]
   refine qab rfl rfl ?_ (qab rfl rfl ?_ (qab rfl rfl ?_ (qab rfl rfl ?_ (qab rfl rfl ?_ (qab rfl rfl ?_ (qav))))))
   ·intro vals w1 hb hd
    refine qSv (.pointer (some ⟨g8, 3, none⟩)) (by go_simp) (qLk rfl rfl)
   ·intro vals w1 hb hd
    obtain ⟨e0, e1, e2, e3, e4, e5, e6, e7, e8⟩ := row9 (qaa G8.out hb)
    rw [show vals 0 = .pointer (some ⟨g8, 3, none⟩) from hd 0 (by kernel_rfl)]
    refine qSv (.agg #[.bool s1, .slice o1 n1 c1, .slice a1 m1 d1]) (by go_simp) (qLk rfl rfl)
   ·intro vals w1 hb hd
    have HS := qHd (ofq_any 1 w1 (by decide) (by decide))
    refine qat (by go_simp; first | done | exact ⟨⟨rfl, rfl⟩, rfl⟩) ?_
    (with_reducible refine HS.out.mono ?_); rintro e w2 ⟨v, rfl, hb2, hn⟩
    exact ⟨v, rfl, qar hb2 hn (fun h => by cases h)⟩
   ·intro vals w1 hb hd
    refine qSv (.pointer (some ⟨g8, 0, none⟩)) (by go_simp) (qLk rfl rfl)
   ·intro vals w1 hb hd
    obtain ⟨e0, e1, e2, e3, e4, e5, e6, e7, e8⟩ := row9 (qaa G8.out hb)
    rw [show vals 3 = .pointer (some ⟨g8, 0, none⟩) from hd 3 (by kernel_rfl)]
    refine qSv (.agg #[.bool s0, .slice o0 n0 c0, .slice a0 m0 d0]) (by go_simp) (qLk rfl rfl)
   ·intro vals w1 hb hd
    have d2 : KIs 1 (vals 2) w1 := hd 2 (by kernel_rfl)
    have HS := qHd (subq_any (vals 2) 1 _ A0 w1 (IsR.is d2 (by rw [rl_one]; decide)) ((I0.out.below hb).is (by have := HA.out; omega)))
    rw [show vals 4 = .agg #[.bool s0, .slice o0 n0 c0, .slice a0 m0 d0] from hd 4 (by kernel_rfl)]
    refine qat (by go_simp; first | done | exact ⟨⟨rfl, rfl⟩, rfl⟩) ?_
    (with_reducible refine HS.out.mono ?_); rintro e w2 ⟨v, rfl, hb2, hn⟩
    exact ⟨v, rfl, qar hb2 hn (fun h => by cases h)⟩
  case tl4 =>
   intro vals w3 hb3 hf hdis
   simp only [List.drop_succ_cons, List.drop_zero]
   have z1 : vals 1 = _ := hf 1 (by decide)
   obtain ⟨vm, hvm⟩ : ∃ u, u = vals 5 := ⟨_, rfl⟩
   have hn3 : IsR w3 (vals 5) (1 - A0) := hf 5 (by decide)
   rw [z1]
   rw [← hvm] at hn3 ⊢
   clear hf hdis hvm z1
   obtain ⟨sz, oz, nz, cz, az, mz, dz, rfl⟩ := hn3.shape
   have HBc := qHd (HBc.out.trans (hb3.mono HBc.out.size)); have G6 := qHd (qaa G6.out hb3); have I1 := qHd (I1.out.below hb3); have IM := qHd hn3
   clear hb3 hn3
   go_wp2_with (with_reducible refine qaf ?_)
   refine qan g6 0 [.bool s1, .slice o1 n1 c1, .slice a1 m1 d1, .bool sz, .slice oz nz cz, .slice az mz dz] G6.out rfl rfl (Nat.le_of_ble_eq_true rfl) (by kernel_rfl) rfl ?_
   intro wz hpz
   have GZ := qHd (show wz.heap[g6]? = some (.cells #[.bool s1, .slice o1 n1 c1, .slice a1 m1 d1, .bool sz, .slice oz nz cz, .slice az mz dz] 56) by rw [hpz]; exact putL_6 G6.out)
   have HBZ := qHd (qbl hpz HBc.out l6)
   have J1 := qHd (qbq hpz I1.out G6.out noW6); have JM := qHd (qbq hpz IM.out G6.out noW6)
   clear hpz
   go_wp2_with (with_reducible first | refine qad ?_ | refine qai ?_ | refine qaj ?_ | refine qak ?_ | refine qag ?_)
   refine ret_span2 rfl g6 _ _ _ _ _ _ rfl GZ.out rfl ?_
   exact ⟨_, rfl, HBZ.out, by rw [BV.out]; exact isSp_of J1.out JM.out⟩
 ·have BV := qHd (show bndV f t L = (0, 0) by unfold bndV; rw [if_neg (by rw [HB0.out]; exact h0)])
  rw [qbz h0]
  go_wp2_with (with_reducible refine qaf ?_)
  refine qan g6 0 [.bool false, .slice none 0 0, .slice none 0 0, .bool false, .slice none 0 0, .slice none 0 0] G6.out rfl rfl (Nat.le_of_ble_eq_true rfl) (by kernel_rfl) rfl ?_
  intro wz hpz
  have GZ := qHd (show wz.heap[g6]? = some (.cells #[.bool false, .slice none 0 0, .slice none 0 0, .bool false, .slice none 0 0, .slice none 0 0] 56) by rw [hpz]; exact putL_6 G6.out)
  have HBZ := qHd (qbl hpz HBc.out l6)
  clear hpz
  go_wp2_with (with_reducible first | refine qad ?_ | refine qai ?_ | refine qaj ?_ | refine qak ?_ | refine qag ?_)
  refine ret_span2 rfl g6 _ _ _ _ _ _ rfl GZ.out rfl ?_
  exact ⟨_, by rw [qbz h0]; rfl, HBZ.out, by rw [BV.out]; exact isSp_of (qdg _) (qdg _)⟩

def valC (f : Fm) (t : Tr) (L : List Rv) : Rat × Nat :=
 if sErr f t L ≠ 0 then (0, sErr f t L) else if ((qah t 0 0).any fun x => decide (x.reason = 2)) = true then (0, 18) else (sumF (L.map Rv.q) 1 (qah t 0 0) 0, 0)
theorem value_c (vf x v : Value) (f : Fm) (t : Tr) (L : List Rv) (w : World) (hf : FmV w vf f) (ht : TrV w x t) (hp : RvsV w v L) (hsm : ∀ r ∈ L, r.a.length ≤ 3 ∧ r.b.length ≤ 3 ∧ rl r.q ≤ 3) (hlv : cErr f t = 0 → (qah t 0 0).length ≤ 300) (er : Nat) (her : sErr f t L = er) :
  Calls Tryz.prog 22 #[vf, v, x] w (RetRE w (valC f t L).1 (errV (valC f t L).2)) := by
 have HB0 := qHd her
 obtain ⟨ap, cp, rfl, hcp, hcp2, _⟩ := hp.shape
 obtain ⟨nv, rfl, hn, hv, htp⟩ := hf
 obtain ⟨ao, c, rfl, hc, hc2, _⟩ := hn.shape
 have HF := qHd (show FmV w _ f from ⟨_, rfl, hn, hv, htp⟩)
 have HT := qHd ht; have HP := qHd hp
 obtain ⟨tv, tr, ta, tn, tc, rfl⟩ := ht.shape
 obtain ⟨W0, hW0⟩ : ∃ W, W = (w.alloc (.cells #[.int .i64 f.vars, .slice ao f.nodes.length c, .int .i64 f.top] 24)).alloc (.cells #[.int .i64 tv, .slice ta tn tc, .int .i64 tr] 27) := ⟨_, rfl⟩
 obtain ⟨W, hW⟩ : ∃ W, W = W0.alloc (.cells #[.bool false, .slice none 0 0, .slice none 0 0] 54) := ⟨_, rfl⟩
 have hb0 : Below w.heap.size w W0 := by rw [hW0]; exact ((Below.refl _ _).alloc (Nat.le_refl _) _).alloc (by simp) _
 have hb1 : Below W0.heap.size W0 W := by rw [hW]; exact qBA _ _
 have hs0 : W0.heap.size = w.heap.size + 1 + 1 := by rw [hW0]; simp
 have hg3 : W.heap[w.heap.size]? = some (.cells #[.int .i64 f.vars, .slice ao f.nodes.length c, .int .i64 f.top] 24) := qaa (by rw [hW0]; exact heap_alloc2_old w _ _) hb1
 have hg5 : W.heap[w.heap.size + 1]? = some (.cells #[.int .i64 tv, .slice ta tn tc, .int .i64 tr] 27) := qaa (by rw [hW0]; exact heap_alloc2_new w _ _) hb1
 have hg6 : W.heap[w.heap.size + 1 + 1]? = some (.cells #[.bool false, .slice none 0 0, .slice none 0 0] 54) := by rw [hW, ← hs0]; exact heap_alloc_new W0 _
 rw [hW0] at hW
 obtain ⟨g3, hG3⟩ : ∃ g, g = w.heap.size := ⟨_, rfl⟩
 obtain ⟨g5, hG5⟩ : ∃ g, g = w.heap.size + 1 := ⟨_, rfl⟩
 obtain ⟨g6, hG6⟩ : ∃ g, g = w.heap.size + 1 + 1 := ⟨_, rfl⟩
 rw [← hG3] at hg3; rw [← hG5] at hg5; rw [← hG6] at hg6
 have l6 : w.heap.size ≤ g6 := by omega
 have HBW := qHd (hb0.trans (hb1.mono hb0.size)); have G6 := qHd hg6
 obtain ⟨x0, x1, x2⟩ := qay hg3
 obtain ⟨y0, y1, y2⟩ := qay hg5
 rw [hW, hG3] at x0 x1 x2
 rw [hW, hG5] at y0 y1 y2
 have HK := qHd (sums_any _ _ _ f t L W (HF.out.below HBW.out) (HT.out.below HBW.out) (HP.out.below HBW.out) hsm hlv er her)
 clear hb0 hb1 hs0 hg3 hg5 hg6 hW0 hn hv htp ht hp hsm hlv her
 go_enter Tryz.func22, Tryz.ntmps22
 go_wp2_with (with_reducible refine qad ?_)
 rw [← hW, ← hG6, ← hG5, ← hG3]; clear hW hG3 hG5 hG6 x0 x1 x2 y0 y1 y2
 refine qap.mk ?_
 (with_reducible refine HK.out.mono ?_); rintro e w1 ⟨s0, s1, s2, o0, a0, o1, a1, o2, a2, n0, c0, m0, d0, n1, c1, m1, d1, n2, c2, m2, d2, vl, rfl, hb1, hr⟩
 obtain ⟨wa, hwa, hba, g8, hG8, hga⟩ := qBx5 w1 (.cells #[.bool false, .slice none 0 0, .slice none 0 0, .bool false, .slice none 0 0, .slice none 0 0, .bool false, .slice none 0 0, .slice none 0 0] 105)
 go_wp2_with (with_reducible refine qaf ?_)
 rw [← hwa, ← hG8]
 refine qan g8 0 [.bool s0, .slice o0 n0 c0, .slice a0 m0 d0, .bool s1, .slice o1 n1 c1, .slice a1 m1 d1, .bool s2, .slice o2 n2 c2, .slice a2 m2 d2] hga rfl rfl (Nat.le_of_ble_eq_true rfl) (by kernel_rfl) rfl ?_
 intro w2 hp2
 have ne68 : g6 ≠ g8 := by have := qaw G6.out; have := hb1.size; omega
 have l8 : w.heap.size ≤ g8 := by have := (HBW.out.trans (hb1.mono HBW.out.size)).size; omega
 have hb12 := hb1.trans (hba.mono hb1.size)
 have HBc := qHd (qbl hp2 (HBW.out.trans (hb12.mono HBW.out.size)) l8); have G6 := qHd (qbr hp2 (qaa G6.out hb12) ne68)
 have G8 := qHd (show w2.heap[g8]? = some (.cells #[.bool s0, .slice o0 n0 c0, .slice a0 m0 d0, .bool s1, .slice o1 n1 c1, .slice a1 m1 d1, .bool s2, .slice o2 n2 c2, .slice a2 m2 d2] 105) by rw [hp2]; exact putL_99 hga)
 have HR := qHd (show er = 0 → IsR w2 (.agg #[.bool s0, .slice o0 n0 c0, .slice a0 m0 d0]) (sumF (L.map Rv.q) 0 (qah t 0 0) 0) ∧ IsR w2 (.agg #[.bool s1, .slice o1 n1 c1, .slice a1 m1 d1]) (sumF (L.map Rv.q) 1 (qah t 0 0) 0) ∧ LfsV w2 vl (qah t 0 0) from fun h => ⟨qbq hp2 ((hr h).1.below hba) hga noW9, qbq hp2 ((hr h).2.1.below hba) hga noW9, putL_lfs hp2 ((hr h).2.2.2.below hba) hga noI9⟩)
 clear hwa hG8 hp2 hba hga hb1 hb12 hr HK
 by_cases h0 : er = 0
 ·subst h0
  obtain ⟨i0, i1, il⟩ := HR.out rfl
  have I1 := qHd i1
  obtain ⟨al, cl, rfl, hcl, hcl2, _⟩ := il.shape
  obtain ⟨ls, hls⟩ : ∃ ls, ls = qah t 0 0 := ⟨_, rfl⟩
  have VC := qHd (show valC f t L = if (ls.any fun x => decide (x.reason = 2)) = true then (0, 18) else (sumF (L.map Rv.q) 1 ls 0, 0) by unfold valC; rw [if_neg (by rw [HB0.out]; exact fun h => h rfl), ← hls])
  rw [← hls] at il I1 hcl ⊢
  have HL := qHd il
  rw [qbi]
  clear i0 i1 il hls HR HB0
  go_wp2_with fail
  go_loopw [27] (fun i' wx => ∃ q : Nat, q ≤ ls.length ∧ i' = .int .i64 q ∧ Hid (Below w2.heap.size w2 wx) ∧ Hid (∀ z ∈ ls.take q, decide (z.reason = 2) = false)) (fun i' _ => ls.length - (intOf i').toNat)
  case atStart => exact ⟨0, Nat.zero_le _, rfl, qHd (Below.refl _ _), qHd (by simp)⟩
  case round =>
   obtain ⟨q, hq, rfl, BX, PR⟩ := hrel
   obtain ⟨wo, rfl⟩ : ∃ wo : World, wo = wr := ⟨_, rfl⟩
   have HBc := qHd (HBc.out.trans (BX.out.mono HBc.out.size)); have G6 := qHd (qaa G6.out BX.out); have G8 := qHd (qaa G8.out BX.out)
   have I1 := qHd (I1.out.below BX.out)
   by_cases hlt : q < ls.length
   ·obtain ⟨z, hz⟩ : ∃ z, ls[q]? = some z := ⟨ls[q], List.getElem?_eq_getElem hlt⟩
    obtain ⟨bl, ol, rfl, hbl, hjk, hat⟩ := (HL.out.below BX.out).at (by omega); clear hjk
    obtain ⟨c0', c1', c2'⟩ := hat q z hz
    have HZ := qHd hz
    clear hat hz
    obtain ⟨zy, zn, zr⟩ := z
    simp only at c0' c1' c2'
    have hltz : (q : Int) < (ls.length : Int) := by omega
    obtain ⟨wa, hwa, hba, gL, hGL, hga⟩ := qBx5 wo (.cells #[.int .i64 0, .int .i64 0, .int .i64 0] 48)
    go_wp2_with (with_reducible refine qaf ?_)
    rw [← hwa, ← hGL]
    refine qan gL 0 [.int .i64 (zy : Nat), .int .i64 (zn : Nat), .int .i64 zr] hga rfl rfl (Nat.le_of_ble_eq_true rfl) (by kernel_rfl) rfl ?_
    intro w4 hp4
    have neL : g6 ≠ gL := by have := qaw G6.out; omega
    have BX4 := qHd (qbl hp4 (BX.out.trans (hba.mono BX.out.size)) (by have := BX.out.size; omega)); have HBc := qHd (qbl hp4 (HBc.out.trans (hba.mono HBc.out.size)) (by have := HBc.out.size; omega)); have G6 := qHd (qbr hp4 (qaa G6.out hba) neL)
    have GL := qHd (show w4.heap[gL]? = some (.cells #[.int .i64 (zy : Nat), .int .i64 (zn : Nat), .int .i64 zr] 48) by rw [hp4]; exact qbd hga)
    obtain ⟨l0, l1, l2⟩ := qay GL.out
    clear hwa hGL hba hga hp4 c0' c1' c2'
    by_cases hr2 : zr = 2
    ·have R := qHd (show valC f t L = (0, 18) by rw [VC.out, if_pos (List.any_eq_true.2 ⟨_, List.mem_of_getElem? HZ.out, by simp [hr2]⟩)])
     subst hr2
     go_wp2_with (with_reducible refine qaf ?_)
     refine qan g6 0 [.bool false, .slice none 0 0, .slice none 0 0] G6.out rfl rfl (Nat.le_of_ble_eq_true rfl) (by kernel_rfl) rfl ?_
     intro wz hpz
     have GZ := qHd (show wz.heap[g6]? = some (.cells #[.bool false, .slice none 0 0, .slice none 0 0] 54) by rw [hpz]; exact qbd G6.out)
     have HBZ := qHd (qbl hpz HBc.out l6)
     clear hpz
     go_wp2_with (with_reducible first | refine qad ?_ | refine qai ?_ | refine qaj ?_ | refine qak ?_ | refine qag ?_)
     refine qft rfl g6 _ _ _ rfl GZ.out rfl ?_
     exact ⟨_, by rw [R.out]; rfl, HBZ.out, by rw [R.out]; exact qdg _⟩
    ·go_wp2_with fail
     go_roundw
     case rel => exact ⟨q + 1, by omega, by go_num, qHd BX4.out, qHd (fun z hz => by
      rw [qen HZ.out] at hz
      rcases List.mem_append.1 hz with hz | hz
      ·exact PR.out z hz
      ·rw [List.mem_singleton] at hz; subst hz; exact decide_eq_false hr2)⟩
     case measure => simp [intOf]; omega
   ·have hq' : q = ls.length := by omega
    subst hq'
    have PR2 := PR.out
    rw [List.take_length] at PR2
    have R := qHd (show valC f t L = (sumF (L.map Rv.q) 1 ls 0, 0) by rw [VC.out, if_neg (by intro hh; obtain ⟨z, h1, h2⟩ := List.any_eq_true.1 hh; rw [PR2 z h1] at h2; cases h2)])
    obtain ⟨z0, z1, z2, z3, z4, z5, z6, z7, z8⟩ := row9 G8.out
    go_wp2_with (with_reducible refine qaf ?_)
    refine qan g6 0 [.bool s1, .slice o1 n1 c1, .slice a1 m1 d1] G6.out rfl rfl (Nat.le_of_ble_eq_true rfl) (by kernel_rfl) rfl ?_
    intro wz hpz
    have GZ := qHd (show wz.heap[g6]? = some (.cells #[.bool s1, .slice o1 n1 c1, .slice a1 m1 d1] 54) by rw [hpz]; exact qbd G6.out)
    have HBZ := qHd (qbl hpz HBc.out l6)
    have J1 := qHd (qbq hpz I1.out G6.out noW3)
    clear hpz
    go_wp2_with (with_reducible first | refine qad ?_ | refine qai ?_ | refine qaj ?_ | refine qak ?_ | refine qag ?_)
    refine qft rfl g6 _ _ _ rfl GZ.out rfl ?_
    exact ⟨_, by rw [R.out]; rfl, HBZ.out, by rw [R.out]; exact J1.out⟩
 ·have R := qHd (show valC f t L = (0, er) by unfold valC; rw [if_pos (by rw [HB0.out]; exact h0), HB0.out])
  rw [qbz h0]
  go_wp2_with (with_reducible refine qaf ?_)
  refine qan g6 0 [.bool false, .slice none 0 0, .slice none 0 0] G6.out rfl rfl (Nat.le_of_ble_eq_true rfl) (by kernel_rfl) rfl ?_
  intro wz hpz
  have GZ := qHd (show wz.heap[g6]? = some (.cells #[.bool false, .slice none 0 0, .slice none 0 0] 54) by rw [hpz]; exact qbd G6.out)
  have HBZ := qHd (qbl hpz HBc.out l6)
  clear hpz
  go_wp2_with (with_reducible first | refine qad ?_ | refine qai ?_ | refine qaj ?_ | refine qak ?_ | refine qag ?_)
  refine qft rfl g6 _ _ _ rfl GZ.out rfl ?_
  exact ⟨_, by rw [R.out, qbz h0]; rfl, HBZ.out, by rw [R.out]; exact qdg _⟩
section
variable {P : Program} {ops : Array Oper} {md : Region.Mode}
structure DrawInvG (md : Region.Mode) (ops : Array Oper) (n : Nat) (F : Nat → Value → World → Prop) (AL : Nat → Bool) (Ac : Bool → World → Prop) (sp : Nat) (a0 : Act) (listed : Array Bool) (a : Act) (w : World) : Prop where
 head : HeadInv md ops n listed
 acc : Ac (listed.getD sp false) w
 vals : ∃ vals : Nat → Value, a = qba ops (fun j => listed.getD j false) vals a0 n ∧ (∀ j, j < n → listed.getD j false = true → F j (vals j) w) ∧
  (∀ j, j < n → listed.getD j false = true → AL j = true → ∃ g, vals j = .pointer (some ⟨g, 0, none⟩) ∧ g < w.heap.size) ∧
  (∀ j k, j < n → k < n → j ≠ k → listed.getD j false = true → listed.getD k false = true → AL j = true → AL k = true → vals j ≠ vals k)

def LeavesG (F : Nat → Value → World → Prop) (AL : Nat → Bool) (Ac : Bool → World → Prop) (sp i : Nat) (b : Bool) (w1 : World) (v : Value) (w2 : World) : Prop :=
 w1.heap.size ≤ w2.heap.size ∧ (∀ j u, j ≠ i → F j u w1 → F j u w2) ∧ Ac (b || i == sp) w2 ∧ F i v w2 ∧ (AL i = true → v = .pointer (some ⟨w1.heap.size, 0, none⟩) ∧ w1.heap.size < w2.heap.size)
theorem leavesG_mk {F : Nat → Value → World → Prop} {AL : Nat → Bool} {Ac : Bool → World → Prop} {sp i : Nat} {b : Bool} {w1 w2 : World} {v : Value} (hM : ∀ j v w1 w2, F j v w1 → Below w1.heap.size w1 w2 → F j v w2) (hAM : ∀ b w1 w2, Ac b w1 → Below w1.heap.size w1 w2 → Ac b w2) (hi : (i == sp) = false) (hac : Ac b w1)
  (hb : Below w1.heap.size w1 w2) (hf : F i v w2) (hal : AL i = true → v = .pointer (some ⟨w1.heap.size, 0, none⟩) ∧ w1.heap.size < w2.heap.size) : LeavesG F AL Ac sp i b w1 v w2 :=
 ⟨hb.size, fun j u _ h => hM j u w1 w2 h hb, by rw [hi, Bool.or_false]; exact hAM b w1 w2 hac hb, hf, hal⟩
theorem qLg {F : Nat → Value → World → Prop} {AL : Nat → Bool} {Ac : Bool → World → Prop} {sp i : Nat} {b : Bool} {w1 : World} {v : Value} (hM : ∀ j v w1 w2, F j v w1 → Below w1.heap.size w1 w2 → F j v w2) (hAM : ∀ b w1 w2, Ac b w1 → Below w1.heap.size w1 w2 → Ac b w2) (hi : (i == sp) = false) (hac : Ac b w1)
    (hf : F i v w1) (h : AL i = false) : LeavesG F AL Ac sp i b w1 v w1 := leavesG_mk hM hAM hi hac (Below.refl _ _) hf (fun k => by rw [h] at k; cases k)
theorem DrawInvG.next {n i : Nat} {oi : Oper} {fl : List Nat} {F : Nat → Value → World → Prop} {AL : Nat → Bool} {Ac : Bool → World → Prop} {sp : Nat} {w w' : World} {a0 a : Act} {listed : Array Bool} {v : Value} (hB : headB md ops fl n = true)
  (inv : DrawInvG md ops n F AL Ac sp a0 listed a w) (hi : i ∈ Region.ready md ops listed) (hin : i < n) (hoi : ops[i]? = some oi)
  (h : LeavesG F AL Ac sp i (listed.getD sp false) w v w') : DrawInvG md ops n F AL Ac sp a0 (listed.setIfInBounds i true) (a.put oi.dst v) w' := by
 obtain ⟨hiu, oi', hoi', hdeps⟩ := mem_ready.1 hi
 have : oi' = oi := Option.some.inj (hoi'.symm.trans hoi)
 subst this
 have hiu' := getD_both hiu
 have ok := headB_ok hB hin hoi
 have his : i < listed.size := by rw [inv.head.size]; exact (Array.getElem?_eq_some_iff.1 hoi).1
 have hdst : qcd ops i = oi'.dst := by unfold qcd; rw [hoi]; rfl
 obtain ⟨vals, rfl, hv, hg, hd⟩ := inv.vals
 obtain ⟨hb, hsv, hacc, hf, hal⟩ := h
 have hAcc : Ac ((listed.setIfInBounds i true).getD sp false) w' := by
  by_cases hs : i = sp
  ·subst hs
   have : (listed.setIfInBounds i true).getD i false = true := by simp [his]
   rw [this]; simpa using hacc
  ·rw [getD_set_ne false hs]
   have : (i == sp) = false := by simpa using hs
   rw [this, Bool.or_false] at hacc; exact hacc
 refine ⟨inv.head.set hi hin, hAcc, fun j => if j = i then v else vals j, ?_, ?_, ?_, ?_⟩
 ·rw [← hdst, ← putsTo_set hiu' n hin (fun j hj hji => by rw [hdst]; exact ok.dst j hj hji)]
  refine putsTo_congr fun j hj => ⟨?_, fun _ => rfl⟩
  by_cases hji : j = i
  ·subst hji; rw [if_pos rfl]; simp [his]
  ·rw [if_neg hji, getD_set_ne false (Ne.symm hji)]
 ·intro j hj hl
  show F j (if j = i then v else vals j) w'
  by_cases hji : j = i
  ·subst hji; rw [if_pos rfl]; exact hf
  ·rw [if_neg hji]
   rw [getD_set_ne false (Ne.symm hji)] at hl
   exact hsv _ _ hji (hv j hj hl)
 ·intro j hj hl aj
  show ∃ g, (if j = i then v else vals j) = _ ∧ _
  by_cases hji : j = i
  ·subst hji; rw [if_pos rfl]
   obtain ⟨e1, e2⟩ := hal aj
   exact ⟨_, e1, e2⟩
  ·rw [if_neg hji]
   rw [getD_set_ne false (Ne.symm hji)] at hl
   obtain ⟨g, e1, e2⟩ := hg j hj hl aj
   exact ⟨g, e1, Nat.lt_of_lt_of_le e2 hb⟩
 ·intro j k' hj hk' hjk hl hl' aj ak
  show (if j = i then v else vals j) ≠ (if k' = i then v else vals k')
  by_cases hji : j = i
  ·subst hji
   have hki : k' ≠ j := fun e => hjk e.symm
   rw [if_pos rfl, if_neg hki]
   rw [getD_set_ne false (Ne.symm hki)] at hl'
   obtain ⟨e1, e2⟩ := hal aj
   obtain ⟨g, e3, e4⟩ := hg k' hk' hl' ak
   rw [e1, e3]
   intro h
   cases h; omega
  ·rw [if_neg hji]
   rw [getD_set_ne false (Ne.symm hji)] at hl
   by_cases hki : k' = i
   ·subst hki
    rw [if_pos rfl]
    obtain ⟨e1, e2⟩ := hal ak
    obtain ⟨g, e3, e4⟩ := hg j hj hl aj
    rw [e1, e3]
    intro h
    cases h; omega
   ·rw [if_neg hki]
    rw [getD_set_ne false (Ne.symm hki)] at hl'
    exact hd j k' hj hk' hjk hl hl' aj ak

theorem wpAny_of_factsG {n : Nat} {fl : List Nat} {Q : Exit → Act → World → Prop} {F : Nat → Value → World → Prop} {AL : Nat → Bool} {Ac : Bool → World → Prop} {sp : Nat} {a0 : Act} (hB : headB md ops fl n = true)
  (hQ : ∀ c (a : Act) (d : Tmp) v w, Q (.panic c) (a.put (some d) v) w → Q (.panic c) a w)
  (hstep : ∀ i o, i < n → ops[i]? = some o → ∀ (vals : Nat → Value) (w1 : World) (b : Bool), (i = sp → b = false) → Ac b w1 → (∀ j, Region.waitsFor md ops i j = true → F j (vals j) w1) →
   if fl.contains i then StepPure P o (qba ops (fun _ => true) vals a0 n) (fun v => LeavesG F AL Ac sp i b w1 v w1) else StepG P ops o (qba ops (fun _ => true) vals a0 n) w1 (LeavesG F AL Ac sp i b w1))
  (hsp : sp < n) (hend : ∀ (vals : Nat → Value) (w1 : World), Ac true w1 → (∀ i, i < n → F i (vals i) w1) → (∀ i j, i < n → j < n → i ≠ j → AL i = true → AL j = true → vals i ≠ vals j) →
   wpList P ops Q (ops.toList.drop n) (qba ops (fun _ => true) vals a0 n) w1) :
  ∀ (m : Nat) (listed : Array Bool) (a : Act) (w : World), unl listed n = m → DrawInvG md ops n F AL Ac sp a0 listed a w → wpAny P md ops Q (m + (ops.size - n)) listed a w := by
 have hB' := hB
 unfold headB at hB'
 simp only [Bool.and_eq_true, decide_eq_true_eq] at hB'
 obtain ⟨⟨⟨⟨⟨hsel, hn⟩, ⟨hs, hfb⟩, hfn⟩, hc⟩, _⟩, hseq⟩ := hB'
 intro m
 induction m with
 | zero =>
  intro listed a w hm inv
  have hall := unl_zero n hm
  obtain ⟨vals, rfl, hv, _, hd⟩ := inv.vals
  have hl : listed = (Array.range ops.size).map fun i => decide (i < n) := by
   apply Array.ext
   ·simp [inv.head.size]
   ·intro j h1 h2
    simp only [Array.getElem_map, Array.getElem_range]
    by_cases hj : j < n
    ·have := hall j hj
     simp [h1] at this; rw [this, decide_eq_true hj]
    ·have hjs : j < ops.size := by rw [← inv.head.size]; exact h1
     have := inv.head.tail j (by omega) hjs
     simp [h1] at this; rw [this, decide_eq_false hj]
  have hend' := hend vals w (by have := inv.acc; rwa [hall sp hsp] at this) (fun i hi => hv i hi (hall i hi)) (fun i j hi hj hij ai aj => hd i j hi hj hij (hall i hi) (hall j hj) ai aj)
  rw [putsTo_congr (l' := fun _ => true) (v' := vals) (fun j hj => ⟨hall j hj, fun _ => rfl⟩)]
  rw [Nat.zero_add]
  have hlen : (ops.toList.drop n).length = ops.size - n := by simp
  have := wpAny_of_seq (P := P) (md := md) (Q' := Q) (ops.toList.drop n) n listed (qba ops (fun _ => true) vals a0 n) w (fun j => by simp [List.getElem?_drop]) (by rw [hlen, hl]; exact hseq) hend'
  rwa [hlen] at this
 | succ m ih =>
  intro listed a w hm inv
  have step : ∀ i oi, i ∈ Region.ready md ops listed → i < n → ops[i]? = some oi →
    (execOp a.eval oi = execOp (qba ops (fun _ => true) (Classical.choose inv.vals) a0 n).eval oi ∧ Region.wanted oi (yielded ops a.tmps) = Region.wanted oi (yielded ops (qba ops (fun _ => true) (Classical.choose inv.vals) a0 n).tmps)) ∧ (∀ j, Region.waitsFor md ops i j = true → F j (Classical.choose inv.vals j) w) ∧ unl (listed.setIfInBounds i true) n = m := by
   intro i oi hi hin hoi
   obtain ⟨ha, hv, _, _⟩ := Classical.choose_spec inv.vals
   obtain ⟨hiu, oi', hoi', hdeps⟩ := mem_ready.1 hi
   have : oi' = oi := Option.some.inj (hoi'.symm.trans hoi)
   subst this
   have ok := headB_ok hB hin hoi
   have his : i < listed.size := by rw [inv.head.size]; exact (Array.getElem?_eq_some_iff.1 hoi).1
   have hwl : ∀ j, Region.waitsFor md ops i j = true → listed.getD j false = true := fun j hj => by
    obtain ⟨o', ho', e, he, hb, hon⟩ := Region.waitsFor_spec hj
    have : o' = oi' := Option.some.inj (ho'.symm.trans hoi)
    subst this
    rw [← hon]; exact hdeps e he hb
   have hwn : ∀ j, Region.waitsFor md ops i j = true → j < n := fun j hj => by
    obtain ⟨o', ho', e, he, hb, hon⟩ := Region.waitsFor_spec hj
    have : o' = oi' := Option.some.inj (ho'.symm.trans hoi)
    subst this
    have := ok.early e he hb; omega
   refine ⟨?_, fun j hj => hv j (hwn j hj) (hwl j hj), by have := unl_set his (getD_both hiu) n hin; omega⟩
   have e := execOp_congr oi' (ρ := (qba ops (fun j => listed.getD j false) (Classical.choose inv.vals) a0 n).eval) (ρ' := (qba ops (fun _ => true) (Classical.choose inv.vals) a0 n).eval) (fun cs b => Region.noSelect_spec hsel i oi' cs b hoi)
    fun x hx => (putsTo_eval n (fun t ht j hj hdj => hwl j (ok.reads x hx t ht j hj hdj))).1
   have e2 := putsTo_wanted (ops := ops) (l := fun j => listed.getD j false) (vals := Classical.choose inv.vals) (a := a0) (o := oi') n (fun g b hg t ht j hj hdj => by
    obtain ⟨hgn, hw⟩ := ok.guard g b hg
    by_cases hjg : j = g
    ·subst hjg; exact hwl _ hw
    ·exfalso
     have hgs : g < ops.size := by omega
     have okg := headB_ok hB hgn (Array.getElem?_eq_getElem hgs)
     refine okg.dst j hj hjg t ?_ hdj
     unfold qcd at ht
     rw [Array.getElem?_eq_getElem hgs] at ht; exact ht)
   rw [← ha] at e e2; exact ⟨e, e2⟩
  obtain ⟨k, hk, hku, hkl⟩ := unl_first (listed := listed) n (by omega)
  have hks : k < listed.size := by rw [inv.head.size]; omega
  have hkt := getD_in hks hku
  have hready : k ∈ Region.ready md ops listed := by
   rw [mem_ready]
   refine ⟨hkt, ops[k]'(by omega), by rw [Array.getElem?_eq_getElem], fun e he hb => ?_⟩
   exact hkl _ ((headB_ok hB hk (Array.getElem?_eq_getElem (by omega))).early e he hb)
  rw [show m + 1 + (ops.size - n) = (m + (ops.size - n)) + 1 by omega]
  by_cases hfl : ∃ i, i < n ∧ i ∈ Region.ready md ops listed ∧ fl.contains i = true
  ·obtain ⟨i, hin, hi, hif⟩ := hfl
   obtain ⟨_, oi, hoi, _⟩ := mem_ready.1 hi
   obtain ⟨he, hdp, hu⟩ := step i oi hi hin hoi
   have st := hstep i oi hin hoi (Classical.choose inv.vals) w (listed.getD sp false) (fun e => by subst e; exact getD_both (mem_ready.1 hi).1) inv.acc hdp
   rw [if_pos hif] at st
   obtain ⟨v, hv, hL⟩ := st
   have hfi := List.all_eq_true.1 hfb i (by simpa using hif)
   rw [hoi] at hfi
   simp only [Bool.and_eq_true] at hfi
   obtain ⟨hgn, hfi⟩ := hfi
   have hgn : oi.guard = none := by simpa using hgn
   refine wpAny_first hoi (Region.noSelect_spec hsel) (fun c a w h => by
    cases hd : oi.dst with
    | none => rw [hd] at h; exact h
    | some d => rw [hd] at h; exact hQ c a d v w h) _ listed a w ?_ hi (.inl ⟨by simp [Region.wanted, hgn], fun w' => by rw [he.1]; exact hv w'⟩) (ih _ _ _ hu (inv.next hB hi hin hoi hL))
   intro j oj hj hji hun hno
   have h1 := List.all_eq_true.1 hfi j (List.mem_range.2 (Array.getElem?_eq_some_iff.1 hj).1)
   rw [hj] at h1
   simp only [Bool.or_eq_true, beq_iff_eq, hji, false_or] at h1
   rcases h1 with (h1 | h1) | h1
   ·obtain ⟨o', ho', e, he, hb, hon⟩ := Region.waitsFor_spec h1
    have : o' = oj := Option.some.inj (ho'.symm.trans hj)
    subst this
    exact absurd hon (hno e he hb)
   ·obtain ⟨o', ho', e, he, hb, hon⟩ := Region.waitsFor_spec h1
    obtain ⟨_, o2, ho2, hall⟩ := mem_ready.1 hi
    have : o' = o2 := Option.some.inj (ho'.symm.trans ho2)
    subst this
    have := hall e he hb
    rw [hon, getD_both hun] at this; cases this
   ·exact h1
  ·have hkf : fl.contains k = false := by
    cases h : fl.contains k with
    | false => rfl
    | true => exact absurd ⟨k, hk, hready, h⟩ hfl
   refine ⟨fun h0 => (by rw [h0] at hready; cases hready), fun i hi => ?_⟩
   have hin : i < n := by
    rcases Nat.lt_or_ge i n with h | h
    ·exact h
    ·exact absurd hi (tail_waitsF hs hc hn inv.head _ k rfl hk hkf hkt i h)
   obtain ⟨_, oi, hoi, _⟩ := mem_ready.1 hi
   obtain ⟨he, hdp, hu⟩ := step i oi hi hin hoi
   have st := hstep i oi hin hoi (Classical.choose inv.vals) w (listed.getD sp false) (fun e => by subst e; exact getD_both (mem_ready.1 hi).1) inv.acc hdp
   rw [if_neg (fun h => hfl ⟨i, hin, hi, h⟩)] at st
   refine wpOp_of_stepG hoi he.2 he.1 st ?_
   intro v w' hL
   exact ih _ _ _ hu (inv.next hB hi hin hoi hL)

def stepsOKG (P : Program) (md : Region.Mode) (ops : Array Oper) (fl : List Nat) (F : Nat → Value → World → Prop) (AL : Nat → Bool) (Ac : Bool → World → Prop) (sp : Nat) (A : (Nat → Value) → Act) : List Oper → Nat → Prop
 | [], _ => True
 | o :: l, i => (∀ (vals : Nat → Value) (w1 : World) (b : Bool), (i = sp → b = false) → Ac b w1 → (∀ j, Region.waitsFor md ops i j = true → F j (vals j) w1) →
   if fl.contains i then StepPure P o (A vals) (fun v => LeavesG F AL Ac sp i b w1 v w1) else StepG P ops o (A vals) w1 (LeavesG F AL Ac sp i b w1)) ∧
  stepsOKG P md ops fl F AL Ac sp A l (i + 1)
theorem stepsOKG_at {fl : List Nat} {F : Nat → Value → World → Prop} {AL : Nat → Bool} {Ac : Bool → World → Prop} {sp : Nat} {A : (Nat → Value) → Act} : ∀ (l : List Oper) (i : Nat), stepsOKG P md ops fl F AL Ac sp A l i → ∀ k o, l[k]? = some o →
  ∀ (vals : Nat → Value) (w1 : World) (b : Bool), (i + k = sp → b = false) → Ac b w1 → (∀ j, Region.waitsFor md ops (i + k) j = true → F j (vals j) w1) →
   if fl.contains (i + k) then StepPure P o (A vals) (fun v => LeavesG F AL Ac sp (i + k) b w1 v w1) else StepG P ops o (A vals) w1 (LeavesG F AL Ac sp (i + k) b w1)
 | [], _, _, k, o, h => by simp at h
 | x :: l, i, hs, 0, o, h => by
  simp at h; subst h
  exact hs.1
 | x :: l, i, hs, k + 1, o, h => by
  have := stepsOKG_at l (i + 1) hs.2 k o (by simpa using h)
  rw [show i + 1 + k = i + (k + 1) by omega] at this
  exact this
theorem wp_region_factsG {id : Nat} {Q : Exit → Act → World → Prop} {a : Act} {w : World} {l : List Oper} {A : (Nat → Value) → Act} (n : Nat) (fl : List Nat) (hm : P.follows .mixedOrders = true) (F : Nat → Value → World → Prop) (AL : Nat → Bool) (Ac : Bool → World → Prop) (sp : Nat) (hsp : sp < n) (h0 : Ac false { w with drawn := w.drawn + 1 })
  (hB : headB .any l.toArray fl n = true)
  (hQ : ∀ c (a : Act) (d : Tmp) v w, Q (.panic c) (a.put (some d) v) w → Q (.panic c) a w)
  (hA : ∀ vals : Nat → Value, qba l.toArray (fun _ => true) vals a n = A vals)
  (hstep : stepsOKG P .any l.toArray fl F AL Ac sp A (l.take n) 0)
  (hend : ∀ (vals : Nat → Value) (w1 : World), Ac true w1 → (∀ i, i < n → F i (vals i) w1) → (∀ i j, i < n → j < n → i ≠ j → AL i = true → AL j = true → vals i ≠ vals j) →
   wpList P l.toArray Q (l.drop n) (A vals) w1) : (Code.region id l.toArray true).wp P Q a w := by
 refine wp_region_any hm ?_
 have hB' := hB
 unfold headB at hB'
 simp only [Bool.and_eq_true, decide_eq_true_eq] at hB'
 have hn : n < l.toArray.size := hB'.1.1.1.1.2
 have hu : ∀ k, unl (Array.replicate l.toArray.size false) k = k := fun k => by
  induction k with
  | zero => rfl
  | succ k ih => unfold unl; rw [ih, getD_replicate_false]; rfl
 have key := wpAny_of_factsG (P := P) (Q := Q) (F := F) (AL := AL) (Ac := Ac) (sp := sp) (a0 := a) hB hQ (fun i o hi ho vals w1 b hs hb hd => by
   have := stepsOKG_at (l.take n) 0 hstep i o (by
    rw [List.getElem?_take, if_pos hi]; simpa using ho)
   rw [Nat.zero_add] at this; rw [hA]; exact this vals w1 b hs hb hd) hsp (fun vals w1 hb hf hd => by rw [hA]; simpa using hend vals w1 hb hf hd) n (Array.replicate l.toArray.size false) a { w with drawn := w.drawn + 1 } (hu n)
  ⟨⟨by simp, fun j oj _ hl => (by rw [getD_replicate_false] at hl; cases hl), fun t _ ht => getD_in (by simpa using ht) (getD_replicate_false _ _)⟩,
   by rw [getD_replicate_false]; exact h0, fun _ => undef, by
    have : ∀ k, qba l.toArray (fun j => (Array.replicate l.toArray.size false).getD j false) (fun _ => undef) a k = a := fun k => by
     induction k with
     | zero => rfl
     | succ k ih => unfold qba; rw [if_neg (by rw [getD_replicate_false]; decide), ih]
    exact (this n).symm, fun j _ hl => (by rw [getD_replicate_false] at hl; cases hl), fun j _ hl => (by rw [getD_replicate_false] at hl; cases hl), fun j _ _ _ _ hl => (by rw [getD_replicate_false] at hl; cases hl)⟩
 rw [show n + (l.toArray.size - n) = l.toArray.size by omega] at key
 exact key
section
variable {fl : List Nat} {F : Nat → Value → World → Prop} {AL : Nat → Bool} {Ac : Bool → World → Prop} {sp : Nat} {A : (Nat → Value) → Act} {i : Nat} {o : Oper} {l : List Oper}
theorem stepsOKG_nil : stepsOKG P md ops fl F AL Ac sp A [] i := trivial
theorem qbb (hi : fl.contains i = false) (hg : o.guard = none)
  (h : ∀ (vals : Nat → Value) (w1 : World) (b : Bool), (i = sp → b = false) → Ac b w1 → (∀ j, Region.waitsFor md ops i j = true → F j (vals j) w1) → StepOK P o (A vals) w1 (LeavesG F AL Ac sp i b w1))
  (hl : stepsOKG P md ops fl F AL Ac sp A l (i + 1)) : stepsOKG P md ops fl F AL Ac sp A (o :: l) i := ⟨fun vals w1 b hs hb hd => by rw [if_neg (by rw [hi]; decide)]; unfold StepG; rw [if_pos (by simp [Region.wanted, hg])]; exact h vals w1 b hs hb hd, hl⟩
theorem stepsOKG_pure (hi : fl.contains i = true)
  (h : ∀ (vals : Nat → Value) (w1 : World) (b : Bool), (i = sp → b = false) → Ac b w1 → (∀ j, Region.waitsFor md ops i j = true → F j (vals j) w1) → StepPure P o (A vals) (fun v => LeavesG F AL Ac sp i b w1 v w1))
  (hl : stepsOKG P md ops fl F AL Ac sp A l (i + 1)) : stepsOKG P md ops fl F AL Ac sp A (o :: l) i := ⟨fun vals w1 b hs hb hd => by rw [if_pos hi]; exact h vals w1 b hs hb hd, hl⟩
end
end
end Go.Proofs.YthhgfhdmfhnklaaGreatDoor
