/-
  What the law leans on, one text behind the other (the base).
  Conditions: each theorem's own.
-/
import Derived.Test.YteadcgmaailjlaaGreatDoorME2
set_option maxRecDepth 100000
set_option maxHeartbeats 16000000
namespace Go.Proofs.YteadcgmaailjlaaGreatDoor
open Go.RowKit Go.ChangeShapes Go.WideShapes
section
variable {w w' w0 : World} {B gm V : Nat} {X Y Z : List Nat} {v v' : Value} {out : List Nd} {full : Bool}
theorem Mk.step (h : Mk w B X gm v V out full) (e : Exc w w' Z) (hZ : ∀ g ∈ Z, g ∈ X ∨ g < B) (hm : gm ∉ Z) (hs : ∀ g ∈ Y, g ∈ X ∨ (w.heap.size ≤ g ∧ g < w'.heap.size)) (hY : gm ∈ Y) : Mk w' B Y gm v V out full := by
 have h1 : NdL w B (X ++ Y) v out := h.nds.sub (fun g hg => by
  rcases List.mem_append.1 hg with q | q
  ·exact .inl q
  ·rcases hs g q with r | r
   ·exact .inl r
   ·exact .inr r.1)
 have h2 : NdL w' B (X ++ Y) v out := h1.exc e (fun g hg => by
  rcases hZ g hg with q | q
  ·exact .inl (List.mem_append.2 (.inl q))
  ·exact .inr q)
 refine ⟨e.heap h.cells hm, h2.sub (fun g hg => .inl (List.mem_append.2 (.inr hg))), hY, h.len, h.base, fun g hg => ?_⟩
 rcases hs g hg with r | r
 ·exact Nat.lt_of_lt_of_le (h.all g r) e.size
 ·exact r.2
end
theorem Mk.lowS {w w' w0 : World} {B B' gm V : Nat} {X : List Nat} {v v' : Value} {out : List Nd} {full : Bool} (h : Mk w B X gm v V out full) (c : Chg w w' [gm] v v') (hB : B' ≤ B) (hb : Below B' w0 w) : Below B' w0 w' :=
 c.low hb (Nat.le_trans hB (Nat.le_trans h.base (Nat.le_of_lt (h.all gm h.mem)))) (fun g hg => by rw [List.mem_singleton] at hg; subst hg; exact Nat.le_trans hB h.base) (fun g hg => Nat.le_trans hB (h.nds.lt hg).1)
theorem Chg.then_ {w w1 w2 : World} {Y Z : List Nat} {v v1 : Value} (c : Chg w w1 Y v v1) (e : Exc w1 w2 Z) (hZ : ∀ g ∈ Z, w.heap.size ≤ g) : Chg w w2 Y v v1 :=
 ⟨⟨e.os.trans c.exc.os, e.tape.trans c.exc.tape, e.output.trans c.exc.output, Nat.le_trans c.exc.size e.size, fun k hk hn => (e.block k (Nat.lt_of_lt_of_le hk c.exc.size) (fun h => by have := hZ k h; omega)).trans (c.exc.block k hk hn)⟩, c.fresh⟩
theorem qap {wL w : World} {b i : Nat} {x : Value} (h : wL.cell? ⟨b, i, none⟩ = some x) (hb : Below wL.heap.size wL w) : w.cell? ⟨b, i, none⟩ = some x := by
 rw [hb.cell (p := ⟨b, i, none⟩) (World.block_lt_of_cell? _ _ h)]; exact h
def RetTree (w : World) (B : Nat) (X : List Nat) (gm : Nat) (v : Value) (V : Nat) (out : List Nd) (full : Bool) (ns : List Nd) (a : Nat) (e : Ending) (w' : World) : Prop :=
 ∃ (v' : Value) (out' : List Nd) (full' : Bool) (r : Int), e = .returned (.int .i64 r) ∧ Chg w w' [gm] v v' ∧ Mk w' B X gm v' V out' full' ∧ I64 r ∧ (full' = false → full = false ∧ Grw V out out' r (fun e0 => tA (qaj e0 ns) (a : Nat)))
def TreeOK (N : Nat) : Prop := ∀ (w wL : World) (B : Nat) (X : List Nat) (gm : Nat) (v vf : Value) (V : Nat) (out : List Nd) (full : Bool) (ns : List Nd) (top : Int) (a : Nat), a < N → FmV wL vf ⟨(V : Nat), ns, top⟩ → wL.heap.size ≤ B → Below wL.heap.size wL w → V ≤ 24 → ns.length ≤ 128 → qbc (V : Nat) 0 ns = 0 →
 Mk w B X gm v V out full → (full = false → qbc (V : Nat) 0 out = 0) → a < V + ns.length →
 Calls Tryz.prog 26 #[.pointer (some ⟨gm, 0, none⟩), vf, .int .i64 (a : Nat)] w (RetTree w B X gm v V out full ns a)
theorem tree_step (N : Nat) (ih : TreeOK N) : TreeOK (N + 1) := by
 intro w wL B X gm v vf V out full ns top a haN hfL hLB hbL hV hn128 hno hM hFO ha
 have HIH := qHd ih; clear ih
 have HFL := qHd hfL
 obtain ⟨nv, rfl, hn, hv, ht⟩ := hfL
 simp only at hn hv ht ⊢
 obtain ⟨ao, c, rfl, hc, hc2, _⟩ := hn.shape
 have HNL := qHd hn; have HBL := qHd hbL; have HNO := qHd hno; have HM := qHd hM; have HFO := qHd hFO
 clear hn hv ht hbL hno hM hFO
 obtain ⟨w0, hw0⟩ : ∃ z0, z0 = w.alloc (.cells #[.int .i64 (V : Nat), .slice ao ns.length c, .int .i64 top] 24) := ⟨_, rfl⟩
 have hb0 : Below w.heap.size w w0 := by rw [hw0]; exact qBA _ _
 obtain ⟨g1, hg0⟩ : ∃ g, g = w.heap.size := ⟨_, rfl⟩
 have hx0 : w0.heap[g1]? = some (.cells #[.int .i64 (V : Nat), .slice ao ns.length c, .int .i64 top] 24) := by rw [hw0, hg0]; exact heap_alloc_new _ _
 have hs0 : w0.heap.size = w.heap.size + 1 := by rw [hw0]; simp
 have HM0 := qHd (HM.out.new (Y := g1 :: X) hb0 (fun g hg => by
  rcases List.mem_cons.1 hg with e | e
  ·subst e; exact .inr ⟨by omega, by omega⟩
  ·exact .inl e) (List.mem_cons_of_mem _ HM.out.mem))
 have HN0 := qHd (show g1 ≠ gm ∧ B ≤ g1 from ⟨fun e => by have := HM.out.all gm HM.out.mem; omega, by have := HM.out.all gm HM.out.mem; have := HM.out.base; omega⟩)
 have HC0 := qHd (Chg.of_below (Y := [gm]) (v := v) hb0); have G0 := qHd hx0; have HB0 := qHd (qcg HBL.out (Nat.le_refl _) hb0)
 obtain ⟨x0, x1, x2⟩ := qaq hx0
 rw [hw0, hg0] at x0 x1 x2
 have S0 := qHd hs0
 clear hb0 hx0 hs0
 by_cases hav : a < V
 ·have havz : (a : Int) < (V : Int) := by omega
  go_enter Tryz.func26, Tryz.ntmps26
  go_wp2_with fail
  rw [← hw0]
  clear hw0 hg0 x0 x1 x2
  go_ret
  exact ⟨v, out, full, (a : Nat), rfl, HC0.out, HM0.out.sub HM.out.mem (fun g hg => List.mem_cons_of_mem _ hg), qch (by omega), fun h => ⟨h, (Grw.refl (HFO.out h) (show Arg V out.length ((a : Nat) : Int) from ⟨by omega, by omega⟩)).congr (fun e0 he _ => by rw [tA_ev (V := V) (by omega) (by omega) he, tA_ev (V := V) (by omega) (by omega) he])⟩⟩
 have havz : ¬ (a : Int) < (V : Int) := by omega
 by_cases hfu : full = true
 ·subst hfu
  obtain ⟨y0, y1, y2⟩ := qaq HM0.out.cells
  rw [hw0] at y0 y1 y2
  go_enter Tryz.func26, Tryz.ntmps26
  go_wp2_with fail
  rw [← hw0]
  clear hw0 hg0 x0 x1 x2 y0 y1 y2
  go_ret
  exact ⟨v, out, true, (a : Nat), rfl, HC0.out, HM0.out.sub HM.out.mem (fun g hg => List.mem_cons_of_mem _ hg), qch (by omega), fun h => by cases h⟩
 have hfu2 : full = false := by cases full with | true => exact absurd rfl hfu | false => rfl
 subst hfu2
 clear hfu
 have HFZ := qHd (HFO.out rfl)
 obtain ⟨j, hj⟩ : ∃ j, a = V + j := ⟨a - V, by omega⟩
 have hjl : j < ns.length := by omega
 have hajz : IntKind.wrap .i64 ((a : Int) - (V : Int)) = (j : Int) := by rw [qda (by omega)]; omega
 have hajz2 : (a : Int) - (V : Int) = (j : Int) := by omega
 obtain ⟨x, hx⟩ : ∃ x, ns[j]? = some x := ⟨ns[j], List.getElem?_eq_getElem hjl⟩
 obtain ⟨b, off, rfl, hb, u1, hat⟩ := HNL.out.at (by omega)
 clear u1 hb
 obtain ⟨c0, c1, ⟨av, c2, hI⟩, hk, hK⟩ := hat j x hx
 clear hat
 have c0 := qap c0 HB0.out; have c1 := qap c1 HB0.out; have c2 := qap c2 HB0.out
 have HXJ := qHd hx; have HE := qHd (ndErr_nat HNO.out hx)
 clear hx
 have h16 := (args_16 HE.out).1
 obtain ⟨ao', c', rfl, hc', hc2', _⟩ := hI.shape
 have HI := qHd hI; have HKK := qHd (And.intro hk hK); clear hI hk hK
 have hjz : (j : Int) < (ns.length : Int) := by omega
 have HJJ := qHd hj; clear hj
 obtain ⟨y0, y1, y2⟩ := qaq HM0.out.cells
 rw [hw0] at y0 y1 y2 c0 c1 c2
 obtain ⟨W3, hw3⟩ : ∃ z0, z0 = w0.alloc (.cells #[.int .i64 x.kind, .int .i64 x.K, .slice ao' x.args.length c'] 56) := ⟨_, rfl⟩
 have hb3 : Below w0.heap.size w0 W3 := by rw [hw3]; exact qBA _ _
 obtain ⟨gn, hg3⟩ : ∃ g, g = w0.heap.size := ⟨_, rfl⟩
 have hx3 : W3.heap[gn]? = some (.cells #[.int .i64 x.kind, .int .i64 x.K, .slice ao' x.args.length c'] 56) := by rw [hw3, hg3]; exact heap_alloc_new _ _
 have hs3 : W3.heap.size = w0.heap.size + 1 := by rw [hw3]; simp
 have G8 := qHd hx3; have HB3 := qHd (qcg HB0.out (Nat.le_refl _) hb3); have G13 := qHd (qaa G0.out hb3); have HC3 := qHd (HC0.out.trans (Chg.of_below hb3))
 have GN := qHd (show gn ≠ gm ∧ gn ≠ g1 ∧ B ≤ gn ∧ gn < W3.heap.size from ⟨fun e => by have := HM0.out.all gm (by simp [HM.out.mem]); omega, fun e => by have := S0.out; omega, by have := HN0.out.2; have := S0.out; omega, by omega⟩)
 have M3 := qHd (HM0.out.new (Y := gn :: g1 :: X) hb3 (fun g hg => by
  rcases List.mem_cons.1 hg with e | e
  ·subst e; exact .inr ⟨by omega, by omega⟩
  ·exact .inl e) (by simp [HM.out.mem]))
 have EG := qHd (show gn = g1 + 1 by have := S0.out; omega)
 clear hb3 hx3 hs3
 go_enter Tryz.func26, Tryz.ntmps26
 go_wp2_with (with_reducible first | refine qah ?_ | refine qae ?_)
 rw [← hw0, ← hg0, ← hw3, ← EG.out]
 clear hw0 hg0 x0 x1 x2 y0 y1 y2 c0 c1 c2 hw3 hg3 hajz hajz2
 refine qad.mk ?_
 obtain ⟨na, hna⟩ : ∃ n, n = x.args.length := ⟨_, rfl⟩
 rw [← hna] at HI G8 h16 ⊢
 have HNA := qHd hna; clear hna hc'
 go_loopw [33, 8] (fun i' av wx => ∃ (k : Nat) (v1 : Value) (out1 : List Nd) (full1 : Bool) (rs : List Int), k ≤ na ∧ i' = .int .i64 k ∧ Hid (Chg W3 wx [gm] v v1) ∧ Hid (Mk wx B (av.ownBlock.toList ++ gn :: g1 :: X) gm v1 V out1 full1) ∧ Hid (qbx wx W3.heap.size 3 1 av k (qbm rs)) ∧ Hid (rs.length = k ∧ ∀ y ∈ rs, I64 y) ∧ Hid (full1 = false → (∃ more, out1 = out ++ more) ∧ qbc (V : Nat) 0 out1 = 0 ∧ Cp V ns out1 (x.args.take k) rs) ∧ Hid (k = 0 → av = .slice none 0 0)) (fun i' _ _ => na - (intOf i').toNat)
 case atStart => exact ⟨0, v, out, false, [], Nat.zero_le _, rfl, qHd (Chg.refl _ _ _), M3, qHd (qbx.nil _ _ _ _), qHd ⟨rfl, fun y h => by cases h⟩, qHd (fun _ => ⟨⟨[], by simp⟩, HFZ.out, by rw [List.take_zero]; exact Cp.nil⟩), qHd (fun _ => rfl)⟩
 case round =>
  obtain ⟨k, v1, out1, full1, rs, hk, rfl, C1, M1, O1, RL, F1, NZ⟩ := hrel
  obtain ⟨wi, rfl⟩ : ∃ wi : World, wi = wr := ⟨_, rfl⟩
  obtain ⟨aoi, ci, rfl, hci, hci2, _⟩ := qaz O1.out.1
  have OB := qHd (fun g (hg : (Value.slice aoi k ci).ownBlock = some g) => World.ownsRow.lt O1.out.1 g hg)
  have OM := qHd (show ∀ g, (Value.slice aoi k ci).ownBlock = some g → g ∈ (Value.slice aoi k ci).ownBlock.toList ++ gn :: g1 :: X ∧ g ≠ gm from fun g hg => ⟨by rw [hg]; simp, fun e => by have := (OB.out g hg).1; have := M3.out.all gm (by simp [HM.out.mem]); omega⟩)
  by_cases hlk : k < na
  ·have HBi := qHd (M3.out.lowS C1.out hLB HB3.out)
   obtain ⟨ba, offa, rfl, hba, u1, hata⟩ := HI.out.at (by omega)
   clear u1 hba
   obtain ⟨y, hqa⟩ : ∃ y, x.args[k]? = some y := ⟨x.args[k]'(by rw [← HNA.out]; exact hlk), List.getElem?_eq_getElem (by rw [← HNA.out]; exact hlk)⟩
   have ca := qap (hata k y hqa) HBi.out
   clear hata
   have haa := (qav HE.out).2.2.1 y (List.mem_of_getElem? hqa)
   obtain ⟨A, rfl⟩ : ∃ A : Nat, y = A := ⟨y.toNat, by have := haa.1; omega⟩
   have hA1 : A < V + j := by have := haa.2; omega
   have hlkz : (k : Int) < (na : Int) := by omega
   have HQA := qHd hqa; clear hqa haa
   obtain ⟨x0, x1, x2⟩ := qaq (M3.out.keep C1.out (by simp) HN0.out.1 G13.out)
   have HK := qHd (HIH.out wi wL B ((Value.slice aoi k ci).ownBlock.toList ++ gn :: g1 :: X) gm v1 (.agg #[.int .i64 (V : Nat), .slice (some ⟨b, off, none⟩) ns.length c, .int .i64 top]) V out1 full1 ns top A (by have := HJJ.out; omega) HFL.out hLB HBi.out hV hn128 HNO.out M1.out (fun h => (F1.out h).2.1) (by have := HJJ.out; omega))
   go_wp2_with (with_reducible refine qac ?_)
   clear x0 x1 x2 ca
   refine qad.mk ?_
   (with_reducible refine HK.out.mono ?_); rintro e w4 ⟨v4, out4, full4, r4, rfl, hC4, hM4, hR4, hF4⟩
   have C4 := qHd (C1.out.trans hC4); have M4 := qHd hM4; have R4 := qHd hR4; have F4 := qHd hF4
   have O4 := qHd (M1.out.keepO hC4 OM.out O1.out)
   clear hC4 hM4 hR4 hF4 HK
   obtain ⟨w5, hw5⟩ : ∃ z0, z0 = w4.alloc (.cells #[.int .i64 r4] 3) := ⟨_, rfl⟩
   have hb5 : Below w4.heap.size w4 w5 := by rw [hw5]; exact qBA _ _
   obtain ⟨g5, hg5⟩ : ∃ g, g = w4.heap.size := ⟨_, rfl⟩
   have hx5 : w5.heap[g5]? = some (.cells #[.int .i64 r4] 3) := by rw [hw5, hg5]; exact heap_alloc_new _ _
   have hs5 : w5.heap.size = w4.heap.size + 1 := by rw [hw5]; simp
   have O5 := qHd (O4.out.below hb5); have G5 := qHd hx5; have M5 := qHd (M4.out.below hb5); have C5 := qHd (C4.out.trans (Chg.of_below hb5))
   clear hb5 hx5 hs5
   go_wp2_with (with_reducible refine qam ?_)
   rw [← hw5, ← hg5]
   clear hw5 hg5
   have hW3 : W3.heap.size ≤ w5.heap.size := C5.out.exc.size
   refine qar W3.heap.size Tryz.intTyK rfl (qal [0]) (by decide) (.slice aoi k ci) k _ [.int .i64 r4] g5 3 rfl rfl O5.out G5.out rfl rfl (qal [r4]) (qal _) (by omega) (by decide) hW3 ?_
   intro v6 w6 ho6 hg6 hfr6
   have E6 : Exc w5 w6 (Value.slice aoi k ci).ownBlock.toList := Exc.of_grown hg6 (fun g hg => by rw [hg]; simp)
   have O6 := qHd (show qbx w6 W3.heap.size 3 1 v6 (k + 1) (qbm (rs ++ [r4])) by rw [qbf]; exact ho6)
   have C6 := qHd (C5.out.then_ E6 (fun g hg => (OB.out g (by simpa using hg)).1))
   have M6 := qHd (M5.out.step (Y := v6.ownBlock.toList ++ gn :: g1 :: X) E6 (fun g hg => .inl (List.mem_append.2 (.inl hg))) (fun hg => (OM.out gm (by simpa using hg)).2 rfl) (fun g hg => by
    rcases List.mem_append.1 hg with q | q
    ·have q' : v6.ownBlock = some g := by simpa using q
     rcases Nat.lt_or_ge g w5.heap.size with r | r
     ·by_cases e : (Value.slice aoi k ci).ownBlock = some g
      ·exact .inl (List.mem_append.2 (.inl (by rw [e]; simp)))
      ·exact absurd q' (hfr6 g r e)
     ·exact .inr ⟨r, (World.ownsRow.lt O6.out.1 g q').2⟩
    ·exact .inl (List.mem_append.2 (.inr q))) (by simp [HM.out.mem]))
   have F6 := qHd (show full4 = false → (∃ more, out4 = out ++ more) ∧ qbc (V : Nat) 0 out4 = 0 ∧ Cp V ns out4 (x.args.take (k + 1)) (rs ++ [r4]) from fun h => by
    obtain ⟨q1, q2⟩ := F4.out h
    obtain ⟨⟨m1, p1⟩, p2, p3⟩ := F1.out q1
    obtain ⟨m2, p4⟩ := q2.ext
    refine ⟨⟨m1 ++ m2, by rw [p4, p1, List.append_assoc]⟩, q2.ok, ?_⟩
    rw [qbs HQA.out]
    exact p3.snoc q2)
   clear ho6 hg6 hfr6 E6 hW3
   go_wp2_with fail
   go_roundw
   case rel => exact ⟨k + 1, v4, out4, full4, rs ++ [r4], by omega, by go_num, C6, M6, O6, qHd ⟨by rw [List.length_append, RL.out.1]; rfl, fun y hy => by
    rcases List.mem_append.1 hy with q | q
    ·exact RL.out.2 y q
    ·rw [List.mem_singleton] at q; subst q; exact R4.out⟩, F6, qHd (fun h => absurd h (Nat.succ_ne_zero _))⟩
   case measure => simp [intOf]; omega
  ·have hk' : k = na := by omega
   subst hk'
   obtain ⟨x0, x1, x2⟩ := qaq (M3.out.keep C1.out (by simp) GN.out.1 G8.out)
   have hne : Value.slice aoi k ci = .slice none 0 0 ∨ 0 < rs.length := by
    rw [RL.out.1]
    by_cases h0 : 0 < k
    ·exact .inr h0
    ·left
     have : k = 0 := by omega
     subst this
     exact NZ.out rfl
   have HI1 := qbl (l := rs) (by rw [RL.out.1]; exact O1.out.1) RL.out.2
   have HK := qHd (madd_any B gm V _ v1 _ out1 full1 x.kind x.K rs wi M1.out HI1 hne (by rw [RL.out.1]; omega) HKK.out.1 HKK.out.2 hV)
   clear hne HI1
   go_wp2_with (with_reducible refine qac ?_)
   clear x0 x1 x2
   refine qad.mk ?_
   (with_reducible refine HK.out.mono ?_); rintro e w7 ⟨v3, out3, full3, r3, rfl, hC7, hM7, hr3, hF7⟩
   have C7 := qHd (C1.out.trans hC7); have M7 := qHd hM7; have F7 := qHd hF7
   clear hC7 hM7 hF7 HK
   go_wp2_with fail
   go_ret
   refine ⟨v3, out3, full3, (r3 : Nat), rfl, HC3.out.trans C7.out, M7.out.sub HM.out.mem (fun g hg => by simp [hg]), qch (by omega), fun h => ?_⟩
   obtain ⟨q1, q2, q3⟩ := F7.out h
   obtain ⟨⟨m1, p1⟩, p2, p3⟩ := F1.out q1
   refine ⟨rfl, ?_⟩
   rw [List.take_of_length_le (by rw [HNA.out]; exact Nat.le_refl _)] at p3
   have g := p3.node p2 HE.out
   rw [q2, q3]
   refine ⟨⟨m1 ++ [⟨x.kind, x.K, rs⟩], by rw [p1, List.append_assoc]⟩, g.ok, g.arg, fun e0 he ht => ?_⟩
   rw [g.v e0 he ht]
   have hj2 : (((a : Nat) : Int) - ((V : Nat) : Int)).toNat = j := by have := HJJ.out; omega
   exact (tA_at (a := (a : Nat)) HNO.out he ht (by omega) (by rw [hj2]; exact HXJ.out)).1.symm
theorem tree_any : ∀ N, TreeOK N
 | 0 => fun _ _ _ _ _ _ _ _ _ _ _ _ _ h => absurd h (Nat.not_lt_zero _)
 | N + 1 => tree_step N (tree_any N)
theorem unshare_any (vf : Value) (f : Fm) (w : World) (hf : FmV w vf f) (h0 : qcr f = 0) : Calls Tryz.prog 8 #[vf] w (RetMp w f (fun _ => True)) := by
 obtain ⟨V, hvV, hV, hn128, hno, htop⟩ := qdp h0
 obtain ⟨nv, rfl, hn, hv, ht⟩ := hf
 obtain ⟨ao, c, rfl, hc, hc2, _⟩ := hn.shape
 have hF := (show FmV w _ f from ⟨_, rfl, hn, hv, ht⟩)
 obtain ⟨vz, ns, top⟩ := f
 simp only at hvV hn128 hno htop hn ht hv hc hF h0 ⊢
 subst hvV
 have HF := qHd hF; have E0 := qHd h0; have HN := qHd hn; have HNO := qHd hno; have HT := qHd htop; have HT64 := qHd ht
 clear hF h0 hn hno htop ht hv
 obtain ⟨wa, hwa⟩ : ∃ x, x = w.alloc (.cells #[.int .i64 V, .slice ao ns.length c, .int .i64 top] 24) := ⟨_, rfl⟩
 obtain ⟨W, hW⟩ : ∃ x, x = wa.alloc (.cells #[.int .i64 0, .slice none 0 0, .int .i64 0] 24) := ⟨_, rfl⟩
 have ba : Below w.heap.size w wa := by rw [hwa]; exact qBA _ _
 have bW : Below wa.heap.size wa W := by rw [hW]; exact qBA _ _
 have sa : wa.heap.size = w.heap.size + 1 := by rw [hwa]; exact Array.size_push (xs := w.heap) _
 have sW : W.heap.size = w.heap.size + 1 + 1 := by rw [← sa, hW]; exact Array.size_push (xs := wa.heap) _
 have hg1 : W.heap[w.heap.size]? = some (.cells #[.int .i64 V, .slice ao ns.length c, .int .i64 top] 24) := qaa (by rw [hwa]; exact heap_alloc_new w _) bW
 have hg2 : W.heap[w.heap.size + 1]? = some (.cells #[.int .i64 0, .slice none 0 0, .int .i64 0] 24) := by rw [← sa, hW]; exact heap_alloc_new wa _
 have HBW := qHd (ba.trans (bW.mono ba.size))
 obtain ⟨g1, hG1⟩ : ∃ g, g = w.heap.size := ⟨_, rfl⟩
 obtain ⟨g2, hG2⟩ : ∃ g, g = w.heap.size + 1 := ⟨_, rfl⟩
 rw [← hG1] at hg1; rw [← hG2] at hg2
 have l1 : w.heap.size ≤ g1 := by omega
 have l2 : w.heap.size ≤ g2 := by omega
 have G1 := qHd hg1; have G2 := qHd hg2
 have L12 := qHd (show g1 < W.heap.size ∧ g2 < W.heap.size from ⟨by omega, by omega⟩)
 obtain ⟨x0, x1, x2⟩ := qaq hg1
 rw [hW, hwa, hG1] at x0 x1 x2
 clear ba bW sa sW hg1 hg2
 have HK := qHd (qdh _ ⟨(V : Nat), ns, top⟩ W (HF.out.below HBW.out))
 rw [E0.out, qce] at HK
 go_enter Tryz.func8, Tryz.ntmps8
 go_wp2_with (with_reducible refine qac ?_)
 rw [← hwa, ← hW, ← hG2, ← hG1]
 clear hwa hW hG2 hG1 x0 x1 x2
 refine qad.mk ?_
 (with_reducible refine HK.out.mono ?_); rintro e w1 ⟨rfl, hb1⟩
 have HB1 := qHd (HBW.out.trans (hb1.mono HBW.out.size)); have G1 := qHd (qaa G1.out hb1); have G2 := qHd (qaa G2.out hb1)
 have L12 := qHd (show g1 < w1.heap.size ∧ g2 < w1.heap.size from ⟨Nat.lt_of_lt_of_le L12.out.1 hb1.size, Nat.lt_of_lt_of_le L12.out.2 hb1.size⟩)
 clear hb1 HK HBW
 obtain ⟨w2, hw2⟩ : ∃ z0, z0 = w1.alloc (.cells #[.int .i64 V, .slice none 0 0, .bool false] 61) := ⟨_, rfl⟩
 have hb2 : Below w1.heap.size w1 w2 := by rw [hw2]; exact qBA _ _
 obtain ⟨gm, hg2⟩ : ∃ g, g = w1.heap.size := ⟨_, rfl⟩
 have hx2 : w2.heap[gm]? = some (.cells #[.int .i64 V, .slice none 0 0, .bool false] 61) := by rw [hw2, hg2]; exact heap_alloc_new _ _
 have hs2 : w2.heap.size = w1.heap.size + 1 := by rw [hw2]; simp
 have HB2 := qHd (HB1.out.trans (hb2.mono HB1.out.size)); have G12 := qHd (qaa G1.out hb2); have G22 := qHd (qaa G2.out hb2); have B12 := qHd hb2
 have M2 := qHd (show Mk w2 w1.heap.size [gm] gm (.slice none 0 0) V [] false from ⟨hx2, NdL.nil _ _ _, by simp, by simp, by rw [hg2]; exact Nat.le_refl _, fun g hg => by rw [List.mem_singleton] at hg; subst hg; exact qao hx2⟩)
 obtain ⟨x0, x1, x2⟩ := qaq (qaa G1.out hb2)
 rw [hw2] at x0 x1 x2
 obtain ⟨z0, z1, z2⟩ := qaq G1.out
 clear hb2 hx2 hs2
 obtain ⟨T, hTT⟩ : ∃ T : Nat, top = T := ⟨top.toNat, by have := HT.out.1; omega⟩
 subst hTT
 have hT : T < V + ns.length := by have := HT.out.2; omega
 have HK := qHd (tree_any (T + 1) w2 w w1.heap.size [gm] gm (.slice none 0 0) (.agg #[.int .i64 (V : Nat), .slice ao ns.length c, .int .i64 (T : Nat)]) V [] false ns (T : Nat) T (by omega) HF.out HB1.out.size HB2.out hV hn128 HNO.out M2.out (fun _ => rfl) hT)
 go_wp2_with (with_reducible refine qac ?_)
 rw [← hw2, ← hg2]
 clear hw2 hg2 x0 x1 x2 z0 z1 z2
 refine qad.mk ?_
 (with_reducible refine HK.out.mono ?_); rintro e w4 ⟨v4, out, full4, r4, rfl, hC4, hM4, hR4, hF4⟩
 have HB4 := qHd (M2.out.low hC4 B12.out |> fun h => HB1.out.trans (h.mono HB1.out.size)); have BX := qHd (M2.out.low hC4 B12.out)
 have M4 := qHd hM4; have R4 := qHd hR4; have F4 := qHd hF4
 have G1X := qHd (qbo BX.out G1.out L12.out.1); have G2X := qHd (qbo BX.out G2.out L12.out.2)
 clear hC4 hM4 hR4 hF4 HK
 obtain ⟨y0, y1, y2⟩ := qaq M4.out.cells
 cases full4
 ·obtain ⟨_, hg⟩ := F4.out rfl
  have HG := qHd hg; clear hg
  obtain ⟨vo, vc, ev, hvc, hvc2, _⟩ := M4.out.nds.shape
  obtain ⟨vn, hvn⟩ : ∃ n, n = out.length := ⟨_, rfl⟩
  rw [← hvn] at ev
  subst ev
  have HVN := qHd hvn; clear hvn
  have GM := qHd M4.out.cells
  go_wp2_with (with_reducible refine qax ?_)
  clear y0 y1 y2
  refine qad.mk ?_
  refine qay (A := ?aaUQ) (w := w4) 8 [] (by kernel_rfl) (Fl [KEq (.pointer (some ⟨g1, 0, none⟩)), KEq (.int .i64 V), KEq (.pointer (some ⟨gm, 0, none⟩)), KEq (.pointer (some ⟨gm, 0, none⟩)), KEq (.pointer (some ⟨gm, 1, none⟩)), KEq (.slice vo vn vc), KEq (.int .i64 r4), KEq (.agg #[.int .i64 V, .slice vo vn vc, .int .i64 r4])]) (fun i => false) (by kernel_rfl) ?hqUQ (qdx (qai (kEq _) (qai (kEq _) (qai (kEq _) (qai (kEq _) (qai (kEq _) (qai (kEq _) (qai (kEq _) (qai (kEq _) qdw))))))))) ?haUQ ?stUQ ?tlUQ
  case hqUQ =>
   intro c a d v w h
   first | (simp only [Exit.then] at h ⊢; exact h) | (simp only [Exit.inBlock, Exit.then] at h ⊢; exact h) | exact h
  case haUQ =>
   intro vals
   simp only [qat, qcf, if_true, Act.put, List.setIfInBounds_toArray, List.set_cons_zero, List.set_cons_succ, List.getElem?_toArray, List.getElem?_cons_zero, List.getElem?_cons_succ, Option.bind_some]
   exact rfl
  case stUQ =>
   simp only [List.take_succ_cons, List.take_zero]
   refine qab rfl rfl ?_ (qab rfl rfl ?_ (qab rfl rfl ?_ (qab rfl rfl ?_ (qab rfl rfl ?_ (qab rfl rfl ?_ (qab rfl rfl ?_ (qab rfl rfl ?_ (qbb))))))))
   ·intro vals w1 hb hd
    refine qSv (.pointer (some ⟨g1, 0, none⟩)) (by go_simp) (qLk rfl rfl)
   ·intro vals w1 hb hd
    obtain ⟨e0, e1, e2⟩ := qaq (qaa G1X.out hb)
    rw [show vals 0 = .pointer (some ⟨g1, 0, none⟩) from hd 0 (by kernel_rfl)]
    refine qSv (.int .i64 V) (by go_simp) (qLk rfl rfl)
   ·intro vals w1 hb hd
    refine qSv (.pointer (some ⟨gm, 0, none⟩)) (by go_simp) (qLk rfl rfl)
   ·intro vals w1 hb hd
    rw [show vals 2 = .pointer (some ⟨gm, 0, none⟩) from hd 2 (by kernel_rfl)]
    refine qSv (.pointer (some ⟨gm, 0, none⟩)) (by go_simp) (qLk rfl rfl)
   ·intro vals w1 hb hd
    rw [show vals 3 = .pointer (some ⟨gm, 0, none⟩) from hd 3 (by kernel_rfl)]
    refine qSv (.pointer (some ⟨gm, 1, none⟩)) (by go_simp) (qLk rfl rfl)
   ·intro vals w1 hb hd
    obtain ⟨e0, e1, e2⟩ := qaq (qaa GM.out hb)
    rw [show vals 4 = .pointer (some ⟨gm, 1, none⟩) from hd 4 (by kernel_rfl)]
    refine qSv (.slice vo vn vc) (by go_simp) (qLk rfl rfl)
   ·intro vals w1 hb hd
    refine qSv (.int .i64 r4) (by go_simp) (qLk rfl rfl)
   ·intro vals w1 hb hd
    rw [show vals 1 = .int .i64 V from hd 1 (by kernel_rfl)]
    rw [show vals 5 = .slice vo vn vc from hd 5 (by kernel_rfl)]
    rw [show vals 6 = .int .i64 r4 from hd 6 (by kernel_rfl)]
    refine qSv (.agg #[.int .i64 V, .slice vo vn vc, .int .i64 r4]) (by go_simp) (qLk rfl rfl)
  case tlUQ =>
   intro vals w8 hb8 hf8 hdis
   simp only [List.drop_succ_cons, List.drop_zero]
   have z7 : vals 7 = _ := hf8 7 (by decide)
   rw [z7]
   clear z7 hf8 hdis
   have G28 := qHd (qaa G2X.out hb8); have M8 := qHd (M4.out.below hb8); have HB8 := qHd (qcg HB4.out (Nat.le_refl _) hb8)
   clear hb8
   go_wp2_with (with_reducible refine qaf 24 ?_)
   refine qbj g2 0 [.int .i64 V, .slice vo vn vc, .int .i64 r4] G28.out rfl rfl (Nat.le_of_ble_eq_true rfl) (by kernel_rfl) rfl ?_
   intro w9 hp9
   have G9 := qHd (show w9.heap[g2]? = some (.cells #[.int .i64 V, .slice vo vn vc, .int .i64 r4] 24) by rw [hp9]; exact qco G28.out)
   have N9 := qHd ((M8.out.nds.exc (Exc.put (X := [g2]) hp9 (List.mem_singleton.2 rfl)) (fun g hg => by rw [List.mem_singleton] at hg; subst hg; exact .inr L12.out.2)).base HB1.out.size)
   have HB9 := qHd (qdl hp9 HB8.out l2)
   clear hp9
   go_wp2_with fail
   refine ret_fm rfl g2 #[.int .i64 V, .slice vo vn vc, .int .i64 r4] rfl G9.out Tryz.underlying24 rfl (by kernel_rfl) rfl ?_
   refine ⟨_, ⟨(V : Nat), out, r4⟩, 0, rfl, HB9.out, ⟨_, _, _, _, rfl, N9.out, qch (n := V) (by omega), R4.out⟩, .inr ⟨rfl, ⟨rfl, fm_ok hV M4.out.len HG.out.ok HG.out.arg, fun e0 he ht => ?_⟩, trivial⟩⟩
   exact HG.out.v e0 (by simpa using he) ht
 ·go_wp2_with (with_reducible refine qaf 24 ?_)
  clear y0 y1 y2
  refine qbj g2 0 [.int .i64 0, .slice none 0 0, .int .i64 0] G2X.out rfl rfl (Nat.le_of_ble_eq_true rfl) (by kernel_rfl) rfl ?_
  intro w9 hp9
  have G9 := qHd (show w9.heap[g2]? = some (.cells #[.int .i64 0, .slice none 0 0, .int .i64 0] 24) by rw [hp9]; exact qco G2X.out)
  have HB9 := qHd (qdl hp9 HB4.out l2)
  clear hp9
  go_wp2_with fail
  refine ret_fm rfl g2 #[.int .i64 0, .slice none 0 0, .int .i64 0] rfl G9.out Tryz.underlying24 rfl (by kernel_rfl) rfl ?_
  exact ⟨_, ⟨0, [], 0⟩, 4, rfl, HB9.out, fmL_zero _ _, .inl rfl⟩
section
variable {w w' w0 : World} {B gm V : Nat} {X Y Z : List Nat} {v v' : Value} {out : List Nd} {top : Int}
theorem Bd.apart (h : Bd w B X gm v V out top) {a : Value} {l : List Int} {s : Nat} (hs : w.heap.size ≤ s) (ha : ∀ g, a.ownBlock = some g → s ≤ g) : Sep a l B X ∧ (0 < l.length → ∀ g, a.ownBlock = some g → v.ownBlock ≠ some g) := by
 have hB := Nat.le_trans h.base (Nat.le_of_lt (h.all gm h.mem))
 refine ⟨fun _ g hg => ⟨by have := ha g hg; omega, fun hx => by have := h.all g hx; have := ha g hg; omega⟩, fun _ g hg e => by have := (h.nds.lt e).2.1; have := ha g hg; omega⟩
theorem Bd.step (h : Bd w B X gm v V out top) (e : Exc w w' Z) (hZ : ∀ g ∈ Z, g ∈ X ∨ g < B) (hm : gm ∉ Z) (hs : ∀ g ∈ Y, g ∈ X ∨ (w.heap.size ≤ g ∧ g < w'.heap.size)) (hY : gm ∈ Y) : Bd w' B Y gm v V out top := by
 have h1 : NdL w B (X ++ Y) v out := h.nds.sub (fun g hg => by
  rcases List.mem_append.1 hg with q | q
  ·exact .inl q
  ·rcases hs g q with r | r
   ·exact .inl r
   ·exact .inr r.1)
 have h2 : NdL w' B (X ++ Y) v out := h1.exc e (fun g hg => by
  rcases hZ g hg with q | q
  ·exact .inl (List.mem_append.2 (.inl q))
  ·exact .inr q)
 refine ⟨e.heap h.cells hm, h2.sub (fun g hg => .inl (List.mem_append.2 (.inr hg))), hY, h.base, fun g hg => ?_⟩
 rcases hs g hg with r | r
 ·exact Nat.lt_of_lt_of_le (h.all g r) e.size
 ·exact r.2
theorem Bd.lowS {B' : Nat} (h : Bd w B X gm v V out top) (c : Chg w w' [gm] v v') (hB : B' ≤ B) (hb : Below B' w0 w) : Below B' w0 w' :=
 c.low hb (Nat.le_trans hB (Nat.le_trans h.base (Nat.le_of_lt (h.all gm h.mem)))) (fun g hg => by rw [List.mem_singleton] at hg; subst hg; exact Nat.le_trans hB h.base) (fun g hg => Nat.le_trans hB (h.nds.lt hg).1)
end
def RetB (w : World) (B : Nat) (X : List Nat) (gm : Nat) (v : Value) (V : Nat) (out : List Nd) (top : Int) (x : Nd) (e : Ending) (w' : World) : Prop :=
 ∃ v' : Value, e = .returned (.int .i64 ((V + out.length : Nat) : Int)) ∧ Chg w w' [gm] v v' ∧ Bd w' B X gm v' V (out ++ [x]) top
theorem qbd (B gm V : Nat) (X : List Nat) (v a : Value) (out : List Nd) (top k K : Int) (l : List Int) (w : World) (hM : Bd w B X gm v V out top) (ha : qbi w a l) (hs : Sep a l B X ∧ (0 < l.length → ∀ g, a.ownBlock = some g → v.ownBlock ≠ some g)) (hk : I64 k) (hK : I64 K) (hV : V ≤ 24) (ho : out.length ≤ 100000) :
  Calls Tryz.prog 27 #[.pointer (some ⟨gm, 0, none⟩), .int .i64 k, .int .i64 K, a] w (RetB w B X gm v V out top ⟨k, K, l⟩) := by
 obtain ⟨ao, c, rfl, hc, hc2, _⟩ := hM.nds.shape
 obtain ⟨ab, ac, rfl, hac, hac2, _⟩ := ha.shape
 obtain ⟨an, han⟩ : ∃ n, n = l.length := ⟨_, rfl⟩
 rw [← han] at ha hac hs ⊢
 obtain ⟨x0, x1, x2⟩ := qaq hM.cells
 have HM := qHd hM; have HA := qHd ha; have HS := qHd hs; have HAN := qHd han
 have HKK := qHd (And.intro hk hK)
 clear hM ha hk hK hs han
 obtain ⟨w2, hw2⟩ : ∃ z0, z0 = w.alloc (.cells #[.int .i64 k, .int .i64 K, .slice ab an ac] 56) := ⟨_, rfl⟩
 have hb2 : Below w.heap.size w w2 := by rw [hw2]; exact qBA _ _
 obtain ⟨gl, hg2⟩ : ∃ g, g = w.heap.size := ⟨_, rfl⟩
 have hx2 : w2.heap[gl]? = some (.cells #[.int .i64 k, .int .i64 K, .slice ab an ac] 56) := by rw [hw2, hg2]; exact heap_alloc_new _ _
 have hs2 : w2.heap.size = w.heap.size + 1 := by rw [hw2]; simp
 have HM2 := qHd (HM.out.below hb2); have HB2 := qHd hb2; have HX := qHd hx2; have HA2 := qHd (HA.out.below hb2)
 clear hb2 hx2 hs2
 go_enter Tryz.func27, Tryz.ntmps27
 go_wp2_with (with_reducible refine qam ?_)
 rw [← hw2, ← hg2]
 clear hw2 hg2 x0 x1 x2
 obtain ⟨xs, q1, q2, q3⟩ := HM2.out.nds
 have Q1 := qHd q1; have Q2 := qHd q2; have Q3 := qHd q3; clear q1 q2 q3
 refine qar B Tryz.nodeTy rfl noU_nd (by decide) (.slice ao out.length c) out.length xs [.int .i64 k, .int .i64 K, .slice ab an ac] gl 56 rfl rfl Q1.out HX.out rfl rfl noU_nd Q1.out.noU (by omega) (by decide) (Nat.le_trans HM2.out.base (Nat.le_of_lt (HM2.out.all _ HM2.out.mem))) ?_
 intro v3 w3 ho3 hg3 hfr3
 have hN3 : NdL w3 B X v3 (out ++ [⟨k, K, l⟩]) := NdL.app (x := ⟨k, K, l⟩) Q1.out Q2.out Q3.out HM2.out.all ho3 hg3 hfr3 HA2.out HS.out.1 (fun h => HS.out.2 (by rw [HAN.out]; exact h)) HKK.out.1 HKK.out.2
 have hC3 : Chg w w3 [gm] (.slice ao out.length c) v3 := (Chg.of_below HB2.out).trans (Chg.grown hg3 hfr3)
 have hG3 : w3.heap[gm]? = some (.cells #[.int .i64 V, .slice ao out.length c, .int .i64 top] 65) := (Chg.grown (Y := []) hg3 hfr3).heap HM2.out.cells (HM2.out.ne HM2.out.mem) (by simp)
 obtain ⟨a3, c3, ev3, hc3, hc32, _⟩ := hN3.shape
 rw [List.length_append, List.length_singleton] at hc3 ev3
 subst ev3
 have HN3 := qHd hN3; have HC3 := qHd hC3; have G3 := qHd hG3
 have HA3 := qHd (fun g (hg : g ∈ X) => Nat.lt_of_lt_of_le (HM.out.all g hg) HC3.out.exc.size)
 clear hN3 hC3 hG3 ho3 hg3 hfr3
 go_wp2_with (with_reducible refine qbr ?_)
 refine qdr gm 1 G3.out rfl rfl (by simp) (by kernel_rfl) ?_
 intro w4 hp4
 have HM4 := qHd (Bd.stored G3.out HN3.out HM.out.mem HM.out.base HA3.out hp4)
 have HC4 := qHd (HC3.out.trans (Chg.put (v := .slice a3 (out.length + 1) c3) hp4 (List.mem_singleton.2 rfl)))
 clear hp4
 obtain ⟨y0, y1, y2⟩ := qaq HM4.out.cells
 go_wp2_with (with_reducible refine qax ?_)
 refine qad.mk ?_
 go_quiet (fail)
 go_wp2_with fail
 go_ret
 exact ⟨_, by go_num, HC4.out.drew _, HM4.out.below (qcp (Below.refl _ _) _)⟩
theorem nmap_any (a t : Value) (l tl : List Int) (w : World) (ha : qbi w a l) (ht : qbi w t tl) (hr : ∀ x ∈ l, 0 ≤ x ∧ x < tl.length) (hl : l.length ≤ 1000) (ht2 : tl.length ≤ 100000) :
  Calls Tryz.prog 28 #[a, t] w (RetInts1 w (l.map (iA (fun i => tl.getD i 0)))) := by
 obtain ⟨ao, c, rfl, hc, hc2, _⟩ := ha.shape
 obtain ⟨to_, tc, rfl, htc, htc2, _⟩ := ht.shape
 have HA := qHd ha; have HT := qHd ht; have HR := qHd hr
 obtain ⟨na, hna⟩ : ∃ n, n = l.length := ⟨_, rfl⟩
 obtain ⟨nt, hnt⟩ : ∃ n, n = tl.length := ⟨_, rfl⟩
 rw [← hna] at HA hc hl ⊢
 rw [← hnt] at HT htc ht2 ⊢
 have HNA := qHd hna; have HNT := qHd hnt
 clear ha ht hr hna hnt
 go_enter Tryz.func28, Tryz.ntmps28
 go_wp2_with (with_reducible first | refine qah ?_ | refine qae ?_)
 refine qad.mk ?_
 go_loopw [10, 5] (fun i' av wx => ∃ k : Nat, k ≤ na ∧ i' = .int .i64 k ∧ Hid (Below w.heap.size w wx) ∧ Hid (qbx wx w.heap.size 3 1 av k (qbm ((l.take k).map (iA (fun i => tl.getD i 0)))))) (fun i' _ _ => na - (intOf i').toNat)
 case atStart => exact ⟨0, Nat.zero_le _, rfl, qHd (Below.refl _ _), qHd (by rw [List.take_zero]; exact qbx.nil _ _ _ _)⟩
 case round =>
  obtain ⟨k, hk, rfl, BI, OI⟩ := hrel
  obtain ⟨wi, rfl⟩ : ∃ wi : World, wi = wr := ⟨_, rfl⟩
  obtain ⟨aoi, ci, rfl, hci, hci2, _⟩ := qaz OI.out.1
  by_cases hlk : k < na
  ·obtain ⟨ba, offa, rfl, hba, u1, hata⟩ := (HA.out.below BI.out).at (by omega)
   clear u1 hba
   obtain ⟨y, hqa⟩ : ∃ y, l[k]? = some y := ⟨l[k]'(by rw [← HNA.out]; exact hlk), List.getElem?_eq_getElem (by rw [← HNA.out]; exact hlk)⟩
   have ca := hata k y hqa
   clear hata
   have haa := HR.out y (List.mem_of_getElem? hqa)
   obtain ⟨A, rfl⟩ : ∃ A : Nat, y = A := ⟨y.toNat, by omega⟩
   have hA1 : A < nt := by rw [HNT.out]; omega
   obtain ⟨bt, offt, rfl, hbt, u1, hatt⟩ := (HT.out.below BI.out).at (by omega)
   clear u1 hbt
   obtain ⟨im, him⟩ : ∃ z, z = tl.getD A 0 := ⟨_, rfl⟩
   have cA := hatt A im (by rw [him, List.getD_eq_getElem?_getD, List.getElem?_eq_getElem (by rw [← HNT.out]; exact hA1)]; rfl)
   clear hatt
   have hAz : (A : Int) < (nt : Int) := by omega
   have hlkz : (k : Int) < (na : Int) := by omega
   have HQA := qHd hqa; have HIM := qHd him; clear hqa haa him
   obtain ⟨w5, hw5⟩ : ∃ z0, z0 = wi.alloc (.cells #[.int .i64 im] 3) := ⟨_, rfl⟩
   have hb5 : Below wi.heap.size wi w5 := by rw [hw5]; exact qBA _ _
   obtain ⟨g5, hg5⟩ : ∃ g, g = wi.heap.size := ⟨_, rfl⟩
   have hx5 : w5.heap[g5]? = some (.cells #[.int .i64 im] 3) := by rw [hw5, hg5]; exact heap_alloc_new _ _
   have hs5 : w5.heap.size = wi.heap.size + 1 := by rw [hw5]; simp
   have O5 := qHd (OI.out.below hb5); have B5 := qHd (qcg BI.out (Nat.le_refl _) hb5); have G5 := qHd hx5
   clear hb5 hx5 hs5
   go_wp2_with (with_reducible refine qam ?_)
   rw [← hw5, ← hg5]
   clear hw5 hg5 ca cA
   refine qar w.heap.size Tryz.intTyK rfl (qal [0]) (by decide) (.slice aoi k ci) k _ [.int .i64 im] g5 3 rfl rfl O5.out G5.out rfl rfl (qal [im]) (qal _) (by omega) (by decide) B5.out.size ?_
   intro v6 w6 ho6 hg6 hfr6
   have B6 := qHd (own_low O5.out.1 hg6 B5.out B5.out.size)
   have O6 := qHd (show qbx w6 w.heap.size 3 1 v6 (k + 1) (qbm ((l.take (k + 1)).map (iA (fun i => tl.getD i 0)))) by
    rw [qbs HQA.out, List.map_append, qbf]
    have e : qbm ([((A : Nat) : Int)].map (iA (fun i => tl.getD i 0))) = [.int .i64 im] := by
     show [Value.int .i64 (tl.getD ((A : Int)).toNat 0)] = _
     rw [Int.toNat_natCast, HIM.out]
    rw [e]; exact ho6)
   clear ho6 hg6 hfr6
   go_wp2_with fail
   go_roundw
   case rel => exact ⟨k + 1, by omega, by go_num, B6, O6⟩
   case measure => simp [intOf]; omega
  ·have hk' : k = na := by omega
   subst hk'
   go_wp2_with fail
   go_ret
   have hO := OI.out
   rw [List.take_of_length_le (by rw [HNA.out]; exact Nat.le_refl _)] at hO
   refine ⟨_, rfl, BI.out, qbl (l := l.map (iA (fun i => tl.getD i 0))) (by rw [List.length_map, ← HNA.out]; exact hO.1) (fun y hy => ?_), fun g hg => (World.ownsRow.lt OI.out.1 g hg).1⟩
   obtain ⟨z, hz, rfl⟩ := List.mem_map.1 hy
   have hzz := HR.out z hz
   have hlt : z.toNat < tl.length := by omega
   refine HT.out.lt _ ?_
   show tl.getD z.toNat 0 ∈ tl
   rw [List.getD_eq_getElem?_getD, List.getElem?_eq_getElem hlt]
   exact List.getElem_mem hlt
def RetDn (w : World) (B : Nat) (f : Fm) (e : Ending) (w' : World) : Prop :=
 ∃ (vg : Value) (g : Fm) (ec : Nat), e = .returned (.tuple #[vg, qdi ec]) ∧ Below B w w' ∧ FmL w' B vg g ∧ (ec = 4 ∨ (ec = 0 ∧ g = f ∧ f.nodes.length ≤ 128))
theorem bdone_any (B gm V : Nat) (X : List Nat) (v : Value) (out : List Nd) (top t : Int) (w : World) (hM : Bd w B X gm v V out top) (ht : I64 t) (hV : V ≤ 24) (ho : out.length ≤ 100000) :
  Calls Tryz.prog 32 #[.pointer (some ⟨gm, 0, none⟩), .int .i64 t] w (RetDn w B ⟨(V : Nat), out, t⟩) := by
 obtain ⟨ao, c, rfl, hc, hc2, _⟩ := hM.nds.shape
 obtain ⟨no, hno⟩ : ∃ n, n = out.length := ⟨_, rfl⟩
 have HM := qHd hM; have HT := qHd ht
 have hB := Nat.le_trans hM.base (Nat.le_of_lt (hM.all gm hM.mem))
 rw [← hno] at HM hc ho
 have HNO := qHd hno
 clear hM ht hno
 obtain ⟨w2, hw2⟩ : ∃ z0, z0 = w.alloc (.cells #[.int .i64 0, .slice none 0 0, .int .i64 0] 24) := ⟨_, rfl⟩
 have hb2 : Below w.heap.size w w2 := by rw [hw2]; exact qBA _ _
 obtain ⟨g4, hg2⟩ : ∃ g, g = w.heap.size := ⟨_, rfl⟩
 have hx2 : w2.heap[g4]? = some (.cells #[.int .i64 0, .slice none 0 0, .int .i64 0] 24) := by rw [hw2, hg2]; exact heap_alloc_new _ _
 have hs2 : w2.heap.size = w.heap.size + 1 := by rw [hw2]; simp
 have HM2 := qHd (HM.out.below hb2); have HB2 := qHd hb2; have G4 := qHd hx2; have L4 := qHd (show B ≤ g4 ∧ g4 ≠ gm from ⟨by omega, fun e => by have := HM.out.all gm HM.out.mem; omega⟩)
 have N4 := qHd (show g4 = w.heap.size from hg2)
 clear hb2 hx2 hs2
 obtain ⟨x0, x1, x2⟩ := qaq HM2.out.cells
 rw [hw2] at x0 x1 x2
 go_enter Tryz.func32, Tryz.ntmps32
 go_wp2_with (with_reducible refine qbr ?_)
 rw [← hw2, ← hg2]
 clear hw2 hg2 x0 x1 x2
 refine qds gm 2 HM2.out.cells rfl rfl (by simp) (by kernel_rfl) ?_
 intro w3 hp3
 have GM3 := qHd (show w3.heap[gm]? = some (.cells #[.int .i64 V, .slice ao no c, .int .i64 t] 65) by rw [hp3]; exact putL_32 HM2.out.cells)
 have N3 := qHd (((HM.out.nds.sub (Y := g4 :: X) (fun g hg => by
  rcases List.mem_cons.1 hg with e | e
  ·subst e; exact .inr (by rw [N4.out]; exact Nat.le_refl _)
  ·exact .inl e)).below HB2.out).exc (Exc.put (X := [gm]) hp3 (List.mem_singleton.2 rfl)) (fun g hg => by rw [List.mem_singleton] at hg; subst hg; exact .inl (List.mem_cons_of_mem _ HM.out.mem)))
 have B3 := qHd (qdl hp3 (HB2.out.mono hB) HM.out.base)
 have G43 := qHd (putLx hp3 G4.out L4.out.2)
 clear hp3
 obtain ⟨x0, x1, x2⟩ := qaq GM3.out
 by_cases h128 : 128 < no
 ·have hz : (128 : Int) < (no : Int) := by omega
  go_wp2_with (with_reducible refine qaf 24 ?_)
  clear x0 x1 x2
  refine qbj g4 0 [.int .i64 0, .slice none 0 0, .int .i64 0] G43.out rfl rfl (Nat.le_of_ble_eq_true rfl) (by kernel_rfl) rfl ?_
  intro w9 hp9
  have G9 := qHd (show w9.heap[g4]? = some (.cells #[.int .i64 0, .slice none 0 0, .int .i64 0] 24) by rw [hp9]; exact qco G43.out)
  have HB9 := qHd (qdl hp9 B3.out L4.out.1)
  clear hp9
  go_wp2_with fail
  refine ret_fm rfl g4 #[.int .i64 0, .slice none 0 0, .int .i64 0] rfl G9.out Tryz.underlying24 rfl (by kernel_rfl) rfl ?_
  exact ⟨_, ⟨0, [], 0⟩, 4, rfl, HB9.out, fmL_zero _ _, .inl rfl⟩
 ·have hz : ¬ (128 : Int) < (no : Int) := by omega
  go_wp2_with (with_reducible refine qaf 24 ?_)
  clear x0 x1 x2
  refine qbj g4 0 [.int .i64 V, .slice ao no c, .int .i64 t] G43.out rfl rfl (Nat.le_of_ble_eq_true rfl) (by kernel_rfl) rfl ?_
  intro w9 hp9
  have G9 := qHd (show w9.heap[g4]? = some (.cells #[.int .i64 V, .slice ao no c, .int .i64 t] 24) by rw [hp9]; exact qco G43.out)
  have HB9 := qHd (qdl hp9 B3.out L4.out.1)
  have N9 := qHd (N3.out.exc (Exc.put (X := [g4]) hp9 (List.mem_singleton.2 rfl)) (fun g hg => by rw [List.mem_singleton] at hg; subst hg; exact .inl (by simp)))
  clear hp9
  go_wp2_with fail
  refine ret_fm rfl g4 #[.int .i64 V, .slice ao no c, .int .i64 t] rfl G9.out Tryz.underlying24 rfl (by kernel_rfl) rfl ?_
  exact ⟨_, ⟨(V : Nat), out, t⟩, 0, rfl, HB9.out, ⟨_, _, _, _, rfl, N9.out, qch (n := V) (by omega), HT.out⟩, .inr ⟨rfl, rfl, by rw [← HNO.out]; omega⟩⟩
def RetDu (w : World) (_ : Fm) (R : Fm → Prop) (e : Ending) (w' : World) : Prop :=
 ∃ (vg : Value) (g : Fm) (ec : Nat), e = .returned (.tuple #[vg, qdi ec]) ∧ Below w.heap.size w w' ∧ FmL w' w.heap.size vg g ∧ (ec = 4 ∨ (ec = 0 ∧ R g))
theorem qbi.nil0 (w : World) : qbi w (.slice none 0 0) [] := ⟨none, 0, rfl, Nat.le_refl _, by omega, fun _ => rfl, (fun b off s h => by cases h), fun x hx => by cases hx⟩
theorem ints_arg {V n : Nat} {l : List Int} (hV : V ≤ 24) (hn : n ≤ 100000) (h : ∀ j, j < l.length → Arg V n (l.getD j 0)) : ∀ y ∈ l, I64 y := by
 intro y hy
 obtain ⟨j, hj, rfl⟩ := List.mem_iff_getElem.1 hy
 have := h j hj
 rw [List.getD_eq_getElem?_getD, List.getElem?_eq_getElem hj] at this
 obtain ⟨h1, h2⟩ := this
 simp only [Option.getD_some] at h1 h2
 exact ⟨by omega, by omega⟩
theorem dual_any (vf : Value) (f : Fm) (w : World) (hf : FmV w vf f) (h0 : qcr f = 0) : Calls Tryz.prog 11 #[vf] w (RetDu w f (DualOf f)) := by
 obtain ⟨V, hvV, hV, hn128, hno, htop⟩ := qdp h0
 obtain ⟨nv, rfl, hn, hv, ht⟩ := hf
 obtain ⟨ao, c, rfl, hc, hc2, _⟩ := hn.shape
 have hF := (show FmV w _ f from ⟨_, rfl, hn, hv, ht⟩)
 obtain ⟨vz, ns, top⟩ := f
 simp only at hvV hn128 hno htop hn ht hv hc hF h0 ⊢
 subst hvV
 have HF := qHd hF; have E0 := qHd h0; have HN := qHd hn; have HNO := qHd hno; have HT := qHd htop; have HT64 := qHd ht
 clear hF h0 hn hno htop ht hv
 obtain ⟨wa, hwa⟩ : ∃ x, x = w.alloc (.cells #[.int .i64 V, .slice ao ns.length c, .int .i64 top] 24) := ⟨_, rfl⟩
 obtain ⟨W, hW⟩ : ∃ x, x = wa.alloc (.cells #[.int .i64 0, .slice none 0 0, .int .i64 0] 24) := ⟨_, rfl⟩
 have ba : Below w.heap.size w wa := by rw [hwa]; exact qBA _ _
 have bW : Below wa.heap.size wa W := by rw [hW]; exact qBA _ _
 have sa : wa.heap.size = w.heap.size + 1 := by rw [hwa]; exact Array.size_push (xs := w.heap) _
 have sW : W.heap.size = w.heap.size + 1 + 1 := by rw [← sa, hW]; exact Array.size_push (xs := wa.heap) _
 have hg1 : W.heap[w.heap.size]? = some (.cells #[.int .i64 V, .slice ao ns.length c, .int .i64 top] 24) := qaa (by rw [hwa]; exact heap_alloc_new w _) bW
 have hg2 : W.heap[w.heap.size + 1]? = some (.cells #[.int .i64 0, .slice none 0 0, .int .i64 0] 24) := by rw [← sa, hW]; exact heap_alloc_new wa _
 have HBW := qHd (ba.trans (bW.mono ba.size))
 obtain ⟨g1, hG1⟩ : ∃ g, g = w.heap.size := ⟨_, rfl⟩
 obtain ⟨g2, hG2⟩ : ∃ g, g = w.heap.size + 1 := ⟨_, rfl⟩
 rw [← hG1] at hg1; rw [← hG2] at hg2
 have l1 : w.heap.size ≤ g1 := by omega
 have l2 : w.heap.size ≤ g2 := by omega
 have G1 := qHd hg1; have G2 := qHd hg2
 have L12 := qHd (show g1 < W.heap.size ∧ g2 < W.heap.size from ⟨by omega, by omega⟩)
 obtain ⟨x0, x1, x2⟩ := qaq hg1
 rw [hW, hwa, hG1] at x0 x1 x2
 clear ba bW sa sW hg1 hg2
 have HK := qHd (qdh _ ⟨(V : Nat), ns, top⟩ W (HF.out.below HBW.out))
 rw [E0.out, qce] at HK
 go_enter Tryz.func11, Tryz.ntmps11
 go_wp2_with (with_reducible refine qac ?_)
 rw [← hwa, ← hW, ← hG2, ← hG1]
 clear hwa hW hG2 hG1 x0 x1 x2
 refine qad.mk ?_
 (with_reducible refine HK.out.mono ?_); rintro e w1 ⟨rfl, hb1⟩
 have HB1 := qHd (HBW.out.trans (hb1.mono HBW.out.size)); have G1 := qHd (qaa G1.out hb1); have G2 := qHd (qaa G2.out hb1)
 have L12 := qHd (show g1 < w1.heap.size ∧ g2 < w1.heap.size from ⟨Nat.lt_of_lt_of_le L12.out.1 hb1.size, Nat.lt_of_lt_of_le L12.out.2 hb1.size⟩)
 clear hb1 HK HBW
 obtain ⟨w2, hw2⟩ : ∃ z0, z0 = w1.alloc (.cells #[.int .i64 V, .slice none 0 0, .int .i64 0] 65) := ⟨_, rfl⟩
 have hb2 : Below w1.heap.size w1 w2 := by rw [hw2]; exact qBA _ _
 obtain ⟨gb, hg2⟩ : ∃ g, g = w1.heap.size := ⟨_, rfl⟩
 have hx2 : w2.heap[gb]? = some (.cells #[.int .i64 V, .slice none 0 0, .int .i64 0] 65) := by rw [hw2, hg2]; exact heap_alloc_new _ _
 have hs2 : w2.heap.size = w1.heap.size + 1 := by rw [hw2]; simp
 obtain ⟨B0, hB0⟩ : ∃ b, b = w1.heap.size := ⟨_, rfl⟩
 have HB2 := qHd (show Below B0 w1 w2 by rw [hB0]; exact hb2)
 have HS1 := qHd (show w.heap.size ≤ B0 ∧ B0 ≤ w1.heap.size ∧ B0 = w1.heap.size from ⟨by rw [hB0]; exact HB1.out.size, by omega, hB0⟩)
 have GBL := qHd (show ∀ g, w2.heap.size ≤ g → B0 ≤ g from fun g h => by omega)
 have GNE := qHd (show ∀ g, w2.heap.size ≤ g → gb ≠ g from fun g h => by omega)
 have L12 := qHd (show g1 < B0 ∧ g2 < B0 by rw [hB0]; exact L12.out)
 have M2 := qHd (show Bd w2 B0 [gb] gb (.slice none 0 0) V [] 0 from ⟨hx2, NdL.nil _ _ _, by simp, by omega, fun g hg => by rw [List.mem_singleton] at hg; subst hg; exact qao hx2⟩)
 obtain ⟨x0, x1, x2⟩ := qaq (qaa G1.out hb2)
 rw [hw2] at x0 x1 x2
 obtain ⟨z0, z1, z2⟩ := qaq G1.out
 clear hb2 hx2 hs2
 go_wp2_with (with_reducible first | refine qah ?_ | refine qae ?_)
 rw [← hw2, ← hg2]
 clear hw2 hg2 x0 x1 x2 z0 z1 z2 hB0
 refine qad.mk ?_
 go_loopw [25, 6] (fun i' tv wx => ∃ q : Nat, q ≤ V ∧ i' = .int .i64 q ∧ Hid (Below B0 w1 wx) ∧ Hid (Bd wx B0 (tv.ownBlock.toList ++ [gb]) gb (.slice none 0 0) V [] 0) ∧ Hid (qbx wx w2.heap.size 3 1 tv q (qbm (rangeI q))) ∧ Hid (w2.heap.size ≤ wx.heap.size)) (fun i' _ _ => V - (intOf i').toNat)
 case atStart => exact ⟨0, Nat.zero_le _, rfl, HB2, M2, qHd (qbx.nil _ _ _ _), qHd (Nat.le_refl _)⟩
 case round =>
  obtain ⟨q, hq, rfl, HBX, MX, OX, SX⟩ := hrel
  obtain ⟨wi, rfl⟩ : ∃ wi : World, wi = wr := ⟨_, rfl⟩
  obtain ⟨aoi, ci, rfl, hci, hci2, _⟩ := qaz OX.out.1
  by_cases hlt : q < V
  ·have hltz : (q : Int) < (V : Int) := by omega
   obtain ⟨wqP, hwaP⟩ : ∃ z0, z0 = wi.alloc (.cells #[.int .i64 ((q : Nat) : Int)] 3) := ⟨_, rfl⟩
   have hbaP : Below wi.heap.size wi wqP := by rw [hwaP]; exact qBA _ _
   obtain ⟨gaP, hgaP⟩ : ∃ g, g = wi.heap.size := ⟨_, rfl⟩
   have hxaP : wqP.heap[gaP]? = some (.cells #[.int .i64 ((q : Nat) : Int)] 3) := by rw [hwaP, hgaP]; exact heap_alloc_new _ _
   have hsaP : wqP.heap.size = wi.heap.size + 1 := by rw [hwaP]; simp
   have OQ := qHd (OX.out.below hbaP); have GQ := qHd hxaP; have MQ := qHd (MX.out.below hbaP); have HBQ := qHd (qcg HBX.out HS1.out.2.1 hbaP)
   have hszq : w2.heap.size ≤ wqP.heap.size := Nat.le_trans SX.out hbaP.size
   clear hbaP hxaP hsaP
   go_wp2_with (with_reducible refine qam ?_)
   rw [← hwaP, ← hgaP]
   clear hwaP hgaP
   refine qar (w2.heap.size) Tryz.intTyK rfl (qal [0]) (by decide) (Value.slice aoi q ci) (q) _ [.int .i64 ((q : Nat) : Int)] gaP 3 rfl rfl OQ.out GQ.out rfl rfl (qal [((q : Nat) : Int)]) (qal _) (by omega) (by decide) hszq ?_
   intro vP w6 hoP hgP hfrP
   have EQ : Exc wqP w6 (Value.slice aoi q ci).ownBlock.toList := Exc.of_grown hgP (fun g hg => by rw [hg]; simp)
   have OP := qHd (show qbx w6 (w2.heap.size) 3 1 vP (q + 1) (qbm (rangeI q ++ [((q : Nat) : Int)])) by rw [qbf]; exact hoP)
   have OBQ := fun g (hg : (Value.slice aoi q ci).ownBlock = some g) => World.ownsRow.lt OQ.out.1 g hg
   have MP := qHd (MQ.out.step (Y := vP.ownBlock.toList ++ [gb]) EQ (fun g hg => .inl (List.mem_append.2 (.inl hg))) (fun hg => GNE.out gb (OBQ gb (by simpa using hg)).1 rfl) (fun g hg => by
    rcases List.mem_append.1 hg with qq | qq
    ·have q' : vP.ownBlock = some g := by simpa using qq
     rcases Nat.lt_or_ge g wqP.heap.size with r | r
     ·by_cases e : (Value.slice aoi q ci).ownBlock = some g
      ·exact .inl (List.mem_append.2 (.inl (by rw [e]; simp)))
      ·exact absurd q' (hfrP g r e)
     ·exact .inr ⟨r, (World.ownsRow.lt OP.out.1 g q').2⟩
    ·exact .inl (List.mem_append.2 (.inr qq))) (by simp))
   have SZP := qHd (Nat.le_trans hszq EQ.size)
   have HBP := qHd (EQ.low HBQ.out (Nat.le_trans HS1.out.2.1 HBQ.out.size) (fun g hg => GBL.out g (OBQ g (by simpa using hg)).1))
   have FRP := qHd (fun g (h1 : g < wqP.heap.size) (h2 : (Value.slice aoi q ci).ownBlock ≠ some g) => hfrP g h1 h2)
   clear hoP hgP hfrP EQ OBQ hszq
   go_wp2_with fail
   go_roundw
   case rel => exact ⟨q + 1, by omega, by go_num, HBP, MP, qHd (by rw [rangeI_succ]; exact OP.out), SZP⟩
   case measure => simp [intOf]; omega
  ·have hq' : V = q := by omega
   subst hq'
   obtain ⟨x0, x1, x2⟩ := qaq (qbo HBX.out G1.out L12.out.1)
   go_wp2_with (with_reducible first | refine qah ?_ | refine qae ?_)
   clear x0 x1 x2
   refine qad.mk ?_
   clear hlt
   go_loopw [36, 6] (fun i' tv wx => ∃ (j : Nat) (v1 : Value) (out : List Nd) (tl : List Int), j ≤ ns.length ∧ i' = .int .i64 j ∧ Hid (Below B0 w1 wx) ∧ Hid (Bd wx B0 (tv.ownBlock.toList ++ [gb]) gb v1 V out 0) ∧ Hid (qbx wx w2.heap.size 3 1 tv (V + j) (qbm tl)) ∧ Hid (w2.heap.size ≤ wx.heap.size) ∧ Hid (tl.length = V + j ∧ out.length ≤ 2 * j) ∧ Hid (Dul V (ns.take j) out (fun i => tl.getD i 0))) (fun i' _ _ => ns.length - (intOf i').toNat)
   case atStart => exact ⟨0, _, _, rangeI V, Nat.zero_le _, rfl, HBX, MX, OX, SX, qHd ⟨qdg V, by simp⟩, qHd (by rw [List.take_zero]; exact Dul.start (fun j hj => rangeI_getD hj))⟩
   case round =>
    clear HBX MX OX SX
    obtain ⟨j, v1, out, tl, hj, rfl, HBX, MX, OX, SX, LL, DL⟩ := hrel
    obtain ⟨wo, rfl⟩ : ∃ wo : World, wo = wr := ⟨_, rfl⟩
    obtain ⟨aot, ct, rfl, hct, hct2, _⟩ := qaz OX.out.1
    by_cases hlt : j < ns.length
    ·obtain ⟨x, hx⟩ : ∃ x, ns[j]? = some x := ⟨ns[j], List.getElem?_eq_getElem hlt⟩
     have HBO := qHd (HB1.out.trans (HBX.out.mono HS1.out.1))
     obtain ⟨b, off, rfl, hb, u1, hat⟩ := (HN.out.below HBO.out).at (by omega)
     clear u1 hb
     obtain ⟨c0, c1, ⟨av, c2, hI⟩, hk, hK⟩ := hat j x hx
     clear hat
     have HXJ := qHd hx; have HE := qHd (ndErr_nat HNO.out hx)
     clear hx
     have h16 := (args_16 HE.out).1
     obtain ⟨ao', c', rfl, hc', hc2', _⟩ := hI.shape
     obtain ⟨k, K, args⟩ := x
     have HI := qHd hI; have HKK := qHd (And.intro hk hK); clear hI hk hK
     simp only at c0 c1 c2 HI HKK h16 hc'
     have hpar := (qav HE.out).1
     have hKo := (qav HE.out).2.2.2
     have hAG := qHd (qav HE.out).2.2.1
     simp only at hpar hKo hAG
     have hlj : (ns.take j).length = j := by rw [List.length_take]; omega
     have HLJ := qHd hlj; clear hlj
     have hltz : (j : Int) < (ns.length : Int) := by omega
     obtain ⟨W3, hw3⟩ : ∃ z0, z0 = wo.alloc (.cells #[.int .i64 k, .int .i64 K, .slice ao' args.length c'] 56) := ⟨_, rfl⟩
     have hb3 : Below wo.heap.size wo W3 := by rw [hw3]; exact qBA _ _
     obtain ⟨gn, hg3⟩ : ∃ g, g = wo.heap.size := ⟨_, rfl⟩
     have hx3 : W3.heap[gn]? = some (.cells #[.int .i64 k, .int .i64 K, .slice ao' args.length c'] 56) := by rw [hw3, hg3]; exact heap_alloc_new _ _
     have hs3 : W3.heap.size = wo.heap.size + 1 := by rw [hw3]; simp
     have G8 := qHd hx3; have O3 := qHd (OX.out.below hb3); have HB3 := qHd (qcg HBX.out HS1.out.2.1 hb3); have SX3 := qHd (Nat.le_trans SX.out hb3.size); have HI3 := qHd (HI.out.below hb3)
     have NG := qHd (show gn ≠ gb from fun e => by have := MX.out.all gb (by simp); omega)
     have OT := qHd (fun g (hg : (Value.slice aot (V + j) ct).ownBlock = some g) => World.ownsRow.lt OX.out.1 g hg)
     have M3 := qHd (MX.out.new (Y := gn :: ((Value.slice aot (V + j) ct).ownBlock.toList ++ [gb])) hb3 (fun g hg => by
      rcases List.mem_cons.1 hg with e | e
      ·subst e; exact .inr ⟨by omega, by omega⟩
      ·exact .inl e) (by simp))
     have HT3 := qHd (qbl (l := tl) (by rw [LL.out.1]; exact O3.out.1) (ints_arg hV (by have := LL.out.2; omega) (fun i hi => DL.out.arg i (by rw [HLJ.out]; rw [LL.out.1] at hi; exact hi))))
     have NTO := qHd (show ∀ g, (Value.slice aot (V + j) ct).ownBlock = some g → g ≠ gn from fun g hg e => by have := (OT.out g hg).2; omega)
     obtain ⟨x0, x1, x2⟩ := qaq hx3
     rw [hw3, hg3] at x0 x1 x2
     clear hb3 hx3 hs3
     have HK := qHd (nmap_any (.slice ao' args.length c') _ args tl W3 HI3.out HT3.out (fun y hy => by
      obtain ⟨q1, q2⟩ := hAG.out y hy
      rw [LL.out.1]; exact ⟨q1, by omega⟩) (by omega) (by rw [LL.out.1]; omega))
     go_wp2_with (with_reducible refine qac ?_)
     rw [← hw3, ← hg3]
     clear hw3 hg3 x0 x1 x2 c0 c1 c2
     refine qad.mk ?_
     (with_reducible refine HK.out.mono ?_); rintro e w4 ⟨va, rfl, hb4, hi4, hf4⟩
     obtain ⟨aa, ca, rfl, hca, hca2, _⟩ := hi4.shape
     rw [List.length_map] at hca
     obtain ⟨na, hna⟩ : ∃ n, n = args.length := ⟨_, rfl⟩
     have HI4 := qHd hi4; have HF4 := qHd hf4
     have AP := qHd (M3.out.apart (l := args.map (iA (fun i => tl.getD i 0))) (Nat.le_refl _) hf4)
     have M4 := qHd (M3.out.below hb4); have O4 := qHd (O3.out.below hb4); have HB4 := qHd (qcg HB3.out HS1.out.2.1 hb4); have SX4 := qHd (Nat.le_trans SX3.out hb4.size)
     have G84 := qHd (qaa G8.out hb4)
     clear hb4 hi4 hf4 HK M3 O3 HB3 SX3 HT3 HI3 G8
     have HNA := qHd hna; clear hna
     rw [List.length_map, ← HNA.out] at HI4 HF4 AP ⊢
     rw [← HNA.out] at hca h16
     obtain ⟨x0, x1, x2⟩ := qaq G84.out
     have DN := qHd (fun hk => DL.out.node (x := ⟨k, K, args⟩) (by rw [HLJ.out]; exact HE.out) hk)
     have hkk : k = 0 ∨ k = 1 ∨ k = 2 ∨ k = 3 ∨ k = 4 ∨ k = 5 := by omega
     rcases hkk with rfl | rfl | rfl | rfl | rfl | rfl
     ·skip
      have hK01 : K = 0 ∨ K = 1 := by simpa [kOK] using hKo
      have hl0 : args = [] := by have := (qav HE.out).2.1; simpa [qbq] using this
      have HK := qHd (qbd B0 gb V (_) v1 (.slice none 0 0) (out) 0 (0) ((1 - K)) ([]) w4 M4.out (qbi.nil0 _) (⟨fun h => absurd h (by simp), fun h => absurd h (by simp)⟩) ⟨by decide, by decide⟩ ⟨by omega, by omega⟩ hV (by have := LL.out.2; omega))
      go_wp2_with (with_reducible refine qac ?_)
      refine qad.mk ?_
      (with_reducible refine HK.out.mono ?_); rintro e w5 ⟨vv5, rfl, hC, hM2⟩
      have CB5 := qHd hC; have M5 := qHd hM2
      clear hC hM2 HK
      clear x0 x1 x2
      obtain ⟨x0, x1, x2⟩ := qaq (M4.out.keep CB5.out (by simp) NG.out G84.out)
      have MK0 := qHd M4.out
      have CC := qHd CB5.out
      have O5 := qHd (MK0.out.keepO CC.out (fun g e => ⟨by simp [e], fun h => GNE.out g (OT.out g e).1 h.symm⟩) O4.out)
      have HB5 := qHd (MK0.out.low CC.out HB4.out); have SX5 := qHd (Nat.le_trans SX4.out CC.out.exc.size)
      have MZ := qHd (M5.out.sub (Y := (Value.slice aot (V + j) ct).ownBlock.toList ++ [gb]) (by simp) (fun g hg => List.mem_cons_of_mem _ hg))
      obtain ⟨rr, hrr⟩ : ∃ z : Int, z = ((V + out.length : Nat) : Int) := ⟨_, rfl⟩
      have HRR := qHd hrr
      have GW := qHd (show Grw V out (out ++ [(⟨0, (1 - K), []⟩ : Nd)]) rr (fun e0 => !nv (qaj (turnE e0) (ns.take j)) ⟨0, K, args⟩) by rw [hrr]; exact (by have := DN.out (.inl (by simp)); simp only [hl0, List.map_nil] at this ⊢; exact this))
      rw [← hrr]
      clear hrr
      obtain ⟨wqP, hwaP⟩ : ∃ z0, z0 = w5.alloc (.cells #[.int .i64 rr] 3) := ⟨_, rfl⟩
      have hbaP : Below w5.heap.size w5 wqP := by rw [hwaP]; exact qBA _ _
      obtain ⟨gaP, hgaP⟩ : ∃ g, g = w5.heap.size := ⟨_, rfl⟩
      have hxaP : wqP.heap[gaP]? = some (.cells #[.int .i64 rr] 3) := by rw [hwaP, hgaP]; exact heap_alloc_new _ _
      have hsaP : wqP.heap.size = w5.heap.size + 1 := by rw [hwaP]; simp
      have OQ := qHd (O5.out.below hbaP); have GQ := qHd hxaP; have MQ := qHd (MZ.out.below hbaP); have HBQ := qHd (qcg HB5.out HS1.out.2.1 hbaP)
      have hszq : w2.heap.size ≤ wqP.heap.size := Nat.le_trans SX5.out hbaP.size
      clear hbaP hxaP hsaP
      go_wp2_with (with_reducible refine qam ?_)
      rw [← hwaP, ← hgaP]
      clear hwaP hgaP
      refine qar (w2.heap.size) Tryz.intTyK rfl (qal [0]) (by decide) (Value.slice aot (V + j) ct) (V + j) _ [.int .i64 rr] gaP 3 rfl rfl OQ.out GQ.out rfl rfl (qal [rr]) (qal _) (by omega) (by decide) hszq ?_
      intro vP w9 hoP hgP hfrP
      have EQ : Exc wqP w9 (Value.slice aot (V + j) ct).ownBlock.toList := Exc.of_grown hgP (fun g hg => by rw [hg]; simp)
      have OP := qHd (show qbx w9 (w2.heap.size) 3 1 vP (V + j + 1) (qbm (tl ++ [rr])) by rw [qbf]; exact hoP)
      have OBQ := fun g (hg : (Value.slice aot (V + j) ct).ownBlock = some g) => World.ownsRow.lt OQ.out.1 g hg
      have MP := qHd (MQ.out.step (Y := vP.ownBlock.toList ++ [gb]) EQ (fun g hg => .inl (List.mem_append.2 (.inl hg))) (fun hg => GNE.out gb (OBQ gb (by simpa using hg)).1 rfl) (fun g hg => by
       rcases List.mem_append.1 hg with qq | qq
       ·have q' : vP.ownBlock = some g := by simpa using qq
        rcases Nat.lt_or_ge g wqP.heap.size with r | r
        ·by_cases e : (Value.slice aot (V + j) ct).ownBlock = some g
         ·exact .inl (List.mem_append.2 (.inl (by rw [e]; simp)))
         ·exact absurd q' (hfrP g r e)
        ·exact .inr ⟨r, (World.ownsRow.lt OP.out.1 g q').2⟩
       ·exact .inl (List.mem_append.2 (.inr qq))) (by simp))
      have SZP := qHd (Nat.le_trans hszq EQ.size)
      have HBP := qHd (EQ.low HBQ.out (Nat.le_trans HS1.out.2.1 HBQ.out.size) (fun g hg => GBL.out g (OBQ g (by simpa using hg)).1))
      have FRP := qHd (fun g (h1 : g < wqP.heap.size) (h2 : (Value.slice aot (V + j) ct).ownBlock ≠ some g) => hfrP g h1 h2)
      clear hoP hgP hfrP EQ OBQ hszq
      have D9 := qHd (show Dul V (ns.take (j + 1)) (out ++ [(⟨0, (1 - K), []⟩ : Nd)]) (fun i => (tl ++ [rr]).getD i 0) by
       rw [qbs HXJ.out]
       refine DL.out.next (qbp HNO.out j) (by rw [HLJ.out]; exact HE.out) GW.out (fun i hi => ?_) ?_
       ·exact qcv (by rw [LL.out.1]; rw [HLJ.out] at hi; exact hi)
       ·show (tl ++ [rr]).getD (V + (ns.take j).length) 0 = rr
        rw [HLJ.out, ← LL.out.1]; exact qcw)
      go_wp2_with fail
      go_roundw
      case rel => exact ⟨j + 1, _, (out ++ [(⟨0, (1 - K), []⟩ : Nd)]), tl ++ [rr], by omega, by go_num, HBP, MP, OP, SZP, qHd ⟨by rw [List.length_append, LL.out.1]; rfl, by have := LL.out.2; simp only [List.length_append, List.length_singleton]; omega⟩, D9⟩
      case measure => simp [intOf]; omega
     ·skip
      have HK := qHd (qbd B0 gb V (_) v1 (.slice aa na ca) (out) 0 (1) (0) ((args.map (iA (fun i => tl.getD i 0)))) w4 M4.out HI4.out (⟨AP.out.1, fun h => AP.out.2 (by rw [List.length_map, ← HNA.out] at h; exact h)⟩) ⟨by decide, by decide⟩ ⟨by decide, by decide⟩ hV (by have := LL.out.2; omega))
      go_wp2_with (with_reducible refine qac ?_)
      refine qad.mk ?_
      (with_reducible refine HK.out.mono ?_); rintro e w5 ⟨vv5, rfl, hC, hM2⟩
      have CB5 := qHd hC; have M5 := qHd hM2
      clear hC hM2 HK
      clear x0 x1 x2
      obtain ⟨x0, x1, x2⟩ := qaq (M4.out.keep CB5.out (by simp) NG.out G84.out)
      have MK0 := qHd M4.out
      have CC := qHd CB5.out
      have O5 := qHd (MK0.out.keepO CC.out (fun g e => ⟨by simp [e], fun h => GNE.out g (OT.out g e).1 h.symm⟩) O4.out)
      have HB5 := qHd (MK0.out.low CC.out HB4.out); have SX5 := qHd (Nat.le_trans SX4.out CC.out.exc.size)
      have MZ := qHd (M5.out.sub (Y := (Value.slice aot (V + j) ct).ownBlock.toList ++ [gb]) (by simp) (fun g hg => List.mem_cons_of_mem _ hg))
      obtain ⟨rr, hrr⟩ : ∃ z : Int, z = ((V + out.length : Nat) : Int) := ⟨_, rfl⟩
      have HRR := qHd hrr
      have GW := qHd (show Grw V out (out ++ [(⟨1, 0, (args.map (iA (fun i => tl.getD i 0)))⟩ : Nd)]) rr (fun e0 => !nv (qaj (turnE e0) (ns.take j)) ⟨1, K, args⟩) by rw [hrr]; exact DN.out (.inl (by simp)))
      rw [← hrr]
      clear hrr
      obtain ⟨wqP, hwaP⟩ : ∃ z0, z0 = w5.alloc (.cells #[.int .i64 rr] 3) := ⟨_, rfl⟩
      have hbaP : Below w5.heap.size w5 wqP := by rw [hwaP]; exact qBA _ _
      obtain ⟨gaP, hgaP⟩ : ∃ g, g = w5.heap.size := ⟨_, rfl⟩
      have hxaP : wqP.heap[gaP]? = some (.cells #[.int .i64 rr] 3) := by rw [hwaP, hgaP]; exact heap_alloc_new _ _
      have hsaP : wqP.heap.size = w5.heap.size + 1 := by rw [hwaP]; simp
      have OQ := qHd (O5.out.below hbaP); have GQ := qHd hxaP; have MQ := qHd (MZ.out.below hbaP); have HBQ := qHd (qcg HB5.out HS1.out.2.1 hbaP)
      have hszq : w2.heap.size ≤ wqP.heap.size := Nat.le_trans SX5.out hbaP.size
      clear hbaP hxaP hsaP
      go_wp2_with (with_reducible refine qam ?_)
      rw [← hwaP, ← hgaP]
      clear hwaP hgaP
      refine qar (w2.heap.size) Tryz.intTyK rfl (qal [0]) (by decide) (Value.slice aot (V + j) ct) (V + j) _ [.int .i64 rr] gaP 3 rfl rfl OQ.out GQ.out rfl rfl (qal [rr]) (qal _) (by omega) (by decide) hszq ?_
      intro vP w9 hoP hgP hfrP
      have EQ : Exc wqP w9 (Value.slice aot (V + j) ct).ownBlock.toList := Exc.of_grown hgP (fun g hg => by rw [hg]; simp)
      have OP := qHd (show qbx w9 (w2.heap.size) 3 1 vP (V + j + 1) (qbm (tl ++ [rr])) by rw [qbf]; exact hoP)
      have OBQ := fun g (hg : (Value.slice aot (V + j) ct).ownBlock = some g) => World.ownsRow.lt OQ.out.1 g hg
      have MP := qHd (MQ.out.step (Y := vP.ownBlock.toList ++ [gb]) EQ (fun g hg => .inl (List.mem_append.2 (.inl hg))) (fun hg => GNE.out gb (OBQ gb (by simpa using hg)).1 rfl) (fun g hg => by
       rcases List.mem_append.1 hg with qq | qq
       ·have q' : vP.ownBlock = some g := by simpa using qq
        rcases Nat.lt_or_ge g wqP.heap.size with r | r
        ·by_cases e : (Value.slice aot (V + j) ct).ownBlock = some g
         ·exact .inl (List.mem_append.2 (.inl (by rw [e]; simp)))
         ·exact absurd q' (hfrP g r e)
        ·exact .inr ⟨r, (World.ownsRow.lt OP.out.1 g q').2⟩
       ·exact .inl (List.mem_append.2 (.inr qq))) (by simp))
      have SZP := qHd (Nat.le_trans hszq EQ.size)
      have HBP := qHd (EQ.low HBQ.out (Nat.le_trans HS1.out.2.1 HBQ.out.size) (fun g hg => GBL.out g (OBQ g (by simpa using hg)).1))
      have FRP := qHd (fun g (h1 : g < wqP.heap.size) (h2 : (Value.slice aot (V + j) ct).ownBlock ≠ some g) => hfrP g h1 h2)
      clear hoP hgP hfrP EQ OBQ hszq
      have D9 := qHd (show Dul V (ns.take (j + 1)) (out ++ [(⟨1, 0, (args.map (iA (fun i => tl.getD i 0)))⟩ : Nd)]) (fun i => (tl ++ [rr]).getD i 0) by
       rw [qbs HXJ.out]
       refine DL.out.next (qbp HNO.out j) (by rw [HLJ.out]; exact HE.out) GW.out (fun i hi => ?_) ?_
       ·exact qcv (by rw [LL.out.1]; rw [HLJ.out] at hi; exact hi)
       ·show (tl ++ [rr]).getD (V + (ns.take j).length) 0 = rr
        rw [HLJ.out, ← LL.out.1]; exact qcw)
      go_wp2_with fail
      go_roundw
      case rel => exact ⟨j + 1, _, (out ++ [(⟨1, 0, (args.map (iA (fun i => tl.getD i 0)))⟩ : Nd)]), tl ++ [rr], by omega, by go_num, HBP, MP, OP, SZP, qHd ⟨by rw [List.length_append, LL.out.1]; rfl, by have := LL.out.2; simp only [List.length_append, List.length_singleton]; omega⟩, D9⟩
      case measure => simp [intOf]; omega
     ·skip
      have HK := qHd (qbd B0 gb V (_) v1 (.slice aa na ca) (out) 0 (3) (0) ((args.map (iA (fun i => tl.getD i 0)))) w4 M4.out HI4.out (⟨AP.out.1, fun h => AP.out.2 (by rw [List.length_map, ← HNA.out] at h; exact h)⟩) ⟨by decide, by decide⟩ ⟨by decide, by decide⟩ hV (by have := LL.out.2; omega))
      go_wp2_with (with_reducible refine qac ?_)
      refine qad.mk ?_
      (with_reducible refine HK.out.mono ?_); rintro e w5 ⟨vv5, rfl, hC, hM2⟩
      have CB5 := qHd hC; have M5 := qHd hM2
      clear hC hM2 HK
      clear x0 x1 x2
      obtain ⟨x0, x1, x2⟩ := qaq (M4.out.keep CB5.out (by simp) NG.out G84.out)
      have MK0 := qHd M4.out
      have CC := qHd CB5.out
      have O5 := qHd (MK0.out.keepO CC.out (fun g e => ⟨by simp [e], fun h => GNE.out g (OT.out g e).1 h.symm⟩) O4.out)
      have HB5 := qHd (MK0.out.low CC.out HB4.out); have SX5 := qHd (Nat.le_trans SX4.out CC.out.exc.size)
      have MZ := qHd (M5.out.sub (Y := (Value.slice aot (V + j) ct).ownBlock.toList ++ [gb]) (by simp) (fun g hg => List.mem_cons_of_mem _ hg))
      obtain ⟨rr, hrr⟩ : ∃ z : Int, z = ((V + out.length : Nat) : Int) := ⟨_, rfl⟩
      have HRR := qHd hrr
      have GW := qHd (show Grw V out (out ++ [(⟨3, 0, (args.map (iA (fun i => tl.getD i 0)))⟩ : Nd)]) rr (fun e0 => !nv (qaj (turnE e0) (ns.take j)) ⟨2, K, args⟩) by rw [hrr]; exact DN.out (.inl (by simp)))
      rw [← hrr]
      clear hrr
      obtain ⟨wqP, hwaP⟩ : ∃ z0, z0 = w5.alloc (.cells #[.int .i64 rr] 3) := ⟨_, rfl⟩
      have hbaP : Below w5.heap.size w5 wqP := by rw [hwaP]; exact qBA _ _
      obtain ⟨gaP, hgaP⟩ : ∃ g, g = w5.heap.size := ⟨_, rfl⟩
      have hxaP : wqP.heap[gaP]? = some (.cells #[.int .i64 rr] 3) := by rw [hwaP, hgaP]; exact heap_alloc_new _ _
      have hsaP : wqP.heap.size = w5.heap.size + 1 := by rw [hwaP]; simp
      have OQ := qHd (O5.out.below hbaP); have GQ := qHd hxaP; have MQ := qHd (MZ.out.below hbaP); have HBQ := qHd (qcg HB5.out HS1.out.2.1 hbaP)
      have hszq : w2.heap.size ≤ wqP.heap.size := Nat.le_trans SX5.out hbaP.size
      clear hbaP hxaP hsaP
      go_wp2_with (with_reducible refine qam ?_)
      rw [← hwaP, ← hgaP]
      clear hwaP hgaP
      refine qar (w2.heap.size) Tryz.intTyK rfl (qal [0]) (by decide) (Value.slice aot (V + j) ct) (V + j) _ [.int .i64 rr] gaP 3 rfl rfl OQ.out GQ.out rfl rfl (qal [rr]) (qal _) (by omega) (by decide) hszq ?_
      intro vP w9 hoP hgP hfrP
      have EQ : Exc wqP w9 (Value.slice aot (V + j) ct).ownBlock.toList := Exc.of_grown hgP (fun g hg => by rw [hg]; simp)
      have OP := qHd (show qbx w9 (w2.heap.size) 3 1 vP (V + j + 1) (qbm (tl ++ [rr])) by rw [qbf]; exact hoP)
      have OBQ := fun g (hg : (Value.slice aot (V + j) ct).ownBlock = some g) => World.ownsRow.lt OQ.out.1 g hg
      have MP := qHd (MQ.out.step (Y := vP.ownBlock.toList ++ [gb]) EQ (fun g hg => .inl (List.mem_append.2 (.inl hg))) (fun hg => GNE.out gb (OBQ gb (by simpa using hg)).1 rfl) (fun g hg => by
       rcases List.mem_append.1 hg with qq | qq
       ·have q' : vP.ownBlock = some g := by simpa using qq
        rcases Nat.lt_or_ge g wqP.heap.size with r | r
        ·by_cases e : (Value.slice aot (V + j) ct).ownBlock = some g
         ·exact .inl (List.mem_append.2 (.inl (by rw [e]; simp)))
         ·exact absurd q' (hfrP g r e)
        ·exact .inr ⟨r, (World.ownsRow.lt OP.out.1 g q').2⟩
       ·exact .inl (List.mem_append.2 (.inr qq))) (by simp))
      have SZP := qHd (Nat.le_trans hszq EQ.size)
      have HBP := qHd (EQ.low HBQ.out (Nat.le_trans HS1.out.2.1 HBQ.out.size) (fun g hg => GBL.out g (OBQ g (by simpa using hg)).1))
      have FRP := qHd (fun g (h1 : g < wqP.heap.size) (h2 : (Value.slice aot (V + j) ct).ownBlock ≠ some g) => hfrP g h1 h2)
      clear hoP hgP hfrP EQ OBQ hszq
      have D9 := qHd (show Dul V (ns.take (j + 1)) (out ++ [(⟨3, 0, (args.map (iA (fun i => tl.getD i 0)))⟩ : Nd)]) (fun i => (tl ++ [rr]).getD i 0) by
       rw [qbs HXJ.out]
       refine DL.out.next (qbp HNO.out j) (by rw [HLJ.out]; exact HE.out) GW.out (fun i hi => ?_) ?_
       ·exact qcv (by rw [LL.out.1]; rw [HLJ.out] at hi; exact hi)
       ·show (tl ++ [rr]).getD (V + (ns.take j).length) 0 = rr
        rw [HLJ.out, ← LL.out.1]; exact qcw)
      go_wp2_with fail
      go_roundw
      case rel => exact ⟨j + 1, _, (out ++ [(⟨3, 0, (args.map (iA (fun i => tl.getD i 0)))⟩ : Nd)]), tl ++ [rr], by omega, by go_num, HBP, MP, OP, SZP, qHd ⟨by rw [List.length_append, LL.out.1]; rfl, by have := LL.out.2; simp only [List.length_append, List.length_singleton]; omega⟩, D9⟩
      case measure => simp [intOf]; omega
     ·skip
      have HK := qHd (qbd B0 gb V (_) v1 (.slice aa na ca) (out) 0 (2) (0) ((args.map (iA (fun i => tl.getD i 0)))) w4 M4.out HI4.out (⟨AP.out.1, fun h => AP.out.2 (by rw [List.length_map, ← HNA.out] at h; exact h)⟩) ⟨by decide, by decide⟩ ⟨by decide, by decide⟩ hV (by have := LL.out.2; omega))
      go_wp2_with (with_reducible refine qac ?_)
      refine qad.mk ?_
      (with_reducible refine HK.out.mono ?_); rintro e w5 ⟨vv5, rfl, hC, hM2⟩
      have CB5 := qHd hC; have M5 := qHd hM2
      clear hC hM2 HK
      clear x0 x1 x2
      obtain ⟨x0, x1, x2⟩ := qaq (M4.out.keep CB5.out (by simp) NG.out G84.out)
      have MK0 := qHd M4.out
      have CC := qHd CB5.out
      have O5 := qHd (MK0.out.keepO CC.out (fun g e => ⟨by simp [e], fun h => GNE.out g (OT.out g e).1 h.symm⟩) O4.out)
      have HB5 := qHd (MK0.out.low CC.out HB4.out); have SX5 := qHd (Nat.le_trans SX4.out CC.out.exc.size)
      have MZ := qHd (M5.out.sub (Y := (Value.slice aot (V + j) ct).ownBlock.toList ++ [gb]) (by simp) (fun g hg => List.mem_cons_of_mem _ hg))
      obtain ⟨rr, hrr⟩ : ∃ z : Int, z = ((V + out.length : Nat) : Int) := ⟨_, rfl⟩
      have HRR := qHd hrr
      have GW := qHd (show Grw V out (out ++ [(⟨2, 0, (args.map (iA (fun i => tl.getD i 0)))⟩ : Nd)]) rr (fun e0 => !nv (qaj (turnE e0) (ns.take j)) ⟨3, K, args⟩) by rw [hrr]; exact DN.out (.inl (by simp)))
      rw [← hrr]
      clear hrr
      obtain ⟨wqP, hwaP⟩ : ∃ z0, z0 = w5.alloc (.cells #[.int .i64 rr] 3) := ⟨_, rfl⟩
      have hbaP : Below w5.heap.size w5 wqP := by rw [hwaP]; exact qBA _ _
      obtain ⟨gaP, hgaP⟩ : ∃ g, g = w5.heap.size := ⟨_, rfl⟩
      have hxaP : wqP.heap[gaP]? = some (.cells #[.int .i64 rr] 3) := by rw [hwaP, hgaP]; exact heap_alloc_new _ _
      have hsaP : wqP.heap.size = w5.heap.size + 1 := by rw [hwaP]; simp
      have OQ := qHd (O5.out.below hbaP); have GQ := qHd hxaP; have MQ := qHd (MZ.out.below hbaP); have HBQ := qHd (qcg HB5.out HS1.out.2.1 hbaP)
      have hszq : w2.heap.size ≤ wqP.heap.size := Nat.le_trans SX5.out hbaP.size
      clear hbaP hxaP hsaP
      go_wp2_with (with_reducible refine qam ?_)
      rw [← hwaP, ← hgaP]
      clear hwaP hgaP
      refine qar (w2.heap.size) Tryz.intTyK rfl (qal [0]) (by decide) (Value.slice aot (V + j) ct) (V + j) _ [.int .i64 rr] gaP 3 rfl rfl OQ.out GQ.out rfl rfl (qal [rr]) (qal _) (by omega) (by decide) hszq ?_
      intro vP w9 hoP hgP hfrP
      have EQ : Exc wqP w9 (Value.slice aot (V + j) ct).ownBlock.toList := Exc.of_grown hgP (fun g hg => by rw [hg]; simp)
      have OP := qHd (show qbx w9 (w2.heap.size) 3 1 vP (V + j + 1) (qbm (tl ++ [rr])) by rw [qbf]; exact hoP)
      have OBQ := fun g (hg : (Value.slice aot (V + j) ct).ownBlock = some g) => World.ownsRow.lt OQ.out.1 g hg
      have MP := qHd (MQ.out.step (Y := vP.ownBlock.toList ++ [gb]) EQ (fun g hg => .inl (List.mem_append.2 (.inl hg))) (fun hg => GNE.out gb (OBQ gb (by simpa using hg)).1 rfl) (fun g hg => by
       rcases List.mem_append.1 hg with qq | qq
       ·have q' : vP.ownBlock = some g := by simpa using qq
        rcases Nat.lt_or_ge g wqP.heap.size with r | r
        ·by_cases e : (Value.slice aot (V + j) ct).ownBlock = some g
         ·exact .inl (List.mem_append.2 (.inl (by rw [e]; simp)))
         ·exact absurd q' (hfrP g r e)
        ·exact .inr ⟨r, (World.ownsRow.lt OP.out.1 g q').2⟩
       ·exact .inl (List.mem_append.2 (.inr qq))) (by simp))
      have SZP := qHd (Nat.le_trans hszq EQ.size)
      have HBP := qHd (EQ.low HBQ.out (Nat.le_trans HS1.out.2.1 HBQ.out.size) (fun g hg => GBL.out g (OBQ g (by simpa using hg)).1))
      have FRP := qHd (fun g (h1 : g < wqP.heap.size) (h2 : (Value.slice aot (V + j) ct).ownBlock ≠ some g) => hfrP g h1 h2)
      clear hoP hgP hfrP EQ OBQ hszq
      have D9 := qHd (show Dul V (ns.take (j + 1)) (out ++ [(⟨2, 0, (args.map (iA (fun i => tl.getD i 0)))⟩ : Nd)]) (fun i => (tl ++ [rr]).getD i 0) by
       rw [qbs HXJ.out]
       refine DL.out.next (qbp HNO.out j) (by rw [HLJ.out]; exact HE.out) GW.out (fun i hi => ?_) ?_
       ·exact qcv (by rw [LL.out.1]; rw [HLJ.out] at hi; exact hi)
       ·show (tl ++ [rr]).getD (V + (ns.take j).length) 0 = rr
        rw [HLJ.out, ← LL.out.1]; exact qcw)
      go_wp2_with fail
      go_roundw
      case rel => exact ⟨j + 1, _, (out ++ [(⟨2, 0, (args.map (iA (fun i => tl.getD i 0)))⟩ : Nd)]), tl ++ [rr], by omega, by go_num, HBP, MP, OP, SZP, qHd ⟨by rw [List.length_append, LL.out.1]; rfl, by have := LL.out.2; simp only [List.length_append, List.length_singleton]; omega⟩, D9⟩
      case measure => simp [intOf]; omega
     ·skip
      have hK4 : 1 ≤ K ∧ K ≤ (na : Nat) := by rw [HNA.out]; simpa [kOK] using hKo
      have hn16 : na ≤ 16 := h16
      have HK := qHd (qbd B0 gb V (_) v1 (.slice aa na ca) (out) 0 (4) ((((na : Nat) : Int) - K + 1)) ((args.map (iA (fun i => tl.getD i 0)))) w4 M4.out HI4.out (⟨AP.out.1, fun h => AP.out.2 (by rw [List.length_map, ← HNA.out] at h; exact h)⟩) ⟨by decide, by decide⟩ ⟨by omega, by omega⟩ hV (by have := LL.out.2; omega))
      go_wp2_with (with_reducible refine qac ?_)
      refine qad.mk ?_
      (with_reducible refine HK.out.mono ?_); rintro e w5 ⟨vv5, rfl, hC, hM2⟩
      have CB5 := qHd hC; have M5 := qHd hM2
      clear hC hM2 HK
      clear x0 x1 x2
      obtain ⟨x0, x1, x2⟩ := qaq (M4.out.keep CB5.out (by simp) NG.out G84.out)
      have MK0 := qHd M4.out
      have CC := qHd CB5.out
      have O5 := qHd (MK0.out.keepO CC.out (fun g e => ⟨by simp [e], fun h => GNE.out g (OT.out g e).1 h.symm⟩) O4.out)
      have HB5 := qHd (MK0.out.low CC.out HB4.out); have SX5 := qHd (Nat.le_trans SX4.out CC.out.exc.size)
      have MZ := qHd (M5.out.sub (Y := (Value.slice aot (V + j) ct).ownBlock.toList ++ [gb]) (by simp) (fun g hg => List.mem_cons_of_mem _ hg))
      obtain ⟨rr, hrr⟩ : ∃ z : Int, z = ((V + out.length : Nat) : Int) := ⟨_, rfl⟩
      have HRR := qHd hrr
      have GW := qHd (show Grw V out (out ++ [(⟨4, (((na : Nat) : Int) - K + 1), (args.map (iA (fun i => tl.getD i 0)))⟩ : Nd)]) rr (fun e0 => !nv (qaj (turnE e0) (ns.take j)) ⟨4, K, args⟩) by rw [hrr]; exact (by have := DN.out (.inl (by simp)); rw [HNA.out]; exact this))
      rw [← hrr]
      clear hrr
      obtain ⟨wqP, hwaP⟩ : ∃ z0, z0 = w5.alloc (.cells #[.int .i64 rr] 3) := ⟨_, rfl⟩
      have hbaP : Below w5.heap.size w5 wqP := by rw [hwaP]; exact qBA _ _
      obtain ⟨gaP, hgaP⟩ : ∃ g, g = w5.heap.size := ⟨_, rfl⟩
      have hxaP : wqP.heap[gaP]? = some (.cells #[.int .i64 rr] 3) := by rw [hwaP, hgaP]; exact heap_alloc_new _ _
      have hsaP : wqP.heap.size = w5.heap.size + 1 := by rw [hwaP]; simp
      have OQ := qHd (O5.out.below hbaP); have GQ := qHd hxaP; have MQ := qHd (MZ.out.below hbaP); have HBQ := qHd (qcg HB5.out HS1.out.2.1 hbaP)
      have hszq : w2.heap.size ≤ wqP.heap.size := Nat.le_trans SX5.out hbaP.size
      clear hbaP hxaP hsaP
      go_wp2_with (with_reducible refine qam ?_)
      rw [← hwaP, ← hgaP]
      clear hwaP hgaP
      refine qar (w2.heap.size) Tryz.intTyK rfl (qal [0]) (by decide) (Value.slice aot (V + j) ct) (V + j) _ [.int .i64 rr] gaP 3 rfl rfl OQ.out GQ.out rfl rfl (qal [rr]) (qal _) (by omega) (by decide) hszq ?_
      intro vP w9 hoP hgP hfrP
      have EQ : Exc wqP w9 (Value.slice aot (V + j) ct).ownBlock.toList := Exc.of_grown hgP (fun g hg => by rw [hg]; simp)
      have OP := qHd (show qbx w9 (w2.heap.size) 3 1 vP (V + j + 1) (qbm (tl ++ [rr])) by rw [qbf]; exact hoP)
      have OBQ := fun g (hg : (Value.slice aot (V + j) ct).ownBlock = some g) => World.ownsRow.lt OQ.out.1 g hg
      have MP := qHd (MQ.out.step (Y := vP.ownBlock.toList ++ [gb]) EQ (fun g hg => .inl (List.mem_append.2 (.inl hg))) (fun hg => GNE.out gb (OBQ gb (by simpa using hg)).1 rfl) (fun g hg => by
       rcases List.mem_append.1 hg with qq | qq
       ·have q' : vP.ownBlock = some g := by simpa using qq
        rcases Nat.lt_or_ge g wqP.heap.size with r | r
        ·by_cases e : (Value.slice aot (V + j) ct).ownBlock = some g
         ·exact .inl (List.mem_append.2 (.inl (by rw [e]; simp)))
         ·exact absurd q' (hfrP g r e)
        ·exact .inr ⟨r, (World.ownsRow.lt OP.out.1 g q').2⟩
       ·exact .inl (List.mem_append.2 (.inr qq))) (by simp))
      have SZP := qHd (Nat.le_trans hszq EQ.size)
      have HBP := qHd (EQ.low HBQ.out (Nat.le_trans HS1.out.2.1 HBQ.out.size) (fun g hg => GBL.out g (OBQ g (by simpa using hg)).1))
      have FRP := qHd (fun g (h1 : g < wqP.heap.size) (h2 : (Value.slice aot (V + j) ct).ownBlock ≠ some g) => hfrP g h1 h2)
      clear hoP hgP hfrP EQ OBQ hszq
      have D9 := qHd (show Dul V (ns.take (j + 1)) (out ++ [(⟨4, (((na : Nat) : Int) - K + 1), (args.map (iA (fun i => tl.getD i 0)))⟩ : Nd)]) (fun i => (tl ++ [rr]).getD i 0) by
       rw [qbs HXJ.out]
       refine DL.out.next (qbp HNO.out j) (by rw [HLJ.out]; exact HE.out) GW.out (fun i hi => ?_) ?_
       ·exact qcv (by rw [LL.out.1]; rw [HLJ.out] at hi; exact hi)
       ·show (tl ++ [rr]).getD (V + (ns.take j).length) 0 = rr
        rw [HLJ.out, ← LL.out.1]; exact qcw)
      go_wp2_with fail
      go_roundw
      case rel => exact ⟨j + 1, _, (out ++ [(⟨4, (((na : Nat) : Int) - K + 1), (args.map (iA (fun i => tl.getD i 0)))⟩ : Nd)]), tl ++ [rr], by omega, by go_num, HBP, MP, OP, SZP, qHd ⟨by rw [List.length_append, LL.out.1]; rfl, by have := LL.out.2; simp only [List.length_append, List.length_singleton]; omega⟩, D9⟩
      case measure => simp [intOf]; omega
     ·skip
      have hn16 : na ≤ 16 := h16
      have hpm : ((na : Nat) : Int).tmod 2 = ((na % 2 : Nat) : Int) := by rw [Int.tmod_eq_emod_of_nonneg (by omega)]; omega
      have HK := qHd (qbd B0 gb V (_) v1 (.slice aa na ca) (out) 0 (5) (0) ((args.map (iA (fun i => tl.getD i 0)))) w4 M4.out HI4.out (⟨AP.out.1, fun h => AP.out.2 (by rw [List.length_map, ← HNA.out] at h; exact h)⟩) ⟨by decide, by decide⟩ ⟨by decide, by decide⟩ hV (by have := LL.out.2; omega))
      go_wp2_with (with_reducible refine qac ?_)
      refine qad.mk ?_
      (with_reducible refine HK.out.mono ?_); rintro e w5 ⟨vv5, rfl, hC, hM2⟩
      have CB5 := qHd hC; have M5 := qHd hM2
      clear hC hM2 HK
      clear x0 x1 x2
      obtain ⟨x0, x1, x2⟩ := qaq (M4.out.keep CB5.out (by simp) NG.out G84.out)
      have MK0 := qHd M4.out
      by_cases hpar2 : na % 2 = 0
      ·have hpz : (((na % 2 : Nat) : Int) == 0) = true := by rw [beq_iff_eq]; omega
       obtain ⟨at1, hat1⟩ : ∃ z : Int, z = ((V + out.length : Nat) : Int) := ⟨_, rfl⟩
       rw [← hat1]
       have AT := qHd hat1; clear hat1
       obtain ⟨w6, hw6⟩ : ∃ z0, z0 = w5.alloc (.cells #[.int .i64 at1] 3) := ⟨_, rfl⟩
       have hb6 : Below w5.heap.size w5 w6 := by rw [hw6]; exact qBA _ _
       obtain ⟨g6, hg6⟩ : ∃ g, g = w5.heap.size := ⟨_, rfl⟩
       have hx6 : w6.heap[g6]? = some (.cells #[.int .i64 at1] 3) := by rw [hw6, hg6]; exact heap_alloc_new _ _
       have hs6 : w6.heap.size = w5.heap.size + 1 := by rw [hw6]; simp
       have M6 := qHd (M5.out.below hb6); have CB6 := qHd (CB5.out.trans (Chg.of_below hb6))
       have AP6 := qHd (M5.out.apart (a := .slice (some ⟨g6, 0, none⟩) 1 1) (l := [at1]) (s := w5.heap.size) (Nat.le_refl _) (fun g e => by simp only [Value.ownBlock, Option.some.injEq] at e; omega))
       have HI6 := qHd (qby (l := [at1]) hx6 rfl (by simp) (i64_one (show I64 at1 by rw [AT.out]; exact qch (by have := LL.out.2; omega))))
       clear hb6 hx6 hs6
       have HK := qHd (qbd B0 gb V _ vv5 (.slice (some ⟨g6, 0, none⟩) 1 1) (out ++ [(⟨5, 0, (args.map (iA (fun i => tl.getD i 0)))⟩ : Nd)]) 0 1 0 [at1] w6 M6.out HI6.out AP6.out ⟨by decide, by decide⟩ ⟨by decide, by decide⟩ hV (by have := LL.out.2; simp only [List.length_append, List.length_singleton]; omega))
       go_wp2_with (with_reducible refine qac ?_)
       rw [← hw6, ← hg6]
       clear hw6 hg6 x0 x1 x2
       refine qad.mk ?_
       (with_reducible refine HK.out.mono ?_); rintro e w7 ⟨vv7, rfl, hC, hM2⟩
       have CC := qHd (CB6.out.trans hC); have M7 := qHd hM2
       clear hC hM2 HK
       clear CB5 CB6
       have O7 := qHd (MK0.out.keepO CC.out (fun g e => ⟨by simp [e], fun h => GNE.out g (OT.out g e).1 h.symm⟩) O4.out)
       have HB7 := qHd (MK0.out.low CC.out HB4.out); have SX7 := qHd (Nat.le_trans SX4.out CC.out.exc.size)
       have MZ := qHd (M7.out.sub (Y := (Value.slice aot (V + j) ct).ownBlock.toList ++ [gb]) (by simp) (fun g hg => List.mem_cons_of_mem _ hg))
       obtain ⟨rr, hrr⟩ : ∃ z : Int, z = ((V + (out ++ [(⟨5, 0, (args.map (iA (fun i => tl.getD i 0)))⟩ : Nd)]).length : Nat) : Int) := ⟨_, rfl⟩
       have HRR := qHd hrr
       have GW := qHd (show Grw V out ((out ++ [(⟨5, 0, (args.map (iA (fun i => tl.getD i 0)))⟩ : Nd)]) ++ [(⟨1, 0, [at1]⟩ : Nd)]) rr (fun e0 => !nv (qaj (turnE e0) (ns.take j)) ⟨5, K, args⟩) by rw [hrr]; exact (by rw [AT.out]; exact DL.out.even (x := ⟨5, K, args⟩) (by rw [HLJ.out]; exact HE.out) rfl (by show args.length % 2 = 0; rw [← HNA.out]; exact hpar2) rfl))
       rw [← hrr]
       clear hrr
       obtain ⟨wqP, hwaP⟩ : ∃ z0, z0 = w7.alloc (.cells #[.int .i64 rr] 3) := ⟨_, rfl⟩
       have hbaP : Below w7.heap.size w7 wqP := by rw [hwaP]; exact qBA _ _
       obtain ⟨gaP, hgaP⟩ : ∃ g, g = w7.heap.size := ⟨_, rfl⟩
       have hxaP : wqP.heap[gaP]? = some (.cells #[.int .i64 rr] 3) := by rw [hwaP, hgaP]; exact heap_alloc_new _ _
       have hsaP : wqP.heap.size = w7.heap.size + 1 := by rw [hwaP]; simp
       have OQ := qHd (O7.out.below hbaP); have GQ := qHd hxaP; have MQ := qHd (MZ.out.below hbaP); have HBQ := qHd (qcg HB7.out HS1.out.2.1 hbaP)
       have hszq : w2.heap.size ≤ wqP.heap.size := Nat.le_trans SX7.out hbaP.size
       clear hbaP hxaP hsaP
       go_wp2_with (with_reducible refine qam ?_)
       rw [← hwaP, ← hgaP]
       clear hwaP hgaP
       refine qar (w2.heap.size) Tryz.intTyK rfl (qal [0]) (by decide) (Value.slice aot (V + j) ct) (V + j) _ [.int .i64 rr] gaP 3 rfl rfl OQ.out GQ.out rfl rfl (qal [rr]) (qal _) (by omega) (by decide) hszq ?_
       intro vP w9 hoP hgP hfrP
       have EQ : Exc wqP w9 (Value.slice aot (V + j) ct).ownBlock.toList := Exc.of_grown hgP (fun g hg => by rw [hg]; simp)
       have OP := qHd (show qbx w9 (w2.heap.size) 3 1 vP (V + j + 1) (qbm (tl ++ [rr])) by rw [qbf]; exact hoP)
       have OBQ := fun g (hg : (Value.slice aot (V + j) ct).ownBlock = some g) => World.ownsRow.lt OQ.out.1 g hg
       have MP := qHd (MQ.out.step (Y := vP.ownBlock.toList ++ [gb]) EQ (fun g hg => .inl (List.mem_append.2 (.inl hg))) (fun hg => GNE.out gb (OBQ gb (by simpa using hg)).1 rfl) (fun g hg => by
        rcases List.mem_append.1 hg with qq | qq
        ·have q' : vP.ownBlock = some g := by simpa using qq
         rcases Nat.lt_or_ge g wqP.heap.size with r | r
         ·by_cases e : (Value.slice aot (V + j) ct).ownBlock = some g
          ·exact .inl (List.mem_append.2 (.inl (by rw [e]; simp)))
          ·exact absurd q' (hfrP g r e)
         ·exact .inr ⟨r, (World.ownsRow.lt OP.out.1 g q').2⟩
        ·exact .inl (List.mem_append.2 (.inr qq))) (by simp))
       have SZP := qHd (Nat.le_trans hszq EQ.size)
       have HBP := qHd (EQ.low HBQ.out (Nat.le_trans HS1.out.2.1 HBQ.out.size) (fun g hg => GBL.out g (OBQ g (by simpa using hg)).1))
       have FRP := qHd (fun g (h1 : g < wqP.heap.size) (h2 : (Value.slice aot (V + j) ct).ownBlock ≠ some g) => hfrP g h1 h2)
       clear hoP hgP hfrP EQ OBQ hszq
       have D9 := qHd (show Dul V (ns.take (j + 1)) ((out ++ [(⟨5, 0, (args.map (iA (fun i => tl.getD i 0)))⟩ : Nd)]) ++ [(⟨1, 0, [at1]⟩ : Nd)]) (fun i => (tl ++ [rr]).getD i 0) by
        rw [qbs HXJ.out]
        refine DL.out.next (qbp HNO.out j) (by rw [HLJ.out]; exact HE.out) GW.out (fun i hi => ?_) ?_
        ·exact qcv (by rw [LL.out.1]; rw [HLJ.out] at hi; exact hi)
        ·show (tl ++ [rr]).getD (V + (ns.take j).length) 0 = rr
         rw [HLJ.out, ← LL.out.1]; exact qcw)
       go_wp2_with fail
       go_roundw
       case rel => exact ⟨j + 1, _, ((out ++ [(⟨5, 0, (args.map (iA (fun i => tl.getD i 0)))⟩ : Nd)]) ++ [(⟨1, 0, [at1]⟩ : Nd)]), tl ++ [rr], by omega, by go_num, HBP, MP, OP, SZP, qHd ⟨by rw [List.length_append, LL.out.1]; rfl, by have := LL.out.2; simp only [List.length_append, List.length_singleton]; omega⟩, D9⟩
       case measure => simp [intOf]; omega
      ·have hpz : (((na % 2 : Nat) : Int) == 0) = false := by rw [beq_eq_false_iff_ne]; omega
       have CC := qHd CB5.out
       have O5 := qHd (MK0.out.keepO CC.out (fun g e => ⟨by simp [e], fun h => GNE.out g (OT.out g e).1 h.symm⟩) O4.out)
       have HB5 := qHd (MK0.out.low CC.out HB4.out); have SX5 := qHd (Nat.le_trans SX4.out CC.out.exc.size)
       have MZ := qHd (M5.out.sub (Y := (Value.slice aot (V + j) ct).ownBlock.toList ++ [gb]) (by simp) (fun g hg => List.mem_cons_of_mem _ hg))
       obtain ⟨rr, hrr⟩ : ∃ z : Int, z = ((V + out.length : Nat) : Int) := ⟨_, rfl⟩
       have HRR := qHd hrr
       have GW := qHd (show Grw V out (out ++ [(⟨5, 0, (args.map (iA (fun i => tl.getD i 0)))⟩ : Nd)]) rr (fun e0 => !nv (qaj (turnE e0) (ns.take j)) ⟨5, K, args⟩) by rw [hrr]; exact DN.out (.inr (by show args.length % 2 = 1; rw [← HNA.out]; omega)))
       rw [← hrr]
       clear hrr
       obtain ⟨wqP, hwaP⟩ : ∃ z0, z0 = w5.alloc (.cells #[.int .i64 rr] 3) := ⟨_, rfl⟩
       have hbaP : Below w5.heap.size w5 wqP := by rw [hwaP]; exact qBA _ _
       obtain ⟨gaP, hgaP⟩ : ∃ g, g = w5.heap.size := ⟨_, rfl⟩
       have hxaP : wqP.heap[gaP]? = some (.cells #[.int .i64 rr] 3) := by rw [hwaP, hgaP]; exact heap_alloc_new _ _
       have hsaP : wqP.heap.size = w5.heap.size + 1 := by rw [hwaP]; simp
       have OQ := qHd (O5.out.below hbaP); have GQ := qHd hxaP; have MQ := qHd (MZ.out.below hbaP); have HBQ := qHd (qcg HB5.out HS1.out.2.1 hbaP)
       have hszq : w2.heap.size ≤ wqP.heap.size := Nat.le_trans SX5.out hbaP.size
       clear hbaP hxaP hsaP
       go_wp2_with (with_reducible refine qam ?_)
       rw [← hwaP, ← hgaP]
       clear hwaP hgaP
       refine qar (w2.heap.size) Tryz.intTyK rfl (qal [0]) (by decide) (Value.slice aot (V + j) ct) (V + j) _ [.int .i64 rr] gaP 3 rfl rfl OQ.out GQ.out rfl rfl (qal [rr]) (qal _) (by omega) (by decide) hszq ?_
       intro vP w9 hoP hgP hfrP
       have EQ : Exc wqP w9 (Value.slice aot (V + j) ct).ownBlock.toList := Exc.of_grown hgP (fun g hg => by rw [hg]; simp)
       have OP := qHd (show qbx w9 (w2.heap.size) 3 1 vP (V + j + 1) (qbm (tl ++ [rr])) by rw [qbf]; exact hoP)
       have OBQ := fun g (hg : (Value.slice aot (V + j) ct).ownBlock = some g) => World.ownsRow.lt OQ.out.1 g hg
       have MP := qHd (MQ.out.step (Y := vP.ownBlock.toList ++ [gb]) EQ (fun g hg => .inl (List.mem_append.2 (.inl hg))) (fun hg => GNE.out gb (OBQ gb (by simpa using hg)).1 rfl) (fun g hg => by
        rcases List.mem_append.1 hg with qq | qq
        ·have q' : vP.ownBlock = some g := by simpa using qq
         rcases Nat.lt_or_ge g wqP.heap.size with r | r
         ·by_cases e : (Value.slice aot (V + j) ct).ownBlock = some g
          ·exact .inl (List.mem_append.2 (.inl (by rw [e]; simp)))
          ·exact absurd q' (hfrP g r e)
         ·exact .inr ⟨r, (World.ownsRow.lt OP.out.1 g q').2⟩
        ·exact .inl (List.mem_append.2 (.inr qq))) (by simp))
       have SZP := qHd (Nat.le_trans hszq EQ.size)
       have HBP := qHd (EQ.low HBQ.out (Nat.le_trans HS1.out.2.1 HBQ.out.size) (fun g hg => GBL.out g (OBQ g (by simpa using hg)).1))
       have FRP := qHd (fun g (h1 : g < wqP.heap.size) (h2 : (Value.slice aot (V + j) ct).ownBlock ≠ some g) => hfrP g h1 h2)
       clear hoP hgP hfrP EQ OBQ hszq
       have D9 := qHd (show Dul V (ns.take (j + 1)) (out ++ [(⟨5, 0, (args.map (iA (fun i => tl.getD i 0)))⟩ : Nd)]) (fun i => (tl ++ [rr]).getD i 0) by
        rw [qbs HXJ.out]
        refine DL.out.next (qbp HNO.out j) (by rw [HLJ.out]; exact HE.out) GW.out (fun i hi => ?_) ?_
        ·exact qcv (by rw [LL.out.1]; rw [HLJ.out] at hi; exact hi)
        ·show (tl ++ [rr]).getD (V + (ns.take j).length) 0 = rr
         rw [HLJ.out, ← LL.out.1]; exact qcw)
       go_wp2_with fail
       go_roundw
       case rel => exact ⟨j + 1, _, (out ++ [(⟨5, 0, (args.map (iA (fun i => tl.getD i 0)))⟩ : Nd)]), tl ++ [rr], by omega, by go_num, HBP, MP, OP, SZP, qHd ⟨by rw [List.length_append, LL.out.1]; rfl, by have := LL.out.2; simp only [List.length_append, List.length_singleton]; omega⟩, D9⟩
       case measure => simp [intOf]; omega
    ·have hj' : j = ns.length := by omega
     subst hj'
     obtain ⟨T, hTT⟩ : ∃ T : Nat, top = T := ⟨top.toNat, by have := HT.out.1; omega⟩
     subst hTT
     have hT : T < V + ns.length := by have := HT.out.2; omega
     have hTz : (T : Int) < (V : Int) + (ns.length : Int) := by omega
     obtain ⟨gt, rfl, _, _, u1, _, hcell⟩ := qbt OX.out.1 rfl (by omega)
     clear u1
     obtain ⟨rr, hrr⟩ : ∃ z, z = tl.getD T 0 := ⟨_, rfl⟩
     have cT := hcell T _ (ivals_at (x := rr) (by rw [hrr, List.getD_eq_getElem?_getD, List.getElem?_eq_getElem (by rw [LL.out.1]; exact hT)]; rfl))
     clear hcell
     have DL := DL.out
     rw [List.take_length] at DL
     have DL := qHd DL
     have hA := (DL.out.one HT.out).1
     have eA : iA (fun i => tl.getD i 0) ((T : Nat) : Int) = rr := by unfold iA; rw [Int.toNat_natCast, hrr]
     rw [eA] at hA
     have HA := qHd hA; have EA := qHd eA; have HRR := qHd hrr
     clear hA eA hrr
     obtain ⟨x0, x1, x2⟩ := qaq (qbo HBX.out G1.out L12.out.1)
     have HK := qHd (bdone_any B0 gb V _ v1 out 0 rr wo MX.out (by obtain ⟨q1, q2⟩ := HA.out; have := LL.out.2; exact ⟨by omega, by omega⟩) hV (by have := LL.out.2; omega))
     go_wp2_with (with_reducible refine qac ?_)
     clear x0 x1 x2 cT
     refine qad.mk ?_
     (with_reducible refine HK.out.mono ?_); rintro e w8 ⟨vg, g, ec, rfl, hb8, hg8, hc8⟩
     have HB8 := qHd (HBX.out.trans hb8); have HC8 := qHd hc8
     obtain ⟨og, ng, cg, Xg, rfl, hn8, hv8, ht8⟩ := hg8
     have F8 := qHd (show FmL w8 B0 _ g from ⟨og, ng, cg, Xg, rfl, hn8, hv8, ht8⟩)
     have G28 := qHd (qbo HB8.out G2.out L12.out.2)
     clear hb8 hc8 hn8 hv8 ht8 HK
     go_wp2_with (with_reducible refine qaf 24 ?_)
     refine qbj g2 0 [.int .i64 g.vars, .slice og ng cg, .int .i64 g.top] G28.out rfl rfl (Nat.le_of_ble_eq_true rfl) (by kernel_rfl) rfl ?_
     intro w9 hp9
     have G9 := qHd (show w9.heap[g2]? = some (.cells #[.int .i64 g.vars, .slice og ng cg, .int .i64 g.top] 24) by rw [hp9]; exact qco G28.out)
     have F9 := qHd ((F8.out.put hp9 L12.out.2).base HS1.out.1)
     have HB9 := qHd (qdl hp9 (HB1.out.trans (HB8.out.mono HS1.out.1)) l2)
     clear hp9
     go_wp2_with fail
     refine ret_fm rfl g2 #[.int .i64 g.vars, .slice og ng cg, .int .i64 g.top] rfl G9.out Tryz.underlying24 rfl (by kernel_rfl) rfl ?_
     refine ⟨_, g, ec, rfl, HB9.out, F9.out, ?_⟩
     rcases HC8.out with h4 | ⟨h0, h1, h2⟩
     ·exact .inl h4
     ·refine .inr ⟨h0, ?_⟩
      rw [h1, ← EA.out]
      exact DL.out.done hV h2 HT.out
/-! booleans of the call's own -/
def bl1 (l : List Bool) : List Value := l.map Value.bool
theorem bl1_length (l : List Bool) : (bl1 l).length = l.length := by simp [bl1]
theorem noU_bl1 (l : List Bool) : noU (bl1 l) := by
 intro u hu n
 obtain ⟨x, _, rfl⟩ := List.mem_map.1 hu
 exact fun e => by cases e
def bd (l : List Bool) (j : Nat) : Bool := l.getD j false
theorem bl1_set (l : List Bool) (j : Nat) (b : Bool) (hj : j < l.length) : spl (bl1 l) j [.bool b] = bl1 (l.set j b) := by
 apply List.ext_getElem?
 intro i
 rw [spl_at (by rw [bl1_length]; simp; omega)]
 unfold bl1
 simp only [List.getElem?_map, List.getElem?_set, List.length_cons, List.length_nil]
 by_cases a : i < j
 ·rw [if_pos a, if_neg (by omega)]
 ·rw [if_neg a]
  by_cases e : i = j
  ·subst e; rw [if_pos (by omega), if_pos rfl, if_pos hj, Nat.sub_self]; rfl
  ·rw [if_neg (by omega), if_neg (fun q => e q.symm)]
theorem bd_set {l : List Bool} {j : Nat} {b : Bool} (hj : j < l.length) (i : Nat) : bd (l.set j b) i = if i = j then b else bd l i := by
 unfold bd
 rw [List.getD_eq_getElem?_getD, List.getD_eq_getElem?_getD, List.getElem?_set]
 by_cases e : i = j
 ·subst e; rw [if_pos rfl, if_pos hj, if_pos rfl]; rfl
 ·rw [if_neg (fun q => e q.symm), if_neg e]
theorem bd_true {l : List Bool} {j : Nat} (hj : j < l.length) (i : Nat) : bd (l.set j true) i = (bd l i || decide (j = i)) := by
 rw [bd_set hj]
 by_cases e : i = j
 ·subst e; simp
 ·rw [if_neg e, decide_eq_false (fun q => e q.symm), Bool.or_false]
theorem bl1_at {l : List Bool} {j : Nat} (h : j < l.length) : (bl1 l)[j]? = some (.bool (bd l j)) := by
 unfold bl1 bd
 rw [List.getElem?_map, List.getElem?_eq_getElem h, List.getD_eq_getElem?_getD, List.getElem?_eq_getElem h]; rfl
theorem ownb_cell {w : World} {B g n c : Nat} {l : List Bool} (h : qbx w B 4 1 (.slice (some ⟨g, 0, none⟩) n c) n (bl1 l)) (hl : l.length = n) {i : Nat} (hi : i < n) : w.cell? ⟨g, i, none⟩ = some (.bool (bd l i)) := by
 obtain ⟨g', e, _, _, _, _, hc⟩ := qbt h.1 rfl (by omega)
 cases e
 exact hc i _ (bl1_at (by omega))
theorem ownb_put {w w' : World} {B g n c j : Nat} {l : List Bool} {b : Bool} (h : qbx w B 4 1 (.slice (some ⟨g, 0, none⟩) n c) n (bl1 l)) (hl : l.length = n) (hj : j < n) (hw : w' = putL w g j [.bool b]) :
  qbx w' B 4 1 (.slice (some ⟨g, 0, none⟩) n c) n (bl1 (l.set j b)) := by
 have := (h.write hw (by simp; omega) (noU_bl1 [b])).1
 rwa [bl1_set l j b (by omega)] at this
theorem own_of {w : World} {B g n : Nat} {T : TypeId} {z : Value} (hg : w.heap[g]? = some (.cells (madeCells #[z] (n * 1)) T)) (hB : B ≤ g) (hn : n ≤ 1000000) (hz : noU (List.replicate n z)) : qbx w B T 1 (.slice (some ⟨g, 0, none⟩) n n) n (List.replicate n z) :=
 own_full ⟨by simp, .inr ⟨g, n, _, rfl, hB, hg, Nat.le_refl _, by unfold maxLen; omega, by rw [size_madeCells], by rw [Nat.mul_one, toList_madeCells_one, List.take_replicate, Nat.min_self]⟩⟩ hz
theorem noU_repB (n : Nat) (b : Bool) : noU (List.replicate n (.bool b)) := by
 intro u hu k
 rw [List.eq_of_mem_replicate hu]
 exact fun e => by cases e
theorem bl1_rep (n : Nat) (b : Bool) : List.replicate n (Value.bool b) = bl1 (List.replicate n b) := by simp [bl1]
def KMade (B n : Nat) (z : Value) (T : TypeId) : Value → World → Prop := fun v w => ∃ g, B ≤ g ∧ v = .slice (some ⟨g, 0, none⟩) n n ∧ w.heap[g]? = some (.cells (madeCells #[z] (n * 1)) T)
theorem kMade (B n : Nat) (z : Value) (T : TypeId) : MonoF (KMade B n z T) := fun _ _ _ ⟨g, h0, h1, h2⟩ hb => ⟨g, h0, h1, qaa h2 hb⟩
theorem stepOK_make {P : Program} {a : Act} {w : World} {R : Value → World → Prop} {l c : Operand} {t e : TypeId} {o : Oper} {z : Value} {bytes n : Nat} (T : qdj P t e z 1 bytes) (hzc : z.cells = #[z]) (ho : o.op = .makeSlice t l c)
  (hl : a.eval l = .int .i64 (n : Nat)) (hc : a.eval c = .int .i64 (n : Nat)) (hn : n ≤ 1000000) (hby : bytes ≤ 1000)
  (hK : R (.slice (some ⟨w.heap.size, 0, none⟩) n n) (w.alloc (.cells (madeCells #[z] (n * 1)) e))) : StepOK P o a w R := by
 obtain ⟨i0, hi, hz0, hz1, hz2⟩ := T.info
 have hb : bytes * n ≤ 1000 * 1000000 := Nat.mul_le_mul hby hn
 have hb' : (i0.bytes : Int) * (n : Int) ≤ 281474976710656 := by
  have h : ((i0.bytes * n : Nat) : Int) ≤ 281474976710656 := by rw [hz2]; omega
  rwa [Int.natCast_mul] at h
 have hrun := run_makeSlice (P := P) (w := w) t e i0 z T.under hi hz0 .i64 .i64 n n (by omega) (by omega) (by rw [hz1, Int.toNat_natCast]; omega) hb' (by omega)
 simp only [Int.toNat_natCast] at hrun
 rw [hzc, hz1] at hrun
 refine qak (v := .slice (some ⟨w.heap.size, 0, none⟩) n n) (w' := w.alloc (.cells (madeCells #[z] (n * 1)) e)) ?_ hK
 simp [execOp, ho, hl, hc, hrun, Result.andThen]
theorem ty_ne {w : World} {g1 g2 : Nat} {c1 c2 : Array Value} {T1 T2 : TypeId} (h1 : w.heap[g1]? = some (.cells c1 T1)) (h2 : w.heap[g2]? = some (.cells c2 T2)) (h : T1 ≠ T2) : g1 ≠ g2 := fun e => h (by
 rw [e, h2] at h1
 cases h1; rfl)
theorem any_snoc {p : Int → Bool} {l : List Int} {k : Nat} {y : Int} (h : l[k]? = some y) : (l.take (k + 1)).any p = ((l.take k).any p || p y) := by
 rw [qbs h, List.any_append]; simp
theorem kCl_chg {B gb : Nat} {l : List Int} {u v v' : Value} {w w' : World} (h : KCl B l u w) (c : Chg w w' [gb] v v') (hv : ∀ g, v.ownBlock = some g → g < B) (hg : gb < B) : KCl B l u w' := by
 obtain ⟨o, n, c', h1, h2, h3⟩ := h
 exact ⟨o, n, c', h1, c.ints h2 (fun _ g e => ⟨fun q => by have := hv g q; have := h3 g e; omega, by simp; intro q; have := h3 g e; omega⟩), h3⟩
theorem Bd.ownLow {w w' : World} {B B0 gm V n size : Nat} {X : List Nat} {v v' u : Value} {out : List Nd} {top : Int} {e : TypeId} {xs : List Value} (h : Bd w B X gm v V out top) (c : Chg w w' [gm] v v') (ho : qbx w B0 e size u n xs) (hu : ∀ g, u.ownBlock = some g → g < B) : qbx w' B0 e size u n xs :=
 c.own ho (fun g e => ⟨fun q => by have := (h.nds.lt q).1; have := hu g e; omega, by simp; intro q; have := h.base; have := hu g e; omega⟩)
def RetTr (w : World) (V : Nat) (out : List Nd) (top : Int) (e : Ending) (w' : World) : Prop :=
 ∃ (vg : Value) (g : Fm) (ec : Nat), e = .returned (.tuple #[vg, qdi ec]) ∧ Below w.heap.size w w' ∧ FmL w' w.heap.size vg g ∧ (ec = 4 ∨ (ec = 0 ∧ g.vars = (V : Nat) ∧ qcr g = 0 ∧ ∀ e0 : List Nat, e0.length = V → Two e0 → top0 e0 g = tA (qaj e0 out) top))
theorem Tryz.boolTyK : qdj Tryz.prog 72 4 (.bool false) 1 1 := .mk' Tryz.underlying72 (by kernel_rfl)
theorem trimmed_any (B gb V : Nat) (X : List Nat) (v : Value) (out : List Nd) (top : Int) (w : World) (hM : Bd w B X gb v V out 0) (hV : V ≤ 24) (ho : out.length ≤ 10000) (hok : qbc (V : Nat) 0 out = 0) (ht : Arg V out.length top) :
  Calls Tryz.prog 30 #[.pointer (some ⟨gb, 0, none⟩), .int .i64 top] w (RetTr w V out top) := by
 obtain ⟨T, rfl⟩ : ∃ T : Nat, top = T := ⟨top.toNat, by have := ht.1; omega⟩
 obtain ⟨ao, c, rfl, hc, hc2, _⟩ := hM.nds.shape
 obtain ⟨no, hno⟩ : ∃ n, n = out.length := ⟨_, rfl⟩
 have hT : T < V + no := by have := ht.2; omega
 have HM := qHd hM; have HOK := qHd hok; have HT := qHd ht; have HNd := qHd hM.nds.nds
 rw [← hno] at HM HNd hc ho
 have HNO := qHd hno
 clear hM hok ht hno
 obtain ⟨N, hN⟩ : ∃ n, n = V + no := ⟨_, rfl⟩
 have NN := qHd (show IntKind.wrap .i64 ((V : Int) + (no : Int)) = (N : Int) by rw [qda (by omega)]; omega); have NL := qHd (show N ≤ 1000000 by omega)
 have HN := qHd hN
 have hTN : T < N := by omega
 clear hN
 obtain ⟨x0, x1, x2⟩ := qaq HM.out.cells
 obtain ⟨W1, hw1⟩ : ∃ z0, z0 = w.alloc (.cells #[.int .i64 0, .slice none 0 0, .int .i64 0] 24) := ⟨_, rfl⟩
 have hb1 : Below w.heap.size w W1 := by rw [hw1]; exact qBA _ _
 obtain ⟨g4, hg1⟩ : ∃ g, g = w.heap.size := ⟨_, rfl⟩
 have hx1 : W1.heap[g4]? = some (.cells #[.int .i64 0, .slice none 0 0, .int .i64 0] 24) := by rw [hw1, hg1]; exact heap_alloc_new _ _
 have hs1 : W1.heap.size = w.heap.size + 1 := by rw [hw1]; simp
 obtain ⟨W2, hw2⟩ : ∃ z0, z0 = W1.alloc (.cells #[.int .i64 V, .slice ao no c, .int .i64 0] 24) := ⟨_, rfl⟩
 have hb2 : Below W1.heap.size W1 W2 := by rw [hw2]; exact qBA _ _
 obtain ⟨g6, hg2⟩ : ∃ g, g = W1.heap.size := ⟨_, rfl⟩
 have hx2 : W2.heap[g6]? = some (.cells #[.int .i64 V, .slice ao no c, .int .i64 0] 24) := by rw [hw2, hg2]; exact heap_alloc_new _ _
 have hs2 : W2.heap.size = W1.heap.size + 1 := by rw [hw2]; simp
 have HB2 := qHd (hb1.trans (hb2.mono hb1.size)); have G4 := qHd (qaa hx1 hb2); have G6 := qHd hx2; have SZ2 := qHd (show w.heap.size ≤ W2.heap.size by omega)
 have LL := qHd (show w.heap.size ≤ g4 ∧ w.heap.size ≤ g6 ∧ g4 ≠ g6 from ⟨by omega, by omega, by omega⟩)
 have EG := qHd (show g6 = g4 + 1 by omega)
 obtain ⟨y0, y1, y2⟩ := qaq (qaa HM.out.cells hb1)
 rw [hw1] at y0 y1 y2
 clear hb1 hb2 hx1 hx2 hs1 hs2
 go_enter Tryz.func30, Tryz.ntmps30
 go_wp2_with (with_reducible refine qax ?_)
 rw [← hw1, ← hg1, ← hw2, ← EG.out]
 clear hw1 hg1 hw2 hg2 x0 x1 x2 y0 y1 y2
 refine qad.mk ?_
 refine qay (A := ?aaTM) (w := W2) 15 [] (by kernel_rfl) (Fl [KEq (.pointer (some ⟨g6, 0, none⟩)), KEq (.int .i64 (V : Nat)), KEq (.pointer (some ⟨g6, 1, none⟩)), KEq (.slice ao no c), KEq (.int .i64 (no : Nat)), KEq (.int .i64 (N : Nat)), KMade w.heap.size N (.bool false) 4, KEq (.pointer (some ⟨g6, 0, none⟩)), KEq (.int .i64 (V : Nat)), KEq (.pointer (some ⟨g6, 1, none⟩)), KEq (.slice ao no c), KEq (.int .i64 (no : Nat)), KEq (.int .i64 (N : Nat)), KMade w.heap.size N (.int .i64 0) 3, KMade w.heap.size N (.bool false) 4]) (fun i => false) (by kernel_rfl) ?hqTM (qdx (qai (kEq _) (qai (kEq _) (qai (kEq _) (qai (kEq _) (qai (kEq _) (qai (kEq _) (qai (kMade _ _ _ _) (qai (kEq _) (qai (kEq _) (qai (kEq _) (qai (kEq _) (qai (kEq _) (qai (kEq _) (qai (kMade _ _ _ _) (qai (kMade _ _ _ _) qdw)))))))))))))))) ?haTM ?stTM ?tlTM
 case hqTM =>
  intro c a d v w h
  first | (simp only [Exit.then] at h ⊢; exact h) | (simp only [Exit.inBlock, Exit.then] at h ⊢; exact h) | exact h
 case haTM =>
  intro vals
  simp only [qat, qcf, if_true, Act.put, List.setIfInBounds_toArray, List.set_cons_zero, List.set_cons_succ, List.getElem?_toArray, List.getElem?_cons_zero, List.getElem?_cons_succ, Option.bind_some]
  exact rfl
 case stTM =>
  simp only [List.take_succ_cons, List.take_zero]
  refine qab rfl rfl ?_ (qab rfl rfl ?_ (qab rfl rfl ?_ (qab rfl rfl ?_ (qab rfl rfl ?_ (qab rfl rfl ?_ (qab rfl rfl ?_ (qab rfl rfl ?_ (qab rfl rfl ?_ (qab rfl rfl ?_ (qab rfl rfl ?_ (qab rfl rfl ?_ (qab rfl rfl ?_ (qab rfl rfl ?_ (qab rfl rfl ?_ (qbb)))))))))))))))
  ·intro vals w1 hb hd
   refine qSv (.pointer (some ⟨g6, 0, none⟩)) (by go_simp) (qLk rfl rfl)
  ·intro vals w1 hb hd
   obtain ⟨e0, e1, e2⟩ := qaq (qaa G6.out hb)
   rw [show vals 0 = .pointer (some ⟨g6, 0, none⟩) from hd 0 (by kernel_rfl)]
   refine qSv (.int .i64 (V : Nat)) (by go_simp) (qLk rfl rfl)
  ·intro vals w1 hb hd
   refine qSv (.pointer (some ⟨g6, 1, none⟩)) (by go_simp) (qLk rfl rfl)
  ·intro vals w1 hb hd
   obtain ⟨e0, e1, e2⟩ := qaq (qaa G6.out hb)
   rw [show vals 2 = .pointer (some ⟨g6, 1, none⟩) from hd 2 (by kernel_rfl)]
   refine qSv (.slice ao no c) (by go_simp) (qLk rfl rfl)
  ·intro vals w1 hb hd
   rw [show vals 3 = .slice ao no c from hd 3 (by kernel_rfl)]
   refine qSv (.int .i64 (no : Nat)) (by go_simp) (qLk rfl rfl)
  ·intro vals w1 hb hd
   rw [show vals 1 = .int .i64 (V : Nat) from hd 1 (by kernel_rfl)]
   rw [show vals 4 = .int .i64 (no : Nat) from hd 4 (by kernel_rfl)]
   refine qSv (.int .i64 (N : Nat)) (by go_simp; first | done | exact NN.out) (qLk rfl rfl)
  ·intro vals w1 hb hd
   rw [show vals 5 = .int .i64 (N : Nat) from hd 5 (by kernel_rfl)]
   refine stepOK_make Tryz.boolTyK rfl rfl rfl rfl NL.out (by decide) (qba ((Below.refl _ _).alloc (Nat.le_refl _) _) ⟨_, Nat.le_trans SZ2.out hb.size, rfl, heap_alloc_new _ _⟩ (fun h => by cases h))
  ·intro vals w1 hb hd
   refine qSv (.pointer (some ⟨g6, 0, none⟩)) (by go_simp) (qLk rfl rfl)
  ·intro vals w1 hb hd
   obtain ⟨e0, e1, e2⟩ := qaq (qaa G6.out hb)
   rw [show vals 7 = .pointer (some ⟨g6, 0, none⟩) from hd 7 (by kernel_rfl)]
   refine qSv (.int .i64 (V : Nat)) (by go_simp) (qLk rfl rfl)
  ·intro vals w1 hb hd
   refine qSv (.pointer (some ⟨g6, 1, none⟩)) (by go_simp) (qLk rfl rfl)
  ·intro vals w1 hb hd
   obtain ⟨e0, e1, e2⟩ := qaq (qaa G6.out hb)
   rw [show vals 9 = .pointer (some ⟨g6, 1, none⟩) from hd 9 (by kernel_rfl)]
   refine qSv (.slice ao no c) (by go_simp) (qLk rfl rfl)
  ·intro vals w1 hb hd
   rw [show vals 10 = .slice ao no c from hd 10 (by kernel_rfl)]
   refine qSv (.int .i64 (no : Nat)) (by go_simp) (qLk rfl rfl)
  ·intro vals w1 hb hd
   rw [show vals 8 = .int .i64 (V : Nat) from hd 8 (by kernel_rfl)]
   rw [show vals 11 = .int .i64 (no : Nat) from hd 11 (by kernel_rfl)]
   refine qSv (.int .i64 (N : Nat)) (by go_simp; first | done | exact NN.out) (qLk rfl rfl)
  ·intro vals w1 hb hd
   rw [show vals 12 = .int .i64 (N : Nat) from hd 12 (by kernel_rfl)]
   refine stepOK_make Tryz.intTyK rfl rfl rfl rfl NL.out (by decide) (qba ((Below.refl _ _).alloc (Nat.le_refl _) _) ⟨_, Nat.le_trans SZ2.out hb.size, rfl, heap_alloc_new _ _⟩ (fun h => by cases h))
  ·intro vals w1 hb hd
   have d6 : KMade w.heap.size N (.bool false) 4 (vals 6) w1 := hd 6 (by kernel_rfl)
   obtain ⟨gq, hq1, hq2, hq3⟩ := d6
   rw [hq2]
   refine qak (v := .slice (some ⟨gq, 0, none⟩) N N) (w' := w1) (by go_simp) (qba (Below.refl _ _) ⟨gq, hq1, rfl, hq3⟩ (fun h => by cases h))
 case tlTM =>
  intro vals w3 hb3 hf hdis
  simp only [List.drop_succ_cons, List.drop_zero]
  obtain ⟨gk, hgk, z14, hxk⟩ : KMade w.heap.size N (.bool false) 4 (vals 14) w3 := hf 14 (by decide)
  obtain ⟨gt, hgt, z13, hxt⟩ : KMade w.heap.size N (.int .i64 0) 3 (vals 13) w3 := hf 13 (by decide)
  rw [z14, z13]
  have HB3 := qHd (qcg HB2.out (Nat.le_refl _) hb3); have G43 := qHd (qaa G4.out hb3); have G63 := qHd (qaa G6.out hb3)
  have NE := qHd (show gk ≠ gt ∧ gk ≠ g4 ∧ gk ≠ g6 ∧ gt ≠ g4 ∧ gt ≠ g6 from ⟨ty_ne hxk hxt (by decide), ty_ne hxk G43.out (by decide), ty_ne hxk G63.out (by decide), ty_ne hxt G43.out (by decide), ty_ne hxt G63.out (by decide)⟩)
  have K3 := qHd (show qbx w3 w.heap.size 4 1 (.slice (some ⟨gk, 0, none⟩) N N) N (bl1 (List.replicate N false)) by rw [← bl1_rep]; exact own_of hxk hgk NL.out (noU_repB _ _))
  have T3 := qHd (show qbx w3 w.heap.size 3 1 (.slice (some ⟨gt, 0, none⟩) N N) N (qbm (List.replicate N 0)) by rw [← ivals_rep]; exact own_of hxt hgt NL.out (noU_rep _ _))
  have GKT := qHd (And.intro hgk hgt)
  clear z14 z13 hf hdis hb3 hxk hxt hgk hgt
  obtain ⟨cs, hcs, hcz⟩ := qdv K3.out
  have hTz : (T : Int) < (N : Int) := by omega
  go_wp2_with (with_reducible refine qbr ?_)
  refine wpList_stB gk T hcs rfl rfl (by omega) (by kernel_rfl) ?_
  intro w4 hp4
  have K4 := qHd (ownb_put K3.out (List.length_replicate ..) hTN hp4)
  have T4 := qHd ((Exc.put (X := [gk]) hp4 (List.mem_singleton.2 rfl)).own T3.out (fun g e => by cases e; simp; exact NE.out.1.symm))
  have HB4 := qHd (qdl hp4 HB3.out GKT.out.1); have G44 := qHd (putLx hp4 G43.out NE.out.2.1.symm); have G64 := qHd (putLx hp4 G63.out NE.out.2.2.1.symm)
  clear hp4 hcs hcz K3 T3
  obtain ⟨x0, x1, x2⟩ := qaq G64.out
  go_wp2_with (with_reducible first | refine qah ?_ | refine qae ?_)
  clear x0 x1 x2
  refine qad.mk ?_
  go_loopw [9] (fun i' wx => ∃ (k : Nat) (l : List Bool), k ≤ no ∧ i' = .int .i64 ((k : Int) - 1) ∧ Hid (Below w.heap.size w wx) ∧ Hid (qbx wx w.heap.size 4 1 (.slice (some ⟨gk, 0, none⟩) N N) N (bl1 l)) ∧ Hid (qbx wx w.heap.size 3 1 (.slice (some ⟨gt, 0, none⟩) N N) N (qbm (List.replicate N 0))) ∧ Hid (wx.heap[g4]? = some (.cells #[.int .i64 0, .slice none 0 0, .int .i64 0] 24) ∧ wx.heap[g6]? = some (.cells #[.int .i64 V, .slice ao no c, .int .i64 0] 24)) ∧ Hid (l.length = N ∧ bd l T = true ∧ Clo V out (bd l) k)) (fun i' _ => (intOf i' + 1).toNat)
  case atStart => exact ⟨no, _, Nat.le_refl _, by go_num, HB4, K4, T4, qHd ⟨G44.out, G64.out⟩, qHd ⟨by rw [List.length_set, List.length_replicate], by rw [bd_set (by rw [List.length_replicate]; exact hTN), if_pos rfl], by rw [HNO.out]; exact Clo.start V out _⟩⟩
  case round =>
   clear HB4 K4 T4 G44 G64
   obtain ⟨k, l, hk, rfl, HBX, KX, TX, GX, LX⟩ := hrel
   obtain ⟨wo, rfl⟩ : ∃ wo : World, wo = wr := ⟨_, rfl⟩
   obtain ⟨x0, x1, x2⟩ := qaq GX.out.2
   by_cases hk0 : 0 < k
   ·obtain ⟨i, rfl⟩ : ∃ i, k = i + 1 := ⟨k - 1, by omega⟩
    have hiz : (0 : Int) ≤ ((i + 1 : Nat) : Int) - 1 := by omega
    have hie : ((i + 1 : Nat) : Int) - 1 = (i : Int) := by omega
    rw [hie] at hiz ⊢
    have hVi : (V : Int) + (i : Int) < (N : Int) := by have := HN.out; omega
    obtain ⟨x, hx⟩ : ∃ x, out[i]? = some x := ⟨out[i]'(by have := HNO.out; omega), List.getElem?_eq_getElem (by have := HNO.out; omega)⟩
    have HE := qHd (ndErr_nat HOK.out hx)
    obtain ⟨mk, hmk⟩ : ∃ b, b = bd l (V + i) := ⟨_, rfl⟩
    have ck := ownb_cell KX.out LX.out.1 (i := V + i) (by have := HN.out; omega)
    rw [← hmk] at ck
    have HMK := qHd hmk; clear hmk
    have HX := qHd hx; clear hx
    cases mk
    ·go_wp2_with fail
     clear x0 x1 x2 ck hie
     go_roundw
     case rel => exact ⟨i, l, by omega, by go_num, HBX, KX, TX, GX, qHd ⟨LX.out.1, LX.out.2.1, LX.out.2.2.skip HMK.out.symm⟩⟩
     case measure => simp [intOf] <;> omega
    ·obtain ⟨b, off, rfl, hb, u1, hat⟩ := HNd.out.at (by omega)
     clear u1 hb
     obtain ⟨c0, c1, ⟨av, c2, hI⟩, hk64, hK64⟩ := hat i x HX.out
     clear hat
     have c0 := qap c0 HBX.out; have c1 := qap c1 HBX.out; have c2 := qap c2 HBX.out
     obtain ⟨ao', c', rfl, hc', hc2', _⟩ := hI.shape
     obtain ⟨na, hna⟩ : ∃ n, n = x.args.length := ⟨_, rfl⟩
     have HIW := qHd hI
     rw [← hna] at HIW c2 hc'
     have HNA := qHd hna
     have h16 := (args_16 HE.out).1
     rw [← hna] at h16
     clear hI hna hk64 hK64
     have hinz : (i : Int) < (no : Int) := by omega
     go_wp2_with (with_reducible first | refine qah ?_ | refine qae ?_)
     clear x0 x1 x2 ck c0 c1 c2 hie
     refine qad.mk ?_
     go_loopw [59] (fun i' wx => ∃ (q : Nat) (l2 : List Bool), q ≤ na ∧ i' = .int .i64 q ∧ Hid (Below w.heap.size w wx) ∧ Hid (qbx wx w.heap.size 4 1 (.slice (some ⟨gk, 0, none⟩) N N) N (bl1 l2)) ∧ Hid (qbx wx w.heap.size 3 1 (.slice (some ⟨gt, 0, none⟩) N N) N (qbm (List.replicate N 0))) ∧ Hid (wx.heap[g4]? = some (.cells #[.int .i64 0, .slice none 0 0, .int .i64 0] 24) ∧ wx.heap[g6]? = some (.cells #[.int .i64 V, .slice (some ⟨b, off, none⟩) no c, .int .i64 0] 24)) ∧ Hid (Exc wo wx [gk]) ∧ Hid (l2.length = N ∧ ∀ z, bd l2 z = (bd l z || (x.args.take q).any fun a => decide (a.toNat = z)))) (fun i' _ => na - (intOf i').toNat)
     case atStart => exact ⟨0, l, Nat.zero_le _, rfl, HBX, KX, TX, GX, qHd (Exc.refl _ _), qHd ⟨LX.out.1, fun z => by simp⟩⟩
     case round =>
      obtain ⟨q, l2, hq, rfl, HBY, KY, TY, GY, EY, LY⟩ := hrel
      obtain ⟨wi, rfl⟩ : ∃ wi : World, wi = wr := ⟨_, rfl⟩
      by_cases hlq : q < na
      ·obtain ⟨y, hqa⟩ : ∃ y, x.args[q]? = some y := ⟨x.args[q]'(by rw [← HNA.out]; exact hlq), List.getElem?_eq_getElem (by rw [← HNA.out]; exact hlq)⟩
       have haa := (qav HE.out).2.2.1 y (List.mem_of_getElem? hqa)
       obtain ⟨A, rfl⟩ : ∃ A : Nat, y = A := ⟨y.toNat, by have := haa.1; omega⟩
       have hA1 : A < V + i := by have := haa.2; omega
       have hA2 : A < N := by have := HN.out; omega
       have hAz : (A : Int) < (N : Int) := by omega
       have HHI : qbi wi (.slice ao' na c') x.args := HIW.out.mono HBY.out (Nat.le_refl _)
       obtain ⟨ba, offa, rfl, hba, u1, hata⟩ := HHI.at (by omega)
       clear u1 hba
       have ca := hata q (A : Nat) hqa
       clear hata HHI
       have hlkz : (q : Int) < (na : Int) := by omega
       have HQA := qHd hqa; clear hqa haa
       obtain ⟨cs, hcs, hcz⟩ := qdv KY.out
       go_wp2_with (with_reducible refine qbr ?_)
       clear ca
       refine wpList_stB gk A hcs rfl rfl (by omega) (by kernel_rfl) ?_
       intro w9 hp9
       have K9 := qHd (ownb_put KY.out LY.out.1 hA2 hp9)
       have T9 := qHd ((Exc.put (X := [gk]) hp9 (List.mem_singleton.2 rfl)).own TY.out (fun g e => by cases e; simp; exact NE.out.1.symm))
       have HB9 := qHd (qdl hp9 HBY.out GKT.out.1); have G9 := qHd (And.intro (putLx hp9 GY.out.1 NE.out.2.1.symm) (putLx hp9 GY.out.2 NE.out.2.2.1.symm))
       have E9 := qHd (EY.out.trans (Exc.put hp9 (List.mem_singleton.2 rfl)))
       clear hp9 hcs hcz
       go_wp2_with fail
       go_roundw
       case rel => exact ⟨q + 1, l2.set A true, by omega, by go_num, HB9, K9, T9, G9, E9, qHd ⟨by rw [List.length_set]; exact LY.out.1, fun z => by rw [bd_true (by rw [LY.out.1]; exact hA2), LY.out.2, any_snoc HQA.out, Bool.or_assoc]; simp⟩⟩
       case measure => simp [intOf] <;> omega
      ·have hq' : q = na := by omega
       subst hq'
       go_wp2_with fail
       go_roundw
       case rel => exact ⟨i, l2, by omega, by go_num, HBY, KY, TY, GY, qHd ⟨LY.out.1, by rw [LY.out.2, LX.out.2.1, Bool.true_or], LX.out.2.2.step HX.out (qav HE.out).2.2.1 (fun z => by rw [LY.out.2, List.take_of_length_le (by rw [HNA.out]; exact Nat.le_refl _)])⟩⟩
       case measure => simp [intOf] <;> omega
   ·have hk' : k = 0 := by omega
    subst hk'
    have hiz : ¬ (0 : Int) ≤ ((0 : Nat) : Int) - 1 := by omega
    have CLO := qHd (show ∀ i x, out[i]? = some x → bd l (V + i) = true → ∀ a ∈ x.args, bd l a.toNat = true from fun i x hx => LX.out.2.2 i (Nat.zero_le _) x hx)
    obtain ⟨w5, hw5⟩ : ∃ z0, z0 = wo.alloc (.cells #[.int .i64 V, .slice none 0 0, .int .i64 0] 65) := ⟨_, rfl⟩
    have hb5 : Below wo.heap.size wo w5 := by rw [hw5]; exact qBA _ _
    obtain ⟨gz, hg5⟩ : ∃ g, g = wo.heap.size := ⟨_, rfl⟩
    have hx5 : w5.heap[gz]? = some (.cells #[.int .i64 V, .slice none 0 0, .int .i64 0] 65) := by rw [hw5, hg5]; exact heap_alloc_new _ _
    have hs5 : w5.heap.size = wo.heap.size + 1 := by rw [hw5]; simp
    obtain ⟨B5, hB5⟩ : ∃ b, b = wo.heap.size := ⟨_, rfl⟩
    have BX := qHd (show Below B5 wo w5 ∧ w.heap.size ≤ B5 ∧ B5 ≤ wo.heap.size from ⟨by rw [hB5]; exact hb5, by rw [hB5]; exact HBX.out.size, by omega⟩)
    have M5 := qHd (show Bd w5 B5 [gz] gz (.slice none 0 0) V [] 0 from ⟨hx5, NdL.nil _ _ _, by simp, by omega, fun g hg => by rw [List.mem_singleton] at hg; subst hg; exact qao hx5⟩)
    have HB5 := qHd (qcg HBX.out (Nat.le_refl _) hb5); have K5 := qHd (KX.out.below hb5); have T5 := qHd (TX.out.below hb5)
    have LT := qHd (show gk < B5 ∧ gt < B5 ∧ g4 < B5 ∧ g6 < B5 from ⟨by rw [hB5]; exact (World.ownsRow.lt KX.out.1 gk rfl).2, by rw [hB5]; exact (World.ownsRow.lt TX.out.1 gt rfl).2, by rw [hB5]; exact qao GX.out.1, by rw [hB5]; exact qao GX.out.2⟩)
    obtain ⟨y0, y1, y2⟩ := qaq (qaa GX.out.2 hb5)
    rw [hw5] at y0 y1 y2
    clear hb5 hx5 hs5
    go_wp2_with (with_reducible first | refine qah ?_ | refine qae ?_)
    rw [← hw5, ← hg5]
    clear hw5 hg5 x0 x1 x2 y0 y1 y2 hB5 hiz
    refine qad.mk ?_
    go_loopw [74] (fun i' wx => ∃ (q : Nat) (L : List Int), q ≤ V ∧ i' = .int .i64 q ∧ Hid (Below w.heap.size w wx) ∧ Hid (Bd wx B5 [gz] gz (.slice none 0 0) V [] 0) ∧ Hid (qbx wx w.heap.size 4 1 (.slice (some ⟨gk, 0, none⟩) N N) N (bl1 l)) ∧ Hid (qbx wx w.heap.size 3 1 (.slice (some ⟨gt, 0, none⟩) N N) N (qbm L)) ∧ Hid (wx.heap[g4]? = some (.cells #[.int .i64 0, .slice none 0 0, .int .i64 0] 24) ∧ wx.heap[g6]? = some (.cells #[.int .i64 V, .slice ao no c, .int .i64 0] 24)) ∧ Hid (L.length = N ∧ (∀ j, j < q → L.getD j 0 = (j : Nat)) ∧ ∀ y ∈ L, I64 y) ∧ Hid (B5 ≤ wx.heap.size)) (fun i' _ => V - (intOf i').toNat)
    case atStart => exact ⟨0, _, Nat.zero_le _, rfl, HB5, M5, K5, T5, qHd ⟨qbo BX.out.1 GX.out.1 LT.out.2.2.1, qbo BX.out.1 GX.out.2 LT.out.2.2.2⟩, qHd ⟨List.length_replicate .., (fun j h => absurd h (Nat.not_lt_zero _)), fun y hy => by rw [List.eq_of_mem_replicate hy]; exact ⟨by decide, by decide⟩⟩, qHd (Nat.le_trans BX.out.2.2 BX.out.1.size)⟩
    case round =>
     clear HB5 M5 K5 T5
     obtain ⟨q, L, hq, rfl, HBY, MY, KY, TY, GY, LL, SY⟩ := hrel
     obtain ⟨wi, rfl⟩ : ∃ wi : World, wi = wr := ⟨_, rfl⟩
     by_cases hlt : q < V
     ·have hltz : (q : Int) < (V : Int) := by omega
      have hltz2 : (q : Int) < (N : Int) := by have := HN.out; omega
      have hqN : q < N := by have := HN.out; omega
      obtain ⟨cs, hcs, hcz⟩ := qdv TY.out
      go_wp2_with (with_reducible refine qbr ?_)
      refine qds gt q hcs rfl rfl (by omega) (by kernel_rfl) ?_
      intro w9 hp9
      have T9 := qHd (ownI_put TY.out LL.out.1 hqN hp9)
      have K9 := qHd ((Exc.put (X := [gt]) hp9 (List.mem_singleton.2 rfl)).own KY.out (fun g e => by cases e; simp; exact NE.out.1))
      have M9 := qHd (MY.out.exc (Exc.put (X := [gt]) hp9 (List.mem_singleton.2 rfl)) (fun g hg => by rw [List.mem_singleton] at hg; subst hg; exact .inr LT.out.2.1) (by simp; exact fun e => by have := MY.out.base; have := LT.out.2.1; omega))
      have HB9 := qHd (qdl hp9 HBY.out GKT.out.2); have G9 := qHd (And.intro (putLx hp9 GY.out.1 NE.out.2.2.2.1.symm) (putLx hp9 GY.out.2 NE.out.2.2.2.2.symm))
      have S9 := qHd (show B5 ≤ w9.heap.size by rw [hp9, putL_size]; exact SY.out)
      have AT9 := qHd (show (L.set q ((q : Nat) : Int)).length = N ∧ (∀ j, j < q + 1 → (L.set q ((q : Nat) : Int)).getD j 0 = (j : Nat)) ∧ ∀ y ∈ L.set q ((q : Nat) : Int), I64 y from ⟨by rw [List.length_set]; exact LL.out.1, (fun j hj => by
       rw [getD_set (by rw [LL.out.1]; exact hqN)]
       by_cases e : j = q
       ·rw [if_pos e, e]
       ·rw [if_neg e]; exact LL.out.2.1 j (by omega)), fun y hy => (List.mem_or_eq_of_mem_set hy).elim (LL.out.2.2 y) (fun e => by rw [e]; exact qch (by omega))⟩)
      clear hp9 hcs hcz
      go_wp2_with fail
      go_roundw
      case rel => exact ⟨q + 1, L.set q ((q : Nat) : Int), by omega, by go_num, HB9, M9, K9, T9, G9, AT9, S9⟩
      case measure => simp [intOf] <;> omega
     ·have hq' : V = q := by omega
      subst hq'
      have I0 := qHd (show Img V (fun j => j < V ∨ bd l j = true) (out.take 0) [] (fun i => L.getD i 0) from by rw [List.take_zero]; exact Img.start LL.out.2.1)
      obtain ⟨x0, x1, x2⟩ := qaq GY.out.2
      go_wp2_with (with_reducible first | refine qah ?_ | refine qae ?_)
      clear x0 x1 x2 hlt
      refine qad.mk ?_
      go_loopw [85] (fun i' wx => ∃ (j : Nat) (v1 : Value) (o2 : List Nd) (L : List Int), j ≤ no ∧ i' = .int .i64 j ∧ Hid (Below w.heap.size w wx) ∧ Hid (Bd wx B5 [gz] gz v1 V o2 0) ∧ Hid (qbx wx w.heap.size 4 1 (.slice (some ⟨gk, 0, none⟩) N N) N (bl1 l)) ∧ Hid (qbx wx w.heap.size 3 1 (.slice (some ⟨gt, 0, none⟩) N N) N (qbm L)) ∧ Hid (wx.heap[g4]? = some (.cells #[.int .i64 0, .slice none 0 0, .int .i64 0] 24) ∧ wx.heap[g6]? = some (.cells #[.int .i64 V, .slice ao no c, .int .i64 0] 24)) ∧ Hid (L.length = N ∧ ∀ y ∈ L, I64 y) ∧ Hid (B5 ≤ wx.heap.size) ∧ Hid (o2.length ≤ j) ∧ Hid (Img V (fun j => j < V ∨ bd l j = true) (out.take j) o2 (fun i => L.getD i 0))) (fun i' _ => no - (intOf i').toNat)
      case atStart => exact ⟨0, _, _, L, Nat.zero_le _, rfl, HBY, MY, KY, TY, GY, qHd ⟨LL.out.1, LL.out.2.2⟩, SY, qHd (Nat.le_refl _), I0⟩
      case round =>
       clear HBY MY KY TY GY LL SY I0
       obtain ⟨j, v1, o2, L, hj, rfl, HBZ, MZ, KZ, TZ, GZ, LZ, SZ, OZ, IZ⟩ := hrel
       obtain ⟨wj, rfl⟩ : ∃ wj : World, wj = wr := ⟨_, rfl⟩
       by_cases hlj : j < no
       ·obtain ⟨x, hx⟩ : ∃ x, out[j]? = some x := ⟨out[j]'(by have := HNO.out; omega), List.getElem?_eq_getElem (by have := HNO.out; omega)⟩
        have HE := qHd (ndErr_nat HOK.out hx)
        have HX := qHd hx; clear hx
        obtain ⟨b, off, rfl, hb, u1, hat⟩ := HNd.out.at (by omega)
        clear u1 hb
        obtain ⟨c0, c1, ⟨av, c2, hI⟩, hk64, hK64⟩ := hat j x HX.out
        clear hat
        have c0 := qap c0 HBZ.out; have c1 := qap c1 HBZ.out; have c2 := qap c2 HBZ.out
        obtain ⟨ao', c', rfl, hc', hc2', _⟩ := hI.shape
        obtain ⟨na, hna⟩ : ∃ n, n = x.args.length := ⟨_, rfl⟩
        have HIW := qHd hI
        rw [← hna] at HIW c2 hc'
        have HNA := qHd hna
        have h16 := (args_16 HE.out).1
        rw [← hna] at h16
        have HKK := qHd (And.intro hk64 hK64)
        clear hI hna hk64 hK64
        have hjz : (j : Int) < (no : Int) := by omega
        have hVj : (V : Int) + (j : Int) < (N : Int) := by have := HN.out; omega
        have hVjN : V + j < N := by have := HN.out; omega
        obtain ⟨mk, hmk⟩ : ∃ b, b = bd l (V + j) := ⟨_, rfl⟩
        obtain ⟨x0, x1, x2⟩ := qaq GZ.out.2
        obtain ⟨W6, hw6⟩ : ∃ z0, z0 = wj.alloc (.cells #[.int .i64 x.kind, .int .i64 x.K, .slice ao' na c'] 56) := ⟨_, rfl⟩
        have hb6 : Below wj.heap.size wj W6 := by rw [hw6]; exact qBA _ _
        obtain ⟨gn, hg6⟩ : ∃ g, g = wj.heap.size := ⟨_, rfl⟩
        have hx6 : W6.heap[gn]? = some (.cells #[.int .i64 x.kind, .int .i64 x.K, .slice ao' na c'] 56) := by rw [hw6, hg6]; exact heap_alloc_new _ _
        have hs6 : W6.heap.size = wj.heap.size + 1 := by rw [hw6]; simp
        have ck := ownb_cell (KZ.out.below hb6) LX.out.1 (i := V + j) hVjN
        rw [← hmk, hw6] at ck
        have HMK := qHd hmk; clear hmk
        have GN6 := qHd hx6; have HB6 := qHd (qcg HBZ.out (Nat.le_refl _) hb6); have K6 := qHd (KZ.out.below hb6); have T6 := qHd (TZ.out.below hb6); have S6 := qHd (Nat.le_trans SZ.out hb6.size)
        have G6a := qHd (And.intro (qaa GZ.out.1 hb6) (qaa GZ.out.2 hb6))
        have M6 := qHd (MZ.out.new (Y := gn :: [gz]) hb6 (fun g hg => by
         rcases List.mem_cons.1 hg with e | e
         ·subst e; exact .inr ⟨by omega, by omega⟩
         ·exact .inl e) (by simp))
        have NG := qHd (show gn ≠ gz from fun e => by have := MZ.out.all gz (by simp); omega)
        obtain ⟨y0, y1, y2⟩ := qaq (qaa GZ.out.2 hb6)
        rw [hw6] at y0 y1 y2
        clear hb6 hx6 hs6
        cases mk
        ·go_wp2_with fail
         rw [← hw6]
         clear x0 x1 x2 y0 y1 y2 ck c0 c1 c2 hw6 hg6
         go_roundw
         case rel => exact ⟨j + 1, v1, o2, L, by omega, by go_num, HB6, qHd (M6.out.sub (by simp) (fun g hg => List.mem_cons_of_mem _ hg)), K6, T6, G6a, LZ, S6, qHd (Nat.le_succ_of_le OZ.out), qHd (by
          rw [qbs HX.out]
          refine IZ.out.skip (fun h => ?_)
          rw [List.length_take, Nat.min_eq_left (by have := HNO.out; omega)] at h
          rcases h with h | h
          ·omega
          ·rw [← HMK.out] at h; cases h)⟩
         case measure => simp [intOf] <;> omega
        ·go_wp2_with (with_reducible refine qax ?_)
         rw [← hw6, ← hg6]
         clear x0 x1 x2 y0 y1 y2 ck c0 c1 c2 hw6 hg6
         refine qad.mk ?_
         obtain ⟨VJ, hVJ⟩ : ∃ n, n = V + j := ⟨_, rfl⟩
         have DV := qHd (show IntKind.wrap .i64 ((V : Int) + (j : Int)) = (VJ : Int) by rw [qda (by omega)]; omega)
         have hVJN : VJ < N := by omega
         have HVJ := qHd hVJ; clear hVJ
         obtain ⟨lst, hlst⟩ : ∃ z, z = x.args.map (iA (fun i => L.getD i 0)) := ⟨_, rfl⟩
         obtain ⟨R, hR⟩ : ∃ n, n = V + o2.length := ⟨_, rfl⟩
         have HLS := qHd hlst; have HR := qHd hR; clear hlst hR
         have GT := qHd (show qbi W6 (.slice (some ⟨gt, 0, none⟩) N N) L from qbl (l := L) (by rw [LZ.out.1]; exact T6.out.1) LZ.out.2)
         have hF0 : ∀ jj v w1 w2, Fl [KEq (.slice (some ⟨gt, 0, none⟩) N N), KEq (.pointer (some ⟨g6, 0, none⟩)), KEq (.int .i64 (V : Nat)), KEq (.int .i64 (j : Nat)), KEq (.int .i64 (VJ : Nat)), KEq (.pointer (some ⟨gz, 0, none⟩)), KEq (.pointer (some ⟨gn, 0, none⟩)), KEq (.int .i64 x.kind), KEq (.pointer (some ⟨gn, 1, none⟩)), KEq (.int .i64 x.K), KEq (.pointer (some ⟨gn, 2, none⟩)), KEq (.slice ao' na c'), KEq (.slice (some ⟨gt, 0, none⟩) N N), KCl W6.heap.size lst, KEq (.int .i64 ((R : Nat) : Int))] jj v w1 → Below w1.heap.size w1 w2 → Fl [KEq (.slice (some ⟨gt, 0, none⟩) N N), KEq (.pointer (some ⟨g6, 0, none⟩)), KEq (.int .i64 (V : Nat)), KEq (.int .i64 (j : Nat)), KEq (.int .i64 (VJ : Nat)), KEq (.pointer (some ⟨gz, 0, none⟩)), KEq (.pointer (some ⟨gn, 0, none⟩)), KEq (.int .i64 x.kind), KEq (.pointer (some ⟨gn, 1, none⟩)), KEq (.int .i64 x.K), KEq (.pointer (some ⟨gn, 2, none⟩)), KEq (.slice ao' na c'), KEq (.slice (some ⟨gt, 0, none⟩) N N), KCl W6.heap.size lst, KEq (.int .i64 ((R : Nat) : Int))] jj v w2 := qdx (qai (kEq _) (qai (kEq _) (qai (kEq _) (qai (kEq _) (qai (kEq _) (qai (kEq _) (qai (kEq _) (qai (kEq _) (qai (kEq _) (qai (kEq _) (qai (kEq _) (qai (kEq _) (qai (kEq _) (qai (kCl _ _) (qai (kEq _) qdw)))))))))))))))
         obtain ⟨Ac, hAc⟩ : ∃ A : Bool → World → Prop, A = fun b w1 => ∃ v2, Chg W6 w1 [gz] v1 v2 ∧ (b = false → Below W6.heap.size W6 w1) ∧ (b = true → Bd w1 B5 (gn :: [gz]) gz v2 V (o2 ++ [⟨x.kind, x.K, lst⟩]) 0) := ⟨_, rfl⟩
         have hAM : ∀ b w1 w2, Ac b w1 → Below w1.heap.size w1 w2 → Ac b w2 := fun b w1 w2 h hb => by
          rw [hAc] at h ⊢
          obtain ⟨v2, h1, h2, h3⟩ := h
          exact ⟨v2, h1.trans (Chg.of_below hb), fun e => (h2 e).trans (hb.mono (h2 e).size), fun e => (h3 e).below hb⟩
         have survG : ∀ jj u w1 w2 v2, jj ≠ 14 → Fl [KEq (.slice (some ⟨gt, 0, none⟩) N N), KEq (.pointer (some ⟨g6, 0, none⟩)), KEq (.int .i64 (V : Nat)), KEq (.int .i64 (j : Nat)), KEq (.int .i64 (VJ : Nat)), KEq (.pointer (some ⟨gz, 0, none⟩)), KEq (.pointer (some ⟨gn, 0, none⟩)), KEq (.int .i64 x.kind), KEq (.pointer (some ⟨gn, 1, none⟩)), KEq (.int .i64 x.K), KEq (.pointer (some ⟨gn, 2, none⟩)), KEq (.slice ao' na c'), KEq (.slice (some ⟨gt, 0, none⟩) N N), KCl W6.heap.size lst, KEq (.int .i64 ((R : Nat) : Int))] jj u w1 → Chg w1 w2 [gz] v1 v2 → Fl [KEq (.slice (some ⟨gt, 0, none⟩) N N), KEq (.pointer (some ⟨g6, 0, none⟩)), KEq (.int .i64 (V : Nat)), KEq (.int .i64 (j : Nat)), KEq (.int .i64 (VJ : Nat)), KEq (.pointer (some ⟨gz, 0, none⟩)), KEq (.pointer (some ⟨gn, 0, none⟩)), KEq (.int .i64 x.kind), KEq (.pointer (some ⟨gn, 1, none⟩)), KEq (.int .i64 x.K), KEq (.pointer (some ⟨gn, 2, none⟩)), KEq (.slice ao' na c'), KEq (.slice (some ⟨gt, 0, none⟩) N N), KCl W6.heap.size lst, KEq (.int .i64 ((R : Nat) : Int))] jj u w2 := fun jj u w1 w2 v2 hjj h hc => by
          match jj, hjj with
          | 0, _ => exact h
          | 1, _ => exact h
          | 2, _ => exact h
          | 3, _ => exact h
          | 4, _ => exact h
          | 5, _ => exact h
          | 6, _ => exact h
          | 7, _ => exact h
          | 8, _ => exact h
          | 9, _ => exact h
          | 10, _ => exact h
          | 11, _ => exact h
          | 12, _ => exact h
          | 13, _ => exact kCl_chg h hc (fun g e => (M6.out.nds.lt e).2.1) (M6.out.all gz (by simp))
          | j + 15, _ => trivial
          | 14, hj => exact absurd rfl hj
         refine qcx (A := ?aaTG) (w := W6) 15 [] (by kernel_rfl) (Fl [KEq (.slice (some ⟨gt, 0, none⟩) N N), KEq (.pointer (some ⟨g6, 0, none⟩)), KEq (.int .i64 (V : Nat)), KEq (.int .i64 (j : Nat)), KEq (.int .i64 (VJ : Nat)), KEq (.pointer (some ⟨gz, 0, none⟩)), KEq (.pointer (some ⟨gn, 0, none⟩)), KEq (.int .i64 x.kind), KEq (.pointer (some ⟨gn, 1, none⟩)), KEq (.int .i64 x.K), KEq (.pointer (some ⟨gn, 2, none⟩)), KEq (.slice ao' na c'), KEq (.slice (some ⟨gt, 0, none⟩) N N), KCl W6.heap.size lst, KEq (.int .i64 ((R : Nat) : Int))]) (fun i => false) Ac 14 (by decide) ?h0TG (by kernel_rfl) ?hqTG ?haTG ?stTG ?tlTG
         case h0TG => rw [hAc]; exact ⟨v1, Chg.of_below (Below.refl _ _).drew, (fun _ => (Below.refl _ _).drew), fun h => by cases h⟩
         case hqTG =>
          intro c a d v w h
          first | (simp only [Exit.then] at h ⊢; exact h) | (simp only [Exit.inBlock, Exit.then] at h ⊢; exact h) | exact h
         case haTG =>
          intro vals
          simp only [qat, qcf, if_true, Act.put, List.setIfInBounds_toArray, List.set_cons_zero, List.set_cons_succ, List.getElem?_toArray, List.getElem?_cons_zero, List.getElem?_cons_succ, Option.bind_some]
          exact rfl
         case stTG =>
          simp only [List.take_succ_cons, List.take_zero]
          refine qan rfl rfl ?_ (qan rfl rfl ?_ (qan rfl rfl ?_ (qan rfl rfl ?_ (qan rfl rfl ?_ (qan rfl rfl ?_ (qan rfl rfl ?_ (qan rfl rfl ?_ (qan rfl rfl ?_ (qan rfl rfl ?_ (qan rfl rfl ?_ (qan rfl rfl ?_ (qan rfl rfl ?_ (qan rfl rfl ?_ (qan rfl rfl ?_ (stepsOKG_nil)))))))))))))))
          ·intro vals w1 b hsp hac hd
           refine qak (v := .slice (some ⟨gt, 0, none⟩) N N) (w' := w1) (by go_simp) (qLg hF0 hAM (by decide) hac rfl rfl)
          ·intro vals w1 b hsp hac hd
           refine qak (v := .pointer (some ⟨g6, 0, none⟩)) (w' := w1) (by go_simp) (qLg hF0 hAM (by decide) hac rfl rfl)
          ·intro vals w1 b hsp hac hd
           obtain ⟨vq, hcq, _, _⟩ := (by rw [hAc] at hac; exact hac : ∃ v2, Chg W6 w1 [gz] v1 v2 ∧ _ ∧ _)
           obtain ⟨e0, e1, e2⟩ := qaq (qbo (M6.out.low hcq (Below.refl B5 W6)) G6a.out.2 LT.out.2.2.2)
           rw [show vals 1 = .pointer (some ⟨g6, 0, none⟩) from hd 1 (by kernel_rfl)]
           refine qak (v := .int .i64 (V : Nat)) (w' := w1) (by go_simp) (qLg hF0 hAM (by decide) hac rfl rfl)
          ·intro vals w1 b hsp hac hd
           refine qak (v := .int .i64 (j : Nat)) (w' := w1) (by go_simp) (qLg hF0 hAM (by decide) hac rfl rfl)
          ·intro vals w1 b hsp hac hd
           rw [show vals 2 = .int .i64 (V : Nat) from hd 2 (by kernel_rfl)]
           rw [show vals 3 = .int .i64 (j : Nat) from hd 3 (by kernel_rfl)]
           refine qak (v := .int .i64 (VJ : Nat)) (w' := w1) (by go_simp; first | done | exact DV.out) (qLg hF0 hAM (by decide) hac rfl rfl)
          ·intro vals w1 b hsp hac hd
           refine qak (v := .pointer (some ⟨gz, 0, none⟩)) (w' := w1) (by go_simp) (qLg hF0 hAM (by decide) hac rfl rfl)
          ·intro vals w1 b hsp hac hd
           refine qak (v := .pointer (some ⟨gn, 0, none⟩)) (w' := w1) (by go_simp) (qLg hF0 hAM (by decide) hac rfl rfl)
          ·intro vals w1 b hsp hac hd
           obtain ⟨vq, hcq, _, _⟩ := (by rw [hAc] at hac; exact hac : ∃ v2, Chg W6 w1 [gz] v1 v2 ∧ _ ∧ _)
           obtain ⟨e0, e1, e2⟩ := qaq (M6.out.keep hcq (List.mem_cons_self ..) NG.out GN6.out)
           rw [show vals 6 = .pointer (some ⟨gn, 0, none⟩) from hd 6 (by kernel_rfl)]
           refine qak (v := .int .i64 x.kind) (w' := w1) (by go_simp) (qLg hF0 hAM (by decide) hac rfl rfl)
          ·intro vals w1 b hsp hac hd
           refine qak (v := .pointer (some ⟨gn, 1, none⟩)) (w' := w1) (by go_simp) (qLg hF0 hAM (by decide) hac rfl rfl)
          ·intro vals w1 b hsp hac hd
           obtain ⟨vq, hcq, _, _⟩ := (by rw [hAc] at hac; exact hac : ∃ v2, Chg W6 w1 [gz] v1 v2 ∧ _ ∧ _)
           obtain ⟨e0, e1, e2⟩ := qaq (M6.out.keep hcq (List.mem_cons_self ..) NG.out GN6.out)
           rw [show vals 8 = .pointer (some ⟨gn, 1, none⟩) from hd 8 (by kernel_rfl)]
           refine qak (v := .int .i64 x.K) (w' := w1) (by go_simp) (qLg hF0 hAM (by decide) hac rfl rfl)
          ·intro vals w1 b hsp hac hd
           refine qak (v := .pointer (some ⟨gn, 2, none⟩)) (w' := w1) (by go_simp) (qLg hF0 hAM (by decide) hac rfl rfl)
          ·intro vals w1 b hsp hac hd
           obtain ⟨vq, hcq, _, _⟩ := (by rw [hAc] at hac; exact hac : ∃ v2, Chg W6 w1 [gz] v1 v2 ∧ _ ∧ _)
           obtain ⟨e0, e1, e2⟩ := qaq (M6.out.keep hcq (List.mem_cons_self ..) NG.out GN6.out)
           rw [show vals 10 = .pointer (some ⟨gn, 2, none⟩) from hd 10 (by kernel_rfl)]
           refine qak (v := .slice ao' na c') (w' := w1) (by go_simp) (qLg hF0 hAM (by decide) hac rfl rfl)
          ·intro vals w1 b hsp hac hd
           refine qak (v := .slice (some ⟨gt, 0, none⟩) N N) (w' := w1) (by go_simp) (qLg hF0 hAM (by decide) hac rfl rfl)
          ·intro vals w1 b hsp hac hd
           have d11 : KEq (.slice ao' na c') (vals 11) w1 := hd 11 (by kernel_rfl)
           have d12 : KEq (.slice (some ⟨gt, 0, none⟩) N N) (vals 12) w1 := hd 12 (by kernel_rfl)
           obtain ⟨vq, hcq, _, _⟩ := (by rw [hAc] at hac; exact hac : ∃ v2, Chg W6 w1 [gz] v1 v2 ∧ _ ∧ _)
           have HS := qHd (nmap_any (.slice ao' na c') _ x.args L w1 (HIW.out.mono (M6.out.lowS hcq BX.out.2.1 HB6.out) (Nat.le_refl _)) (qbl (l := L) (by rw [LZ.out.1]; exact (M6.out.ownLow hcq T6.out (fun g e => by cases e; exact LT.out.2.1)).1) LZ.out.2) (fun y hy => by obtain ⟨q1, q2⟩ := (qav HE.out).2.2.1 y hy; rw [LZ.out.1]; exact ⟨q1, by omega⟩) (by rw [← HNA.out]; omega) (by rw [LZ.out.1]; have := HN.out; omega))
           rw [show vals 11 = _ from d11, show vals 12 = _ from d12]
           refine qbh (by go_simp; first | done | exact ⟨⟨rfl, rfl⟩, rfl⟩) ?_
           (with_reducible refine HS.out.mono ?_); rintro e w2 ⟨va, rfl, hb2, hi2, hf2⟩
           obtain ⟨aa, ca, ea, _⟩ := hi2.shape
           rw [ea] at hi2 hf2 ⊢
           rw [← HLS.out] at hi2 hf2 ⊢
           exact ⟨_, rfl, leavesG_mk hF0 hAM (by decide) hac hb2 ⟨_, _, _, rfl, hi2, fun g hg => Nat.le_trans hcq.exc.size (hf2 g hg)⟩ (fun h => by cases h)⟩
          ·intro vals w1 b hsp hac hd
           have d5 : KEq (.pointer (some ⟨gz, 0, none⟩)) (vals 5) w1 := hd 5 (by kernel_rfl)
           have d7 : KEq (.int .i64 x.kind) (vals 7) w1 := hd 7 (by kernel_rfl)
           have d9 : KEq (.int .i64 x.K) (vals 9) w1 := hd 9 (by kernel_rfl)
           have d13 : KCl W6.heap.size lst (vals 13) w1 := hd 13 (by kernel_rfl)
           obtain rfl : b = false := hsp rfl
           obtain ⟨vq, hcq, hbq, _⟩ := (by rw [hAc] at hac; exact hac : ∃ v2, Chg W6 w1 [gz] v1 v2 ∧ (false = false → Below W6.heap.size W6 w1) ∧ _)
           have hbl := hbq rfl
           obtain ⟨oa, na2, ca, ea, hi2, hf2⟩ := d13
           have HS := qHd (qbd B5 gz V _ v1 (.slice oa na2 ca) o2 0 x.kind x.K lst w1 (M6.out.below hbl) hi2 (M6.out.apart (Nat.le_refl _) hf2) HKK.out.1 HKK.out.2 hV (by have := OZ.out; omega))
           rw [show vals 5 = _ from d5, show vals 7 = _ from d7, show vals 9 = _ from d9, ea]
           refine qbh (by go_simp; first | done | exact ⟨⟨rfl, rfl⟩, rfl⟩) ?_
           (with_reducible refine HS.out.mono ?_); rintro e w2 ⟨v3, rfl, hC, hM3⟩
           rw [← HR.out]
           exact ⟨_, rfl, hC.exc.size, fun j2 u hj2 hF2 => survG j2 u w1 w2 v3 hj2 hF2 hC, by rw [hAc]; exact ⟨v3, (Chg.of_below hbl).trans hC, (fun h => by cases h), fun _ => hM3⟩, rfl, fun h => by cases h⟩
         case tlTG =>
          intro vals w8 hac8 hf8 hdis
          simp only [List.drop_succ_cons, List.drop_zero]
          rw [hAc] at hac8
          obtain ⟨v8, hC8, _, hM8⟩ := hac8
          have M8 := qHd (hM8 rfl); have C8 := qHd hC8
          have z0 : vals 0 = _ := hf8 0 (by decide); have z4 : vals 4 = _ := hf8 4 (by decide); have z14 : vals 14 = _ := hf8 14 (by decide)
          rw [z0, z4, z14]
          clear z0 z4 z14 hf8 hdis hC8 hM8 hAM hF0 survG
          have T8 := qHd (M6.out.ownLow C8.out T6.out (fun g e => by cases e; exact LT.out.2.1)); have K8 := qHd (M6.out.ownLow C8.out K6.out (fun g e => by cases e; exact LT.out.1))
          have HB8 := qHd (M6.out.lowS C8.out BX.out.2.1 HB6.out)
          have B58 := qHd (M6.out.low C8.out (Below.refl B5 W6))
          obtain ⟨cs, hcs, hcz⟩ := qdv T8.out
          have hVJz : (VJ : Int) < (N : Int) := by omega
          go_wp2_with (with_reducible refine qbr ?_)
          refine qds gt VJ hcs rfl rfl (by omega) (by kernel_rfl) ?_
          intro w9 hp9
          have T9 := qHd (ownI_put T8.out LZ.out.1 hVJN hp9)
          have K9 := qHd ((Exc.put (X := [gt]) hp9 (List.mem_singleton.2 rfl)).own K8.out (fun g e => by cases e; simp; exact NE.out.1))
          have M9 := qHd (M8.out.exc (Exc.put (X := [gt]) hp9 (List.mem_singleton.2 rfl)) (fun g hg => by rw [List.mem_singleton] at hg; subst hg; exact .inr LT.out.2.1) (by simp; exact fun e => by have := M8.out.base; have := LT.out.2.1; omega))
          have HB9 := qHd (qdl hp9 HB8.out GKT.out.2)
          have G9 := qHd (And.intro (putLx hp9 (qbo B58.out G6a.out.1 LT.out.2.2.1) NE.out.2.2.2.1.symm) (putLx hp9 (qbo B58.out G6a.out.2 LT.out.2.2.2) NE.out.2.2.2.2.symm))
          have S9 := qHd (show B5 ≤ w9.heap.size by rw [hp9, putL_size]; exact Nat.le_trans S6.out C8.out.exc.size)
          clear hp9 hcs hcz
          go_wp2_with fail
          go_roundw
          case rel => exact ⟨j + 1, v8, o2 ++ [⟨x.kind, x.K, lst⟩], L.set VJ ((R : Nat) : Int), by omega, by go_num, HB9, qHd (M9.out.sub (by simp) (fun g hg => List.mem_cons_of_mem _ hg)), K9, T9, G9, qHd ⟨by rw [List.length_set]; exact LZ.out.1, fun y hy => (List.mem_or_eq_of_mem_set hy).elim (LZ.out.2 y) (fun e => by rw [e]; exact qch (by have := HR.out; have := OZ.out; omega))⟩, S9, qHd (by rw [List.length_append]; have := OZ.out; simp; omega), qHd (by
           have hjl : (out.take j).length = j := by rw [List.length_take, Nat.min_eq_left (by have := HNO.out; omega)]
           rw [qbs HX.out]
           have hg := IZ.out.copy (x := x) (by rw [hjl]; exact HE.out) (fun a ha => .inr (CLO.out j x HX.out HMK.out.symm a ha))
           rw [← HLS.out, ← HR.out] at hg
           refine IZ.out.next (qbp HOK.out j) (by rw [hjl]; exact HE.out) hg (fun i hi => ?_) ?_
           ·show (L.set VJ ((R : Nat) : Int)).getD i 0 = L.getD i 0
            rw [hjl] at hi
            rw [getD_set (by rw [LZ.out.1]; exact hVJN), if_neg (by have := HVJ.out; omega)]
           ·show (L.set VJ ((R : Nat) : Int)).getD (V + (out.take j).length) 0 = ((R : Nat) : Int)
            rw [getD_set (by rw [LZ.out.1]; exact hVJN), if_pos (by rw [hjl]; exact HVJ.out.symm)])⟩
          case measure => simp [intOf] <;> omega
       ·have hj' : j = no := by omega
        subst hj'
        have IZ := IZ.out
        rw [List.take_of_length_le (by rw [HNO.out]; exact Nat.le_refl _)] at IZ
        have IZ := qHd IZ
        obtain ⟨rr, hrr⟩ : ∃ z, z = L.getD T 0 := ⟨_, rfl⟩
        have cT := ownI_cell TZ.out LZ.out.1 (i := T) hTN
        rw [← hrr] at cT
        have hA := IZ.out.one HT.out (.inr (by rw [Int.toNat_natCast]; exact LX.out.2.1))
        have eA : iA (fun i => L.getD i 0) ((T : Nat) : Int) = rr := by unfold iA; rw [Int.toNat_natCast, hrr]
        rw [eA] at hA
        have HA := qHd hA; have hR64 : I64 rr := by obtain ⟨q1, q2⟩ := hA.1; have := OZ.out; exact ⟨by omega, by omega⟩
        have EA := qHd eA
        clear hrr hA eA
        have HK := qHd (bdone_any B5 gz V _ v1 o2 0 rr wj MZ.out hR64 hV (by have := OZ.out; omega))
        clear hR64
        go_wp2_with (with_reducible refine qac ?_)
        clear cT
        refine qad.mk ?_
        (with_reducible refine HK.out.mono ?_); rintro e w8 ⟨vg, g, ec, rfl, hb8, hg8, hc8⟩
        have HB8 := qHd (HBZ.out.trans (hb8.mono BX.out.2.1)); have HC8 := qHd hc8
        obtain ⟨og, ng, cg, Xg, rfl, hn8, hv8, ht8⟩ := hg8
        have F8 := qHd (show FmL w8 B5 _ g from ⟨og, ng, cg, Xg, rfl, hn8, hv8, ht8⟩)
        have G48 := qHd (qbo hb8 GZ.out.1 LT.out.2.2.1)
        clear hb8 hc8 hn8 hv8 ht8 HK
        go_wp2_with (with_reducible refine qaf 24 ?_)
        refine qbj g4 0 [.int .i64 g.vars, .slice og ng cg, .int .i64 g.top] G48.out rfl rfl (Nat.le_of_ble_eq_true rfl) (by kernel_rfl) rfl ?_
        intro w9 hp9
        have G9 := qHd (show w9.heap[g4]? = some (.cells #[.int .i64 g.vars, .slice og ng cg, .int .i64 g.top] 24) by rw [hp9]; exact qco G48.out)
        have F9 := qHd ((F8.out.put hp9 LT.out.2.2.1).base BX.out.2.1)
        have HB9 := qHd (qdl hp9 HB8.out LL.out.1)
        clear hp9
        go_wp2_with fail
        refine ret_fm rfl g4 #[.int .i64 g.vars, .slice og ng cg, .int .i64 g.top] rfl G9.out Tryz.underlying24 rfl (by kernel_rfl) rfl ?_
        refine ⟨_, g, ec, rfl, HB9.out, F9.out, ?_⟩
        rcases HC8.out with h4 | ⟨h0, h1, h2⟩
        ·exact .inl h4
        ·refine .inr ⟨h0, by rw [h1], ?_, fun e0 he ht => ?_⟩
         ·rw [h1]; exact fm_ok hV h2 IZ.out.ok HA.out.1
         ·rw [h1]; exact HA.out.2 e0 he ht
theorem Tryz.boolTy : qdj Tryz.prog 72 4 (.bool false) 1 1 := .mk' Tryz.underlying72 (by kernel_rfl)
theorem qdq (w : World) (o : Obj) : w.heap.size ≤ (w.alloc o).heap.size := ((Below.refl w.heap.size w).alloc (Nat.le_refl _) o).size
def RetBools (w : World) (l : List Nat) (e : Ending) (w' : World) : Prop := ∃ v B, e = .returned v ∧ Below w.heap.size w w' ∧ w'.ownsRow B 4 1 v l.length (bvals l)
theorem fvalues_any (vf : Value) (f : Fm) (s : Nat) (w : World) (hf : FmV w vf f) (h0 : qcr f = 0) (hs : s < 2 ^ f.vars.toNat) (hs' : s < 16777216) :
  Calls Tryz.prog 92 #[vf, .int .i64 (s : Nat)] w (RetBools w (valsF f s (qdy f.vars.toNat s))) := by
 obtain ⟨p0, p1, p2, p3⟩ := fmErr_parts h0
 obtain ⟨nv, rfl, hn, hv, ht⟩ := hf
 obtain ⟨ao, c, rfl, hc, hc2, _⟩ := hn.shape
 obtain ⟨v, ns, top⟩ := f
 simp only at hv hc ht hn p0 p1 p2 p3 hs ⊢
 obtain ⟨V, rfl⟩ : ∃ V : Nat, v = V := ⟨v.toNat, by omega⟩
 rw [Int.toNat_natCast] at hs
 have HN := qHd hn; have HP := qHd p3; have HS := qHd hs
 have HVF := qHd (show valsF ⟨V, ns, top⟩ s (qdy (V : Int).toNat s) = qaj (valsE V s (qdy V s)) ns from rfl)
 clear hn p3 h0 ht hv hs
 have p2' : (ns.length : Int) ≤ 128 := by omega
 obtain ⟨W, hW, hbW, g1, hG1, hg1⟩ := qBx5 w (.cells #[.int .i64 V, .slice ao ns.length c, .int .i64 top] 24)
 have HBW := qHd hbW; have G1 := qHd hg1
 obtain ⟨x0, x1, x2⟩ := row3 hg1
 rw [hW, hG1] at x0 x1 x2
 clear hbW hg1
 go_enter Tryz.func92, Tryz.ntmps92
 go_wp2_with (with_reducible refine wpList_pauseM ?_)
 rw [← hW, ← hG1]
 clear hW hG1 x0 x1 x2
 refine wpList_makeNM W.heap.size Tryz.boolTy rfl V (V + ns.length) rfl rfl (by omega) (by omega) (by omega) (by omega) (by decide) (Nat.le_refl _) ?_
 intro w1 ho1 hgr1
 have hb1 : Below W.heap.size W w1 := (Below.refl _ _).grown hgr1 (Nat.le_refl _) (fun k hk => by cases hk)
 obtain ⟨g5, hG5⟩ : ∃ g, g = W.heap.size := ⟨_, rfl⟩
 rw [← hG5] at ho1 ⊢
 have l5 : W.heap.size ≤ g5 := by omega
 clear hgr1
 have HO1 := qHd (show w1.ownsRow W.heap.size 4 1 (.slice (some ⟨g5, 0, none⟩) V (V + ns.length)) V (bvals ((valsE V s (qdy V s)).take 0) ++ List.replicate (V - 0) (.bool false)) by rw [List.take_zero, Nat.sub_zero]; exact hG5 ▸ ho1)
 have HB1 := qHd hb1; clear hb1 ho1 hG5
 go_wp2_with (with_reducible first | refine qah ?_ | refine qae ?_)
 refine qad.mk ?_
 go_loopw [24] (fun i' wx => ∃ q : Nat, q ≤ V ∧ i' = .int .i64 q ∧ Hid (Below W.heap.size W wx) ∧ Hid (wx.ownsRow W.heap.size 4 1 (.slice (some ⟨g5, 0, none⟩) V (V + ns.length)) V (bvals ((valsE V s (qdy V s)).take q) ++ List.replicate (V - q) (.bool false)))) (fun i' _ => V - (intOf i').toNat)
 case atStart => exact ⟨0, Nat.zero_le _, rfl, HB1, HO1⟩
 case round =>
  obtain ⟨q, hq, rfl, HBX, O⟩ := hrel
  by_cases hlt : q < V
  ·have hltz : (q : Int) < (V : Int) := by omega
   obtain ⟨ys, y1, yt, hY⟩ := bit_parts (x := s) (i := q) (by omega)
   obtain ⟨q1, q2, q3, q4⟩ := hY
   go_wp2_with (with_reducible refine qbr ?_)
   refine wpList_stO q O.out hlt rfl rfl (by kernel_rfl) ?_
   intro w5 ho5 hg5
   have HB5 := qHd (own_low O.out hg5 HBX.out HBX.out.size)
   have HO5 := qHd (show w5.ownsRow W.heap.size 4 1 (.slice (some ⟨g5, 0, none⟩) V (V + ns.length)) V (bvals ((valsE V s (qdy V s)).take (q + 1)) ++ List.replicate (V - (q + 1)) (.bool false)) by
    rw [valsE_take V s _ q hlt, bvals_app]
    have e1 : bvals [ev3 s (qdy V s) q] = [Value.bool yt] := by rw [ev3_state HS.out hlt, q4]; cases yt <;> rfl
    rw [e1, ← set_next, show V - (q + 1) + 1 = V - q by omega]
    have e2 : (bvals ((valsE V s (qdy V s)).take q)).length = q := by rw [bvals_length, List.length_take, qdu]; omega
    rw [e2]; exact ho5)
   clear ho5 hg5 q1 q2 q3 q4
   go_wp2_with fail
   go_roundw
   case rel => exact ⟨q + 1, by omega, by go_num, HB5, HO5⟩
   case measure => simp [intOf]; omega
  ·have hq' : q = V := by omega
   subst hq'
   have O := O.out
   rw [List.take_of_length_le (by rw [qdu]; exact Nat.le_refl _), Nat.sub_self, List.replicate_zero, List.append_nil] at O
   have HO := qHd O; clear O
   obtain ⟨x0, x1, x2⟩ := row3 (qaa G1.out HBX.out)
   go_wp2_with (with_reducible first | refine qah ?_ | refine qae ?_)
   clear x0 x1 x2
   refine qad.mk ?_
   go_loopw [39, 5] (fun i' vv wx => ∃ j : Nat, j ≤ ns.length ∧ i' = .int .i64 j ∧ Below W.heap.size W wx ∧ Hid (wx.ownsRow W.heap.size 4 1 vv (q + j) (bvals (qaj (valsE q s (qdy q s)) (ns.take j))))) (fun i' _ _ => ns.length - (intOf i').toNat)
   case atStart => exact ⟨0, Nat.zero_le _, rfl, HBX.out, HO⟩
   case round =>
    obtain ⟨j, hj, rfl, hby, O⟩ := hrel
    obtain ⟨wo, rfl⟩ : ∃ wo : World, wo = wr := ⟨_, rfl⟩
    have hbw := HBW.out.trans (hby.mono HBW.out.size)
    by_cases hlt : j < ns.length
    ·obtain ⟨x, hx⟩ : ∃ x, ns[j]? = some x := ⟨ns[j], List.getElem?_eq_getElem hlt⟩
     obtain ⟨b, off, rfl, hb, _, hat⟩ := (HN.out.below hbw).at (by omega)
     obtain ⟨c0, c1, ⟨av, c2, hI⟩, hk, hK⟩ := hat j x hx
     clear hat
     have he := ndsErr_at ns 0 HP.out j x hx
     rw [Nat.zero_add] at he
     have hle := fun k => valsN_le (ns.take j) 0 (valsE q s (qdy q s)) (ndsOK_take ns 0 j HP.out) (fun k => by rw [valsE_gd]; split <;> first | exact ev3_le _ _ _ | omega) k
     have hno := fun k => state_known HS.out HP.out k j
     have hlen : (qaj (valsE q s (qdy q s)) (ns.take j)).length = q + j := by rw [qdt, qdu, List.length_take]; omega
     have hnext := valsN_take hx (valsE q s (qdy q s))
     obtain ⟨vs, hvs⟩ : ∃ vs, vs = qaj (valsE q s (qdy q s)) (ns.take j) := ⟨_, rfl⟩
     rw [← hvs] at O hle hno hlen hnext
     have HNX := qHd hnext; have HLE := qHd hle; have HNO := qHd hno; have HLN := qHd hlen; clear hvs hnext hle hlen hno
     clear hx
     have ha16 := nd_16 he
     have HARG := qHd (ndErr_arg he)
     have HE := qHd he; clear he
     obtain ⟨kind, K, args⟩ := x
     simp only at c0 c1 c2 hI hk hK ha16 HARG
     obtain ⟨ao', c', rfl, hc', hc2', _⟩ := hI.shape
     have HI := qHd hI; clear hI
     have HK := qHd (And.intro hk hK); clear hk hK
     have hltz : (j : Int) < (ns.length : Int) := by omega
     obtain ⟨aov, cv, rfl, hcv, hcv2, _⟩ := qaz O.out
     have HBY := qHd hby; clear hby hbw
     go_wp2_with (with_reducible first | refine qah ?_ | refine qae ?_)
     clear c0 c1 c2
     refine qad.mk ?_
     obtain ⟨W3, hW3, hb3, hg8⟩ := qBx3 wo (.cells #[.int .i64 kind, .int .i64 K, .slice ao' args.length c'] 56)
     rw [← hW3]; clear hW3
     obtain ⟨g8, hG8⟩ : ∃ g, g = wo.heap.size := ⟨_, rfl⟩
     rw [← hG8] at hg8 ⊢
     clear hG8
     have HBI := qHd hb3; have G8 := qHd hg8; clear hb3 hg8
     have HBZ := qHd (HBY.out.trans (HBI.out.mono HBY.out.size))
     go_loopw [46, 9] (fun i' v9 wx => ∃ k n1 : Nat, k ≤ args.length ∧ i' = .int .i64 k ∧ v9 = .int .i64 n1 ∧ n1 ≤ k ∧ wx = W3 ∧ Hid (n1 = qcb vs (args.take k) 1)) (fun i' _ _ => args.length - (intOf i').toNat)
     case atStart => exact ⟨0, 0, Nat.zero_le _, rfl, rfl, Nat.le_refl _, rfl, qHd rfl⟩
     case round =>
      obtain ⟨k, n1, hk, rfl, rfl, l1, rfl, CN⟩ := hrel
      obtain ⟨wi, rfl⟩ : ∃ wi : World, wi = wr := ⟨_, rfl⟩
      by_cases hlk : k < args.length
      ·obtain ⟨ba, offa, rfl, hba, _, hata⟩ := (HI.out.below HBI.out).at (by omega)
       obtain ⟨a, hqa⟩ : ∃ a, args[k]? = some a := ⟨args[k], List.getElem?_eq_getElem hlk⟩
       have ca := hata k a hqa
       clear hata
       have hla := HARG.out a (List.mem_of_getElem? hqa)
       obtain ⟨A, rfl⟩ : ∃ A : Nat, a = A := ⟨a.toNat, by omega⟩
       have hAl : A < q + j := by omega
       obtain ⟨gv, rfl, hgv1, hgv2, _, _, hcell⟩ := qbt (qci O.out HBI.out) rfl (by omega)
       have cA := hcell A _ (bvals_at (by rw [HLN.out]; exact hAl))
       clear hcell
       have hlk' : (k : Int) < (args.length : Int) := by omega
       have hA' : (A : Int) < (q : Int) + (j : Int) := by omega
       have S := cntV_snoc vs (args.take k) (A : Int) 1
       rw [← take_snoc hqa, Int.toNat_natCast] at S
       obtain ⟨xb, hxb⟩ : ∃ xb, xb = decide (gd vs A = 1) := ⟨_, rfl⟩
       rw [← hxb] at cA
       have SS := qHd (show qcb vs (args.take (k + 1)) 1 = n1 + if xb = true then 1 else 0 by rw [S, ← CN.out, hxb]; simp)
       clear S hqa hxb
       cases xb
       ·go_wp2_with fail
        go_roundw
        case rel => exact ⟨k + 1, n1, by omega, by go_num, rfl, by omega, by first | rfl | trivial, qHd (by rw [SS.out]; rfl)⟩
        case measure => simp [intOf]; omega
       ·go_wp2_with fail
        go_roundw
        case rel => exact ⟨k + 1, n1 + 1, by omega, by go_num, by go_num, by omega, by first | rfl | trivial, qHd (by rw [SS.out]; rfl)⟩
        case measure => simp [intOf]; omega
      ·have hk' : k = args.length := by omega
       subst hk'
       have CN := qHd CN.out
       rw [List.take_length] at CN
       obtain ⟨x0, x1, x2⟩ := row3 G8.out
       have h7 : ¬ (kind < 0 ∨ 5 < kind) := fun h => by have h0 := HE.out; unfold qbe at h0; rw [if_pos h] at h0; cases h0
       have hK0 := ndErr_K HE.out
       have hAR := ndErr_args HE.out
       have HKK := HK.out
       unfold I64 at HKK
       simp only at h7 hK0 hAR
       have h2z := cnt_no2 HNO.out args
       have h3s := cnt_three vs HLE.out args
       rw [h2z, ← CN.out] at h3s
       obtain ⟨n0, hn0⟩ : ∃ n0, n0 = qcb vs args 0 := ⟨_, rfl⟩
       rw [← hn0] at h3s
       obtain ⟨nx, hnx⟩ : ∃ nx, nx = ndVal ⟨kind, K, args⟩ n0 n1 0 := ⟨_, rfl⟩
       have HNX2 := qHd (show qaj (valsE q s (qdy q s)) (ns.take (j + 1)) = vs ++ [nx] by rw [HNX.out, hnx, CN.out, hn0, h2z])
       have HX2 := qHd hnx
       clear hnx hn0 h2z CN
       obtain ⟨V, rfl⟩ : ∃ V, V = q := ⟨_, rfl⟩
       have hkk : kind = 0 ∨ kind = 1 ∨ kind = 2 ∨ kind = 3 ∨ kind = 4 ∨ kind = 5 := by omega
       rcases hkk with rfl | rfl | rfl | rfl | rfl | rfl
       ·skip
        have hKz := qHd (hK0 rfl); clear hK0 h7 hAR
        go_wp2_with (with_reducible refine qcu ?_)
        refine wpList_app1 W.heap.size Tryz.boolTy rfl (by decide) _ (V + j) _ [.bool _] wi.heap.size 4 rfl rfl (qci O.out (HBI.out.trans ((Below.refl _ _).alloc (Nat.le_refl _) _ |>.mono HBI.out.size))) (heap_alloc_new _ _) rfl rfl (by omega) (by decide) (Nat.le_trans HBZ.out.size (qdq _ _)) ?_
        intro v' w5 ho5 hg5
        have hb7 := own_low (qci O.out (HBI.out.trans ((Below.refl _ _).alloc (Nat.le_refl _) _ |>.mono HBI.out.size))) hg5 (HBZ.out.alloc HBZ.out.size _) (Nat.le_trans HBZ.out.size (qdq _ _))
        clear hg5
        have HO5 := qHd (show w5.ownsRow W.heap.size 4 1 v' (V + (j + 1)) (bvals (qaj (valsE V s (qdy V s)) (ns.take (j + 1)))) by
         rw [HNX2.out, bvals_app]
         have e : ∀ b : Bool, b = decide (nx = 1) → [Value.bool b] = bvals [nx] := fun b h => by rw [h]; rfl
         rw [← e _ ?hv]
         ·exact ho5
         case hv =>
          rw [HX2.out]
          rcases hKz.out with rfl | rfl <;> rfl)
        have HB7 := qHd hb7; clear ho5 hb7
        go_wp2_with fail
        go_roundw
        case rel => exact ⟨j + 1, by omega, by go_num, HB7.out, HO5⟩
        case measure => simp [intOf]; omega
       ·skip
        have hl1 : args.length = 1 := by have := hAR; simp [qbq] at this; omega
        clear hK0 h7 hAR
        go_wp2_with (with_reducible refine qcu ?_)
        refine wpList_app1 W.heap.size Tryz.boolTy rfl (by decide) _ (V + j) _ [.bool _] wi.heap.size 4 rfl rfl (qci O.out (HBI.out.trans ((Below.refl _ _).alloc (Nat.le_refl _) _ |>.mono HBI.out.size))) (heap_alloc_new _ _) rfl rfl (by omega) (by decide) (Nat.le_trans HBZ.out.size (qdq _ _)) ?_
        intro v' w5 ho5 hg5
        have hb7 := own_low (qci O.out (HBI.out.trans ((Below.refl _ _).alloc (Nat.le_refl _) _ |>.mono HBI.out.size))) hg5 (HBZ.out.alloc HBZ.out.size _) (Nat.le_trans HBZ.out.size (qdq _ _))
        clear hg5
        have HO5 := qHd (show w5.ownsRow W.heap.size 4 1 v' (V + (j + 1)) (bvals (qaj (valsE V s (qdy V s)) (ns.take (j + 1)))) by
         rw [HNX2.out, bvals_app]
         have e : ∀ b : Bool, b = decide (nx = 1) → [Value.bool b] = bvals [nx] := fun b h => by rw [h]; rfl
         rw [← e _ ?hv]
         ·exact ho5
         case hv =>
          rw [HX2.out]
          refine Eq.trans ?_ (lev_one _ _).symm
          first | rfl | (rw [Bool.eq_iff_iff]; simp; done) | (rw [Bool.eq_iff_iff]; simp; omega))
        have HB7 := qHd hb7; clear ho5 hb7
        go_wp2_with fail
        go_roundw
        case rel => exact ⟨j + 1, by omega, by go_num, HB7.out, HO5⟩
        case measure => simp [intOf]; omega
       ·skip
        clear hK0 h7 hAR
        go_wp2_with (with_reducible refine qcu ?_)
        refine wpList_app1 W.heap.size Tryz.boolTy rfl (by decide) _ (V + j) _ [.bool _] wi.heap.size 4 rfl rfl (qci O.out (HBI.out.trans ((Below.refl _ _).alloc (Nat.le_refl _) _ |>.mono HBI.out.size))) (heap_alloc_new _ _) rfl rfl (by omega) (by decide) (Nat.le_trans HBZ.out.size (qdq _ _)) ?_
        intro v' w5 ho5 hg5
        have hb7 := own_low (qci O.out (HBI.out.trans ((Below.refl _ _).alloc (Nat.le_refl _) _ |>.mono HBI.out.size))) hg5 (HBZ.out.alloc HBZ.out.size _) (Nat.le_trans HBZ.out.size (qdq _ _))
        clear hg5
        have HO5 := qHd (show w5.ownsRow W.heap.size 4 1 v' (V + (j + 1)) (bvals (qaj (valsE V s (qdy V s)) (ns.take (j + 1)))) by
         rw [HNX2.out, bvals_app]
         have e : ∀ b : Bool, b = decide (nx = 1) → [Value.bool b] = bvals [nx] := fun b h => by rw [h]; rfl
         rw [← e _ ?hv]
         ·exact ho5
         case hv =>
          rw [HX2.out]
          refine Eq.trans ?_ (lev_one _ _).symm
          first | rfl | (rw [Bool.eq_iff_iff]; simp; done) | (rw [Bool.eq_iff_iff]; simp; omega))
        have HB7 := qHd hb7; clear ho5 hb7
        go_wp2_with fail
        go_roundw
        case rel => exact ⟨j + 1, by omega, by go_num, HB7.out, HO5⟩
        case measure => simp [intOf]; omega
       ·skip
        clear hK0 h7 hAR
        go_wp2_with (with_reducible refine qcu ?_)
        refine wpList_app1 W.heap.size Tryz.boolTy rfl (by decide) _ (V + j) _ [.bool _] wi.heap.size 4 rfl rfl (qci O.out (HBI.out.trans ((Below.refl _ _).alloc (Nat.le_refl _) _ |>.mono HBI.out.size))) (heap_alloc_new _ _) rfl rfl (by omega) (by decide) (Nat.le_trans HBZ.out.size (qdq _ _)) ?_
        intro v' w5 ho5 hg5
        have hb7 := own_low (qci O.out (HBI.out.trans ((Below.refl _ _).alloc (Nat.le_refl _) _ |>.mono HBI.out.size))) hg5 (HBZ.out.alloc HBZ.out.size _) (Nat.le_trans HBZ.out.size (qdq _ _))
        clear hg5
        have HO5 := qHd (show w5.ownsRow W.heap.size 4 1 v' (V + (j + 1)) (bvals (qaj (valsE V s (qdy V s)) (ns.take (j + 1)))) by
         rw [HNX2.out, bvals_app]
         have e : ∀ b : Bool, b = decide (nx = 1) → [Value.bool b] = bvals [nx] := fun b h => by rw [h]; rfl
         rw [← e _ ?hv]
         ·exact ho5
         case hv =>
          rw [HX2.out]
          refine Eq.trans ?_ (lev_one _ _).symm
          first | rfl | (rw [Bool.eq_iff_iff]; simp; done) | (rw [Bool.eq_iff_iff]; simp; omega))
        have HB7 := qHd hb7; clear ho5 hb7
        go_wp2_with fail
        go_roundw
        case rel => exact ⟨j + 1, by omega, by go_num, HB7.out, HO5⟩
        case measure => simp [intOf]; omega
       ·skip
        clear hK0 h7 hAR
        go_wp2_with (with_reducible refine qcu ?_)
        refine wpList_app1 W.heap.size Tryz.boolTy rfl (by decide) _ (V + j) _ [.bool _] wi.heap.size 4 rfl rfl (qci O.out (HBI.out.trans ((Below.refl _ _).alloc (Nat.le_refl _) _ |>.mono HBI.out.size))) (heap_alloc_new _ _) rfl rfl (by omega) (by decide) (Nat.le_trans HBZ.out.size (qdq _ _)) ?_
        intro v' w5 ho5 hg5
        have hb7 := own_low (qci O.out (HBI.out.trans ((Below.refl _ _).alloc (Nat.le_refl _) _ |>.mono HBI.out.size))) hg5 (HBZ.out.alloc HBZ.out.size _) (Nat.le_trans HBZ.out.size (qdq _ _))
        clear hg5
        have HO5 := qHd (show w5.ownsRow W.heap.size 4 1 v' (V + (j + 1)) (bvals (qaj (valsE V s (qdy V s)) (ns.take (j + 1)))) by
         rw [HNX2.out, bvals_app]
         have e : ∀ b : Bool, b = decide (nx = 1) → [Value.bool b] = bvals [nx] := fun b h => by rw [h]; rfl
         rw [← e _ ?hv]
         ·exact ho5
         case hv =>
          rw [HX2.out]
          refine Eq.trans ?_ (lev_one _ _).symm
          first | rfl | (rw [Bool.eq_iff_iff]; simp; done) | (rw [Bool.eq_iff_iff]; simp; omega))
        have HB7 := qHd hb7; clear ho5 hb7
        go_wp2_with fail
        go_roundw
        case rel => exact ⟨j + 1, by omega, by go_num, HB7.out, HO5⟩
        case measure => simp [intOf]; omega
       ·skip
        clear hK0 h7 hAR
        have m0 : decide ((((n1 : Nat) : Int).tmod 2) = 1) = decide (n1 % 2 = 1) := by rw [Int.tmod_eq_emod_of_nonneg (by omega), Bool.eq_iff_iff]; simp; omega
        go_wp2_with (with_reducible refine qcu ?_)
        refine wpList_app1 W.heap.size Tryz.boolTy rfl (by decide) _ (V + j) _ [.bool _] wi.heap.size 4 rfl rfl (qci O.out (HBI.out.trans ((Below.refl _ _).alloc (Nat.le_refl _) _ |>.mono HBI.out.size))) (heap_alloc_new _ _) rfl rfl (by omega) (by decide) (Nat.le_trans HBZ.out.size (qdq _ _)) ?_
        intro v' w5 ho5 hg5
        have hb7 := own_low (qci O.out (HBI.out.trans ((Below.refl _ _).alloc (Nat.le_refl _) _ |>.mono HBI.out.size))) hg5 (HBZ.out.alloc HBZ.out.size _) (Nat.le_trans HBZ.out.size (qdq _ _))
        clear hg5
        have HO5 := qHd (show w5.ownsRow W.heap.size 4 1 v' (V + (j + 1)) (bvals (qaj (valsE V s (qdy V s)) (ns.take (j + 1)))) by
         rw [HNX2.out, bvals_app]
         have e : ∀ b : Bool, b = decide (nx = 1) → [Value.bool b] = bvals [nx] := fun b h => by rw [h]; rfl
         rw [← e _ ?hv]
         ·exact ho5
         case hv =>
          rw [HX2.out, ndVal_5 rfl]
          refine Eq.trans ?_ (lev_one _ _).symm
          first | (rw [m0]; simp; done) | (simp; done) | (rw [Bool.eq_iff_iff]; simp; omega))
        have HB7 := qHd hb7; clear ho5 hb7
        go_wp2_with fail
        go_roundw
        case rel => exact ⟨j + 1, by omega, by go_num, HB7.out, HO5⟩
        case measure => simp [intOf]; omega
    ·have hj' : j = ns.length := by omega
     subst hj'
     have O := O.out
     rw [List.take_length] at O
     have HO := qHd O; have HBE := qHd hbw; clear O hbw hby
     go_wp2_with fail
     go_ret
     exact ⟨_, W.heap.size, rfl, HBE.out, by rw [HVF.out, qdt, qdu]; exact HO.out⟩
theorem pow_24 {V : Nat} (h : V ≤ 24) : 2 ^ V ≤ 16777216 := by
 have h1 : 2 ^ V ≤ 2 ^ 24 := Nat.pow_le_pow_right (by decide) h
 have e : 2 ^ 24 = 16777216 := by decide
 omega
theorem shl_one {V : Nat} (h : V ≤ 24) : IntKind.wrap .i64 (2 ^ V) = ((2 ^ V : Nat) : Int) := by
 have h1 := pow_24 h
 have e : (2 : Int) ^ V = ((2 ^ V : Nat) : Int) := by simp
 rw [e]
 clear e
 generalize (2 ^ V : Nat) = P at *
 exact qda ⟨by omega, by omega⟩
def KPt (c : Value) : Value → World → Prop := fun v w => ∃ p, v = .pointer (some p) ∧ w.cell? p = some c
theorem kPt (c : Value) : MonoF (KPt c) := fun _ w1 _ ⟨p, h1, h2⟩ hb => ⟨p, h1, by rw [hb.cell (World.block_lt_of_cell? w1 p h2)]; exact h2⟩
theorem fcheck2_any (vf : Value) (f : Fm) (s : Nat) (w : World) (hf : FmV w vf f) (h0 : qcr f = 0) (hs : s < 2 ^ f.vars.toNat) :
  Calls Tryz.prog 91 #[vf, .int .i64 (s : Nat)] w (qcc w .nilIface) := by
 obtain ⟨p0, p1, p2, p3⟩ := fmErr_parts h0
 have htop := fmErr_top h0
 obtain ⟨nv, rfl, hn, hv, ht⟩ := hf
 obtain ⟨ao, c, rfl, hc, hc2, _⟩ := hn.shape
 have hF := (show FmV w _ f from ⟨_, rfl, hn, hv, ht⟩)
 obtain ⟨v, ns, top⟩ := f
 simp only at hv hc ht hn p0 p1 p2 p3 htop hs ⊢
 obtain ⟨V, rfl⟩ : ∃ V : Nat, v = V := ⟨v.toNat, by omega⟩
 obtain ⟨T, rfl⟩ : ∃ T : Nat, top = T := ⟨top.toNat, by omega⟩
 rw [Int.toNat_natCast] at hs
 have HF := qHd hF; have E0 := qHd h0
 have hT : T < V + ns.length := by omega
 have hV24 : V ≤ 24 := by omega
 have hs24 : s < 16777216 := Nat.lt_of_lt_of_le hs (pow_24 hV24)
 obtain ⟨P2, hP2⟩ : ∃ P : Nat, P = 2 ^ V := ⟨_, rfl⟩
 have DP : IntKind.wrap .i64 (2 ^ V) = (P2 : Int) := by rw [shl_one (by omega), hP2]
 have HS := qHd hs
 rw [← hP2] at hs
 obtain ⟨W, hW, hbW, g1, hG1, hg1⟩ := qBx5 w (.cells #[.int .i64 V, .slice ao ns.length c, .int .i64 T] 24)
 have HBW := qHd hbW; have G1 := qHd hg1
 obtain ⟨x0, x1, x2⟩ := row3 hg1
 rw [hW, hG1] at x0 x1 x2
 clear hbW hg1 hn hv ht hF h0 p3 htop hP2
 have HK := qHd (qdh _ ⟨V, ns, T⟩ W (HF.out.below HBW.out))
 rw [E0.out, qce] at HK
 go_enter Tryz.func91, Tryz.ntmps91
 go_wp2_with (with_reducible refine qac ?_)
 rw [← hW, ← hG1]; clear hW hG1 x0 x1 x2
 refine qad.mk ?_
 (with_reducible refine HK.out.mono ?_); rintro e w1 ⟨rfl, hb1⟩
 have HB1 := qHd (HBW.out.trans (hb1.mono HBW.out.size))
 obtain ⟨x0, x1, x2⟩ := row3 (qaa G1.out hb1)
 clear hb1 HK
 have hsz : ¬ ((P2 : Nat) : Int) ≤ (s : Int) := by omega
 have hs0 : ¬ ((s : Nat) : Int) < 0 := by omega
 go_wp2_with fail
 go_ret
 exact ⟨rfl, HB1.out⟩
def KBl (l : List Nat) : Value → World → Prop := fun v w => ∃ B, w.ownsRow B 4 1 v l.length (bvals l)
theorem kBl (l : List Nat) : MonoF (KBl l) := fun _ _ _ ⟨B, h⟩ hb => ⟨B, qci h hb⟩
theorem fvalue_any (vf : Value) (f : Fm) (s : Nat) (w : World) (hf : FmV w vf f) (h0 : qcr f = 0) (hs : s < 2 ^ f.vars.toNat) :
  Calls Tryz.prog 60 #[vf, .int .i64 (s : Nat)] w (qcc w (.tuple #[.bool (topS f s), .nilIface])) := by
 obtain ⟨tp, htp⟩ : ∃ tp, topS f s = tp := ⟨_, rfl⟩
 rw [htp]
 obtain ⟨p0, p1, p2, p3⟩ := fmErr_parts h0
 have htop := fmErr_top h0
 obtain ⟨nv, rfl, hn, hv, ht⟩ := hf
 obtain ⟨ao, c, rfl, hc, hc2, _⟩ := hn.shape
 have hF := (show FmV w _ f from ⟨_, rfl, hn, hv, ht⟩)
 obtain ⟨v, ns, top⟩ := f
 simp only at hv hc ht hn p0 p1 p2 p3 htop hs ⊢
 obtain ⟨V, rfl⟩ : ∃ V : Nat, v = V := ⟨v.toNat, by omega⟩
 obtain ⟨T, rfl⟩ : ∃ T : Nat, top = T := ⟨top.toNat, by omega⟩
 rw [Int.toNat_natCast] at hs
 have HF := qHd hF; have E0 := qHd h0
 have hT : T < V + ns.length := by omega
 have hV24 : V ≤ 24 := by omega
 have hs24 : s < 16777216 := Nat.lt_of_lt_of_le hs (pow_24 hV24)
 obtain ⟨P2, hP2⟩ : ∃ P : Nat, P = 2 ^ V := ⟨_, rfl⟩
 have DP : IntKind.wrap .i64 (2 ^ V) = (P2 : Int) := by rw [shl_one (by omega), hP2]
 have HS := qHd hs
 rw [← hP2] at hs
 obtain ⟨W, hW, hbW, g1, hG1, hg1⟩ := qBx5 w (.cells #[.int .i64 V, .slice ao ns.length c, .int .i64 T] 24)
 have HBW := qHd hbW; have G1 := qHd hg1
 obtain ⟨x0, x1, x2⟩ := row3 hg1
 rw [hW, hG1] at x0 x1 x2
 clear hbW hg1 hn hv ht hF h0 p3 htop hP2
 have HTP := qHd (show decide (gd (valsF ⟨V, ns, T⟩ s (qdy V s)) T = 1) = tp from htp)
 clear DP htp
 have HK := qHd (fcheck2_any _ ⟨V, ns, T⟩ s W (HF.out.below HBW.out) E0.out HS.out)
 go_enter Tryz.func60, Tryz.ntmps60
 go_wp2_with (with_reducible refine qac ?_)
 rw [← hW, ← hG1]; clear hW hG1 x0 x1 x2
 refine qad.mk ?_
 (with_reducible refine HK.out.mono ?_); rintro e w1 ⟨rfl, hb1⟩
 have HBW := qHd (HBW.out.trans (hb1.mono HBW.out.size))
 have G1 := qHd (qaa G1.out hb1)
 clear hb1 HK
 go_wp2_with (with_reducible first | refine qac ?_ | refine qah ?_ | refine qax ?_ | refine pauseBody ?_ | refine qae ?_)
 refine qad.mk ?_
 refine qay (A := ?aaFV) (w := w1) 7 [] (by kernel_rfl) (Fl [KEq (.agg #[.int .i64 V, .slice ao ns.length c, .int .i64 T]), KEq (.int .i64 (s : Nat)), KBl (valsF ⟨V, ns, T⟩ s (qdy V s)), KEq (.pointer (some ⟨g1, 2, none⟩)), KEq (.int .i64 (T : Nat)), KPt (.bool tp), KEq (.bool tp)]) (fun i => false) (by kernel_rfl) ?hqFV (qdx (qai (kEq _) (qai (kEq _) (qai (kBl _) (qai (kEq _) (qai (kEq _) (qai (kPt _) (qai (kEq _) qdw)))))))) ?haFV ?stFV ?tlFV
 case hqFV =>
  intro c a d v w h
  first | (simp only [Exit.then] at h ⊢; exact h) | (simp only [Exit.inBlock, Exit.then] at h ⊢; exact h) | exact h
 case haFV =>
  intro vals
  simp only [qat, qcf, if_true, Act.put, List.setIfInBounds_toArray, List.set_cons_zero, List.set_cons_succ, List.getElem?_toArray, List.getElem?_cons_zero, List.getElem?_cons_succ, Option.bind_some]
  exact rfl
 case stFV =>
  simp only [List.take_succ_cons, List.take_zero]
  refine qab rfl rfl ?_ (qab rfl rfl ?_ (qab rfl rfl ?_ (qab rfl rfl ?_ (qab rfl rfl ?_ (qab rfl rfl ?_ (qab rfl rfl ?_ (qbb)))))))
  ·intro vals w1 hb hd
   obtain ⟨e0, e1, e2⟩ := row3 (qaa G1.out hb)
   refine qSv (.agg #[.int .i64 V, .slice ao ns.length c, .int .i64 T]) (by go_simp) (qLk rfl rfl)
  ·intro vals w1 hb hd
   refine qSv (.int .i64 (s : Nat)) (by go_simp) (qLk rfl rfl)
  ·intro vals w1 hb hd
   have d0 : KEq (.agg #[.int .i64 V, .slice ao ns.length c, .int .i64 T]) (vals 0) w1 := hd 0 (by kernel_rfl)
   have d1 : KEq (.int .i64 (s : Nat)) (vals 1) w1 := hd 1 (by kernel_rfl)
   have HS2 := qHd (fvalues_any _ ⟨V, ns, T⟩ s w1 (HF.out.below (HBW.out.step hb)) E0.out HS.out hs24)
   rw [show vals 0 = _ from d0, show vals 1 = _ from d1]
   refine qbh (by go_simp; first | done | exact ⟨⟨rfl, rfl⟩, rfl⟩) ?_
   (with_reducible refine HS2.out.mono ?_); rintro e w2 ⟨v, B, rfl, hb2, ho⟩
   exact ⟨_, rfl, qba hb2 ⟨B, ho⟩ (fun h => by cases h)⟩
  ·intro vals w1 hb hd
   refine qSv (.pointer (some ⟨g1, 2, none⟩)) (by go_simp) (qLk rfl rfl)
  ·intro vals w1 hb hd
   obtain ⟨e0, e1, e2⟩ := row3 (qaa G1.out hb)
   rw [show vals 3 = .pointer (some ⟨g1, 2, none⟩) from hd 3 (by kernel_rfl)]
   refine qSv (.int .i64 (T : Nat)) (by go_simp) (qLk rfl rfl)
  ·intro vals w1 hb hd
   have d2 : KBl (valsF ⟨V, ns, T⟩ s (qdy V s)) (vals 2) w1 := hd 2 (by kernel_rfl)
   have d4 : KEq (.int .i64 (T : Nat)) (vals 4) w1 := hd 4 (by kernel_rfl)
   obtain ⟨B, ho⟩ := d2
   obtain ⟨ap, cp, ev, _, _, _⟩ := qaz ho
   have ho2 : w1.ownsRow B _ 1 (vals 2) _ _ := ho
   rw [ev] at ho2 ⊢
   obtain ⟨gv, rfl, _, _, _, _, hcell⟩ := qbt ho2 rfl (by rw [valsF_length]; simp only [Int.toNat_natCast]; omega)
   have cT := hcell T _ (bvals_at (by rw [valsF_length]; simp only [Int.toNat_natCast]; omega))
   rw [HTP.out] at cT
   rw [show vals 4 = _ from d4, valsF_length]
   simp only [Int.toNat_natCast]
   have hTz : (T : Int) < (V : Int) + (ns.length : Int) := by omega
   refine qak (v := .pointer (some ⟨gv, T, none⟩)) (w' := w1) (by go_simp) (qba (Below.refl _ _) ⟨_, rfl, cT⟩ (fun h => by cases h))
  ·intro vals w1 hb hd
   have d5 : KPt (.bool tp) (vals 5) w1 := hd 5 (by kernel_rfl)
   obtain ⟨p, ev, hp⟩ := d5
   rw [ev]
   refine qSv (.bool tp) (by go_simp) (qLk rfl rfl)
 case tlFV =>
  intro vals w2 hb2 hf hdis
  simp only [List.drop_succ_cons, List.drop_zero]
  have z6 : vals 6 = _ := hf 6 (by decide)
  rw [z6]; clear z6 hf hdis
  have HB2 := qHd (HBW.out.trans (hb2.mono HBW.out.size))
  go_wp2_with fail
  go_ret2
  exact ⟨rfl, HB2.out⟩
end Go.Proofs.YteadcgmaailjlaaGreatDoor
