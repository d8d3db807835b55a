/-
  What the law leans on, one text behind the other (the rest).
  Conditions: each theorem's own.
-/
import Derived.Test.YthhgfhdmfhnklaaGreatDoorMV6
set_option maxRecDepth 100000
set_option maxHeartbeats 16000000
namespace Go.Proofs.YthhgfhdmfhnklaaGreatDoor
theorem valsN_known {vars : Int} : ∀ (l : List Nd) (i : Nat) (vs : List Nat), qfo vars i l → (∀ j, gd vs j ≤ 2) → (∀ j, gd vs j ≠ 2) → ∀ j, gd (qck vs l) j ≠ 2
 | [], _, _, _, _, h => h
 | x :: xs, i, vs, ok, h1, h2 => by
  obtain ⟨hx, hxs⟩ := ndsOK_cons ok
  simp only [qck]
  refine valsN_known xs (i + 1) _ hxs ?_ ?_
  ·intro j; rw [gd_snoc]; split
   ·exact h1 j
   split
   ·exact ndVal_le hx _ _ _
   ·decide
  ·intro j; rw [gd_snoc]; split
   ·exact h2 j
   split
   ·exact nd_known' hx h1 (fun a _ => h2 _)
   ·decide
theorem fmVal_known {f : Fm} (h : qfo f.vars 0 f.nodes) {yes no : Nat} (hk : ∀ i, i < f.vars.toNat → ev3 yes no i ≠ 2) : qco f yes no ≠ 2 := by
 refine valsN_known f.nodes 0 _ h (fun j => ?_) (fun j => ?_) _
 ·rw [qdl]; split
  ·exact ev3_le _ _ _
  ·decide
 ·rw [qdl]; split
  ·rename_i e; exact hk j e
  ·decide
theorem opens_none {y n : Nat} : ∀ k, qdb y n k = 0 → ∀ v, v < k → y.testBit v = true ∨ n.testBit v = true
 | 0, _, v, hv => by omega
 | k + 1, h, v, hv => by
  simp only [qdb] at h
  by_cases e : v = k
  ·subst e
   by_cases q : y.testBit v || n.testBit v
   ·simpa using q
   ·rw [if_neg q] at h; omega
  ·exact opens_none k (by omega) v (by omega)
theorem qer (v y n : Nat) : qah (leafT v) y n = [⟨y, n, v⟩] := by simp [leafT, qah]
theorem leafT_err (vars : Int) (v above m : Nat) (h : m + 1 ≤ 4096) : qbh vars (leafT v) above m = (m + 1, 0) := by
 unfold leafT; simp only [qbh]; rw [if_neg (by omega)]; simp
theorem grT_hold {f : Fm} : ∀ d y n, holdL f (qah (grT f d y n) y n)
 | 0, y, n => by
  simp only [grT]; rw [qer]
  intro x hx; rw [List.mem_singleton] at hx; subst hx; exact .inr rfl
 | d + 1, y, n => by
  simp only [grT]
  split
  ·rw [qer]
   intro x hx; rw [List.mem_singleton] at hx; subst hx; exact .inr rfl
  ·simp only [qah, Int.toNat_natCast]
   intro x hx
   rcases List.mem_append.1 hx with h | h
   ·exact grT_hold d y _ x h
   ·exact grT_hold d _ n x h
theorem grT_err {f : Fm} (h : qcc f = 0) : ∀ d y n above m, (∀ i, above.testBit i = (y.testBit i || n.testBit i)) → m + grN f d y n ≤ 4096 → qbh f.vars (grT f d y n) above m = (m + grN f d y n, 0)
 | 0, y, n, above, m, _, hm => by simp only [grT, grN] at hm ⊢; exact leafT_err _ _ _ _ hm
 | d + 1, y, n, above, m, hab, hm => by
  simp only [grT, grN] at hm ⊢
  by_cases q : qco f y n = 2
  ·have hq : ¬ qco f y n ≠ 2 := fun k => k q
   rw [if_neg hq] at hm ⊢
   rw [if_neg hq]
   obtain ⟨h1, h2⟩ := fmNext_ok h q
   obtain ⟨hy, hn⟩ := ev3_open h2
   obtain ⟨v, hv⟩ : ∃ v, v = qcp f y n := ⟨_, rfl⟩
   rw [← hv] at h1 hy hn hm ⊢
   have p1 := grN_pos f d y (n ||| 1 <<< v)
   have p2 := grN_pos f d (y ||| 1 <<< v) n
   have hb : above.testBit v = false := by rw [hab, hy, hn]; rfl
   have e1 := grT_err h d y (n ||| 1 <<< v) (above ||| 1 <<< v) (m + 1) (fun i => by rw [qcm, qcm, hab i, Bool.or_assoc]) (by omega)
   have e2 := grT_err h d (y ||| 1 <<< v) n (above ||| 1 <<< v) (m + 1 + grN f d y (n ||| 1 <<< v)) (fun i => by rw [qcm, qcm, hab i]; cases y.testBit i <;> cases n.testBit i <;> simp) (by omega)
   simp only [qbh, qdv, Int.toNat_natCast]
   rw [if_neg (by omega), if_neg (by simp), if_neg (by simp), if_neg (by omega), if_neg (by rw [hb]; decide), if_neg (by simp)]
   simp [e1, e2]; omega
  ·rw [if_pos q] at hm ⊢
   rw [if_pos q]
   exact leafT_err _ _ _ _ hm
theorem grT_closed {f : Fm} (h : qcc f = 0) : ∀ d y n, qdb y n f.vars.toNat ≤ d → ∀ x ∈ qah (grT f d y n) y n, x.reason ≠ 2
 | 0, y, n, ho => by
  simp only [grT]; rw [qer]
  intro x hx; rw [List.mem_singleton] at hx; subst hx
  have hk := fmVal_known (qbe h).2.2.2 (yes := y) (no := n) (fun i hi => by
   unfold ev3
   rcases opens_none _ (Nat.le_zero.1 ho) i hi with e | e
   ·rw [if_pos e]; decide
   ·split
    ·decide
    ·first | decide | (rw [if_pos e]; decide))
  intro k
  apply hk
  have k' : ((qco f y n : Nat) : Int) = 2 := k
  omega
 | d + 1, y, n, ho => by
  by_cases q : qco f y n = 2
  ·have hq : ¬ qco f y n ≠ 2 := fun k => k q
   obtain ⟨h1, h2⟩ := fmNext_ok h q
   obtain ⟨hy, hn⟩ := ev3_open h2
   have o1 := opens_no hy hn f.vars.toNat
   have o2 := opens_yes hy hn f.vars.toNat
   rw [if_pos h1] at o1 o2
   simp only [grT]; rw [if_neg hq]
   simp only [qah, Int.toNat_natCast]
   intro x hx
   rcases List.mem_append.1 hx with hx | hx
   ·exact grT_closed h d y _ (by omega) x hx
   ·exact grT_closed h d _ n (by omega) x hx
  ·simp only [grT]; rw [if_pos q, qer]
   intro x hx; rw [List.mem_singleton] at hx; subst hx
   intro k
   apply q
   have k' : ((qco f y n : Nat) : Int) = 2 := k
   omega
theorem cert_len {f : Fm} {t : Tr} (h : cErr f t = 0) : (qah t 0 0).length ≤ 4096 := by
 rw [qdn]
 have := (qdf t).2; have := (qds h).2.2.2; omega
end Go.Proofs.YthhgfhdmfhnklaaGreatDoor
namespace Go.Proofs.YthhgfhdmfhnklaaGreatDoor
open Go.RowKit Go.ChangeShapes Go.WideShapes
theorem num_any (c : Nat) (w : World) (hc : c < 1000) : Calls Tryz.prog 13 #[errV c] w (RetS w (.int .i64 c)) := by
 by_cases h0 : c = 0
 ·subst h0
  rw [qbi]
  go_enter Tryz.func13, Tryz.ntmps13
  go_wp2
  go_ret
  exact ⟨rfl, rfl⟩
 ·have ha := assert_yes c
  rw [qbz h0]
  go_enter Tryz.func13, Tryz.ntmps13
  go_wp2
  go_ret
  exact ⟨rfl, rfl⟩
theorem qeu (l : List Int) : (ivals l).length = l.length := by simp [ivals]
section
variable {P : Program} {w : World} {ops : Array Oper} {rest : List Oper} {a : Act} {Q : Exit → Act → World → Prop}
end
theorem truth_any (a b : Bool) (w : World) : Calls Tryz.prog 151 #[.bool a, .bool b] w (RetS w (.int .i64 (lev a b : Nat))) := by
  cases a <;> cases b <;>
    (go_enter Tryz.func151, Tryz.ntmps151
     go_wp2
     go_ret
     exact ⟨rfl, rfl⟩)
section
variable {P : Program} {w : World} {ops : Array Oper} {rest : List Oper} {a : Act} {Q : Exit → Act → World → Prop}
theorem wpList_makeF {d : Option Tmp} {tt t e : TypeId} {l c : Operand} {pos : String} {af : Array Edge} (base : Nat) {z : Value} {bytes : Nat} (T : qee P t e z 1 bytes) (hzc : z.cells = #[z])
  {kl kc : IntKind} {L C : Int} (n : Nat) (hl : a.eval l = .int kl L) (hc : a.eval c = .int kc C) (hL : L = (n : Int)) (hC : C = (n : Int)) (hn : n ≤ 1000000) (hby : bytes ≤ 1000) (hbase : base ≤ w.heap.size)
  (hK : ∀ w', w'.ownsRow base e 1 (.slice (some ⟨w.heap.size, 0, none⟩) n n) n (List.replicate n z) → w.grownBy w' none → wpList P ops Q rest (a.put d (.slice (some ⟨w.heap.size, 0, none⟩) n n)) w') :
  qap (wpList P ops Q (⟨d, .makeSlice t l c, tt, pos, af, none⟩ :: rest) a w) := by
 obtain ⟨i0, hi, hz0, hz1, hz2⟩ := T.info
 have hb : bytes * n ≤ 1000 * 1000000 := Nat.mul_le_mul hby hn
 refine wpList_make_full w rfl l c t rfl base e i0 z 1 T.under hi hz0 hz1 kl kc L C n hl hc hL hC (by rw [hz2]; omega) (by unfold maxLen; omega) hbase (fun w' h1 h2 => hK w' ?_ h2)
 rw [hzc, Nat.mul_one, toList_madeCells_one] at h1; exact h1
end
def verV (f : Fm) (t : Tr) : Bool × Int × Nat := if cErr f t = 0 then (decide (qbj f (qah t 0 0) 0 < 0), qbj f (qah t 0 0) 0, 0) else (false, 0, cErr f t)
theorem pverify_any (vf x : Value) (f : Fm) (t : Tr) (w : World) (hf : FmV w vf f) (ht : TrV w x t) :
  Calls Tryz.prog 11 #[vf, x] w (qea w (.tuple #[.bool (verV f t).1, .int .i64 (verV f t).2.1, errV (verV f t).2.2])) := by
 have hrs := qfx t x 0 0 ht
 obtain ⟨ec, hec⟩ : ∃ ec, cErr f t = ec := ⟨_, rfl⟩
 obtain ⟨nv, rfl, hn, hv, htp⟩ := hf
 obtain ⟨ao, c, rfl, hc, hc2, _⟩ := hn.shape
 have HF := qHd (show FmV w _ f from ⟨_, rfl, hn, hv, htp⟩)
 have HT := qHd ht
 obtain ⟨tv, tr, ta, tn, tc, rfl⟩ := ht.shape
 obtain ⟨W, hW, hbW, hg1, hg2⟩ := qBx2 w (.cells #[.int .i64 f.vars, .slice ao f.nodes.length c, .int .i64 f.top] 24) (.cells #[.int .i64 tv, .slice ta tn tc, .int .i64 tr] 27)
 obtain ⟨g1, hG1⟩ : ∃ g, g = w.heap.size := ⟨_, rfl⟩
 obtain ⟨g2, hG2⟩ : ∃ g, g = w.heap.size + 1 := ⟨_, rfl⟩
 rw [← hG1] at hg1; rw [← hG2] at hg2
 have HBW := qHd hbW; have G1 := qHd hg1; have G2 := qHd hg2
 obtain ⟨x0, x1, x2⟩ := qay hg1
 obtain ⟨y0, y1, y2⟩ := qay hg2
 rw [hW, hG1] at x0 x1 x2
 rw [hW, hG2] at y0 y1 y2
 clear hbW hg1 hg2 hn hv htp ht
 have HK := qHd (pleaves_any _ _ f t W (HF.out.below HBW.out) (HT.out.below HBW.out) ec hec)
 go_enter Tryz.func11, Tryz.ntmps11
 go_wp2_with (with_reducible refine qad ?_)
 rw [← hW, ← hG2, ← hG1]; clear hW hG1 hG2 x0 x1 x2 y0 y1 y2
 refine qap.mk ?_
 (with_reducible refine HK.out.mono ?_); rintro e w1 ⟨v', rfl, hb1, hl⟩
 have HB1 := qHd (HBW.out.trans (hb1.mono HBW.out.size))
 obtain ⟨x0, x1, x2⟩ := qay (qaa G1.out hb1)
 clear hb1 HK
 by_cases h0 : ec = 0
 ·subst h0
  have VV := qHd (show verV f t = (decide (qbj f (qah t 0 0) 0 < 0), qbj f (qah t 0 0) 0, 0) by unfold verV; rw [if_pos hec])
  have hfm := (qds hec).1
  obtain ⟨p0, p1, _, _⟩ := qbe hfm
  have HK := qHd (pfirst_any _ v' f _ w1 (HF.out.below HB1.out) (hl rfl) hfm (fun z hz => okC_cube (qdy hec z hz) p0 p1) hrs (cert_len hec))
  rw [qbi]
  clear hec hfm p0 p1 hl hrs
  go_wp2_with (with_reducible refine qad ?_)
  refine qap.mk ?_
  (with_reducible refine HK.out.mono ?_); rintro e w2 ⟨rfl, hb2⟩
  have HB2 := qHd (HB1.out.trans (hb2.mono HB1.out.size))
  clear hb2 HK x0 x1 x2
  go_wp2_with fail
  go_ret3
  exact ⟨by rw [VV.out]; rfl, HB2.out⟩
 ·have VV := qHd (show verV f t = (false, 0, ec) by unfold verV; rw [if_neg (by rw [hec]; exact h0), hec])
  rw [qbz h0]
  go_wp2_with fail
  go_ret3
  exact ⟨by rw [VV.out, qbz h0]; rfl, HB1.out⟩
theorem trV_zero (w : World) : TrV w (.agg #[.int .i64 0, .slice none 0 0, .int .i64 0]) (.mk 0 [] 0) :=
 ⟨_, rfl, ⟨none, 0, rfl, Nat.le_refl _, by omega, fun _ => rfl, fun b off s h => by cases h⟩, by unfold I64; omega, by unfold I64; omega⟩
theorem lightB_vars {f : Fm} {t : Tr} (h : qfn f t = true) (h0 : qcc f = 0) : f.vars ≤ 8 ∧ f.nodes.length ≤ 20 := by
 unfold qfn at h
 simp only [Bool.and_eq_true, Bool.or_eq_true, decide_eq_true_eq] at h
 rcases h.2.2.2 with k | k
 ·exact absurd h0 k
 ·exact k
theorem mk_ok {f : Fm} (h : qcc f = 0) (m : Int) (d : Nat) (e : m = d) (hd : d ≤ 24) : mErr f m = 0 ∧ mTr f m = grT f d 0 0 := by
 subst e
 have h1 : mErr f (d : Int) = 0 := by unfold mErr; rw [if_neg (by rw [h]; decide), if_neg (by omega)]
 refine ⟨h1, ?_⟩
 unfold mTr; rw [if_pos h1, Int.toNat_natCast]
theorem row_intsV {w : World} {g : Nat} {l : List Nat} {T : TypeId} (h : w.heap[g]? = some (.cells (ivals (qdq l)).toArray T)) (hl : ∀ j, gd l j ≤ 1000000) (hm : l.length ≤ 1000000) : qfd w (.slice (some ⟨g, 0, none⟩) l.length l.length) (qdq l) := by
 refine ⟨_, l.length, by rw [qbw], by rw [qbw]; exact Nat.le_refl _, by omega, fun h => (by cases h), ?_, nints_lt hl⟩
 intro b off s hs
 cases hs
 have hg : g < w.heap.size := (Array.getElem?_eq_some_iff.1 h).1
 refine ⟨fun _ => ⟨hg, rfl⟩, fun j x hj => ?_⟩
 rw [Nat.zero_add, cell_of_row w g j _ T (0, 0) h]
 simpa using ivals_at hj
theorem own_row {w : World} {B n : Nat} {e : TypeId} {xs : List Value} {g : Nat} (h : w.ownsRow B e 1 (.slice (some ⟨g, 0, none⟩) n n) n xs) : ∃ T, w.heap[g]? = some (.cells xs.toArray T) := by
 rcases h.2 with ⟨h1, _⟩ | ⟨g', cap, cur, h1, _, hh, _, _, hs, ht⟩
 ·cases h1
 ·cases h1
  refine ⟨e, ?_⟩
  rw [hh, ← ht, List.take_of_length_le (by rw [Array.length_toList]; omega)]
theorem rof_any (V : Nat) (ao : Option Addr) (m c : Nat) (T : Int) (R : List Nat) (vv : Value) (y n A : Nat) (w : World) (hv : qfd w vv (qdq R)) (hV : V ≤ 24) (hR : R.length ≤ 128) (hy : y < 16777216) (hn : n < 16777216) (hA : A < V + R.length) :
  Calls Tryz.prog 118 #[.agg #[.int .i64 V, .slice ao m c, .int .i64 T], vv, .agg #[.int .i64 (y : Nat), .int .i64 (n : Nat)], .int .i64 (A : Nat)] w (qea w (.int .i64 (gd (qcn V y n ++ R) A : Nat))) := by
 obtain ⟨av, cv, rfl, hcv, hcv2, hcv3⟩ := hv.shape
 rw [qbw] at hcv hv ⊢
 obtain ⟨W, hW, hbW, hg1, hg2⟩ := qBx2 w (.cells #[.int .i64 V, .slice ao m c, .int .i64 T] 24) (.cells #[.int .i64 (y : Nat), .int .i64 (n : Nat)] 46)
 obtain ⟨g1, hG1⟩ : ∃ g, g = w.heap.size := ⟨_, rfl⟩
 obtain ⟨g2, hG2⟩ : ∃ g, g = w.heap.size + 1 := ⟨_, rfl⟩
 rw [← hG1] at hg1; rw [← hG2] at hg2
 obtain ⟨x0, x1, x2⟩ := qay hg1
 obtain ⟨y0, y1⟩ := qcy hg2
 have HV := qHd (hv.below hbW); have HBW := qHd hbW; clear hv hbW hg1 hg2
 rw [hW, hG1] at x0 x1 x2
 rw [hW, hG2] at y0 y1
 obtain ⟨ys, y1', yt, hY⟩ := qgb (x := y) (i := A) (by omega)
 obtain ⟨ns, n1, nt, hN⟩ := qgb (x := n) (i := A) (by omega)
 obtain ⟨q1, q2, q3, q4⟩ := hY
 obtain ⟨r1, r2, r3, r4⟩ := hN
 by_cases h : A < V
 ·have h' : (A : Int) < (V : Int) := by omega
  have hval : gd (qcn V y n ++ R) A = ev3 y n A := by
   rw [gd_append, qbf, if_pos h, qdl, if_pos h]
  rw [hval]; unfold ev3; rw [q4, r4]
  cases yt
  ·cases nt
   ·go_enter Tryz.func118, Tryz.ntmps118
    go_wp2_with fail
    rw [← hW]
    go_ret
    exact ⟨rfl, HBW.out⟩
   ·go_enter Tryz.func118, Tryz.ntmps118
    go_wp2_with fail
    rw [← hW]
    go_ret
    exact ⟨rfl, HBW.out⟩
  ·go_enter Tryz.func118, Tryz.ntmps118
   go_wp2_with fail
   rw [← hW]
   go_ret
   exact ⟨rfl, HBW.out⟩
 ·have h' : (V : Int) ≤ (A : Int) := by omega
  have hval : gd (qcn V y n ++ R) A = gd R (A - V) := by
   rw [gd_append, qbf, if_neg h]
  rw [hval]
  obtain ⟨b, off, rfl, hb, hlen, hat⟩ := HV.out.at (by omega)
  have ca := hat (A - V) _ (nints_at (by omega))
  have hs : (A : Int) - (V : Int) = ((A - V : Nat) : Int) := by omega
  rw [hW] at ca
  have hDl : ((A - V : Nat) : Int) < (R.length : Int) := by omega
  go_enter Tryz.func118, Tryz.ntmps118
  go_wp2_with fail
  rw [← hW]
  go_ret
  exact ⟨rfl, HBW.out⟩
theorem putL_30 {w : World} {g : Nat} {x0 x1 x2 y : Value} {T : TypeId} (h : w.heap[g]? = some (.cells #[x0, x1, x2] T)) : (qel w g 0 [y]).heap[g]? = some (.cells #[y, x1, x2] T) := by
 simp [qel, World.setCell, Array.getElem?_modify, h]
theorem putL_31 {w : World} {g : Nat} {x0 x1 x2 y : Value} {T : TypeId} (h : w.heap[g]? = some (.cells #[x0, x1, x2] T)) : (qel w g 1 [y]).heap[g]? = some (.cells #[x0, y, x2] T) := by
 simp [qel, World.setCell, Array.getElem?_modify, h]
theorem putL_32 {w : World} {g : Nat} {x0 x1 x2 y : Value} {T : TypeId} (h : w.heap[g]? = some (.cells #[x0, x1, x2] T)) : (qel w g 2 [y]).heap[g]? = some (.cells #[x0, x1, y] T) := by
 simp [qel, World.setCell, Array.getElem?_modify, h]
theorem putL_row {w : World} {g j : Nat} {l : List Nat} {T : TypeId} (h : w.heap[g]? = some (.cells (ivals (qdq l)).toArray T)) (x : Nat) : (qel w g j [.int .i64 (x : Int)]).heap[g]? = some (.cells (ivals (qdq (l.set j x))).toArray T) := by
 simp [qel, World.setCell, Array.getElem?_modify, h, ivals, qdq, List.map_set]
def qep (V y n : Nat) (ns : List Nd) (j : Nat) : List Nat := (qck (qcn V y n) (ns.take j)).drop V ++ List.replicate (ns.length - j) 0
theorem qce (V y n : Nat) (ns : List Nd) (j : Nat) (hj : j ≤ ns.length) : (qep V y n ns j).length = ns.length := by
 unfold qep; simp only [List.length_append, List.length_drop, qcs, qbf, List.length_take, List.length_replicate]; omega
theorem refRow_zero (V y n : Nat) (ns : List Nd) : qep V y n ns 0 = List.replicate ns.length 0 := by
 unfold qep; rw [List.take_zero]; simp [qck, qbf]
theorem refRow_full (V y n : Nat) (ns : List Nd) : qep V y n ns ns.length = (qck (qcn V y n) ns).drop V := by
 unfold qep; rw [List.take_length]; simp
theorem valsN_split (V y n : Nat) (l : List Nd) : qcn V y n ++ (qck (qcn V y n) l).drop V = qck (qcn V y n) l := by
 apply List.ext_getElem?
 intro i
 by_cases h : i < V
 ·rw [List.getElem?_append_left (by rw [qbf]; exact h)]
  have h1 := valsN_pre l (qcn V y n) i (by rw [qbf]; exact h)
  have hl : i < (qck (qcn V y n) l).length := by rw [qcs, qbf]; omega
  rw [gd_lt _ _ hl, gd_lt _ _ (by rw [qbf]; exact h)] at h1
  rw [List.getElem?_eq_getElem hl, List.getElem?_eq_getElem (by rw [qbf]; exact h), h1]
 ·rw [List.getElem?_append_right (by rw [qbf]; omega), qbf, List.getElem?_drop]
  congr 1; omega
theorem refRow_gd {V y n : Nat} {ns : List Nd} {j A : Nat} (hj : j ≤ ns.length) (hA : A < V + j) : gd (qcn V y n ++ qep V y n ns j) A = gd (qck (qcn V y n) (ns.take j)) A := by
 unfold qep
 rw [← List.append_assoc, valsN_split, gd_append, if_pos (by rw [qcs, qbf, List.length_take]; omega)]
theorem qfk {V y n : Nat} {ns : List Nd} {j nx : Nat} {vs : List Nat} (hj : j < ns.length) (h : qck (qcn V y n) (ns.take (j + 1)) = vs ++ [nx]) (hvs : vs = qck (qcn V y n) (ns.take j)) : qep V y n ns (j + 1) = (qep V y n ns j).set j nx := by
 have hl : (vs.drop V).length = j := by rw [hvs, List.length_drop, qcs, qbf, List.length_take]; omega
 have hl2 : V ≤ vs.length := by rw [hvs, qcs, qbf]; omega
 unfold qep
 rw [h, ← hvs, List.set_append, if_neg (by omega), hl, Nat.sub_self, List.drop_append_of_le_length hl2, show ns.length - j = (ns.length - (j + 1)) + 1 by omega, List.replicate_succ, List.set_cons_zero]
 simp
theorem refRow_le {V y n : Nat} {ns : List Nd} {j : Nat} (h : ∀ k, gd (qck (qcn V y n) (ns.take j)) k ≤ 2) (i : Nat) : gd (qep V y n ns j) i ≤ 1000000 := by
 unfold qep
 rw [gd_append]
 split
 ·have := h (V + i)
  unfold gd at this ⊢
  rw [List.getD_eq_getElem?_getD, List.getElem?_drop, ← List.getD_eq_getElem?_getD]; omega
 ·unfold gd; rw [List.getD_eq_getElem?_getD, List.getElem?_replicate]; split <;> simp

theorem rvalues_any (vf : Value) (f : Fm) (y n : Nat) (w : World) (hf : FmV w vf f) (h0 : qcc f = 0) (hcu : CubeOK f.vars y n) :
  Calls Tryz.prog 119 #[vf, .agg #[.int .i64 (y : Nat), .int .i64 (n : Nat)]] w (RetInts w (qdq ((qdt f y n).drop f.vars.toNat))) := by
 obtain ⟨vb, yb⟩ := hcu.small
 obtain ⟨p0, p1, p2, p3⟩ := qbe h0
 obtain ⟨nv, rfl, hn, hv, ht⟩ := hf
 obtain ⟨ao, c, rfl, hc, hc2, _⟩ := hn.shape
 obtain ⟨v, ns, top⟩ := f
 simp only at hv hc ht hn p0 p1 p2 p3 ⊢
 obtain ⟨V, rfl⟩ : ∃ V : Nat, v = V := ⟨v.toNat, by omega⟩
 have HN := qHd hn; clear hn
 have HP := qHd p3; clear p3 hcu h0 ht hv
 have p2' : (ns.length : Int) ≤ 128 := by omega
 obtain ⟨W, hW, hbW, hg1, hg2⟩ := qBx2 w (.cells #[.int .i64 V, .slice ao ns.length c, .int .i64 top] 24) (.cells #[.int .i64 (y : Nat), .int .i64 (n : Nat)] 46)
 obtain ⟨g1, hG1⟩ : ∃ g, g = w.heap.size := ⟨_, rfl⟩
 obtain ⟨g2, hG2⟩ : ∃ g, g = w.heap.size + 1 := ⟨_, rfl⟩
 rw [← hG1] at hg1; rw [← hG2] at hg2
 have G1 := qHd hg1; have G2 := qHd hg2; clear hg1 hg2
 have HBW := qHd hbW; clear hbW
 obtain ⟨x0, x1, x2⟩ := qay G1.out
 go_enter Tryz.func119, Tryz.ntmps119
 go_wp2_with (with_reducible refine wpList_pauseM ?_)
 rw [← hW, ← hG2, ← hG1]
 clear hW hG1 hG2
 refine wpList_makeF W.heap.size Tryz.intTy rfl ns.length rfl rfl (by omega) (by omega) (by omega) (by decide) (Nat.le_refl _) ?_
 intro w1 ho1 hgr1
 have hb1 : Below W.heap.size W w1 := (Below.refl _ _).grown hgr1 (Nat.le_refl _) (fun k hk => by cases hk)
 obtain ⟨g5, hG5⟩ : ∃ g, g = W.heap.size := ⟨_, rfl⟩
 rw [← hG5] at ho1 ⊢
 obtain ⟨T5, hg5⟩ := own_row ho1
 have l5 : W.heap.size ≤ g5 := by omega
 clear hgr1 x0 x1 x2 ho1
 have HG5 := qHd (show w1.heap[g5]? = some (.cells (ivals (qdq (qep V y n ns 0))).toArray T5) by rw [hg5, refRow_zero]; simp [ivals, qdq])
 have HB1 := qHd hb1; clear hb1 hg5 hG5
 obtain ⟨x0, x1, x2⟩ := qay (qaa G1.out HB1.out)
 go_wp2_with fail
 clear x0 x1 x2
 go_loopw [19] (fun i' wx => ∃ j : Nat, j ≤ ns.length ∧ i' = .int .i64 j ∧ Hid (Below W.heap.size W wx) ∧ Hid (wx.heap[g5]? = some (.cells (ivals (qdq (qep V y n ns j))).toArray T5))) (fun i' _ => ns.length - (intOf i').toNat)
 case atStart => exact ⟨0, Nat.zero_le _, rfl, HB1, HG5⟩
 case round =>
  obtain ⟨j, hj, rfl, HBX, G5⟩ := hrel
  obtain ⟨wo, rfl⟩ : ∃ wo : World, wo = wr := ⟨_, rfl⟩
  have HBV := qHd (HBW.out.trans (HBX.out.mono HBW.out.size))
  by_cases hlt : j < ns.length
  ·have hj' := hlt
   obtain ⟨x, hx⟩ : ∃ x, ns[j]? = some x := ⟨ns[j], List.getElem?_eq_getElem hlt⟩
   obtain ⟨b, off, rfl, hb, _, hat⟩ := (HN.out.below HBV.out).at (by omega)
   obtain ⟨c0, c1, ⟨av, c2, hI⟩, hk, hK⟩ := hat j x hx
   clear hat
   have he := ndsErr_at ns 0 HP.out j x hx
   rw [Nat.zero_add] at he
   have hle := fun k => valsN_le (ns.take j) 0 (qcn V y n) (ndsOK_take ns 0 j HP.out) (fun k => by rw [qdl]; split <;> first | exact ev3_le _ _ _ | omega) k
   have hlen : (qck (qcn V y n) (ns.take j)).length = V + j := by rw [qcs, qbf, List.length_take]; omega
   have hnext := valsN_take hx (qcn V y n)
   have RGD := qHd (fun A (h : A < V + j) => refRow_gd (V := V) (y := y) (n := n) (ns := ns) hj h)
   have RLE := qHd (refRow_le (V := V) (y := y) (n := n) (ns := ns) (j := j) hle)
   obtain ⟨vs, hvs⟩ : ∃ vs, vs = qck (qcn V y n) (ns.take j) := ⟨_, rfl⟩
   rw [← hvs] at hle hlen hnext RGD
   have HNX := qHd hnext; have HLE := qHd hle; have HLN := qHd hlen; clear hnext hle hlen
   have hvs := qHd hvs
   have HX := qHd hx; clear hx
   have ha16 := nd_16 he
   have HARG := qHd (ndErr_arg he)
   have HE := qHd he; clear he
   obtain ⟨kind, K, args⟩ := x
   simp only at c0 c1 c2 hI hk hK ha16 HARG
   obtain ⟨ao', c', rfl, hc', hc2', _⟩ := hI.shape
   have HI := qHd hI; clear hI
   have HK := qHd (And.intro hk hK); clear hk hK
   have hltz : (j : Int) < (ns.length : Int) := by omega
   obtain ⟨x0, x1, x2⟩ := qay (qaa G1.out HBX.out)
   go_wp2_with (with_reducible first | refine qai ?_ | refine qag ?_)
   clear x0 x1 x2 c0 c1 c2
   refine qap.mk ?_
   obtain ⟨W3, hW3⟩ : ∃ W3, W3 = (wo.alloc (.cells #[.int .i64 kind, .int .i64 K, .slice ao' args.length c'] 82)).alloc (.cells #[.int .i64 0, .int .i64 0, .int .i64 0] 200) := ⟨_, rfl⟩
   have hb3 : Below wo.heap.size wo W3 := by rw [hW3]; exact ((Below.refl _ _).alloc (Nat.le_refl _) _).alloc (by simp) _
   have hg7 : W3.heap[wo.heap.size]? = some (.cells #[.int .i64 kind, .int .i64 K, .slice ao' args.length c'] 82) := by rw [hW3]; exact heap_alloc2_old wo _ _
   have hg8 : W3.heap[wo.heap.size + 1]? = some (.cells #[.int .i64 ((0 : Nat) : Int), .int .i64 ((0 : Nat) : Int), .int .i64 ((0 : Nat) : Int)] 200) := by rw [hW3]; exact heap_alloc2_new wo _ _
   rw [← hW3]; clear hW3
   obtain ⟨g8, hG8⟩ : ∃ g, g = wo.heap.size + 1 := ⟨_, rfl⟩
   obtain ⟨g7, hG7⟩ : ∃ g, g = wo.heap.size := ⟨_, rfl⟩
   rw [← hG8] at hg8 ⊢; rw [← hG7] at hg7 ⊢
   have l8 : wo.heap.size ≤ g8 := by omega
   have n78 : g7 ≠ g8 := by omega
   clear hG7 hG8
   have HB3 := qHd hb3; have HG7 := qHd hg7; have HG8 := qHd hg8; clear hb3 hg7 hg8
   go_loopw [28] (fun i' wx => ∃ k n0 n1 n2 : Nat, k ≤ args.length ∧ i' = .int .i64 k ∧ n0 ≤ k ∧ n1 ≤ k ∧ n2 ≤ k ∧ n0 + n1 + n2 = k ∧ Hid (Below wo.heap.size wo wx) ∧ Hid (wx.heap[g7]? = some (.cells #[.int .i64 kind, .int .i64 K, .slice ao' args.length c'] 82)) ∧ Hid (wx.heap[g8]? = some (.cells #[.int .i64 ((n0 : Nat) : Int), .int .i64 ((n1 : Nat) : Int), .int .i64 ((n2 : Nat) : Int)] 200)) ∧ Hid (n0 = cntV vs (args.take k) 0 ∧ n1 = cntV vs (args.take k) 1 ∧ n2 = cntV vs (args.take k) 2)) (fun i' _ => args.length - (intOf i').toNat)
   case atStart => exact ⟨0, 0, 0, 0, Nat.zero_le _, rfl, Nat.le_refl _, Nat.le_refl _, Nat.le_refl _, rfl, HB3, HG7, HG8, qHd ⟨rfl, rfl, rfl⟩⟩
   case round =>
    obtain ⟨k, n0, n1, n2, hk, rfl, q0, q1, q2, qs, HBO, G7, G8, CN⟩ := hrel
    obtain ⟨wi, rfl⟩ : ∃ wi : World, wi = wr := ⟨_, rfl⟩
    have HBY := qHd (HBX.out.trans (HBO.out.mono HBX.out.size))
    have HBE := qHd (HBW.out.trans (HBY.out.mono HBW.out.size))
    have G5 := qHd (qaa G5.out HBO.out)
    by_cases hlk : k < args.length
    ·obtain ⟨ba, offa, rfl, hba, _, hata⟩ := (HI.out.below HBO.out).at (by omega)
     obtain ⟨a, hqa⟩ : ∃ a, args[k]? = some a := ⟨args[k], List.getElem?_eq_getElem hlk⟩
     have ca := hata k a hqa
     clear hata
     have hla := HARG.out a (List.mem_of_getElem? hqa)
     obtain ⟨A, rfl⟩ : ∃ A : Nat, a = A := ⟨a.toNat, by omega⟩
     have hAl : A < V + j := by omega
     have hx2 := HLE.out A
     have hlk' : (k : Int) < (args.length : Int) := by omega
     have S := fun z => cntV_snoc vs (args.take k) (A : Int) z
     rw [← qen hqa] at S
     rw [Int.toNat_natCast] at S
     have hIV := row_intsV G5.out RLE.out (by rw [qce _ _ _ _ _ hj]; omega)
     rw [qce _ _ _ _ _ hj] at hIV
     have HC := qHd (rof_any V (some ⟨b, off, none⟩) ns.length c top (qep V y n ns j) _ y n A wi hIV (by omega) (by rw [qce _ _ _ _ _ hj]; omega) vb yb (by rw [qce _ _ _ _ _ hj]; omega))
     rw [RGD.out A hAl] at HC
     clear hIV
     obtain ⟨xv, hxv⟩ : ∃ xv, xv = gd vs A := ⟨_, rfl⟩
     rw [← hxv] at HC hx2 S
     have SS := qHd S; clear S hqa hxv
     obtain ⟨x0, x1, x2⟩ := qay (qaa G1.out HBY.out)
     obtain ⟨y0, y1⟩ := qcy (qaa G2.out HBY.out)
     go_wp2_with (with_reducible refine qad ?_)
     clear x0 x1 x2 y0 y1 ca
     refine qap.mk ?_
     (with_reducible refine HC.out.mono ?_); rintro e w2 ⟨rfl, hb2⟩
     have HBO := qHd (HBO.out.trans (hb2.mono HBO.out.size))
     have G7 := qHd (qaa G7.out hb2); have G8 := qHd (qaa G8.out hb2)
     clear hb2 HC
     obtain ⟨z0, z1, z2⟩ := qay G8.out
     have h3 : xv = 0 ∨ xv = 1 ∨ xv = 2 := by omega
     rcases h3 with rfl | rfl | rfl
     ·go_wp2_with (with_reducible refine qaf ?_)
      refine qdc g8 0 ((n0 : Int) + 1) G8.out rfl rfl (by simp) (by kernel_rfl) ?_
      intro w3 hp3
      have HB3 := qHd (qbl hp3 HBO.out l8)
      have G73 := qHd (qbr hp3 G7.out n78)
      have G83 := qHd (show w3.heap[g8]? = some (.cells #[.int .i64 ((n0 + 1 : Nat) : Int), .int .i64 ((n1 : Nat) : Int), .int .i64 ((n2 : Nat) : Int)] 200) by rw [hp3]; exact putL_30 G8.out)
      clear hp3
      go_wp2_with fail
      go_roundw
      case rel => exact ⟨k + 1, n0 + 1, n1, n2, by omega, by go_num, by omega, by omega, by omega, by omega, HB3, G73, G83, qHd ⟨by rw [SS.out, CN.out.1]; rfl, by rw [SS.out, CN.out.2.1]; rfl, by rw [SS.out, CN.out.2.2]; rfl⟩⟩
      case measure => simp [intOf]; omega
     ·go_wp2_with (with_reducible refine qaf ?_)
      refine qdc g8 1 ((n1 : Int) + 1) G8.out rfl rfl (by simp) (by kernel_rfl) ?_
      intro w3 hp3
      have HB3 := qHd (qbl hp3 HBO.out l8)
      have G73 := qHd (qbr hp3 G7.out n78)
      have G83 := qHd (show w3.heap[g8]? = some (.cells #[.int .i64 ((n0 : Nat) : Int), .int .i64 ((n1 + 1 : Nat) : Int), .int .i64 ((n2 : Nat) : Int)] 200) by rw [hp3]; exact putL_31 G8.out)
      clear hp3
      go_wp2_with fail
      go_roundw
      case rel => exact ⟨k + 1, n0, n1 + 1, n2, by omega, by go_num, by omega, by omega, by omega, by omega, HB3, G73, G83, qHd ⟨by rw [SS.out, CN.out.1]; rfl, by rw [SS.out, CN.out.2.1]; rfl, by rw [SS.out, CN.out.2.2]; rfl⟩⟩
      case measure => simp [intOf]; omega
     ·go_wp2_with (with_reducible refine qaf ?_)
      refine qdc g8 2 ((n2 : Int) + 1) G8.out rfl rfl (by simp) (by kernel_rfl) ?_
      intro w3 hp3
      have HB3 := qHd (qbl hp3 HBO.out l8)
      have G73 := qHd (qbr hp3 G7.out n78)
      have G83 := qHd (show w3.heap[g8]? = some (.cells #[.int .i64 ((n0 : Nat) : Int), .int .i64 ((n1 : Nat) : Int), .int .i64 ((n2 + 1 : Nat) : Int)] 200) by rw [hp3]; exact putL_32 G8.out)
      clear hp3
      go_wp2_with fail
      go_roundw
      case rel => exact ⟨k + 1, n0, n1, n2 + 1, by omega, by go_num, by omega, by omega, by omega, by omega, HB3, G73, G83, qHd ⟨by rw [SS.out, CN.out.1]; rfl, by rw [SS.out, CN.out.2.1]; rfl, by rw [SS.out, CN.out.2.2]; rfl⟩⟩
      case measure => simp [intOf]; omega
    ·have hk' : k = args.length := by omega
     subst hk'
     have CN := qHd CN.out
     rw [List.take_length] at CN
     obtain ⟨x0, x1, x2⟩ := qay G7.out
     obtain ⟨z0, z1, z2⟩ := qay G8.out
     have h7 : ¬ (kind < 0 ∨ 5 < kind) := fun h => by have h0 := HE.out; unfold qdh at h0; rw [if_pos h] at h0; cases h0
     have hK0 := ndErr_K HE.out
     have HKK := HK.out
     unfold I64 at HKK
     simp only at h7 hK0
     obtain ⟨nx, hnx⟩ : ∃ nx, nx = ndVal ⟨kind, K, args⟩ n0 n1 n2 := ⟨_, rfl⟩
     have HNX2 := qHd (show qck (qcn V y n) (ns.take (j + 1)) = vs ++ [nx] by rw [HNX.out, hnx, CN.out.1, CN.out.2.1, CN.out.2.2])
     have HX2 := qHd hnx; clear hnx
     clear CN
     have hkk : kind = 0 ∨ kind = 1 ∨ kind = 2 ∨ kind = 3 ∨ kind = 4 ∨ kind = 5 := by omega
     rcases hkk with rfl | rfl | rfl | rfl | rfl | rfl
     ·skip
      have hKz := qHd (hK0 rfl); clear hK0 h7
      go_wp2_with (with_reducible refine qad ?_)
      refine qap.mk ?_
      (with_reducible refine (truth_any _ _ _).mono ?_); rintro e w1 ⟨rfl, rfl⟩
      go_wp2_with (with_reducible refine qaf ?_)
      refine qdc g5 j (nx : Nat) G5.out (by rfl) ?hy (by rw [List.size_toArray, qeu, qbw, qce _ _ _ _ _ hj]; omega) (by kernel_rfl) ?_
      case hy =>
       refine congrArg (fun n : Nat => Value.int .i64 (n : Int)) ?_
       rw [HX2.out]
       rcases hKz.out with rfl | rfl <;> rfl
      intro w5 hp5
      have HB5 := qHd (qbl hp5 HBY.out l5)
      have G55 := qHd (show w5.heap[g5]? = some (.cells (ivals (qdq (qep V y n ns (j + 1)))).toArray T5) by rw [hp5, qfk hj' HNX2.out hvs.out]; exact putL_row G5.out _)
      clear hp5
      go_wp2_with fail
      go_roundw
      case rel => exact ⟨j + 1, by omega, by go_num, HB5, G55⟩
      case measure => simp [intOf]; omega
     ·skip
      clear hK0 h7
      go_wp2_with (with_reducible refine qad ?_)
      refine qap.mk ?_
      (with_reducible refine (truth_any _ _ _).mono ?_); rintro e w1 ⟨rfl, rfl⟩
      go_wp2_with (with_reducible refine qaf ?_)
      refine qdc g5 j (nx : Nat) G5.out (by rfl) ?hy (by rw [List.size_toArray, qeu, qbw, qce _ _ _ _ _ hj]; omega) (by kernel_rfl) ?_
      case hy =>
       refine congrArg (fun n : Nat => Value.int .i64 (n : Int)) ?_
       rw [HX2.out]
       refine (qeq ?_ ?_)
       ·first | (rw [Bool.eq_iff_iff]; simp; done) | (rw [Bool.eq_iff_iff]; simp; omega) | rw [Bool.eq_iff_iff]
       ·first | (rw [Bool.eq_iff_iff]; simp; done) | (rw [Bool.eq_iff_iff]; simp; omega) | rw [Bool.eq_iff_iff]
      intro w5 hp5
      have HB5 := qHd (qbl hp5 HBY.out l5)
      have G55 := qHd (show w5.heap[g5]? = some (.cells (ivals (qdq (qep V y n ns (j + 1)))).toArray T5) by rw [hp5, qfk hj' HNX2.out hvs.out]; exact putL_row G5.out _)
      clear hp5
      go_wp2_with fail
      go_roundw
      case rel => exact ⟨j + 1, by omega, by go_num, HB5, G55⟩
      case measure => simp [intOf]; omega
     ·skip
      clear hK0 h7
      go_wp2_with (with_reducible refine qad ?_)
      refine qap.mk ?_
      (with_reducible refine (truth_any _ _ _).mono ?_); rintro e w1 ⟨rfl, rfl⟩
      go_wp2_with (with_reducible refine qaf ?_)
      refine qdc g5 j (nx : Nat) G5.out (by rfl) ?hy (by rw [List.size_toArray, qeu, qbw, qce _ _ _ _ _ hj]; omega) (by kernel_rfl) ?_
      case hy =>
       refine congrArg (fun n : Nat => Value.int .i64 (n : Int)) ?_
       rw [HX2.out]
       refine (qeq ?_ ?_)
       ·first | (rw [Bool.eq_iff_iff]; simp; done) | (rw [Bool.eq_iff_iff]; simp; omega) | rw [Bool.eq_iff_iff]
       ·first | (rw [Bool.eq_iff_iff]; simp; done) | (rw [Bool.eq_iff_iff]; simp; omega) | rw [Bool.eq_iff_iff]
      intro w5 hp5
      have HB5 := qHd (qbl hp5 HBY.out l5)
      have G55 := qHd (show w5.heap[g5]? = some (.cells (ivals (qdq (qep V y n ns (j + 1)))).toArray T5) by rw [hp5, qfk hj' HNX2.out hvs.out]; exact putL_row G5.out _)
      clear hp5
      go_wp2_with fail
      go_roundw
      case rel => exact ⟨j + 1, by omega, by go_num, HB5, G55⟩
      case measure => simp [intOf]; omega
     ·skip
      clear hK0 h7
      go_wp2_with (with_reducible refine qad ?_)
      refine qap.mk ?_
      (with_reducible refine (truth_any _ _ _).mono ?_); rintro e w1 ⟨rfl, rfl⟩
      go_wp2_with (with_reducible refine qaf ?_)
      refine qdc g5 j (nx : Nat) G5.out (by rfl) ?hy (by rw [List.size_toArray, qeu, qbw, qce _ _ _ _ _ hj]; omega) (by kernel_rfl) ?_
      case hy =>
       refine congrArg (fun n : Nat => Value.int .i64 (n : Int)) ?_
       rw [HX2.out]
       refine (qeq ?_ ?_)
       ·first | (rw [Bool.eq_iff_iff]; simp; done) | (rw [Bool.eq_iff_iff]; simp; omega) | rw [Bool.eq_iff_iff]
       ·first | (rw [Bool.eq_iff_iff]; simp; done) | (rw [Bool.eq_iff_iff]; simp; omega) | rw [Bool.eq_iff_iff]
      intro w5 hp5
      have HB5 := qHd (qbl hp5 HBY.out l5)
      have G55 := qHd (show w5.heap[g5]? = some (.cells (ivals (qdq (qep V y n ns (j + 1)))).toArray T5) by rw [hp5, qfk hj' HNX2.out hvs.out]; exact putL_row G5.out _)
      clear hp5
      go_wp2_with fail
      go_roundw
      case rel => exact ⟨j + 1, by omega, by go_num, HB5, G55⟩
      case measure => simp [intOf]; omega
     ·skip
      clear hK0 h7
      go_wp2_with (with_reducible refine qad ?_)
      refine qap.mk ?_
      (with_reducible refine (truth_any _ _ _).mono ?_); rintro e w1 ⟨rfl, rfl⟩
      go_wp2_with (with_reducible refine qaf ?_)
      refine qdc g5 j (nx : Nat) G5.out (by rfl) ?hy (by rw [List.size_toArray, qeu, qbw, qce _ _ _ _ _ hj]; omega) (by kernel_rfl) ?_
      case hy =>
       refine congrArg (fun n : Nat => Value.int .i64 (n : Int)) ?_
       rw [HX2.out]
       refine (qeq ?_ ?_)
       ·first | (rw [Bool.eq_iff_iff]; simp; done) | (rw [Bool.eq_iff_iff]; simp; omega) | rw [Bool.eq_iff_iff]
       ·first | (rw [Bool.eq_iff_iff]; simp; done) | (rw [Bool.eq_iff_iff]; simp; omega) | rw [Bool.eq_iff_iff]
      intro w5 hp5
      have HB5 := qHd (qbl hp5 HBY.out l5)
      have G55 := qHd (show w5.heap[g5]? = some (.cells (ivals (qdq (qep V y n ns (j + 1)))).toArray T5) by rw [hp5, qfk hj' HNX2.out hvs.out]; exact putL_row G5.out _)
      clear hp5
      go_wp2_with fail
      go_roundw
      case rel => exact ⟨j + 1, by omega, by go_num, HB5, G55⟩
      case measure => simp [intOf]; omega
     ·clear hK0 h7
      have m0 : decide ((((n1 : Nat) : Int).tmod 2) = 1) = decide (n1 % 2 = 1) := by rw [Int.tmod_eq_emod_of_nonneg (by omega), Bool.eq_iff_iff]; simp; omega
      by_cases e2 : n2 = 0
      ·subst e2
       go_wp2_with (with_reducible refine qad ?_)
       refine qap.mk ?_
       (with_reducible refine (truth_any _ _ _).mono ?_); rintro e w1 ⟨rfl, rfl⟩
       go_wp2_with (with_reducible refine qaf ?_)
       refine qdc g5 j (nx : Nat) G5.out (by rfl) ?hy (by rw [List.size_toArray, qeu, qbw, qce _ _ _ _ _ hj]; omega) (by kernel_rfl) ?_
       case hy =>
        refine congrArg (fun n : Nat => Value.int .i64 (n : Int)) ?_
        rw [HX2.out]
        rw [ndVal_5 rfl]
        unfold lev
        rcases Nat.mod_two_eq_zero_or_one n1 with h | h <;> first | (simp [h]; done) | (simp [h]; omega)
       intro w5 hp5
       have HB5 := qHd (qbl hp5 HBY.out l5)
       have G55 := qHd (show w5.heap[g5]? = some (.cells (ivals (qdq (qep V y n ns (j + 1)))).toArray T5) by rw [hp5, qfk hj' HNX2.out hvs.out]; exact putL_row G5.out _)
       clear hp5
       go_wp2_with fail
       go_roundw
       case rel => exact ⟨j + 1, by omega, by go_num, HB5, G55⟩
       case measure => simp [intOf]; omega
      ·have e2' : ¬ ((n2 : Nat) : Int) = 0 := by omega
       go_wp2_with (with_reducible refine qad ?_)
       refine qap.mk ?_
       (with_reducible refine (truth_any _ _ _).mono ?_); rintro e w1 ⟨rfl, rfl⟩
       go_wp2_with (with_reducible refine qaf ?_)
       refine qdc g5 j (nx : Nat) G5.out (by rfl) ?hy (by rw [List.size_toArray, qeu, qbw, qce _ _ _ _ _ hj]; omega) (by kernel_rfl) ?_
       case hy =>
        refine congrArg (fun n : Nat => Value.int .i64 (n : Int)) ?_
        rw [HX2.out]
        rw [ndVal_5 rfl]
        refine (qeq ?_ ?_)
        ·first | (rw [Bool.eq_iff_iff]; simp; done) | (rw [Bool.eq_iff_iff]; simp; omega) | rw [Bool.eq_iff_iff]
        ·first | (rw [Bool.eq_iff_iff]; simp; done) | (rw [Bool.eq_iff_iff]; simp; omega) | rw [Bool.eq_iff_iff]
       intro w5 hp5
       have HB5 := qHd (qbl hp5 HBY.out l5)
       have G55 := qHd (show w5.heap[g5]? = some (.cells (ivals (qdq (qep V y n ns (j + 1)))).toArray T5) by rw [hp5, qfk hj' HNX2.out hvs.out]; exact putL_row G5.out _)
       clear hp5
       go_wp2_with fail
       go_roundw
       case rel => exact ⟨j + 1, by omega, by go_num, HB5, G55⟩
       case measure => simp [intOf]; omega
  ·have hj' : j = ns.length := by omega
   subst hj'
   have hle := fun k => valsN_le (ns.take ns.length) 0 (qcn V y n) (ndsOK_take ns 0 ns.length HP.out) (fun k => by rw [qdl]; split <;> first | exact ev3_le _ _ _ | omega) k
   have hIV := row_intsV G5.out (refRow_le (V := V) (y := y) (n := n) (ns := ns) hle) (by rw [qce _ _ _ _ _ hj]; omega)
   rw [qce _ _ _ _ _ hj, refRow_full] at hIV
   have HIV := qHd hIV; clear hIV hle
   go_wp2_with fail
   go_ret
   exact ⟨_, rfl, HBV.out, HIV.out⟩
theorem rvalue_any (vf : Value) (f : Fm) (y n : Nat) (w : World) (hf : FmV w vf f) (h0 : qcc f = 0) (hcu : CubeOK f.vars y n) :
  Calls Tryz.prog 79 #[vf, .agg #[.int .i64 (y : Nat), .int .i64 (n : Nat)]] w (qea w (.int .i64 (qco f y n : Nat))) := by
 obtain ⟨vb, yb⟩ := hcu.small
 obtain ⟨p0, p1, p2, p3⟩ := qbe h0
 have htop := fmErr_top h0
 obtain ⟨nv, rfl, hn, hv, ht⟩ := hf
 obtain ⟨ao, c, rfl, hc, hc2, _⟩ := hn.shape
 have hF := (show FmV w _ f from ⟨_, rfl, hn, hv, ht⟩)
 obtain ⟨v, ns, top⟩ := f
 simp only at hv hc ht hn p0 p1 p2 p3 htop ⊢
 obtain ⟨V, rfl⟩ : ∃ V : Nat, v = V := ⟨v.toNat, by omega⟩
 obtain ⟨T, rfl⟩ : ∃ T : Nat, top = T := ⟨top.toNat, by omega⟩
 have HF := qHd hF; have HC := qHd hcu; have E0 := qHd h0
 have hT : T < V + ns.length := by omega
 obtain ⟨R, hR⟩ : ∃ R, R = (qdt ⟨V, ns, T⟩ y n).drop (V : Int).toNat := ⟨_, rfl⟩
 obtain ⟨fv, hfv⟩ : ∃ fv, fv = qco ⟨V, ns, T⟩ y n := ⟨_, rfl⟩
 have HV := qHd (show gd (qcn V y n ++ R) T = fv by
  rw [hfv, hR]; unfold qco qdt; simp only [Int.toNat_natCast]; rw [valsN_split])
 have HL := qHd (show R.length = ns.length by rw [hR, List.length_drop, qdk]; simp only [Int.toNat_natCast]; omega)
 have HR := qHd hR
 rw [← hfv]
 clear hF hcu h0 p3 hv ht htop hn p0 hfv hR
 obtain ⟨W, hW, hbW, hg1, hg2⟩ := qBx2 w (.cells #[.int .i64 V, .slice ao ns.length c, .int .i64 T] 24) (.cells #[.int .i64 (y : Nat), .int .i64 (n : Nat)] 46)
 obtain ⟨g1, hG1⟩ : ∃ g, g = w.heap.size := ⟨_, rfl⟩
 obtain ⟨g2, hG2⟩ : ∃ g, g = w.heap.size + 1 := ⟨_, rfl⟩
 rw [← hG1] at hg1; rw [← hG2] at hg2
 have HBW := qHd hbW; have G1 := qHd hg1; have G2 := qHd hg2; clear hbW hg1 hg2
 go_enter Tryz.func79, Tryz.ntmps79
 go_wp2_with (with_reducible first | refine qad ?_ | refine qai ?_ | refine qaj ?_ | refine qak ?_ | refine qag ?_)
 rw [← hW]; clear hW
 rw [← hG2, ← hG1]; clear hG1 hG2
 refine qap.mk ?_
 refine qao (A := ?aaR9) (w := W) 8 [] (by kernel_rfl) (Fl [KEq (.agg #[.int .i64 V, .slice ao ns.length c, .int .i64 T]), KEq (.agg #[.int .i64 V, .slice ao ns.length c, .int .i64 T]), KEq (.agg #[.int .i64 (y : Nat), .int .i64 (n : Nat)]), KIV (qdq R), KEq (.agg #[.int .i64 (y : Nat), .int .i64 (n : Nat)]), KEq (.pointer (some ⟨g1, 2, none⟩)), KEq (.int .i64 (T : Nat)), KEq (.int .i64 (fv : Nat))]) (fun i => false) (by kernel_rfl) ?hqR9 (qcw (qae (kEq _) (qae (kEq _) (qae (kEq _) (qae (kIV _) (qae (kEq _) (qae (kEq _) (qae (kEq _) (qae (kEq _) qcv))))))))) ?haR9 ?stR9 ?tlR9
 case hqR9 =>
  intro c a d v w h
  first | (simp only [Exit.then] at h ⊢; exact h) | (simp only [Exit.inBlock, Exit.then] at h ⊢; exact h) | exact h
 case haR9 =>
  intro vals
  simp only [qba, qcd, if_true, Act.put, List.setIfInBounds_toArray, List.set_cons_zero, List.set_cons_succ, List.getElem?_toArray, List.getElem?_cons_zero, List.getElem?_cons_succ, Option.bind_some]
  exact rfl
 case stR9 =>
  simp only [List.take_succ_cons, List.take_zero]
  refine qab rfl rfl ?_ (qab rfl rfl ?_ (qab rfl rfl ?_ (qab rfl rfl ?_ (qab rfl rfl ?_ (qab rfl rfl ?_ (qab rfl rfl ?_ (qab rfl rfl ?_ (qav))))))))
  ·intro vals w1 hb hd
   obtain ⟨e0, e1, e2⟩ := qay (qaa G1.out hb)
   refine qSv (.agg #[.int .i64 V, .slice ao ns.length c, .int .i64 T]) (by go_simp) (qLk rfl rfl)
  ·intro vals w1 hb hd
   obtain ⟨e0, e1, e2⟩ := qay (qaa G1.out hb)
   refine qSv (.agg #[.int .i64 V, .slice ao ns.length c, .int .i64 T]) (by go_simp) (qLk rfl rfl)
  ·intro vals w1 hb hd
   obtain ⟨e0, e1⟩ := qcy (qaa G2.out hb)
   refine qSv (.agg #[.int .i64 (y : Nat), .int .i64 (n : Nat)]) (by go_simp) (qLk rfl rfl)
  ·intro vals w1 hb hd
   have d1 : KEq (.agg #[.int .i64 V, .slice ao ns.length c, .int .i64 T]) (vals 1) w1 := hd 1 (by kernel_rfl)
   have d2 : KEq (.agg #[.int .i64 (y : Nat), .int .i64 (n : Nat)]) (vals 2) w1 := hd 2 (by kernel_rfl)
   have HS := qHd (rvalues_any _ ⟨V, ns, T⟩ y n w1 (HF.out.below (HBW.out.step hb)) E0.out HC.out)
   have z1 : vals 1 = _ := d1
   rw [z1]; clear z1
   have z2 : vals 2 = _ := d2
   rw [z2]; clear z2
   refine qat (by go_simp; first | done | exact ⟨⟨rfl, rfl⟩, rfl⟩) ?_
   (with_reducible refine HS.out.mono ?_); rintro e w2 ⟨v, rfl, hb2, hn⟩
   exact ⟨_, rfl, qar hb2 (by rw [HR.out]; exact hn) (fun h => by cases h)⟩
  ·intro vals w1 hb hd
   obtain ⟨e0, e1⟩ := qcy (qaa G2.out hb)
   refine qSv (.agg #[.int .i64 (y : Nat), .int .i64 (n : Nat)]) (by go_simp) (qLk rfl rfl)
  ·intro vals w1 hb hd
   refine qSv (.pointer (some ⟨g1, 2, none⟩)) (by go_simp) (qLk rfl rfl)
  ·intro vals w1 hb hd
   obtain ⟨e0, e1, e2⟩ := qay (qaa G1.out hb)
   rw [show vals 5 = .pointer (some ⟨g1, 2, none⟩) from hd 5 (by kernel_rfl)]
   refine qSv (.int .i64 (T : Nat)) (by go_simp) (qLk rfl rfl)
  ·intro vals w1 hb hd
   have d0 : KEq (.agg #[.int .i64 V, .slice ao ns.length c, .int .i64 T]) (vals 0) w1 := hd 0 (by kernel_rfl)
   have d3 : KIV (qdq R) (vals 3) w1 := hd 3 (by kernel_rfl)
   have d4 : KEq (.agg #[.int .i64 (y : Nat), .int .i64 (n : Nat)]) (vals 4) w1 := hd 4 (by kernel_rfl)
   have d6 : KEq (.int .i64 (T : Nat)) (vals 6) w1 := hd 6 (by kernel_rfl)
   have HS := qHd (rof_any V ao ns.length c (T : Nat) R (vals 3) y n T w1 d3 (by omega) (by rw [HL.out]; omega) vb yb (by rw [HL.out]; exact hT))
   have z0 : vals 0 = _ := d0
   rw [z0]; clear z0
   have z4 : vals 4 = _ := d4
   rw [z4]; clear z4
   have z6 : vals 6 = _ := d6
   rw [z6]; clear z6
   refine qat (by go_simp; first | done | exact ⟨⟨rfl, rfl⟩, rfl⟩) ?_
   (with_reducible refine HS.out.mono ?_); rintro e w2 ⟨rfl, hb2⟩
   exact ⟨_, rfl, qar hb2 (congrArg (fun n : Nat => Value.int .i64 (n : Int)) HV.out) (fun h => by cases h)⟩
 case tlR9 =>
  intro vals w2 hb2 hf hdis
  simp only [List.drop_succ_cons, List.drop_zero]
  have z7 : vals 7 = _ := hf 7 (by decide)
  rw [z7]
  clear z7 hf hdis
  have HB2 := qHd (HBW.out.trans (hb2.mono HBW.out.size))
  go_wp2_with fail
  go_ret
  exact ⟨rfl, HB2.out⟩
theorem rnext_any (vf : Value) (f : Fm) (y n : Nat) (w : World) (hf : FmV w vf f) (h0 : qcc f = 0) (hcu : CubeOK f.vars y n) (h2 : qco f y n = 2) :
  Calls Tryz.prog 83 #[vf, .agg #[.int .i64 (y : Nat), .int .i64 (n : Nat)]] w (qea w (.int .i64 (qcp f y n : Nat))) := by
 obtain ⟨vb, yb⟩ := hcu.small
 obtain ⟨p0, p1, p2, p3⟩ := qbe h0
 have htop := fmErr_top h0
 obtain ⟨nv, rfl, hn, hv, ht⟩ := hf
 obtain ⟨ao, c, rfl, hc, hc2, _⟩ := hn.shape
 have hF := (show FmV w _ f from ⟨_, rfl, hn, hv, ht⟩)
 obtain ⟨v, ns, top⟩ := f
 simp only at hv hc ht hn p0 p1 p2 p3 htop ⊢
 obtain ⟨V, rfl⟩ : ∃ V : Nat, v = V := ⟨v.toNat, by omega⟩
 obtain ⟨T, rfl⟩ : ∃ T : Nat, top = T := ⟨top.toNat, by omega⟩
 have HF := qHd hF; have HC := qHd hcu; have E0 := qHd h0; have HP := qHd p3; have HN := qHd hn
 have hT : T < V + ns.length := by omega
 have hV24 : V ≤ 24 := by omega
 obtain ⟨R, hR⟩ : ∃ R, R = (qdt ⟨V, ns, T⟩ y n).drop (V : Int).toNat := ⟨_, rfl⟩
 have HVS := qHd (show qcn V y n ++ R = qdt ⟨V, ns, T⟩ y n by
  rw [hR]; unfold qdt; simp only [Int.toNat_natCast]; rw [valsN_split])
 have HL := qHd (show R.length = ns.length by rw [hR, List.length_drop, qdk]; simp only [Int.toNat_natCast]; omega)
 have hnx : qcp ⟨V, ns, T⟩ y n = qfg V ns (qdt ⟨V, ns, T⟩ y n) (ns.length + 1) T := rfl
 have hun := fun a h1 h3 h4 => unk_node (f := ⟨V, ns, T⟩) (Int.natCast_nonneg V) HP.out y n a h1 h3 h4
 simp only [Int.toNat_natCast] at hun
 have hV2 : gd (qdt ⟨V, ns, T⟩ y n) T = 2 := h2
 have hle := fun j => vals_le (f := ⟨V, ns, T⟩) HP.out y n j
 have HR := qHd hR
 obtain ⟨vs, hvs⟩ : ∃ vs, vs = qdt ⟨V, ns, T⟩ y n := ⟨_, rfl⟩
 rw [← hvs] at HVS hnx hun hV2 hle
 obtain ⟨nx, hnx2⟩ : ∃ nx, nx = qcp ⟨V, ns, T⟩ y n := ⟨_, rfl⟩
 rw [← hnx2] at hnx ⊢
 have HNX := qHd hnx; have HUN := qHd hun; have HV2 := qHd hV2; have HLE := qHd hle
 clear hF hcu h0 p3 hv ht htop hn p0 hR hnx hun hV2 hvs hnx2 h2 hle
 obtain ⟨W, hW, hbW, hg1, hg2⟩ := qBx2 w (.cells #[.int .i64 V, .slice ao ns.length c, .int .i64 T] 24) (.cells #[.int .i64 (y : Nat), .int .i64 (n : Nat)] 46)
 obtain ⟨g1, hG1⟩ : ∃ g, g = w.heap.size := ⟨_, rfl⟩
 obtain ⟨g2, hG2⟩ : ∃ g, g = w.heap.size + 1 := ⟨_, rfl⟩
 rw [← hG1] at hg1; rw [← hG2] at hg2
 have HBW := qHd hbW; have G1 := qHd hg1; have G2 := qHd hg2
 obtain ⟨x0, x1, x2⟩ := qay hg1
 obtain ⟨y0, y1⟩ := qcy hg2
 rw [hW, hG1] at x0 x1 x2
 rw [hW, hG2] at y0 y1
 clear hbW hg1 hg2
 have HK := qHd (rvalues_any _ ⟨V, ns, T⟩ y n W (HF.out.below HBW.out) E0.out HC.out)
 go_enter Tryz.func83, Tryz.ntmps83
 go_wp2_with (with_reducible refine qad ?_)
 rw [← hW]; clear hW
 rw [← hG2, ← hG1]; clear hG1 hG2 x0 x1 x2 y0 y1
 refine qap.mk ?_
 (with_reducible refine HK.out.mono ?_); rintro e w1 ⟨v', rfl, hb1, hi1⟩
 rw [← HR.out] at hi1
 have HB := qHd (HBW.out.trans (hb1.mono HBW.out.size))
 have G1 := qHd (qaa G1.out hb1); have G2 := qHd (qaa G2.out hb1)
 obtain ⟨av, cv, rfl, hcv, hcv2, _⟩ := hi1.shape
 have HI := qHd hi1
 clear hb1 hi1 HK
 have OF := qHd (fun (wz : World) (A : Nat) (hv : qfd wz (.slice av (qdq R).length cv) (qdq R)) (hA : A < V + ns.length) => (rof_any V ao ns.length c (T : Nat) R _ y n A wz hv (by omega) (by rw [HL.out]; omega) vb yb (by rw [HL.out]; exact hA)))
 rw [HVS.out] at OF
 obtain ⟨x0, x1, x2⟩ := qay G1.out
 obtain ⟨y0, y1⟩ := qcy G2.out
 have HK := qHd (OF.out w1 T HI.out hT)
 rw [HV2.out] at HK
 go_wp2_with (with_reducible refine qad ?_)
 clear x0 x1 x2 y0 y1
 refine qap.mk ?_
 (with_reducible refine HK.out.mono ?_); rintro e w2 ⟨rfl, hb2⟩
 have HB := qHd (HB.out.trans (hb2.mono HB.out.size))
 have G1 := qHd (qaa G1.out hb2); have G2 := qHd (qaa G2.out hb2)
 have HI := qHd (HI.out.below hb2)
 clear hb2 HK
 go_wp2_with (with_reducible first | refine qai ?_ | refine qag ?_)
 refine qap.mk ?_
 go_loopw [6] (fun i' wx => ∃ a k : Nat, a < V + ns.length ∧ a < V + k ∧ i' = .int .i64 a ∧ Hid (Below w2.heap.size w2 wx) ∧ Hid (gd vs a = 2 ∧ nx = qfg V ns vs (k + 1) a)) (fun i' _ => (intOf i').toNat)
 case atStart => exact ⟨T, ns.length, hT, hT, rfl, qHd (Below.refl _ _), qHd ⟨HV2.out, HNX.out⟩⟩
 case round =>
  obtain ⟨a, k, ha, hak, rfl, BX, C⟩ := hrel
  obtain ⟨wo, rfl⟩ : ∃ wo : World, wo = wr := ⟨_, rfl⟩
  have HBo := qHd (HB.out.trans (BX.out.mono HB.out.size))
  have G1' := qHd (qaa G1.out BX.out)
  obtain ⟨x0, x1, x2⟩ := qay G1'.out
  by_cases hlt : a < V
  ·have hltz : ¬ (V : Int) ≤ (a : Int) := by omega
   have R := qHd (show nx = a by rw [C.out.2, nextAt_low hlt])
   go_wp2_with fail
   go_ret
   exact ⟨by rw [R.out]; rfl, HBo.out⟩
  ·obtain ⟨m, rfl⟩ : ∃ m, k = m + 1 := ⟨k - 1, by omega⟩
   obtain ⟨x, hx, he, hex⟩ := HUN.out a (by omega) ha C.out.1
   obtain ⟨kk, b, hb1, hb2, hb3⟩ := first_ex hex
   have hfu := firstUnk_at hb1 hb2 hb3
   have harg := ndErr_arg he
   have hst : qfg V ns vs (m + 1 + 1) a = qfg V ns vs (m + 1) b.toNat := nextAt_high (by omega) hx hfu
   have hbr := harg b (List.mem_of_getElem? hb1)
   have hkl : kk < x.args.length := (List.getElem?_eq_some_iff.1 hb1).1
   have h16 := nd_16 he
   obtain ⟨bn, on, rfl, hbn, _, hatn⟩ := (HN.out.below HBo.out).at (by omega)
   obtain ⟨c0, c1, ⟨va, c2, hI⟩, _, _⟩ := hatn (a - V) x hx
   obtain ⟨kind, K, args⟩ := x
   simp only at c0 c1 c2 hI hb1 hb2 hb3 harg hkl h16
   obtain ⟨aa, ca, rfl, hca, hca2, _⟩ := hI.shape
   have HA := qHd hI; have H1 := qHd hb1; have H2 := qHd hb2; have H3 := qHd hb3; have HARG := qHd harg
   have RN := qHd (show nx = qfg V ns vs (m + 1) b.toNat by rw [C.out.2, hst])
   obtain ⟨B, rfl⟩ : ∃ B : Nat, b = B := ⟨b.toNat, by omega⟩
   clear hatn hI hst hfu hb1 hb2 hb3 hex he harg hx
   have hltz : (V : Int) ≤ (a : Int) := by omega
   have hix : (a : Int) - (V : Int) = ((a - V : Nat) : Int) := by omega
   have hixl : ((a - V : Nat) : Int) < (ns.length : Int) := by omega
   go_wp2_with (with_reducible first | refine qai ?_ | refine qag ?_)
   clear x0 x1 x2 c0 c1 c2
   refine qap.mk ?_
   go_loopw [34, 6] (fun i' v6 wx => ∃ j : Nat, j ≤ kk ∧ i' = .int .i64 j ∧ v6 = .int .i64 a ∧ Hid (Below wo.heap.size wo wx)) (fun i' _ _ => kk + 1 - (intOf i').toNat)
   case atStart => exact ⟨0, Nat.zero_le _, rfl, rfl, qHd (Below.refl _ _)⟩
   case round =>
    obtain ⟨j, hj, rfl, rfl, BY⟩ := hrel
    obtain ⟨wi, rfl⟩ : ∃ wi : World, wi = wr := ⟨_, rfl⟩
    have BZ := qHd (BX.out.trans (BY.out.mono BX.out.size))
    have G1z := qHd (qaa G1.out BZ.out); have G2z := qHd (qaa G2.out BZ.out)
    obtain ⟨x0, x1, x2⟩ := qay G1z.out
    obtain ⟨y0, y1⟩ := qcy G2z.out
    obtain ⟨q, hq⟩ : ∃ q, args[j]? = some q := ⟨args[j], List.getElem?_eq_getElem (by omega)⟩
    have hqr := HARG.out q (List.mem_of_getElem? hq)
    obtain ⟨Q, rfl⟩ : ∃ Q : Nat, q = Q := ⟨q.toNat, by omega⟩
    obtain ⟨ba, oa, rfl, hba, _, hata⟩ := (HA.out.below BY.out).at (by omega)
    have cq := hata j Q hq
    clear hata
    have hjz : (j : Int) < (args.length : Int) := by omega
    have HK := qHd (OF.out wi Q (HI.out.below BZ.out) (by omega))
    by_cases hjk : j = kk
    ·subst hjk
     have e : (Q : Int) = (B : Int) := by have := H1.out; rw [hq] at this; exact Option.some.inj this
     obtain rfl : Q = B := by omega
     have h22 : gd vs Q = 2 := by have := H2.out; rwa [Int.toNat_natCast] at this
     rw [h22] at HK
     have RN := qHd (show nx = qfg V ns vs (m + 1) Q by have := RN.out; rwa [Int.toNat_natCast] at this)
     have H22 := qHd h22
     clear h22 hq
     go_wp2_with (with_reducible refine qad ?_)
     clear x0 x1 x2 y0 y1 cq
     refine qap.mk ?_
     (with_reducible refine HK.out.mono ?_); rintro e w5 ⟨rfl, hb5⟩
     have BZ5 := qHd (BZ.out.trans (hb5.mono BZ.out.size))
     clear hb5 HK
     go_wp2_with fail
     go_roundw
     case rel => exact ⟨Q, m, by omega, by omega, rfl, BZ5, qHd ⟨H22.out, RN.out⟩⟩
     case measure => simp [intOf]; omega
    ·have hne : gd vs Q ≠ 2 := by have := H3.out _ (List.mem_of_getElem? (show (args.take kk)[j]? = some ((Q : Nat) : Int) by rw [List.getElem?_take, if_pos (by omega)]; exact hq)); rwa [Int.toNat_natCast] at this
     obtain ⟨u, hu⟩ : ∃ u, u = gd vs Q := ⟨_, rfl⟩
     rw [← hu] at hne HK
     clear hu hq
     have hnez : ¬ ((u : Nat) : Int) = 2 := by omega
     go_wp2_with (with_reducible refine qad ?_)
     clear x0 x1 x2 y0 y1 cq
     refine qap.mk ?_
     (with_reducible refine HK.out.mono ?_); rintro e w5 ⟨rfl, hb5⟩
     have BY5 := qHd (BY.out.trans (hb5.mono BY.out.size))
     clear hb5 HK
     go_wp2_with fail
     go_roundw
     case rel => exact ⟨j + 1, by omega, by go_num, rfl, BY5⟩
     case measure => simp [intOf]; omega
def RetGw (w : World) (t : Tr) (left : Nat) (e : Ending) (w' : World) : Prop := ∃ v, e = .returned (.tuple #[v, .int .i64 (left : Nat)]) ∧ TrG w' v t ∧ Below w.heap.size w w'
def KGl (t : Tr) (k : Nat) : Value → World → Prop := fun v w => ∃ a, v = .tuple #[a, .int .i64 (k : Nat)] ∧ TrG w a t
theorem kGl (t : Tr) (k : Nat) : MonoF (KGl t k) := fun _ _ _ ⟨a, ha, ht⟩ hb => ⟨a, ha, ht.keep (qbu hb)⟩
theorem rgrow_any (f : Fm) (hfm : qcc f = 0) (ao : Option Addr) (c : Nat) : ∀ (d y n left : Nat) (w : World), d ≤ 24 → FmV w (.agg #[.int .i64 f.vars, .slice ao f.nodes.length c, .int .i64 f.top]) f → okC f.vars.toNat y n → grN f d y n ≤ left → left ≤ 4096 →
  Calls Tryz.prog 45 #[.agg #[.int .i64 f.vars, .slice ao f.nodes.length c, .int .i64 f.top], .agg #[.int .i64 (y : Nat), .int .i64 (n : Nat)], .int .i64 (d : Nat), .int .i64 (left : Nat)] w (RetGw w (grT f d y n) (left - grN f d y n)) := by
 obtain ⟨p0, p1, _, p3⟩ := qbe hfm
 have hV : f.vars.toNat ≤ 24 := by omega
 have HFM := qHd hfm; have HND := qHd p3
 have HP01 := qHd (And.intro p0 p1)
 clear hfm p3 p0 p1
 intro d
 induction d with
 | zero =>
  intro y n left w hd24 hf hok hcn hl4
  obtain ⟨hy24, hn24⟩ := okC_lt24 hok hV
  have HCU := qHd (okC_cube hok HP01.out.1 HP01.out.2)
  have HOK := qHd hok; clear hok
  have HF := qHd hf
  obtain ⟨l1, rfl⟩ : ∃ l1, left = l1 + 1 := ⟨left - 1, by have := grN_pos f 0 y n; omega⟩
  obtain ⟨fv, hfv⟩ : ∃ fv, qco f y n = fv := ⟨_, rfl⟩
  have hfv2 : fv ≤ 2 := by rw [← hfv]; exact fmVal_le HND.out y n
  have FVV := qHd hfv
  obtain ⟨wa, hwa⟩ : ∃ x, x = w.alloc (.cells #[.int .i64 f.vars, .slice ao f.nodes.length c, .int .i64 f.top] 24) := ⟨_, rfl⟩
  obtain ⟨wb, hwb⟩ : ∃ x, x = wa.alloc (.cells #[.int .i64 (y : Nat), .int .i64 (n : Nat)] 46) := ⟨_, rfl⟩
  obtain ⟨W, hW⟩ : ∃ x, x = wb.alloc (.cells #[.int .i64 0, .slice none 0 0, .int .i64 0] 27) := ⟨_, rfl⟩
  have ba : Below w.heap.size w wa := by rw [hwa]; exact qBA _ _
  have bb : Below wa.heap.size wa wb := by rw [hwb]; exact qBA _ _
  have bW : Below wb.heap.size wb W := by rw [hW]; exact qBA _ _
  have sa : wa.heap.size = w.heap.size + 1 := by rw [hwa]; exact Array.size_push (xs := w.heap) _
  have sb : wb.heap.size = w.heap.size + 1 + 1 := by rw [← sa, hwb]; exact Array.size_push (xs := wa.heap) _
  have hg4 : W.heap[w.heap.size]? = some (.cells #[.int .i64 f.vars, .slice ao f.nodes.length c, .int .i64 f.top] 24) := qaa (qaa (by rw [hwa]; exact heap_alloc_new w _) bb) bW
  have hg5 : W.heap[w.heap.size + 1]? = some (.cells #[.int .i64 (y : Nat), .int .i64 (n : Nat)] 46) := qaa (by rw [← sa, hwb]; exact heap_alloc_new wa _) bW
  have hg8 : W.heap[w.heap.size + 1 + 1]? = some (.cells #[.int .i64 0, .slice none 0 0, .int .i64 0] 27) := by rw [← sb, hW]; exact heap_alloc_new wb _
  have HB := qHd (ba.trans ((bb.mono ba.size).trans (bW.mono (Nat.le_trans ba.size bb.size))))
  obtain ⟨g4, hG4⟩ : ∃ g, g = w.heap.size := ⟨_, rfl⟩
  obtain ⟨g5, hG5⟩ : ∃ g, g = w.heap.size + 1 := ⟨_, rfl⟩
  obtain ⟨g8, hG8⟩ : ∃ g, g = w.heap.size + 1 + 1 := ⟨_, rfl⟩
  rw [← hG4] at hg4; rw [← hG5] at hg5; rw [← hG8] at hg8
  have l8 : w.heap.size ≤ g8 := by omega
  have n48 : g4 ≠ g8 := by omega
  have n58 : g5 ≠ g8 := by omega
  have G4 := qHd hg4; have G5 := qHd hg5; have G8 := qHd hg8
  obtain ⟨x0, x1, x2⟩ := qay hg4
  obtain ⟨y0, y1⟩ := qcy hg5
  rw [hW, hwb, hwa, hG4] at x0 x1 x2
  rw [hW, hwb, hwa, hG5] at y0 y1
  have HK := qHd (rvalue_any _ f y n W (HF.out.below HB.out) HFM.out HCU.out)
  rw [hfv] at HK
  clear ba bb bW sa sb hg4 hg5 hg8
  have hl1n : ¬ ((l1 : Nat) : Int) < 0 := by omega
  go_enter Tryz.func45, Tryz.ntmps45
  go_wp2_with (with_reducible refine qad ?_)
  rw [← hwa, ← hwb, ← hW, ← hG8, ← hG5, ← hG4]
  clear hwa hwb hW hG8 hG5 hG4 x0 x1 x2 y0 y1
  refine qap.mk ?_
  (with_reducible refine HK.out.mono ?_); rintro e w2 ⟨rfl, hb2⟩
  have HB := qHd (HB.out.trans (hb2.mono HB.out.size))
  have G4 := qHd (qaa G4.out hb2); have G5 := qHd (qaa G5.out hb2); have G8 := qHd (qaa G8.out hb2)
  clear hb2 HK
  have GL := qHd (grT_leaf0 (d := 0) hfv (.inr rfl))
  by_cases h2 : fv < 2
  ·have h2z : (fv : Int) < 2 := by omega
   go_wp2_with (with_reducible refine qaf ?_)
   refine qan g8 0 [.int .i64 0, .slice none 0 0, .int .i64 (fv : Nat)] G8.out rfl rfl (Nat.le_of_ble_eq_true rfl) (by kernel_rfl) rfl ?_
   intro wz hpz
   have GZ := qHd (show wz.heap[g8]? = some (.cells #[.int .i64 0, .slice none 0 0, .int .i64 (fv : Nat)] 27) by rw [hpz]; exact qbd G8.out)
   have HBz := qHd (qbl hpz HB.out l8)
   clear hpz
   go_wp2_with (with_reducible first | refine qad ?_ | refine qai ?_ | refine qaj ?_ | refine qak ?_ | refine qag ?_)
   refine qcl rfl g8 #[.int .i64 0, .slice none 0 0, .int .i64 (fv : Nat)] rfl GZ.out Tryz.underlying27 rfl (by kernel_rfl) rfl ?_
   rw [GL.out.1, GL.out.2]
   exact ⟨_, rfl, trG_leaf hfv2, HBz.out⟩
  ·have h2z : ¬ (fv : Int) < 2 := by omega
   go_wp2_with (with_reducible refine qaf ?_)
   refine qan g8 0 [.int .i64 0, .slice none 0 0, .int .i64 (fv : Nat)] G8.out rfl rfl (Nat.le_of_ble_eq_true rfl) (by kernel_rfl) rfl ?_
   intro wz hpz
   have GZ := qHd (show wz.heap[g8]? = some (.cells #[.int .i64 0, .slice none 0 0, .int .i64 (fv : Nat)] 27) by rw [hpz]; exact qbd G8.out)
   have HBz := qHd (qbl hpz HB.out l8)
   clear hpz
   go_wp2_with (with_reducible first | refine qad ?_ | refine qai ?_ | refine qaj ?_ | refine qak ?_ | refine qag ?_)
   refine qcl rfl g8 #[.int .i64 0, .slice none 0 0, .int .i64 (fv : Nat)] rfl GZ.out Tryz.underlying27 rfl (by kernel_rfl) rfl ?_
   rw [GL.out.1, GL.out.2]
   exact ⟨_, rfl, trG_leaf hfv2, HBz.out⟩
 | succ d ih =>
  intro y n left w hd24 hf hok hcn hl4
  obtain ⟨hy24, hn24⟩ := okC_lt24 hok hV
  have HCU := qHd (okC_cube hok HP01.out.1 HP01.out.2)
  have HOK := qHd hok; clear hok
  have HF := qHd hf
  obtain ⟨l1, rfl⟩ : ∃ l1, left = l1 + 1 := ⟨left - 1, by have := grN_pos f (d + 1) y n; omega⟩
  obtain ⟨fv, hfv⟩ : ∃ fv, qco f y n = fv := ⟨_, rfl⟩
  have hfv2 : fv ≤ 2 := by rw [← hfv]; exact fmVal_le HND.out y n
  have FVV := qHd hfv
  obtain ⟨wa, hwa⟩ : ∃ x, x = w.alloc (.cells #[.int .i64 f.vars, .slice ao f.nodes.length c, .int .i64 f.top] 24) := ⟨_, rfl⟩
  obtain ⟨wb, hwb⟩ : ∃ x, x = wa.alloc (.cells #[.int .i64 (y : Nat), .int .i64 (n : Nat)] 46) := ⟨_, rfl⟩
  obtain ⟨W, hW⟩ : ∃ x, x = wb.alloc (.cells #[.int .i64 0, .slice none 0 0, .int .i64 0] 27) := ⟨_, rfl⟩
  have ba : Below w.heap.size w wa := by rw [hwa]; exact qBA _ _
  have bb : Below wa.heap.size wa wb := by rw [hwb]; exact qBA _ _
  have bW : Below wb.heap.size wb W := by rw [hW]; exact qBA _ _
  have sa : wa.heap.size = w.heap.size + 1 := by rw [hwa]; exact Array.size_push (xs := w.heap) _
  have sb : wb.heap.size = w.heap.size + 1 + 1 := by rw [← sa, hwb]; exact Array.size_push (xs := wa.heap) _
  have hg4 : W.heap[w.heap.size]? = some (.cells #[.int .i64 f.vars, .slice ao f.nodes.length c, .int .i64 f.top] 24) := qaa (qaa (by rw [hwa]; exact heap_alloc_new w _) bb) bW
  have hg5 : W.heap[w.heap.size + 1]? = some (.cells #[.int .i64 (y : Nat), .int .i64 (n : Nat)] 46) := qaa (by rw [← sa, hwb]; exact heap_alloc_new wa _) bW
  have hg8 : W.heap[w.heap.size + 1 + 1]? = some (.cells #[.int .i64 0, .slice none 0 0, .int .i64 0] 27) := by rw [← sb, hW]; exact heap_alloc_new wb _
  have HB := qHd (ba.trans ((bb.mono ba.size).trans (bW.mono (Nat.le_trans ba.size bb.size))))
  obtain ⟨g4, hG4⟩ : ∃ g, g = w.heap.size := ⟨_, rfl⟩
  obtain ⟨g5, hG5⟩ : ∃ g, g = w.heap.size + 1 := ⟨_, rfl⟩
  obtain ⟨g8, hG8⟩ : ∃ g, g = w.heap.size + 1 + 1 := ⟨_, rfl⟩
  rw [← hG4] at hg4; rw [← hG5] at hg5; rw [← hG8] at hg8
  have l8 : w.heap.size ≤ g8 := by omega
  have n48 : g4 ≠ g8 := by omega
  have n58 : g5 ≠ g8 := by omega
  have G4 := qHd hg4; have G5 := qHd hg5; have G8 := qHd hg8
  obtain ⟨x0, x1, x2⟩ := qay hg4
  obtain ⟨y0, y1⟩ := qcy hg5
  rw [hW, hwb, hwa, hG4] at x0 x1 x2
  rw [hW, hwb, hwa, hG5] at y0 y1
  have HK := qHd (rvalue_any _ f y n W (HF.out.below HB.out) HFM.out HCU.out)
  rw [hfv] at HK
  clear ba bb bW sa sb hg4 hg5 hg8
  have hl1n : ¬ ((l1 : Nat) : Int) < 0 := by omega
  go_enter Tryz.func45, Tryz.ntmps45
  go_wp2_with (with_reducible refine qad ?_)
  rw [← hwa, ← hwb, ← hW, ← hG8, ← hG5, ← hG4]
  clear hwa hwb hW hG8 hG5 hG4 x0 x1 x2 y0 y1
  refine qap.mk ?_
  (with_reducible refine HK.out.mono ?_); rintro e w2 ⟨rfl, hb2⟩
  have HB := qHd (HB.out.trans (hb2.mono HB.out.size))
  have G4 := qHd (qaa G4.out hb2); have G5 := qHd (qaa G5.out hb2); have G8 := qHd (qaa G8.out hb2)
  clear hb2 HK
  by_cases h2 : fv < 2
  ·have GL := qHd (grT_leaf0 (d := d + 1) hfv (.inl (by omega)))
   have h2z : (fv : Int) < 2 := by omega
   go_wp2_with (with_reducible refine qaf ?_)
   refine qan g8 0 [.int .i64 0, .slice none 0 0, .int .i64 (fv : Nat)] G8.out rfl rfl (Nat.le_of_ble_eq_true rfl) (by kernel_rfl) rfl ?_
   intro wz hpz
   have GZ := qHd (show wz.heap[g8]? = some (.cells #[.int .i64 0, .slice none 0 0, .int .i64 (fv : Nat)] 27) by rw [hpz]; exact qbd G8.out)
   have HBz := qHd (qbl hpz HB.out l8)
   clear hpz
   go_wp2_with (with_reducible first | refine qad ?_ | refine qai ?_ | refine qaj ?_ | refine qak ?_ | refine qag ?_)
   refine qcl rfl g8 #[.int .i64 0, .slice none 0 0, .int .i64 (fv : Nat)] rfl GZ.out Tryz.underlying27 rfl (by kernel_rfl) rfl ?_
   rw [GL.out.1, GL.out.2]
   exact ⟨_, rfl, trG_leaf hfv2, HBz.out⟩
  have hfv' : fv = 2 := by omega
  subst hfv'
  have H2 := FVV
  obtain ⟨k1, k2⟩ := fmNext_ok HFM.out H2.out
  obtain ⟨k3, k4⟩ := ev3_open k2
  obtain ⟨x0, x1, x2⟩ := qay G4.out
  obtain ⟨y0, y1⟩ := qcy G5.out
  have HK := qHd (rnext_any _ f y n w2 (HF.out.below HB.out) HFM.out HCU.out H2.out)
  obtain ⟨at_, hat⟩ : ∃ a, a = qcp f y n := ⟨_, rfl⟩
  rw [← hat] at k1 k3 k4 HK
  obtain ⟨P2, hP2⟩ : ∃ P : Nat, P = 2 ^ at_ := ⟨_, rfl⟩
  have hp24 : P2 < 16777216 := by rw [hP2]; exact pow_l24 (by omega)
  have DP := qHd (show IntKind.wrap .i64 (2 ^ at_) = (P2 : Int) by rw [shl_one (by omega), hP2])
  obtain ⟨nb, hnb⟩ : ∃ nb, nb = n ||| 1 <<< at_ := ⟨_, rfl⟩
  obtain ⟨yb, hyb⟩ : ∃ yb, yb = y ||| 1 <<< at_ := ⟨_, rfl⟩
  have hnb3 : nb = n ||| P2 := by rw [hnb, hP2, Nat.one_shiftLeft]
  have hyb3 : yb = y ||| P2 := by rw [hyb, hP2, Nat.one_shiftLeft]
  have DN := qHd (show bits .or .i64 (n : Int) (P2 : Int) = (nb : Int) by rw [bits_or (by omega) (by omega), hnb3])
  have DY := qHd (show bits .or .i64 (y : Int) (P2 : Int) = (yb : Int) by rw [bits_or (by omega) (by omega), hyb3])
  have OKA := qHd (show okC f.vars.toNat y nb by rw [hnb]; exact okC_no HOK.out k1 k3)
  have OKB := qHd (show okC f.vars.toNat yb n by rw [hyb]; exact okC_yes HOK.out k1 k4)
  have GT := qHd (show grT f (d + 1) y n = .mk (at_ : Nat) [grT f d y nb, grT f d yb n] 0 ∧ grN f (d + 1) y n = 1 + grN f d y nb + grN f d yb n by
   simp only [grT, grN]
   rw [if_neg (by rw [H2.out]; decide), if_neg (by rw [H2.out]; decide), ← hat, ← hnb, ← hyb]; exact ⟨rfl, rfl⟩)
  rw [GT.out.2] at hcn
  clear hP2 hnb hyb hnb3 hyb3 k3 k4 hat k2
  obtain ⟨la, hla⟩ : ∃ x, l1 = x + grN f d y nb := ⟨l1 - grN f d y nb, by omega⟩
  obtain ⟨lb, hlb⟩ : ∃ x, la = x + grN f d yb n := ⟨la - grN f d yb n, by omega⟩
  have HLA := qHd hla; have HLB := qHd hlb; have h14 : l1 ≤ 4096 := by omega
  have hla4 : la ≤ 4096 := by omega
  clear hla hlb hcn hl4
  have hdz : ¬ ((d + 1 : Nat) : Int) = 0 := by omega
  have hcnd : (decide (((l1 : Nat) : Int) < 0) || (((d : Nat) : Int) + 1 == 0)) = false := by rw [Bool.or_eq_false_iff]; exact ⟨decide_eq_false (by omega), by rw [beq_eq_false_iff_ne]; omega⟩
  go_wp2_with (with_reducible refine qad ?_)
  clear x0 x1 x2 y0 y1 hdz hcnd
  refine qap.mk ?_
  (with_reducible refine HK.out.mono ?_); rintro e w4 ⟨rfl, hb4⟩
  have HB := qHd (HB.out.trans (hb4.mono HB.out.size))
  have G4 := qHd (qaa G4.out hb4); have G5 := qHd (qaa G5.out hb4); have G8 := qHd (qaa G8.out hb4)
  clear hb4 HK
  have IHA := qHd (fun w1 (hbl : Below w4.heap.size w4 w1) => (show l1 - grN f d y nb = la by have := HLA.out; omega) ▸ ih y nb l1 w1 (by omega) (HF.out.below (HB.out.trans (hbl.mono HB.out.size))) OKA.out (by have := HLA.out; omega) h14)
  go_wp2_with (with_reducible first | refine qad ?_ | refine qai ?_ | refine qaj ?_ | refine qak ?_ | refine qag ?_)
  refine qap.mk ?_
  refine qao (A := ?aaGa) (w := w4) 17 [15] (by kernel_rfl) (Fl [KEq (.agg #[.int .i64 f.vars, .slice ao f.nodes.length c, .int .i64 f.top]), KEq (.pointer (some ⟨g5, 0, none⟩)), KEq (.int .i64 (y : Nat)), KEq (.pointer (some ⟨g5, 1, none⟩)), KEq (.int .i64 (n : Nat)), KEq (.int .i64 (at_ : Nat)), KEq (.int .i64 (P2 : Nat)), KEq (.int .i64 (nb : Nat)), KEq (.agg #[.int .i64 (y : Nat), .int .i64 (nb : Nat)]), KEq (.int .i64 ((d + 1 : Nat) : Int)), KEq (.int .i64 (d : Nat)), KEq (.int .i64 (l1 : Nat)), KGl (grT f d y nb) la, KGl (grT f d y nb) la, KGt (grT f d y nb), KEq (.int .i64 (la : Nat)), KNew w4.heap.size #[.int .i64 0, .slice none 0 0, .int .i64 0] 27]) (fun i => i == 16) (by kernel_rfl) ?hqGa (qcw (qae (kEq _) (qae (kEq _) (qae (kEq _) (qae (kEq _) (qae (kEq _) (qae (kEq _) (qae (kEq _) (qae (kEq _) (qae (kEq _) (qae (kEq _) (qae (kEq _) (qae (kEq _) (qae (kGl _ _) (qae (kGl _ _) (qae (kGt _) (qae (kEq _) (qae (kNew _ _ _) qcv)))))))))))))))))) ?haGa ?stGa ?tlGa
  case hqGa =>
   intro c a d v w h
   first | (simp only [Exit.then] at h ⊢; exact h) | (simp only [Exit.inBlock, Exit.then] at h ⊢; exact h) | exact h
  case haGa =>
   intro vals
   simp only [qba, qcd, if_true, Act.put, List.setIfInBounds_toArray, List.set_cons_zero, List.set_cons_succ, List.getElem?_toArray, List.getElem?_cons_zero, List.getElem?_cons_succ, Option.bind_some]
   exact rfl
  case stGa =>
   simp only [List.take_succ_cons, List.take_zero]
   refine qab rfl rfl ?_ (qab rfl rfl ?_ (qab rfl rfl ?_ (qab rfl rfl ?_ (qab rfl rfl ?_ (qab rfl rfl ?_ (qab rfl rfl ?_ (qab rfl rfl ?_ (qab rfl rfl ?_ (qab rfl rfl ?_ (qab rfl rfl ?_ (qab rfl rfl ?_ (qab rfl rfl ?_ (qab rfl rfl ?_ (qab rfl rfl ?_ (qct rfl ?_ (qab rfl rfl ?_ (qav)))))))))))))))))
   ·intro vals w1 hb hd
    obtain ⟨e0, e1, e2⟩ := qay (qaa G4.out hb)
    refine qSv (.agg #[.int .i64 f.vars, .slice ao f.nodes.length c, .int .i64 f.top]) (by go_simp) (qLk rfl rfl)
   ·intro vals w1 hb hd
    refine qSv (.pointer (some ⟨g5, 0, none⟩)) (by go_simp) (qLk rfl rfl)
   ·intro vals w1 hb hd
    obtain ⟨e0, e1⟩ := qcy (qaa G5.out hb)
    rw [show vals 1 = .pointer (some ⟨g5, 0, none⟩) from hd 1 (by kernel_rfl)]
    refine qSv (.int .i64 (y : Nat)) (by go_simp) (qLk rfl rfl)
   ·intro vals w1 hb hd
    refine qSv (.pointer (some ⟨g5, 1, none⟩)) (by go_simp) (qLk rfl rfl)
   ·intro vals w1 hb hd
    obtain ⟨e0, e1⟩ := qcy (qaa G5.out hb)
    rw [show vals 3 = .pointer (some ⟨g5, 1, none⟩) from hd 3 (by kernel_rfl)]
    refine qSv (.int .i64 (n : Nat)) (by go_simp) (qLk rfl rfl)
   ·intro vals w1 hb hd
    refine qSv (.int .i64 (at_ : Nat)) (by go_simp) (qLk rfl rfl)
   ·intro vals w1 hb hd
    rw [show vals 5 = .int .i64 (at_ : Nat) from hd 5 (by kernel_rfl)]
    refine qSv (.int .i64 (P2 : Nat)) (by go_simp; first | done | exact DP.out) (qLk rfl rfl)
   ·intro vals w1 hb hd
    rw [show vals 4 = .int .i64 (n : Nat) from hd 4 (by kernel_rfl)]
    rw [show vals 6 = .int .i64 (P2 : Nat) from hd 6 (by kernel_rfl)]
    refine qSv (.int .i64 (nb : Nat)) (by go_simp; first | done | exact DN.out) (qLk rfl rfl)
   ·intro vals w1 hb hd
    rw [show vals 2 = .int .i64 (y : Nat) from hd 2 (by kernel_rfl)]
    rw [show vals 7 = .int .i64 (nb : Nat) from hd 7 (by kernel_rfl)]
    refine qSv (.agg #[.int .i64 (y : Nat), .int .i64 (nb : Nat)]) (by go_simp) (qLk rfl rfl)
   ·intro vals w1 hb hd
    refine qSv (.int .i64 ((d + 1 : Nat) : Int)) (by go_simp) (qLk rfl rfl)
   ·intro vals w1 hb hd
    rw [show vals 9 = .int .i64 ((d + 1 : Nat) : Int) from hd 9 (by kernel_rfl)]
    refine qSv (.int .i64 (d : Nat)) (by go_simp; first | done | exact wrap_small ⟨by omega, by omega⟩ | omega) (qLk rfl rfl)
   ·intro vals w1 hb hd
    refine qSv (.int .i64 (l1 : Nat)) (by go_simp) (qLk rfl rfl)
   ·intro vals w1 hb hd
    have d0 : KEq (.agg #[.int .i64 f.vars, .slice ao f.nodes.length c, .int .i64 f.top]) (vals 0) w1 := hd 0 (by kernel_rfl)
    have d8 : KEq (.agg #[.int .i64 (y : Nat), .int .i64 (nb : Nat)]) (vals 8) w1 := hd 8 (by kernel_rfl)
    have d10 : KEq (.int .i64 (d : Nat)) (vals 10) w1 := hd 10 (by kernel_rfl)
    have d11 : KEq (.int .i64 (l1 : Nat)) (vals 11) w1 := hd 11 (by kernel_rfl)
    have HS := qHd (IHA.out w1 hb)
    have z0 : vals 0 = _ := d0
    rw [z0]; clear z0
    have z8 : vals 8 = _ := d8
    rw [z8]; clear z8
    have z10 : vals 10 = _ := d10
    rw [z10]; clear z10
    have z11 : vals 11 = _ := d11
    rw [z11]; clear z11
    refine qat (by go_simp; first | done | exact ⟨⟨rfl, rfl⟩, rfl⟩) ?_
    (with_reducible refine HS.out.mono ?_); rintro e w2 ⟨v, rfl, hv, hb2⟩
    exact ⟨_, rfl, qar hb2 ⟨v, rfl, hv⟩ (fun h => by cases h)⟩
   ·intro vals w1 hb hd
    have d12 : KGl (grT f d y nb) la (vals 12) w1 := hd 12 (by kernel_rfl)
    obtain ⟨v, ev, hv⟩ := d12
    rw [ev]
    refine qaq (v := .tuple #[v, .int .i64 (la : Nat)]) (w' := w1) (by go_simp) (qar (Below.refl _ _) ⟨v, rfl, hv⟩ (fun h => by cases h))
   ·intro vals w1 hb hd
    have d13 : KGl (grT f d y nb) la (vals 13) w1 := hd 13 (by kernel_rfl)
    obtain ⟨v, ev, hv⟩ := d13
    rw [ev]
    refine qaq (v := v) (w' := w1) (by go_simp) (qar (Below.refl _ _) hv (fun h => by cases h))
   ·intro vals w1 hb hd
    have d13 : KGl (grT f d y nb) la (vals 13) w1 := hd 13 (by kernel_rfl)
    obtain ⟨v, ev, hv⟩ := d13
    rw [ev]
    refine qbv (v := .int .i64 (la : Nat)) (fun w => by go_simp) (qLk rfl rfl)
   ·intro vals w1 hb hd
    refine qaq (v := .pointer (some ⟨w1.heap.size, 0, none⟩)) (w' := w1.alloc (.cells #[.int .i64 0, .slice none 0 0, .int .i64 0] 27)) (by go_simp) (qar ((Below.refl _ _).alloc (Nat.le_refl _) _) ⟨_, hb.size, rfl, heap_alloc_new _ _⟩ (fun _ => ⟨rfl, by simp⟩))
  case tlGa =>
   intro vals w5 hb5 hf5 hdis
   simp only [List.drop_succ_cons, List.drop_zero]
   have z15 : vals 15 = _ := hf5 15 (by decide)
   obtain ⟨gA, hgA, ev, hzA⟩ : KNew w4.heap.size #[.int .i64 0, .slice none 0 0, .int .i64 0] 27 (vals 16) w5 := hf5 16 (by decide)
   have hta : TrG w5 (vals 14) (grT f d y nb) := hf5 14 (by decide)
   rw [z15, ev]
   obtain ⟨va, hva⟩ : ∃ u, u = vals 14 := ⟨_, rfl⟩
   rw [← hva] at hta ⊢
   clear z15 ev hf5 hdis hva
   obtain ⟨av, ar, aa, an, ac, rfl⟩ := hta.tr.shape
   go_wp2_with (with_reducible refine qaf ?_)
   refine qan gA 0 [.int .i64 av, .slice aa an ac, .int .i64 ar] hzA rfl rfl (Nat.le_of_ble_eq_true rfl) (by kernel_rfl) rfl ?_
   intro w6 hp6
   have n4A : g4 ≠ gA := by have := qaw G4.out; omega
   have n5A : g5 ≠ gA := by have := qaw G5.out; omega
   have n8A : g8 ≠ gA := by have := qaw G8.out; omega
   have hs4 := HB.out.size
   have G4 := qHd (qbr hp6 (qaa G4.out hb5) n4A); have G5 := qHd (qbr hp6 (qaa G5.out hb5) n5A); have G8 := qHd (qbr hp6 (qaa G8.out hb5) n8A)
   have BA := qHd (show w6.heap[gA]? = some (.cells #[.int .i64 av, .slice aa an ac, .int .i64 ar] 27) by rw [hp6]; exact qbd hzA)
   have HB := qHd (qbl hp6 (HB.out.trans (hb5.mono HB.out.size)) (by omega))
   have TA := qHd (hta.keep (qch hp6 hzA (by simp)))
   clear hp6 hb5 hzA hta
   have IHB := qHd (fun w1 (hbl : Below w6.heap.size w6 w1) => (show la - grN f d yb n = lb by have := HLB.out; omega) ▸ ih yb n la w1 (by omega) (HF.out.below (HB.out.trans (hbl.mono HB.out.size))) OKB.out (by have := HLB.out; omega) hla4)
   go_wp2_with (with_reducible first | refine qad ?_ | refine qai ?_ | refine qaj ?_ | refine qak ?_ | refine qag ?_)
   refine qap.mk ?_
   refine qao (A := ?aaGb) (w := w6) 17 [15] (by kernel_rfl) (Fl [KEq (.agg #[.int .i64 f.vars, .slice ao f.nodes.length c, .int .i64 f.top]), KEq (.pointer (some ⟨g5, 0, none⟩)), KEq (.int .i64 (y : Nat)), KEq (.int .i64 (at_ : Nat)), KEq (.int .i64 (P2 : Nat)), KEq (.int .i64 (yb : Nat)), KEq (.pointer (some ⟨g5, 1, none⟩)), KEq (.int .i64 (n : Nat)), KEq (.agg #[.int .i64 (yb : Nat), .int .i64 (n : Nat)]), KEq (.int .i64 ((d + 1 : Nat) : Int)), KEq (.int .i64 (d : Nat)), KEq (.int .i64 (la : Nat)), KGl (grT f d yb n) lb, KGl (grT f d yb n) lb, KGt (grT f d yb n), KEq (.int .i64 (lb : Nat)), KNew w6.heap.size #[.int .i64 0, .slice none 0 0, .int .i64 0] 27]) (fun i => i == 16) (by kernel_rfl) ?hqGb (qcw (qae (kEq _) (qae (kEq _) (qae (kEq _) (qae (kEq _) (qae (kEq _) (qae (kEq _) (qae (kEq _) (qae (kEq _) (qae (kEq _) (qae (kEq _) (qae (kEq _) (qae (kEq _) (qae (kGl _ _) (qae (kGl _ _) (qae (kGt _) (qae (kEq _) (qae (kNew _ _ _) qcv)))))))))))))))))) ?haGb ?stGb ?tlGb
   case hqGb =>
    intro c a d v w h
    first | (simp only [Exit.then] at h ⊢; exact h) | (simp only [Exit.inBlock, Exit.then] at h ⊢; exact h) | exact h
   case haGb =>
    intro vals
    simp only [qba, qcd, if_true, Act.put, List.setIfInBounds_toArray, List.set_cons_zero, List.set_cons_succ, List.getElem?_toArray, List.getElem?_cons_zero, List.getElem?_cons_succ, Option.bind_some]
    exact rfl
   case stGb =>
    simp only [List.take_succ_cons, List.take_zero]
    refine qab rfl rfl ?_ (qab rfl rfl ?_ (qab rfl rfl ?_ (qab rfl rfl ?_ (qab rfl rfl ?_ (qab rfl rfl ?_ (qab rfl rfl ?_ (qab rfl rfl ?_ (qab rfl rfl ?_ (qab rfl rfl ?_ (qab rfl rfl ?_ (qab rfl rfl ?_ (qab rfl rfl ?_ (qab rfl rfl ?_ (qab rfl rfl ?_ (qct rfl ?_ (qab rfl rfl ?_ (qav)))))))))))))))))
    ·intro vals w1 hb hd
     obtain ⟨e0, e1, e2⟩ := qay (qaa G4.out hb)
     refine qSv (.agg #[.int .i64 f.vars, .slice ao f.nodes.length c, .int .i64 f.top]) (by go_simp) (qLk rfl rfl)
    ·intro vals w1 hb hd
     refine qSv (.pointer (some ⟨g5, 0, none⟩)) (by go_simp) (qLk rfl rfl)
    ·intro vals w1 hb hd
     obtain ⟨e0, e1⟩ := qcy (qaa G5.out hb)
     rw [show vals 1 = .pointer (some ⟨g5, 0, none⟩) from hd 1 (by kernel_rfl)]
     refine qSv (.int .i64 (y : Nat)) (by go_simp) (qLk rfl rfl)
    ·intro vals w1 hb hd
     refine qSv (.int .i64 (at_ : Nat)) (by go_simp) (qLk rfl rfl)
    ·intro vals w1 hb hd
     rw [show vals 3 = .int .i64 (at_ : Nat) from hd 3 (by kernel_rfl)]
     refine qSv (.int .i64 (P2 : Nat)) (by go_simp; first | done | exact DP.out) (qLk rfl rfl)
    ·intro vals w1 hb hd
     rw [show vals 2 = .int .i64 (y : Nat) from hd 2 (by kernel_rfl)]
     rw [show vals 4 = .int .i64 (P2 : Nat) from hd 4 (by kernel_rfl)]
     refine qSv (.int .i64 (yb : Nat)) (by go_simp; first | done | exact DY.out) (qLk rfl rfl)
    ·intro vals w1 hb hd
     refine qSv (.pointer (some ⟨g5, 1, none⟩)) (by go_simp) (qLk rfl rfl)
    ·intro vals w1 hb hd
     obtain ⟨e0, e1⟩ := qcy (qaa G5.out hb)
     rw [show vals 6 = .pointer (some ⟨g5, 1, none⟩) from hd 6 (by kernel_rfl)]
     refine qSv (.int .i64 (n : Nat)) (by go_simp) (qLk rfl rfl)
    ·intro vals w1 hb hd
     rw [show vals 5 = .int .i64 (yb : Nat) from hd 5 (by kernel_rfl)]
     rw [show vals 7 = .int .i64 (n : Nat) from hd 7 (by kernel_rfl)]
     refine qSv (.agg #[.int .i64 (yb : Nat), .int .i64 (n : Nat)]) (by go_simp) (qLk rfl rfl)
    ·intro vals w1 hb hd
     refine qSv (.int .i64 ((d + 1 : Nat) : Int)) (by go_simp) (qLk rfl rfl)
    ·intro vals w1 hb hd
     rw [show vals 9 = .int .i64 ((d + 1 : Nat) : Int) from hd 9 (by kernel_rfl)]
     refine qSv (.int .i64 (d : Nat)) (by go_simp; first | done | exact wrap_small ⟨by omega, by omega⟩ | omega) (qLk rfl rfl)
    ·intro vals w1 hb hd
     refine qSv (.int .i64 (la : Nat)) (by go_simp) (qLk rfl rfl)
    ·intro vals w1 hb hd
     have d0 : KEq (.agg #[.int .i64 f.vars, .slice ao f.nodes.length c, .int .i64 f.top]) (vals 0) w1 := hd 0 (by kernel_rfl)
     have d8 : KEq (.agg #[.int .i64 (yb : Nat), .int .i64 (n : Nat)]) (vals 8) w1 := hd 8 (by kernel_rfl)
     have d10 : KEq (.int .i64 (d : Nat)) (vals 10) w1 := hd 10 (by kernel_rfl)
     have d11 : KEq (.int .i64 (la : Nat)) (vals 11) w1 := hd 11 (by kernel_rfl)
     have HS := qHd (IHB.out w1 hb)
     have z0 : vals 0 = _ := d0
     rw [z0]; clear z0
     have z8 : vals 8 = _ := d8
     rw [z8]; clear z8
     have z10 : vals 10 = _ := d10
     rw [z10]; clear z10
     have z11 : vals 11 = _ := d11
     rw [z11]; clear z11
     refine qat (by go_simp; first | done | exact ⟨⟨rfl, rfl⟩, rfl⟩) ?_
     (with_reducible refine HS.out.mono ?_); rintro e w2 ⟨v, rfl, hv, hb2⟩
     exact ⟨_, rfl, qar hb2 ⟨v, rfl, hv⟩ (fun h => by cases h)⟩
    ·intro vals w1 hb hd
     have d12 : KGl (grT f d yb n) lb (vals 12) w1 := hd 12 (by kernel_rfl)
     obtain ⟨v, ev, hv⟩ := d12
     rw [ev]
     refine qaq (v := .tuple #[v, .int .i64 (lb : Nat)]) (w' := w1) (by go_simp) (qar (Below.refl _ _) ⟨v, rfl, hv⟩ (fun h => by cases h))
    ·intro vals w1 hb hd
     have d13 : KGl (grT f d yb n) lb (vals 13) w1 := hd 13 (by kernel_rfl)
     obtain ⟨v, ev, hv⟩ := d13
     rw [ev]
     refine qaq (v := v) (w' := w1) (by go_simp) (qar (Below.refl _ _) hv (fun h => by cases h))
    ·intro vals w1 hb hd
     have d13 : KGl (grT f d yb n) lb (vals 13) w1 := hd 13 (by kernel_rfl)
     obtain ⟨v, ev, hv⟩ := d13
     rw [ev]
     refine qbv (v := .int .i64 (lb : Nat)) (fun w => by go_simp) (qLk rfl rfl)
    ·intro vals w1 hb hd
     refine qaq (v := .pointer (some ⟨w1.heap.size, 0, none⟩)) (w' := w1.alloc (.cells #[.int .i64 0, .slice none 0 0, .int .i64 0] 27)) (by go_simp) (qar ((Below.refl _ _).alloc (Nat.le_refl _) _) ⟨_, hb.size, rfl, heap_alloc_new _ _⟩ (fun _ => ⟨rfl, by simp⟩))
   case tlGb =>
    intro vals w7 hb7 hf7 hdis
    simp only [List.drop_succ_cons, List.drop_zero]
    have z15 : vals 15 = _ := hf7 15 (by decide)
    obtain ⟨gC, hgC, ev, hzC⟩ : KNew w6.heap.size #[.int .i64 0, .slice none 0 0, .int .i64 0] 27 (vals 16) w7 := hf7 16 (by decide)
    have htb : TrG w7 (vals 14) (grT f d yb n) := hf7 14 (by decide)
    rw [z15, ev]
    obtain ⟨vb, hvb⟩ : ∃ u, u = vals 14 := ⟨_, rfl⟩
    rw [← hvb] at htb ⊢
    clear z15 ev hf7 hdis hvb
    obtain ⟨bv, br, ba, bn, bc, rfl⟩ := htb.tr.shape
    go_wp2_with (with_reducible refine qaf ?_)
    refine qan gC 0 [.int .i64 bv, .slice ba bn bc, .int .i64 br] hzC rfl rfl (Nat.le_of_ble_eq_true rfl) (by kernel_rfl) rfl ?_
    intro w8 hp8
    have n8C : g8 ≠ gC := by have := qaw G8.out; omega
    have nAC : gA ≠ gC := by have := qaw BA.out; omega
    have hs6 := HB.out.size
    have TA := qHd ((TA.out.keep (qbu hb7)).keep (qch hp8 hzC (by simp))); have TB := qHd (htb.keep (qch hp8 hzC (by simp)))
    have G8 := qHd (qbr hp8 (qaa G8.out hb7) n8C); have BA := qHd (qbr hp8 (qaa BA.out hb7) nAC)
    have BC := qHd (show w8.heap[gC]? = some (.cells #[.int .i64 bv, .slice ba bn bc, .int .i64 br] 27) by rw [hp8]; exact qbd hzC)
    have HB := qHd (qbl hp8 (HB.out.trans (hb7.mono HB.out.size)) (by omega))
    clear hp8 hb7 hzC htb
    obtain ⟨w9, hw9, hb9, g9, hG9, hg9⟩ := qBx5 w8 (.cells #[.int .i64 av, .slice aa an ac, .int .i64 ar, .int .i64 bv, .slice ba bn bc, .int .i64 br] 27)
    have n98 : g9 ≠ g8 := by have := qaw G8.out; omega
    obtain ⟨a0, a1, a2⟩ := qay BA.out
    obtain ⟨c0, c1, c2⟩ := qay BC.out
    go_wp2_with (with_reducible refine qaf ?_)
    rw [← hw9, ← hG9]
    clear hw9 hG9 a0 a1 a2 c0 c1 c2
    refine qan g8 0 [.int .i64 (at_ : Nat), .slice (some ⟨g9, 0, none⟩) 2 2, .int .i64 0] (qaa G8.out hb9) rfl rfl (Nat.le_of_ble_eq_true rfl) (by kernel_rfl) rfl ?_
    intro wz hpz
    have GZ := qHd (show wz.heap[g8]? = some (.cells #[.int .i64 (at_ : Nat), .slice (some ⟨g9, 0, none⟩) 2 2, .int .i64 0] 27) by rw [hpz]; exact qbd (qaa G8.out hb9))
    have G9z := qHd (qbr hpz hg9 n98)
    have KZ := keep6_trans (qbu hb9) (qch hpz (qaa G8.out hb9) (by simp)); have TAz := qHd (TA.out.keep KZ); have TBz := qHd (TB.out.keep KZ); clear KZ
    have HBz := qHd (qbl hpz (HB.out.trans (hb9.mono HB.out.size)) l8)
    clear hpz hg9 hb9
    go_wp2_with (with_reducible first | refine qad ?_ | refine qai ?_ | refine qaj ?_ | refine qak ?_ | refine qag ?_)
    refine qcl rfl g8 #[.int .i64 (at_ : Nat), .slice (some ⟨g9, 0, none⟩) 2 2, .int .i64 0] rfl GZ.out Tryz.underlying27 rfl (by kernel_rfl) rfl ?_
    rw [GT.out.1, GT.out.2, show l1 + 1 - (1 + grN f d y nb + grN f d yb n) = lb by have := HLA.out; have := HLB.out; omega]
    exact ⟨_, rfl, fun w2 h2 => trV_node (by rw [h2 g9 _ G9z.out rfl]; exact G9z.out) (TAz.out w2 h2) (TBz.out w2 h2) ⟨by omega, by omega⟩ ⟨by decide, by decide⟩, HBz.out⟩
def RetMkN (w : World) (t : Tr) (er : Nat) (e : Ending) (w' : World) : Prop := ∃ v, e = .returned (.tuple #[v, .int .i64 (er : Nat)]) ∧ Below w.heap.size w w' ∧ TrV w' v t
theorem rmake_f (vf : Value) (f : Fm) (most : Int) (w : World) (hf : FmV w vf f) (hm : I64 most) (h8 : qcc f = 0 → f.vars ≤ 8) :
  Calls Tryz.prog 15 #[vf, .int .i64 most] w (RetMkN w (mTr f most) (mErr f most)) := by
 obtain ⟨nv, rfl, hn, hv, htp⟩ := hf
 obtain ⟨ao, c, rfl, hc, hc2, _⟩ := hn.shape
 have HF := qHd (show FmV w _ f from ⟨_, rfl, hn, hv, htp⟩)
 unfold I64 at hm
 obtain ⟨W, hW, hbW, hg2, hg4⟩ := qBx2 w (.cells #[.int .i64 f.vars, .slice ao f.nodes.length c, .int .i64 f.top] 24) (.cells #[.int .i64 0, .slice none 0 0, .int .i64 0] 27)
 obtain ⟨g2, hG2⟩ : ∃ g, g = w.heap.size := ⟨_, rfl⟩
 obtain ⟨g4, hG4⟩ : ∃ g, g = w.heap.size + 1 := ⟨_, rfl⟩
 rw [← hG2] at hg2; rw [← hG4] at hg4
 have l4 : w.heap.size ≤ g4 := by omega
 have HBW := qHd hbW; have G2 := qHd hg2; have G4 := qHd hg4; have H8 := qHd h8
 obtain ⟨x0, x1, x2⟩ := qay hg2
 rw [hW, hG2] at x0 x1 x2
 have HK := qHd (rfcheck_any _ f W (HF.out.below HBW.out))
 obtain ⟨fe, hfe⟩ : ∃ fe, qcc f = fe := ⟨_, rfl⟩
 rw [hfe] at HK
 clear hbW hg2 hg4 hn hv htp h8
 go_enter Tryz.func15, Tryz.ntmps15
 go_wp2_with (with_reducible refine qad ?_)
 rw [← hW, ← hG4, ← hG2]; clear hW hG2 hG4 x0 x1 x2
 refine qap.mk ?_
 (with_reducible refine HK.out.mono ?_); rintro e w1 ⟨rfl, hb1⟩
 have HBc := qHd (HBW.out.trans (hb1.mono HBW.out.size)); have G2 := qHd (qaa G2.out hb1); have G4 := qHd (qaa G4.out hb1)
 clear hb1 HK
 by_cases h0 : fe = 0
 ·subst h0
  have HFM := qHd hfe
  have E1 := qHd (show mErr f most = if most < 0 ∨ 24 < most then 3 else 0 by unfold mErr; rw [if_neg (by rw [hfe]; exact fun h => h rfl)])
  clear hfe
  by_cases h1 : most < 0
  ·have R := qHd (E1.out.trans (if_pos (.inl h1)))
   have RT := qHd (show mTr f most = .mk 0 [] 0 by unfold mTr; rw [if_neg (by rw [R.out]; decide)])
   go_wp2_with (with_reducible refine qaf ?_)
   refine qan g4 0 [.int .i64 0, .slice none 0 0, .int .i64 0] G4.out rfl rfl (Nat.le_of_ble_eq_true rfl) (by kernel_rfl) rfl ?_
   intro wz hpz
   have GZ := qHd (show wz.heap[g4]? = some (.cells #[.int .i64 0, .slice none 0 0, .int .i64 0] 27) by rw [hpz]; exact qbd G4.out)
   have HBZ := qHd (qbl hpz HBc.out l4)
   clear hpz
   go_wp2_with (with_reducible first | refine qad ?_ | refine qai ?_ | refine qaj ?_ | refine qak ?_ | refine qag ?_)
   refine qcl rfl g4 #[.int .i64 0, .slice none 0 0, .int .i64 0] rfl GZ.out Tryz.underlying27 rfl (by kernel_rfl) rfl ?_
   exact ⟨_, by rw [R.out]; rfl, HBZ.out, by rw [RT.out]; exact TrV.leaf _ ⟨by decide, by decide⟩⟩
  by_cases h2 : 24 < most
  ·have R := qHd (E1.out.trans (if_pos (.inr h2)))
   have RT := qHd (show mTr f most = .mk 0 [] 0 by unfold mTr; rw [if_neg (by rw [R.out]; decide)])
   go_wp2_with (with_reducible refine qaf ?_)
   refine qan g4 0 [.int .i64 0, .slice none 0 0, .int .i64 0] G4.out rfl rfl (Nat.le_of_ble_eq_true rfl) (by kernel_rfl) rfl ?_
   intro wz hpz
   have GZ := qHd (show wz.heap[g4]? = some (.cells #[.int .i64 0, .slice none 0 0, .int .i64 0] 27) by rw [hpz]; exact qbd G4.out)
   have HBZ := qHd (qbl hpz HBc.out l4)
   clear hpz
   go_wp2_with (with_reducible first | refine qad ?_ | refine qai ?_ | refine qaj ?_ | refine qak ?_ | refine qag ?_)
   refine qcl rfl g4 #[.int .i64 0, .slice none 0 0, .int .i64 0] rfl GZ.out Tryz.underlying27 rfl (by kernel_rfl) rfl ?_
   exact ⟨_, by rw [R.out]; rfl, HBZ.out, by rw [RT.out]; exact TrV.leaf _ ⟨by decide, by decide⟩⟩
  have R := qHd (E1.out.trans (if_neg (by omega)))
  have RT := qHd (show mTr f most = grT f most.toNat 0 0 by unfold mTr; rw [if_pos R.out])
  obtain ⟨M, rfl⟩ : ∃ M : Nat, most = M := ⟨most.toNat, by omega⟩
  rw [Int.toNat_natCast] at RT
  clear E1
  have hcap := grN_cap HFM.out (H8.out HFM.out) M
  have hk := rgrow_any f HFM.out ao c M 0 0 4096 w1 (by omega) (HF.out.below HBc.out) (okC_zero _) (by omega) (by omega)
  obtain ⟨lf, hlf⟩ : ∃ lf, lf = 4096 - grN f M 0 0 := ⟨_, rfl⟩
  rw [← hlf, show ((0 : Nat) : Int) = 0 from rfl, show ((4096 : Nat) : Int) = 4096 from rfl] at hk
  have HK := qHd hk
  obtain ⟨x0, x1, x2⟩ := qay G2.out
  clear hk hcap hlf
  go_wp2_with (with_reducible refine qad ?_)
  clear x0 x1 x2
  refine qap.mk ?_
  (with_reducible refine HK.out.mono ?_); rintro e w5 ⟨va, rfl, hta, hb5⟩
  obtain ⟨av, ar, aa, an, ac, rfl⟩ := hta.tr.shape
  have HB5 := qHd (HBc.out.trans (hb5.mono HBc.out.size)); have G4 := qHd (qaa G4.out hb5)
  obtain ⟨wa, hwa, hba, g8, hG8, hga⟩ := qBx5 w5 (.cells #[.int .i64 0, .slice none 0 0, .int .i64 0] 27)
  have ne48 : g4 ≠ g8 := by have := qaw G4.out; omega
  have l8 : w.heap.size ≤ g8 := by have := HB5.out.size; omega
  have HTA := qHd (hta.keep (qbu hba)); have GA := qHd hga
  have HBa := qHd (HB5.out.trans (hba.mono HB5.out.size)); have G4 := qHd (qaa G4.out hba)
  clear hb5 hta hba hga HK
  have hlz : ¬ ((lf : Nat) : Int) < 0 := by omega
  go_wp2_with (with_reducible refine qaf ?_)
  rw [← hwa, ← hG8]; clear hwa hG8
  refine qan g8 0 [.int .i64 av, .slice aa an ac, .int .i64 ar] GA.out rfl rfl (Nat.le_of_ble_eq_true rfl) (by kernel_rfl) rfl ?_
  intro w6 hp6
  have G8 := qHd (show w6.heap[g8]? = some (.cells #[.int .i64 av, .slice aa an ac, .int .i64 ar] 27) by rw [hp6]; exact qbd GA.out)
  have HB6 := qHd (qbl hp6 HBa.out l8); have G46 := qHd (qbr hp6 G4.out ne48); have HT6 := qHd (HTA.out.keep (qch hp6 GA.out (by simp)))
  clear hp6
  obtain ⟨a0, a1, a2⟩ := qay G8.out
  go_wp2_with (with_reducible refine qaf ?_)
  refine qan g4 0 [.int .i64 av, .slice aa an ac, .int .i64 ar] G46.out rfl rfl (Nat.le_of_ble_eq_true rfl) (by kernel_rfl) rfl ?_
  intro wz hpz
  have GZ := qHd (show wz.heap[g4]? = some (.cells #[.int .i64 av, .slice aa an ac, .int .i64 ar] 27) by rw [hpz]; exact qbd G46.out)
  have HBZ := qHd (qbl hpz HB6.out l4); have HTZ := qHd (HT6.out.keep (qch hpz G46.out (by simp)))
  clear hpz a0 a1 a2
  go_wp2_with (with_reducible first | refine qad ?_ | refine qai ?_ | refine qaj ?_ | refine qak ?_ | refine qag ?_)
  refine qcl rfl g4 #[.int .i64 av, .slice aa an ac, .int .i64 ar] rfl GZ.out Tryz.underlying27 rfl (by kernel_rfl) rfl ?_
  exact ⟨_, by rw [R.out]; rfl, HBZ.out, by rw [RT.out]; exact HTZ.out.tr⟩
 ·have R := qHd (show mErr f most = fe by unfold mErr; rw [hfe, if_pos h0])
  have RT := qHd (show mTr f most = .mk 0 [] 0 by unfold mTr; rw [if_neg (by rw [R.out]; exact h0)])
  clear hfe
  have h0z : ¬ ((fe : Nat) : Int) = 0 := by omega
  go_wp2_with (with_reducible refine qaf ?_)
  refine qan g4 0 [.int .i64 0, .slice none 0 0, .int .i64 0] G4.out rfl rfl (Nat.le_of_ble_eq_true rfl) (by kernel_rfl) rfl ?_
  intro wz hpz
  have GZ := qHd (show wz.heap[g4]? = some (.cells #[.int .i64 0, .slice none 0 0, .int .i64 0] 27) by rw [hpz]; exact qbd G4.out)
  have HBZ := qHd (qbl hpz HBc.out l4)
  clear hpz
  go_wp2_with (with_reducible first | refine qad ?_ | refine qai ?_ | refine qaj ?_ | refine qak ?_ | refine qag ?_)
  refine qcl rfl g4 #[.int .i64 0, .slice none 0 0, .int .i64 0] rfl GZ.out Tryz.underlying27 rfl (by kernel_rfl) rfl ?_
  exact ⟨_, by rw [R.out]; rfl, HBZ.out, by rw [RT.out]; exact TrV.leaf _ ⟨by decide, by decide⟩⟩
theorem rsame_n : ∀ (N : Nat) (t : Tr), SizeOf.sizeOf t < N → ∀ (va vb : Value) (w : World), TrV w va t → TrV w vb t → Calls Tryz.prog 16 #[va, vb] w (qea w (.bool true)) := by
 intro N
 induction N with
 | zero => intro t h; omega
 | succ N ih =>
  intro t hN va vb w ha hb
  obtain ⟨v, ks, r⟩ := t
  obtain ⟨ax, cx, rfl, hkx, hx1, hx2, _, _⟩ := ha.open
  obtain ⟨ay, cy, rfl, hky, hy1, hy2, _, _⟩ := hb.open
  have HX := qHd hkx; have HY := qHd hky
  obtain ⟨W, hW, hbW, hg1, hg2⟩ := qBx2 w (.cells #[.int .i64 v, .slice ax ks.length cx, .int .i64 r] 27) (.cells #[.int .i64 v, .slice ay ks.length cy, .int .i64 r] 27)
  obtain ⟨g1, hG1⟩ : ∃ g, g = w.heap.size := ⟨_, rfl⟩
  obtain ⟨g2, hG2⟩ : ∃ g, g = w.heap.size + 1 := ⟨_, rfl⟩
  rw [← hG1] at hg1; rw [← hG2] at hg2
  have HBW := qHd hbW; have G1 := qHd hg1; have G2 := qHd hg2
  obtain ⟨x0, x1, x2⟩ := qay hg1
  obtain ⟨y0, y1, y2⟩ := qay hg2
  rw [hW, hG1] at x0 x1 x2
  rw [hW, hG2] at y0 y1 y2
  clear hbW hg1 hg2 ha hb hkx hky
  go_enter Tryz.func16, Tryz.ntmps16
  go_wp2_with (with_reducible first | refine qai ?_ | refine qag ?_)
  rw [← hW, ← hG2, ← hG1]; clear hW hG1 hG2 x0 x1 x2 y0 y1 y2
  refine qap.mk ?_
  go_loopw [30] (fun i' wx => ∃ q : Nat, q ≤ ks.length ∧ i' = .int .i64 q ∧ Hid (Below W.heap.size W wx)) (fun i' _ => ks.length - (intOf i').toNat)
  case atStart => exact ⟨0, Nat.zero_le _, rfl, qHd (Below.refl _ _)⟩
  case round =>
   obtain ⟨q, hq, rfl, BX⟩ := hrel
   obtain ⟨wo, rfl⟩ : ∃ wo : World, wo = wr := ⟨_, rfl⟩
   have HBo := qHd (HBW.out.trans (BX.out.mono HBW.out.size))
   by_cases hlt : q < ks.length
   ·obtain ⟨x0, hx0⟩ : ∃ x, ks[q]? = some x := ⟨ks[q], List.getElem?_eq_getElem hlt⟩
    have G1 := qHd (qaa G1.out BX.out); have G2 := qHd (qaa G2.out BX.out)
    obtain ⟨x, ox, rfl, hx, hjx, hatx⟩ := (KidsV.below HX.out HBo.out).at (by omega); clear hjx
    obtain ⟨y, oy, rfl, hy, hjy, haty⟩ := (KidsV.below HY.out HBo.out).at (by omega); clear hjy
    obtain ⟨vx, rx, ax, nx, cxx, k0, k1, k2, tx⟩ := (hatx q x0 hx0).val
    obtain ⟨vy, ry, ay, ny, cyy, m0, m1, m2, ty⟩ := (haty q x0 hx0).val
    have KX := qHd (And.intro k0 (And.intro k1 k2)); have KY := qHd (And.intro m0 (And.intro m1 m2))
    have HTX := qHd tx; have HTY := qHd ty
    have HSZ := qHd (show SizeOf.sizeOf x0 < N by have := qcj (v := v) (r := r) (ks := ks) (k := x0) (List.mem_of_getElem? hx0); omega)
    clear hatx haty k0 k1 k2 m0 m1 m2 tx ty hx0
    have hltz : (q : Int) < (ks.length : Int) := by omega
    go_wp2_with (with_reducible first | refine qad ?_ | refine qai ?_ | refine qaj ?_ | refine qak ?_ | refine qag ?_)
    refine qap.mk ?_
    refine qao (A := ?aaS) (w := wo) 11 [] (by kernel_rfl) (Fl [KEq (.pointer (some ⟨g1, 1, none⟩)), KEq (.slice (some ⟨x, ox, none⟩) ks.length cx), KEq (.int .i64 (q : Nat)), KEq (.pointer (some ⟨x, ox + q * 3, none⟩)), KEq (.agg #[.int .i64 vx, .slice ax nx cxx, .int .i64 rx]), KEq (.pointer (some ⟨g2, 1, none⟩)), KEq (.slice (some ⟨y, oy, none⟩) ks.length cy), KEq (.int .i64 (q : Nat)), KEq (.pointer (some ⟨y, oy + q * 3, none⟩)), KEq (.agg #[.int .i64 vy, .slice ay ny cyy, .int .i64 ry]), KEq (.bool true)]) (fun i => false) (by kernel_rfl) ?hqS (qcw (qae (kEq _) (qae (kEq _) (qae (kEq _) (qae (kEq _) (qae (kEq _) (qae (kEq _) (qae (kEq _) (qae (kEq _) (qae (kEq _) (qae (kEq _) (qae (kEq _) qcv)))))))))))) ?haS ?stS ?tlS
    case hqS =>
     intro c a d v w h
     first | (simp only [Exit.then] at h ⊢; exact h) | (simp only [Exit.inBlock, Exit.then] at h ⊢; exact h) | exact h
    case haS =>
     intro vals
     simp only [qba, qcd, if_true, Act.put, List.setIfInBounds_toArray, List.set_cons_zero, List.set_cons_succ, List.getElem?_toArray, List.getElem?_cons_zero, List.getElem?_cons_succ, Option.bind_some]
     exact rfl
    case stS =>
     simp only [List.take_succ_cons, List.take_zero]
     refine qab rfl rfl ?_ (qab rfl rfl ?_ (qab rfl rfl ?_ (qab rfl rfl ?_ (qab rfl rfl ?_ (qab rfl rfl ?_ (qab rfl rfl ?_ (qab rfl rfl ?_ (qab rfl rfl ?_ (qab rfl rfl ?_ (qab rfl rfl ?_ (qav)))))))))))
     ·intro vals w1 hb hd
      refine qSv (.pointer (some ⟨g1, 1, none⟩)) (by go_simp) (qLk rfl rfl)
     ·intro vals w1 hb hd
      obtain ⟨e0, e1, e2⟩ := qay (qaa G1.out hb)
      rw [show vals 0 = .pointer (some ⟨g1, 1, none⟩) from hd 0 (by kernel_rfl)]
      refine qSv (.slice (some ⟨x, ox, none⟩) ks.length cx) (by go_simp) (qLk rfl rfl)
     ·intro vals w1 hb hd
      refine qSv (.int .i64 (q : Nat)) (by go_simp) (qLk rfl rfl)
     ·intro vals w1 hb hd
      rw [show vals 1 = .slice (some ⟨x, ox, none⟩) ks.length cx from hd 1 (by kernel_rfl)]
      rw [show vals 2 = .int .i64 (q : Nat) from hd 2 (by kernel_rfl)]
      refine qSv (.pointer (some ⟨x, ox + q * 3, none⟩)) (by go_simp) (qLk rfl rfl)
     ·intro vals w1 hb hd
      have k0 := (hb.cell (p := ⟨x, _, none⟩) hx).trans KX.out.1
      have k1 := (hb.cell (p := ⟨x, _, none⟩) hx).trans KX.out.2.1
      have k2 := (hb.cell (p := ⟨x, _, none⟩) hx).trans KX.out.2.2
      rw [show vals 3 = .pointer (some ⟨x, ox + q * 3, none⟩) from hd 3 (by kernel_rfl)]
      refine qSv (.agg #[.int .i64 vx, .slice ax nx cxx, .int .i64 rx]) (by go_simp) (qLk rfl rfl)
     ·intro vals w1 hb hd
      refine qSv (.pointer (some ⟨g2, 1, none⟩)) (by go_simp) (qLk rfl rfl)
     ·intro vals w1 hb hd
      obtain ⟨e0, e1, e2⟩ := qay (qaa G2.out hb)
      rw [show vals 5 = .pointer (some ⟨g2, 1, none⟩) from hd 5 (by kernel_rfl)]
      refine qSv (.slice (some ⟨y, oy, none⟩) ks.length cy) (by go_simp) (qLk rfl rfl)
     ·intro vals w1 hb hd
      refine qSv (.int .i64 (q : Nat)) (by go_simp) (qLk rfl rfl)
     ·intro vals w1 hb hd
      rw [show vals 6 = .slice (some ⟨y, oy, none⟩) ks.length cy from hd 6 (by kernel_rfl)]
      rw [show vals 7 = .int .i64 (q : Nat) from hd 7 (by kernel_rfl)]
      refine qSv (.pointer (some ⟨y, oy + q * 3, none⟩)) (by go_simp) (qLk rfl rfl)
     ·intro vals w1 hb hd
      have k0 := (hb.cell (p := ⟨y, _, none⟩) hy).trans KY.out.1
      have k1 := (hb.cell (p := ⟨y, _, none⟩) hy).trans KY.out.2.1
      have k2 := (hb.cell (p := ⟨y, _, none⟩) hy).trans KY.out.2.2
      rw [show vals 8 = .pointer (some ⟨y, oy + q * 3, none⟩) from hd 8 (by kernel_rfl)]
      refine qSv (.agg #[.int .i64 vy, .slice ay ny cyy, .int .i64 ry]) (by go_simp) (qLk rfl rfl)
     ·intro vals w1 hb hd
      have d4 : KEq (.agg #[.int .i64 vx, .slice ax nx cxx, .int .i64 rx]) (vals 4) w1 := hd 4 (by kernel_rfl)
      have d9 : KEq (.agg #[.int .i64 vy, .slice ay ny cyy, .int .i64 ry]) (vals 9) w1 := hd 9 (by kernel_rfl)
      have HS := qHd (ih x0 HSZ.out _ _ w1 (HTX.out.below hb) (HTY.out.below hb))
      have z4 : vals 4 = _ := d4
      rw [z4]; clear z4
      have z9 : vals 9 = _ := d9
      rw [z9]; clear z9
      refine qat (by go_simp; first | done | exact ⟨⟨rfl, rfl⟩, rfl⟩) ?_
      (with_reducible refine HS.out.mono ?_); rintro e w2 ⟨rfl, hb2⟩
      exact ⟨_, rfl, qar hb2 rfl (fun h => by cases h)⟩
    case tlS =>
     intro vals w5 hb5 hf5 hdis
     simp only [List.drop_succ_cons, List.drop_zero]
     have z10 : vals 10 = _ := hf5 10 (by decide)
     rw [z10]; clear z10 hf5 hdis
     have BX5 := qHd (BX.out.trans (hb5.mono BX.out.size))
     clear hb5
     go_wp2_with fail
     go_roundw
     case rel => exact ⟨q + 1, by omega, by go_num, BX5⟩
     case measure => simp [intOf]; omega
   ·have hq' : q = ks.length := by omega
    subst hq'
    go_wp2_with fail
    go_ret
    exact ⟨rfl, HBo.out⟩
theorem rsame_any (t : Tr) (va vb : Value) (w : World) (ha : TrV w va t) (hb : TrV w vb t) : Calls Tryz.prog 16 #[va, vb] w (qea w (.bool true)) := rsame_n _ t (Nat.lt_succ_self _) va vb w ha hb
end Go.Proofs.YthhgfhdmfhnklaaGreatDoor
