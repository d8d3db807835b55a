/-
  The texts OpenF, SpanMath, OwnG, TrMath9, Te2, Te3, Sp0, TrMath11, NatLaw0, Pr1, R9a, R9b, R9c, Sp3r, Sp2, R41a, Sp4r, R41b, OpenP, SpanMath2, one behind the other (what the law leans on, the rest).
  Conditions: each theorem's own.
-/
import Derived.Test.YthhgfhdmfhnklaaGreatDoorMW7
/-
  Arguments that are formulas and trees, whatever the program's numbers of types.
  Conditions: each theorem's own.
-/
namespace Go.Proofs.YthhgfhdmfhnklaaGreatDoor
open Go.RowKit Go.ChangeShapes Go.WideShapes Go.Deep

section
variable {H : Type} {enc : TypeId × Value → H} {P : Program} {W : World}
/-- the numbers of the types of trees -/
structure TreeTys (P : Program) (ti tk tS : TypeId) : Prop where
  hi : P.underlying ti = some (.int .i64)
  ci : P.cellsOf ti = 1
  hk : P.underlying tk = some (.slice tS)
  ck : P.cellsOf tk = 1
  cS : P.cellsOf tS = 3
  hS : ∃ f0 f1 f2 : Field, P.underlying tS = some (.struct #[f0, f1, f2]) ∧ f0.type = ti ∧ f1.type = tk ∧ f2.type = ti ∧ f0.offset = 0 ∧ f1.offset = 1 ∧ f2.offset = 2
theorem kidsAt_of {w : World} {b : Nat} : ∀ (ts : List Tr) (off : Nat), (∀ (j : Nat) t, ts[j]? = some t → TrAt w b (off + j * 3) t) → KidsAt w b off ts
  | [], _, _ => by simp only [KidsAt]
  | t :: ts, off, h => by
    simp only [KidsAt]
    refine ⟨by simpa using h 0 t rfl, kidsAt_of ts (off + 3) (fun j x hj => ?_)⟩
    have := h (j + 1) x (by simpa using hj)
    rw [show off + (j + 1) * 3 = off + 3 + j * 3 from by omega] at this
    exact this
theorem open_tree {ti tk tS : TypeId} (T : TreeTys P ti tk tS) : ∀ (N fuel : Nat) (cs : List Value) (d : DataW H) (ps : List MemPlace), SizeOf.sizeOf d < N → DataW.trod enc P W 0 (fun _ => true) true fuel tS cs = some (d, ps) →
    ∃ (v r : Int) (ks : List Tr) (kv : Value), cs = [.int .i64 v, kv, .int .i64 r] ∧ KidsV W kv ks ∧ I64 v ∧ I64 r
  | 0, _, _, _, _, h, _ => by omega
  | N + 1, fuel, cs, d, ps, hN, h => by
    obtain ⟨f0, f1, f2, hu, t0, t1, t2, o0, o1, o2⟩ := T.hS
    obtain ⟨y0, y1, y2, m, hx, hl, h0, h1, h2⟩ := trod_struct3 hu h
    rw [T.cS] at hl
    rw [t0, o0, T.ci] at h0; rw [t1, o1, T.ck] at h1; rw [t2, o2, T.ci] at h2
    have hd : d = .agg [y0.1, y1.1, y2.1] := (Prod.mk.inj hx).1
    have hsz : SizeOf.sizeOf y1.1 < N := by
      rw [hd] at hN
      simp at hN
      omega
    match cs, hl with
    | [c0, c1, c2], _ =>
      simp only [List.drop, List.take] at h0 h1 h2
      obtain ⟨k0, e0, _, w0⟩ := DataW.trod_int T.hi h0
      obtain ⟨k2, e2, _, w2⟩ := DataW.trod_int T.hi h2
      simp only [List.cons.injEq, and_true] at e0 e2
      have hk : ∃ ks, KidsV W c1 ks := by
        rcases open_slice T.hk h1 with ⟨hcs, _⟩ | ⟨a, len, cap, m', n, D, Pl, hcs, _, hl, hm, hmm, hxs, hel⟩
        · have hcs' : c1 = .slice none 0 0 := by simpa using hcs
          rw [hcs']; exact ⟨[], none, 0, rfl, Nat.le_refl _, by omega, fun _ => rfl, (fun b off s h => by cases h)⟩
        · have hcs' : c1 = .slice (some a) len cap := by simpa using hcs
          rw [hcs']
          simp only [if_true] at hmm
          subst hmm
          rw [T.cS] at hel
          have hsl : ∀ i, i < len → SizeOf.sizeOf (D i) < N := fun i hi => by
            rw [hxs] at hsz
            simp at hsz
            have hmem : D i ∈ (List.range len).map D := List.mem_map.2 ⟨i, List.mem_range.2 hi, rfl⟩
            have := List.sizeOf_lt_of_mem hmem
            omega
          obtain ⟨F, hF⟩ := choose_lt (α := Tr) (n := len) (p := fun i t => ∀ b off, a.add (i * 3) = ⟨b, off, none⟩ → TrAt W b off t) (fun i hi => by
            obtain ⟨cs', g1, g2⟩ := hel i (by omega)
            obtain ⟨v, r, ks, kv, rfl, q1, q2, q3⟩ := open_tree T N n cs' (D i) (Pl i) (hsl i hi) g2
            obtain ⟨_, _, hc⟩ := World.cells?_some g1
            refine ⟨.mk v ks r, fun b off hb => ?_⟩
            have c0 := hc 0 (by omega); have c1 := hc 1 (by omega); have c2 := hc 2 (by omega)
            rw [hb, addr_add] at c0 c1 c2
            exact trAt_mk c0 c1 c2 q1 q2 q3)
          refine ⟨(List.range len).map F, some a, m', by simp, by simp; omega, by unfold maxLen at hm; omega, by simp, ?_⟩
          intro b off s hs
          obtain rfl : a = ⟨b, off, s⟩ := Option.some.inj hs
          have h0' : 0 < len → b < W.heap.size ∧ s = none := fun h0 => by
            obtain ⟨cs', g1, g2⟩ := hel 0 (by omega)
            obtain ⟨_, hlen, hc⟩ := World.cells?_some g1
            have := hc 0 (by omega)
            rw [Nat.zero_mul, show ((⟨b, off, s⟩ : Addr).add 0) = ⟨b, off, s⟩ from by simp [Addr.add]] at this
            obtain ⟨z, hz⟩ : ∃ z, cs'[0]? = some z := ⟨cs'[0]'(by omega), List.getElem?_eq_getElem (by omega)⟩
            rw [hz] at this
            exact cell_none this rfl
          refine ⟨fun hh => h0' (by simpa using hh), ?_⟩
          by_cases hl0 : len = 0
          · subst hl0; simp only [List.range_zero, List.map_nil, KidsAt]
          obtain ⟨_, rfl⟩ := h0' (by omega)
          apply kidsAt_of
          intro j t hj
          have hjl : j < len := by
            rcases Nat.lt_or_ge j len with q | q
            · exact q
            · rw [List.getElem?_eq_none (by simpa using q)] at hj; cases hj
          rw [List.getElem?_map, List.getElem?_range hjl] at hj
          have hz : F j = t := by simpa using hj
          subst hz
          exact hF j hjl b (off + j * 3) (addr_add _ _ _)
      obtain ⟨ks, hk⟩ := hk
      exact ⟨k0, k2, ks, c1, by rw [e0, e2], hk, i64_wf w0, i64_wf w2⟩
end
end Go.Proofs.YthhgfhdmfhnklaaGreatDoor
/-
  Closed intervals of rational numbers: least and greatest, sums, products, quotients, hulls and common parts.
  Conditions: none.
-/
namespace Go.Proofs.YthhgfhdmfhnklaaGreatDoor

/-- the common part -/
def sMeet (a b : Rat × Rat) : Rat × Rat := (mx a.1 b.1, mn a.2 b.2)
end Go.Proofs.YthhgfhdmfhnklaaGreatDoor
/-
  Slices of integers and of leaves: of the call's own, and only read; appends.
  Conditions: each theorem's own.
-/
namespace Go.Proofs.YthhgfhdmfhnklaaGreatDoor
open Go.RowKit Go.ChangeShapes Go.WideShapes

theorem ivals_length (l : List Int) : (ivals l).length = l.length := by simp [ivals]
theorem own_base {w : World} {B B' : Nat} {e : TypeId} {size n : Nat} {v : Value} {xs : List Value} (h : w.ownsRow B e size v n xs) (hB : B' ≤ B) : w.ownsRow B' e size v n xs := by
  obtain ⟨h1, h2⟩ := h
  refine ⟨h1, ?_⟩
  rcases h2 with h2 | ⟨g, cap, cur, hv, hb, r⟩
  · exact .inl h2
  · exact .inr ⟨g, cap, cur, hv, Nat.le_trans hB hb, r⟩
theorem lfCells_length (l : List Lf) : (lfCells l).length = l.length * 3 := by
  induction l with
  | nil => rfl
  | cons t ts ih => simp only [lfCells, List.flatMap_cons, List.length_append, List.length_cons, Lf.cells, List.length_nil] at ih ⊢; omega
section
variable {P : Program} {w : World} {ops : Array Oper} {rest : List Oper} {a : Act} {Q : Exit → Act → World → Prop}
/-- 'append(s, l...)': leaves behind leaves -/
theorem wpList_appLs {d : Option Tmp} {tt : TypeId} {s x : Operand} {t e : TypeId} {pos : String} {af : Array Edge}
    (base : Nat) {z : Value} {bytes : Nat} (T : SliceTy P t e z 3 bytes) (hzs : z.cells.size = 3)
    (v xv : Value) (l m : List Lf) (hs : a.eval s = v) (hx : a.eval x = xv) (hown : w.ownsRow base e 3 v l.length (lfCells l)) (hm : LfsV w xv m)
    (hn : l.length + m.length ≤ 1000000) (hby : bytes ≤ 1000) (hbase : base ≤ w.heap.size)
    (hK : ∀ v' w', w'.ownsRow base e 3 v' (l ++ m).length (lfCells (l ++ m)) → w.grownBy w' v.ownBlock → wpList P ops Q rest (a.put d v') w') :
    Pause (wpList P ops Q (⟨d, .call { callee := .builtin .append, args := #[s, x], argTypes := #[t, t] }, tt, pos, af, none⟩ :: rest) a w) := by
  obtain ⟨i0, hi, hz0, hz1, hz2⟩ := T.info
  obtain ⟨ao, c, rfl, q1, q2, q3, q4⟩ := hm
  cases hao : ao with
  | none =>
    have hc0 := q3 hao
    have hm0 : m = [] := List.eq_nil_of_length_eq_zero (by omega)
    subst hm0 hc0
    subst hao
    have hrun := run_append_owned_none (P := P) w base t tt e i0 3 T.under hi v _ _ hown
    refine wpList_plain rfl fun K hK' => ?_
    unfold Oper.wp execOp
    simp only [resolve, invoke, builtin, Sem.run_bind, Sem.run_pure, Result.andThen_ok, List.map_toArray, List.map_cons, List.map_nil, hs, hx, List.length_nil, hrun]
    refine hK' _ _ (hK v w ?_ (World.grownBy.refl _ _))
    rw [List.append_nil]; exact hown
  | some ad =>
    obtain ⟨b, off, sp⟩ := ad
    subst hao
    obtain ⟨k1, k3⟩ := q4 b off sp rfl
    have hbb : (l.length + m.length) * bytes ≤ 140737488355328 := Nat.le_trans (Nat.mul_le_mul hn hby) (by decide)
    refine wpList_append_own w rfl s x t rfl base e i0 z 3 bytes T.under hi hz0 hz1 hz2 hzs (by omega) v _ _ hs hown ⟨b, off, sp⟩ m.length c (lfCells m) hx (lfCells_length m) (fun j u hu => ?_) (fun u hu => ?_) (by unfold maxLen; omega) hbb hbase (fun v' w' k1 k2 _ => hK v' w' ?_ k2)
    · have hj : j < m.length * 3 := by have := (List.getElem?_eq_some_iff.1 hu).1; rwa [lfCells_length] at this
      have h0 : 0 < m.length := by omega
      obtain ⟨_, rfl⟩ := k1 h0
      have hjl : j / 3 < m.length := by omega
      obtain ⟨y, hy⟩ : ∃ y, m[j / 3]? = some y := ⟨m[j / 3], List.getElem?_eq_getElem hjl⟩
      have e1 := lfCells_at m (j / 3) (j % 3) y hy (Nat.mod_lt _ (by decide))
      rw [show j / 3 * 3 + j % 3 = j by omega, hu] at e1
      obtain ⟨c0, c1, c2⟩ := k3 _ _ hy
      rw [addr_add]
      have h3 : j % 3 = 0 ∨ j % 3 = 1 ∨ j % 3 = 2 := by omega
      rcases h3 with h3 | h3 | h3
      · rw [show off + j = off + j / 3 * 3 by omega, c0, e1, h3]; rfl
      · rw [show off + j = off + j / 3 * 3 + 1 by omega, c1, e1, h3]; rfl
      · rw [show off + j = off + j / 3 * 3 + 2 by omega, c2, e1, h3]; rfl
    · obtain ⟨y, _, hy⟩ := List.mem_flatMap.1 hu
      simp only [Lf.cells, List.mem_cons, List.not_mem_nil, or_false] at hy
      rcases hy with rfl | rfl | rfl <;> rfl
    · rw [List.length_append, lfCells_app]; exact k1
end
end Go.Proofs.YthhgfhdmfhnklaaGreatDoor
/-
  What the loops of Verify, sums and chance come to.
  Conditions: none.
-/
namespace Go.Proofs.YthhgfhdmfhnklaaGreatDoor

theorem bad_ref {f : Fm} (h : ndsOK f.vars 0 f.nodes) (x : Lf) : badL f x = decide (x.reason < 0 ∨ 2 < x.reason ∨ (x.reason < 2 ∧ (fmVal f x.yes x.no : Int) ≠ x.reason)) := by
  have hv := fmVal_le h x.yes x.no
  unfold badL
  apply decide_eq_decide.2
  omega
end Go.Proofs.YthhgfhdmfhnklaaGreatDoor
/-
  ternary.level and node, the reference's truth.
  Conditions: each theorem's own.
-/
namespace Go.Proofs.YthhgfhdmfhnklaaGreatDoor
open Go.RowKit Go.ChangeShapes Go.WideShapes

theorem truth_any (a b : Bool) (w : World) : Calls Tryz.prog 151 #[.bool a, .bool b] w (RetS w (.int .i64 (lev a b : Nat))) := by
  cases a <;> cases b <;>
    (go_enter Tryz.func151, Tryz.ntmps151
     go_wp2
     go_ret
     exact ⟨rfl, rfl⟩)
end Go.Proofs.YthhgfhdmfhnklaaGreatDoor
/-
  ternary.values: the values of all events and nodes.
  Conditions: each theorem's own.
-/
namespace Go.Proofs.YthhgfhdmfhnklaaGreatDoor
open Go.RowKit Go.ChangeShapes Go.WideShapes

section
variable {P : Program} {w : World} {ops : Array Oper} {rest : List Oper} {a : Act} {Q : Exit → Act → World → Prop}
/-- 'make([]T, n)', elements of one cell -/
theorem wpList_makeF {d : Option Tmp} {tt t e : TypeId} {l c : Operand} {pos : String} {af : Array Edge} (base : Nat) {z : Value} {bytes : Nat} (T : SliceTy P t e z 1 bytes) (hzc : z.cells = #[z])
    {kl kc : IntKind} {L C : Int} (n : Nat) (hl : a.eval l = .int kl L) (hc : a.eval c = .int kc C) (hL : L = (n : Int)) (hC : C = (n : Int)) (hn : n ≤ 1000000) (hby : bytes ≤ 1000) (hbase : base ≤ w.heap.size)
    (hK : ∀ w', w'.ownsRow base e 1 (.slice (some ⟨w.heap.size, 0, none⟩) n n) n (List.replicate n z) → w.grownBy w' none → wpList P ops Q rest (a.put d (.slice (some ⟨w.heap.size, 0, none⟩) n n)) w') :
    Pause (wpList P ops Q (⟨d, .makeSlice t l c, tt, pos, af, none⟩ :: rest) a w) := by
  obtain ⟨i0, hi, hz0, hz1, hz2⟩ := T.info
  have hb : bytes * n ≤ 1000 * 1000000 := Nat.mul_le_mul hby hn
  refine wpList_make_full w rfl l c t rfl base e i0 z 1 T.under hi hz0 hz1 kl kc L C n hl hc hL hC (by rw [hz2]; omega) (by unfold maxLen; omega) hbase (fun w' h1 h2 => hK w' ?_ h2)
  rw [hzc, Nat.mul_one, toList_madeCells_one] at h1; exact h1
end
end Go.Proofs.YthhgfhdmfhnklaaGreatDoor
/-
  Worlds that grow beside one block; the number of a tree's error, and its count.
  Conditions: each theorem's own.
-/
namespace Go.Proofs.YthhgfhdmfhnklaaGreatDoor
open Go.RowKit Go.ChangeShapes Go.WideShapes

mutual
theorem trErr_lt (V : Int) : ∀ (t : Tr) (ab n : Nat), (trErr V t ab n).2 < 12
  | .mk v ks r, ab, n => by
    unfold trErr
    repeat' split
    all_goals first | (simp; done) | exact trsErr_lt V ks _ _
theorem trsErr_lt (V : Int) : ∀ (ks : List Tr) (ab n : Nat), (trsErr V ks ab n).2 < 12
  | [], ab, n => by simp [trsErr]
  | t :: ts, ab, n => by
    unfold trsErr
    split
    · exact trErr_lt V t ab n
    · exact trsErr_lt V ts _ _
end

end Go.Proofs.YthhgfhdmfhnklaaGreatDoor
/-
  The cubes of a tree's leaves; the number of a certificate's error.
  Conditions: none.
-/
namespace Go.Proofs.YthhgfhdmfhnklaaGreatDoor

theorem cert_len {f : Fm} {t : Tr} (h : cErr f t = 0) : (trLeaves t 0 0).length ≤ 4096 := by
  rw [trLvs_length]
  have := (trDep_le t).2; have := (cErr_ok h).2.2.2; omega
end Go.Proofs.YthhgfhdmfhnklaaGreatDoor
/-
  Small functions of the statements: words that are equal, numbers that are too long, errors by their numbers, the document's examples.
  Conditions: each theorem's own.
-/
namespace Go.Proofs.YthhgfhdmfhnklaaGreatDoor
open Go.RowKit Go.ChangeShapes Go.WideShapes

theorem assert_yes (c : Int) (w : World) : (Instr.typeAssert (.iface 74 (.int .i64 c)) 31 74 true).run Tryz.prog w = .ok (.tuple #[.int .i64 c, .bool true]) w := by kernel_rfl
set_option maxRecDepth 100000 in
theorem num_any (c : Nat) (w : World) (hc : c < 1000) : Calls Tryz.prog 13 #[errV c] w (RetS w (.int .i64 c)) := by
  by_cases h0 : c = 0
  · subst h0
    rw [errV_zero]
    go_enter Tryz.func13, Tryz.ntmps13
    go_wp2
    go_ret
    exact ⟨rfl, rfl⟩
  · have ha := assert_yes c
    rw [errV_pos h0]
    go_enter Tryz.func13, Tryz.ntmps13
    go_wp2
    go_ret
    exact ⟨rfl, rfl⟩
end Go.Proofs.YthhgfhdmfhnklaaGreatDoor
/-
  proof.leaves, first and Verify.
  Conditions: each theorem's own.
-/
namespace Go.Proofs.YthhgfhdmfhnklaaGreatDoor
open Go.RowKit Go.ChangeShapes Go.WideShapes

/-- what Verify says -/
def verV (f : Fm) (t : Tr) : Bool × Int × Nat := if cErr f t = 0 then (decide (firstBad f (trLeaves t 0 0) 0 < 0), firstBad f (trLeaves t 0 0) 0, 0) else (false, 0, cErr f t)
set_option maxRecDepth 100000 in
set_option maxHeartbeats 4000000 in
theorem pverify_any (vf x : Value) (f : Fm) (t : Tr) (w : World) (hf : FmV w vf f) (ht : TrV w x t) :
    Calls Tryz.prog 11 #[vf, x] w (RetV w (.tuple #[.bool (verV f t).1, .int .i64 (verV f t).2.1, errV (verV f t).2.2])) := by
  have hrs := leaves_reason t x 0 0 ht
  obtain ⟨ec, hec⟩ : ∃ ec, cErr f t = ec := ⟨_, rfl⟩
  obtain ⟨nv, rfl, hn, hv, htp⟩ := hf
  obtain ⟨ao, c, rfl, hc, hc2, _⟩ := hn.shape
  have HF := Lib.hid (show FmV w _ f from ⟨_, rfl, hn, hv, htp⟩)
  have HT := Lib.hid ht
  obtain ⟨tv, tr, ta, tn, tc, rfl⟩ := ht.shape
  obtain ⟨W, hW⟩ : ∃ W, W = (w.alloc (.cells #[.int .i64 f.vars, .slice ao f.nodes.length c, .int .i64 f.top] 24)).alloc (.cells #[.int .i64 tv, .slice ta tn tc, .int .i64 tr] 27) := ⟨_, rfl⟩
  have hbW : Below w.heap.size w W := by rw [hW]; exact ((Below.refl _ _).alloc (Nat.le_refl _) _).alloc (by simp) _
  have hg1 : W.heap[w.heap.size]? = some (.cells #[.int .i64 f.vars, .slice ao f.nodes.length c, .int .i64 f.top] 24) := by rw [hW]; exact heap_alloc2_old w _ _
  have hg2 : W.heap[w.heap.size + 1]? = some (.cells #[.int .i64 tv, .slice ta tn tc, .int .i64 tr] 27) := by rw [hW]; exact heap_alloc2_new w _ _
  obtain ⟨g1, hG1⟩ : ∃ g, g = w.heap.size := ⟨_, rfl⟩
  obtain ⟨g2, hG2⟩ : ∃ g, g = w.heap.size + 1 := ⟨_, rfl⟩
  rw [← hG1] at hg1; rw [← hG2] at hg2
  have HBW := Lib.hid hbW; have G1 := Lib.hid hg1; have G2 := Lib.hid hg2
  obtain ⟨x0, x1, x2⟩ := row3 hg1
  obtain ⟨y0, y1, y2⟩ := row3 hg2
  rw [hW, hG1] at x0 x1 x2
  rw [hW, hG2] at y0 y1 y2
  clear hbW hg1 hg2 hn hv htp ht
  have HK := Lib.hid (pleaves_any _ _ f t W (HF.out.below HBW.out) (HT.out.below HBW.out) ec hec)
  go_enter Tryz.func11, Tryz.ntmps11
  go_wp2_with (with_reducible refine pauseCall ?_)
  rw [← hW, ← hG2, ← hG1]; clear hW hG1 hG2 x0 x1 x2 y0 y1 y2
  refine Pause.mk ?_
  (with_reducible refine HK.out.mono ?_); rintro e w1 ⟨v', rfl, hb1, hl⟩
  have HB1 := Lib.hid (HBW.out.trans (hb1.mono HBW.out.size))
  obtain ⟨x0, x1, x2⟩ := row3 (heap_below G1.out hb1)
  clear hb1 HK
  by_cases h0 : ec = 0
  · subst h0
    have VV := Lib.hid (show verV f t = (decide (firstBad f (trLeaves t 0 0) 0 < 0), firstBad f (trLeaves t 0 0) 0, 0) by unfold verV; rw [if_pos hec])
    have hfm := (cErr_ok hec).1
    obtain ⟨p0, p1, _, _⟩ := fmErr_parts hfm
    have HK := Lib.hid (pfirst_any _ v' f _ w1 (HF.out.below HB1.out) (hl rfl) hfm (fun z hz => okC_cube (cert_cubes hec z hz) p0 p1) hrs (cert_len hec))
    rw [errV_zero]
    clear hec hfm p0 p1 hl hrs
    go_wp2_with (with_reducible refine pauseCall ?_)
    refine Pause.mk ?_
    (with_reducible refine HK.out.mono ?_); rintro e w2 ⟨rfl, hb2⟩
    have HB2 := Lib.hid (HB1.out.trans (hb2.mono HB1.out.size))
    clear hb2 HK x0 x1 x2
    go_wp2_with fail
    go_ret3
    exact ⟨by rw [VV.out]; rfl, HB2.out⟩
  · have VV := Lib.hid (show verV f t = (false, 0, ec) by unfold verV; rw [if_neg (by rw [hec]; exact h0), hec])
    rw [errV_pos h0]
    go_wp2_with fail
    go_ret3
    exact ⟨by rw [VV.out, errV_pos h0]; rfl, HB1.out⟩
end Go.Proofs.YthhgfhdmfhnklaaGreatDoor
/-
  of of the reference of ternary values.
  Conditions: each theorem's own.
-/
namespace Go.Proofs.YthhgfhdmfhnklaaGreatDoor
open Go.RowKit Go.ChangeShapes Go.WideShapes

/-- a block of integers -/
theorem row_intsV {w : World} {g : Nat} {l : List Nat} {T : TypeId} (h : w.heap[g]? = some (.cells (ivals (nints l)).toArray T)) (hl : ∀ j, gd l j ≤ 1000000) (hm : l.length ≤ 1000000) : IntsV w (.slice (some ⟨g, 0, none⟩) l.length l.length) (nints l) := by
  refine ⟨_, l.length, by rw [nints_length], by rw [nints_length]; exact Nat.le_refl _, by omega, fun h => (by cases h), ?_, nints_lt hl⟩
  intro b off s hs
  cases hs
  have hg : g < w.heap.size := (Array.getElem?_eq_some_iff.1 h).1
  refine ⟨fun _ => ⟨hg, rfl⟩, fun j x hj => ?_⟩
  rw [Nat.zero_add, cell_of_row w g j _ T (0, 0) h]
  simpa using ivals_at hj
theorem own_row {w : World} {B n : Nat} {e : TypeId} {xs : List Value} {g : Nat} (h : w.ownsRow B e 1 (.slice (some ⟨g, 0, none⟩) n n) n xs) : ∃ T, w.heap[g]? = some (.cells xs.toArray T) := by
  rcases h.2 with ⟨h1, _⟩ | ⟨g', cap, cur, h1, _, hh, _, _, hs, ht⟩
  · cases h1
  · cases h1
    refine ⟨e, ?_⟩
    rw [hh, ← ht, List.take_of_length_le (by rw [Array.length_toList]; omega)]
set_option maxRecDepth 100000 in
set_option maxHeartbeats 4000000 in
theorem rof_any (V : Nat) (ao : Option Addr) (m c : Nat) (T : Int) (R : List Nat) (vv : Value) (y n A : Nat) (w : World) (hv : IntsV w vv (nints R)) (hV : V ≤ 24) (hR : R.length ≤ 128) (hy : y < 16777216) (hn : n < 16777216) (hA : A < V + R.length) :
    Calls Tryz.prog 118 #[.agg #[.int .i64 V, .slice ao m c, .int .i64 T], vv, .agg #[.int .i64 (y : Nat), .int .i64 (n : Nat)], .int .i64 (A : Nat)] w (RetV w (.int .i64 (gd (valsE V y n ++ R) A : Nat))) := by
  obtain ⟨av, cv, rfl, hcv, hcv2, hcv3⟩ := hv.shape
  rw [nints_length] at hcv hv ⊢
  obtain ⟨W, hW⟩ : ∃ W, W = (w.alloc (.cells #[.int .i64 V, .slice ao m c, .int .i64 T] 24)).alloc (.cells #[.int .i64 (y : Nat), .int .i64 (n : Nat)] 46) := ⟨_, rfl⟩
  have hbW : Below w.heap.size w W := by rw [hW]; exact ((Below.refl _ _).alloc (Nat.le_refl _) _).alloc (by simp) _
  have hg1 : W.heap[w.heap.size]? = some (.cells #[.int .i64 V, .slice ao m c, .int .i64 T] 24) := by rw [hW]; exact heap_alloc2_old w _ _
  have hg2 : W.heap[w.heap.size + 1]? = some (.cells #[.int .i64 (y : Nat), .int .i64 (n : Nat)] 46) := by rw [hW]; exact heap_alloc2_new w _ _
  obtain ⟨g1, hG1⟩ : ∃ g, g = w.heap.size := ⟨_, rfl⟩
  obtain ⟨g2, hG2⟩ : ∃ g, g = w.heap.size + 1 := ⟨_, rfl⟩
  rw [← hG1] at hg1; rw [← hG2] at hg2
  obtain ⟨x0, x1, x2⟩ := row3 hg1
  obtain ⟨y0, y1⟩ := row2c hg2
  have HV := Lib.hid (hv.below hbW); have HBW := Lib.hid hbW; clear hv hbW hg1 hg2
  rw [hW, hG1] at x0 x1 x2
  rw [hW, hG2] at y0 y1
  obtain ⟨ys, y1', yt, hY⟩ := bit_parts (x := y) (i := A) (by omega)
  obtain ⟨ns, n1, nt, hN⟩ := bit_parts (x := n) (i := A) (by omega)
  obtain ⟨q1, q2, q3, q4⟩ := hY
  obtain ⟨r1, r2, r3, r4⟩ := hN
  by_cases h : A < V
  · have h' : (A : Int) < (V : Int) := by omega
    have hval : gd (valsE V y n ++ R) A = ev3 y n A := by
      rw [gd_append, valsE_length, if_pos h, valsE_gd, if_pos h]
    rw [hval]; unfold ev3; rw [q4, r4]
    cases yt
    · cases nt
      · go_enter Tryz.func118, Tryz.ntmps118
        go_wp2_with fail
        rw [← hW]
        go_ret
        exact ⟨rfl, HBW.out⟩
      · go_enter Tryz.func118, Tryz.ntmps118
        go_wp2_with fail
        rw [← hW]
        go_ret
        exact ⟨rfl, HBW.out⟩
    · go_enter Tryz.func118, Tryz.ntmps118
      go_wp2_with fail
      rw [← hW]
      go_ret
      exact ⟨rfl, HBW.out⟩
  · have h' : (V : Int) ≤ (A : Int) := by omega
    have hval : gd (valsE V y n ++ R) A = gd R (A - V) := by
      rw [gd_append, valsE_length, if_neg h]
    rw [hval]
    obtain ⟨b, off, rfl, hb, hlen, hat⟩ := HV.out.at (by omega)
    have ca := hat (A - V) _ (nints_at (by omega))
    have hs : (A : Int) - (V : Int) = ((A - V : Nat) : Int) := by omega
    rw [hW] at ca
    have hDl : ((A - V : Nat) : Int) < (R.length : Int) := by omega
    go_enter Tryz.func118, Tryz.ntmps118
    go_wp2_with fail
    rw [← hW]
    go_ret
    exact ⟨rfl, HBW.out⟩
end Go.Proofs.YthhgfhdmfhnklaaGreatDoor
/-
  Values of the reference of ternary values.
  Conditions: each theorem's own.
-/
namespace Go.Proofs.YthhgfhdmfhnklaaGreatDoor
open Go.RowKit Go.ChangeShapes Go.WideShapes

theorem putL_30 {w : World} {g : Nat} {x0 x1 x2 y : Value} {T : TypeId} (h : w.heap[g]? = some (.cells #[x0, x1, x2] T)) : (putL w g 0 [y]).heap[g]? = some (.cells #[y, x1, x2] T) := by
  simp [putL, World.setCell, Array.getElem?_modify, h]
theorem putL_31 {w : World} {g : Nat} {x0 x1 x2 y : Value} {T : TypeId} (h : w.heap[g]? = some (.cells #[x0, x1, x2] T)) : (putL w g 1 [y]).heap[g]? = some (.cells #[x0, y, x2] T) := by
  simp [putL, World.setCell, Array.getElem?_modify, h]
theorem putL_32 {w : World} {g : Nat} {x0 x1 x2 y : Value} {T : TypeId} (h : w.heap[g]? = some (.cells #[x0, x1, x2] T)) : (putL w g 2 [y]).heap[g]? = some (.cells #[x0, x1, y] T) := by
  simp [putL, World.setCell, Array.getElem?_modify, h]
theorem putL_row {w : World} {g j : Nat} {l : List Nat} {T : TypeId} (h : w.heap[g]? = some (.cells (ivals (nints l)).toArray T)) (x : Nat) : (putL w g j [.int .i64 (x : Int)]).heap[g]? = some (.cells (ivals (nints (l.set j x))).toArray T) := by
  simp [putL, World.setCell, Array.getElem?_modify, h, ivals, nints, List.map_set]
/-- the row of values, so far -/
def refRow (V y n : Nat) (ns : List Nd) (j : Nat) : List Nat := (valsN (valsE V y n) (ns.take j)).drop V ++ List.replicate (ns.length - j) 0
theorem refRow_length (V y n : Nat) (ns : List Nd) (j : Nat) (hj : j ≤ ns.length) : (refRow V y n ns j).length = ns.length := by
  unfold refRow; simp only [List.length_append, List.length_drop, valsN_length, valsE_length, List.length_take, List.length_replicate]; omega
theorem refRow_zero (V y n : Nat) (ns : List Nd) : refRow V y n ns 0 = List.replicate ns.length 0 := by
  unfold refRow; rw [List.take_zero]; simp [valsN, valsE_length]
theorem refRow_full (V y n : Nat) (ns : List Nd) : refRow V y n ns ns.length = (valsN (valsE V y n) ns).drop V := by
  unfold refRow; rw [List.take_length]; simp
theorem valsN_split (V y n : Nat) (l : List Nd) : valsE V y n ++ (valsN (valsE V y n) l).drop V = valsN (valsE V y n) l := by
  apply List.ext_getElem?
  intro i
  by_cases h : i < V
  · rw [List.getElem?_append_left (by rw [valsE_length]; exact h)]
    have h1 := valsN_pre l (valsE V y n) i (by rw [valsE_length]; exact h)
    have hl : i < (valsN (valsE V y n) l).length := by rw [valsN_length, valsE_length]; omega
    rw [gd_lt _ _ hl, gd_lt _ _ (by rw [valsE_length]; exact h)] at h1
    rw [List.getElem?_eq_getElem hl, List.getElem?_eq_getElem (by rw [valsE_length]; exact h), h1]
  · rw [List.getElem?_append_right (by rw [valsE_length]; omega), valsE_length, List.getElem?_drop]
    congr 1; omega
theorem refRow_gd {V y n : Nat} {ns : List Nd} {j A : Nat} (hj : j ≤ ns.length) (hA : A < V + j) : gd (valsE V y n ++ refRow V y n ns j) A = gd (valsN (valsE V y n) (ns.take j)) A := by
  unfold refRow
  rw [← List.append_assoc, valsN_split, gd_append, if_pos (by rw [valsN_length, valsE_length, List.length_take]; omega)]
theorem refRow_step {V y n : Nat} {ns : List Nd} {j nx : Nat} {vs : List Nat} (hj : j < ns.length) (h : valsN (valsE V y n) (ns.take (j + 1)) = vs ++ [nx]) (hvs : vs = valsN (valsE V y n) (ns.take j)) : refRow V y n ns (j + 1) = (refRow V y n ns j).set j nx := by
  have hl : (vs.drop V).length = j := by rw [hvs, List.length_drop, valsN_length, valsE_length, List.length_take]; omega
  have hl2 : V ≤ vs.length := by rw [hvs, valsN_length, valsE_length]; omega
  unfold refRow
  rw [h, ← hvs, List.set_append, if_neg (by omega), hl, Nat.sub_self, List.drop_append_of_le_length hl2, show ns.length - j = (ns.length - (j + 1)) + 1 by omega, List.replicate_succ, List.set_cons_zero]
  simp
theorem refRow_le {V y n : Nat} {ns : List Nd} {j : Nat} (h : ∀ k, gd (valsN (valsE V y n) (ns.take j)) k ≤ 2) (i : Nat) : gd (refRow V y n ns j) i ≤ 1000000 := by
  unfold refRow
  rw [gd_append]
  split
  · have := h (V + i)
    unfold gd at this ⊢
    rw [List.getD_eq_getElem?_getD, List.getElem?_drop, ← List.getD_eq_getElem?_getD]; omega
  · unfold gd; rw [List.getD_eq_getElem?_getD, List.getElem?_replicate]; split <;> simp

set_option maxRecDepth 100000 in
set_option maxHeartbeats 4000000 in
theorem rvalues_any (vf : Value) (f : Fm) (y n : Nat) (w : World) (hf : FmV w vf f) (h0 : fmErr f = 0) (hcu : CubeOK f.vars y n) :
    Calls Tryz.prog 119 #[vf, .agg #[.int .i64 (y : Nat), .int .i64 (n : Nat)]] w (RetInts w (nints ((valsF f y n).drop f.vars.toNat))) := by
  obtain ⟨vb, yb⟩ := hcu.small
  obtain ⟨p0, p1, p2, p3⟩ := fmErr_parts h0
  obtain ⟨nv, rfl, hn, hv, ht⟩ := hf
  obtain ⟨ao, c, rfl, hc, hc2, _⟩ := hn.shape
  obtain ⟨v, ns, top⟩ := f
  simp only at hv hc ht hn p0 p1 p2 p3 ⊢
  obtain ⟨V, rfl⟩ : ∃ V : Nat, v = V := ⟨v.toNat, by omega⟩
  have HN := Lib.hid hn; clear hn
  have HP := Lib.hid p3; clear p3 hcu h0 ht hv
  have p2' : (ns.length : Int) ≤ 128 := by omega
  obtain ⟨W, hW⟩ : ∃ W, W = (w.alloc (.cells #[.int .i64 V, .slice ao ns.length c, .int .i64 top] 24)).alloc (.cells #[.int .i64 (y : Nat), .int .i64 (n : Nat)] 46) := ⟨_, rfl⟩
  have hbW : Below w.heap.size w W := by rw [hW]; exact ((Below.refl _ _).alloc (Nat.le_refl _) _).alloc (by simp) _
  have hg1 : W.heap[w.heap.size]? = some (.cells #[.int .i64 V, .slice ao ns.length c, .int .i64 top] 24) := by rw [hW]; exact heap_alloc2_old w _ _
  have hg2 : W.heap[w.heap.size + 1]? = some (.cells #[.int .i64 (y : Nat), .int .i64 (n : Nat)] 46) := by rw [hW]; exact heap_alloc2_new w _ _
  obtain ⟨g1, hG1⟩ : ∃ g, g = w.heap.size := ⟨_, rfl⟩
  obtain ⟨g2, hG2⟩ : ∃ g, g = w.heap.size + 1 := ⟨_, rfl⟩
  rw [← hG1] at hg1; rw [← hG2] at hg2
  have G1 := Lib.hid hg1; have G2 := Lib.hid hg2; clear hg1 hg2
  have HBW := Lib.hid hbW; clear hbW
  obtain ⟨x0, x1, x2⟩ := row3 G1.out
  go_enter Tryz.func119, Tryz.ntmps119
  go_wp2_with (with_reducible refine wpList_pauseM ?_)
  rw [← hW, ← hG2, ← hG1]
  clear hW hG1 hG2
  refine wpList_makeF W.heap.size Tryz.intTy rfl ns.length rfl rfl (by omega) (by omega) (by omega) (by decide) (Nat.le_refl _) ?_
  intro w1 ho1 hgr1
  have hb1 : Below W.heap.size W w1 := (Below.refl _ _).grown hgr1 (Nat.le_refl _) (fun k hk => by cases hk)
  obtain ⟨g5, hG5⟩ : ∃ g, g = W.heap.size := ⟨_, rfl⟩
  rw [← hG5] at ho1 ⊢
  obtain ⟨T5, hg5⟩ := own_row ho1
  have l5 : W.heap.size ≤ g5 := by omega
  clear hgr1 x0 x1 x2 ho1
  have HG5 := Lib.hid (show w1.heap[g5]? = some (.cells (ivals (nints (refRow V y n ns 0))).toArray T5) by rw [hg5, refRow_zero]; simp [ivals, nints])
  have HB1 := Lib.hid hb1; clear hb1 hg5 hG5
  obtain ⟨x0, x1, x2⟩ := row3 (heap_below G1.out HB1.out)
  go_wp2_with fail
  clear x0 x1 x2
  go_loopw [19] (fun i' wx => ∃ j : Nat, j ≤ ns.length ∧ i' = .int .i64 j ∧ Hid (Below W.heap.size W wx) ∧ Hid (wx.heap[g5]? = some (.cells (ivals (nints (refRow V y n ns j))).toArray T5))) (fun i' _ => ns.length - (intOf i').toNat)
  case atStart => exact ⟨0, Nat.zero_le _, rfl, HB1, HG5⟩
  case round =>
    obtain ⟨j, hj, rfl, HBX, G5⟩ := hrel
    obtain ⟨wo, rfl⟩ : ∃ wo : World, wo = wr := ⟨_, rfl⟩
    have HBV := Lib.hid (HBW.out.trans (HBX.out.mono HBW.out.size))
    by_cases hlt : j < ns.length
    · have hj' := hlt
      obtain ⟨x, hx⟩ : ∃ x, ns[j]? = some x := ⟨ns[j], List.getElem?_eq_getElem hlt⟩
      obtain ⟨b, off, rfl, hb, _, hat⟩ := (HN.out.below HBV.out).at (by omega)
      obtain ⟨c0, c1, ⟨av, c2, hI⟩, hk, hK⟩ := hat j x hx
      clear hat
      have he := ndsErr_at ns 0 HP.out j x hx
      rw [Nat.zero_add] at he
      have hle := fun k => valsN_le (ns.take j) 0 (valsE V y n) (ndsOK_take ns 0 j HP.out) (fun k => by rw [valsE_gd]; split <;> first | exact ev3_le _ _ _ | omega) k
      have hlen : (valsN (valsE V y n) (ns.take j)).length = V + j := by rw [valsN_length, valsE_length, List.length_take]; omega
      have hnext := valsN_take hx (valsE V y n)
      have RGD := Lib.hid (fun A (h : A < V + j) => refRow_gd (V := V) (y := y) (n := n) (ns := ns) hj h)
      have RLE := Lib.hid (refRow_le (V := V) (y := y) (n := n) (ns := ns) (j := j) hle)
      obtain ⟨vs, hvs⟩ : ∃ vs, vs = valsN (valsE V y n) (ns.take j) := ⟨_, rfl⟩
      rw [← hvs] at hle hlen hnext RGD
      have HNX := Lib.hid hnext; have HLE := Lib.hid hle; have HLN := Lib.hid hlen; clear hnext hle hlen
      have hvs := Lib.hid hvs
      have HX := Lib.hid hx; clear hx
      have ha16 := nd_16 he
      have HARG := Lib.hid (ndErr_arg he)
      have HE := Lib.hid he; clear he
      obtain ⟨kind, K, args⟩ := x
      simp only at c0 c1 c2 hI hk hK ha16 HARG
      obtain ⟨ao', c', rfl, hc', hc2', _⟩ := hI.shape
      have HI := Lib.hid hI; clear hI
      have HK := Lib.hid (And.intro hk hK); clear hk hK
      have hltz : (j : Int) < (ns.length : Int) := by omega
      obtain ⟨x0, x1, x2⟩ := row3 (heap_below G1.out HBX.out)
      go_wp2_with (with_reducible first | refine pauseLoop ?_ | refine pauseRounds ?_)
      clear x0 x1 x2 c0 c1 c2
      refine Pause.mk ?_
      obtain ⟨W3, hW3⟩ : ∃ W3, W3 = (wo.alloc (.cells #[.int .i64 kind, .int .i64 K, .slice ao' args.length c'] 82)).alloc (.cells #[.int .i64 0, .int .i64 0, .int .i64 0] 200) := ⟨_, rfl⟩
      have hb3 : Below wo.heap.size wo W3 := by rw [hW3]; exact ((Below.refl _ _).alloc (Nat.le_refl _) _).alloc (by simp) _
      have hg7 : W3.heap[wo.heap.size]? = some (.cells #[.int .i64 kind, .int .i64 K, .slice ao' args.length c'] 82) := by rw [hW3]; exact heap_alloc2_old wo _ _
      have hg8 : W3.heap[wo.heap.size + 1]? = some (.cells #[.int .i64 ((0 : Nat) : Int), .int .i64 ((0 : Nat) : Int), .int .i64 ((0 : Nat) : Int)] 200) := by rw [hW3]; exact heap_alloc2_new wo _ _
      rw [← hW3]; clear hW3
      obtain ⟨g8, hG8⟩ : ∃ g, g = wo.heap.size + 1 := ⟨_, rfl⟩
      obtain ⟨g7, hG7⟩ : ∃ g, g = wo.heap.size := ⟨_, rfl⟩
      rw [← hG8] at hg8 ⊢; rw [← hG7] at hg7 ⊢
      have l8 : wo.heap.size ≤ g8 := by omega
      have n78 : g7 ≠ g8 := by omega
      clear hG7 hG8
      have HB3 := Lib.hid hb3; have HG7 := Lib.hid hg7; have HG8 := Lib.hid hg8; clear hb3 hg7 hg8
      go_loopw [28] (fun i' wx => ∃ k n0 n1 n2 : Nat, k ≤ args.length ∧ i' = .int .i64 k ∧ n0 ≤ k ∧ n1 ≤ k ∧ n2 ≤ k ∧ n0 + n1 + n2 = k ∧ Hid (Below wo.heap.size wo wx) ∧ Hid (wx.heap[g7]? = some (.cells #[.int .i64 kind, .int .i64 K, .slice ao' args.length c'] 82)) ∧ Hid (wx.heap[g8]? = some (.cells #[.int .i64 ((n0 : Nat) : Int), .int .i64 ((n1 : Nat) : Int), .int .i64 ((n2 : Nat) : Int)] 200)) ∧ Hid (n0 = cntV vs (args.take k) 0 ∧ n1 = cntV vs (args.take k) 1 ∧ n2 = cntV vs (args.take k) 2)) (fun i' _ => args.length - (intOf i').toNat)
      case atStart => exact ⟨0, 0, 0, 0, Nat.zero_le _, rfl, Nat.le_refl _, Nat.le_refl _, Nat.le_refl _, rfl, HB3, HG7, HG8, Lib.hid ⟨rfl, rfl, rfl⟩⟩
      case round =>
        obtain ⟨k, n0, n1, n2, hk, rfl, q0, q1, q2, qs, HBO, G7, G8, CN⟩ := hrel
        obtain ⟨wi, rfl⟩ : ∃ wi : World, wi = wr := ⟨_, rfl⟩
        have HBY := Lib.hid (HBX.out.trans (HBO.out.mono HBX.out.size))
        have HBE := Lib.hid (HBW.out.trans (HBY.out.mono HBW.out.size))
        have G5 := Lib.hid (heap_below G5.out HBO.out)
        by_cases hlk : k < args.length
        · obtain ⟨ba, offa, rfl, hba, _, hata⟩ := (HI.out.below HBO.out).at (by omega)
          obtain ⟨a, hqa⟩ : ∃ a, args[k]? = some a := ⟨args[k], List.getElem?_eq_getElem hlk⟩
          have ca := hata k a hqa
          clear hata
          have hla := HARG.out a (List.mem_of_getElem? hqa)
          obtain ⟨A, rfl⟩ : ∃ A : Nat, a = A := ⟨a.toNat, by omega⟩
          have hAl : A < V + j := by omega
          have hx2 := HLE.out A
          have hlk' : (k : Int) < (args.length : Int) := by omega
          have S := fun z => cntV_snoc vs (args.take k) (A : Int) z
          rw [← take_snoc hqa] at S
          rw [Int.toNat_natCast] at S
          have hIV := row_intsV G5.out RLE.out (by rw [refRow_length _ _ _ _ _ hj]; omega)
          rw [refRow_length _ _ _ _ _ hj] at hIV
          have HC := Lib.hid (rof_any V (some ⟨b, off, none⟩) ns.length c top (refRow V y n ns j) _ y n A wi hIV (by omega) (by rw [refRow_length _ _ _ _ _ hj]; omega) vb yb (by rw [refRow_length _ _ _ _ _ hj]; omega))
          rw [RGD.out A hAl] at HC
          clear hIV
          obtain ⟨xv, hxv⟩ : ∃ xv, xv = gd vs A := ⟨_, rfl⟩
          rw [← hxv] at HC hx2 S
          have SS := Lib.hid S; clear S hqa hxv
          obtain ⟨x0, x1, x2⟩ := row3 (heap_below G1.out HBY.out)
          obtain ⟨y0, y1⟩ := row2c (heap_below G2.out HBY.out)
          go_wp2_with (with_reducible refine pauseCall ?_)
          clear x0 x1 x2 y0 y1 ca
          refine Pause.mk ?_
          (with_reducible refine HC.out.mono ?_); rintro e w2 ⟨rfl, hb2⟩
          have HBO := Lib.hid (HBO.out.trans (hb2.mono HBO.out.size))
          have G7 := Lib.hid (heap_below G7.out hb2); have G8 := Lib.hid (heap_below G8.out hb2)
          clear hb2 HC
          obtain ⟨z0, z1, z2⟩ := row3 G8.out
          have h3 : xv = 0 ∨ xv = 1 ∨ xv = 2 := by omega
          rcases h3 with rfl | rfl | rfl
          · go_wp2_with (with_reducible refine wpList_pauseS ?_)
            refine wpList_st1 g8 0 ((n0 : Int) + 1) G8.out rfl rfl (by simp) (by kernel_rfl) ?_
            intro w3 hp3
            have HB3 := Lib.hid (putLb hp3 HBO.out l8)
            have G73 := Lib.hid (putLx hp3 G7.out n78)
            have G83 := Lib.hid (show w3.heap[g8]? = some (.cells #[.int .i64 ((n0 + 1 : Nat) : Int), .int .i64 ((n1 : Nat) : Int), .int .i64 ((n2 : Nat) : Int)] 200) by rw [hp3]; exact putL_30 G8.out)
            clear hp3
            go_wp2_with fail
            go_roundw
            case rel => exact ⟨k + 1, n0 + 1, n1, n2, by omega, by go_num, by omega, by omega, by omega, by omega, HB3, G73, G83, Lib.hid ⟨by rw [SS.out, CN.out.1]; rfl, by rw [SS.out, CN.out.2.1]; rfl, by rw [SS.out, CN.out.2.2]; rfl⟩⟩
            case measure => simp [intOf]; omega
          · go_wp2_with (with_reducible refine wpList_pauseS ?_)
            refine wpList_st1 g8 1 ((n1 : Int) + 1) G8.out rfl rfl (by simp) (by kernel_rfl) ?_
            intro w3 hp3
            have HB3 := Lib.hid (putLb hp3 HBO.out l8)
            have G73 := Lib.hid (putLx hp3 G7.out n78)
            have G83 := Lib.hid (show w3.heap[g8]? = some (.cells #[.int .i64 ((n0 : Nat) : Int), .int .i64 ((n1 + 1 : Nat) : Int), .int .i64 ((n2 : Nat) : Int)] 200) by rw [hp3]; exact putL_31 G8.out)
            clear hp3
            go_wp2_with fail
            go_roundw
            case rel => exact ⟨k + 1, n0, n1 + 1, n2, by omega, by go_num, by omega, by omega, by omega, by omega, HB3, G73, G83, Lib.hid ⟨by rw [SS.out, CN.out.1]; rfl, by rw [SS.out, CN.out.2.1]; rfl, by rw [SS.out, CN.out.2.2]; rfl⟩⟩
            case measure => simp [intOf]; omega
          · go_wp2_with (with_reducible refine wpList_pauseS ?_)
            refine wpList_st1 g8 2 ((n2 : Int) + 1) G8.out rfl rfl (by simp) (by kernel_rfl) ?_
            intro w3 hp3
            have HB3 := Lib.hid (putLb hp3 HBO.out l8)
            have G73 := Lib.hid (putLx hp3 G7.out n78)
            have G83 := Lib.hid (show w3.heap[g8]? = some (.cells #[.int .i64 ((n0 : Nat) : Int), .int .i64 ((n1 : Nat) : Int), .int .i64 ((n2 + 1 : Nat) : Int)] 200) by rw [hp3]; exact putL_32 G8.out)
            clear hp3
            go_wp2_with fail
            go_roundw
            case rel => exact ⟨k + 1, n0, n1, n2 + 1, by omega, by go_num, by omega, by omega, by omega, by omega, HB3, G73, G83, Lib.hid ⟨by rw [SS.out, CN.out.1]; rfl, by rw [SS.out, CN.out.2.1]; rfl, by rw [SS.out, CN.out.2.2]; rfl⟩⟩
            case measure => simp [intOf]; omega
        · have hk' : k = args.length := by omega
          subst hk'
          have CN := Lib.hid CN.out
          rw [List.take_length] at CN
          obtain ⟨x0, x1, x2⟩ := row3 G7.out
          obtain ⟨z0, z1, z2⟩ := row3 G8.out
          have h7 : ¬ (kind < 0 ∨ 5 < kind) := fun h => by have h0 := HE.out; unfold ndErr at h0; rw [if_pos h] at h0; cases h0
          have hK0 := ndErr_K HE.out
          have HKK := HK.out
          unfold I64 at HKK
          simp only at h7 hK0
          obtain ⟨nx, hnx⟩ : ∃ nx, nx = ndVal ⟨kind, K, args⟩ n0 n1 n2 := ⟨_, rfl⟩
          have HNX2 := Lib.hid (show valsN (valsE V y n) (ns.take (j + 1)) = vs ++ [nx] by rw [HNX.out, hnx, CN.out.1, CN.out.2.1, CN.out.2.2])
          have HX2 := Lib.hid hnx; clear hnx
          clear CN
          have hkk : kind = 0 ∨ kind = 1 ∨ kind = 2 ∨ kind = 3 ∨ kind = 4 ∨ kind = 5 := by omega
          rcases hkk with rfl | rfl | rfl | rfl | rfl | rfl
          · skip
            have hKz := Lib.hid (hK0 rfl); clear hK0 h7
            go_wp2_with (with_reducible refine pauseCall ?_)
            refine Pause.mk ?_
            (with_reducible refine (truth_any _ _ _).mono ?_); rintro e w1 ⟨rfl, rfl⟩
            go_wp2_with (with_reducible refine wpList_pauseS ?_)
            refine wpList_st1 g5 j (nx : Nat) G5.out (by rfl) ?hy (by rw [List.size_toArray, ivals_length, nints_length, refRow_length _ _ _ _ _ hj]; omega) (by kernel_rfl) ?_
            case hy =>
              refine congrArg (fun n : Nat => Value.int .i64 (n : Int)) ?_
              rw [HX2.out]
              rcases hKz.out with rfl | rfl <;> rfl
            intro w5 hp5
            have HB5 := Lib.hid (putLb hp5 HBY.out l5)
            have G55 := Lib.hid (show w5.heap[g5]? = some (.cells (ivals (nints (refRow V y n ns (j + 1)))).toArray T5) by rw [hp5, refRow_step hj' HNX2.out hvs.out]; exact putL_row G5.out _)
            clear hp5
            go_wp2_with fail
            go_roundw
            case rel => exact ⟨j + 1, by omega, by go_num, HB5, G55⟩
            case measure => simp [intOf]; omega
          · skip
            clear hK0 h7
            go_wp2_with (with_reducible refine pauseCall ?_)
            refine Pause.mk ?_
            (with_reducible refine (truth_any _ _ _).mono ?_); rintro e w1 ⟨rfl, rfl⟩
            go_wp2_with (with_reducible refine wpList_pauseS ?_)
            refine wpList_st1 g5 j (nx : Nat) G5.out (by rfl) ?hy (by rw [List.size_toArray, ivals_length, nints_length, refRow_length _ _ _ _ _ hj]; omega) (by kernel_rfl) ?_
            case hy =>
              refine congrArg (fun n : Nat => Value.int .i64 (n : Int)) ?_
              rw [HX2.out]
              refine (lev_congr ?_ ?_)
              · first | (rw [Bool.eq_iff_iff]; simp; done) | (rw [Bool.eq_iff_iff]; simp; omega) | rw [Bool.eq_iff_iff]
              · first | (rw [Bool.eq_iff_iff]; simp; done) | (rw [Bool.eq_iff_iff]; simp; omega) | rw [Bool.eq_iff_iff]
            intro w5 hp5
            have HB5 := Lib.hid (putLb hp5 HBY.out l5)
            have G55 := Lib.hid (show w5.heap[g5]? = some (.cells (ivals (nints (refRow V y n ns (j + 1)))).toArray T5) by rw [hp5, refRow_step hj' HNX2.out hvs.out]; exact putL_row G5.out _)
            clear hp5
            go_wp2_with fail
            go_roundw
            case rel => exact ⟨j + 1, by omega, by go_num, HB5, G55⟩
            case measure => simp [intOf]; omega
          · skip
            clear hK0 h7
            go_wp2_with (with_reducible refine pauseCall ?_)
            refine Pause.mk ?_
            (with_reducible refine (truth_any _ _ _).mono ?_); rintro e w1 ⟨rfl, rfl⟩
            go_wp2_with (with_reducible refine wpList_pauseS ?_)
            refine wpList_st1 g5 j (nx : Nat) G5.out (by rfl) ?hy (by rw [List.size_toArray, ivals_length, nints_length, refRow_length _ _ _ _ _ hj]; omega) (by kernel_rfl) ?_
            case hy =>
              refine congrArg (fun n : Nat => Value.int .i64 (n : Int)) ?_
              rw [HX2.out]
              refine (lev_congr ?_ ?_)
              · first | (rw [Bool.eq_iff_iff]; simp; done) | (rw [Bool.eq_iff_iff]; simp; omega) | rw [Bool.eq_iff_iff]
              · first | (rw [Bool.eq_iff_iff]; simp; done) | (rw [Bool.eq_iff_iff]; simp; omega) | rw [Bool.eq_iff_iff]
            intro w5 hp5
            have HB5 := Lib.hid (putLb hp5 HBY.out l5)
            have G55 := Lib.hid (show w5.heap[g5]? = some (.cells (ivals (nints (refRow V y n ns (j + 1)))).toArray T5) by rw [hp5, refRow_step hj' HNX2.out hvs.out]; exact putL_row G5.out _)
            clear hp5
            go_wp2_with fail
            go_roundw
            case rel => exact ⟨j + 1, by omega, by go_num, HB5, G55⟩
            case measure => simp [intOf]; omega
          · skip
            clear hK0 h7
            go_wp2_with (with_reducible refine pauseCall ?_)
            refine Pause.mk ?_
            (with_reducible refine (truth_any _ _ _).mono ?_); rintro e w1 ⟨rfl, rfl⟩
            go_wp2_with (with_reducible refine wpList_pauseS ?_)
            refine wpList_st1 g5 j (nx : Nat) G5.out (by rfl) ?hy (by rw [List.size_toArray, ivals_length, nints_length, refRow_length _ _ _ _ _ hj]; omega) (by kernel_rfl) ?_
            case hy =>
              refine congrArg (fun n : Nat => Value.int .i64 (n : Int)) ?_
              rw [HX2.out]
              refine (lev_congr ?_ ?_)
              · first | (rw [Bool.eq_iff_iff]; simp; done) | (rw [Bool.eq_iff_iff]; simp; omega) | rw [Bool.eq_iff_iff]
              · first | (rw [Bool.eq_iff_iff]; simp; done) | (rw [Bool.eq_iff_iff]; simp; omega) | rw [Bool.eq_iff_iff]
            intro w5 hp5
            have HB5 := Lib.hid (putLb hp5 HBY.out l5)
            have G55 := Lib.hid (show w5.heap[g5]? = some (.cells (ivals (nints (refRow V y n ns (j + 1)))).toArray T5) by rw [hp5, refRow_step hj' HNX2.out hvs.out]; exact putL_row G5.out _)
            clear hp5
            go_wp2_with fail
            go_roundw
            case rel => exact ⟨j + 1, by omega, by go_num, HB5, G55⟩
            case measure => simp [intOf]; omega
          · skip
            clear hK0 h7
            go_wp2_with (with_reducible refine pauseCall ?_)
            refine Pause.mk ?_
            (with_reducible refine (truth_any _ _ _).mono ?_); rintro e w1 ⟨rfl, rfl⟩
            go_wp2_with (with_reducible refine wpList_pauseS ?_)
            refine wpList_st1 g5 j (nx : Nat) G5.out (by rfl) ?hy (by rw [List.size_toArray, ivals_length, nints_length, refRow_length _ _ _ _ _ hj]; omega) (by kernel_rfl) ?_
            case hy =>
              refine congrArg (fun n : Nat => Value.int .i64 (n : Int)) ?_
              rw [HX2.out]
              refine (lev_congr ?_ ?_)
              · first | (rw [Bool.eq_iff_iff]; simp; done) | (rw [Bool.eq_iff_iff]; simp; omega) | rw [Bool.eq_iff_iff]
              · first | (rw [Bool.eq_iff_iff]; simp; done) | (rw [Bool.eq_iff_iff]; simp; omega) | rw [Bool.eq_iff_iff]
            intro w5 hp5
            have HB5 := Lib.hid (putLb hp5 HBY.out l5)
            have G55 := Lib.hid (show w5.heap[g5]? = some (.cells (ivals (nints (refRow V y n ns (j + 1)))).toArray T5) by rw [hp5, refRow_step hj' HNX2.out hvs.out]; exact putL_row G5.out _)
            clear hp5
            go_wp2_with fail
            go_roundw
            case rel => exact ⟨j + 1, by omega, by go_num, HB5, G55⟩
            case measure => simp [intOf]; omega
          · clear hK0 h7
            have m0 : decide ((((n1 : Nat) : Int).tmod 2) = 1) = decide (n1 % 2 = 1) := by rw [Int.tmod_eq_emod_of_nonneg (by omega), Bool.eq_iff_iff]; simp; omega
            by_cases e2 : n2 = 0
            · subst e2
              go_wp2_with (with_reducible refine pauseCall ?_)
              refine Pause.mk ?_
              (with_reducible refine (truth_any _ _ _).mono ?_); rintro e w1 ⟨rfl, rfl⟩
              go_wp2_with (with_reducible refine wpList_pauseS ?_)
              refine wpList_st1 g5 j (nx : Nat) G5.out (by rfl) ?hy (by rw [List.size_toArray, ivals_length, nints_length, refRow_length _ _ _ _ _ hj]; omega) (by kernel_rfl) ?_
              case hy =>
                refine congrArg (fun n : Nat => Value.int .i64 (n : Int)) ?_
                rw [HX2.out]
                rw [ndVal_5 rfl]
                unfold lev
                rcases Nat.mod_two_eq_zero_or_one n1 with h | h <;> first | (simp [m0, h]; done) | (simp [h]; done) | (simp [m0, h]; omega)
              intro w5 hp5
              have HB5 := Lib.hid (putLb hp5 HBY.out l5)
              have G55 := Lib.hid (show w5.heap[g5]? = some (.cells (ivals (nints (refRow V y n ns (j + 1)))).toArray T5) by rw [hp5, refRow_step hj' HNX2.out hvs.out]; exact putL_row G5.out _)
              clear hp5
              go_wp2_with fail
              go_roundw
              case rel => exact ⟨j + 1, by omega, by go_num, HB5, G55⟩
              case measure => simp [intOf]; omega
            · have e2' : ¬ ((n2 : Nat) : Int) = 0 := by omega
              go_wp2_with (with_reducible refine pauseCall ?_)
              refine Pause.mk ?_
              (with_reducible refine (truth_any _ _ _).mono ?_); rintro e w1 ⟨rfl, rfl⟩
              go_wp2_with (with_reducible refine wpList_pauseS ?_)
              refine wpList_st1 g5 j (nx : Nat) G5.out (by rfl) ?hy (by rw [List.size_toArray, ivals_length, nints_length, refRow_length _ _ _ _ _ hj]; omega) (by kernel_rfl) ?_
              case hy =>
                refine congrArg (fun n : Nat => Value.int .i64 (n : Int)) ?_
                rw [HX2.out]
                rw [ndVal_5 rfl]
                refine (lev_congr ?_ ?_)
                · first | (rw [Bool.eq_iff_iff]; simp; done) | (rw [Bool.eq_iff_iff]; simp; omega) | rw [Bool.eq_iff_iff]
                · first | (rw [Bool.eq_iff_iff]; simp; done) | (rw [Bool.eq_iff_iff]; simp; omega) | rw [Bool.eq_iff_iff]
              intro w5 hp5
              have HB5 := Lib.hid (putLb hp5 HBY.out l5)
              have G55 := Lib.hid (show w5.heap[g5]? = some (.cells (ivals (nints (refRow V y n ns (j + 1)))).toArray T5) by rw [hp5, refRow_step hj' HNX2.out hvs.out]; exact putL_row G5.out _)
              clear hp5
              go_wp2_with fail
              go_roundw
              case rel => exact ⟨j + 1, by omega, by go_num, HB5, G55⟩
              case measure => simp [intOf]; omega
    · have hj' : j = ns.length := by omega
      subst hj'
      have hle := fun k => valsN_le (ns.take ns.length) 0 (valsE V y n) (ndsOK_take ns 0 ns.length HP.out) (fun k => by rw [valsE_gd]; split <;> first | exact ev3_le _ _ _ | omega) k
      have hIV := row_intsV G5.out (refRow_le (V := V) (y := y) (n := n) (ns := ns) hle) (by rw [refRow_length _ _ _ _ _ hj]; omega)
      rw [refRow_length _ _ _ _ _ hj, refRow_full] at hIV
      have HIV := Lib.hid hIV; clear hIV hle
      go_wp2_with fail
      go_ret
      exact ⟨_, rfl, HBV.out, HIV.out⟩
end Go.Proofs.YthhgfhdmfhnklaaGreatDoor
/-
  Value of the reference of ternary values.
  Conditions: each theorem's own.
-/
namespace Go.Proofs.YthhgfhdmfhnklaaGreatDoor
open Go.RowKit Go.ChangeShapes Go.WideShapes

set_option maxRecDepth 100000 in
set_option maxHeartbeats 4000000 in
theorem rvalue_any (vf : Value) (f : Fm) (y n : Nat) (w : World) (hf : FmV w vf f) (h0 : fmErr f = 0) (hcu : CubeOK f.vars y n) :
    Calls Tryz.prog 79 #[vf, .agg #[.int .i64 (y : Nat), .int .i64 (n : Nat)]] w (RetV w (.int .i64 (fmVal f y n : Nat))) := by
  obtain ⟨vb, yb⟩ := hcu.small
  obtain ⟨p0, p1, p2, p3⟩ := fmErr_parts h0
  have htop := fmErr_top h0
  obtain ⟨nv, rfl, hn, hv, ht⟩ := hf
  obtain ⟨ao, c, rfl, hc, hc2, _⟩ := hn.shape
  have hF := (show FmV w _ f from ⟨_, rfl, hn, hv, ht⟩)
  obtain ⟨v, ns, top⟩ := f
  simp only at hv hc ht hn p0 p1 p2 p3 htop ⊢
  obtain ⟨V, rfl⟩ : ∃ V : Nat, v = V := ⟨v.toNat, by omega⟩
  obtain ⟨T, rfl⟩ : ∃ T : Nat, top = T := ⟨top.toNat, by omega⟩
  have HF := Lib.hid hF; have HC := Lib.hid hcu; have E0 := Lib.hid h0
  have hT : T < V + ns.length := by omega
  obtain ⟨R, hR⟩ : ∃ R, R = (valsF ⟨V, ns, T⟩ y n).drop (V : Int).toNat := ⟨_, rfl⟩
  obtain ⟨fv, hfv⟩ : ∃ fv, fv = fmVal ⟨V, ns, T⟩ y n := ⟨_, rfl⟩
  have HV := Lib.hid (show gd (valsE V y n ++ R) T = fv by
    rw [hfv, hR]; unfold fmVal valsF; simp only [Int.toNat_natCast]; rw [valsN_split])
  have HL := Lib.hid (show R.length = ns.length by rw [hR, List.length_drop, valsF_length]; simp only [Int.toNat_natCast]; omega)
  have HR := Lib.hid hR
  rw [← hfv]
  clear hF hcu h0 p3 hv ht htop hn p0 hfv hR
  obtain ⟨W, hW⟩ : ∃ W, W = (w.alloc (.cells #[.int .i64 V, .slice ao ns.length c, .int .i64 T] 24)).alloc (.cells #[.int .i64 (y : Nat), .int .i64 (n : Nat)] 46) := ⟨_, rfl⟩
  have hbW : Below w.heap.size w W := by rw [hW]; exact ((Below.refl _ _).alloc (Nat.le_refl _) _).alloc (by simp) _
  have hg1 : W.heap[w.heap.size]? = some (.cells #[.int .i64 V, .slice ao ns.length c, .int .i64 T] 24) := by rw [hW]; exact heap_alloc2_old w _ _
  have hg2 : W.heap[w.heap.size + 1]? = some (.cells #[.int .i64 (y : Nat), .int .i64 (n : Nat)] 46) := by rw [hW]; exact heap_alloc2_new w _ _
  obtain ⟨g1, hG1⟩ : ∃ g, g = w.heap.size := ⟨_, rfl⟩
  obtain ⟨g2, hG2⟩ : ∃ g, g = w.heap.size + 1 := ⟨_, rfl⟩
  rw [← hG1] at hg1; rw [← hG2] at hg2
  have HBW := Lib.hid hbW; have G1 := Lib.hid hg1; have G2 := Lib.hid hg2; clear hbW hg1 hg2
  go_enter Tryz.func79, Tryz.ntmps79
  go_wp2_with (with_reducible first | refine pauseCall ?_ | refine pauseLoop ?_ | refine pauseDraw ?_ | refine pauseBody ?_ | refine pauseRounds ?_)
  rw [← hW]; clear hW
  rw [← hG2, ← hG1]; clear hG1 hG2
  refine Pause.mk ?_
  refine wp_region_facts (A := ?aaR9) (w := W) 8 [] (by kernel_rfl) (Fl [KEq (.agg #[.int .i64 V, .slice ao ns.length c, .int .i64 T]), KEq (.agg #[.int .i64 V, .slice ao ns.length c, .int .i64 T]), KEq (.agg #[.int .i64 (y : Nat), .int .i64 (n : Nat)]), KIV (nints R), KEq (.agg #[.int .i64 (y : Nat), .int .i64 (n : Nat)]), KEq (.pointer (some ⟨g1, 2, none⟩)), KEq (.int .i64 (T : Nat)), KEq (.int .i64 (fv : Nat))]) (fun i => false) (by kernel_rfl) ?hqR9 (monoL (monoC (kEq _) (monoC (kEq _) (monoC (kEq _) (monoC (kIV _) (monoC (kEq _) (monoC (kEq _) (monoC (kEq _) (monoC (kEq _) monoN))))))))) ?haR9 ?stR9 ?tlR9
  case hqR9 =>
    intro c a d v w h
    first | (simp only [Exit.then] at h ⊢; exact h) | (simp only [Exit.inBlock, Exit.then] at h ⊢; exact h) | exact h
  case haR9 =>
    intro vals
    simp only [putsTo, dstOf, if_true, Act.put, List.setIfInBounds_toArray, List.set_cons_zero, List.set_cons_succ, List.getElem?_toArray, List.getElem?_cons_zero, List.getElem?_cons_succ, Option.bind_some]
    exact rfl
  case stR9 =>
    simp only [List.take_succ_cons, List.take_zero]
    refine stepsOK_cons rfl rfl ?_ (stepsOK_cons rfl rfl ?_ (stepsOK_cons rfl rfl ?_ (stepsOK_cons rfl rfl ?_ (stepsOK_cons rfl rfl ?_ (stepsOK_cons rfl rfl ?_ (stepsOK_cons rfl rfl ?_ (stepsOK_cons rfl rfl ?_ (stepsOK_nil))))))))
    · intro vals w1 hb hd
      obtain ⟨e0, e1, e2⟩ := row3 (heap_below G1.out hb)
      refine stepOK_value (v := .agg #[.int .i64 V, .slice ao ns.length c, .int .i64 T]) (w' := w1) (by go_simp) (leaves_mk (Below.refl _ _) rfl (fun h => by cases h))
    · intro vals w1 hb hd
      obtain ⟨e0, e1, e2⟩ := row3 (heap_below G1.out hb)
      refine stepOK_value (v := .agg #[.int .i64 V, .slice ao ns.length c, .int .i64 T]) (w' := w1) (by go_simp) (leaves_mk (Below.refl _ _) rfl (fun h => by cases h))
    · intro vals w1 hb hd
      obtain ⟨e0, e1⟩ := row2c (heap_below G2.out hb)
      refine stepOK_value (v := .agg #[.int .i64 (y : Nat), .int .i64 (n : Nat)]) (w' := w1) (by go_simp) (leaves_mk (Below.refl _ _) rfl (fun h => by cases h))
    · intro vals w1 hb hd
      have d1 : KEq (.agg #[.int .i64 V, .slice ao ns.length c, .int .i64 T]) (vals 1) w1 := hd 1 (by kernel_rfl)
      have d2 : KEq (.agg #[.int .i64 (y : Nat), .int .i64 (n : Nat)]) (vals 2) w1 := hd 2 (by kernel_rfl)
      have HS := Lib.hid (rvalues_any _ ⟨V, ns, T⟩ y n w1 (HF.out.below (HBW.out.step hb)) E0.out HC.out)
      have z1 : vals 1 = _ := d1
      rw [z1]; clear z1
      have z2 : vals 2 = _ := d2
      rw [z2]; clear z2
      refine stepOK_call (by go_simp; first | done | exact ⟨⟨rfl, rfl⟩, rfl⟩) ?_
      (with_reducible refine HS.out.mono ?_); rintro e w2 ⟨v, rfl, hb2, hn⟩
      exact ⟨_, rfl, leaves_mk hb2 (by rw [HR.out]; exact hn) (fun h => by cases h)⟩
    · intro vals w1 hb hd
      obtain ⟨e0, e1⟩ := row2c (heap_below G2.out hb)
      refine stepOK_value (v := .agg #[.int .i64 (y : Nat), .int .i64 (n : Nat)]) (w' := w1) (by go_simp) (leaves_mk (Below.refl _ _) rfl (fun h => by cases h))
    · intro vals w1 hb hd
      refine stepOK_value (v := .pointer (some ⟨g1, 2, none⟩)) (w' := w1) (by go_simp) (leaves_mk (Below.refl _ _) rfl (fun h => by cases h))
    · intro vals w1 hb hd
      have d5 : KEq (.pointer (some ⟨g1, 2, none⟩)) (vals 5) w1 := hd 5 (by kernel_rfl)
      obtain ⟨e0, e1, e2⟩ := row3 (heap_below G1.out hb)
      rw [show vals 5 = _ from d5]
      refine stepOK_value (v := .int .i64 (T : Nat)) (w' := w1) (by go_simp) (leaves_mk (Below.refl _ _) rfl (fun h => by cases h))
    · intro vals w1 hb hd
      have d0 : KEq (.agg #[.int .i64 V, .slice ao ns.length c, .int .i64 T]) (vals 0) w1 := hd 0 (by kernel_rfl)
      have d3 : KIV (nints R) (vals 3) w1 := hd 3 (by kernel_rfl)
      have d4 : KEq (.agg #[.int .i64 (y : Nat), .int .i64 (n : Nat)]) (vals 4) w1 := hd 4 (by kernel_rfl)
      have d6 : KEq (.int .i64 (T : Nat)) (vals 6) w1 := hd 6 (by kernel_rfl)
      have HS := Lib.hid (rof_any V ao ns.length c (T : Nat) R (vals 3) y n T w1 d3 (by omega) (by rw [HL.out]; omega) vb yb (by rw [HL.out]; exact hT))
      have z0 : vals 0 = _ := d0
      rw [z0]; clear z0
      have z4 : vals 4 = _ := d4
      rw [z4]; clear z4
      have z6 : vals 6 = _ := d6
      rw [z6]; clear z6
      refine stepOK_call (by go_simp; first | done | exact ⟨⟨rfl, rfl⟩, rfl⟩) ?_
      (with_reducible refine HS.out.mono ?_); rintro e w2 ⟨rfl, hb2⟩
      exact ⟨_, rfl, leaves_mk hb2 (congrArg (fun n : Nat => Value.int .i64 (n : Int)) HV.out) (fun h => by cases h)⟩
  case tlR9 =>
    intro vals w2 hb2 hf hdis
    simp only [List.drop_succ_cons, List.drop_zero]
    have z7 : vals 7 = _ := hf 7 (by decide)
    rw [z7]
    clear z7 hf hdis
    have HB2 := Lib.hid (HBW.out.trans (hb2.mono HBW.out.size))
    go_wp2_with fail
    go_ret
    exact ⟨rfl, HB2.out⟩
end Go.Proofs.YthhgfhdmfhnklaaGreatDoor
/-
  The reference's below: the leaves of a tree.
  Conditions: each theorem's own.
-/
namespace Go.Proofs.YthhgfhdmfhnklaaGreatDoor
open Go.RowKit Go.ChangeShapes Go.WideShapes

/-- leaves in blocks of the call's own -/
def RetLfO (w : World) (L : List Lf) (e : Ending) (w' : World) : Prop := ∃ v', e = .returned v' ∧ Below w.heap.size w w' ∧ w'.ownsRow w.heap.size 48 3 v' L.length (lfCells L)

set_option maxRecDepth 100000 in
set_option maxHeartbeats 8000000 in
theorem rbelow_any (V : Nat) (hV : V ≤ 24) : ∀ (N : Nat) (t : Tr), SizeOf.sizeOf t < N → ∀ (x : Value) (y n above : Nat) (w : World), TrV w x t → trOK V t above → y < 16777216 → n < 16777216 → trLvs t ≤ 1000000 →
    Calls Tryz.prog 78 #[x, .agg #[.int .i64 (y : Nat), .int .i64 (n : Nat)]] w (RetLfO w (trLeaves t y n))
  | 0, _, h, _, _, _, _, _, _, _, _, _, _ => by omega
  | N + 1, .mk vv0 [] r, hN, x, y, n, above, w, ht, hok, hy, hn, hlen => by
    obtain ⟨ao, c, rfl, hks, hc1, hc2, hv, hr⟩ := ht.open
    simp only [List.length_nil] at hks hc1 ⊢
    obtain ⟨W, hW⟩ : ∃ W, W = (w.alloc (.cells #[.int .i64 vv0, .slice ao 0 c, .int .i64 r] 27)).alloc (.cells #[.int .i64 (y : Nat), .int .i64 (n : Nat)] 46) := ⟨_, rfl⟩
    have hbW : Below w.heap.size w W := by rw [hW]; exact ((Below.refl _ _).alloc (Nat.le_refl _) _).alloc (by simp) _
    have hB1 : W.heap[w.heap.size]? = some (.cells #[.int .i64 vv0, .slice ao 0 c, .int .i64 r] 27) := by rw [hW]; exact heap_alloc2_old w _ _
    have hB2 : W.heap[w.heap.size + 1]? = some (.cells #[.int .i64 (y : Nat), .int .i64 (n : Nat)] 46) := by rw [hW]; exact heap_alloc2_new w _ _
    obtain ⟨b1, hb1⟩ : ∃ g, g = w.heap.size := ⟨_, rfl⟩
    obtain ⟨b2, hb2⟩ : ∃ g, g = w.heap.size + 1 := ⟨_, rfl⟩
    rw [← hb1] at hB1; rw [← hb2] at hB2
    have ho := World.ownsRow_lit (base := w.heap.size) (size := 3) (e := 48) W #[.int .i64 (y : Nat), .int .i64 (n : Nat), .int .i64 r] 1 hbW.size (by decide) rfl
    rw [show W.heap.size = w.heap.size + 1 + 1 by rw [hW]; simp] at ho
    have hb3 : Below w.heap.size w (W.alloc (.cells #[.int .i64 (y : Nat), .int .i64 (n : Nat), .int .i64 r] 48)) := hbW.alloc hbW.size _
    have HO := Lib.hid ho; have HB3 := Lib.hid hb3
    obtain ⟨x0, x1, x2⟩ := row3 hB1
    clear ho hb3 hB1 hB2 hbW hks ht hok hb1 hb2
    rw [hW] at x0 x1 x2
    go_enter Tryz.func78, Tryz.ntmps78
    go_wp2_with fail
    clear x0 x1 x2
    go_ret
    exact ⟨_, rfl, by rw [hW] at HB3; exact HB3.out, by rw [show trLeaves (.mk vv0 [] r) y n = [⟨y, n, r⟩] by simp [trLeaves], lfCells_one]; rw [hW] at HO; exact HO.out⟩
  | N + 1, .mk v0 [a, b] r, hN, x, y, n, above, w, ht, hok, hy, hn, hlen => by
    simp only [trOK] at hok
    obtain ⟨q0, q1, q2, rfl, hoa, hob⟩ := hok
    obtain ⟨vn, rfl⟩ : ∃ vn : Nat, v0 = vn := ⟨v0.toNat, by omega⟩
    rw [Int.toNat_natCast] at hoa hob
    have hvn : vn < V := by omega
    obtain ⟨ao, c, rfl, hks, hc1, hc2, _, _⟩ := ht.open
    simp only [List.length_cons, List.length_nil] at hks hc1 ⊢
    obtain ⟨bk, ok, rfl, hbk, hjk, hat⟩ := hks.at (by decide); clear hjk hks ht
    obtain ⟨kva, kra, kaa, kna, kca, ca0, ca1, ca2, hTVa⟩ := (hat 0 a rfl).val
    obtain ⟨kvb, krb, kab, knb, kcb, cb0, cb1, cb2, hTVb⟩ := (hat 1 b rfl).val
    simp only [Nat.zero_mul, Nat.add_zero, Nat.one_mul] at ca0 ca1 ca2 cb0 cb1 cb2
    have hsa : SizeOf.sizeOf a < N := by have := sizeOf_kid (v := (vn : Int)) (r := 0) (ks := [a, b]) (k := a) (by simp); omega
    have hsb : SizeOf.sizeOf b < N := by have := sizeOf_kid (v := (vn : Int)) (r := 0) (ks := [a, b]) (k := b) (by simp); omega
    have KA := Lib.hid (And.intro ca0 (And.intro ca1 ca2)); have KB := Lib.hid (And.intro cb0 (And.intro cb1 cb2))
    have HTA := Lib.hid hTVa; have HTB := Lib.hid hTVb; have HSA := Lib.hid hsa; have HSB := Lib.hid hsb; have HOA := Lib.hid hoa; have HOB := Lib.hid hob
    clear ca0 ca1 ca2 cb0 cb1 cb2 hat hTVa hTVb hsa hsb hoa hob q0 q1 q2
    obtain ⟨P2, hP2⟩ : ∃ P : Nat, P = 2 ^ vn := ⟨_, rfl⟩
    have hp24 : P2 < 16777216 := by rw [hP2]; exact pow_l24 (by omega)
    have DP := Lib.hid (show IntKind.wrap .i64 (2 ^ vn) = (P2 : Int) by rw [shl_one (by omega), hP2])
    obtain ⟨nb, hnb⟩ : ∃ nb, nb = n ||| 1 <<< vn := ⟨_, rfl⟩
    obtain ⟨yb, hyb⟩ : ∃ yb, yb = y ||| 1 <<< vn := ⟨_, rfl⟩
    have hnb3 : nb = n ||| P2 := by rw [hnb, hP2, Nat.one_shiftLeft]
    have hyb3 : yb = y ||| P2 := by rw [hyb, hP2, Nat.one_shiftLeft]
    have HNB := Lib.hid (show nb < 16777216 by rw [hnb3]; exact Nat.or_lt_two_pow (n := 24) (by omega) (by omega))
    have HYB := Lib.hid (show yb < 16777216 by rw [hyb3]; exact Nat.or_lt_two_pow (n := 24) (by omega) (by omega))
    have DN := Lib.hid (show bits .or .i64 (n : Int) (P2 : Int) = (nb : Int) by rw [bits_or (by omega) (by omega), hnb3])
    have DY := Lib.hid (show bits .or .i64 (y : Int) (P2 : Int) = (yb : Int) by rw [bits_or (by omega) (by omega), hyb3])
    have TL := Lib.hid (show trLeaves (.mk (vn : Nat) [a, b] 0) y n = trLeaves a y nb ++ trLeaves b yb n by rw [hnb, hyb]; rfl)
    clear hP2 hnb hyb hnb3 hyb3
    simp only [trLvs] at hlen
    obtain ⟨W, hW⟩ : ∃ W, W = (w.alloc (.cells #[.int .i64 vn, .slice (some ⟨bk, ok, none⟩) 2 c, .int .i64 0] 27)).alloc (.cells #[.int .i64 (y : Nat), .int .i64 (n : Nat)] 46) := ⟨_, rfl⟩
    have hbW : Below w.heap.size w W := by rw [hW]; exact ((Below.refl _ _).alloc (Nat.le_refl _) _).alloc (by simp) _
    have hB1 : W.heap[w.heap.size]? = some (.cells #[.int .i64 vn, .slice (some ⟨bk, ok, none⟩) 2 c, .int .i64 0] 27) := by rw [hW]; exact heap_alloc2_old w _ _
    have hB2 : W.heap[w.heap.size + 1]? = some (.cells #[.int .i64 (y : Nat), .int .i64 (n : Nat)] 46) := by rw [hW]; exact heap_alloc2_new w _ _
    obtain ⟨b1, hb1⟩ : ∃ g, g = w.heap.size := ⟨_, rfl⟩
    obtain ⟨b2, hb2⟩ : ∃ g, g = w.heap.size + 1 := ⟨_, rfl⟩
    rw [← hb1] at hB1; rw [← hb2] at hB2
    have HB := Lib.hid hbW; have B1 := Lib.hid hB1; have B2 := Lib.hid hB2
    clear hbW hB1 hB2
    obtain ⟨x0, x1, x2⟩ := row3 B1.out
    rw [hW, hb1] at x0 x1 x2
    go_enter Tryz.func78, Tryz.ntmps78
    go_wp2_with (with_reducible first | refine pauseCall ?_ | refine pauseLoop ?_ | refine pauseDraw ?_ | refine pauseBody ?_ | refine pauseRounds ?_)
    rw [← hW, ← hb2, ← hb1]
    clear hW hb1 hb2 x0 x1 x2
    refine Pause.mk ?_
    refine wp_region_facts (A := ?aa3) (w := W) 13 [] (by kernel_rfl) (Fl [KEq (.pointer (some ⟨b1, 1, none⟩)), KEq (.slice (some ⟨bk, ok, none⟩) 2 c), KEq (.pointer (some ⟨bk, ok, none⟩)), KEq (.agg #[.int .i64 kva, .slice kaa kna kca, .int .i64 kra]), KEq (.pointer (some ⟨b2, 0, none⟩)), KEq (.int .i64 (y : Nat)), KEq (.pointer (some ⟨b2, 1, none⟩)), KEq (.int .i64 (n : Nat)), KEq (.pointer (some ⟨b1, 0, none⟩)), KEq (.int .i64 (vn : Nat)), KEq (.int .i64 (P2 : Nat)), KEq (.int .i64 (nb : Nat)), KEq (.agg #[.int .i64 (y : Nat), .int .i64 (nb : Nat)])]) (fun i => false) (by kernel_rfl) ?hq3 (monoL (monoC (kEq _) (monoC (kEq _) (monoC (kEq _) (monoC (kEq _) (monoC (kEq _) (monoC (kEq _) (monoC (kEq _) (monoC (kEq _) (monoC (kEq _) (monoC (kEq _) (monoC (kEq _) (monoC (kEq _) (monoC (kEq _) monoN)))))))))))))) ?ha3 ?st3 ?tl3
    case hq3 =>
      intro c a d v w h
      first | (simp only [Exit.then] at h ⊢; exact h) | (simp only [Exit.inBlock, Exit.then] at h ⊢; exact h) | exact h
    case ha3 =>
      intro vals
      simp only [putsTo, dstOf, if_true, Act.put, List.setIfInBounds_toArray, List.set_cons_zero, List.set_cons_succ, List.getElem?_toArray, List.getElem?_cons_zero, List.getElem?_cons_succ, Option.bind_some]
      exact rfl
    case st3 =>
      simp only [List.take_succ_cons, List.take_zero]
      refine stepsOK_cons rfl rfl ?_ (stepsOK_cons rfl rfl ?_ (stepsOK_cons rfl rfl ?_ (stepsOK_cons rfl rfl ?_ (stepsOK_cons rfl rfl ?_ (stepsOK_cons rfl rfl ?_ (stepsOK_cons rfl rfl ?_ (stepsOK_cons rfl rfl ?_ (stepsOK_cons rfl rfl ?_ (stepsOK_cons rfl rfl ?_ (stepsOK_cons rfl rfl ?_ (stepsOK_cons rfl rfl ?_ (stepsOK_cons rfl rfl ?_ (stepsOK_nil)))))))))))))
      · intro vals w1 hb hd
        refine stepOK_value (v := .pointer (some ⟨b1, 1, none⟩)) (w' := w1) (by go_simp) (leaves_mk (Below.refl _ _) rfl (fun h => by cases h))
      · intro vals w1 hb hd
        have d0 : KEq (.pointer (some ⟨b1, 1, none⟩)) (vals 0) w1 := hd 0 (by kernel_rfl)
        obtain ⟨e0, e1, e2⟩ := row3 (heap_below B1.out hb)
        rw [show vals 0 = _ from d0]
        refine stepOK_value (v := .slice (some ⟨bk, ok, none⟩) 2 c) (w' := w1) (by go_simp) (leaves_mk (Below.refl _ _) rfl (fun h => by cases h))
      · intro vals w1 hb hd
        have d1 : KEq (.slice (some ⟨bk, ok, none⟩) 2 c) (vals 1) w1 := hd 1 (by kernel_rfl)
        rw [show vals 1 = _ from d1]
        refine stepOK_value (v := .pointer (some ⟨bk, ok, none⟩)) (w' := w1) (by go_simp) (leaves_mk (Below.refl _ _) rfl (fun h => by cases h))
      · intro vals w1 hb hd
        have d2 : KEq (.pointer (some ⟨bk, ok, none⟩)) (vals 2) w1 := hd 2 (by kernel_rfl)
        have hbx := HB.out.trans (hb.mono HB.out.size)
        have k0 := (hbx.cell (p := ⟨bk, _, none⟩) hbk).trans KA.out.1
        have k1 := (hbx.cell (p := ⟨bk, _, none⟩) hbk).trans KA.out.2.1
        have k2 := (hbx.cell (p := ⟨bk, _, none⟩) hbk).trans KA.out.2.2
        rw [show vals 2 = _ from d2]
        refine stepOK_value (v := .agg #[.int .i64 kva, .slice kaa kna kca, .int .i64 kra]) (w' := w1) (by go_simp) (leaves_mk (Below.refl _ _) rfl (fun h => by cases h))
      · intro vals w1 hb hd
        refine stepOK_value (v := .pointer (some ⟨b2, 0, none⟩)) (w' := w1) (by go_simp) (leaves_mk (Below.refl _ _) rfl (fun h => by cases h))
      · intro vals w1 hb hd
        have d4 : KEq (.pointer (some ⟨b2, 0, none⟩)) (vals 4) w1 := hd 4 (by kernel_rfl)
        obtain ⟨e0, e1⟩ := row2c (heap_below B2.out hb)
        rw [show vals 4 = _ from d4]
        refine stepOK_value (v := .int .i64 (y : Nat)) (w' := w1) (by go_simp) (leaves_mk (Below.refl _ _) rfl (fun h => by cases h))
      · intro vals w1 hb hd
        refine stepOK_value (v := .pointer (some ⟨b2, 1, none⟩)) (w' := w1) (by go_simp) (leaves_mk (Below.refl _ _) rfl (fun h => by cases h))
      · intro vals w1 hb hd
        have d6 : KEq (.pointer (some ⟨b2, 1, none⟩)) (vals 6) w1 := hd 6 (by kernel_rfl)
        obtain ⟨e0, e1⟩ := row2c (heap_below B2.out hb)
        rw [show vals 6 = _ from d6]
        refine stepOK_value (v := .int .i64 (n : Nat)) (w' := w1) (by go_simp) (leaves_mk (Below.refl _ _) rfl (fun h => by cases h))
      · intro vals w1 hb hd
        refine stepOK_value (v := .pointer (some ⟨b1, 0, none⟩)) (w' := w1) (by go_simp) (leaves_mk (Below.refl _ _) rfl (fun h => by cases h))
      · intro vals w1 hb hd
        have d8 : KEq (.pointer (some ⟨b1, 0, none⟩)) (vals 8) w1 := hd 8 (by kernel_rfl)
        obtain ⟨e0, e1, e2⟩ := row3 (heap_below B1.out hb)
        rw [show vals 8 = _ from d8]
        refine stepOK_value (v := .int .i64 (vn : Nat)) (w' := w1) (by go_simp) (leaves_mk (Below.refl _ _) rfl (fun h => by cases h))
      · intro vals w1 hb hd
        have d9 : KEq (.int .i64 (vn : Nat)) (vals 9) w1 := hd 9 (by kernel_rfl)
        rw [show vals 9 = _ from d9]
        refine stepOK_value (v := .int .i64 (P2 : Nat)) (w' := w1) (by go_simp; first | done | exact DP.out) (leaves_mk (Below.refl _ _) rfl (fun h => by cases h))
      · intro vals w1 hb hd
        have d7 : KEq (.int .i64 (n : Nat)) (vals 7) w1 := hd 7 (by kernel_rfl)
        have d10 : KEq (.int .i64 (P2 : Nat)) (vals 10) w1 := hd 10 (by kernel_rfl)
        rw [show vals 7 = _ from d7]
        rw [show vals 10 = _ from d10]
        refine stepOK_value (v := .int .i64 (nb : Nat)) (w' := w1) (by go_simp; first | done | exact DN.out) (leaves_mk (Below.refl _ _) rfl (fun h => by cases h))
      · intro vals w1 hb hd
        have d5 : KEq (.int .i64 (y : Nat)) (vals 5) w1 := hd 5 (by kernel_rfl)
        have d11 : KEq (.int .i64 (nb : Nat)) (vals 11) w1 := hd 11 (by kernel_rfl)
        rw [show vals 5 = _ from d5]
        rw [show vals 11 = _ from d11]
        refine stepOK_value (v := .agg #[.int .i64 (y : Nat), .int .i64 (nb : Nat)]) (w' := w1) (by go_simp) (leaves_mk (Below.refl _ _) rfl (fun h => by cases h))
    case tl3 =>
      intro vals w2 hb2 hf hdis
      simp only [List.drop_succ_cons, List.drop_zero]
      have z3 : vals 3 = _ := hf 3 (by decide)
      have z12 : vals 12 = _ := hf 12 (by decide)
      rw [z3, z12]
      clear z3 z12 hf hdis
      have HB := Lib.hid (HB.out.trans (hb2.mono HB.out.size)); have B1 := Lib.hid (heap_below B1.out hb2); have B2 := Lib.hid (heap_below B2.out hb2)
      clear hb2
      have HK := Lib.hid (rbelow_any V hV N a HSA.out _ y nb _ w2 (HTA.out.below HB.out) HOA.out hy HNB.out (by omega))
      go_wp2_with (with_reducible refine pauseCall ?_)
      refine Pause.mk ?_
      (with_reducible refine HK.out.mono ?_); rintro e w3 ⟨v1, rfl, hb3, ho1⟩
      have HO := Lib.hid (own_base ho1 HB.out.size)
      have HB := Lib.hid (HB.out.trans (hb3.mono HB.out.size)); have B1 := Lib.hid (heap_below B1.out hb3); have B2 := Lib.hid (heap_below B2.out hb3)
      clear ho1 hb3 HK
      go_wp2_with (with_reducible first | refine pauseCall ?_ | refine pauseLoop ?_ | refine pauseDraw ?_ | refine pauseBody ?_ | refine pauseRounds ?_)
      refine Pause.mk ?_
      refine wp_region_facts (A := ?aa4) (w := w3) 13 [] (by kernel_rfl) (Fl [KEq (.pointer (some ⟨b1, 1, none⟩)), KEq (.slice (some ⟨bk, ok, none⟩) 2 c), KEq (.pointer (some ⟨bk, ok + 3, none⟩)), KEq (.agg #[.int .i64 kvb, .slice kab knb kcb, .int .i64 krb]), KEq (.pointer (some ⟨b2, 0, none⟩)), KEq (.int .i64 (y : Nat)), KEq (.pointer (some ⟨b1, 0, none⟩)), KEq (.int .i64 (vn : Nat)), KEq (.int .i64 (P2 : Nat)), KEq (.int .i64 (yb : Nat)), KEq (.pointer (some ⟨b2, 1, none⟩)), KEq (.int .i64 (n : Nat)), KEq (.agg #[.int .i64 (yb : Nat), .int .i64 (n : Nat)])]) (fun i => false) (by kernel_rfl) ?hq4 (monoL (monoC (kEq _) (monoC (kEq _) (monoC (kEq _) (monoC (kEq _) (monoC (kEq _) (monoC (kEq _) (monoC (kEq _) (monoC (kEq _) (monoC (kEq _) (monoC (kEq _) (monoC (kEq _) (monoC (kEq _) (monoC (kEq _) monoN)))))))))))))) ?ha4 ?st4 ?tl4
      case hq4 =>
        intro c a d v w h
        first | (simp only [Exit.then] at h ⊢; exact h) | (simp only [Exit.inBlock, Exit.then] at h ⊢; exact h) | exact h
      case ha4 =>
        intro vals
        simp only [putsTo, dstOf, if_true, Act.put, List.setIfInBounds_toArray, List.set_cons_zero, List.set_cons_succ, List.getElem?_toArray, List.getElem?_cons_zero, List.getElem?_cons_succ, Option.bind_some]
        exact rfl
      case st4 =>
        simp only [List.take_succ_cons, List.take_zero]
        refine stepsOK_cons rfl rfl ?_ (stepsOK_cons rfl rfl ?_ (stepsOK_cons rfl rfl ?_ (stepsOK_cons rfl rfl ?_ (stepsOK_cons rfl rfl ?_ (stepsOK_cons rfl rfl ?_ (stepsOK_cons rfl rfl ?_ (stepsOK_cons rfl rfl ?_ (stepsOK_cons rfl rfl ?_ (stepsOK_cons rfl rfl ?_ (stepsOK_cons rfl rfl ?_ (stepsOK_cons rfl rfl ?_ (stepsOK_cons rfl rfl ?_ (stepsOK_nil)))))))))))))
        · intro vals w1 hb hd
          refine stepOK_value (v := .pointer (some ⟨b1, 1, none⟩)) (w' := w1) (by go_simp) (leaves_mk (Below.refl _ _) rfl (fun h => by cases h))
        · intro vals w1 hb hd
          have d0 : KEq (.pointer (some ⟨b1, 1, none⟩)) (vals 0) w1 := hd 0 (by kernel_rfl)
          obtain ⟨e0, e1, e2⟩ := row3 (heap_below B1.out hb)
          rw [show vals 0 = _ from d0]
          refine stepOK_value (v := .slice (some ⟨bk, ok, none⟩) 2 c) (w' := w1) (by go_simp) (leaves_mk (Below.refl _ _) rfl (fun h => by cases h))
        · intro vals w1 hb hd
          have d1 : KEq (.slice (some ⟨bk, ok, none⟩) 2 c) (vals 1) w1 := hd 1 (by kernel_rfl)
          rw [show vals 1 = _ from d1]
          refine stepOK_value (v := .pointer (some ⟨bk, ok + 3, none⟩)) (w' := w1) (by go_simp) (leaves_mk (Below.refl _ _) rfl (fun h => by cases h))
        · intro vals w1 hb hd
          have d2 : KEq (.pointer (some ⟨bk, ok + 3, none⟩)) (vals 2) w1 := hd 2 (by kernel_rfl)
          have hbx := HB.out.trans (hb.mono HB.out.size)
          have k0 := (hbx.cell (p := ⟨bk, _, none⟩) hbk).trans KB.out.1
          have k1 := (hbx.cell (p := ⟨bk, _, none⟩) hbk).trans KB.out.2.1
          have k2 := (hbx.cell (p := ⟨bk, _, none⟩) hbk).trans KB.out.2.2
          rw [show vals 2 = _ from d2]
          refine stepOK_value (v := .agg #[.int .i64 kvb, .slice kab knb kcb, .int .i64 krb]) (w' := w1) (by go_simp) (leaves_mk (Below.refl _ _) rfl (fun h => by cases h))
        · intro vals w1 hb hd
          refine stepOK_value (v := .pointer (some ⟨b2, 0, none⟩)) (w' := w1) (by go_simp) (leaves_mk (Below.refl _ _) rfl (fun h => by cases h))
        · intro vals w1 hb hd
          have d4 : KEq (.pointer (some ⟨b2, 0, none⟩)) (vals 4) w1 := hd 4 (by kernel_rfl)
          obtain ⟨e0, e1⟩ := row2c (heap_below B2.out hb)
          rw [show vals 4 = _ from d4]
          refine stepOK_value (v := .int .i64 (y : Nat)) (w' := w1) (by go_simp) (leaves_mk (Below.refl _ _) rfl (fun h => by cases h))
        · intro vals w1 hb hd
          refine stepOK_value (v := .pointer (some ⟨b1, 0, none⟩)) (w' := w1) (by go_simp) (leaves_mk (Below.refl _ _) rfl (fun h => by cases h))
        · intro vals w1 hb hd
          have d6 : KEq (.pointer (some ⟨b1, 0, none⟩)) (vals 6) w1 := hd 6 (by kernel_rfl)
          obtain ⟨e0, e1, e2⟩ := row3 (heap_below B1.out hb)
          rw [show vals 6 = _ from d6]
          refine stepOK_value (v := .int .i64 (vn : Nat)) (w' := w1) (by go_simp) (leaves_mk (Below.refl _ _) rfl (fun h => by cases h))
        · intro vals w1 hb hd
          have d7 : KEq (.int .i64 (vn : Nat)) (vals 7) w1 := hd 7 (by kernel_rfl)
          rw [show vals 7 = _ from d7]
          refine stepOK_value (v := .int .i64 (P2 : Nat)) (w' := w1) (by go_simp; first | done | exact DP.out) (leaves_mk (Below.refl _ _) rfl (fun h => by cases h))
        · intro vals w1 hb hd
          have d5 : KEq (.int .i64 (y : Nat)) (vals 5) w1 := hd 5 (by kernel_rfl)
          have d8 : KEq (.int .i64 (P2 : Nat)) (vals 8) w1 := hd 8 (by kernel_rfl)
          rw [show vals 5 = _ from d5]
          rw [show vals 8 = _ from d8]
          refine stepOK_value (v := .int .i64 (yb : Nat)) (w' := w1) (by go_simp; first | done | exact DY.out) (leaves_mk (Below.refl _ _) rfl (fun h => by cases h))
        · intro vals w1 hb hd
          refine stepOK_value (v := .pointer (some ⟨b2, 1, none⟩)) (w' := w1) (by go_simp) (leaves_mk (Below.refl _ _) rfl (fun h => by cases h))
        · intro vals w1 hb hd
          have d10 : KEq (.pointer (some ⟨b2, 1, none⟩)) (vals 10) w1 := hd 10 (by kernel_rfl)
          obtain ⟨e0, e1⟩ := row2c (heap_below B2.out hb)
          rw [show vals 10 = _ from d10]
          refine stepOK_value (v := .int .i64 (n : Nat)) (w' := w1) (by go_simp) (leaves_mk (Below.refl _ _) rfl (fun h => by cases h))
        · intro vals w1 hb hd
          have d9 : KEq (.int .i64 (yb : Nat)) (vals 9) w1 := hd 9 (by kernel_rfl)
          have d11 : KEq (.int .i64 (n : Nat)) (vals 11) w1 := hd 11 (by kernel_rfl)
          rw [show vals 9 = _ from d9]
          rw [show vals 11 = _ from d11]
          refine stepOK_value (v := .agg #[.int .i64 (yb : Nat), .int .i64 (n : Nat)]) (w' := w1) (by go_simp) (leaves_mk (Below.refl _ _) rfl (fun h => by cases h))
      case tl4 =>
        intro vals w4 hb4 hf hdis
        simp only [List.drop_succ_cons, List.drop_zero]
        have z3 : vals 3 = _ := hf 3 (by decide)
        have z12 : vals 12 = _ := hf 12 (by decide)
        rw [z3, z12]
        clear z3 z12 hf hdis
        have HB := Lib.hid (HB.out.trans (hb4.mono HB.out.size)); have HO := Lib.hid (own_below HO.out hb4)
        clear hb4
        have HK := Lib.hid (rbelow_any V hV N b HSB.out _ yb n _ w4 (HTB.out.below HB.out) HOB.out HYB.out hn (by omega))
        go_wp2_with (with_reducible refine pauseCall ?_)
        refine Pause.mk ?_
        (with_reducible refine HK.out.mono ?_); rintro e w5 ⟨v2, rfl, hb5, ho2⟩
        have HL2 := Lib.hid (own_lfs ho2)
        have HB := Lib.hid (HB.out.trans (hb5.mono HB.out.size)); have HO := Lib.hid (own_below HO.out hb5)
        clear ho2 hb5 HK
        go_wp2_with (with_reducible refine wpList_pauseA ?_)
        refine wpList_appLs w.heap.size Tryz.leafTy rfl v1 v2 (trLeaves a y nb) (trLeaves b yb n) rfl rfl HO.out HL2.out (by rw [trLvs_length, trLvs_length]; omega) (by decide) HB.out.size ?_
        intro v' w' h1 h2
        have h3 := own_low HO.out h2 HB.out HB.out.size
        have H1 := Lib.hid h1; have H3 := Lib.hid h3
        clear h1 h2 h3
        go_wp2_with fail
        go_ret
        exact ⟨_, rfl, H3.out, by rw [TL.out]; exact H1.out⟩
  | N + 1, .mk _ [_] _, _, _, _, _, _, _, _, hok, _, _, _ => by simp only [trOK] at hok
  | N + 1, .mk _ (_ :: _ :: _ :: _) _, _, _, _, _, _, _, _, hok, _, _, _ => by simp only [trOK] at hok
end Go.Proofs.YthhgfhdmfhnklaaGreatDoor
/-
  The reference's walk and Check: the number of the error of any tree.
  Conditions: each theorem's own.
-/
namespace Go.Proofs.YthhgfhdmfhnklaaGreatDoor
open Go.RowKit Go.ChangeShapes Go.WideShapes

set_option maxRecDepth 100000 in
set_option maxHeartbeats 8000000 in
theorem rwalk_any (V : Nat) (hV : V ≤ 24) : ∀ (N : Nat) (t : Tr), SizeOf.sizeOf t < N → ∀ (x : Value) (above n : Nat) (w : World), TrV w x t → above < 16777216 → n ≤ 4096 →
    Calls Tryz.prog 63 #[x, .int .i64 (V : Nat), .int .i64 (above : Nat), .int .i64 (n : Nat)] w (RetV w (.tuple #[.int .i64 ((trErr V t above n).1 : Nat), .int .i64 ((trErr V t above n).2 : Nat)]))
  | 0, _, h, _, _, _, _, _, _, _ => by omega
  | N + 1, .mk v ks r, hN, x, above, n, w, ht, hab, hn => by
    obtain ⟨ao, c, rfl, hks, hc1, hc2, hv, hr⟩ := ht.open
    unfold I64 at hv hr
    obtain ⟨w1, hw1⟩ : ∃ w1, w1 = w.alloc (.cells #[.int .i64 v, .slice ao ks.length c, .int .i64 r] 27) := ⟨_, rfl⟩
    have hb1 : Below w.heap.size w w1 := by rw [hw1]; exact (Below.refl _ _).alloc (Nat.le_refl _) _
    have hB1 : w1.heap[w.heap.size]? = some (.cells #[.int .i64 v, .slice ao ks.length c, .int .i64 r] 27) := by rw [hw1]; exact heap_alloc_new w _
    obtain ⟨b1, hbb⟩ : ∃ b, b = w.heap.size := ⟨_, rfl⟩
    rw [← hbb] at hB1
    have HB := Lib.hid hb1; have B1 := Lib.hid hB1
    have HKS := Lib.hid hks
    clear hks hb1 ht hB1
    go_enter Tryz.func63, Tryz.ntmps63
    by_cases a1 : 4096 < n + 1
    · have R := Lib.hid (show trErr V (.mk v ks r) above n = (n + 1, 4) by unfold trErr; rw [if_pos a1])
      have a1' : (4096 : Int) < ((n : Nat) : Int) + 1 := by omega
      go_wp2_with fail
      go_ret2
      exact ⟨by rw [R.out]; rfl, by rw [hw1] at HB; exact HB.out⟩
    have A1 := Lib.hid a1
    have a1' : ((n : Nat) : Int) + 1 ≤ 4096 := by omega
    by_cases a2 : ks.length ≠ 0 ∧ ks.length ≠ 2
    · have R := Lib.hid (show trErr V (.mk v ks r) above n = (n + 1, 11) by unfold trErr; rw [if_neg A1.out, if_pos a2])
      obtain ⟨a3, a4⟩ := a2
      have a3' : ((ks.length : Int) != 0) = true := bne_iff_ne.2 (by omega)
      have a4' : ((ks.length : Int) != 2) = true := bne_iff_ne.2 (by omega)
      go_wp2_with fail
      go_ret2
      exact ⟨by rw [R.out]; rfl, by rw [hw1] at HB; exact HB.out⟩
    have A2 := Lib.hid a2
    by_cases a3 : ks.length = 0
    · have a3' : (ks.length : Int) = 0 := by omega
      by_cases a4 : v = 0
      · have R := Lib.hid (show trErr V (.mk v ks r) above n = (n + 1, 0) by unfold trErr; rw [if_neg A1.out, if_neg A2.out, if_pos a3, if_neg (by simp [a4])])
        subst a4
        go_wp2_with fail
        go_ret2
        exact ⟨by rw [R.out]; rfl, by rw [hw1, a3] at HB; exact HB.out⟩
      · have R := Lib.hid (show trErr V (.mk v ks r) above n = (n + 1, 2) by unfold trErr; rw [if_neg A1.out, if_neg A2.out, if_pos a3, if_pos a4])
        have a4' : (v != 0) = true := bne_iff_ne.2 a4
        go_wp2_with fail
        go_ret2
        exact ⟨by rw [R.out]; rfl, by rw [hw1, a3] at HB; exact HB.out⟩
    have a5 : ks.length = 2 := by omega
    rw [a5] at HKS B1 hc1 hw1
    have A3 := Lib.hid a3
    have HL := Lib.hid a5
    have TE : Hid (trErr V (.mk v ks r) above n = if v < 0 ∨ (V : Int) ≤ v then (n + 1, 3) else if above.testBit v.toNat then (n + 1, 6) else if r ≠ 0 then (n + 1, 2) else trsErr V ks (above ||| 1 <<< v.toNat) (n + 1)) := Lib.hid (by
      conv => lhs; unfold trErr
      rw [if_neg A1.out, if_neg A2.out, if_neg A3.out])
    clear a2 a3 A2 A3
    rw [a5]
    clear a5
    by_cases b1' : v < 0
    · have R := Lib.hid (show trErr V (.mk v ks r) above n = (n + 1, 3) by rw [TE.out, if_pos (.inl b1')])
      go_wp2_with fail
      go_ret2
      exact ⟨by rw [R.out]; rfl, by rw [hw1] at HB; exact HB.out⟩
    by_cases b2' : (V : Int) ≤ v
    · have R := Lib.hid (show trErr V (.mk v ks r) above n = (n + 1, 3) by rw [TE.out, if_pos (.inr b2')])
      go_wp2_with fail
      go_ret2
      exact ⟨by rw [R.out]; rfl, by rw [hw1] at HB; exact HB.out⟩
    have TE := Lib.hid (TE.out.trans (if_neg (by omega)))
    obtain ⟨vn, rfl⟩ : ∃ vn : Nat, v = vn := ⟨v.toNat, by omega⟩
    rw [Int.toNat_natCast] at TE
    have hvn : vn < V := by omega
    obtain ⟨xs, x1b, xt, hX⟩ := bit_parts (x := above) (i := vn) (by omega)
    have X1 := hX.1; have X2 := hX.2.1; have X3 := hX.2.2.1
    have hvz : (vn : Int) < (V : Int) := by omega
    clear b1' b2'
    cases xt with
    | true =>
      have R := Lib.hid (show trErr V (.mk (vn : Nat) ks r) above n = (n + 1, 6) by rw [TE.out, hX.2.2.2]; rfl)
      go_wp2_with fail
      go_ret2
      exact ⟨by rw [R.out]; rfl, by rw [hw1] at HB; exact HB.out⟩
    | false =>
      have TE := Lib.hid (TE.out.trans (if_neg (by rw [hX.2.2.2]; decide)))
      clear hX
      by_cases r0 : r ≠ 0
      · have R := Lib.hid (show trErr V (.mk (vn : Nat) ks r) above n = (n + 1, 2) by rw [TE.out, if_pos r0])
        have r0' : (r != 0) = true := bne_iff_ne.2 r0
        go_wp2_with fail
        go_ret2
        exact ⟨by rw [R.out]; rfl, by rw [hw1] at HB; exact HB.out⟩
      have r0 : r = 0 := by omega
      subst r0
      have TE := Lib.hid (TE.out.trans (if_neg (by decide)))
      obtain ⟨P2, hP2⟩ : ∃ P : Nat, P = 2 ^ vn := ⟨_, rfl⟩
      have hp24 : P2 < 16777216 := by rw [hP2]; exact pow_l24 (by omega)
      have DP := Lib.hid (show IntKind.wrap .i64 (2 ^ vn) = (P2 : Int) by rw [shl_one (by omega), hP2])
      obtain ⟨ab, hab2⟩ : ∃ ab, ab = above ||| 1 <<< vn := ⟨_, rfl⟩
      have hab3 : ab = above ||| P2 := by rw [hab2, hP2, Nat.one_shiftLeft]
      have HAB := Lib.hid (show ab < 16777216 by rw [hab3]; exact Nat.or_lt_two_pow (n := 24) (by omega) (by omega))
      have DO := Lib.hid (show bits .or .i64 (above : Int) (P2 : Int) = (ab : Int) by rw [bits_or (by omega) (by omega), hab3])
      rw [← hab2] at TE
      clear hP2 hab2 hab3
      go_wp2_with fail
      rw [← hw1, ← hbb]
      clear X1 X2 X3 hw1 hbb
      go_loopw [63, 3] (fun i' nn wx => ∃ j n' : Nat, j ≤ 2 ∧ i' = .int .i64 j ∧ nn = .int .i64 n' ∧ n' ≤ 4096 ∧ Hid (Below w1.heap.size w1 wx) ∧ Hid (trsErr V ks ab (n + 1) = trsErr V (ks.drop j) ab n')) (fun i' _ _ => 2 - (intOf i').toNat)
      case atStart => exact ⟨0, n + 1, by omega, rfl, by first | rfl | simp, by omega, Lib.hid (Below.refl _ _), Lib.hid rfl⟩
      case round =>
        obtain ⟨j, n', hj, rfl, rfl, hn', BW, TS⟩ := hrel
        obtain ⟨wo, rfl⟩ : ∃ wo : World, wo = wr := ⟨_, rfl⟩
        have HBo := Lib.hid (HB.out.trans (BW.out.mono HB.out.size))
        have B1o := Lib.hid (heap_below B1.out BW.out)
        by_cases hlt : j < 2
        · obtain ⟨t', ht'⟩ : ∃ t', ks[j]? = some t' := ⟨ks[j]'(by rw [HL.out]; exact hlt), List.getElem?_eq_getElem (by rw [HL.out]; exact hlt)⟩
          obtain ⟨bk, ok, rfl, hbk, hjk, hat⟩ := (HKS.out.below HBo.out).at (by decide); clear hjk
          obtain ⟨kv, kr, ka, kn, kc, c0, c1, c2, hTV⟩ := (hat j t' ht').val
          have hsz : SizeOf.sizeOf t' < N := by have := sizeOf_kid (v := (vn : Int)) (r := 0) (List.mem_of_getElem? ht'); omega
          have TD := Lib.hid (trsErr_drop (V := V) (ab := ab) (n := n') ht')
          have HSZ := Lib.hid hsz
          obtain ⟨w4, hw4⟩ : ∃ w4, w4 = wo.alloc (.cells #[.int .i64 kv, .slice ka kn kc, .int .i64 kr] 27) := ⟨_, rfl⟩
          have hb4 : Below wo.heap.size wo w4 := by rw [hw4]; exact (Below.refl _ _).alloc (Nat.le_refl _) _
          have HTV := Lib.hid (hTV.below hb4)
          clear hat hTV hsz ht'
          have hltz : (j : Int) < 2 := by omega
          have hB2 : w4.heap[wo.heap.size]? = some (.cells #[.int .i64 kv, .slice ka kn kc, .int .i64 kr] 27) := by rw [hw4]; exact heap_alloc_new wo _
          obtain ⟨b2, hbb⟩ : ∃ b, b = wo.heap.size := ⟨_, rfl⟩
          rw [← hbb] at hB2
          have B2 := Lib.hid hB2; have B1 := Lib.hid (heap_below B1o.out hb4)
          have HB0 := Lib.hid (HBo.out.trans (hb4.mono HBo.out.size)); have BW := Lib.hid (BW.out.trans (hb4.mono BW.out.size))
          have HB := Lib.hid (Below.refl w4.heap.size w4)
          have TC := trErr_cnt V t' ab n' hn'
          obtain ⟨m, hm⟩ : ∃ m, m = (trErr V t' ab n').1 := ⟨_, rfl⟩
          obtain ⟨ec, hec⟩ : ∃ ec, ec = (trErr V t' ab n').2 := ⟨_, rfl⟩
          have MC := Lib.hid (show Value.tuple #[.int .i64 ((trErr V t' ab n').1 : Nat), .int .i64 ((trErr V t' ab n').2 : Nat)] = .tuple #[.int .i64 (m : Nat), .int .i64 (ec : Nat)] by rw [hm, hec])
          have MM := Lib.hid (And.intro hm hec)
          rw [← hm, ← hec] at TC
          clear hB2 hb4 B1o HBo hm hec
          go_wp2_with (with_reducible first | refine pauseCall ?_ | refine pauseLoop ?_ | refine pauseDraw ?_ | refine pauseBody ?_ | refine pauseRounds ?_)
          rw [← hw4, ← hbb]
          clear hw4 hbb c0 c1 c2
          refine Pause.mk ?_
          refine wp_region_facts (A := ?aa19) (w := w4) 12 [11] (by kernel_rfl) (Fl [KEq (.agg #[.int .i64 kv, .slice ka kn kc, .int .i64 kr]), KEq (.int .i64 (V : Nat)), KEq (.int .i64 (above : Nat)), KEq (.pointer (some ⟨b1, 0, none⟩)), KEq (.int .i64 (vn : Nat)), KEq (.int .i64 (P2 : Nat)), KEq (.int .i64 (ab : Nat)), KEq ((.int .i64 (n' : Nat))), KEq (.tuple #[.int .i64 (m : Nat), .int .i64 (ec : Nat)]), KEq ((.tuple #[.int .i64 (m : Nat), .int .i64 (ec : Nat)])), KEq (.int .i64 (m : Nat)), KEq (.int .i64 (ec : Nat))]) (fun i => false) (by kernel_rfl) ?hq19 (monoL (monoC (kEq _) (monoC (kEq _) (monoC (kEq _) (monoC (kEq _) (monoC (kEq _) (monoC (kEq _) (monoC (kEq _) (monoC (kEq _) (monoC (kEq _) (monoC (kEq _) (monoC (kEq _) (monoC (kEq _) monoN))))))))))))) ?ha19 ?st19 ?tl19
          case hq19 =>
            intro c a d v w h
            first | (simp only [Exit.then] at h ⊢; exact h) | (simp only [Exit.inBlock, Exit.then] at h ⊢; exact h) | exact h
          case ha19 =>
            intro vals
            simp only [putsTo, dstOf, if_true, Act.put, List.setIfInBounds_toArray, List.set_cons_zero, List.set_cons_succ, List.getElem?_toArray, List.getElem?_cons_zero, List.getElem?_cons_succ, Option.bind_some]
            exact rfl
          case st19 =>
            simp only [List.take_succ_cons, List.take_zero]
            refine stepsOK_cons rfl rfl ?_ (stepsOK_cons rfl rfl ?_ (stepsOK_cons rfl rfl ?_ (stepsOK_cons rfl rfl ?_ (stepsOK_cons rfl rfl ?_ (stepsOK_cons rfl rfl ?_ (stepsOK_cons rfl rfl ?_ (stepsOK_cons rfl rfl ?_ (stepsOK_cons rfl rfl ?_ (stepsOK_cons rfl rfl ?_ (stepsOK_cons rfl rfl ?_ (stepsOK_pure rfl ?_ (stepsOK_nil))))))))))))
            · intro vals w1 hb hd
              obtain ⟨e0, e1, e2⟩ := row3 (heap_below B2.out hb)
              refine stepOK_value (v := .agg #[.int .i64 kv, .slice ka kn kc, .int .i64 kr]) (w' := w1) (by go_simp) (leaves_mk (Below.refl _ _) rfl (fun h => by cases h))
            · intro vals w1 hb hd
              refine stepOK_value (v := .int .i64 (V : Nat)) (w' := w1) (by go_simp) (leaves_mk (Below.refl _ _) rfl (fun h => by cases h))
            · intro vals w1 hb hd
              refine stepOK_value (v := .int .i64 (above : Nat)) (w' := w1) (by go_simp) (leaves_mk (Below.refl _ _) rfl (fun h => by cases h))
            · intro vals w1 hb hd
              refine stepOK_value (v := .pointer (some ⟨b1, 0, none⟩)) (w' := w1) (by go_simp) (leaves_mk (Below.refl _ _) rfl (fun h => by cases h))
            · intro vals w1 hb hd
              have d3 : KEq (.pointer (some ⟨b1, 0, none⟩)) (vals 3) w1 := hd 3 (by kernel_rfl)
              obtain ⟨e0, e1, e2⟩ := row3 (heap_below B1.out hb)
              rw [show vals 3 = _ from d3]
              refine stepOK_value (v := .int .i64 (vn : Nat)) (w' := w1) (by go_simp) (leaves_mk (Below.refl _ _) rfl (fun h => by cases h))
            · intro vals w1 hb hd
              have d4 : KEq (.int .i64 (vn : Nat)) (vals 4) w1 := hd 4 (by kernel_rfl)
              rw [show vals 4 = _ from d4]
              refine stepOK_value (v := .int .i64 (P2 : Nat)) (w' := w1) (by go_simp; first | done | exact DP.out) (leaves_mk (Below.refl _ _) rfl (fun h => by cases h))
            · intro vals w1 hb hd
              have d2 : KEq (.int .i64 (above : Nat)) (vals 2) w1 := hd 2 (by kernel_rfl)
              have d5 : KEq (.int .i64 (P2 : Nat)) (vals 5) w1 := hd 5 (by kernel_rfl)
              rw [show vals 2 = _ from d2]
              rw [show vals 5 = _ from d5]
              refine stepOK_value (v := .int .i64 (ab : Nat)) (w' := w1) (by go_simp; first | done | exact DO.out) (leaves_mk (Below.refl _ _) rfl (fun h => by cases h))
            · intro vals w1 hb hd
              refine stepOK_value (v := (.int .i64 (n' : Nat))) (w' := w1) (by go_simp) (leaves_mk (Below.refl _ _) rfl (fun h => by cases h))
            · intro vals w1 hb hd
              have d0 : KEq (.agg #[.int .i64 kv, .slice ka kn kc, .int .i64 kr]) (vals 0) w1 := hd 0 (by kernel_rfl)
              have d1 : KEq (.int .i64 (V : Nat)) (vals 1) w1 := hd 1 (by kernel_rfl)
              have d6 : KEq (.int .i64 (ab : Nat)) (vals 6) w1 := hd 6 (by kernel_rfl)
              have d7 : KEq ((.int .i64 (n' : Nat))) (vals 7) w1 := hd 7 (by kernel_rfl)
              have HS := Lib.hid (MC.out ▸ rwalk_any V hV N t' HSZ.out _ ab n' w1 (HTV.out.below (HB.out.step hb)) HAB.out hn')
              have z0 : vals 0 = _ := d0
              rw [z0]; clear z0
              have z1 : vals 1 = _ := d1
              rw [z1]; clear z1
              have z6 : vals 6 = _ := d6
              rw [z6]; clear z6
              have z7 : vals 7 = _ := d7
              rw [z7]; clear z7
              refine stepOK_call (by go_simp; first | done | exact ⟨⟨rfl, rfl⟩, rfl⟩) ?_
              (with_reducible refine HS.out.mono ?_); rintro e w2 ⟨rfl, hb2⟩
              exact ⟨_, rfl, leaves_mk hb2 rfl (fun h => by cases h)⟩
            · intro vals w1 hb hd
              have d8 : KEq (.tuple #[.int .i64 (m : Nat), .int .i64 (ec : Nat)]) (vals 8) w1 := hd 8 (by kernel_rfl)
              rw [show vals 8 = _ from d8]
              refine stepOK_value (v := (.tuple #[.int .i64 (m : Nat), .int .i64 (ec : Nat)])) (w' := w1) (by go_simp) (leaves_mk (Below.refl _ _) rfl (fun h => by cases h))
            · intro vals w1 hb hd
              have d9 : KEq ((.tuple #[.int .i64 (m : Nat), .int .i64 (ec : Nat)])) (vals 9) w1 := hd 9 (by kernel_rfl)
              rw [show vals 9 = _ from d9]
              refine stepOK_value (v := .int .i64 (m : Nat)) (w' := w1) (by go_simp) (leaves_mk (Below.refl _ _) rfl (fun h => by cases h))
            · intro vals w1 hb hd
              have d9 : KEq ((.tuple #[.int .i64 (m : Nat), .int .i64 (ec : Nat)])) (vals 9) w1 := hd 9 (by kernel_rfl)
              rw [show vals 9 = _ from d9]
              refine stepPure_value (v := .int .i64 (ec : Nat)) (fun w => by go_simp) (leaves_mk (Below.refl _ _) rfl (fun h => by cases h))
          case tl19 =>
              intro vals w5 hb5 hf hdis
              simp only [List.drop_succ_cons, List.drop_zero]
              have z10 : vals 10 = _ := hf 10 (by decide)
              have z11 : vals 11 = _ := hf 11 (by decide)
              rw [z10, z11]
              clear z10 z11 hf hdis
              have HB5 := Lib.hid (HB0.out.trans (hb5.mono HB0.out.size)); have BW5 := Lib.hid (BW.out.trans (hb5.mono BW.out.size))
              clear hb5
              by_cases E : ec = 0
              · have TC2 := TC.2 E
                have TS2 := Lib.hid (show trsErr V ks ab (n + 1) = trsErr V (ks.drop (j + 1)) ab m by rw [TS.out, TD.out, if_neg (by rw [← MM.out.2, E]; decide), MM.out.1])
                subst E
                clear TC
                go_wp2_with fail
                go_roundw
                case rel => exact ⟨j + 1, m, by omega, by go_num, rfl, TC2, Lib.hid BW5.out, Lib.hid TS2.out⟩
                case measure => simp [intOf]; omega
              · have R := Lib.hid (show trErr V (.mk (vn : Nat) ks 0) above n = (m, ec) by rw [TE.out, TS.out, TD.out, if_pos (by rw [← MM.out.2]; exact E), MM.out.1, MM.out.2])
                have E' : ((ec : Int) != 0) = true := bne_iff_ne.2 (by omega)
                clear TC E
                go_wp2_with fail
                go_ret2
                exact ⟨by rw [R.out]; rfl, HB5.out⟩
        · have hj' : j = 2 := by omega
          subst hj'
          have R := Lib.hid (show trErr V (.mk (vn : Nat) ks 0) above n = (n', 0) by rw [TE.out, TS.out, List.drop_of_length_le (by rw [HL.out]; exact Nat.le_refl _)]; rfl)
          go_wp2_with fail
          go_ret2
          exact ⟨by rw [R.out]; rfl, HBo.out⟩

set_option maxRecDepth 100000 in
set_option maxHeartbeats 2000000 in
theorem rscheck_any (x : Value) (t : Tr) (vars : Int) (w : World) (ht : TrV w x t) (hv : 0 ≤ vars ∧ vars ≤ 24) :
    Calls Tryz.prog 28 #[x, .int .i64 vars] w (RetV w (.int .i64 ((trErr vars t 0 0).2 : Nat))) := by
  obtain ⟨V, rfl⟩ : ∃ V : Nat, vars = V := ⟨vars.toNat, by omega⟩
  obtain ⟨v, r, ao, kn, c, rfl⟩ := ht.shape
  obtain ⟨W, hW⟩ : ∃ W, W = w.alloc (.cells #[.int .i64 v, .slice ao kn c, .int .i64 r] 27) := ⟨_, rfl⟩
  have hbW : Below w.heap.size w W := by rw [hW]; exact (Below.refl _ _).alloc (Nat.le_refl _) _
  have hk := rwalk_any V (by omega) _ t (Nat.lt_succ_self _) _ 0 0 W (ht.below hbW) (by decide) (by decide)
  rw [show ((0 : Nat) : Int) = 0 from rfl] at hk
  have HK := Lib.hid hk; clear hk
  have HBW := Lib.hid hbW
  clear hbW ht
  go_enter Tryz.func28, Tryz.ntmps28
  go_wp2_with (with_reducible refine pauseCall ?_)
  rw [← hW]; clear hW
  refine Pause.mk ?_
  (with_reducible refine HK.out.mono ?_); rintro e w6 ⟨rfl, hb6⟩
  have hb7 := HBW.out.trans (hb6.mono HBW.out.size)
  clear hb6 HK HBW
  go_wp2_with fail
  go_ret
  exact ⟨rfl, hb7⟩
end Go.Proofs.YthhgfhdmfhnklaaGreatDoor
/-
  Error of the reference of proof.
  Conditions: each theorem's own.
-/
namespace Go.Proofs.YthhgfhdmfhnklaaGreatDoor
open Go.RowKit Go.ChangeShapes Go.WideShapes

set_option maxRecDepth 100000 in
set_option maxHeartbeats 4000000 in
theorem rerror_any (vf x : Value) (f : Fm) (t : Tr) (w : World) (hf : FmV w vf f) (ht : TrV w x t) :
    Calls Tryz.prog 40 #[vf, x] w (RetV w (.int .i64 (cErr f t : Nat))) := by
  obtain ⟨nv, rfl, hn, hv, htp⟩ := hf
  obtain ⟨ao, c, rfl, hc, hc2, _⟩ := hn.shape
  have HF := Lib.hid (show FmV w _ f from ⟨_, rfl, hn, hv, htp⟩)
  have HT := Lib.hid ht
  obtain ⟨tv, tr, ta, tn, tc, rfl⟩ := ht.shape
  obtain ⟨W, hW⟩ : ∃ W, W = (w.alloc (.cells #[.int .i64 f.vars, .slice ao f.nodes.length c, .int .i64 f.top] 24)).alloc (.cells #[.int .i64 tv, .slice ta tn tc, .int .i64 tr] 27) := ⟨_, rfl⟩
  have hbW : Below w.heap.size w W := by rw [hW]; exact ((Below.refl _ _).alloc (Nat.le_refl _) _).alloc (by simp) _
  have hg1 : W.heap[w.heap.size]? = some (.cells #[.int .i64 f.vars, .slice ao f.nodes.length c, .int .i64 f.top] 24) := by rw [hW]; exact heap_alloc2_old w _ _
  have hg2 : W.heap[w.heap.size + 1]? = some (.cells #[.int .i64 tv, .slice ta tn tc, .int .i64 tr] 27) := by rw [hW]; exact heap_alloc2_new w _ _
  obtain ⟨g1, hG1⟩ : ∃ g, g = w.heap.size := ⟨_, rfl⟩
  obtain ⟨g2, hG2⟩ : ∃ g, g = w.heap.size + 1 := ⟨_, rfl⟩
  rw [← hG1] at hg1; rw [← hG2] at hg2
  have HBW := Lib.hid hbW; have G1 := Lib.hid hg1; have G2 := Lib.hid hg2
  obtain ⟨x0, x1, x2⟩ := row3 hg1
  obtain ⟨y0, y1, y2⟩ := row3 hg2
  rw [hW, hG1] at x0 x1 x2
  rw [hW, hG2] at y0 y1 y2
  clear hbW hg1 hg2 hn hv htp ht
  have HK := Lib.hid (rfcheck_any _ f W (HF.out.below HBW.out))
  obtain ⟨ec, hec⟩ : ∃ ec, cErr f t = ec := ⟨_, rfl⟩
  rw [hec]
  go_enter Tryz.func40, Tryz.ntmps40
  go_wp2_with (with_reducible refine pauseCall ?_)
  rw [← hW, ← hG2, ← hG1]; clear hW hG1 hG2 x0 x1 x2 y0 y1 y2
  refine Pause.mk ?_
  (with_reducible refine HK.out.mono ?_); rintro e w1 ⟨rfl, hb1⟩
  have HB1 := Lib.hid (HBW.out.trans (hb1.mono HBW.out.size))
  obtain ⟨x0, x1, x2⟩ := row3 (heap_below G1.out hb1)
  obtain ⟨y0, y1, y2⟩ := row3 (heap_below G2.out hb1)
  clear hb1 HK
  by_cases h0 : fmErr f = 0
  · obtain ⟨p0, p1, _, _⟩ := fmErr_parts h0
    rw [cErr_t h0] at hec
    have HK := Lib.hid (rscheck_any _ t f.vars w1 (HT.out.below HB1.out) ⟨p0, p1⟩)
    rw [hec] at HK
    rw [h0]
    clear hec
    go_wp2_with (with_reducible refine pauseCall ?_)
    refine Pause.mk ?_
    (with_reducible refine HK.out.mono ?_); rintro e w2 ⟨rfl, hb2⟩
    have HB2 := Lib.hid (HB1.out.trans (hb2.mono HB1.out.size))
    clear hb2 HK x0 x1 x2 y0 y1 y2
    go_wp2_with fail
    go_ret
    exact ⟨rfl, HB2.out⟩
  · rw [cErr_f h0] at hec
    rw [hec] at h0 ⊢
    clear hec
    have h0' : ¬ ((ec : Nat) : Int) = 0 := by omega
    go_wp2_with fail
    go_ret
    exact ⟨rfl, HB1.out⟩
end Go.Proofs.YthhgfhdmfhnklaaGreatDoor
/-
  The reference's Leaves: the leaves of a tree, or the error.
  Conditions: each theorem's own.
-/
namespace Go.Proofs.YthhgfhdmfhnklaaGreatDoor
open Go.RowKit Go.ChangeShapes Go.WideShapes


set_option maxRecDepth 100000 in
set_option maxHeartbeats 2000000 in
theorem rLeaves_any (x : Value) (t : Tr) (vars : Int) (w : World) (ht : TrV w x t) (hv : 0 ≤ vars ∧ vars ≤ 24) (ec : Nat) (hec : (trErr vars t 0 0).2 = ec) :
    Calls Tryz.prog 41 #[x, .int .i64 vars] w (fun e w' => ∃ v', e = .returned (.tuple #[v', .int .i64 (ec : Nat)]) ∧ Below w.heap.size w w' ∧ (ec = 0 → LfsV w' v' (trLeaves t 0 0))) := by
  obtain ⟨v, r, ao, kn, c, rfl⟩ := ht.shape
  obtain ⟨W, hW⟩ : ∃ W, W = w.alloc (.cells #[.int .i64 v, .slice ao kn c, .int .i64 r] 27) := ⟨_, rfl⟩
  have hbW : Below w.heap.size w W := by rw [hW]; exact (Below.refl _ _).alloc (Nat.le_refl _) _
  have hB1 : W.heap[w.heap.size]? = some (.cells #[.int .i64 v, .slice ao kn c, .int .i64 r] 27) := by rw [hW]; exact heap_alloc_new w _
  have HK := Lib.hid (rscheck_any _ t vars W (ht.below hbW) hv)
  rw [hec] at HK
  have HT := Lib.hid ht; have HBW := Lib.hid hbW; have B1 := Lib.hid hB1
  clear hbW ht hB1
  go_enter Tryz.func41, Tryz.ntmps41
  go_wp2_with (with_reducible refine pauseCall ?_)
  rw [← hW]
  refine Pause.mk ?_
  (with_reducible refine HK.out.mono ?_); rintro e w1 ⟨rfl, hb1⟩
  have HB1 := Lib.hid (HBW.out.trans (hb1.mono HBW.out.size))
  obtain ⟨x0, x1, x2⟩ := row3 (heap_below B1.out hb1)
  clear hb1 HK hW
  by_cases h0 : ec = 0
  · obtain ⟨m, hm⟩ : ∃ m, trErr vars t 0 0 = (m, 0) := ⟨_, Prod.ext rfl (hec.trans h0)⟩
    obtain ⟨k1, k2, k3⟩ := trErr_ok t 0 0 m hm
    obtain ⟨V, rfl⟩ : ∃ V : Nat, vars = V := ⟨vars.toNat, by omega⟩
    have hlv := (trDep_le t).2
    have hk := rbelow_any V (by omega) _ t (Nat.lt_succ_self _) _ 0 0 0 w1 (HT.out.below HB1.out) k1 (by decide) (by decide) (by omega)
    rw [show ((0 : Nat) : Int) = 0 from rfl] at hk
    have HK := Lib.hid hk
    clear hm k1 k2 k3 hk hec
    subst h0
    go_wp2_with (with_reducible refine pauseCall ?_)
    refine Pause.mk ?_
    (with_reducible refine HK.out.mono ?_); rintro e w2 ⟨v', rfl, hb2, ho⟩
    have HB2 := Lib.hid (HB1.out.trans (hb2.mono HB1.out.size)); have HL := Lib.hid (own_lfs ho)
    clear hb2 ho HK x0 x1 x2
    go_wp2_with fail
    go_ret2
    exact ⟨_, rfl, HB2.out, by first | exact HL.out | (intro _; exact HL.out)⟩
  · have h0' : ((ec : Int) != 0) = true := bne_iff_ne.2 (by omega)
    go_wp2_with fail
    go_ret2
    exact ⟨_, rfl, HB1.out, fun h => absurd h h0⟩
end Go.Proofs.YthhgfhdmfhnklaaGreatDoor
/-
  wrong and Verify of the reference of proof.
  Conditions: each theorem's own.
-/
namespace Go.Proofs.YthhgfhdmfhnklaaGreatDoor
open Go.RowKit Go.ChangeShapes Go.WideShapes

theorem unwanted_undef {ops : Array Oper} {o : Oper} {tmps : Array Value} {g : Nat} {t : Tmp} {want : Bool} (hg : o.guard = some (g, want)) (hd : (ops[g]?).bind (·.dst) = some t) (ht : tmps[t]? = some undef) : Region.wanted o (yielded ops tmps) = false := by
  have hy : yielded ops tmps g = none := by unfold yielded; rw [hd]; show (match tmps[t]? with | some (.bool b) => some b | _ => none) = none; rw [ht]; rfl
  unfold Region.wanted; rw [hg]
  simp [hy]
set_option maxRecDepth 100000 in
set_option maxHeartbeats 4000000 in
theorem rwrong_any (vf v : Value) (f : Fm) (l : List Lf) (w : World) (hf : FmV w vf f) (hl : LfsV w v l) (h0 : fmErr f = 0) (hcu : ∀ x ∈ l, CubeOK f.vars x.yes x.no) (hr : ∀ x ∈ l, I64 x.reason) (hlen : l.length ≤ 4096) :
    Calls Tryz.prog 42 #[vf, v] w (RetV w (.int .i64 (firstBad f l 0))) := by
  obtain ⟨nv, rfl, hn, hv, htp⟩ := hf
  obtain ⟨ao, c, rfl, hc, hc2, _⟩ := hn.shape
  have HF := Lib.hid (show FmV w _ f from ⟨_, rfl, hn, hv, htp⟩)
  obtain ⟨al, cl, rfl, hcl, hcl2, _⟩ := hl.shape
  have HL := Lib.hid hl
  obtain ⟨W, hW⟩ : ∃ W, W = w.alloc (.cells #[.int .i64 f.vars, .slice ao f.nodes.length c, .int .i64 f.top] 24) := ⟨_, rfl⟩
  have hbW : Below w.heap.size w W := by rw [hW]; exact (Below.refl _ _).alloc (Nat.le_refl _) _
  have hg1 : W.heap[w.heap.size]? = some (.cells #[.int .i64 f.vars, .slice ao f.nodes.length c, .int .i64 f.top] 24) := by rw [hW]; exact heap_alloc_new w _
  obtain ⟨g1, hG1⟩ : ∃ g, g = w.heap.size := ⟨_, rfl⟩
  rw [← hG1] at hg1
  have HBW := Lib.hid hbW; have G1 := Lib.hid hg1; have HCU := Lib.hid hcu; have HR := Lib.hid hr; have E0 := Lib.hid h0
  have hnd := (fmErr_parts h0).2.2.2
  have HND := Lib.hid hnd
  clear hbW hg1 hn hv htp hl hcu hr hnd h0
  go_enter Tryz.func42, Tryz.ntmps42
  go_wp2_with fail
  rw [← hW, ← hG1]; clear hW hG1
  go_loopw [9] (fun i' wx => ∃ q : Nat, q ≤ l.length ∧ i' = .int .i64 q ∧ Hid (Below W.heap.size W wx) ∧ Hid (firstBad f l 0 = firstBad f (l.drop q) q)) (fun i' _ => l.length - (intOf i').toNat)
  case atStart => exact ⟨0, Nat.zero_le _, rfl, Lib.hid (Below.refl _ _), Lib.hid rfl⟩
  case round =>
    obtain ⟨q, hq, rfl, BX, FB⟩ := hrel
    obtain ⟨wo, rfl⟩ : ∃ wo : World, wo = wr := ⟨_, rfl⟩
    have HBo := Lib.hid (HBW.out.trans (BX.out.mono HBW.out.size))
    by_cases hlt : q < l.length
    · obtain ⟨x, hx⟩ : ∃ x, l[q]? = some x := ⟨l[q], List.getElem?_eq_getElem hlt⟩
      obtain ⟨bl, ol, rfl, hbl, hjk, hat⟩ := (HL.out.below HBo.out).at (by omega); clear hjk
      obtain ⟨c0, c1, c2⟩ := hat q x hx
      have hmem := List.mem_of_getElem? hx
      have FD := Lib.hid (firstBad_drop (f := f) hx)
      have BP := Lib.hid (bad_ref HND.out x)
      have hri := HR.out x hmem
      unfold I64 at hri
      have HCX := Lib.hid (HCU.out x hmem)
      clear hat hx hmem
      obtain ⟨xy, xn, xr⟩ := x
      simp only at c0 c1 c2 hri HCX
      obtain ⟨w4, hw4⟩ : ∃ w4, w4 = wo.alloc (.cells #[.int .i64 (xy : Nat), .int .i64 (xn : Nat), .int .i64 xr] 48) := ⟨_, rfl⟩
      have hb4 : Below wo.heap.size wo w4 := by rw [hw4]; exact (Below.refl _ _).alloc (Nat.le_refl _) _
      have hx4 : w4.heap[wo.heap.size]? = some (.cells #[.int .i64 (xy : Nat), .int .i64 (xn : Nat), .int .i64 xr] 48) := by rw [hw4]; exact heap_alloc_new wo _
      obtain ⟨g4, hg4⟩ : ∃ g, g = wo.heap.size := ⟨_, rfl⟩
      rw [← hg4] at hx4
      have HB4 := Lib.hid (HBo.out.trans (hb4.mono HBo.out.size)); have BX4 := Lib.hid (BX.out.trans (hb4.mono BX.out.size))
      have G4 := Lib.hid hx4
      have G1' := Lib.hid (heap_below G1.out BX4.out)
      have hltz : (q : Int) < (l.length : Int) := by omega
      clear hb4 hx4
      go_wp2_with (with_reducible first | refine pauseCall ?_ | refine pauseLoop ?_ | refine pauseDraw ?_ | refine pauseBody ?_ | refine pauseRounds ?_)
      rw [← hw4, ← hg4]
      clear hw4 hg4 c0 c1 c2
      refine Pause.mk ?_
      try simp only at BP FD
      obtain ⟨fv, hfv⟩ : ∃ fv, fmVal f xy xn = fv := ⟨_, rfl⟩
      rw [hfv] at BP
      have HV := Lib.hid hfv; clear hfv
      have hcase : xr < 0 ∨ 2 < xr ∨ xr = 2 ∨ (0 ≤ xr ∧ xr < 2) := by omega
      rcases hcase with hxr | hxr | hxr | hxr
      · skip
        have R := Lib.hid (show firstBad f l 0 = (q : Int) by rw [FB.out, FD.out, if_pos (by rw [BP.out]; simp; omega)])
        have DV := Lib.hid (show xr < 0 by omega)
        refine wp_region_facts (A := ?aaA) (w := w4) 21 [] (by kernel_rfl) (Fl [KEq (.pointer (some ⟨g4, 2, none⟩)), KEq (.int .i64 xr), KEq (.bool true), KEq (.bool true), KAny, KAny, KAny, KEq (.bool true), KEq (.bool true), KAny, KAny, KAny, KEq undef, KAny, KAny, KAny, KAny, KAny, KAny, KAny, KAny]) (fun i => false) (by kernel_rfl) ?hqA (monoL (monoC (kEq _) (monoC (kEq _) (monoC (kEq _) (monoC (kEq _) (monoC (kAny) (monoC (kAny) (monoC (kAny) (monoC (kEq _) (monoC (kEq _) (monoC (kAny) (monoC (kAny) (monoC (kAny) (monoC (kEq _) (monoC (kAny) (monoC (kAny) (monoC (kAny) (monoC (kAny) (monoC (kAny) (monoC (kAny) (monoC (kAny) (monoC (kAny) monoN)))))))))))))))))))))) ?haA ?stA ?tlA
        case hqA =>
          intro c a d v w h
          first | (simp only [Exit.then] at h ⊢; exact h) | (simp only [Exit.inBlock, Exit.then] at h ⊢; exact h) | exact h
        case haA =>
          intro vals
          simp only [putsTo, dstOf, if_true, Act.put, List.setIfInBounds_toArray, List.set_cons_zero, List.set_cons_succ, List.getElem?_toArray, List.getElem?_cons_zero, List.getElem?_cons_succ, Option.bind_some]
          exact rfl
        case stA =>
          simp only [List.take_succ_cons, List.take_zero]
          refine stepsOK_cons rfl rfl ?_ (stepsOK_cons rfl rfl ?_ (stepsOK_cons rfl rfl ?_ (stepsOK_cons rfl rfl ?_ (stepsOK_guard rfl ?_ (stepsOK_guard rfl ?_ (stepsOK_guard rfl ?_ (stepsOK_cons rfl rfl ?_ (stepsOK_cons rfl rfl ?_ (stepsOK_guard rfl ?_ (stepsOK_guard rfl ?_ (stepsOK_guard rfl ?_ (stepsOK_guard rfl ?_ (stepsOK_guard rfl ?_ (stepsOK_guard rfl ?_ (stepsOK_guard rfl ?_ (stepsOK_guard rfl ?_ (stepsOK_guard rfl ?_ (stepsOK_guard rfl ?_ (stepsOK_guard rfl ?_ (stepsOK_guard rfl ?_ (stepsOK_nil)))))))))))))))))))))
          · intro vals w1 hb hd
            refine stepOK_value (v := .pointer (some ⟨g4, 2, none⟩)) (w' := w1) (by go_simp) (leaves_mk (Below.refl _ _) rfl (fun h => by cases h))
          · intro vals w1 hb hd
            have d0 : KEq (.pointer (some ⟨g4, 2, none⟩)) (vals 0) w1 := hd 0 (by kernel_rfl)
            obtain ⟨e0, e1, e2⟩ := row3 (heap_below G4.out hb)
            rw [show vals 0 = _ from d0]
            refine stepOK_value (v := .int .i64 xr) (w' := w1) (by go_simp) (leaves_mk (Below.refl _ _) rfl (fun h => by cases h))
          · intro vals w1 hb hd
            have d1 : KEq (.int .i64 xr) (vals 1) w1 := hd 1 (by kernel_rfl)
            rw [show vals 1 = _ from d1]
            refine stepOK_value (v := .bool true) (w' := w1) (by go_simp; first | done | exact DV.out | omega | (simp only [decide_eq_true_eq, decide_eq_false_iff_not]; omega) | (simp; omega)) (leaves_mk (Below.refl _ _) rfl (fun h => by cases h))
          · intro vals w1 hb hd
            have d2 : KEq (.bool true) (vals 2) w1 := hd 2 (by kernel_rfl)
            rw [show vals 2 = _ from d2]
            refine stepOK_value (v := .bool true) (w' := w1) (by go_simp) (leaves_mk (Below.refl _ _) rfl (fun h => by cases h))
          · intro vals w1 hb hd
            have dg : KEq (.bool true) (vals 3) w1 := hd 3 (by kernel_rfl)
            refine stepG_no (unwanted_of rfl rfl (congrArg some dg) rfl) ?_
            clear dg
            exact leaves_mk (Below.refl _ _) trivial (fun h => by cases h)
          · intro vals w1 hb hd
            have dg : KEq (.bool true) (vals 3) w1 := hd 3 (by kernel_rfl)
            refine stepG_no (unwanted_of rfl rfl (congrArg some dg) rfl) ?_
            clear dg
            exact leaves_mk (Below.refl _ _) trivial (fun h => by cases h)
          · intro vals w1 hb hd
            have dg : KEq (.bool true) (vals 3) w1 := hd 3 (by kernel_rfl)
            refine stepG_no (unwanted_of rfl rfl (congrArg some dg) rfl) ?_
            clear dg
            exact leaves_mk (Below.refl _ _) trivial (fun h => by cases h)
          · intro vals w1 hb hd
            have d3 : KEq (.bool true) (vals 3) w1 := hd 3 (by kernel_rfl)
            rw [show vals 3 = _ from d3]
            refine stepOK_value (v := .bool true) (w' := w1) (by go_simp) (leaves_mk (Below.refl _ _) rfl (fun h => by cases h))
          · intro vals w1 hb hd
            have d7 : KEq (.bool true) (vals 7) w1 := hd 7 (by kernel_rfl)
            rw [show vals 7 = _ from d7]
            refine stepOK_value (v := .bool true) (w' := w1) (by go_simp) (leaves_mk (Below.refl _ _) rfl (fun h => by cases h))
          · intro vals w1 hb hd
            have dg : KEq (.bool true) (vals 8) w1 := hd 8 (by kernel_rfl)
            refine stepG_no (unwanted_of rfl rfl (congrArg some dg) rfl) ?_
            clear dg
            exact leaves_mk (Below.refl _ _) trivial (fun h => by cases h)
          · intro vals w1 hb hd
            have dg : KEq (.bool true) (vals 8) w1 := hd 8 (by kernel_rfl)
            refine stepG_no (unwanted_of rfl rfl (congrArg some dg) rfl) ?_
            clear dg
            exact leaves_mk (Below.refl _ _) trivial (fun h => by cases h)
          · intro vals w1 hb hd
            have dg : KEq (.bool true) (vals 8) w1 := hd 8 (by kernel_rfl)
            refine stepG_no (unwanted_of rfl rfl (congrArg some dg) rfl) ?_
            clear dg
            exact leaves_mk (Below.refl _ _) trivial (fun h => by cases h)
          · intro vals w1 hb hd
            have dg : KEq (.bool true) (vals 8) w1 := hd 8 (by kernel_rfl)
            refine stepG_no (unwanted_of rfl rfl (congrArg some dg) rfl) ?_
            clear dg
            exact leaves_mk (Below.refl _ _) rfl (fun h => by cases h)
          · intro vals w1 hb hd
            have dg : KEq (undef) (vals 12) w1 := hd 12 (by kernel_rfl)
            refine stepG_no (unwanted_undef rfl rfl (congrArg some dg)) ?_
            clear dg
            exact leaves_mk (Below.refl _ _) trivial (fun h => by cases h)
          · intro vals w1 hb hd
            have dg : KEq (undef) (vals 12) w1 := hd 12 (by kernel_rfl)
            refine stepG_no (unwanted_undef rfl rfl (congrArg some dg)) ?_
            clear dg
            exact leaves_mk (Below.refl _ _) trivial (fun h => by cases h)
          · intro vals w1 hb hd
            have dg : KEq (undef) (vals 12) w1 := hd 12 (by kernel_rfl)
            refine stepG_no (unwanted_undef rfl rfl (congrArg some dg)) ?_
            clear dg
            exact leaves_mk (Below.refl _ _) trivial (fun h => by cases h)
          · intro vals w1 hb hd
            have dg : KEq (undef) (vals 12) w1 := hd 12 (by kernel_rfl)
            refine stepG_no (unwanted_undef rfl rfl (congrArg some dg)) ?_
            clear dg
            exact leaves_mk (Below.refl _ _) trivial (fun h => by cases h)
          · intro vals w1 hb hd
            have dg : KEq (undef) (vals 12) w1 := hd 12 (by kernel_rfl)
            refine stepG_no (unwanted_undef rfl rfl (congrArg some dg)) ?_
            clear dg
            exact leaves_mk (Below.refl _ _) trivial (fun h => by cases h)
          · intro vals w1 hb hd
            have dg : KEq (undef) (vals 12) w1 := hd 12 (by kernel_rfl)
            refine stepG_no (unwanted_undef rfl rfl (congrArg some dg)) ?_
            clear dg
            exact leaves_mk (Below.refl _ _) trivial (fun h => by cases h)
          · intro vals w1 hb hd
            have dg : KEq (undef) (vals 12) w1 := hd 12 (by kernel_rfl)
            refine stepG_no (unwanted_undef rfl rfl (congrArg some dg)) ?_
            clear dg
            exact leaves_mk (Below.refl _ _) trivial (fun h => by cases h)
          · intro vals w1 hb hd
            have dg : KEq (.bool true) (vals 8) w1 := hd 8 (by kernel_rfl)
            refine stepG_no (unwanted_of rfl rfl (congrArg some dg) rfl) ?_
            clear dg
            exact leaves_mk (Below.refl _ _) trivial (fun h => by cases h)
        case tlA =>
          intro vals w5 hb5 hf hdis
          simp only [List.drop_succ_cons, List.drop_zero]
          have z8 : vals 8 = _ := hf 8 (by decide)
          rw [z8]; clear z8
          clear hf hdis
          have BX5 := Lib.hid (BX4.out.trans (hb5.mono BX4.out.size)); have HB5 := Lib.hid (HB4.out.trans (hb5.mono HB4.out.size))
          clear hb5
          go_wp2_with fail
          go_ret
          exact ⟨by rw [R.out]; rfl, HB5.out⟩
      · skip
        have R := Lib.hid (show firstBad f l 0 = (q : Int) by rw [FB.out, FD.out, if_pos (by rw [BP.out]; simp; omega)])
        have DV := Lib.hid (show 2 < xr by omega)
        refine wp_region_facts (A := ?aaB) (w := w4) 21 [] (by kernel_rfl) (Fl [KEq (.pointer (some ⟨g4, 2, none⟩)), KEq (.int .i64 xr), KEq (.bool false), KEq (.bool false), KEq (.pointer (some ⟨g4, 2, none⟩)), KEq (.int .i64 xr), KEq (.bool true), KEq (.bool true), KEq (.bool true), KAny, KAny, KAny, KEq undef, KAny, KAny, KAny, KAny, KAny, KAny, KAny, KAny]) (fun i => false) (by kernel_rfl) ?hqB (monoL (monoC (kEq _) (monoC (kEq _) (monoC (kEq _) (monoC (kEq _) (monoC (kEq _) (monoC (kEq _) (monoC (kEq _) (monoC (kEq _) (monoC (kEq _) (monoC (kAny) (monoC (kAny) (monoC (kAny) (monoC (kEq _) (monoC (kAny) (monoC (kAny) (monoC (kAny) (monoC (kAny) (monoC (kAny) (monoC (kAny) (monoC (kAny) (monoC (kAny) monoN)))))))))))))))))))))) ?haB ?stB ?tlB
        case hqB =>
          intro c a d v w h
          first | (simp only [Exit.then] at h ⊢; exact h) | (simp only [Exit.inBlock, Exit.then] at h ⊢; exact h) | exact h
        case haB =>
          intro vals
          simp only [putsTo, dstOf, if_true, Act.put, List.setIfInBounds_toArray, List.set_cons_zero, List.set_cons_succ, List.getElem?_toArray, List.getElem?_cons_zero, List.getElem?_cons_succ, Option.bind_some]
          exact rfl
        case stB =>
          simp only [List.take_succ_cons, List.take_zero]
          refine stepsOK_cons rfl rfl ?_ (stepsOK_cons rfl rfl ?_ (stepsOK_cons rfl rfl ?_ (stepsOK_cons rfl rfl ?_ (stepsOK_guard rfl ?_ (stepsOK_guard rfl ?_ (stepsOK_guard rfl ?_ (stepsOK_cons rfl rfl ?_ (stepsOK_cons rfl rfl ?_ (stepsOK_guard rfl ?_ (stepsOK_guard rfl ?_ (stepsOK_guard rfl ?_ (stepsOK_guard rfl ?_ (stepsOK_guard rfl ?_ (stepsOK_guard rfl ?_ (stepsOK_guard rfl ?_ (stepsOK_guard rfl ?_ (stepsOK_guard rfl ?_ (stepsOK_guard rfl ?_ (stepsOK_guard rfl ?_ (stepsOK_guard rfl ?_ (stepsOK_nil)))))))))))))))))))))
          · intro vals w1 hb hd
            refine stepOK_value (v := .pointer (some ⟨g4, 2, none⟩)) (w' := w1) (by go_simp) (leaves_mk (Below.refl _ _) rfl (fun h => by cases h))
          · intro vals w1 hb hd
            have d0 : KEq (.pointer (some ⟨g4, 2, none⟩)) (vals 0) w1 := hd 0 (by kernel_rfl)
            obtain ⟨e0, e1, e2⟩ := row3 (heap_below G4.out hb)
            rw [show vals 0 = _ from d0]
            refine stepOK_value (v := .int .i64 xr) (w' := w1) (by go_simp) (leaves_mk (Below.refl _ _) rfl (fun h => by cases h))
          · intro vals w1 hb hd
            have d1 : KEq (.int .i64 xr) (vals 1) w1 := hd 1 (by kernel_rfl)
            rw [show vals 1 = _ from d1]
            refine stepOK_value (v := .bool false) (w' := w1) (by go_simp; first | done | exact DV.out | omega | (simp only [decide_eq_true_eq, decide_eq_false_iff_not]; omega) | (simp; omega)) (leaves_mk (Below.refl _ _) rfl (fun h => by cases h))
          · intro vals w1 hb hd
            have d2 : KEq (.bool false) (vals 2) w1 := hd 2 (by kernel_rfl)
            rw [show vals 2 = _ from d2]
            refine stepOK_value (v := .bool false) (w' := w1) (by go_simp) (leaves_mk (Below.refl _ _) rfl (fun h => by cases h))
          · intro vals w1 hb hd
            have dg : KEq (.bool false) (vals 3) w1 := hd 3 (by kernel_rfl)
            refine stepG_yes (wanted_of rfl rfl (congrArg some dg) rfl) ?_
            clear dg
            refine stepOK_value (v := .pointer (some ⟨g4, 2, none⟩)) (w' := w1) (by go_simp) (leaves_mk (Below.refl _ _) rfl (fun h => by cases h))
          · intro vals w1 hb hd
            have dg : KEq (.bool false) (vals 3) w1 := hd 3 (by kernel_rfl)
            refine stepG_yes (wanted_of rfl rfl (congrArg some dg) rfl) ?_
            clear dg
            have d4 : KEq (.pointer (some ⟨g4, 2, none⟩)) (vals 4) w1 := hd 4 (by kernel_rfl)
            obtain ⟨e0, e1, e2⟩ := row3 (heap_below G4.out hb)
            rw [show vals 4 = _ from d4]
            refine stepOK_value (v := .int .i64 xr) (w' := w1) (by go_simp) (leaves_mk (Below.refl _ _) rfl (fun h => by cases h))
          · intro vals w1 hb hd
            have dg : KEq (.bool false) (vals 3) w1 := hd 3 (by kernel_rfl)
            refine stepG_yes (wanted_of rfl rfl (congrArg some dg) rfl) ?_
            clear dg
            have d5 : KEq (.int .i64 xr) (vals 5) w1 := hd 5 (by kernel_rfl)
            rw [show vals 5 = _ from d5]
            refine stepOK_value (v := .bool true) (w' := w1) (by go_simp; first | done | exact DV.out | omega | (simp only [decide_eq_true_eq, decide_eq_false_iff_not]; omega) | (simp; omega)) (leaves_mk (Below.refl _ _) rfl (fun h => by cases h))
          · intro vals w1 hb hd
            have d3 : KEq (.bool false) (vals 3) w1 := hd 3 (by kernel_rfl)
            have d6 : KEq (.bool true) (vals 6) w1 := hd 6 (by kernel_rfl)
            rw [show vals 3 = _ from d3]
            rw [show vals 6 = _ from d6]
            refine stepOK_value (v := .bool true) (w' := w1) (by go_simp) (leaves_mk (Below.refl _ _) rfl (fun h => by cases h))
          · intro vals w1 hb hd
            have d7 : KEq (.bool true) (vals 7) w1 := hd 7 (by kernel_rfl)
            rw [show vals 7 = _ from d7]
            refine stepOK_value (v := .bool true) (w' := w1) (by go_simp) (leaves_mk (Below.refl _ _) rfl (fun h => by cases h))
          · intro vals w1 hb hd
            have dg : KEq (.bool true) (vals 8) w1 := hd 8 (by kernel_rfl)
            refine stepG_no (unwanted_of rfl rfl (congrArg some dg) rfl) ?_
            clear dg
            exact leaves_mk (Below.refl _ _) trivial (fun h => by cases h)
          · intro vals w1 hb hd
            have dg : KEq (.bool true) (vals 8) w1 := hd 8 (by kernel_rfl)
            refine stepG_no (unwanted_of rfl rfl (congrArg some dg) rfl) ?_
            clear dg
            exact leaves_mk (Below.refl _ _) trivial (fun h => by cases h)
          · intro vals w1 hb hd
            have dg : KEq (.bool true) (vals 8) w1 := hd 8 (by kernel_rfl)
            refine stepG_no (unwanted_of rfl rfl (congrArg some dg) rfl) ?_
            clear dg
            exact leaves_mk (Below.refl _ _) trivial (fun h => by cases h)
          · intro vals w1 hb hd
            have dg : KEq (.bool true) (vals 8) w1 := hd 8 (by kernel_rfl)
            refine stepG_no (unwanted_of rfl rfl (congrArg some dg) rfl) ?_
            clear dg
            exact leaves_mk (Below.refl _ _) rfl (fun h => by cases h)
          · intro vals w1 hb hd
            have dg : KEq (undef) (vals 12) w1 := hd 12 (by kernel_rfl)
            refine stepG_no (unwanted_undef rfl rfl (congrArg some dg)) ?_
            clear dg
            exact leaves_mk (Below.refl _ _) trivial (fun h => by cases h)
          · intro vals w1 hb hd
            have dg : KEq (undef) (vals 12) w1 := hd 12 (by kernel_rfl)
            refine stepG_no (unwanted_undef rfl rfl (congrArg some dg)) ?_
            clear dg
            exact leaves_mk (Below.refl _ _) trivial (fun h => by cases h)
          · intro vals w1 hb hd
            have dg : KEq (undef) (vals 12) w1 := hd 12 (by kernel_rfl)
            refine stepG_no (unwanted_undef rfl rfl (congrArg some dg)) ?_
            clear dg
            exact leaves_mk (Below.refl _ _) trivial (fun h => by cases h)
          · intro vals w1 hb hd
            have dg : KEq (undef) (vals 12) w1 := hd 12 (by kernel_rfl)
            refine stepG_no (unwanted_undef rfl rfl (congrArg some dg)) ?_
            clear dg
            exact leaves_mk (Below.refl _ _) trivial (fun h => by cases h)
          · intro vals w1 hb hd
            have dg : KEq (undef) (vals 12) w1 := hd 12 (by kernel_rfl)
            refine stepG_no (unwanted_undef rfl rfl (congrArg some dg)) ?_
            clear dg
            exact leaves_mk (Below.refl _ _) trivial (fun h => by cases h)
          · intro vals w1 hb hd
            have dg : KEq (undef) (vals 12) w1 := hd 12 (by kernel_rfl)
            refine stepG_no (unwanted_undef rfl rfl (congrArg some dg)) ?_
            clear dg
            exact leaves_mk (Below.refl _ _) trivial (fun h => by cases h)
          · intro vals w1 hb hd
            have dg : KEq (undef) (vals 12) w1 := hd 12 (by kernel_rfl)
            refine stepG_no (unwanted_undef rfl rfl (congrArg some dg)) ?_
            clear dg
            exact leaves_mk (Below.refl _ _) trivial (fun h => by cases h)
          · intro vals w1 hb hd
            have dg : KEq (.bool true) (vals 8) w1 := hd 8 (by kernel_rfl)
            refine stepG_no (unwanted_of rfl rfl (congrArg some dg) rfl) ?_
            clear dg
            exact leaves_mk (Below.refl _ _) trivial (fun h => by cases h)
        case tlB =>
          intro vals w5 hb5 hf hdis
          simp only [List.drop_succ_cons, List.drop_zero]
          have z8 : vals 8 = _ := hf 8 (by decide)
          rw [z8]; clear z8
          clear hf hdis
          have BX5 := Lib.hid (BX4.out.trans (hb5.mono BX4.out.size)); have HB5 := Lib.hid (HB4.out.trans (hb5.mono HB4.out.size))
          clear hb5
          go_wp2_with fail
          go_ret
          exact ⟨by rw [R.out]; rfl, HB5.out⟩
      · skip
        have NB := Lib.hid (show firstBad f l 0 = firstBad f (l.drop (q + 1)) (q + 1) by rw [FB.out, FD.out, if_neg (by rw [BP.out]; simp; omega)])
        have DV := Lib.hid (show ¬ xr < 2 by omega)
        refine wp_region_facts (A := ?aaC) (w := w4) 21 [] (by kernel_rfl) (Fl [KEq (.pointer (some ⟨g4, 2, none⟩)), KEq (.int .i64 xr), KEq (.bool false), KEq (.bool false), KEq (.pointer (some ⟨g4, 2, none⟩)), KEq (.int .i64 xr), KEq (.bool false), KEq (.bool false), KEq (.bool false), KEq (.pointer (some ⟨g4, 2, none⟩)), KEq (.int .i64 xr), KEq (.bool false), KEq (.bool false), KAny, KAny, KAny, KAny, KAny, KAny, KAny, KEq (.bool false)]) (fun i => false) (by kernel_rfl) ?hqC (monoL (monoC (kEq _) (monoC (kEq _) (monoC (kEq _) (monoC (kEq _) (monoC (kEq _) (monoC (kEq _) (monoC (kEq _) (monoC (kEq _) (monoC (kEq _) (monoC (kEq _) (monoC (kEq _) (monoC (kEq _) (monoC (kEq _) (monoC (kAny) (monoC (kAny) (monoC (kAny) (monoC (kAny) (monoC (kAny) (monoC (kAny) (monoC (kAny) (monoC (kEq _) monoN)))))))))))))))))))))) ?haC ?stC ?tlC
        case hqC =>
          intro c a d v w h
          first | (simp only [Exit.then] at h ⊢; exact h) | (simp only [Exit.inBlock, Exit.then] at h ⊢; exact h) | exact h
        case haC =>
          intro vals
          simp only [putsTo, dstOf, if_true, Act.put, List.setIfInBounds_toArray, List.set_cons_zero, List.set_cons_succ, List.getElem?_toArray, List.getElem?_cons_zero, List.getElem?_cons_succ, Option.bind_some]
          exact rfl
        case stC =>
          simp only [List.take_succ_cons, List.take_zero]
          refine stepsOK_cons rfl rfl ?_ (stepsOK_cons rfl rfl ?_ (stepsOK_cons rfl rfl ?_ (stepsOK_cons rfl rfl ?_ (stepsOK_guard rfl ?_ (stepsOK_guard rfl ?_ (stepsOK_guard rfl ?_ (stepsOK_cons rfl rfl ?_ (stepsOK_cons rfl rfl ?_ (stepsOK_guard rfl ?_ (stepsOK_guard rfl ?_ (stepsOK_guard rfl ?_ (stepsOK_guard rfl ?_ (stepsOK_guard rfl ?_ (stepsOK_guard rfl ?_ (stepsOK_guard rfl ?_ (stepsOK_guard rfl ?_ (stepsOK_guard rfl ?_ (stepsOK_guard rfl ?_ (stepsOK_guard rfl ?_ (stepsOK_guard rfl ?_ (stepsOK_nil)))))))))))))))))))))
          · intro vals w1 hb hd
            refine stepOK_value (v := .pointer (some ⟨g4, 2, none⟩)) (w' := w1) (by go_simp) (leaves_mk (Below.refl _ _) rfl (fun h => by cases h))
          · intro vals w1 hb hd
            have d0 : KEq (.pointer (some ⟨g4, 2, none⟩)) (vals 0) w1 := hd 0 (by kernel_rfl)
            obtain ⟨e0, e1, e2⟩ := row3 (heap_below G4.out hb)
            rw [show vals 0 = _ from d0]
            refine stepOK_value (v := .int .i64 xr) (w' := w1) (by go_simp) (leaves_mk (Below.refl _ _) rfl (fun h => by cases h))
          · intro vals w1 hb hd
            have d1 : KEq (.int .i64 xr) (vals 1) w1 := hd 1 (by kernel_rfl)
            rw [show vals 1 = _ from d1]
            refine stepOK_value (v := .bool false) (w' := w1) (by go_simp; first | done | exact DV.out | omega | (simp only [decide_eq_true_eq, decide_eq_false_iff_not]; omega) | (simp; omega)) (leaves_mk (Below.refl _ _) rfl (fun h => by cases h))
          · intro vals w1 hb hd
            have d2 : KEq (.bool false) (vals 2) w1 := hd 2 (by kernel_rfl)
            rw [show vals 2 = _ from d2]
            refine stepOK_value (v := .bool false) (w' := w1) (by go_simp) (leaves_mk (Below.refl _ _) rfl (fun h => by cases h))
          · intro vals w1 hb hd
            have dg : KEq (.bool false) (vals 3) w1 := hd 3 (by kernel_rfl)
            refine stepG_yes (wanted_of rfl rfl (congrArg some dg) rfl) ?_
            clear dg
            refine stepOK_value (v := .pointer (some ⟨g4, 2, none⟩)) (w' := w1) (by go_simp) (leaves_mk (Below.refl _ _) rfl (fun h => by cases h))
          · intro vals w1 hb hd
            have dg : KEq (.bool false) (vals 3) w1 := hd 3 (by kernel_rfl)
            refine stepG_yes (wanted_of rfl rfl (congrArg some dg) rfl) ?_
            clear dg
            have d4 : KEq (.pointer (some ⟨g4, 2, none⟩)) (vals 4) w1 := hd 4 (by kernel_rfl)
            obtain ⟨e0, e1, e2⟩ := row3 (heap_below G4.out hb)
            rw [show vals 4 = _ from d4]
            refine stepOK_value (v := .int .i64 xr) (w' := w1) (by go_simp) (leaves_mk (Below.refl _ _) rfl (fun h => by cases h))
          · intro vals w1 hb hd
            have dg : KEq (.bool false) (vals 3) w1 := hd 3 (by kernel_rfl)
            refine stepG_yes (wanted_of rfl rfl (congrArg some dg) rfl) ?_
            clear dg
            have d5 : KEq (.int .i64 xr) (vals 5) w1 := hd 5 (by kernel_rfl)
            rw [show vals 5 = _ from d5]
            refine stepOK_value (v := .bool false) (w' := w1) (by go_simp; first | done | exact DV.out | omega | (simp only [decide_eq_true_eq, decide_eq_false_iff_not]; omega) | (simp; omega)) (leaves_mk (Below.refl _ _) rfl (fun h => by cases h))
          · intro vals w1 hb hd
            have d3 : KEq (.bool false) (vals 3) w1 := hd 3 (by kernel_rfl)
            have d6 : KEq (.bool false) (vals 6) w1 := hd 6 (by kernel_rfl)
            rw [show vals 3 = _ from d3]
            rw [show vals 6 = _ from d6]
            refine stepOK_value (v := .bool false) (w' := w1) (by go_simp) (leaves_mk (Below.refl _ _) rfl (fun h => by cases h))
          · intro vals w1 hb hd
            have d7 : KEq (.bool false) (vals 7) w1 := hd 7 (by kernel_rfl)
            rw [show vals 7 = _ from d7]
            refine stepOK_value (v := .bool false) (w' := w1) (by go_simp) (leaves_mk (Below.refl _ _) rfl (fun h => by cases h))
          · intro vals w1 hb hd
            have dg : KEq (.bool false) (vals 8) w1 := hd 8 (by kernel_rfl)
            refine stepG_yes (wanted_of rfl rfl (congrArg some dg) rfl) ?_
            clear dg
            refine stepOK_value (v := .pointer (some ⟨g4, 2, none⟩)) (w' := w1) (by go_simp) (leaves_mk (Below.refl _ _) rfl (fun h => by cases h))
          · intro vals w1 hb hd
            have dg : KEq (.bool false) (vals 8) w1 := hd 8 (by kernel_rfl)
            refine stepG_yes (wanted_of rfl rfl (congrArg some dg) rfl) ?_
            clear dg
            have d9 : KEq (.pointer (some ⟨g4, 2, none⟩)) (vals 9) w1 := hd 9 (by kernel_rfl)
            obtain ⟨e0, e1, e2⟩ := row3 (heap_below G4.out hb)
            rw [show vals 9 = _ from d9]
            refine stepOK_value (v := .int .i64 xr) (w' := w1) (by go_simp) (leaves_mk (Below.refl _ _) rfl (fun h => by cases h))
          · intro vals w1 hb hd
            have dg : KEq (.bool false) (vals 8) w1 := hd 8 (by kernel_rfl)
            refine stepG_yes (wanted_of rfl rfl (congrArg some dg) rfl) ?_
            clear dg
            have d10 : KEq (.int .i64 xr) (vals 10) w1 := hd 10 (by kernel_rfl)
            rw [show vals 10 = _ from d10]
            refine stepOK_value (v := .bool false) (w' := w1) (by go_simp; first | done | exact DV.out | omega | (simp only [decide_eq_true_eq, decide_eq_false_iff_not]; omega) | (simp; omega)) (leaves_mk (Below.refl _ _) rfl (fun h => by cases h))
          · intro vals w1 hb hd
            have dg : KEq (.bool false) (vals 8) w1 := hd 8 (by kernel_rfl)
            refine stepG_yes (wanted_of rfl rfl (congrArg some dg) rfl) ?_
            clear dg
            have d11 : KEq (.bool false) (vals 11) w1 := hd 11 (by kernel_rfl)
            rw [show vals 11 = _ from d11]
            refine stepOK_value (v := .bool false) (w' := w1) (by go_simp) (leaves_mk (Below.refl _ _) rfl (fun h => by cases h))
          · intro vals w1 hb hd
            have dg : KEq (.bool false) (vals 12) w1 := hd 12 (by kernel_rfl)
            refine stepG_no (unwanted_of rfl rfl (congrArg some dg) rfl) ?_
            clear dg
            exact leaves_mk (Below.refl _ _) trivial (fun h => by cases h)
          · intro vals w1 hb hd
            have dg : KEq (.bool false) (vals 12) w1 := hd 12 (by kernel_rfl)
            refine stepG_no (unwanted_of rfl rfl (congrArg some dg) rfl) ?_
            clear dg
            exact leaves_mk (Below.refl _ _) trivial (fun h => by cases h)
          · intro vals w1 hb hd
            have dg : KEq (.bool false) (vals 12) w1 := hd 12 (by kernel_rfl)
            refine stepG_no (unwanted_of rfl rfl (congrArg some dg) rfl) ?_
            clear dg
            exact leaves_mk (Below.refl _ _) trivial (fun h => by cases h)
          · intro vals w1 hb hd
            have dg : KEq (.bool false) (vals 12) w1 := hd 12 (by kernel_rfl)
            refine stepG_no (unwanted_of rfl rfl (congrArg some dg) rfl) ?_
            clear dg
            exact leaves_mk (Below.refl _ _) trivial (fun h => by cases h)
          · intro vals w1 hb hd
            have dg : KEq (.bool false) (vals 12) w1 := hd 12 (by kernel_rfl)
            refine stepG_no (unwanted_of rfl rfl (congrArg some dg) rfl) ?_
            clear dg
            exact leaves_mk (Below.refl _ _) trivial (fun h => by cases h)
          · intro vals w1 hb hd
            have dg : KEq (.bool false) (vals 12) w1 := hd 12 (by kernel_rfl)
            refine stepG_no (unwanted_of rfl rfl (congrArg some dg) rfl) ?_
            clear dg
            exact leaves_mk (Below.refl _ _) trivial (fun h => by cases h)
          · intro vals w1 hb hd
            have dg : KEq (.bool false) (vals 12) w1 := hd 12 (by kernel_rfl)
            refine stepG_no (unwanted_of rfl rfl (congrArg some dg) rfl) ?_
            clear dg
            exact leaves_mk (Below.refl _ _) trivial (fun h => by cases h)
          · intro vals w1 hb hd
            have dg : KEq (.bool false) (vals 8) w1 := hd 8 (by kernel_rfl)
            refine stepG_yes (wanted_of rfl rfl (congrArg some dg) rfl) ?_
            clear dg
            have d12 : KEq (.bool false) (vals 12) w1 := hd 12 (by kernel_rfl)
            rw [show vals 12 = _ from d12]
            refine stepOK_value (v := .bool false) (w' := w1) (by go_simp) (leaves_mk (Below.refl _ _) rfl (fun h => by cases h))
        case tlC =>
          intro vals w5 hb5 hf hdis
          simp only [List.drop_succ_cons, List.drop_zero]
          have z8 : vals 8 = _ := hf 8 (by decide)
          rw [z8]; clear z8
          have z20 : vals 20 = _ := hf 20 (by decide)
          rw [z20]; clear z20
          clear hf hdis
          have BX5 := Lib.hid (BX4.out.trans (hb5.mono BX4.out.size)); have HB5 := Lib.hid (HB4.out.trans (hb5.mono HB4.out.size))
          clear hb5
          go_wp2_with fail
          go_roundw
          case rel => exact ⟨q + 1, by omega, by go_num, Lib.hid BX5.out, Lib.hid NB.out⟩
          case measure => simp [intOf]; omega
      · by_cases d1 : (fv : Int) = xr
        · skip
          have NB := Lib.hid (show firstBad f l 0 = firstBad f (l.drop (q + 1)) (q + 1) by rw [FB.out, FD.out, if_neg (by rw [BP.out]; simp; omega)])
          have DV := Lib.hid (show xr < 2 by omega)
          have DD := Lib.hid d1
          refine wp_region_facts (A := ?aaD1) (w := w4) 21 [] (by kernel_rfl) (Fl [KEq (.pointer (some ⟨g4, 2, none⟩)), KEq (.int .i64 xr), KEq (.bool false), KEq (.bool false), KEq (.pointer (some ⟨g4, 2, none⟩)), KEq (.int .i64 xr), KEq (.bool false), KEq (.bool false), KEq (.bool false), KEq (.pointer (some ⟨g4, 2, none⟩)), KEq (.int .i64 xr), KEq (.bool true), KEq (.bool true), KEq (.agg #[.int .i64 f.vars, .slice ao f.nodes.length c, .int .i64 f.top]), KEq (.pointer (some ⟨g4, 0, none⟩)), KEq (.agg #[.int .i64 (xy : Nat), .int .i64 (xn : Nat)]), KEq (.int .i64 (fv : Nat)), KEq (.pointer (some ⟨g4, 2, none⟩)), KEq (.int .i64 xr), KEq (.bool false), KEq (.bool false)]) (fun i => false) (by kernel_rfl) ?hqD1 (monoL (monoC (kEq _) (monoC (kEq _) (monoC (kEq _) (monoC (kEq _) (monoC (kEq _) (monoC (kEq _) (monoC (kEq _) (monoC (kEq _) (monoC (kEq _) (monoC (kEq _) (monoC (kEq _) (monoC (kEq _) (monoC (kEq _) (monoC (kEq _) (monoC (kEq _) (monoC (kEq _) (monoC (kEq _) (monoC (kEq _) (monoC (kEq _) (monoC (kEq _) (monoC (kEq _) monoN)))))))))))))))))))))) ?haD1 ?stD1 ?tlD1
          case hqD1 =>
            intro c a d v w h
            first | (simp only [Exit.then] at h ⊢; exact h) | (simp only [Exit.inBlock, Exit.then] at h ⊢; exact h) | exact h
          case haD1 =>
            intro vals
            simp only [putsTo, dstOf, if_true, Act.put, List.setIfInBounds_toArray, List.set_cons_zero, List.set_cons_succ, List.getElem?_toArray, List.getElem?_cons_zero, List.getElem?_cons_succ, Option.bind_some]
            exact rfl
          case stD1 =>
            simp only [List.take_succ_cons, List.take_zero]
            refine stepsOK_cons rfl rfl ?_ (stepsOK_cons rfl rfl ?_ (stepsOK_cons rfl rfl ?_ (stepsOK_cons rfl rfl ?_ (stepsOK_guard rfl ?_ (stepsOK_guard rfl ?_ (stepsOK_guard rfl ?_ (stepsOK_cons rfl rfl ?_ (stepsOK_cons rfl rfl ?_ (stepsOK_guard rfl ?_ (stepsOK_guard rfl ?_ (stepsOK_guard rfl ?_ (stepsOK_guard rfl ?_ (stepsOK_guard rfl ?_ (stepsOK_guard rfl ?_ (stepsOK_guard rfl ?_ (stepsOK_guard rfl ?_ (stepsOK_guard rfl ?_ (stepsOK_guard rfl ?_ (stepsOK_guard rfl ?_ (stepsOK_guard rfl ?_ (stepsOK_nil)))))))))))))))))))))
            · intro vals w1 hb hd
              refine stepOK_value (v := .pointer (some ⟨g4, 2, none⟩)) (w' := w1) (by go_simp) (leaves_mk (Below.refl _ _) rfl (fun h => by cases h))
            · intro vals w1 hb hd
              have d0 : KEq (.pointer (some ⟨g4, 2, none⟩)) (vals 0) w1 := hd 0 (by kernel_rfl)
              obtain ⟨e0, e1, e2⟩ := row3 (heap_below G4.out hb)
              rw [show vals 0 = _ from d0]
              refine stepOK_value (v := .int .i64 xr) (w' := w1) (by go_simp) (leaves_mk (Below.refl _ _) rfl (fun h => by cases h))
            · intro vals w1 hb hd
              have d1 : KEq (.int .i64 xr) (vals 1) w1 := hd 1 (by kernel_rfl)
              rw [show vals 1 = _ from d1]
              refine stepOK_value (v := .bool false) (w' := w1) (by go_simp; first | done | exact DV.out | omega | (simp only [decide_eq_true_eq, decide_eq_false_iff_not]; omega) | (simp; omega)) (leaves_mk (Below.refl _ _) rfl (fun h => by cases h))
            · intro vals w1 hb hd
              have d2 : KEq (.bool false) (vals 2) w1 := hd 2 (by kernel_rfl)
              rw [show vals 2 = _ from d2]
              refine stepOK_value (v := .bool false) (w' := w1) (by go_simp) (leaves_mk (Below.refl _ _) rfl (fun h => by cases h))
            · intro vals w1 hb hd
              have dg : KEq (.bool false) (vals 3) w1 := hd 3 (by kernel_rfl)
              refine stepG_yes (wanted_of rfl rfl (congrArg some dg) rfl) ?_
              clear dg
              refine stepOK_value (v := .pointer (some ⟨g4, 2, none⟩)) (w' := w1) (by go_simp) (leaves_mk (Below.refl _ _) rfl (fun h => by cases h))
            · intro vals w1 hb hd
              have dg : KEq (.bool false) (vals 3) w1 := hd 3 (by kernel_rfl)
              refine stepG_yes (wanted_of rfl rfl (congrArg some dg) rfl) ?_
              clear dg
              have d4 : KEq (.pointer (some ⟨g4, 2, none⟩)) (vals 4) w1 := hd 4 (by kernel_rfl)
              obtain ⟨e0, e1, e2⟩ := row3 (heap_below G4.out hb)
              rw [show vals 4 = _ from d4]
              refine stepOK_value (v := .int .i64 xr) (w' := w1) (by go_simp) (leaves_mk (Below.refl _ _) rfl (fun h => by cases h))
            · intro vals w1 hb hd
              have dg : KEq (.bool false) (vals 3) w1 := hd 3 (by kernel_rfl)
              refine stepG_yes (wanted_of rfl rfl (congrArg some dg) rfl) ?_
              clear dg
              have d5 : KEq (.int .i64 xr) (vals 5) w1 := hd 5 (by kernel_rfl)
              rw [show vals 5 = _ from d5]
              refine stepOK_value (v := .bool false) (w' := w1) (by go_simp; first | done | exact DV.out | omega | (simp only [decide_eq_true_eq, decide_eq_false_iff_not]; omega) | (simp; omega)) (leaves_mk (Below.refl _ _) rfl (fun h => by cases h))
            · intro vals w1 hb hd
              have d3 : KEq (.bool false) (vals 3) w1 := hd 3 (by kernel_rfl)
              have d6 : KEq (.bool false) (vals 6) w1 := hd 6 (by kernel_rfl)
              rw [show vals 3 = _ from d3]
              rw [show vals 6 = _ from d6]
              refine stepOK_value (v := .bool false) (w' := w1) (by go_simp) (leaves_mk (Below.refl _ _) rfl (fun h => by cases h))
            · intro vals w1 hb hd
              have d7 : KEq (.bool false) (vals 7) w1 := hd 7 (by kernel_rfl)
              rw [show vals 7 = _ from d7]
              refine stepOK_value (v := .bool false) (w' := w1) (by go_simp) (leaves_mk (Below.refl _ _) rfl (fun h => by cases h))
            · intro vals w1 hb hd
              have dg : KEq (.bool false) (vals 8) w1 := hd 8 (by kernel_rfl)
              refine stepG_yes (wanted_of rfl rfl (congrArg some dg) rfl) ?_
              clear dg
              refine stepOK_value (v := .pointer (some ⟨g4, 2, none⟩)) (w' := w1) (by go_simp) (leaves_mk (Below.refl _ _) rfl (fun h => by cases h))
            · intro vals w1 hb hd
              have dg : KEq (.bool false) (vals 8) w1 := hd 8 (by kernel_rfl)
              refine stepG_yes (wanted_of rfl rfl (congrArg some dg) rfl) ?_
              clear dg
              have d9 : KEq (.pointer (some ⟨g4, 2, none⟩)) (vals 9) w1 := hd 9 (by kernel_rfl)
              obtain ⟨e0, e1, e2⟩ := row3 (heap_below G4.out hb)
              rw [show vals 9 = _ from d9]
              refine stepOK_value (v := .int .i64 xr) (w' := w1) (by go_simp) (leaves_mk (Below.refl _ _) rfl (fun h => by cases h))
            · intro vals w1 hb hd
              have dg : KEq (.bool false) (vals 8) w1 := hd 8 (by kernel_rfl)
              refine stepG_yes (wanted_of rfl rfl (congrArg some dg) rfl) ?_
              clear dg
              have d10 : KEq (.int .i64 xr) (vals 10) w1 := hd 10 (by kernel_rfl)
              rw [show vals 10 = _ from d10]
              refine stepOK_value (v := .bool true) (w' := w1) (by go_simp; first | done | exact DV.out | omega | (simp only [decide_eq_true_eq, decide_eq_false_iff_not]; omega) | (simp; omega)) (leaves_mk (Below.refl _ _) rfl (fun h => by cases h))
            · intro vals w1 hb hd
              have dg : KEq (.bool false) (vals 8) w1 := hd 8 (by kernel_rfl)
              refine stepG_yes (wanted_of rfl rfl (congrArg some dg) rfl) ?_
              clear dg
              have d11 : KEq (.bool true) (vals 11) w1 := hd 11 (by kernel_rfl)
              rw [show vals 11 = _ from d11]
              refine stepOK_value (v := .bool true) (w' := w1) (by go_simp) (leaves_mk (Below.refl _ _) rfl (fun h => by cases h))
            · intro vals w1 hb hd
              have dg : KEq (.bool true) (vals 12) w1 := hd 12 (by kernel_rfl)
              refine stepG_yes (wanted_of rfl rfl (congrArg some dg) rfl) ?_
              clear dg
              obtain ⟨e0, e1, e2⟩ := row3 (heap_below G1'.out hb)
              refine stepOK_value (v := .agg #[.int .i64 f.vars, .slice ao f.nodes.length c, .int .i64 f.top]) (w' := w1) (by go_simp) (leaves_mk (Below.refl _ _) rfl (fun h => by cases h))
            · intro vals w1 hb hd
              have dg : KEq (.bool true) (vals 12) w1 := hd 12 (by kernel_rfl)
              refine stepG_yes (wanted_of rfl rfl (congrArg some dg) rfl) ?_
              clear dg
              refine stepOK_value (v := .pointer (some ⟨g4, 0, none⟩)) (w' := w1) (by go_simp) (leaves_mk (Below.refl _ _) rfl (fun h => by cases h))
            · intro vals w1 hb hd
              have dg : KEq (.bool true) (vals 12) w1 := hd 12 (by kernel_rfl)
              refine stepG_yes (wanted_of rfl rfl (congrArg some dg) rfl) ?_
              clear dg
              have d14 : KEq (.pointer (some ⟨g4, 0, none⟩)) (vals 14) w1 := hd 14 (by kernel_rfl)
              obtain ⟨e0, e1, e2⟩ := row3 (heap_below G4.out hb)
              rw [show vals 14 = _ from d14]
              refine stepOK_value (v := .agg #[.int .i64 (xy : Nat), .int .i64 (xn : Nat)]) (w' := w1) (by go_simp) (leaves_mk (Below.refl _ _) rfl (fun h => by cases h))
            · intro vals w1 hb hd
              have dg : KEq (.bool true) (vals 12) w1 := hd 12 (by kernel_rfl)
              refine stepG_yes (wanted_of rfl rfl (congrArg some dg) rfl) ?_
              clear dg
              have d13 : KEq (.agg #[.int .i64 f.vars, .slice ao f.nodes.length c, .int .i64 f.top]) (vals 13) w1 := hd 13 (by kernel_rfl)
              have d15 : KEq (.agg #[.int .i64 (xy : Nat), .int .i64 (xn : Nat)]) (vals 15) w1 := hd 15 (by kernel_rfl)
              have HS := Lib.hid (rvalue_any _ f xy xn w1 (HF.out.below (HB4.out.step hb)) E0.out HCX.out)
              have z13 : vals 13 = _ := d13
              rw [z13]; clear z13
              have z15 : vals 15 = _ := d15
              rw [z15]; clear z15
              refine stepOK_call (by go_simp; first | done | exact ⟨⟨rfl, rfl⟩, rfl⟩) ?_
              (with_reducible refine HS.out.mono ?_); rintro e w2 ⟨rfl, hb2⟩
              exact ⟨_, rfl, leaves_mk hb2 (congrArg (fun n : Nat => Value.int .i64 (n : Int)) HV.out) (fun h => by cases h)⟩
            · intro vals w1 hb hd
              have dg : KEq (.bool true) (vals 12) w1 := hd 12 (by kernel_rfl)
              refine stepG_yes (wanted_of rfl rfl (congrArg some dg) rfl) ?_
              clear dg
              refine stepOK_value (v := .pointer (some ⟨g4, 2, none⟩)) (w' := w1) (by go_simp) (leaves_mk (Below.refl _ _) rfl (fun h => by cases h))
            · intro vals w1 hb hd
              have dg : KEq (.bool true) (vals 12) w1 := hd 12 (by kernel_rfl)
              refine stepG_yes (wanted_of rfl rfl (congrArg some dg) rfl) ?_
              clear dg
              have d17 : KEq (.pointer (some ⟨g4, 2, none⟩)) (vals 17) w1 := hd 17 (by kernel_rfl)
              obtain ⟨e0, e1, e2⟩ := row3 (heap_below G4.out hb)
              rw [show vals 17 = _ from d17]
              refine stepOK_value (v := .int .i64 xr) (w' := w1) (by go_simp) (leaves_mk (Below.refl _ _) rfl (fun h => by cases h))
            · intro vals w1 hb hd
              have dg : KEq (.bool true) (vals 12) w1 := hd 12 (by kernel_rfl)
              refine stepG_yes (wanted_of rfl rfl (congrArg some dg) rfl) ?_
              clear dg
              have d16 : KEq (.int .i64 (fv : Nat)) (vals 16) w1 := hd 16 (by kernel_rfl)
              have d18 : KEq (.int .i64 xr) (vals 18) w1 := hd 18 (by kernel_rfl)
              rw [show vals 16 = _ from d16]
              rw [show vals 18 = _ from d18]
              refine stepOK_value (v := .bool false) (w' := w1) (by go_simp; first | done | exact DD.out | simpa using DD.out | omega) (leaves_mk (Below.refl _ _) rfl (fun h => by cases h))
            · intro vals w1 hb hd
              have dg : KEq (.bool false) (vals 8) w1 := hd 8 (by kernel_rfl)
              refine stepG_yes (wanted_of rfl rfl (congrArg some dg) rfl) ?_
              clear dg
              have d12 : KEq (.bool true) (vals 12) w1 := hd 12 (by kernel_rfl)
              have d19 : KEq (.bool false) (vals 19) w1 := hd 19 (by kernel_rfl)
              rw [show vals 12 = _ from d12]
              rw [show vals 19 = _ from d19]
              refine stepOK_value (v := .bool false) (w' := w1) (by go_simp) (leaves_mk (Below.refl _ _) rfl (fun h => by cases h))
          case tlD1 =>
            intro vals w5 hb5 hf hdis
            simp only [List.drop_succ_cons, List.drop_zero]
            have z8 : vals 8 = _ := hf 8 (by decide)
            rw [z8]; clear z8
            have z20 : vals 20 = _ := hf 20 (by decide)
            rw [z20]; clear z20
            clear hf hdis
            have BX5 := Lib.hid (BX4.out.trans (hb5.mono BX4.out.size)); have HB5 := Lib.hid (HB4.out.trans (hb5.mono HB4.out.size))
            clear hb5
            go_wp2_with fail
            go_roundw
            case rel => exact ⟨q + 1, by omega, by go_num, Lib.hid BX5.out, Lib.hid NB.out⟩
            case measure => simp [intOf]; omega
        · skip
          have R := Lib.hid (show firstBad f l 0 = (q : Int) by rw [FB.out, FD.out, if_pos (by rw [BP.out]; simp; omega)])
          have DV := Lib.hid (show xr < 2 by omega)
          have DD := Lib.hid (show (((fv : Nat) : Int) != xr) = true from bne_iff_ne.2 d1)
          refine wp_region_facts (A := ?aaD2) (w := w4) 21 [] (by kernel_rfl) (Fl [KEq (.pointer (some ⟨g4, 2, none⟩)), KEq (.int .i64 xr), KEq (.bool false), KEq (.bool false), KEq (.pointer (some ⟨g4, 2, none⟩)), KEq (.int .i64 xr), KEq (.bool false), KEq (.bool false), KEq (.bool false), KEq (.pointer (some ⟨g4, 2, none⟩)), KEq (.int .i64 xr), KEq (.bool true), KEq (.bool true), KEq (.agg #[.int .i64 f.vars, .slice ao f.nodes.length c, .int .i64 f.top]), KEq (.pointer (some ⟨g4, 0, none⟩)), KEq (.agg #[.int .i64 (xy : Nat), .int .i64 (xn : Nat)]), KEq (.int .i64 (fv : Nat)), KEq (.pointer (some ⟨g4, 2, none⟩)), KEq (.int .i64 xr), KEq (.bool true), KEq (.bool true)]) (fun i => false) (by kernel_rfl) ?hqD2 (monoL (monoC (kEq _) (monoC (kEq _) (monoC (kEq _) (monoC (kEq _) (monoC (kEq _) (monoC (kEq _) (monoC (kEq _) (monoC (kEq _) (monoC (kEq _) (monoC (kEq _) (monoC (kEq _) (monoC (kEq _) (monoC (kEq _) (monoC (kEq _) (monoC (kEq _) (monoC (kEq _) (monoC (kEq _) (monoC (kEq _) (monoC (kEq _) (monoC (kEq _) (monoC (kEq _) monoN)))))))))))))))))))))) ?haD2 ?stD2 ?tlD2
          case hqD2 =>
            intro c a d v w h
            first | (simp only [Exit.then] at h ⊢; exact h) | (simp only [Exit.inBlock, Exit.then] at h ⊢; exact h) | exact h
          case haD2 =>
            intro vals
            simp only [putsTo, dstOf, if_true, Act.put, List.setIfInBounds_toArray, List.set_cons_zero, List.set_cons_succ, List.getElem?_toArray, List.getElem?_cons_zero, List.getElem?_cons_succ, Option.bind_some]
            exact rfl
          case stD2 =>
            simp only [List.take_succ_cons, List.take_zero]
            refine stepsOK_cons rfl rfl ?_ (stepsOK_cons rfl rfl ?_ (stepsOK_cons rfl rfl ?_ (stepsOK_cons rfl rfl ?_ (stepsOK_guard rfl ?_ (stepsOK_guard rfl ?_ (stepsOK_guard rfl ?_ (stepsOK_cons rfl rfl ?_ (stepsOK_cons rfl rfl ?_ (stepsOK_guard rfl ?_ (stepsOK_guard rfl ?_ (stepsOK_guard rfl ?_ (stepsOK_guard rfl ?_ (stepsOK_guard rfl ?_ (stepsOK_guard rfl ?_ (stepsOK_guard rfl ?_ (stepsOK_guard rfl ?_ (stepsOK_guard rfl ?_ (stepsOK_guard rfl ?_ (stepsOK_guard rfl ?_ (stepsOK_guard rfl ?_ (stepsOK_nil)))))))))))))))))))))
            · intro vals w1 hb hd
              refine stepOK_value (v := .pointer (some ⟨g4, 2, none⟩)) (w' := w1) (by go_simp) (leaves_mk (Below.refl _ _) rfl (fun h => by cases h))
            · intro vals w1 hb hd
              have d0 : KEq (.pointer (some ⟨g4, 2, none⟩)) (vals 0) w1 := hd 0 (by kernel_rfl)
              obtain ⟨e0, e1, e2⟩ := row3 (heap_below G4.out hb)
              rw [show vals 0 = _ from d0]
              refine stepOK_value (v := .int .i64 xr) (w' := w1) (by go_simp) (leaves_mk (Below.refl _ _) rfl (fun h => by cases h))
            · intro vals w1 hb hd
              have d1 : KEq (.int .i64 xr) (vals 1) w1 := hd 1 (by kernel_rfl)
              rw [show vals 1 = _ from d1]
              refine stepOK_value (v := .bool false) (w' := w1) (by go_simp; first | done | exact DV.out | omega | (simp only [decide_eq_true_eq, decide_eq_false_iff_not]; omega) | (simp; omega)) (leaves_mk (Below.refl _ _) rfl (fun h => by cases h))
            · intro vals w1 hb hd
              have d2 : KEq (.bool false) (vals 2) w1 := hd 2 (by kernel_rfl)
              rw [show vals 2 = _ from d2]
              refine stepOK_value (v := .bool false) (w' := w1) (by go_simp) (leaves_mk (Below.refl _ _) rfl (fun h => by cases h))
            · intro vals w1 hb hd
              have dg : KEq (.bool false) (vals 3) w1 := hd 3 (by kernel_rfl)
              refine stepG_yes (wanted_of rfl rfl (congrArg some dg) rfl) ?_
              clear dg
              refine stepOK_value (v := .pointer (some ⟨g4, 2, none⟩)) (w' := w1) (by go_simp) (leaves_mk (Below.refl _ _) rfl (fun h => by cases h))
            · intro vals w1 hb hd
              have dg : KEq (.bool false) (vals 3) w1 := hd 3 (by kernel_rfl)
              refine stepG_yes (wanted_of rfl rfl (congrArg some dg) rfl) ?_
              clear dg
              have d4 : KEq (.pointer (some ⟨g4, 2, none⟩)) (vals 4) w1 := hd 4 (by kernel_rfl)
              obtain ⟨e0, e1, e2⟩ := row3 (heap_below G4.out hb)
              rw [show vals 4 = _ from d4]
              refine stepOK_value (v := .int .i64 xr) (w' := w1) (by go_simp) (leaves_mk (Below.refl _ _) rfl (fun h => by cases h))
            · intro vals w1 hb hd
              have dg : KEq (.bool false) (vals 3) w1 := hd 3 (by kernel_rfl)
              refine stepG_yes (wanted_of rfl rfl (congrArg some dg) rfl) ?_
              clear dg
              have d5 : KEq (.int .i64 xr) (vals 5) w1 := hd 5 (by kernel_rfl)
              rw [show vals 5 = _ from d5]
              refine stepOK_value (v := .bool false) (w' := w1) (by go_simp; first | done | exact DV.out | omega | (simp only [decide_eq_true_eq, decide_eq_false_iff_not]; omega) | (simp; omega)) (leaves_mk (Below.refl _ _) rfl (fun h => by cases h))
            · intro vals w1 hb hd
              have d3 : KEq (.bool false) (vals 3) w1 := hd 3 (by kernel_rfl)
              have d6 : KEq (.bool false) (vals 6) w1 := hd 6 (by kernel_rfl)
              rw [show vals 3 = _ from d3]
              rw [show vals 6 = _ from d6]
              refine stepOK_value (v := .bool false) (w' := w1) (by go_simp) (leaves_mk (Below.refl _ _) rfl (fun h => by cases h))
            · intro vals w1 hb hd
              have d7 : KEq (.bool false) (vals 7) w1 := hd 7 (by kernel_rfl)
              rw [show vals 7 = _ from d7]
              refine stepOK_value (v := .bool false) (w' := w1) (by go_simp) (leaves_mk (Below.refl _ _) rfl (fun h => by cases h))
            · intro vals w1 hb hd
              have dg : KEq (.bool false) (vals 8) w1 := hd 8 (by kernel_rfl)
              refine stepG_yes (wanted_of rfl rfl (congrArg some dg) rfl) ?_
              clear dg
              refine stepOK_value (v := .pointer (some ⟨g4, 2, none⟩)) (w' := w1) (by go_simp) (leaves_mk (Below.refl _ _) rfl (fun h => by cases h))
            · intro vals w1 hb hd
              have dg : KEq (.bool false) (vals 8) w1 := hd 8 (by kernel_rfl)
              refine stepG_yes (wanted_of rfl rfl (congrArg some dg) rfl) ?_
              clear dg
              have d9 : KEq (.pointer (some ⟨g4, 2, none⟩)) (vals 9) w1 := hd 9 (by kernel_rfl)
              obtain ⟨e0, e1, e2⟩ := row3 (heap_below G4.out hb)
              rw [show vals 9 = _ from d9]
              refine stepOK_value (v := .int .i64 xr) (w' := w1) (by go_simp) (leaves_mk (Below.refl _ _) rfl (fun h => by cases h))
            · intro vals w1 hb hd
              have dg : KEq (.bool false) (vals 8) w1 := hd 8 (by kernel_rfl)
              refine stepG_yes (wanted_of rfl rfl (congrArg some dg) rfl) ?_
              clear dg
              have d10 : KEq (.int .i64 xr) (vals 10) w1 := hd 10 (by kernel_rfl)
              rw [show vals 10 = _ from d10]
              refine stepOK_value (v := .bool true) (w' := w1) (by go_simp; first | done | exact DV.out | omega | (simp only [decide_eq_true_eq, decide_eq_false_iff_not]; omega) | (simp; omega)) (leaves_mk (Below.refl _ _) rfl (fun h => by cases h))
            · intro vals w1 hb hd
              have dg : KEq (.bool false) (vals 8) w1 := hd 8 (by kernel_rfl)
              refine stepG_yes (wanted_of rfl rfl (congrArg some dg) rfl) ?_
              clear dg
              have d11 : KEq (.bool true) (vals 11) w1 := hd 11 (by kernel_rfl)
              rw [show vals 11 = _ from d11]
              refine stepOK_value (v := .bool true) (w' := w1) (by go_simp) (leaves_mk (Below.refl _ _) rfl (fun h => by cases h))
            · intro vals w1 hb hd
              have dg : KEq (.bool true) (vals 12) w1 := hd 12 (by kernel_rfl)
              refine stepG_yes (wanted_of rfl rfl (congrArg some dg) rfl) ?_
              clear dg
              obtain ⟨e0, e1, e2⟩ := row3 (heap_below G1'.out hb)
              refine stepOK_value (v := .agg #[.int .i64 f.vars, .slice ao f.nodes.length c, .int .i64 f.top]) (w' := w1) (by go_simp) (leaves_mk (Below.refl _ _) rfl (fun h => by cases h))
            · intro vals w1 hb hd
              have dg : KEq (.bool true) (vals 12) w1 := hd 12 (by kernel_rfl)
              refine stepG_yes (wanted_of rfl rfl (congrArg some dg) rfl) ?_
              clear dg
              refine stepOK_value (v := .pointer (some ⟨g4, 0, none⟩)) (w' := w1) (by go_simp) (leaves_mk (Below.refl _ _) rfl (fun h => by cases h))
            · intro vals w1 hb hd
              have dg : KEq (.bool true) (vals 12) w1 := hd 12 (by kernel_rfl)
              refine stepG_yes (wanted_of rfl rfl (congrArg some dg) rfl) ?_
              clear dg
              have d14 : KEq (.pointer (some ⟨g4, 0, none⟩)) (vals 14) w1 := hd 14 (by kernel_rfl)
              obtain ⟨e0, e1, e2⟩ := row3 (heap_below G4.out hb)
              rw [show vals 14 = _ from d14]
              refine stepOK_value (v := .agg #[.int .i64 (xy : Nat), .int .i64 (xn : Nat)]) (w' := w1) (by go_simp) (leaves_mk (Below.refl _ _) rfl (fun h => by cases h))
            · intro vals w1 hb hd
              have dg : KEq (.bool true) (vals 12) w1 := hd 12 (by kernel_rfl)
              refine stepG_yes (wanted_of rfl rfl (congrArg some dg) rfl) ?_
              clear dg
              have d13 : KEq (.agg #[.int .i64 f.vars, .slice ao f.nodes.length c, .int .i64 f.top]) (vals 13) w1 := hd 13 (by kernel_rfl)
              have d15 : KEq (.agg #[.int .i64 (xy : Nat), .int .i64 (xn : Nat)]) (vals 15) w1 := hd 15 (by kernel_rfl)
              have HS := Lib.hid (rvalue_any _ f xy xn w1 (HF.out.below (HB4.out.step hb)) E0.out HCX.out)
              have z13 : vals 13 = _ := d13
              rw [z13]; clear z13
              have z15 : vals 15 = _ := d15
              rw [z15]; clear z15
              refine stepOK_call (by go_simp; first | done | exact ⟨⟨rfl, rfl⟩, rfl⟩) ?_
              (with_reducible refine HS.out.mono ?_); rintro e w2 ⟨rfl, hb2⟩
              exact ⟨_, rfl, leaves_mk hb2 (congrArg (fun n : Nat => Value.int .i64 (n : Int)) HV.out) (fun h => by cases h)⟩
            · intro vals w1 hb hd
              have dg : KEq (.bool true) (vals 12) w1 := hd 12 (by kernel_rfl)
              refine stepG_yes (wanted_of rfl rfl (congrArg some dg) rfl) ?_
              clear dg
              refine stepOK_value (v := .pointer (some ⟨g4, 2, none⟩)) (w' := w1) (by go_simp) (leaves_mk (Below.refl _ _) rfl (fun h => by cases h))
            · intro vals w1 hb hd
              have dg : KEq (.bool true) (vals 12) w1 := hd 12 (by kernel_rfl)
              refine stepG_yes (wanted_of rfl rfl (congrArg some dg) rfl) ?_
              clear dg
              have d17 : KEq (.pointer (some ⟨g4, 2, none⟩)) (vals 17) w1 := hd 17 (by kernel_rfl)
              obtain ⟨e0, e1, e2⟩ := row3 (heap_below G4.out hb)
              rw [show vals 17 = _ from d17]
              refine stepOK_value (v := .int .i64 xr) (w' := w1) (by go_simp) (leaves_mk (Below.refl _ _) rfl (fun h => by cases h))
            · intro vals w1 hb hd
              have dg : KEq (.bool true) (vals 12) w1 := hd 12 (by kernel_rfl)
              refine stepG_yes (wanted_of rfl rfl (congrArg some dg) rfl) ?_
              clear dg
              have d16 : KEq (.int .i64 (fv : Nat)) (vals 16) w1 := hd 16 (by kernel_rfl)
              have d18 : KEq (.int .i64 xr) (vals 18) w1 := hd 18 (by kernel_rfl)
              rw [show vals 16 = _ from d16]
              rw [show vals 18 = _ from d18]
              refine stepOK_value (v := .bool true) (w' := w1) (by go_simp; first | done | exact DD.out | simpa using DD.out | omega) (leaves_mk (Below.refl _ _) rfl (fun h => by cases h))
            · intro vals w1 hb hd
              have dg : KEq (.bool false) (vals 8) w1 := hd 8 (by kernel_rfl)
              refine stepG_yes (wanted_of rfl rfl (congrArg some dg) rfl) ?_
              clear dg
              have d12 : KEq (.bool true) (vals 12) w1 := hd 12 (by kernel_rfl)
              have d19 : KEq (.bool true) (vals 19) w1 := hd 19 (by kernel_rfl)
              rw [show vals 12 = _ from d12]
              rw [show vals 19 = _ from d19]
              refine stepOK_value (v := .bool true) (w' := w1) (by go_simp) (leaves_mk (Below.refl _ _) rfl (fun h => by cases h))
          case tlD2 =>
            intro vals w5 hb5 hf hdis
            simp only [List.drop_succ_cons, List.drop_zero]
            have z8 : vals 8 = _ := hf 8 (by decide)
            rw [z8]; clear z8
            have z20 : vals 20 = _ := hf 20 (by decide)
            rw [z20]; clear z20
            clear hf hdis
            have BX5 := Lib.hid (BX4.out.trans (hb5.mono BX4.out.size)); have HB5 := Lib.hid (HB4.out.trans (hb5.mono HB4.out.size))
            clear hb5
            go_wp2_with fail
            go_ret
            exact ⟨by rw [R.out]; rfl, HB5.out⟩
    · have hq' : q = l.length := by omega
      subst hq'
      have R := Lib.hid (show firstBad f l 0 = -1 by rw [FB.out, List.drop_length]; rfl)
      go_wp2_with fail
      go_ret
      exact ⟨by rw [R.out]; rfl, HBo.out⟩

set_option maxRecDepth 100000 in
set_option maxHeartbeats 4000000 in
theorem rverify_any (vf x : Value) (f : Fm) (t : Tr) (w : World) (hf : FmV w vf f) (ht : TrV w x t) :
    Calls Tryz.prog 12 #[vf, x] w (RetV w (.tuple #[.bool (verV f t).1, .int .i64 (verV f t).2.1, .int .i64 ((verV f t).2.2 : Nat)])) := by
  have hrs := leaves_reason t x 0 0 ht
  obtain ⟨ec, hec⟩ : ∃ ec, cErr f t = ec := ⟨_, rfl⟩
  obtain ⟨nv, rfl, hn, hv, htp⟩ := hf
  obtain ⟨ao, c, rfl, hc, hc2, _⟩ := hn.shape
  have HF := Lib.hid (show FmV w _ f from ⟨_, rfl, hn, hv, htp⟩)
  have HT := Lib.hid ht
  obtain ⟨tv, tr, ta, tn, tc, rfl⟩ := ht.shape
  obtain ⟨W, hW⟩ : ∃ W, W = (w.alloc (.cells #[.int .i64 f.vars, .slice ao f.nodes.length c, .int .i64 f.top] 24)).alloc (.cells #[.int .i64 tv, .slice ta tn tc, .int .i64 tr] 27) := ⟨_, rfl⟩
  have hbW : Below w.heap.size w W := by rw [hW]; exact ((Below.refl _ _).alloc (Nat.le_refl _) _).alloc (by simp) _
  have hg1 : W.heap[w.heap.size]? = some (.cells #[.int .i64 f.vars, .slice ao f.nodes.length c, .int .i64 f.top] 24) := by rw [hW]; exact heap_alloc2_old w _ _
  have hg2 : W.heap[w.heap.size + 1]? = some (.cells #[.int .i64 tv, .slice ta tn tc, .int .i64 tr] 27) := by rw [hW]; exact heap_alloc2_new w _ _
  obtain ⟨g1, hG1⟩ : ∃ g, g = w.heap.size := ⟨_, rfl⟩
  obtain ⟨g2, hG2⟩ : ∃ g, g = w.heap.size + 1 := ⟨_, rfl⟩
  rw [← hG1] at hg1; rw [← hG2] at hg2
  have HBW := Lib.hid hbW; have G1 := Lib.hid hg1; have G2 := Lib.hid hg2
  obtain ⟨x0, x1, x2⟩ := row3 hg1
  obtain ⟨y0, y1, y2⟩ := row3 hg2
  rw [hW, hG1] at x0 x1 x2
  rw [hW, hG2] at y0 y1 y2
  clear hbW hg1 hg2 hn hv htp ht
  have HK := Lib.hid (rerror_any _ _ f t W (HF.out.below HBW.out) (HT.out.below HBW.out))
  rw [hec] at HK
  go_enter Tryz.func12, Tryz.ntmps12
  go_wp2_with (with_reducible refine pauseCall ?_)
  rw [← hW, ← hG2, ← hG1]; clear hW hG1 hG2 x0 x1 x2 y0 y1 y2
  refine Pause.mk ?_
  (with_reducible refine HK.out.mono ?_); rintro e w1 ⟨rfl, hb1⟩
  have HB1 := Lib.hid (HBW.out.trans (hb1.mono HBW.out.size))
  have G1 := Lib.hid (heap_below G1.out hb1)
  obtain ⟨x0, x1, x2⟩ := row3 G1.out
  obtain ⟨y0, y1, y2⟩ := row3 (heap_below G2.out hb1)
  clear hb1 HK
  by_cases h0 : ec = 0
  · subst h0
    obtain ⟨fb, hfb⟩ : ∃ fb, fb = firstBad f (trLeaves t 0 0) 0 := ⟨_, rfl⟩
    have VV := Lib.hid (show verV f t = (decide (fb < 0), fb, 0) by unfold verV; rw [if_pos hec, hfb])
    have hfm := (cErr_ok hec).1
    obtain ⟨p0, p1, _, _⟩ := fmErr_parts hfm
    have HK := Lib.hid (rLeaves_any _ t f.vars w1 (HT.out.below HB1.out) ⟨p0, p1⟩ 0 (by rw [← cErr_t hfm]; exact hec))
    have HCT := Lib.hid (cert_cubes hec); have HLN := Lib.hid (cert_len hec); have HRS := Lib.hid hrs; have HFM := Lib.hid hfm; have HP := Lib.hid (And.intro p0 p1)
    clear hec hfm p0 p1 hrs
    go_wp2_with (with_reducible refine pauseCall ?_)
    refine Pause.mk ?_
    (with_reducible refine HK.out.mono ?_); rintro e w2 ⟨v', rfl, hb2, hl⟩
    have HB2 := Lib.hid (HB1.out.trans (hb2.mono HB1.out.size))
    have HK := Lib.hid (rwrong_any _ v' f _ w2 (HF.out.below HB2.out) (hl (by first | rfl | trivial)) HFM.out (fun z hz => okC_cube (HCT.out z hz) HP.out.1 HP.out.2) HRS.out HLN.out)
    rw [← hfb] at HK
    clear x0 x1 x2 y0 y1 y2 hfb
    obtain ⟨x0, x1, x2⟩ := row3 (heap_below G1.out hb2)
    clear hb2 hl
    go_wp2_with (with_reducible refine pauseCall ?_)
    clear x0 x1 x2
    refine Pause.mk ?_
    (with_reducible refine HK.out.mono ?_); rintro e w3 ⟨rfl, hb3⟩
    have HB3 := Lib.hid (HB2.out.trans (hb3.mono HB2.out.size))
    clear hb3 HK
    go_wp2_with fail
    go_ret3
    exact ⟨by rw [VV.out]; rfl, HB3.out⟩
  · have VV := Lib.hid (show verV f t = (false, 0, ec) by unfold verV; rw [if_neg (by rw [hec]; exact h0), hec])
    clear hec hrs
    have h0' : ¬ ((ec : Nat) : Int) = 0 := by omega
    go_wp2_with fail
    go_ret3
    exact ⟨by rw [VV.out]; rfl, HB1.out⟩
end Go.Proofs.YthhgfhdmfhnklaaGreatDoor
/-
  Arguments that are formulas and trees.
  Conditions: none beyond each theorem's own.
-/
namespace Go.Proofs.YthhgfhdmfhnklaaGreatDoor
open Go.RowKit Go.ChangeShapes Go.WideShapes Go.Joins Go.Deep

theorem treeTys : TreeTys Tryz.prog 3 25 27 :=
  ⟨Tryz.underlying3, by kernel_rfl, Tryz.underlying25, by kernel_rfl, by kernel_rfl, ⟨_, _, _, Tryz.underlying27, rfl, rfl, rfl, rfl, rfl, rfl⟩⟩
set_option maxRecDepth 100000 in
set_option maxHeartbeats 1600000 in
theorem open_tr {H : Type} {enc : TypeId × Value → H} {W : World} {v : Value} {d : DataW H} {p : List MemPlace} {base : Nat}
    (hv : Value.okWide Tryz.prog W .any base 27 v) (h : DataW.Trod enc Tryz.prog W 0 (fun _ => true) true 27 v d p) : ∃ t, TrV W v t := by
  obtain ⟨cs, rfl, hsz⟩ := okWide_struct Tryz.underlying27 hv
  obtain ⟨c0, c1, c2, rfl⟩ := array3 (hsz.trans (by kernel_rfl))
  obtain ⟨fuel, hf⟩ := h
  obtain ⟨a, r, ks, kv, e, hk, ha, hr⟩ := open_tree treeTys _ fuel _ d p (Nat.lt_succ_self _) hf
  have e' : [c0, c1, c2] = [.int .i64 a, kv, .int .i64 r] := e
  simp only [List.cons.injEq, and_true] at e'
  obtain ⟨rfl, rfl, rfl⟩ := e'
  exact ⟨.mk a ks r, c1, rfl, hk, ha, hr⟩
end Go.Proofs.YthhgfhdmfhnklaaGreatDoor
/-
  Intervals: their ends' lengths, their order, what sums and products of ends come to.
  Conditions: none beyond each theorem's own.
-/
namespace Go.Proofs.YthhgfhdmfhnklaaGreatDoor

def stC (a b : Rat × Rat) : Nat := if (sMeet a b).1 ≤ (sMeet a b).2 then 0 else 17
end Go.Proofs.YthhgfhdmfhnklaaGreatDoor
