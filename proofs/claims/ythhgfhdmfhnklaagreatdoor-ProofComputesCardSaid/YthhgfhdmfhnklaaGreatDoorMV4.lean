/-
  What the law leans on, one text behind the other (the base).
  Conditions: each theorem's own.
-/
import Derived.Laws.AppendOwn
import Derived.Test.YthhgfhdmfhnklaaGreatDoorMV3
set_option maxRecDepth 100000
set_option maxHeartbeats 16000000
namespace Go.Proofs.YthhgfhdmfhnklaaGreatDoor
open Go.RowKit Go.ChangeShapes Go.WideShapes
def ivals (l : List Int) : List Value := l.map fun x => Value.int .i64 x
theorem ivals_at {l : List Int} {j : Nat} {x : Int} (h : l[j]? = some x) : (ivals l)[j]? = some (.int .i64 x) := by simp [ivals, h]
theorem ivals_app (a b : List Int) : ivals (a ++ b) = ivals a ++ ivals b := by simp [ivals]
def qdq (l : List Nat) : List Int := l.map fun x : Nat => (x : Int)
theorem qbw (l : List Nat) : (qdq l).length = l.length := by simp [qdq]
theorem nints_app (a b : List Nat) : qdq (a ++ b) = qdq a ++ qdq b := by simp [qdq]
theorem nints_at {l : List Nat} {j : Nat} (h : j < l.length) : (qdq l)[j]? = some (gd l j : Int) := by
 simp [qdq, gd, List.getElem?_eq_getElem h]
theorem own_cells {w : World} {B : Nat} {e : TypeId} {size n : Nat} {v : Value} {xs : List Value} (h : w.ownsRow B e size v n xs) {ao : Option Addr} {m c : Nat} (hv : v = .slice ao m c) (hn : 0 < n) :
  ∃ g, ao = some ⟨g, 0, none⟩ ∧ B ≤ g ∧ g < w.heap.size ∧ m = n ∧ n ≤ c ∧ ∀ j u, xs[j]? = some u → w.cell? ⟨g, j, none⟩ = some u := by
 have hc := fun g hg => World.ownsRow.cells (g := g) h hg
 have hlt := World.ownsRow.lt h
 rcases h.2 with ⟨h1, h2⟩ | ⟨g, cap, cur, h1, hb, hh, hcap, hm, hs, ht⟩
 ·omega
 ·rw [h1] at hv
  cases hv
  subst h1
  refine ⟨g, rfl, hb, (hlt g rfl).2, rfl, hcap, fun j u hj => ?_⟩
  have := hc g rfl j u hj
  rw [qgc] at this
  simpa using this
theorem qff {w : World} {B : Nat} {e : TypeId} {size n : Nat} {v : Value} {xs : List Value} (h : w.ownsRow B e size v n xs) : ∃ ao c, v = .slice ao n c ∧ n ≤ c ∧ c ≤ 9223372036854775807 ∧ (ao = none → c = 0) := by
 rcases h.2 with ⟨h1, h2⟩ | ⟨g, cap, cur, h1, hb, hh, hcap, hm, hs, ht⟩
 ·subst h2; exact ⟨none, 0, h1, by omega, by omega, fun _ => rfl⟩
 ·exact ⟨some ⟨g, 0, none⟩, cap, h1, hcap, by unfold maxLen at hm; omega, fun h => by cases h⟩
theorem own_low {w w' w0 : World} {B n size : Nat} {e : TypeId} {v0 : Value} {xs : List Value} (ho : w.ownsRow B e size v0 n xs) (hg : w.grownBy w' v0.ownBlock) (hb : Below B w0 w) (hB : B ≤ w.heap.size) : Below B w0 w' := by
 refine hb.grown hg hB ?_
 intro k hk
 exact (World.ownsRow.lt ho k hk).1
theorem qcg {w w' : World} {B : Nat} {e : TypeId} {size n : Nat} {v : Value} {xs : List Value} (h : w.ownsRow B e size v n xs) (hb : Below w.heap.size w w') : w'.ownsRow B e size v n xs :=
 World.ownsRow.kept (row := none) h ⟨hb.os, hb.tape, hb.output, hb.size, fun k hk _ => hb.block k hk⟩ (by cases hv : v.ownBlock <;> simp)
theorem own_ints {w : World} {B : Nat} {e : TypeId} {v : Value} {l : List Int} (h : w.ownsRow B e 1 v l.length (ivals l)) (hl : ∀ x ∈ l, I64 x) : qfd w v l := by
 obtain ⟨ao, c, rfl, h1, h2, h3⟩ := qff h
 refine ⟨ao, c, rfl, h1, h2, h3, ?_, hl⟩
 intro b off s hs
 subst hs
 by_cases h0 : 0 < l.length
 ·obtain ⟨g, e1, e2, e3, e4, e5, e6⟩ := own_cells h rfl h0
  cases e1
  exact ⟨fun _ => ⟨e3, rfl⟩, fun j x hj => by rw [Nat.zero_add]; exact e6 j _ (ivals_at hj)⟩
 ·have : l = [] := List.eq_nil_of_length_eq_zero (by omega)
  subst this
  exact ⟨fun h => absurd h (Nat.lt_irrefl _), fun j x hj => by simp at hj⟩
theorem nints_lt {l : List Nat} (h : ∀ j, gd l j ≤ 1000000) : ∀ x ∈ qdq l, I64 x := by
 intro x hx
 obtain ⟨y, hy, rfl⟩ := List.mem_map.1 hx
 obtain ⟨j, hj, e⟩ := List.getElem_of_mem hy
 have := h j
 rw [gd_lt l j hj, e] at this
 exact ⟨by omega, by omega⟩

def Lf.cells (x : Lf) : List Value := [.int .i64 x.yes, .int .i64 x.no, .int .i64 x.reason]
def qdi (l : List Lf) : List Value := l.flatMap Lf.cells
theorem lfCells_app (a b : List Lf) : qdi (a ++ b) = qdi a ++ qdi b := by simp [qdi]
theorem lfCells_one (t : Lf) : qdi [t] = t.cells := by simp [qdi]
theorem lfCells_at (ts : List Lf) : ∀ (i k : Nat) (t : Lf), ts[i]? = some t → k < 3 → (qdi ts)[i * 3 + k]? = t.cells[k]? := by
 induction ts with
 | nil => intro i k t h; simp at h
 | cons x ts ih =>
  intro i k t h hk
  cases i with
  | zero =>
   simp at h; subst h
   rw [show qdi (x :: ts) = x.cells ++ qdi ts from rfl, List.getElem?_append_left (by simp [Lf.cells]; omega)]
   simp
  | succ i =>
   simp only [List.getElem?_cons_succ] at h
   rw [show qdi (x :: ts) = x.cells ++ qdi ts from rfl, List.getElem?_append_right (by simp [Lf.cells]; omega)]
   rw [show (i + 1) * 3 + k - x.cells.length = i * 3 + k by simp [Lf.cells]; omega]
   exact ih i k t h hk
def LfAt (w : World) (b off : Nat) (x : Lf) : Prop :=
 w.cell? ⟨b, off, none⟩ = some (.int .i64 x.yes) ∧ w.cell? ⟨b, off + 1, none⟩ = some (.int .i64 x.no) ∧ w.cell? ⟨b, off + 2, none⟩ = some (.int .i64 x.reason)
def LfsV (w : World) (v : Value) (l : List Lf) : Prop :=
 ∃ ao c, v = .slice ao l.length c ∧ l.length ≤ c ∧ c ≤ 9223372036854775807 ∧ (ao = none → c = 0) ∧
  ∀ b off s, ao = some ⟨b, off, s⟩ → (0 < l.length → b < w.heap.size ∧ s = none) ∧ ∀ (j : Nat) x, l[j]? = some x → LfAt w b (off + j * 3) x
theorem getElem?_pos' {α : Type} {l : List α} {j : Nat} {x : α} (h : l[j]? = some x) : 0 < l.length := by
 rcases Nat.eq_zero_or_pos l.length with k | k
 ·rw [List.length_eq_zero_iff] at k; rw [k] at h; cases h
 ·exact k
theorem LfsV.mono {w w' : World} {v : Value} {l : List Lf} {B : Nat} (h : LfsV w v l) (hb : Below B w w') (hB : w.heap.size ≤ B) : LfsV w' v l := by
 obtain ⟨ao, c, rfl, h1, h2, h3, h4⟩ := h
 refine ⟨ao, c, rfl, h1, h2, h3, ?_⟩
 intro b off s hs
 obtain ⟨k1, k3⟩ := h4 b off s hs
 refine ⟨fun h0 => ⟨Nat.lt_of_lt_of_le (k1 h0).1 hb.size, (k1 h0).2⟩, fun j x hj => ?_⟩
 have hlt := Nat.lt_of_lt_of_le (k1 (getElem?_pos' hj)).1 hB
 obtain ⟨q1, q2, q3⟩ := k3 j x hj
 refine ⟨?_, ?_, ?_⟩
 ·rw [hb.cell (p := ⟨b, _, none⟩) hlt]; exact q1
 ·rw [hb.cell (p := ⟨b, _, none⟩) hlt]; exact q2
 ·rw [hb.cell (p := ⟨b, _, none⟩) hlt]; exact q3
theorem LfsV.below {w w' : World} {v : Value} {l : List Lf} (h : LfsV w v l) (hb : Below w.heap.size w w') : LfsV w' v l := h.mono hb (Nat.le_refl _)
theorem LfsV.shape {w : World} {v : Value} {l : List Lf} (h : LfsV w v l) : ∃ ao c, v = .slice ao l.length c ∧ l.length ≤ c ∧ c ≤ 9223372036854775807 ∧ (ao = none → c = 0) := by
 obtain ⟨ao', c', e, h1, h2, h3, h4⟩ := h
 exact ⟨ao', c', e, h1, h2, h3⟩
theorem LfsV.at {w : World} {ao : Option Addr} {n c : Nat} {l : List Lf} (h : LfsV w (.slice ao n c) l) (hn : 0 < n) :
  ∃ b off, ao = some ⟨b, off, none⟩ ∧ b < w.heap.size ∧ n = l.length ∧ ∀ (j : Nat) x, l[j]? = some x → LfAt w b (off + j * 3) x := by
 obtain ⟨ao', c', e, h1, h2, h3, h4⟩ := h
 cases e
 cases hao : ao with
 | none => have := h3 hao; omega
 | some a =>
  obtain ⟨b, off, s⟩ := a
  obtain ⟨k1, k2⟩ := h4 b off s hao
  obtain ⟨k3, rfl⟩ := k1 hn
  exact ⟨b, off, rfl, k3, rfl, k2⟩
theorem own_lfs {w : World} {B : Nat} {e : TypeId} {v : Value} {l : List Lf} (h : w.ownsRow B e 3 v l.length (qdi l)) : LfsV w v l := by
 obtain ⟨ao, c, rfl, h1, h2, h3⟩ := qff h
 refine ⟨ao, c, rfl, h1, h2, h3, ?_⟩
 intro b off s hs
 subst hs
 by_cases h0 : 0 < l.length
 ·obtain ⟨g, e1, e2, e3, e4, e5, e6⟩ := own_cells h rfl h0
  cases e1
  refine ⟨fun _ => ⟨e3, rfl⟩, fun j x hj => ?_⟩
  have k := fun k hk => lfCells_at l j k x hj hk
  rw [Nat.zero_add]
  refine ⟨e6 _ _ (by have := k 0 (by omega); simpa [Lf.cells] using this), e6 _ _ (by have := k 1 (by omega); simpa [Lf.cells] using this), e6 _ _ (by have := k 2 (by omega); simpa [Lf.cells] using this)⟩
 ·have : l = [] := List.eq_nil_of_length_eq_zero (by omega)
  subst this
  exact ⟨fun h => absurd h (Nat.lt_irrefl _), fun j x hj => by simp at hj⟩

section
variable {P : Program} {w : World} {ops : Array Oper} {rest : List Oper} {a : Act} {Q : Exit → Act → World → Prop}
theorem qby {d : Option Tmp} {tt : TypeId} {args : Array Operand} {tys : Array TypeId} {pos : String} {af : Array Edge}
  (h : qap (wpList P ops Q (⟨d, .call { callee := .builtin .append, args := args, argTypes := tys }, tt, pos, af, none⟩ :: rest) a w)) : wpList P ops Q (⟨d, .call { callee := .builtin .append, args := args, argTypes := tys }, tt, pos, af, none⟩ :: rest) a w := h
theorem qec {d : Option Tmp} {tt : TypeId} {s x : Operand} {t e : TypeId} {pos : String} {af : Array Edge}
  (base : Nat) {z : Value} {size bytes : Nat} (T : qee P t e z size bytes) (hzs : z.cells.size = size) (hsz : 0 < size)
  (v : Value) (n : Nat) (xs news : List Value) (g0 : Nat) (T0 : TypeId) (hs : a.eval s = v) (hx : a.eval x = .slice (some ⟨g0, 0, none⟩) 1 1) (hown : w.ownsRow base e size v n xs) (hg0 : w.heap[g0]? = some (.cells news.toArray T0)) (hl : news.length = size)
  (h1 : news.all (fun u => u.oneCell') = true) (hn : n ≤ 1000000) (hby : bytes ≤ 1000) (hbase : base ≤ w.heap.size)
  (hK : ∀ v' w', w'.ownsRow base e size v' (n + 1) (xs ++ news) → w.grownBy w' v.ownBlock → wpList P ops Q rest (a.put d v') w') :
  qap (wpList P ops Q (⟨d, .call { callee := .builtin .append, args := #[s, x], argTypes := #[t, t] }, tt, pos, af, none⟩ :: rest) a w) := by
 obtain ⟨i0, hi, hz0, hz1, hz2⟩ := T.info
 have hbb : (n + 1) * bytes ≤ 140737488355328 := Nat.le_trans (Nat.mul_le_mul (show n + 1 ≤ 1000001 by omega) hby) (by decide)
 refine wpList_append_own w rfl s x t rfl base e i0 z size bytes T.under hi hz0 hz1 hz2 hzs hsz v n xs hs hown ⟨g0, 0, none⟩ 1 1 news hx (by omega) (fun j u hu => ?_) (fun u hu => List.all_eq_true.1 h1 u hu) (by unfold maxLen; omega) hbb hbase (fun v' w' k1 k2 _ => hK v' w' k1 k2)
 rw [qgc, Nat.zero_add, cell_of_row w g0 j news.toArray T0 (0, 0) hg0]
 simpa using hu
end
def RvAt (w : World) (b off : Nat) (r : Rv) : Prop := ∃ va vb, w.cell? ⟨b, off, none⟩ = some (.bool r.s) ∧ w.cell? ⟨b, off + 1, none⟩ = some va ∧ w.cell? ⟨b, off + 2, none⟩ = some vb ∧ Num w va r.a ∧ Num w vb r.b
def RvsV (w : World) (v : Value) (l : List Rv) : Prop :=
 ∃ ao c, v = .slice ao l.length c ∧ l.length ≤ c ∧ c ≤ 9223372036854775807 ∧ (ao = none → c = 0) ∧
  ∀ b off s, ao = some ⟨b, off, s⟩ → (0 < l.length → b < w.heap.size ∧ s = none) ∧ ∀ (j : Nat) x, l[j]? = some x → RvAt w b (off + j * 3) x
theorem RvsV.below {w w' : World} {v : Value} {l : List Rv} (h : RvsV w v l) (hb : Below w.heap.size w w') : RvsV w' v l := by
 obtain ⟨ao, c, rfl, h1, h2, h3, h4⟩ := h
 refine ⟨ao, c, rfl, h1, h2, h3, ?_⟩
 intro b off s hs
 obtain ⟨k1, k3⟩ := h4 b off s hs
 refine ⟨fun h0 => ⟨Nat.lt_of_lt_of_le (k1 h0).1 hb.size, (k1 h0).2⟩, fun j x hj => ?_⟩
 have hlt := (k1 (getElem?_pos' hj)).1
 obtain ⟨va, vb, q1, q2, q3, q4, q5⟩ := k3 j x hj
 refine ⟨va, vb, ?_, ?_, ?_, q4.below hb, q5.below hb⟩
 ·rw [hb.cell (p := ⟨b, _, none⟩) hlt]; exact q1
 ·rw [hb.cell (p := ⟨b, _, none⟩) hlt]; exact q2
 ·rw [hb.cell (p := ⟨b, _, none⟩) hlt]; exact q3
theorem RvsV.shape {w : World} {v : Value} {l : List Rv} (h : RvsV w v l) : ∃ ao c, v = .slice ao l.length c ∧ l.length ≤ c ∧ c ≤ 9223372036854775807 ∧ (ao = none → c = 0) := by
 obtain ⟨ao', c', e, h1, h2, h3, h4⟩ := h
 exact ⟨ao', c', e, h1, h2, h3⟩
theorem RvsV.at {w : World} {ao : Option Addr} {n c : Nat} {l : List Rv} (h : RvsV w (.slice ao n c) l) (hn : 0 < n) :
  ∃ b off, ao = some ⟨b, off, none⟩ ∧ b < w.heap.size ∧ n = l.length ∧ ∀ (j : Nat) x, l[j]? = some x → RvAt w b (off + j * 3) x := by
 obtain ⟨ao', c', e, h1, h2, h3, h4⟩ := h
 cases e
 cases hao : ao with
 | none => have := h3 hao; omega
 | some a =>
  obtain ⟨b, off, s⟩ := a
  obtain ⟨k1, k2⟩ := h4 b off s hao
  obtain ⟨k3, rfl⟩ := k1 hn
  exact ⟨b, off, rfl, k3, rfl, k2⟩
theorem RvAt.val {w : World} {b off : Nat} {r : Rv} (h : RvAt w b off r) : ∃ ao n c bo m d, w.cell? ⟨b, off, none⟩ = some (.bool r.s) ∧ w.cell? ⟨b, off + 1, none⟩ = some (.slice ao n c) ∧ w.cell? ⟨b, off + 2, none⟩ = some (.slice bo m d) ∧ RatV w (.agg #[.bool r.s, .slice ao n c, .slice bo m d]) r.s r.a r.b := by
 obtain ⟨va, vb, q1, q2, q3, q4, q5⟩ := h
 obtain ⟨ao, c, rfl, _⟩ := q4.shape
 obtain ⟨bo, d, rfl, _⟩ := q5.shape
 exact ⟨ao, _, c, bo, _, d, q1, q2, q3, _, _, rfl, q4, q5⟩
theorem arguments_any (k : Int) (n : Nat) (w : World) (hn : n ≤ 9223372036854775807) : Calls Tryz.prog 120 #[.int .i64 k, .int .i64 (n : Nat)] w (RetS w (.bool (qcz k n))) := by
 by_cases h0 : k = 0
 ·subst h0
  go_enter Tryz.func120, Tryz.ntmps120
  go_wp2
  go_ret
  exact ⟨qdp (by rw [Bool.eq_iff_iff]; simp [qcz] <;> omega), rfl⟩
 by_cases h1 : k = 1
 ·subst h1
  go_enter Tryz.func120, Tryz.ntmps120
  go_wp2
  go_ret
  exact ⟨qdp (by rw [Bool.eq_iff_iff]; simp [qcz] <;> omega), rfl⟩
 by_cases h2 : 1 ≤ (n : Int)
 ·go_enter Tryz.func120, Tryz.ntmps120
  go_wp2
  go_ret
  exact ⟨qdp (by rw [Bool.eq_iff_iff]; simp [qcz, h0, h1] <;> omega), rfl⟩
 ·go_enter Tryz.func120, Tryz.ntmps120
  go_wp2
  go_ret
  exact ⟨qdp (by rw [Bool.eq_iff_iff]; simp [qcz, h0, h1] <;> omega), rfl⟩

theorem fvalid_any (vf : Value) (f : Fm) (a : Int) (w : World) (hf : FmV w vf f) (ha : I64 a) : Calls Tryz.prog 81 #[vf, .int .i64 a] w (qea w (.bool (argOK f a))) := by
 obtain ⟨nv, rfl, hn, hv, _⟩ := hf
 obtain ⟨ao, c, rfl, hc, hc2, _⟩ := hn.shape
 clear hn
 obtain ⟨v, ns, top⟩ := f
 simp only at hv hc ⊢
 unfold I64 at ha hv
 have key : ∀ b : Bool, (b = true ↔ 0 ≤ v ∧ 0 ≤ a ∧ (a < v ∨ a - v < ns.length)) → b = argOK ⟨v, ns, top⟩ a := fun b hb => by rw [Bool.eq_iff_iff, hb]; simp [argOK]
 have KEY := qHd key; clear key
 by_cases c1 : 0 ≤ v
 ·by_cases c2 : 0 ≤ a
  ·by_cases c3 : a < v
   ·go_enter Tryz.func81, Tryz.ntmps81
    go_wp2
    go_ret
    exact ⟨qdp (KEY.out _ (by simp; omega)), (Below.refl _ _).alloc (Nat.le_refl _) _⟩
   ·go_enter Tryz.func81, Tryz.ntmps81
    go_wp2
    go_ret
    exact ⟨qdp (KEY.out _ (by simp; omega)), (Below.refl _ _).alloc (Nat.le_refl _) _⟩
  ·go_enter Tryz.func81, Tryz.ntmps81
   go_wp2
   go_ret
   exact ⟨qdp (KEY.out _ (by simp; omega)), (Below.refl _ _).alloc (Nat.le_refl _) _⟩
 ·go_enter Tryz.func81, Tryz.ntmps81
  go_wp2
  go_ret
  exact ⟨qdp (KEY.out _ (by simp; omega)), (Below.refl _ _).alloc (Nat.le_refl _) _⟩

theorem rfvalid_any (vf : Value) (f : Fm) (a : Int) (w : World) (hf : FmV w vf f) (ha : I64 a) : Calls Tryz.prog 69 #[vf, .int .i64 a] w (qea w (.bool (argOK f a))) := by
 obtain ⟨nv, rfl, hn, hv, _⟩ := hf
 obtain ⟨ao, c, rfl, hc, hc2, _⟩ := hn.shape
 clear hn
 obtain ⟨v, ns, top⟩ := f
 simp only at hv hc ⊢
 unfold I64 at ha hv
 have key : ∀ b : Bool, (b = true ↔ 0 ≤ v ∧ 0 ≤ a ∧ (a < v ∨ a - v < ns.length)) → b = argOK ⟨v, ns, top⟩ a := fun b hb => by rw [Bool.eq_iff_iff, hb]; simp [argOK]
 have KEY := qHd key; clear key
 by_cases c1 : 0 ≤ v
 ·by_cases c2 : 0 ≤ a
  ·by_cases c3 : a < v
   ·go_enter Tryz.func69, Tryz.ntmps69
    go_wp2
    go_ret
    exact ⟨qdp (KEY.out _ (by simp; omega)), (Below.refl _ _).alloc (Nat.le_refl _) _⟩
   ·go_enter Tryz.func69, Tryz.ntmps69
    go_wp2
    go_ret
    exact ⟨qdp (KEY.out _ (by simp; omega)), (Below.refl _ _).alloc (Nat.le_refl _) _⟩
  ·go_enter Tryz.func69, Tryz.ntmps69
   go_wp2
   go_ret
   exact ⟨qdp (KEY.out _ (by simp; omega)), (Below.refl _ _).alloc (Nat.le_refl _) _⟩
 ·go_enter Tryz.func69, Tryz.ntmps69
  go_wp2
  go_ret
  exact ⟨qdp (KEY.out _ (by simp; omega)), (Below.refl _ _).alloc (Nat.le_refl _) _⟩
def ndK (kind K : Int) (n : Nat) : Nat :=
 if kind = 0 then (if K ≠ 0 ∧ K ≠ 1 then 3 else 0) else if kind = 4 then (if K < 1 ∨ (n : Int) < K then 3 else 0) else if K ≠ 0 then 2 else 0
theorem ndErr_type {v K kind : Int} {i : Nat} {args : List Int} (h : kind < 0 ∨ 5 < kind) : qdh v i ⟨kind, K, args⟩ = 7 := by unfold qdh; rw [if_pos h]
theorem ndErr_shape {v K kind : Int} {i : Nat} {args : List Int} (h : ¬ (kind < 0 ∨ 5 < kind)) (h2 : qcz kind args.length = false) : qdh v i ⟨kind, K, args⟩ = 11 := by unfold qdh; rw [if_neg h]; simp only; rw [if_pos h2]
theorem ndErr_index {v K kind : Int} {i : Nat} {args : List Int} (h : ¬ (kind < 0 ∨ 5 < kind)) (h2 : qcz kind args.length = true) (q : Nat) (a : Int) (ha : args[q]? = some a) (hb : argBad v i a = true) : qdh v i ⟨kind, K, args⟩ = 10 := by
 unfold qdh; rw [if_neg h]; simp only; rw [if_neg (by simp [h2]), if_pos (List.any_eq_true.2 ⟨a, List.mem_of_getElem? ha, hb⟩)]
theorem ndErr_kp {v K kind : Int} {i : Nat} {args : List Int} (h : ¬ (kind < 0 ∨ 5 < kind)) (h2 : qcz kind args.length = true) (h3 : ∀ a ∈ args.take args.length, argBad v i a = false) : qdh v i ⟨kind, K, args⟩ = ndK kind K args.length := by
 unfold qdh ndK
 rw [if_neg h]; simp only
 rw [if_neg (by simp [h2]), if_neg]
 intro hh
 obtain ⟨a, ha, hb⟩ := List.any_eq_true.1 hh
 rw [List.take_length] at h3
 rw [h3 a ha] at hb; cases hb
theorem bad_take {args : List Int} {p : Int → Bool} {q : Nat} {a : Int} (h : ∀ a ∈ args.take q, p a = false) (hq : args[q]? = some a) (ha : p a = false) : ∀ a ∈ args.take (q + 1), p a = false := by
 intro x hx
 rw [List.take_add_one, hq] at hx
 simp only [Option.toList_some, List.mem_append, List.mem_singleton] at hx
 rcases hx with hx | rfl
 ·exact h x hx
 ·exact ha

theorem checkNode_any (vf : Value) (f : Fm) (i : Nat) (x : Nd) (w : World) (hf : FmV w vf f) (hx : f.nodes[i]? = some x) (hv : 0 ≤ f.vars ∧ f.vars ≤ 24) (hi : i ≤ 128) :
  Calls Tryz.prog 80 #[vf, .int .i64 (i : Nat)] w (qea w (errV (qdh f.vars i x))) := by
 obtain ⟨nv, rfl, hn, _, _⟩ := hf
 obtain ⟨ao, c, rfl, hc, hc2, _⟩ := hn.shape
 have hlt : i < f.nodes.length := (List.getElem?_eq_some_iff.1 hx).1
 obtain ⟨b, off, rfl, hb, _, hat⟩ := hn.at (by omega)
 obtain ⟨c0, c1, ⟨av, c2, hI⟩, hk, hK⟩ := hat i x hx
 clear hn hat
 obtain ⟨v, ns, top⟩ := f
 obtain ⟨kind, K, args⟩ := x
 simp only at hv hc hlt c0 c1 c2 hI hk hK ⊢
 obtain ⟨ao', c', rfl, hc', hc2', _⟩ := hI.shape
 have HI := qHd hI; clear hI
 have hlt' : (i : Int) < (ns.length : Int) := by omega
 unfold I64 at hk hK
 have hbW : Below w.heap.size w ((w.alloc (.cells #[.int .i64 v, .slice (some ⟨b, off, none⟩) ns.length c, .int .i64 top] 24)).alloc (.cells #[.int .i64 kind, .int .i64 K, .slice ao' args.length c'] 82)) := ((Below.refl _ _).alloc (Nat.le_refl _) _).alloc (by simp) _
 clear hx
 by_cases e1 : kind < 0
 ·have R := qHd (ndErr_type (v := v) (K := K) (i := i) (args := args) (.inl e1))
  go_enter Tryz.func80, Tryz.ntmps80
  go_wp2
  go_ret
  exact ⟨by rw [R.out]; rfl, by first | exact hbW | exact ((Below.refl _ _).alloc (Nat.le_refl _) _).alloc (by simp) _⟩
 by_cases e2 : 5 < kind
 ·have R := qHd (ndErr_type (v := v) (K := K) (i := i) (args := args) (.inr e2))
  go_enter Tryz.func80, Tryz.ntmps80
  go_wp2
  go_ret
  exact ⟨by rw [R.out]; rfl, by first | exact hbW | exact ((Below.refl _ _).alloc (Nat.le_refl _) _).alloc (by simp) _⟩
 have E12 := qHd (show ¬ (kind < 0 ∨ 5 < kind) by omega)
 by_cases ha : qcz kind args.length = false
 ·have R := qHd (ndErr_shape (v := v) (K := K) (i := i) E12.out ha)
  go_enter Tryz.func80, Tryz.ntmps80
  go_wp2_with fail
  (with_reducible refine (arguments_any _ _ _ (by omega)).mono ?_); rintro e w1 ⟨rfl, rfl⟩
  rw [ha]
  go_wp2
  go_ret
  exact ⟨by rw [R.out]; rfl, by first | exact hbW | exact ((Below.refl _ _).alloc (Nat.le_refl _) _).alloc (by simp) _⟩
 have ha : qcz kind args.length = true := by simpa using ha
 have HA := qHd ha
 have R10 := qHd (ndErr_index (v := v) (K := K) (i := i) E12.out ha)
 have RK := qHd (ndErr_kp (v := v) (K := K) (i := i) E12.out ha)
 have hkk : kind = 0 ∨ kind = 4 ∨ (kind ≠ 0 ∧ kind ≠ 4) := by omega
 rcases hkk with rfl | rfl | ⟨n0, n4⟩
 ·go_enter Tryz.func80, Tryz.ntmps80
  go_wp2_with fail
  (with_reducible refine (arguments_any _ _ _ (by omega)).mono ?_); rintro e w1 ⟨rfl, rfl⟩
  rw [HA.out]
  go_wp2_with fail
  go_loopw [33] (fun i' wx => ∃ q : Nat, q ≤ args.length ∧ i' = .int .i64 q ∧ wx = ((w.alloc (.cells #[.int .i64 v, .slice (some ⟨b, off, none⟩) ns.length c, .int .i64 top] 24)).alloc (.cells #[.int .i64 0, .int .i64 K, .slice ao' args.length c'] 82)) ∧ Hid (∀ a ∈ args.take q, argBad v i a = false)) (fun i' _ => args.length - (intOf i').toNat)
  case atStart => exact ⟨0, Nat.zero_le _, rfl, by first | rfl | trivial, qHd (by simp)⟩
  case round =>
   obtain ⟨q, hq, rfl, rfl, G⟩ := hrel
   by_cases hlt2 : q < args.length
   ·obtain ⟨b', off', rfl, hb', _, hat'⟩ := HI.out.at (by omega)
    obtain ⟨a, hqa⟩ : ∃ a, args[q]? = some a := ⟨args[q], List.getElem?_eq_getElem hlt2⟩
    have ca := hat' q a hqa
    have hla := HI.out.lt a (List.mem_of_getElem? hqa)
    unfold I64 at hla
    clear hat'
    have HQ := qHd hqa; clear hqa
    have hlt3 : (q : Int) < (args.length : Int) := by omega
    by_cases a1 : a < 0
    ·go_wp2
     all_goals (go_ret; exact ⟨by rw [R10.out q a HQ.out (decide_eq_true (Or.inl a1))]; rfl, by first | exact hbW | exact ((Below.refl _ _).alloc (Nat.le_refl _) _).alloc (by simp) _⟩)
    by_cases a2 : v + i ≤ a
    ·go_wp2
     all_goals (go_ret; exact ⟨by rw [R10.out q a HQ.out (decide_eq_true (Or.inr a2))]; rfl, by first | exact hbW | exact ((Below.refl _ _).alloc (Nat.le_refl _) _).alloc (by simp) _⟩)
    ·go_wp2
     go_roundw
     case rel => exact ⟨q + 1, by omega, by go_num, by first | rfl | trivial, qHd (bad_take G.out HQ.out (decide_eq_false (by omega)))⟩
     case measure => simp [intOf]; omega
   ·have hq' : q = args.length := by omega
    subst hq'
    have R := qHd (RK.out G.out); clear G RK R10
    by_cases h0 : K = 0
    ·have hR : ndK 0 K args.length = 0 := by unfold ndK; first | (simp <;> omega) | (rw [if_neg n0, if_neg n4]; simp <;> omega)
     rw [hR] at R
     go_wp2
     all_goals first | (exfalso; omega) | (go_ret; exact ⟨by rw [R.out]; rfl, by first | exact hbW | exact ((Below.refl _ _).alloc (Nat.le_refl _) _).alloc (by simp) _⟩) | (exfalso; simp_all; done)
    by_cases h1 : K = 1
    ·have hR : ndK 0 K args.length = 0 := by unfold ndK; first | (simp <;> omega) | (rw [if_neg n0, if_neg n4]; simp <;> omega)
     rw [hR] at R
     go_wp2
     all_goals first | (exfalso; omega) | (go_ret; exact ⟨by rw [R.out]; rfl, by first | exact hbW | exact ((Below.refl _ _).alloc (Nat.le_refl _) _).alloc (by simp) _⟩) | (exfalso; simp_all; done)
    have hR : ndK 0 K args.length = 3 := by unfold ndK; first | (simp <;> omega) | (rw [if_neg n0, if_neg n4]; simp <;> omega)
    rw [hR] at R
    go_wp2
    all_goals first | (exfalso; omega) | (go_ret; exact ⟨by rw [R.out]; rfl, by first | exact hbW | exact ((Below.refl _ _).alloc (Nat.le_refl _) _).alloc (by simp) _⟩) | (exfalso; simp_all; done)
 ·go_enter Tryz.func80, Tryz.ntmps80
  go_wp2_with fail
  (with_reducible refine (arguments_any _ _ _ (by omega)).mono ?_); rintro e w1 ⟨rfl, rfl⟩
  rw [HA.out]
  go_wp2_with fail
  go_loopw [33] (fun i' wx => ∃ q : Nat, q ≤ args.length ∧ i' = .int .i64 q ∧ wx = ((w.alloc (.cells #[.int .i64 v, .slice (some ⟨b, off, none⟩) ns.length c, .int .i64 top] 24)).alloc (.cells #[.int .i64 4, .int .i64 K, .slice ao' args.length c'] 82)) ∧ Hid (∀ a ∈ args.take q, argBad v i a = false)) (fun i' _ => args.length - (intOf i').toNat)
  case atStart => exact ⟨0, Nat.zero_le _, rfl, by first | rfl | trivial, qHd (by simp)⟩
  case round =>
   obtain ⟨q, hq, rfl, rfl, G⟩ := hrel
   by_cases hlt2 : q < args.length
   ·obtain ⟨b', off', rfl, hb', _, hat'⟩ := HI.out.at (by omega)
    obtain ⟨a, hqa⟩ : ∃ a, args[q]? = some a := ⟨args[q], List.getElem?_eq_getElem hlt2⟩
    have ca := hat' q a hqa
    have hla := HI.out.lt a (List.mem_of_getElem? hqa)
    unfold I64 at hla
    clear hat'
    have HQ := qHd hqa; clear hqa
    have hlt3 : (q : Int) < (args.length : Int) := by omega
    by_cases a1 : a < 0
    ·go_wp2
     all_goals (go_ret; exact ⟨by rw [R10.out q a HQ.out (decide_eq_true (Or.inl a1))]; rfl, by first | exact hbW | exact ((Below.refl _ _).alloc (Nat.le_refl _) _).alloc (by simp) _⟩)
    by_cases a2 : v + i ≤ a
    ·go_wp2
     all_goals (go_ret; exact ⟨by rw [R10.out q a HQ.out (decide_eq_true (Or.inr a2))]; rfl, by first | exact hbW | exact ((Below.refl _ _).alloc (Nat.le_refl _) _).alloc (by simp) _⟩)
    ·go_wp2
     go_roundw
     case rel => exact ⟨q + 1, by omega, by go_num, by first | rfl | trivial, qHd (bad_take G.out HQ.out (decide_eq_false (by omega)))⟩
     case measure => simp [intOf]; omega
   ·have hq' : q = args.length := by omega
    subst hq'
    have R := qHd (RK.out G.out); clear G RK R10
    by_cases h0 : K < 1
    ·have hR : ndK 4 K args.length = 3 := by unfold ndK; first | (simp <;> omega) | (rw [if_neg n0, if_neg n4]; simp <;> omega)
     rw [hR] at R
     go_wp2
     all_goals first | (exfalso; omega) | (go_ret; exact ⟨by rw [R.out]; rfl, by first | exact hbW | exact ((Below.refl _ _).alloc (Nat.le_refl _) _).alloc (by simp) _⟩) | (exfalso; simp_all; done)
    by_cases h1 : (args.length : Int) < K
    ·have hR : ndK 4 K args.length = 3 := by unfold ndK; first | (simp <;> omega) | (rw [if_neg n0, if_neg n4]; simp <;> omega)
     rw [hR] at R
     go_wp2
     all_goals first | (exfalso; omega) | (go_ret; exact ⟨by rw [R.out]; rfl, by first | exact hbW | exact ((Below.refl _ _).alloc (Nat.le_refl _) _).alloc (by simp) _⟩) | (exfalso; simp_all; done)
    have hR : ndK 4 K args.length = 0 := by unfold ndK; first | (simp <;> omega) | (rw [if_neg n0, if_neg n4]; simp <;> omega)
    rw [hR] at R
    go_wp2
    all_goals first | (exfalso; omega) | (go_ret; exact ⟨by rw [R.out]; rfl, by first | exact hbW | exact ((Below.refl _ _).alloc (Nat.le_refl _) _).alloc (by simp) _⟩) | (exfalso; simp_all; done)
 ·go_enter Tryz.func80, Tryz.ntmps80
  go_wp2_with fail
  (with_reducible refine (arguments_any _ _ _ (by omega)).mono ?_); rintro e w1 ⟨rfl, rfl⟩
  rw [HA.out]
  go_wp2_with fail
  go_loopw [33] (fun i' wx => ∃ q : Nat, q ≤ args.length ∧ i' = .int .i64 q ∧ wx = ((w.alloc (.cells #[.int .i64 v, .slice (some ⟨b, off, none⟩) ns.length c, .int .i64 top] 24)).alloc (.cells #[.int .i64 kind, .int .i64 K, .slice ao' args.length c'] 82)) ∧ Hid (∀ a ∈ args.take q, argBad v i a = false)) (fun i' _ => args.length - (intOf i').toNat)
  case atStart => exact ⟨0, Nat.zero_le _, rfl, by first | rfl | trivial, qHd (by simp)⟩
  case round =>
   obtain ⟨q, hq, rfl, rfl, G⟩ := hrel
   by_cases hlt2 : q < args.length
   ·obtain ⟨b', off', rfl, hb', _, hat'⟩ := HI.out.at (by omega)
    obtain ⟨a, hqa⟩ : ∃ a, args[q]? = some a := ⟨args[q], List.getElem?_eq_getElem hlt2⟩
    have ca := hat' q a hqa
    have hla := HI.out.lt a (List.mem_of_getElem? hqa)
    unfold I64 at hla
    clear hat'
    have HQ := qHd hqa; clear hqa
    have hlt3 : (q : Int) < (args.length : Int) := by omega
    by_cases a1 : a < 0
    ·go_wp2
     all_goals (go_ret; exact ⟨by rw [R10.out q a HQ.out (decide_eq_true (Or.inl a1))]; rfl, by first | exact hbW | exact ((Below.refl _ _).alloc (Nat.le_refl _) _).alloc (by simp) _⟩)
    by_cases a2 : v + i ≤ a
    ·go_wp2
     all_goals (go_ret; exact ⟨by rw [R10.out q a HQ.out (decide_eq_true (Or.inr a2))]; rfl, by first | exact hbW | exact ((Below.refl _ _).alloc (Nat.le_refl _) _).alloc (by simp) _⟩)
    ·go_wp2
     go_roundw
     case rel => exact ⟨q + 1, by omega, by go_num, by first | rfl | trivial, qHd (bad_take G.out HQ.out (decide_eq_false (by omega)))⟩
     case measure => simp [intOf]; omega
   ·have hq' : q = args.length := by omega
    subst hq'
    have R := qHd (RK.out G.out); clear G RK R10
    by_cases h0 : K = 0
    ·have hR : ndK kind K args.length = 0 := by unfold ndK; first | (simp <;> omega) | (rw [if_neg n0, if_neg n4]; simp <;> omega)
     rw [hR] at R
     go_wp2
     all_goals first | (exfalso; omega) | (go_ret; exact ⟨by rw [R.out]; rfl, by first | exact hbW | exact ((Below.refl _ _).alloc (Nat.le_refl _) _).alloc (by simp) _⟩) | (exfalso; simp_all; done)
    have hR : ndK kind K args.length = 2 := by unfold ndK; first | (simp <;> omega) | (rw [if_neg n0, if_neg n4]; simp <;> omega)
    rw [hR] at R
    go_wp2
    all_goals first | (exfalso; omega) | (go_ret; exact ⟨by rw [R.out]; rfl, by first | exact hbW | exact ((Below.refl _ _).alloc (Nat.le_refl _) _).alloc (by simp) _⟩) | (exfalso; simp_all; done)
theorem rnode_any (vf : Value) (f : Fm) (i : Nat) (x : Nd) (w : World) (hf : FmV w vf f) (hx : f.nodes[i]? = some x) (hv : 0 ≤ f.vars ∧ f.vars ≤ 24) (hi : i ≤ 128) :
  Calls Tryz.prog 68 #[vf, .int .i64 (i : Nat)] w (qea w (.int .i64 (qdh f.vars i x : Nat))) := by
 obtain ⟨nv, rfl, hn, _, _⟩ := hf
 obtain ⟨ao, c, rfl, hc, hc2, _⟩ := hn.shape
 have hlt : i < f.nodes.length := (List.getElem?_eq_some_iff.1 hx).1
 obtain ⟨b, off, rfl, hb, _, hat⟩ := hn.at (by omega)
 obtain ⟨c0, c1, ⟨av, c2, hI⟩, hk, hK⟩ := hat i x hx
 clear hn hat
 obtain ⟨v, ns, top⟩ := f
 obtain ⟨kind, K, args⟩ := x
 simp only at hv hc hlt c0 c1 c2 hI hk hK ⊢
 obtain ⟨ao', c', rfl, hc', hc2', _⟩ := hI.shape
 have HI := qHd hI; clear hI
 have hlt' : (i : Int) < (ns.length : Int) := by omega
 unfold I64 at hk hK
 have hbW : Below w.heap.size w ((w.alloc (.cells #[.int .i64 v, .slice (some ⟨b, off, none⟩) ns.length c, .int .i64 top] 24)).alloc (.cells #[.int .i64 kind, .int .i64 K, .slice ao' args.length c'] 82)) := ((Below.refl _ _).alloc (Nat.le_refl _) _).alloc (by simp) _
 clear hx
 by_cases e1 : kind < 0
 ·have R := qHd (ndErr_type (v := v) (K := K) (i := i) (args := args) (.inl e1))
  go_enter Tryz.func68, Tryz.ntmps68
  go_wp2
  go_ret
  exact ⟨by rw [R.out]; rfl, by first | exact hbW | exact ((Below.refl _ _).alloc (Nat.le_refl _) _).alloc (by simp) _⟩
 by_cases e2 : 5 < kind
 ·have R := qHd (ndErr_type (v := v) (K := K) (i := i) (args := args) (.inr e2))
  go_enter Tryz.func68, Tryz.ntmps68
  go_wp2
  go_ret
  exact ⟨by rw [R.out]; rfl, by first | exact hbW | exact ((Below.refl _ _).alloc (Nat.le_refl _) _).alloc (by simp) _⟩
 have E12 := qHd (show ¬ (kind < 0 ∨ 5 < kind) by omega)
 by_cases ha : qcz kind args.length = false
 ·have R := qHd (ndErr_shape (v := v) (K := K) (i := i) E12.out ha)
  have hkk : kind = 0 ∨ kind = 1 ∨ kind = 2 ∨ kind = 3 ∨ kind = 4 ∨ kind = 5 := by omega
  rcases hkk with rfl | rfl | rfl | rfl | rfl | rfl
  ·have hl : 0 < args.length := by simp [qcz] at ha; exact List.length_pos_iff.2 ha
   go_enter Tryz.func68, Tryz.ntmps68
   go_wp2
   go_ret
   exact ⟨by rw [R.out]; rfl, by first | exact hbW | exact ((Below.refl _ _).alloc (Nat.le_refl _) _).alloc (by simp) _⟩
  ·have hl : args.length ≠ 1 := by simpa [qcz] using ha
   by_cases hl1 : args.length < 1
   ·go_enter Tryz.func68, Tryz.ntmps68
    go_wp2
    go_ret
    exact ⟨by rw [R.out]; rfl, by first | exact hbW | exact ((Below.refl _ _).alloc (Nat.le_refl _) _).alloc (by simp) _⟩
   ·go_enter Tryz.func68, Tryz.ntmps68
    go_wp2
    go_ret
    exact ⟨by rw [R.out]; rfl, by first | exact hbW | exact ((Below.refl _ _).alloc (Nat.le_refl _) _).alloc (by simp) _⟩
  ·have hl : ¬ (1 ≤ args.length ∧ args.length ≤ 16) := by simpa [qcz] using ha
   by_cases hl1 : args.length < 1
   ·go_enter Tryz.func68, Tryz.ntmps68
    go_wp2
    go_ret
    exact ⟨by rw [R.out]; rfl, by first | exact hbW | exact ((Below.refl _ _).alloc (Nat.le_refl _) _).alloc (by simp) _⟩
   ·go_enter Tryz.func68, Tryz.ntmps68
    go_wp2
    go_ret
    exact ⟨by rw [R.out]; rfl, by first | exact hbW | exact ((Below.refl _ _).alloc (Nat.le_refl _) _).alloc (by simp) _⟩
  ·have hl : ¬ (1 ≤ args.length ∧ args.length ≤ 16) := by simpa [qcz] using ha
   by_cases hl1 : args.length < 1
   ·go_enter Tryz.func68, Tryz.ntmps68
    go_wp2
    go_ret
    exact ⟨by rw [R.out]; rfl, by first | exact hbW | exact ((Below.refl _ _).alloc (Nat.le_refl _) _).alloc (by simp) _⟩
   ·go_enter Tryz.func68, Tryz.ntmps68
    go_wp2
    go_ret
    exact ⟨by rw [R.out]; rfl, by first | exact hbW | exact ((Below.refl _ _).alloc (Nat.le_refl _) _).alloc (by simp) _⟩
  ·have hl : ¬ (1 ≤ args.length ∧ args.length ≤ 16) := by simpa [qcz] using ha
   by_cases hl1 : args.length < 1
   ·go_enter Tryz.func68, Tryz.ntmps68
    go_wp2
    go_ret
    exact ⟨by rw [R.out]; rfl, by first | exact hbW | exact ((Below.refl _ _).alloc (Nat.le_refl _) _).alloc (by simp) _⟩
   ·go_enter Tryz.func68, Tryz.ntmps68
    go_wp2
    go_ret
    exact ⟨by rw [R.out]; rfl, by first | exact hbW | exact ((Below.refl _ _).alloc (Nat.le_refl _) _).alloc (by simp) _⟩
  ·have hl : ¬ (1 ≤ args.length ∧ args.length ≤ 16) := by simpa [qcz] using ha
   by_cases hl1 : args.length < 1
   ·go_enter Tryz.func68, Tryz.ntmps68
    go_wp2
    go_ret
    exact ⟨by rw [R.out]; rfl, by first | exact hbW | exact ((Below.refl _ _).alloc (Nat.le_refl _) _).alloc (by simp) _⟩
   ·go_enter Tryz.func68, Tryz.ntmps68
    go_wp2
    go_ret
    exact ⟨by rw [R.out]; rfl, by first | exact hbW | exact ((Below.refl _ _).alloc (Nat.le_refl _) _).alloc (by simp) _⟩
 have ha : qcz kind args.length = true := by simpa using ha
 have HA := qHd ha
 have R10 := qHd (ndErr_index (v := v) (K := K) (i := i) E12.out ha)
 have RK := qHd (ndErr_kp (v := v) (K := K) (i := i) E12.out ha)
 have hkk : kind = 0 ∨ kind = 4 ∨ kind = 1 ∨ kind = 2 ∨ kind = 3 ∨ kind = 5 := by omega
 rcases hkk with rfl | rfl | rfl | rfl | rfl | rfl
 ·have hl : args.length = 0 := by simpa [qcz] using ha
  clear ha
  go_enter Tryz.func68, Tryz.ntmps68
  go_wp2_with fail
  go_loopw [41] (fun i' wx => ∃ q : Nat, q ≤ args.length ∧ i' = .int .i64 q ∧ wx = ((w.alloc (.cells #[.int .i64 v, .slice (some ⟨b, off, none⟩) ns.length c, .int .i64 top] 24)).alloc (.cells #[.int .i64 0, .int .i64 K, .slice ao' 0 c'] 82)) ∧ Hid (∀ a ∈ args.take q, argBad v i a = false)) (fun i' _ => args.length - (intOf i').toNat)
  case atStart => exact ⟨0, Nat.zero_le _, rfl, by first | rfl | trivial, qHd (by simp)⟩
  case round =>
   obtain ⟨q, hq, rfl, rfl, G⟩ := hrel
   by_cases hlt2 : q < args.length
   ·exfalso; omega
   ·have hq' : q = args.length := by omega
    subst hq'
    have R := qHd (RK.out G.out); clear G RK R10
    by_cases h0 : K = 0
    ·have hR : ndK 0 K args.length = 0 := by unfold ndK; first | (simp <;> omega) | (rw [if_neg n0, if_neg n4]; simp <;> omega)
     rw [hR] at R
     go_wp2
     all_goals first | (exfalso; omega) | (go_ret; exact ⟨by rw [R.out]; rfl, by first | exact hbW | exact ((Below.refl _ _).alloc (Nat.le_refl _) _).alloc (by simp) _⟩) | (exfalso; simp_all; done)
    by_cases h1 : K = 1
    ·have hR : ndK 0 K args.length = 0 := by unfold ndK; first | (simp <;> omega) | (rw [if_neg n0, if_neg n4]; simp <;> omega)
     rw [hR] at R
     go_wp2
     all_goals first | (exfalso; omega) | (go_ret; exact ⟨by rw [R.out]; rfl, by first | exact hbW | exact ((Below.refl _ _).alloc (Nat.le_refl _) _).alloc (by simp) _⟩) | (exfalso; simp_all; done)
    have hR : ndK 0 K args.length = 3 := by unfold ndK; first | (simp <;> omega) | (rw [if_neg n0, if_neg n4]; simp <;> omega)
    rw [hR] at R
    go_wp2
    all_goals first | (exfalso; omega) | (go_ret; exact ⟨by rw [R.out]; rfl, by first | exact hbW | exact ((Below.refl _ _).alloc (Nat.le_refl _) _).alloc (by simp) _⟩) | (exfalso; simp_all; done)
 ·have hl : 1 ≤ args.length ∧ args.length ≤ 16 := by simpa [qcz] using ha
  clear ha
  go_enter Tryz.func68, Tryz.ntmps68
  go_wp2_with fail
  go_loopw [41] (fun i' wx => ∃ q : Nat, q ≤ args.length ∧ i' = .int .i64 q ∧ wx = ((w.alloc (.cells #[.int .i64 v, .slice (some ⟨b, off, none⟩) ns.length c, .int .i64 top] 24)).alloc (.cells #[.int .i64 4, .int .i64 K, .slice ao' args.length c'] 82)) ∧ Hid (∀ a ∈ args.take q, argBad v i a = false)) (fun i' _ => args.length - (intOf i').toNat)
  case atStart => exact ⟨0, Nat.zero_le _, rfl, by first | rfl | trivial, qHd (by simp)⟩
  case round =>
   obtain ⟨q, hq, rfl, rfl, G⟩ := hrel
   by_cases hlt2 : q < args.length
   ·obtain ⟨b', off', rfl, hb', _, hat'⟩ := HI.out.at (by omega)
    obtain ⟨a, hqa⟩ : ∃ a, args[q]? = some a := ⟨args[q], List.getElem?_eq_getElem hlt2⟩
    have ca := hat' q a hqa
    have hla := HI.out.lt a (List.mem_of_getElem? hqa)
    unfold I64 at hla
    clear hat'
    have HQ := qHd hqa; clear hqa
    have hlt3 : (q : Int) < (args.length : Int) := by omega
    by_cases a1 : a < 0
    ·go_wp2
     all_goals (go_ret; exact ⟨by rw [R10.out q a HQ.out (decide_eq_true (Or.inl a1))]; rfl, by first | exact hbW | exact ((Below.refl _ _).alloc (Nat.le_refl _) _).alloc (by simp) _⟩)
    by_cases a2 : v + i ≤ a
    ·go_wp2
     all_goals (go_ret; exact ⟨by rw [R10.out q a HQ.out (decide_eq_true (Or.inr a2))]; rfl, by first | exact hbW | exact ((Below.refl _ _).alloc (Nat.le_refl _) _).alloc (by simp) _⟩)
    ·go_wp2
     go_roundw
     case rel => exact ⟨q + 1, by omega, by go_num, by first | rfl | trivial, qHd (bad_take G.out HQ.out (decide_eq_false (by omega)))⟩
     case measure => simp [intOf]; omega
   ·have hq' : q = args.length := by omega
    subst hq'
    have R := qHd (RK.out G.out); clear G RK R10
    by_cases h0 : K < 1
    ·have hR : ndK 4 K args.length = 3 := by unfold ndK; first | (simp <;> omega) | (rw [if_neg n0, if_neg n4]; simp <;> omega)
     rw [hR] at R
     go_wp2
     all_goals first | (exfalso; omega) | (go_ret; exact ⟨by rw [R.out]; rfl, by first | exact hbW | exact ((Below.refl _ _).alloc (Nat.le_refl _) _).alloc (by simp) _⟩) | (exfalso; simp_all; done)
    by_cases h1 : (args.length : Int) < K
    ·have hR : ndK 4 K args.length = 3 := by unfold ndK; first | (simp <;> omega) | (rw [if_neg n0, if_neg n4]; simp <;> omega)
     rw [hR] at R
     go_wp2
     all_goals first | (exfalso; omega) | (go_ret; exact ⟨by rw [R.out]; rfl, by first | exact hbW | exact ((Below.refl _ _).alloc (Nat.le_refl _) _).alloc (by simp) _⟩) | (exfalso; simp_all; done)
    have hR : ndK 4 K args.length = 0 := by unfold ndK; first | (simp <;> omega) | (rw [if_neg n0, if_neg n4]; simp <;> omega)
    rw [hR] at R
    go_wp2
    all_goals first | (exfalso; omega) | (go_ret; exact ⟨by rw [R.out]; rfl, by first | exact hbW | exact ((Below.refl _ _).alloc (Nat.le_refl _) _).alloc (by simp) _⟩) | (exfalso; simp_all; done)
 ·have hl : args.length = 1 := by simpa [qcz] using ha
  clear ha
  go_enter Tryz.func68, Tryz.ntmps68
  go_wp2_with fail
  go_loopw [41] (fun i' wx => ∃ q : Nat, q ≤ args.length ∧ i' = .int .i64 q ∧ wx = ((w.alloc (.cells #[.int .i64 v, .slice (some ⟨b, off, none⟩) ns.length c, .int .i64 top] 24)).alloc (.cells #[.int .i64 1, .int .i64 K, .slice ao' 1 c'] 82)) ∧ Hid (∀ a ∈ args.take q, argBad v i a = false)) (fun i' _ => args.length - (intOf i').toNat)
  case atStart => exact ⟨0, Nat.zero_le _, rfl, by first | rfl | trivial, qHd (by simp)⟩
  case round =>
   obtain ⟨q, hq, rfl, rfl, G⟩ := hrel
   by_cases hlt2 : q < args.length
   ·obtain ⟨b', off', rfl, hb', _, hat'⟩ := HI.out.at (by omega)
    obtain ⟨a, hqa⟩ : ∃ a, args[q]? = some a := ⟨args[q], List.getElem?_eq_getElem hlt2⟩
    have ca := hat' q a hqa
    have hla := HI.out.lt a (List.mem_of_getElem? hqa)
    unfold I64 at hla
    clear hat'
    have HQ := qHd hqa; clear hqa
    have hlt3 : (q : Int) < (args.length : Int) := by omega
    by_cases a1 : a < 0
    ·go_wp2
     all_goals (go_ret; exact ⟨by rw [R10.out q a HQ.out (decide_eq_true (Or.inl a1))]; rfl, by first | exact hbW | exact ((Below.refl _ _).alloc (Nat.le_refl _) _).alloc (by simp) _⟩)
    by_cases a2 : v + i ≤ a
    ·go_wp2
     all_goals (go_ret; exact ⟨by rw [R10.out q a HQ.out (decide_eq_true (Or.inr a2))]; rfl, by first | exact hbW | exact ((Below.refl _ _).alloc (Nat.le_refl _) _).alloc (by simp) _⟩)
    ·go_wp2
     go_roundw
     case rel => exact ⟨q + 1, by omega, by go_num, by first | rfl | trivial, qHd (bad_take G.out HQ.out (decide_eq_false (by omega)))⟩
     case measure => simp [intOf]; omega
   ·have hq' : q = args.length := by omega
    subst hq'
    have R := qHd (RK.out G.out); clear G RK R10
    by_cases h0 : K = 0
    ·have hR : ndK 1 K args.length = 0 := by unfold ndK; first | (simp <;> omega) | (rw [if_neg n0, if_neg n4]; simp <;> omega)
     rw [hR] at R
     go_wp2
     all_goals first | (exfalso; omega) | (go_ret; exact ⟨by rw [R.out]; rfl, by first | exact hbW | exact ((Below.refl _ _).alloc (Nat.le_refl _) _).alloc (by simp) _⟩) | (exfalso; simp_all; done)
    have hR : ndK 1 K args.length = 2 := by unfold ndK; first | (simp <;> omega) | (rw [if_neg n0, if_neg n4]; simp <;> omega)
    rw [hR] at R
    go_wp2
    all_goals first | (exfalso; omega) | (go_ret; exact ⟨by rw [R.out]; rfl, by first | exact hbW | exact ((Below.refl _ _).alloc (Nat.le_refl _) _).alloc (by simp) _⟩) | (exfalso; simp_all; done)
 ·have hl : 1 ≤ args.length ∧ args.length ≤ 16 := by simpa [qcz] using ha
  clear ha
  go_enter Tryz.func68, Tryz.ntmps68
  go_wp2_with fail
  go_loopw [41] (fun i' wx => ∃ q : Nat, q ≤ args.length ∧ i' = .int .i64 q ∧ wx = ((w.alloc (.cells #[.int .i64 v, .slice (some ⟨b, off, none⟩) ns.length c, .int .i64 top] 24)).alloc (.cells #[.int .i64 2, .int .i64 K, .slice ao' args.length c'] 82)) ∧ Hid (∀ a ∈ args.take q, argBad v i a = false)) (fun i' _ => args.length - (intOf i').toNat)
  case atStart => exact ⟨0, Nat.zero_le _, rfl, by first | rfl | trivial, qHd (by simp)⟩
  case round =>
   obtain ⟨q, hq, rfl, rfl, G⟩ := hrel
   by_cases hlt2 : q < args.length
   ·obtain ⟨b', off', rfl, hb', _, hat'⟩ := HI.out.at (by omega)
    obtain ⟨a, hqa⟩ : ∃ a, args[q]? = some a := ⟨args[q], List.getElem?_eq_getElem hlt2⟩
    have ca := hat' q a hqa
    have hla := HI.out.lt a (List.mem_of_getElem? hqa)
    unfold I64 at hla
    clear hat'
    have HQ := qHd hqa; clear hqa
    have hlt3 : (q : Int) < (args.length : Int) := by omega
    by_cases a1 : a < 0
    ·go_wp2
     all_goals (go_ret; exact ⟨by rw [R10.out q a HQ.out (decide_eq_true (Or.inl a1))]; rfl, by first | exact hbW | exact ((Below.refl _ _).alloc (Nat.le_refl _) _).alloc (by simp) _⟩)
    by_cases a2 : v + i ≤ a
    ·go_wp2
     all_goals (go_ret; exact ⟨by rw [R10.out q a HQ.out (decide_eq_true (Or.inr a2))]; rfl, by first | exact hbW | exact ((Below.refl _ _).alloc (Nat.le_refl _) _).alloc (by simp) _⟩)
    ·go_wp2
     go_roundw
     case rel => exact ⟨q + 1, by omega, by go_num, by first | rfl | trivial, qHd (bad_take G.out HQ.out (decide_eq_false (by omega)))⟩
     case measure => simp [intOf]; omega
   ·have hq' : q = args.length := by omega
    subst hq'
    have R := qHd (RK.out G.out); clear G RK R10
    by_cases h0 : K = 0
    ·have hR : ndK 2 K args.length = 0 := by unfold ndK; first | (simp <;> omega) | (rw [if_neg n0, if_neg n4]; simp <;> omega)
     rw [hR] at R
     go_wp2
     all_goals first | (exfalso; omega) | (go_ret; exact ⟨by rw [R.out]; rfl, by first | exact hbW | exact ((Below.refl _ _).alloc (Nat.le_refl _) _).alloc (by simp) _⟩) | (exfalso; simp_all; done)
    have hR : ndK 2 K args.length = 2 := by unfold ndK; first | (simp <;> omega) | (rw [if_neg n0, if_neg n4]; simp <;> omega)
    rw [hR] at R
    go_wp2
    all_goals first | (exfalso; omega) | (go_ret; exact ⟨by rw [R.out]; rfl, by first | exact hbW | exact ((Below.refl _ _).alloc (Nat.le_refl _) _).alloc (by simp) _⟩) | (exfalso; simp_all; done)
 ·have hl : 1 ≤ args.length ∧ args.length ≤ 16 := by simpa [qcz] using ha
  clear ha
  go_enter Tryz.func68, Tryz.ntmps68
  go_wp2_with fail
  go_loopw [41] (fun i' wx => ∃ q : Nat, q ≤ args.length ∧ i' = .int .i64 q ∧ wx = ((w.alloc (.cells #[.int .i64 v, .slice (some ⟨b, off, none⟩) ns.length c, .int .i64 top] 24)).alloc (.cells #[.int .i64 3, .int .i64 K, .slice ao' args.length c'] 82)) ∧ Hid (∀ a ∈ args.take q, argBad v i a = false)) (fun i' _ => args.length - (intOf i').toNat)
  case atStart => exact ⟨0, Nat.zero_le _, rfl, by first | rfl | trivial, qHd (by simp)⟩
  case round =>
   obtain ⟨q, hq, rfl, rfl, G⟩ := hrel
   by_cases hlt2 : q < args.length
   ·obtain ⟨b', off', rfl, hb', _, hat'⟩ := HI.out.at (by omega)
    obtain ⟨a, hqa⟩ : ∃ a, args[q]? = some a := ⟨args[q], List.getElem?_eq_getElem hlt2⟩
    have ca := hat' q a hqa
    have hla := HI.out.lt a (List.mem_of_getElem? hqa)
    unfold I64 at hla
    clear hat'
    have HQ := qHd hqa; clear hqa
    have hlt3 : (q : Int) < (args.length : Int) := by omega
    by_cases a1 : a < 0
    ·go_wp2
     all_goals (go_ret; exact ⟨by rw [R10.out q a HQ.out (decide_eq_true (Or.inl a1))]; rfl, by first | exact hbW | exact ((Below.refl _ _).alloc (Nat.le_refl _) _).alloc (by simp) _⟩)
    by_cases a2 : v + i ≤ a
    ·go_wp2
     all_goals (go_ret; exact ⟨by rw [R10.out q a HQ.out (decide_eq_true (Or.inr a2))]; rfl, by first | exact hbW | exact ((Below.refl _ _).alloc (Nat.le_refl _) _).alloc (by simp) _⟩)
    ·go_wp2
     go_roundw
     case rel => exact ⟨q + 1, by omega, by go_num, by first | rfl | trivial, qHd (bad_take G.out HQ.out (decide_eq_false (by omega)))⟩
     case measure => simp [intOf]; omega
   ·have hq' : q = args.length := by omega
    subst hq'
    have R := qHd (RK.out G.out); clear G RK R10
    by_cases h0 : K = 0
    ·have hR : ndK 3 K args.length = 0 := by unfold ndK; first | (simp <;> omega) | (rw [if_neg n0, if_neg n4]; simp <;> omega)
     rw [hR] at R
     go_wp2
     all_goals first | (exfalso; omega) | (go_ret; exact ⟨by rw [R.out]; rfl, by first | exact hbW | exact ((Below.refl _ _).alloc (Nat.le_refl _) _).alloc (by simp) _⟩) | (exfalso; simp_all; done)
    have hR : ndK 3 K args.length = 2 := by unfold ndK; first | (simp <;> omega) | (rw [if_neg n0, if_neg n4]; simp <;> omega)
    rw [hR] at R
    go_wp2
    all_goals first | (exfalso; omega) | (go_ret; exact ⟨by rw [R.out]; rfl, by first | exact hbW | exact ((Below.refl _ _).alloc (Nat.le_refl _) _).alloc (by simp) _⟩) | (exfalso; simp_all; done)
 ·have hl : 1 ≤ args.length ∧ args.length ≤ 16 := by simpa [qcz] using ha
  clear ha
  go_enter Tryz.func68, Tryz.ntmps68
  go_wp2_with fail
  go_loopw [41] (fun i' wx => ∃ q : Nat, q ≤ args.length ∧ i' = .int .i64 q ∧ wx = ((w.alloc (.cells #[.int .i64 v, .slice (some ⟨b, off, none⟩) ns.length c, .int .i64 top] 24)).alloc (.cells #[.int .i64 5, .int .i64 K, .slice ao' args.length c'] 82)) ∧ Hid (∀ a ∈ args.take q, argBad v i a = false)) (fun i' _ => args.length - (intOf i').toNat)
  case atStart => exact ⟨0, Nat.zero_le _, rfl, by first | rfl | trivial, qHd (by simp)⟩
  case round =>
   obtain ⟨q, hq, rfl, rfl, G⟩ := hrel
   by_cases hlt2 : q < args.length
   ·obtain ⟨b', off', rfl, hb', _, hat'⟩ := HI.out.at (by omega)
    obtain ⟨a, hqa⟩ : ∃ a, args[q]? = some a := ⟨args[q], List.getElem?_eq_getElem hlt2⟩
    have ca := hat' q a hqa
    have hla := HI.out.lt a (List.mem_of_getElem? hqa)
    unfold I64 at hla
    clear hat'
    have HQ := qHd hqa; clear hqa
    have hlt3 : (q : Int) < (args.length : Int) := by omega
    by_cases a1 : a < 0
    ·go_wp2
     all_goals (go_ret; exact ⟨by rw [R10.out q a HQ.out (decide_eq_true (Or.inl a1))]; rfl, by first | exact hbW | exact ((Below.refl _ _).alloc (Nat.le_refl _) _).alloc (by simp) _⟩)
    by_cases a2 : v + i ≤ a
    ·go_wp2
     all_goals (go_ret; exact ⟨by rw [R10.out q a HQ.out (decide_eq_true (Or.inr a2))]; rfl, by first | exact hbW | exact ((Below.refl _ _).alloc (Nat.le_refl _) _).alloc (by simp) _⟩)
    ·go_wp2
     go_roundw
     case rel => exact ⟨q + 1, by omega, by go_num, by first | rfl | trivial, qHd (bad_take G.out HQ.out (decide_eq_false (by omega)))⟩
     case measure => simp [intOf]; omega
   ·have hq' : q = args.length := by omega
    subst hq'
    have R := qHd (RK.out G.out); clear G RK R10
    by_cases h0 : K = 0
    ·have hR : ndK 5 K args.length = 0 := by unfold ndK; first | (simp <;> omega) | (rw [if_neg n0, if_neg n4]; simp <;> omega)
     rw [hR] at R
     go_wp2
     all_goals first | (exfalso; omega) | (go_ret; exact ⟨by rw [R.out]; rfl, by first | exact hbW | exact ((Below.refl _ _).alloc (Nat.le_refl _) _).alloc (by simp) _⟩) | (exfalso; simp_all; done)
    have hR : ndK 5 K args.length = 2 := by unfold ndK; first | (simp <;> omega) | (rw [if_neg n0, if_neg n4]; simp <;> omega)
    rw [hR] at R
    go_wp2
    all_goals first | (exfalso; omega) | (go_ret; exact ⟨by rw [R.out]; rfl, by first | exact hbW | exact ((Below.refl _ _).alloc (Nat.le_refl _) _).alloc (by simp) _⟩) | (exfalso; simp_all; done)
theorem ndsErr_dropC {v : Int} {l : List Nd} {q : Nat} {x : Nd} (hq : l[q]? = some x) : qdw v q (l.drop q) = if qdh v q x = 0 then qdw v (q + 1) (l.drop (q + 1)) else qdh v q x := by
 obtain ⟨h1, h2⟩ := List.getElem?_eq_some_iff.1 hq
 rw [List.drop_eq_getElem_cons h1, h2]; simp only [qdw]
theorem fm_range {f : Fm} (h : f.vars < 0 ∨ 24 < f.vars) : qcc f = 3 := by unfold qcc; rw [if_pos h]
theorem fm_large {f : Fm} (h : ¬ (f.vars < 0 ∨ 24 < f.vars)) (h2 : 128 < f.nodes.length) : qcc f = 4 := by unfold qcc; rw [if_neg h, if_pos h2]
theorem fm_node {f : Fm} (h : ¬ (f.vars < 0 ∨ 24 < f.vars)) (h2 : ¬ 128 < f.nodes.length) (h3 : qdw f.vars 0 f.nodes ≠ 0) : qcc f = qdw f.vars 0 f.nodes := by unfold qcc; rw [if_neg h, if_neg h2, if_pos h3]
theorem fm_top {f : Fm} (h : ¬ (f.vars < 0 ∨ 24 < f.vars)) (h2 : ¬ 128 < f.nodes.length) (h3 : qdw f.vars 0 f.nodes = 0) : qcc f = if argOK f f.top then 0 else 10 := by unfold qcc; rw [if_neg h, if_neg h2, if_neg (by rw [h3]; exact fun h => h rfl)]

theorem fcheck_any (vf : Value) (f : Fm) (w : World) (hf : FmV w vf f) :
  Calls Tryz.prog 43 #[vf] w (qea w (errV (qcc f))) := by
 obtain ⟨nv, rfl, hn, hv, ht⟩ := hf
 obtain ⟨ao, c, rfl, hc, hc2, _⟩ := hn.shape
 have HF := qHd (show FmV w _ f from ⟨_, rfl, hn, hv, ht⟩)
 obtain ⟨v, ns, top⟩ := f
 simp only at hv hc ht hn ⊢
 unfold I64 at hv
 have hbW : Below w.heap.size w (w.alloc (.cells #[.int .i64 v, .slice ao ns.length c, .int .i64 top] 24)) := (Below.refl _ _).alloc (Nat.le_refl _) _
 by_cases e1 : v < 0
 ·have R := qHd (fm_range (f := ⟨v, ns, top⟩) (.inl e1))
  go_enter Tryz.func43, Tryz.ntmps43
  go_wp2
  go_ret
  exact ⟨by rw [R.out]; rfl, hbW⟩
 by_cases e2 : 24 < v
 ·have R := qHd (fm_range (f := ⟨v, ns, top⟩) (.inr e2))
  go_enter Tryz.func43, Tryz.ntmps43
  go_wp2
  go_ret
  exact ⟨by rw [R.out]; rfl, hbW⟩
 have E12 := qHd (show ¬ (v < 0 ∨ 24 < v) by omega)
 by_cases e3 : 128 < ns.length
 ·have R := qHd (fm_large (f := ⟨v, ns, top⟩) E12.out e3)
  have e3' : (128 : Int) < (ns.length : Int) := by omega
  go_enter Tryz.func43, Tryz.ntmps43
  go_wp2
  go_ret
  exact ⟨by rw [R.out]; rfl, hbW⟩
 have E3 := qHd e3
 have e3' : (ns.length : Int) ≤ 128 := by omega
 have RN := qHd (fm_node (f := ⟨v, ns, top⟩) E12.out e3)
 have RT := qHd (fm_top (f := ⟨v, ns, top⟩) E12.out e3)
 have HN := qHd hn; clear hn
 obtain ⟨w0, hw0⟩ : ∃ w0, w0 = (w.alloc (.cells #[.int .i64 v, .slice ao ns.length c, .int .i64 top] 24)) := ⟨_, rfl⟩
 rw [← hw0] at hbW
 have hg : w0.heap[w.heap.size]? = some (.cells #[.int .i64 v, .slice ao ns.length c, .int .i64 top] 24) := by rw [hw0]; exact heap_alloc_new w _
 have HG := qHd hg; clear hg
 have hlt : w.heap.size < w0.heap.size := by rw [hw0]; simp
 go_enter Tryz.func43, Tryz.ntmps43
 go_wp2_with fail
 rw [← hw0]; clear hw0
 go_loopw [22] (fun i' wx => ∃ q : Nat, q ≤ ns.length ∧ i' = .int .i64 q ∧ Below w0.heap.size w0 wx ∧ Hid (qdw v 0 ns = qdw v q (ns.drop q))) (fun i' _ => ns.length - (intOf i').toNat)
 case atStart => exact ⟨0, Nat.zero_le _, rfl, Below.refl _ _, qHd rfl⟩
 case round =>
  obtain ⟨q, hq, rfl, hbx, G⟩ := hrel
  obtain ⟨wo, rfl⟩ : ∃ wo : World, wo = wr := ⟨_, rfl⟩
  obtain ⟨x0, x1, x2⟩ := qay (qaa HG.out hbx)
  have hb1 := hbW.trans (hbx.mono hbW.size)
  by_cases hlt2 : q < ns.length
  ·obtain ⟨x, hx⟩ : ∃ x, ns[q]? = some x := ⟨ns[q], List.getElem?_eq_getElem hlt2⟩
   have hlt3 : (q : Int) < (ns.length : Int) := by omega
   have hk := checkNode_any _ ⟨v, ns, top⟩ q x wo (HF.out.below hb1) hx (by simp only; omega) (by omega)
   simp only at hk
   have HK := qHd hk; clear hk
   have D := qHd (ndsErr_dropC (v := v) hx); clear hx
   have HBX := qHd hbx; have HB1 := qHd hb1; clear hbx hb1
   go_wp2_with fail
   (with_reducible refine HK.out.mono ?_); rintro e w1 ⟨rfl, hb2⟩
   have hb3 := HBX.out.trans (hb2.mono HBX.out.size)
   have hb4 := HB1.out.trans (hb2.mono HB1.out.size)
   clear x0 x1 x2 hb2
   by_cases E : qdh v q x = 0
   ·rw [E, qbi]
    go_wp2_with fail
    go_roundw
    case rel => exact ⟨q + 1, by omega, by go_num, hb3, qHd (by rw [G.out, D.out, if_pos E])⟩
    case measure => simp [intOf]; omega
   ·have E' : ¬ ((qdh v q x : Nat) : Int) = 0 := by omega
    have R : qdw v 0 ns = qdh v q x := by rw [G.out, D.out, if_neg E]
    have RR := qHd (RN.out (by rw [R]; exact E))
    have R := qHd R
    rw [qbz E]
    go_wp2_with fail
    go_ret
    exact ⟨by rw [RR.out, R.out]; rw [qbz E]; rfl, hb4⟩
  ·have hq' : q = ns.length := by omega
   subst hq'
   have R : qdw v 0 ns = 0 := by rw [G.out, List.drop_length]; rfl
   have RR := qHd (RT.out R)
   clear R
   have hk := fvalid_any _ ⟨v, ns, top⟩ top wo (HF.out.below hb1) ht
   have HK := qHd hk; clear hk
   skip
   obtain ⟨ok, hok⟩ : ∃ ok, ok = argOK ⟨v, ns, top⟩ top := ⟨_, rfl⟩
   rw [← hok] at HK RR; clear hok
   have HB1 := qHd hb1; clear hb1 hbx
   go_wp2_with fail
   (with_reducible refine HK.out.mono ?_); rintro e w1 ⟨rfl, hb2⟩
   have hb4 := HB1.out.trans (hb2.mono HB1.out.size)
   clear x0 x1 x2 hb2
   cases ok with
   | true =>
    go_wp2_with fail
    go_ret
    exact ⟨by rw [RR.out]; rfl, hb4⟩
   | false =>
    go_wp2_with fail
    go_ret
    exact ⟨by rw [RR.out]; rfl, hb4⟩

theorem rfcheck_any (vf : Value) (f : Fm) (w : World) (hf : FmV w vf f) :
  Calls Tryz.prog 34 #[vf] w (qea w (.int .i64 (qcc f : Nat))) := by
 obtain ⟨nv, rfl, hn, hv, ht⟩ := hf
 obtain ⟨ao, c, rfl, hc, hc2, _⟩ := hn.shape
 have HF := qHd (show FmV w _ f from ⟨_, rfl, hn, hv, ht⟩)
 obtain ⟨v, ns, top⟩ := f
 simp only at hv hc ht hn ⊢
 unfold I64 at hv
 have hbW : Below w.heap.size w (w.alloc (.cells #[.int .i64 v, .slice ao ns.length c, .int .i64 top] 24)) := (Below.refl _ _).alloc (Nat.le_refl _) _
 by_cases e1 : v < 0
 ·have R := qHd (fm_range (f := ⟨v, ns, top⟩) (.inl e1))
  go_enter Tryz.func34, Tryz.ntmps34
  go_wp2
  go_ret
  exact ⟨by rw [R.out]; rfl, hbW⟩
 by_cases e2 : 24 < v
 ·have R := qHd (fm_range (f := ⟨v, ns, top⟩) (.inr e2))
  go_enter Tryz.func34, Tryz.ntmps34
  go_wp2
  go_ret
  exact ⟨by rw [R.out]; rfl, hbW⟩
 have E12 := qHd (show ¬ (v < 0 ∨ 24 < v) by omega)
 by_cases e3 : 128 < ns.length
 ·have R := qHd (fm_large (f := ⟨v, ns, top⟩) E12.out e3)
  have e3' : (128 : Int) < (ns.length : Int) := by omega
  go_enter Tryz.func34, Tryz.ntmps34
  go_wp2
  go_ret
  exact ⟨by rw [R.out]; rfl, hbW⟩
 have E3 := qHd e3
 have e3' : (ns.length : Int) ≤ 128 := by omega
 have RN := qHd (fm_node (f := ⟨v, ns, top⟩) E12.out e3)
 have RT := qHd (fm_top (f := ⟨v, ns, top⟩) E12.out e3)
 have HN := qHd hn; clear hn
 obtain ⟨w0, hw0⟩ : ∃ w0, w0 = (w.alloc (.cells #[.int .i64 v, .slice ao ns.length c, .int .i64 top] 24)) := ⟨_, rfl⟩
 rw [← hw0] at hbW
 have hg : w0.heap[w.heap.size]? = some (.cells #[.int .i64 v, .slice ao ns.length c, .int .i64 top] 24) := by rw [hw0]; exact heap_alloc_new w _
 have HG := qHd hg; clear hg
 have hlt : w.heap.size < w0.heap.size := by rw [hw0]; simp
 go_enter Tryz.func34, Tryz.ntmps34
 go_wp2_with fail
 rw [← hw0]; clear hw0
 go_loopw [20] (fun i' wx => ∃ q : Nat, q ≤ ns.length ∧ i' = .int .i64 q ∧ Below w0.heap.size w0 wx ∧ Hid (qdw v 0 ns = qdw v q (ns.drop q))) (fun i' _ => ns.length - (intOf i').toNat)
 case atStart => exact ⟨0, Nat.zero_le _, rfl, Below.refl _ _, qHd rfl⟩
 case round =>
  obtain ⟨q, hq, rfl, hbx, G⟩ := hrel
  obtain ⟨wo, rfl⟩ : ∃ wo : World, wo = wr := ⟨_, rfl⟩
  obtain ⟨x0, x1, x2⟩ := qay (qaa HG.out hbx)
  have hb1 := hbW.trans (hbx.mono hbW.size)
  by_cases hlt2 : q < ns.length
  ·obtain ⟨x, hx⟩ : ∃ x, ns[q]? = some x := ⟨ns[q], List.getElem?_eq_getElem hlt2⟩
   have hlt3 : (q : Int) < (ns.length : Int) := by omega
   have hk := rnode_any _ ⟨v, ns, top⟩ q x wo (HF.out.below hb1) hx (by simp only; omega) (by omega)
   simp only at hk
   have HK := qHd hk; clear hk
   have D := qHd (ndsErr_dropC (v := v) hx); clear hx
   have HBX := qHd hbx; have HB1 := qHd hb1; clear hbx hb1
   go_wp2_with fail
   (with_reducible refine HK.out.mono ?_); rintro e w1 ⟨rfl, hb2⟩
   have hb3 := HBX.out.trans (hb2.mono HBX.out.size)
   have hb4 := HB1.out.trans (hb2.mono HB1.out.size)
   clear x0 x1 x2 hb2
   by_cases E : qdh v q x = 0
   ·rw [show ((qdh v q x : Nat) : Int) = 0 from by omega]
    go_wp2_with fail
    go_roundw
    case rel => exact ⟨q + 1, by omega, by go_num, hb3, qHd (by rw [G.out, D.out, if_pos E])⟩
    case measure => simp [intOf]; omega
   ·have E' : ¬ ((qdh v q x : Nat) : Int) = 0 := by omega
    have R : qdw v 0 ns = qdh v q x := by rw [G.out, D.out, if_neg E]
    have RR := qHd (RN.out (by rw [R]; exact E))
    have R := qHd R
    
    go_wp2_with fail
    go_ret
    exact ⟨by rw [RR.out, R.out]; rfl, hb4⟩
  ·have hq' : q = ns.length := by omega
   subst hq'
   have R : qdw v 0 ns = 0 := by rw [G.out, List.drop_length]; rfl
   have RR := qHd (RT.out R)
   clear R
   have hk := rfvalid_any _ ⟨v, ns, top⟩ top wo (HF.out.below hb1) ht
   have HK := qHd hk; clear hk
   skip
   obtain ⟨ok, hok⟩ : ∃ ok, ok = argOK ⟨v, ns, top⟩ top := ⟨_, rfl⟩
   rw [← hok] at HK RR; clear hok
   have HB1 := qHd hb1; clear hb1 hbx
   go_wp2_with fail
   (with_reducible refine HK.out.mono ?_); rintro e w1 ⟨rfl, hb2⟩
   have hb4 := HB1.out.trans (hb2.mono HB1.out.size)
   clear x0 x1 x2 hb2
   cases ok with
   | true =>
    go_wp2_with fail
    go_ret
    exact ⟨by rw [RR.out]; rfl, hb4⟩
   | false =>
    go_wp2_with fail
    go_ret
    exact ⟨by rw [RR.out]; rfl, hb4⟩
structure CubeOK (vars : Int) (y n : Nat) : Prop where
 v0 : 0 ≤ vars
 v1 : vars ≤ 24
 y1 : y < 2 ^ vars.toNat
 n1 : n < 2 ^ vars.toNat
 yn : y &&& n = 0
theorem CubeOK.small {vars : Int} {y n : Nat} (h : CubeOK vars y n) : y < 16777216 ∧ n < 16777216 := by
 have h1 := h.y1; have h2 := h.n1
 have : 2 ^ vars.toNat ≤ 2 ^ 24 := Nat.pow_le_pow_right (by decide) (by have := h.v1; omega)
 have e : 2 ^ 24 = 16777216 := by decide
 omega
theorem qeq {a b a' b' : Bool} (h1 : a = a') (h2 : b = b') : lev a b = lev a' b' := by rw [h1, h2]
theorem level_any (a b : Bool) (w : World) : Calls Tryz.prog 149 #[.bool a, .bool b] w (RetS w (.int .i64 (lev a b : Nat))) := by
  cases a <;> cases b <;>
    (go_enter Tryz.func149, Tryz.ntmps149
     go_wp2
     go_ret
     exact ⟨rfl, rfl⟩)
theorem ndVal_5 {K : Int} {args : List Int} {k : Int} {c0 c1 c2 : Nat} (h : k = 5) : ndVal ⟨k, K, args⟩ c0 c1 c2 = lev (decide (c2 = 0 ∧ c1 % 2 = 1)) (decide (c2 = 0 ∧ c1 % 2 = 0)) := by subst h; rfl

theorem tnode_any (vx : Value) (x : Nd) (c0 c1 c2 : Nat) (v : Int) (i : Nat) (w : World) (hx : NdV w vx x) (h0 : qdh v i x = 0) (_b0 : c0 ≤ 16) (b1 : c1 ≤ 16) (b2 : c2 ≤ 16) :
  Calls Tryz.prog 150 #[vx, .agg #[.int .i64 (c0 : Nat), .int .i64 (c1 : Nat), .int .i64 (c2 : Nat)]] w (qea w (.int .i64 (ndVal x c0 c1 c2 : Nat))) := by
 obtain ⟨av, rfl, hI, hk, hK⟩ := hx
 obtain ⟨ao', c', rfl, hc', hc2', _⟩ := hI.shape
 have h7 : ¬ (x.kind < 0 ∨ 5 < x.kind) := fun h => by unfold qdh at h0; rw [if_pos h] at h0; cases h0
 have hK0 := ndErr_K h0
 have hA := ndErr_args h0
 clear h0 hI
 obtain ⟨k, K, args⟩ := x
 simp only at hk hK h7 hK0 hA hc' ⊢
 have hl16 : args.length ≤ 16 := by
  unfold qcz at hA
  split at hA
  ·have := of_decide_eq_true hA; omega
  split at hA
  ·have := of_decide_eq_true hA; omega
  ·exact (of_decide_eq_true hA).2
 clear hA
 unfold I64 at hk hK
 have hbW : Below w.heap.size w ((w.alloc (.cells #[.int .i64 k, .int .i64 K, .slice ao' args.length c'] 82)).alloc (.cells #[.int .i64 (c0 : Nat), .int .i64 (c1 : Nat), .int .i64 (c2 : Nat)] 200)) := ((Below.refl _ _).alloc (Nat.le_refl _) _).alloc (by simp) _
 have hkk : k = 0 ∨ k = 1 ∨ k = 2 ∨ k = 3 ∨ k = 4 ∨ k = 5 := by omega
 rcases hkk with rfl | rfl | rfl | rfl | rfl | rfl
 ·have hKn : (K.toNat : Int) = K := by rcases hK0 rfl with h | h <;> omega
  have R := qHd (show ((ndVal ⟨0, K, args⟩ c0 c1 c2 : Nat) : Int) = K from hKn)
  clear hKn hK0
  go_enter Tryz.func150, Tryz.ntmps150
  go_wp2
  go_ret
  exact ⟨qfb R.out.symm, hbW⟩
 ·clear hK0 h7
  go_enter Tryz.func150, Tryz.ntmps150
  go_wp2_with fail
  (with_reducible refine (level_any _ _ _).mono ?_); rintro e w1 ⟨rfl, rfl⟩
  go_wp2_with fail
  go_ret
  refine ⟨qfb (congrArg (fun n : Nat => (n : Int)) (qeq ?_ ?_)), hbW⟩
  ·first | (rw [Bool.eq_iff_iff]; simp; done) | (rw [Bool.eq_iff_iff]; simp; omega) | rw [Bool.eq_iff_iff]
  ·first | (rw [Bool.eq_iff_iff]; simp; done) | (rw [Bool.eq_iff_iff]; simp; omega) | rw [Bool.eq_iff_iff]
 ·clear hK0 h7
  go_enter Tryz.func150, Tryz.ntmps150
  go_wp2_with fail
  (with_reducible refine (level_any _ _ _).mono ?_); rintro e w1 ⟨rfl, rfl⟩
  go_wp2_with fail
  go_ret
  refine ⟨qfb (congrArg (fun n : Nat => (n : Int)) (qeq ?_ ?_)), hbW⟩
  ·first | (rw [Bool.eq_iff_iff]; simp; done) | (rw [Bool.eq_iff_iff]; simp; omega) | rw [Bool.eq_iff_iff]
  ·first | (rw [Bool.eq_iff_iff]; simp; done) | (rw [Bool.eq_iff_iff]; simp; omega) | rw [Bool.eq_iff_iff]
 ·clear hK0 h7
  go_enter Tryz.func150, Tryz.ntmps150
  go_wp2_with fail
  (with_reducible refine (level_any _ _ _).mono ?_); rintro e w1 ⟨rfl, rfl⟩
  go_wp2_with fail
  go_ret
  refine ⟨qfb (congrArg (fun n : Nat => (n : Int)) (qeq ?_ ?_)), hbW⟩
  ·first | (rw [Bool.eq_iff_iff]; simp; done) | (rw [Bool.eq_iff_iff]; simp; omega) | rw [Bool.eq_iff_iff]
  ·first | (rw [Bool.eq_iff_iff]; simp; done) | (rw [Bool.eq_iff_iff]; simp; omega) | rw [Bool.eq_iff_iff]
 ·clear hK0 h7
  go_enter Tryz.func150, Tryz.ntmps150
  go_wp2_with fail
  (with_reducible refine (level_any _ _ _).mono ?_); rintro e w1 ⟨rfl, rfl⟩
  go_wp2_with fail
  go_ret
  refine ⟨qfb (congrArg (fun n : Nat => (n : Int)) (qeq ?_ ?_)), hbW⟩
  ·first | (rw [Bool.eq_iff_iff]; simp; done) | (rw [Bool.eq_iff_iff]; simp; omega) | rw [Bool.eq_iff_iff]
  ·first | (rw [Bool.eq_iff_iff]; simp; done) | (rw [Bool.eq_iff_iff]; simp; omega) | rw [Bool.eq_iff_iff]
 ·clear hK0 h7
  rw [ndVal_5 rfl]
  have m0 : decide ((((c1 : Nat) : Int).tmod 2) = 1) = decide (c1 % 2 = 1) := by rw [Int.tmod_eq_emod_of_nonneg (by omega), Bool.eq_iff_iff]; simp; omega
  by_cases e2 : c2 = 0
  ·subst e2
   go_enter Tryz.func150, Tryz.ntmps150
   go_wp2_with fail
   (with_reducible refine (level_any _ _ _).mono ?_); rintro e w1 ⟨rfl, rfl⟩
   go_wp2_with fail
   go_ret
   refine ⟨qfb (congrArg (fun n : Nat => (n : Int)) (qeq ?_ ?_)), hbW⟩
   ·first | (rw [Bool.eq_iff_iff]; simp; done) | (rw [Bool.eq_iff_iff]; simp; omega) | rw [Bool.eq_iff_iff]
   ·first | (rw [Bool.eq_iff_iff]; simp; done) | (rw [Bool.eq_iff_iff]; simp; omega) | rw [Bool.eq_iff_iff]
  ·have e2' : ¬ ((c2 : Nat) : Int) = 0 := by omega
   go_enter Tryz.func150, Tryz.ntmps150
   go_wp2_with fail
   (with_reducible refine (level_any _ _ _).mono ?_); rintro e w1 ⟨rfl, rfl⟩
   go_wp2_with fail
   go_ret
   refine ⟨qfb (congrArg (fun n : Nat => (n : Int)) (qeq ?_ ?_)), hbW⟩
   ·first | (rw [Bool.eq_iff_iff]; simp; done) | (rw [Bool.eq_iff_iff]; simp; omega) | rw [Bool.eq_iff_iff]
   ·first | (rw [Bool.eq_iff_iff]; simp; done) | (rw [Bool.eq_iff_iff]; simp; omega) | rw [Bool.eq_iff_iff]
end Go.Proofs.YthhgfhdmfhnklaaGreatDoor
namespace Go.Proofs.YthhgfhdmfhnklaaGreatDoor
theorem qew {x : Nat} (h : x < 9223372036854775808) : (BitVec.ofInt 64 (x : Int)).toNat = x := by
 rw [BitVec.toNat_ofInt]; omega
theorem wrap_small {z : Int} (h : 0 ≤ z ∧ z < 9223372036854775808) : IntKind.wrap .i64 z = z := by
 unfold IntKind.wrap
 simp [IntKind.bits, IntKind.signed]
 omega
theorem bits_and {x y : Nat} (hx : x < 9223372036854775808) (hy : y < 9223372036854775808) : bits .and .i64 (x : Int) (y : Int) = ((x &&& y : Nat) : Int) := by
 have hle : x &&& y ≤ x := Nat.and_le_left
 have h : (BitVec.ofInt 64 (x : Int) &&& BitVec.ofInt 64 (y : Int)).toNat = x &&& y := by
  rw [BitVec.toNat_and, qew hx, qew hy]
 show IntKind.wrap .i64 ((BitVec.ofInt 64 (x : Int) &&& BitVec.ofInt 64 (y : Int)).toNat : Int) = _
 rw [h]
 exact wrap_small (by omega)
theorem bits_or {x y : Nat} (hx : x < 4611686018427387904) (hy : y < 4611686018427387904) : bits .or .i64 (x : Int) (y : Int) = ((x ||| y : Nat) : Int) := by
 have hlt : x ||| y < 2 ^ 62 := Nat.or_lt_two_pow (by omega) (by omega)
 have h : (BitVec.ofInt 64 (x : Int) ||| BitVec.ofInt 64 (y : Int)).toNat = x ||| y := by
  rw [BitVec.toNat_or, qew (by omega), qew (by omega)]
 show IntKind.wrap .i64 ((BitVec.ofInt 64 (x : Int) ||| BitVec.ofInt 64 (y : Int)).toNat : Int) = _
 rw [h]
 exact wrap_small (by omega)
theorem bit_one (x i : Nat) : (x >>> i) &&& 1 = if x.testBit i then 1 else 0 := by
 rw [Nat.and_one_is_mod]
 unfold Nat.testBit
 rw [Nat.one_and_eq_mod_two]
 split <;> rename_i h <;> simp at h <;> omega
end Go.Proofs.YthhgfhdmfhnklaaGreatDoor
namespace Go.Proofs.YthhgfhdmfhnklaaGreatDoor
open Go.RowKit Go.ChangeShapes Go.WideShapes
theorem qcy {w : World} {g : Nat} {x0 x1 : Value} {T : TypeId} (h : w.heap[g]? = some (.cells #[x0, x1] T)) : w.cell? ⟨g, 0, none⟩ = some x0 ∧ w.cell? ⟨g, 1, none⟩ = some x1 :=
 ⟨by rw [cell_of_row w g 0 _ T (0, 0) h]; rfl, by rw [cell_of_row w g 1 _ T (0, 0) h]; rfl⟩
theorem Tryz.intTy : qee Tryz.prog 80 3 (.int .i64 0) 1 8 := .mk' Tryz.underlying80 (by kernel_rfl)
theorem qgb {x i : Nat} (hx : x < 9223372036854775808) : ∃ (xs x1 : Nat) (xt : Bool), (x : Int) / 2 ^ i = (xs : Int) ∧ bits .and .i64 (xs : Int) 1 = (x1 : Int) ∧ (((x1 : Nat) : Int) == 1) = xt ∧ x.testBit i = xt := by
 refine ⟨x >>> i, (x >>> i) &&& 1, x.testBit i, ?_, ?_, ?_, rfl⟩
 ·rw [Nat.shiftRight_eq_div_pow]; simp
 ·have : x >>> i ≤ x := by rw [Nat.shiftRight_eq_div_pow]; exact Nat.div_le_self _ _
  exact bits_and (by omega) (by decide)
 ·rw [bit_one]; split <;> rename_i h <;> simp [h]
theorem nd_16 {v : Int} {i : Nat} {x : Nd} (h : qdh v i x = 0) : x.args.length ≤ 16 := by
 have hA := ndErr_args h
 unfold qcz at hA
 split at hA
 ·have := of_decide_eq_true hA; omega
 split at hA
 ·have := of_decide_eq_true hA; omega
 ·exact (of_decide_eq_true hA).2
section
variable {P : Program} {w : World} {ops : Array Oper} {rest : List Oper} {a : Act} {Q : Exit → Act → World → Prop}
theorem wpList_pauseM {d : Option Tmp} {tt t : TypeId} {l c : Operand} {pos : String} {af : Array Edge} (h : qap (wpList P ops Q (⟨d, .makeSlice t l c, tt, pos, af, none⟩ :: rest) a w)) : wpList P ops Q (⟨d, .makeSlice t l c, tt, pos, af, none⟩ :: rest) a w := h
theorem wpList_make0 {d : Option Tmp} {tt t e : TypeId} {l c : Operand} {pos : String} {af : Array Edge} (base : Nat) {z : Value} {size bytes : Nat} (T : qee P t e z size bytes)
  {kl kc : IntKind} {C : Int} (n : Nat) (hl : a.eval l = .int kl 0) (hc : a.eval c = .int kc C) (hC : C = (n : Int)) (hn : n ≤ 1000000) (hby : bytes ≤ 1000) (hbase : base ≤ w.heap.size)
  (hK : ∀ w', w'.ownsRow base e size (.slice (some ⟨w.heap.size, 0, none⟩) 0 n) 0 [] → w.grownBy w' none → wpList P ops Q rest (a.put d (.slice (some ⟨w.heap.size, 0, none⟩) 0 n)) w') :
  qap (wpList P ops Q (⟨d, .makeSlice t l c, tt, pos, af, none⟩ :: rest) a w) := by
 obtain ⟨i0, hi, hz0, hz1, hz2⟩ := T.info
 have hb : bytes * n ≤ 1000 * 1000000 := Nat.mul_le_mul hby hn
 exact wpList_make_own w rfl l c t rfl base e i0 z size T.under hi hz0 hz1 kl kc C n hl hc hC (by rw [hz2]; omega) (by unfold maxLen; omega) hbase hK
end
def RetInts (w : World) (l : List Int) (e : Ending) (w' : World) : Prop := ∃ v, e = .returned v ∧ Below w.heap.size w w' ∧ qfd w' v l

theorem tvalues_any (vf : Value) (f : Fm) (y n : Nat) (w : World) (hf : FmV w vf f) (h0 : qcc f = 0) (hcu : CubeOK f.vars y n) :
  Calls Tryz.prog 117 #[vf, .agg #[.int .i64 (y : Nat), .int .i64 (n : Nat)]] w (RetInts w (qdq (qdt f y n))) := by
 obtain ⟨vb, yb⟩ := hcu.small
 obtain ⟨p0, p1, p2, p3⟩ := qbe h0
 obtain ⟨nv, rfl, hn, hv, ht⟩ := hf
 obtain ⟨ao, c, rfl, hc, hc2, _⟩ := hn.shape
 obtain ⟨v, ns, top⟩ := f
 simp only at hv hc ht hn p0 p1 p2 p3 ⊢
 obtain ⟨V, rfl⟩ : ∃ V : Nat, v = V := ⟨v.toNat, by omega⟩
 have HN := qHd hn; clear hn
 have HP := qHd p3; clear p3 hcu h0 ht hv
 have p2' : (ns.length : Int) ≤ 128 := by omega
 obtain ⟨W, hW, hbW, hg1, hg2⟩ := qBx2 w (.cells #[.int .i64 V, .slice ao ns.length c, .int .i64 top] 24) (.cells #[.int .i64 (y : Nat), .int .i64 (n : Nat)] 46)
 obtain ⟨g1, hG1⟩ : ∃ g, g = w.heap.size := ⟨_, rfl⟩
 obtain ⟨g2, hG2⟩ : ∃ g, g = w.heap.size + 1 := ⟨_, rfl⟩
 rw [← hG1] at hg1; rw [← hG2] at hg2
 have G1 := qHd hg1; have G2 := qHd hg2; clear hg1 hg2
 have HBW := qHd hbW; clear hbW
 obtain ⟨x0, x1, x2⟩ := qay G1.out
 go_enter Tryz.func117, Tryz.ntmps117
 go_wp2_with (with_reducible refine wpList_pauseM ?_)
 rw [← hW, ← hG2, ← hG1]
 clear hW hG1 hG2
 refine wpList_make0 W.heap.size Tryz.intTy (V + ns.length) rfl rfl (by omega) (by omega) (by decide) (Nat.le_refl _) ?_
 intro w1 ho1 hgr1
 have hb1 : Below W.heap.size W w1 := (Below.refl _ _).grown hgr1 (Nat.le_refl _) (fun k hk => by cases hk)
 clear hgr1 x0 x1 x2
 have HO1 := qHd ho1; have HB1 := qHd hb1; clear ho1 hb1
 obtain ⟨x0, x1, x2⟩ := qay (qaa G1.out HB1.out)
 go_wp2_with fail
 clear x0 x1 x2
 go_loopw [21, 5] (fun i' vv wx => ∃ q : Nat, q ≤ V ∧ i' = .int .i64 q ∧ Below W.heap.size W wx ∧ Hid (wx.ownsRow W.heap.size 3 1 vv q (ivals (qdq ((qcn V y n).take q))))) (fun i' _ _ => V - (intOf i').toNat)
 case atStart => exact ⟨0, Nat.zero_le _, rfl, HB1.out, qHd (by simpa [ivals, qdq] using HO1.out)⟩
 case round =>
  obtain ⟨q, hq, rfl, hbx, O⟩ := hrel
  obtain ⟨wo, rfl⟩ : ∃ wo : World, wo = wr := ⟨_, rfl⟩
  by_cases hlt : q < V
  ·skip
   obtain ⟨aov, cv, rfl, hcv, hcv2, _⟩ := qff O.out
   have hlt' : (q : Int) < (V : Int) := by omega
   have HBX := qHd hbx; clear hbx
   obtain ⟨ys, y1, yt, hY⟩ := qgb (x := y) (i := q) (by omega)
   obtain ⟨ns1, n1, nt, hN⟩ := qgb (x := n) (i := q) (by omega)
   obtain ⟨ev, hev⟩ : ∃ e, e = ev3 y n q := ⟨_, rfl⟩
   have EV := qHd (show lev yt nt = ev by rw [hev, ← hY.2.2.2, ← hN.2.2.2]; rfl)
   have YB := qHd hY; have NB := qHd hN; have HE := qHd hev; clear hY hN hev
   go_wp2_with (with_reducible first | refine qad ?_ | refine qai ?_ | refine qaj ?_ | refine qak ?_ | refine qag ?_)
   refine qap.mk ?_
   refine qao (A := ?aa5) (w := wo) 15 [] (by kernel_rfl) (Fl [KEq (.slice aov q cv), KEq (.pointer (some ⟨g2, 0, none⟩)), KEq (.int .i64 (y : Nat)), KEq (.int .i64 (q : Nat)), KEq (.int .i64 (ys : Nat)), KEq (.int .i64 (y1 : Nat)), KEq (.bool yt), KEq (.pointer (some ⟨g2, 1, none⟩)), KEq (.int .i64 (n : Nat)), KEq (.int .i64 (q : Nat)), KEq (.int .i64 (ns1 : Nat)), KEq (.int .i64 (n1 : Nat)), KEq (.bool nt), KEq (.int .i64 (ev : Nat)), KLst wo.heap.size 1 #[.int .i64 (ev : Nat)] 3]) (fun i => false) (by kernel_rfl) ?hq5 (qcw (qae (kEq _) (qae (kEq _) (qae (kEq _) (qae (kEq _) (qae (kEq _) (qae (kEq _) (qae (kEq _) (qae (kEq _) (qae (kEq _) (qae (kEq _) (qae (kEq _) (qae (kEq _) (qae (kEq _) (qae (kEq _) (qae (kLst _ _ _ _) qcv)))))))))))))))) ?ha5 ?st5 ?tl5
   case hq5 =>
    intro c a d v w h
    first | (simp only [Exit.then] at h ⊢; exact h) | (simp only [Exit.inBlock, Exit.then] at h ⊢; exact h) | exact h
   case ha5 =>
    intro vals
    simp only [qba, qcd, if_true, Act.put, List.setIfInBounds_toArray, List.set_cons_zero, List.set_cons_succ, List.getElem?_toArray, List.getElem?_cons_zero, List.getElem?_cons_succ, Option.bind_some]
    exact rfl
   case st5 =>
    simp only [List.take_succ_cons, List.take_zero]
    refine qab rfl rfl ?_ (qab rfl rfl ?_ (qab rfl rfl ?_ (qab rfl rfl ?_ (qab rfl rfl ?_ (qab rfl rfl ?_ (qab rfl rfl ?_ (qab rfl rfl ?_ (qab rfl rfl ?_ (qab rfl rfl ?_ (qab rfl rfl ?_ (qab rfl rfl ?_ (qab rfl rfl ?_ (qab rfl rfl ?_ (qab rfl rfl ?_ (qav)))))))))))))))
    ·intro vals w1 hb hd
     refine qSv (.slice aov q cv) (by go_simp) (qLk rfl rfl)
    ·intro vals w1 hb hd
     refine qSv (.pointer (some ⟨g2, 0, none⟩)) (by go_simp) (qLk rfl rfl)
    ·intro vals w1 hb hd
     obtain ⟨e0, e1⟩ := qcy (qaa G2.out (HBX.out.trans (hb.mono HBX.out.size)))
     rw [show vals 1 = .pointer (some ⟨g2, 0, none⟩) from hd 1 (by kernel_rfl)]
     refine qSv (.int .i64 (y : Nat)) (by go_simp) (qLk rfl rfl)
    ·intro vals w1 hb hd
     refine qSv (.int .i64 (q : Nat)) (by go_simp) (qLk rfl rfl)
    ·intro vals w1 hb hd
     rw [show vals 2 = .int .i64 (y : Nat) from hd 2 (by kernel_rfl)]
     rw [show vals 3 = .int .i64 (q : Nat) from hd 3 (by kernel_rfl)]
     refine qSv (.int .i64 (ys : Nat)) (by go_simp; exact YB.out.1) (qLk rfl rfl)
    ·intro vals w1 hb hd
     rw [show vals 4 = .int .i64 (ys : Nat) from hd 4 (by kernel_rfl)]
     refine qSv (.int .i64 (y1 : Nat)) (by go_simp; exact YB.out.2.1) (qLk rfl rfl)
    ·intro vals w1 hb hd
     rw [show vals 5 = .int .i64 (y1 : Nat) from hd 5 (by kernel_rfl)]
     refine qSv (.bool yt) (by go_simp; exact YB.out.2.2.1) (qLk rfl rfl)
    ·intro vals w1 hb hd
     refine qSv (.pointer (some ⟨g2, 1, none⟩)) (by go_simp) (qLk rfl rfl)
    ·intro vals w1 hb hd
     obtain ⟨e0, e1⟩ := qcy (qaa G2.out (HBX.out.trans (hb.mono HBX.out.size)))
     rw [show vals 7 = .pointer (some ⟨g2, 1, none⟩) from hd 7 (by kernel_rfl)]
     refine qSv (.int .i64 (n : Nat)) (by go_simp) (qLk rfl rfl)
    ·intro vals w1 hb hd
     refine qSv (.int .i64 (q : Nat)) (by go_simp) (qLk rfl rfl)
    ·intro vals w1 hb hd
     rw [show vals 8 = .int .i64 (n : Nat) from hd 8 (by kernel_rfl)]
     rw [show vals 9 = .int .i64 (q : Nat) from hd 9 (by kernel_rfl)]
     refine qSv (.int .i64 (ns1 : Nat)) (by go_simp; exact NB.out.1) (qLk rfl rfl)
    ·intro vals w1 hb hd
     rw [show vals 10 = .int .i64 (ns1 : Nat) from hd 10 (by kernel_rfl)]
     refine qSv (.int .i64 (n1 : Nat)) (by go_simp; exact NB.out.2.1) (qLk rfl rfl)
    ·intro vals w1 hb hd
     rw [show vals 11 = .int .i64 (n1 : Nat) from hd 11 (by kernel_rfl)]
     refine qSv (.bool nt) (by go_simp; exact NB.out.2.2.1) (qLk rfl rfl)
    ·intro vals w1 hb hd
     have d6 : KEq (.bool yt) (vals 6) w1 := hd 6 (by kernel_rfl)
     have d12 : KEq (.bool nt) (vals 12) w1 := hd 12 (by kernel_rfl)
     have HS := qHd (level_any yt nt w1)
     have z6 : vals 6 = _ := d6
     rw [z6]; clear z6
     have z12 : vals 12 = _ := d12
     rw [z12]; clear z12
     refine qat (by go_simp; first | done | exact ⟨⟨rfl, rfl⟩, rfl⟩) ?_
     (with_reducible refine HS.out.mono ?_); rintro e w2 ⟨rfl, rfl⟩
     exact ⟨_, rfl, qar (Below.refl _ _) (congrArg (fun n : Nat => Value.int .i64 (n : Int)) EV.out) (fun h => by cases h)⟩
    ·intro vals w1 hb hd
     rw [show vals 13 = .int .i64 (ev : Nat) from hd 13 (by kernel_rfl)]
     refine qaq (v := .slice (some ⟨w1.heap.size, 0, none⟩) 1 1) (w' := w1.alloc (.cells #[.int .i64 (ev : Nat)] 3)) (by go_simp) (qar ((Below.refl _ _).alloc (Nat.le_refl _) _) ⟨_, hb.size, rfl, heap_alloc_new _ _⟩ (fun h => by cases h))
   case tl5 =>
    intro vals w2 hb2 hf hdis
    simp only [List.drop_succ_cons, List.drop_zero]
    have z0 : vals 0 = _ := hf 0 (by decide)
    obtain ⟨g3, hg3, ev, hz3⟩ : KLst wo.heap.size 1 #[.int .i64 (ev : Nat)] 3 (vals 14) w2 := hf 14 (by decide)
    rw [z0, ev]
    clear z0 ev hf hdis
    have O2 := qHd (qcg O.out hb2)
    have HB2 := qHd (HBX.out.trans (hb2.mono HBX.out.size))
    go_wp2_with (with_reducible refine qby ?_)
    refine qec W.heap.size Tryz.intTy rfl (by decide) _ q _ [.int .i64 (ev : Nat)] g3 3 rfl rfl O2.out hz3 rfl rfl (by omega) (by decide) HB2.out.size ?_
    intro v' w3 ho3 hg4
    have hb3 := own_low O2.out hg4 HB2.out HB2.out.size
    clear hg4 hz3
    have HO3 := qHd ho3; have HB3 := qHd hb3; clear ho3 hb3
    go_wp2_with fail
    go_roundw
    case rel => exact ⟨q + 1, by omega, by go_num, HB3.out, qHd (by rw [valsE_take V y n q hlt, nints_app, ivals_app, ← HE.out]; exact HO3.out)⟩
    case measure => simp [intOf]; omega
  ·have hq' : q = V := by omega
   subst hq'
   have O := O.out
   rw [List.take_of_length_le (by rw [qbf]; exact Nat.le_refl _)] at O
   have hbw := HBW.out.trans (hbx.mono HBW.out.size)
   obtain ⟨x0, x1, x2⟩ := qay (qaa G1.out hbx)
   have HO := qHd O; have HBX := qHd hbx; clear O hbx hbw
   go_wp2_with fail
   clear x0 x1 x2
   go_loopw [44, 5] (fun i' vv wx => ∃ j : Nat, j ≤ ns.length ∧ i' = .int .i64 j ∧ Below W.heap.size W wx ∧ Hid (wx.ownsRow W.heap.size 3 1 vv (q + j) (ivals (qdq (qck (qcn q y n) (ns.take j)))))) (fun i' _ _ => ns.length - (intOf i').toNat)
   case atStart => exact ⟨0, Nat.zero_le _, rfl, HBX.out, qHd HO.out⟩
   case round =>
    obtain ⟨j, hj, rfl, hby, O⟩ := hrel
    obtain ⟨wo, rfl⟩ : ∃ wo : World, wo = wr := ⟨_, rfl⟩
    have hbw := HBW.out.trans (hby.mono HBW.out.size)
    by_cases hlt : j < ns.length
    ·obtain ⟨x, hx⟩ : ∃ x, ns[j]? = some x := ⟨ns[j], List.getElem?_eq_getElem hlt⟩
     obtain ⟨b, off, rfl, hb, _, hat⟩ := (HN.out.below hbw).at (by omega)
     obtain ⟨c0, c1, ⟨av, c2, hI⟩, hk, hK⟩ := hat j x hx
     clear hat
     have he := ndsErr_at ns 0 HP.out j x hx
     rw [Nat.zero_add] at he
     have hle := fun k => valsN_le (ns.take j) 0 (qcn q y n) (ndsOK_take ns 0 j HP.out) (fun k => by rw [qdl]; split <;> first | exact ev3_le _ _ _ | omega) k
     have hlen : (qck (qcn q y n) (ns.take j)).length = q + j := by rw [qcs, qbf, List.length_take]; omega
     have hnext := valsN_take hx (qcn q y n)
     obtain ⟨vs, hvs⟩ : ∃ vs, vs = qck (qcn q y n) (ns.take j) := ⟨_, rfl⟩
     rw [← hvs] at O hle hlen hnext
     have HNX := qHd hnext; have HLE := qHd hle; have HLN := qHd hlen; clear hvs hnext hle hlen
     have HX := qHd hx; clear hx
     have ha16 := nd_16 he
     have HARG := qHd (ndErr_arg he)
     have HE := qHd he; clear he
     obtain ⟨kind, K, args⟩ := x
     simp only at c0 c1 c2 hI hk hK ha16 HARG
     obtain ⟨ao', c', rfl, hc', hc2', _⟩ := hI.shape
     have HI := qHd hI; clear hI
     have HK := qHd (And.intro hk hK); clear hk hK
     have hltz : (j : Int) < (ns.length : Int) := by omega
     obtain ⟨aov, cv, rfl, hcv, hcv2, _⟩ := qff O.out
     obtain ⟨x0, x1, x2⟩ := qay (qaa G1.out hby)
     have HBY := qHd hby; have HBW2 := qHd hbw; clear hby hbw
     go_wp2_with fail
     clear x0 x1 x2 c0 c1 c2
     go_loopw [51] (fun i' wx => ∃ k n0 n1 n2 : Nat, k ≤ args.length ∧ i' = .int .i64 k ∧ n0 ≤ k ∧ n1 ≤ k ∧ n2 ≤ k ∧ wx = (wo.alloc (.cells #[.int .i64 kind, .int .i64 K, .slice ao' args.length c'] 82)).alloc (.cells #[.int .i64 n0, .int .i64 n1, .int .i64 n2] 200) ∧ Hid (n0 = cntV vs (args.take k) 0 ∧ n1 = cntV vs (args.take k) 1 ∧ n2 = cntV vs (args.take k) 2)) (fun i' _ => args.length - (intOf i').toNat)
     case atStart => exact ⟨0, 0, 0, 0, Nat.zero_le _, rfl, Nat.le_refl _, Nat.le_refl _, Nat.le_refl _, rfl, qHd ⟨rfl, rfl, rfl⟩⟩
     case round =>
      obtain ⟨k, n0, n1, n2, hk, rfl, l0, l1, l2, rfl, CN⟩ := hrel
      by_cases hlk : k < args.length
      ·obtain ⟨ba, offa, rfl, hba, _, hata⟩ := HI.out.at (by omega)
       obtain ⟨a, hqa⟩ : ∃ a, args[k]? = some a := ⟨args[k], List.getElem?_eq_getElem hlk⟩
       have ca := hata k a hqa
       clear hata
       have hla := HARG.out a (List.mem_of_getElem? hqa)
       obtain ⟨A, rfl⟩ : ∃ A : Nat, a = A := ⟨a.toNat, by omega⟩
       have hAl : A < q + j := by omega
       obtain ⟨gv, rfl, hgv1, hgv2, _, _, hcell⟩ := own_cells O.out rfl (by omega)
       have cA := hcell A _ (ivals_at (nints_at (by rw [HLN.out]; exact hAl)))
       have hx2 := HLE.out A
       clear hcell
       have hlk' : (k : Int) < (args.length : Int) := by omega
       have hA' : (A : Int) < (q : Int) + (j : Int) := by omega
       have S := fun z => cntV_snoc vs (args.take k) (A : Int) z
       rw [← qen hqa] at S
       rw [Int.toNat_natCast] at S
       obtain ⟨xv, hxv⟩ : ∃ xv, xv = gd vs A := ⟨_, rfl⟩
       rw [← hxv] at cA hx2 S
       have SS := qHd S; clear S hqa hxv
       have h3 : xv = 0 ∨ xv = 1 ∨ xv = 2 := by omega
       rcases h3 with rfl | rfl | rfl
       ·go_wp2_with fail
        go_roundw
        case rel => exact ⟨k + 1, n0 + 1, n1, n2, by omega, by go_num, by omega, by omega, by omega, rfl, qHd ⟨by rw [SS.out, CN.out.1]; rfl, by rw [SS.out, CN.out.2.1]; rfl, by rw [SS.out, CN.out.2.2]; rfl⟩⟩
        case measure => simp [intOf]; omega
       ·go_wp2_with fail
        go_roundw
        case rel => exact ⟨k + 1, n0, n1 + 1, n2, by omega, by go_num, by omega, by omega, by omega, rfl, qHd ⟨by rw [SS.out, CN.out.1]; rfl, by rw [SS.out, CN.out.2.1]; rfl, by rw [SS.out, CN.out.2.2]; rfl⟩⟩
        case measure => simp [intOf]; omega
       ·go_wp2_with fail
        go_roundw
        case rel => exact ⟨k + 1, n0, n1, n2 + 1, by omega, by go_num, by omega, by omega, by omega, rfl, qHd ⟨by rw [SS.out, CN.out.1]; rfl, by rw [SS.out, CN.out.2.1]; rfl, by rw [SS.out, CN.out.2.2]; rfl⟩⟩
        case measure => simp [intOf]; omega
      ·have hk' : k = args.length := by omega
       subst hk'
       have CN := CN.out
       rw [List.take_length] at CN
       obtain ⟨W3, hW3⟩ : ∃ W3, W3 = (wo.alloc (.cells #[.int .i64 kind, .int .i64 K, .slice ao' args.length c'] 82)).alloc (.cells #[.int .i64 n0, .int .i64 n1, .int .i64 n2] 200) := ⟨_, rfl⟩
       have hb3 : Below wo.heap.size wo W3 := by rw [hW3]; exact ((Below.refl _ _).alloc (Nat.le_refl _) _).alloc (by simp) _
       have hk := tnode_any _ ⟨kind, K, args⟩ n0 n1 n2 _ _ W3 ⟨_, rfl, HI.out.below hb3, HK.out.1, HK.out.2⟩ HE.out (by omega) (by omega) (by omega)
       have HT := qHd hk; clear hk
       have HB3 := qHd hb3; clear hb3
       obtain ⟨nx, hnx⟩ : ∃ nx, nx = ndVal ⟨kind, K, args⟩ n0 n1 n2 := ⟨_, rfl⟩
       rw [← hnx] at HT
       have HNX2 := qHd (show qck (qcn q y n) (ns.take (j + 1)) = vs ++ [nx] by rw [HNX.out, hnx, CN.1, CN.2.1, CN.2.2])
       clear hnx CN
       go_wp2_with (with_reducible refine qad ?_)
       rw [← hW3]; clear hW3
       refine qap.mk ?_
       (with_reducible refine HT.out.mono ?_); rintro e w4 ⟨rfl, hb4⟩
       have hb5 := HB3.out.trans (hb4.mono HB3.out.size)
       clear hb4 HT
       have hb6 := hb5.alloc hb5.size (.cells #[.int .i64 (nx : Nat)] 3)
       have hz := heap_alloc_new w4 (.cells #[.int .i64 (nx : Nat)] 3)
       have O2 := qHd (qcg O.out hb6)
       have HB6 := qHd (HBY.out.trans (hb6.mono HBY.out.size))
       clear hb5 hb6
       go_wp2_with (with_reducible refine qby ?_)
       refine qec W.heap.size Tryz.intTy rfl (by decide) _ (q + j) _ [.int .i64 (nx : Nat)] w4.heap.size 3 rfl rfl O2.out hz rfl rfl (by omega) (by decide) HB6.out.size ?_
       intro v' w5 ho5 hg5
       have hb7 := own_low O2.out hg5 HB6.out HB6.out.size
       clear hg5 hz
       have HO5 := qHd ho5; have HB7 := qHd hb7; clear ho5 hb7
       go_wp2_with fail
       go_roundw
       case rel => exact ⟨j + 1, by omega, by go_num, HB7.out, qHd (by rw [HNX2.out, nints_app, ivals_app]; exact HO5.out)⟩
       case measure => simp [intOf]; omega
    ·have hj' : j = ns.length := by omega
     subst hj'
     have O := O.out
     rw [List.take_length] at O
     have HOI := qHd (show qfd wo _ (qdq (qdt ⟨q, ns, top⟩ y n)) from own_ints (l := qdq (qck (qcn q y n) ns)) (by rw [qbw, qcs, qbf]; exact O) (nints_lt (fun k => Nat.le_trans (valsN_le ns 0 (qcn q y n) HP.out (fun k => by rw [qdl]; split <;> first | exact ev3_le _ _ _ | omega) k) (by decide))))
     have HBE := qHd hbw
     clear O hbw hby
     go_wp2_with fail
     go_ret
     exact ⟨_, rfl, HBE.out, HOI.out⟩
theorem pow_24 {V : Nat} (h : V ≤ 24) : 2 ^ V ≤ 16777216 := by
 have h1 : 2 ^ V ≤ 2 ^ 24 := Nat.pow_le_pow_right (by decide) h
 have e : 2 ^ 24 = 16777216 := by decide
 omega
theorem shl_one {V : Nat} (h : V ≤ 24) : IntKind.wrap .i64 (2 ^ V) = ((2 ^ V : Nat) : Int) := by
 have h1 := pow_24 h
 have e : (2 : Int) ^ V = ((2 ^ V : Nat) : Int) := by simp
 rw [e]
 clear e
 generalize (2 ^ V : Nat) = P at *
 exact wrap_small ⟨by omega, by omega⟩
theorem tcheck_any (vf : Value) (f : Fm) (y n : Nat) (w : World) (hf : FmV w vf f) (h0 : qcc f = 0) (hc : CubeOK f.vars y n) :
  Calls Tryz.prog 116 #[vf, .agg #[.int .i64 (y : Nat), .int .i64 (n : Nat)]] w (qea w .nilIface) := by
 obtain ⟨vb, yb⟩ := hc.small
 obtain ⟨q0, q1, q2, q3, q4⟩ := hc
 obtain ⟨nv, rfl, hn, hv, ht⟩ := hf
 obtain ⟨ao, c, rfl, hc, hc2, _⟩ := hn.shape
 have HF := qHd (show FmV w _ f from ⟨_, rfl, hn, hv, ht⟩)
 obtain ⟨v, ns, top⟩ := f
 simp only at hv hc ht hn q0 q1 q2 q3 ⊢
 obtain ⟨V, rfl⟩ : ∃ V : Nat, v = V := ⟨v.toNat, by omega⟩
 simp only [Int.toNat_natCast] at q2 q3
 have hk := fun wx hb => fcheck_any _ ⟨V, ns, top⟩ wx (HF.out.below hb)
 rw [h0] at hk
 have HK := qHd hk; clear hk hn
 obtain ⟨W, hW, hbW, hg1, hg2⟩ := qBx2 w (.cells #[.int .i64 V, .slice ao ns.length c, .int .i64 top] 24) (.cells #[.int .i64 (y : Nat), .int .i64 (n : Nat)] 46)
 obtain ⟨g1, hG1⟩ : ∃ g, g = w.heap.size := ⟨_, rfl⟩
 obtain ⟨g2, hG2⟩ : ∃ g, g = w.heap.size + 1 := ⟨_, rfl⟩
 rw [← hG1] at hg1; rw [← hG2] at hg2
 obtain ⟨P2, hP2⟩ : ∃ P : Nat, P = 2 ^ V := ⟨_, rfl⟩
 rw [← hP2] at q2 q3
 have hp24 : P2 ≤ 16777216 := by rw [hP2]; exact pow_24 (by omega)
 have DP := qHd (show IntKind.wrap .i64 (2 ^ V) = (P2 : Int) by rw [shl_one (by omega), hP2])
 clear hP2
 have DY := qHd (And.intro (show decide ((y : Int) < 0) = false from decide_eq_false (by omega)) (show decide ((P2 : Int) ≤ (y : Int)) = false from decide_eq_false (by omega)))
 have DN := qHd (And.intro (show decide ((n : Int) < 0) = false from decide_eq_false (by omega)) (show decide ((P2 : Int) ≤ (n : Int)) = false from decide_eq_false (by omega)))
 have DA := qHd (show bits .and .i64 (y : Int) (n : Int) = 0 by rw [bits_and (by omega) (by omega), q4]; rfl)
 obtain ⟨x0, x1, x2⟩ := qay hg1
 have HBW := qHd hbW; have G1 := qHd hg1; have G2 := qHd hg2; clear hbW hg1 hg2
 go_enter Tryz.func116, Tryz.ntmps116
 go_wp2_with (with_reducible refine qad ?_)
 rw [← hW]; clear hW x0 x1 x2
 rw [← hG2, ← hG1]
 refine qap.mk ?_
 (with_reducible refine (HK.out _ HBW.out).mono ?_); rintro e w1 ⟨rfl, hb1⟩
 rw [qbi]
 have HB1 := qHd (HBW.out.trans (hb1.mono HBW.out.size))
 have G1 := qHd (qaa G1.out hb1); have G2 := qHd (qaa G2.out hb1)
 clear hb1 hG1 hG2 HK HF
 go_wp2_with (with_reducible first | refine qad ?_ | refine qai ?_ | refine qaj ?_ | refine qak ?_ | refine qag ?_)
 refine qap.mk ?_
 refine qao (A := ?aa4) (w := w1) 23 [] (by kernel_rfl) (Fl [KEq (.pointer (some ⟨g2, 0, none⟩)), KEq (.int .i64 (y : Nat)), KEq (.bool false), KEq (.bool false), KEq (.pointer (some ⟨g2, 0, none⟩)), KEq (.int .i64 (y : Nat)), KEq (.pointer (some ⟨g1, 0, none⟩)), KEq (.int .i64 (V : Nat)), KEq (.int .i64 (P2 : Nat)), KEq (.bool false), KEq (.bool false), KEq (.bool false), KEq (.pointer (some ⟨g2, 1, none⟩)), KEq (.int .i64 (n : Nat)), KEq (.bool false), KEq (.bool false), KEq (.bool false), KEq (.pointer (some ⟨g2, 1, none⟩)), KEq (.int .i64 (n : Nat)), KEq (.pointer (some ⟨g1, 0, none⟩)), KEq (.int .i64 (V : Nat)), KEq (.int .i64 (P2 : Nat)), KEq (.bool false)]) (fun i => false) (by kernel_rfl) ?hq4 (qcw (qae (kEq _) (qae (kEq _) (qae (kEq _) (qae (kEq _) (qae (kEq _) (qae (kEq _) (qae (kEq _) (qae (kEq _) (qae (kEq _) (qae (kEq _) (qae (kEq _) (qae (kEq _) (qae (kEq _) (qae (kEq _) (qae (kEq _) (qae (kEq _) (qae (kEq _) (qae (kEq _) (qae (kEq _) (qae (kEq _) (qae (kEq _) (qae (kEq _) (qae (kEq _) qcv)))))))))))))))))))))))) ?ha4 ?st4 ?tl4
 case hq4 =>
  intro c a d v w h
  first | (simp only [Exit.then] at h ⊢; exact h) | (simp only [Exit.inBlock, Exit.then] at h ⊢; exact h) | exact h
 case ha4 =>
  intro vals
  simp only [qba, qcd, if_true, Act.put, List.setIfInBounds_toArray, List.set_cons_zero, List.set_cons_succ, List.getElem?_toArray, List.getElem?_cons_zero, List.getElem?_cons_succ, Option.bind_some]
  exact rfl
 case st4 =>
  simp only [List.take_succ_cons, List.take_zero]
  refine qab rfl rfl ?_ (qab rfl rfl ?_ (qab rfl rfl ?_ (qab rfl rfl ?_ (qac rfl ?_ (qac rfl ?_ (qac rfl ?_ (qac rfl ?_ (qac rfl ?_ (qac rfl ?_ (qab rfl rfl ?_ (qab rfl rfl ?_ (qac rfl ?_ (qac rfl ?_ (qac rfl ?_ (qab rfl rfl ?_ (qab rfl rfl ?_ (qac rfl ?_ (qac rfl ?_ (qac rfl ?_ (qac rfl ?_ (qac rfl ?_ (qac rfl ?_ (qav)))))))))))))))))))))))
  ·intro vals w1 hb hd
   refine qSv (.pointer (some ⟨g2, 0, none⟩)) (by go_simp) (qLk rfl rfl)
  ·intro vals w1 hb hd
   obtain ⟨e0, e1⟩ := qcy (qaa G2.out hb)
   rw [show vals 0 = .pointer (some ⟨g2, 0, none⟩) from hd 0 (by kernel_rfl)]
   refine qSv (.int .i64 (y : Nat)) (by go_simp) (qLk rfl rfl)
  ·intro vals w1 hb hd
   rw [show vals 1 = .int .i64 (y : Nat) from hd 1 (by kernel_rfl)]
   refine qSv (.bool false) (by go_simp; first | done | exact DY.out.1 | (simp; done) | omega) (qLk rfl rfl)
  ·intro vals w1 hb hd
   rw [show vals 2 = .bool false from hd 2 (by kernel_rfl)]
   refine qSv (.bool false) (by go_simp) (qLk rfl rfl)
  ·intro vals w1 hb hd
   refine qam (qal rfl rfl (congrArg some (show KEq (.bool false) (vals 3) w1 from hd 3 (by kernel_rfl))) rfl) ?_
   refine qSv (.pointer (some ⟨g2, 0, none⟩)) (by go_simp) (qLk rfl rfl)
  ·intro vals w1 hb hd
   refine qam (qal rfl rfl (congrArg some (show KEq (.bool false) (vals 3) w1 from hd 3 (by kernel_rfl))) rfl) ?_
   obtain ⟨e0, e1⟩ := qcy (qaa G2.out hb)
   rw [show vals 4 = .pointer (some ⟨g2, 0, none⟩) from hd 4 (by kernel_rfl)]
   refine qSv (.int .i64 (y : Nat)) (by go_simp) (qLk rfl rfl)
  ·intro vals w1 hb hd
   refine qam (qal rfl rfl (congrArg some (show KEq (.bool false) (vals 3) w1 from hd 3 (by kernel_rfl))) rfl) ?_
   refine qSv (.pointer (some ⟨g1, 0, none⟩)) (by go_simp) (qLk rfl rfl)
  ·intro vals w1 hb hd
   refine qam (qal rfl rfl (congrArg some (show KEq (.bool false) (vals 3) w1 from hd 3 (by kernel_rfl))) rfl) ?_
   obtain ⟨e0, e1, e2⟩ := qay (qaa G1.out hb)
   rw [show vals 6 = .pointer (some ⟨g1, 0, none⟩) from hd 6 (by kernel_rfl)]
   refine qSv (.int .i64 (V : Nat)) (by go_simp) (qLk rfl rfl)
  ·intro vals w1 hb hd
   refine qam (qal rfl rfl (congrArg some (show KEq (.bool false) (vals 3) w1 from hd 3 (by kernel_rfl))) rfl) ?_
   rw [show vals 7 = .int .i64 (V : Nat) from hd 7 (by kernel_rfl)]
   refine qSv (.int .i64 (P2 : Nat)) (by go_simp; first | done | exact DP.out) (qLk rfl rfl)
  ·intro vals w1 hb hd
   refine qam (qal rfl rfl (congrArg some (show KEq (.bool false) (vals 3) w1 from hd 3 (by kernel_rfl))) rfl) ?_
   rw [show vals 5 = .int .i64 (y : Nat) from hd 5 (by kernel_rfl)]
   rw [show vals 8 = .int .i64 (P2 : Nat) from hd 8 (by kernel_rfl)]
   refine qSv (.bool false) (by go_simp; first | done | exact DY.out.2 | omega) (qLk rfl rfl)
  ·intro vals w1 hb hd
   rw [show vals 3 = .bool false from hd 3 (by kernel_rfl)]
   rw [show vals 9 = .bool false from hd 9 (by kernel_rfl)]
   refine qSv (.bool false) (by go_simp) (qLk rfl rfl)
  ·intro vals w1 hb hd
   rw [show vals 10 = .bool false from hd 10 (by kernel_rfl)]
   refine qSv (.bool false) (by go_simp) (qLk rfl rfl)
  ·intro vals w1 hb hd
   refine qam (qal rfl rfl (congrArg some (show KEq (.bool false) (vals 11) w1 from hd 11 (by kernel_rfl))) rfl) ?_
   refine qSv (.pointer (some ⟨g2, 1, none⟩)) (by go_simp) (qLk rfl rfl)
  ·intro vals w1 hb hd
   refine qam (qal rfl rfl (congrArg some (show KEq (.bool false) (vals 11) w1 from hd 11 (by kernel_rfl))) rfl) ?_
   obtain ⟨e0, e1⟩ := qcy (qaa G2.out hb)
   rw [show vals 12 = .pointer (some ⟨g2, 1, none⟩) from hd 12 (by kernel_rfl)]
   refine qSv (.int .i64 (n : Nat)) (by go_simp) (qLk rfl rfl)
  ·intro vals w1 hb hd
   refine qam (qal rfl rfl (congrArg some (show KEq (.bool false) (vals 11) w1 from hd 11 (by kernel_rfl))) rfl) ?_
   rw [show vals 13 = .int .i64 (n : Nat) from hd 13 (by kernel_rfl)]
   refine qSv (.bool false) (by go_simp; first | done | exact DN.out.1 | omega) (qLk rfl rfl)
  ·intro vals w1 hb hd
   rw [show vals 11 = .bool false from hd 11 (by kernel_rfl)]
   rw [show vals 14 = .bool false from hd 14 (by kernel_rfl)]
   refine qSv (.bool false) (by go_simp) (qLk rfl rfl)
  ·intro vals w1 hb hd
   rw [show vals 15 = .bool false from hd 15 (by kernel_rfl)]
   refine qSv (.bool false) (by go_simp) (qLk rfl rfl)
  ·intro vals w1 hb hd
   refine qam (qal rfl rfl (congrArg some (show KEq (.bool false) (vals 16) w1 from hd 16 (by kernel_rfl))) rfl) ?_
   refine qSv (.pointer (some ⟨g2, 1, none⟩)) (by go_simp) (qLk rfl rfl)
  ·intro vals w1 hb hd
   refine qam (qal rfl rfl (congrArg some (show KEq (.bool false) (vals 16) w1 from hd 16 (by kernel_rfl))) rfl) ?_
   obtain ⟨e0, e1⟩ := qcy (qaa G2.out hb)
   rw [show vals 17 = .pointer (some ⟨g2, 1, none⟩) from hd 17 (by kernel_rfl)]
   refine qSv (.int .i64 (n : Nat)) (by go_simp) (qLk rfl rfl)
  ·intro vals w1 hb hd
   refine qam (qal rfl rfl (congrArg some (show KEq (.bool false) (vals 16) w1 from hd 16 (by kernel_rfl))) rfl) ?_
   refine qSv (.pointer (some ⟨g1, 0, none⟩)) (by go_simp) (qLk rfl rfl)
  ·intro vals w1 hb hd
   refine qam (qal rfl rfl (congrArg some (show KEq (.bool false) (vals 16) w1 from hd 16 (by kernel_rfl))) rfl) ?_
   obtain ⟨e0, e1, e2⟩ := qay (qaa G1.out hb)
   rw [show vals 19 = .pointer (some ⟨g1, 0, none⟩) from hd 19 (by kernel_rfl)]
   refine qSv (.int .i64 (V : Nat)) (by go_simp) (qLk rfl rfl)
  ·intro vals w1 hb hd
   refine qam (qal rfl rfl (congrArg some (show KEq (.bool false) (vals 16) w1 from hd 16 (by kernel_rfl))) rfl) ?_
   rw [show vals 20 = .int .i64 (V : Nat) from hd 20 (by kernel_rfl)]
   refine qSv (.int .i64 (P2 : Nat)) (by go_simp; first | done | exact DP.out) (qLk rfl rfl)
  ·intro vals w1 hb hd
   refine qam (qal rfl rfl (congrArg some (show KEq (.bool false) (vals 16) w1 from hd 16 (by kernel_rfl))) rfl) ?_
   rw [show vals 18 = .int .i64 (n : Nat) from hd 18 (by kernel_rfl)]
   rw [show vals 21 = .int .i64 (P2 : Nat) from hd 21 (by kernel_rfl)]
   refine qSv (.bool false) (by go_simp; first | done | exact DN.out.2 | omega) (qLk rfl rfl)
 case tl4 =>
  intro vals w2 hb2 hf hdis
  simp only [List.drop_succ_cons, List.drop_zero]
  have z16 : vals 16 = _ := hf 16 (by decide)
  have z22 : vals 22 = _ := hf 22 (by decide)
  rw [z16, z22]
  clear z16 z22 hf hdis
  obtain ⟨y0, y1⟩ := qcy (qaa G2.out hb2)
  have HB2 := qHd (HB1.out.trans (hb2.mono HB1.out.size))
  have hA := DA.out
  go_wp2_with fail
  go_ret
  exact ⟨rfl, HB2.out⟩
end Go.Proofs.YthhgfhdmfhnklaaGreatDoor
namespace Go.Proofs.YthhgfhdmfhnklaaGreatDoor
theorem fmErr_top {f : Fm} (h : qcc f = 0) : 0 ≤ f.top ∧ f.top < f.vars + f.nodes.length := by
 have hk : argOK f f.top = true := by
  unfold qcc at h
  split at h
  ·cases h
  split at h
  ·cases h
  split at h
  ·rename_i hh; exact absurd h hh
  split at h
  ·assumption
  ·cases h
 unfold argOK at hk
 have := of_decide_eq_true hk
 omega
theorem vals_le {f : Fm} (h : qfo f.vars 0 f.nodes) (yes no j : Nat) : gd (qdt f yes no) j ≤ 2 :=
 valsN_le f.nodes 0 _ h (fun k => by rw [qdl]; split <;> first | exact ev3_le _ _ _ | omega) j
theorem qdk (f : Fm) (yes no : Nat) : (qdt f yes no).length = f.vars.toNat + f.nodes.length := by unfold qdt; rw [qcs, qbf]
theorem unk_node {f : Fm} (hv : 0 ≤ f.vars) (h : qfo f.vars 0 f.nodes) (yes no a : Nat) (ha1 : f.vars.toNat ≤ a) (ha : a < f.vars.toNat + f.nodes.length) (h2 : gd (qdt f yes no) a = 2) :
  ∃ x, f.nodes[a - f.vars.toNat]? = some x ∧ qdh f.vars (a - f.vars.toNat) x = 0 ∧ ∃ b ∈ x.args, gd (qdt f yes no) b.toNat = 2 := by
 obtain ⟨x, hx⟩ : ∃ x, f.nodes[a - f.vars.toNat]? = some x := ⟨f.nodes[a - f.vars.toNat]'(by omega), List.getElem?_eq_getElem (by omega)⟩
 obtain ⟨k1, k2⟩ := valsN_at hv f.nodes 0 (qcn f.vars.toNat yes no) h (by rw [qbf]; rfl) _ x hx
 rw [qbf, show f.vars.toNat + (a - f.vars.toNat) = a from by omega] at k1
 rw [Nat.zero_add] at k2
 refine ⟨x, hx, k2, ?_⟩
 by_cases q : ∃ b ∈ x.args, gd (qdt f yes no) b.toNat = 2
 ·exact q
 ·exfalso
  have := nd_known' k2 (vals_le h yes no) (fun b hb e => q ⟨b, hb, e⟩)
  unfold qdt at this h2
  rw [← k1] at this
  exact this h2
theorem first_ex {α : Type} {p : α → Prop} : ∀ {l : List α}, (∃ b ∈ l, p b) → ∃ (k : Nat) (b : α), l[k]? = some b ∧ p b ∧ ∀ c ∈ l.take k, ¬ p c
 | [], h => by obtain ⟨b, hb, _⟩ := h; cases hb
 | x :: xs, h => by
  by_cases hx : p x
  ·exact ⟨0, x, rfl, hx, by simp⟩
  ·obtain ⟨b, hb, hp⟩ := h
   rcases List.mem_cons.1 hb with rfl | hb
   ·exact absurd hp hx
   obtain ⟨k, c, h1, h2, h3⟩ := first_ex ⟨b, hb, hp⟩
   refine ⟨k + 1, c, by simpa using h1, h2, fun d hd => ?_⟩
   rw [List.take_succ_cons] at hd
   rcases List.mem_cons.1 hd with rfl | hd
   ·exact hx
   ·exact h3 d hd
theorem firstUnk_at {vs : List Nat} : ∀ {args : List Int} {k : Nat} {b : Int}, args[k]? = some b → gd vs b.toNat = 2 → (∀ c ∈ args.take k, ¬ gd vs c.toNat = 2) → firstUnk vs args = b.toNat
 | [], k, b, h, _, _ => by simp at h
 | x :: xs, 0, b, h, h2, _ => by
  simp at h; subst h
  unfold firstUnk; rw [List.find?_cons_of_pos (by simpa using h2)]
 | x :: xs, k + 1, b, h, h2, h3 => by
  rw [List.take_succ_cons] at h3
  have hx := h3 x (by simp)
  have := firstUnk_at (args := xs) (k := k) (b := b) (by simpa using h) h2 (fun c hc => h3 c (by simp [hc]))
  unfold firstUnk at this ⊢
  rw [List.find?_cons_of_neg (by simpa using hx)]; exact this
theorem nextAt_low {V : Nat} {nodes : List Nd} {vs : List Nat} {k a : Nat} (h : a < V) : qfg V nodes vs (k + 1) a = a := by unfold qfg; rw [if_pos h]
theorem nextAt_high {V : Nat} {nodes : List Nd} {vs : List Nat} {k a b : Nat} {x : Nd} (h : V ≤ a) (hx : nodes[a - V]? = some x) (hb : firstUnk vs x.args = b) : qfg V nodes vs (k + 1) a = qfg V nodes vs k b := by
 conv => lhs; unfold qfg
 rw [if_neg (by omega)]
 have : ndOf nodes (a - V) = x := by unfold ndOf; rw [List.getD_eq_getElem?_getD, hx]; rfl
 rw [this, hb]
end Go.Proofs.YthhgfhdmfhnklaaGreatDoor
namespace Go.Proofs.YthhgfhdmfhnklaaGreatDoor
open Go.RowKit Go.ChangeShapes Go.WideShapes
def KIV (l : List Int) : Value → World → Prop := fun v w => qfd w v l
theorem kIV (l : List Int) : MonoF (KIV l) := fun _ _ _ h hb => qfd.below h hb
def KPt (c : Value) : Value → World → Prop := fun v w => ∃ p, v = .pointer (some p) ∧ w.cell? p = some c
theorem kPt (c : Value) : MonoF (KPt c) := fun _ w1 _ ⟨p, h1, h2⟩ hb => ⟨p, h1, by rw [hb.cell (World.block_lt_of_cell? w1 p h2)]; exact h2⟩

theorem tvalue_any (vf : Value) (f : Fm) (y n : Nat) (w : World) (hf : FmV w vf f) (h0 : qcc f = 0) (hcu : CubeOK f.vars y n) :
  Calls Tryz.prog 77 #[vf, .agg #[.int .i64 (y : Nat), .int .i64 (n : Nat)]] w (qea w (.tuple #[.int .i64 (qco f y n : Nat), .nilIface])) := by
 obtain ⟨vb, yb⟩ := hcu.small
 obtain ⟨p0, p1, p2, p3⟩ := qbe h0
 have htop := fmErr_top h0
 obtain ⟨nv, rfl, hn, hv, ht⟩ := hf
 obtain ⟨ao, c, rfl, hc, hc2, _⟩ := hn.shape
 have hF := (show FmV w _ f from ⟨_, rfl, hn, hv, ht⟩)
 obtain ⟨v, ns, top⟩ := f
 simp only at hv hc ht hn p0 p1 p2 p3 htop ⊢
 obtain ⟨V, rfl⟩ : ∃ V : Nat, v = V := ⟨v.toNat, by omega⟩
 obtain ⟨T, rfl⟩ : ∃ T : Nat, top = T := ⟨top.toNat, by omega⟩
 have HF := qHd hF; have HC := qHd hcu; have E0 := qHd h0; have HP := qHd p3; have HN := qHd hn
 have hT : T < V + ns.length := by omega
 obtain ⟨fv, hfv⟩ : ∃ fv, fv = qco ⟨V, ns, T⟩ y n := ⟨_, rfl⟩
 have HV := qHd (show gd (qdt ⟨V, ns, T⟩ y n) T = fv from hfv.symm)
 clear hF hcu h0 p3 hv ht htop hn p0
 obtain ⟨W, hW, hbW, hg1, hg2⟩ := qBx2 w (.cells #[.int .i64 V, .slice ao ns.length c, .int .i64 T] 24) (.cells #[.int .i64 (y : Nat), .int .i64 (n : Nat)] 46)
 obtain ⟨g1, hG1⟩ : ∃ g, g = w.heap.size := ⟨_, rfl⟩
 obtain ⟨g2, hG2⟩ : ∃ g, g = w.heap.size + 1 := ⟨_, rfl⟩
 rw [← hG1] at hg1; rw [← hG2] at hg2
 have HBW := qHd hbW; have G1 := qHd hg1; have G2 := qHd hg2; clear hbW hg1 hg2
 rw [← hfv]; clear hfv HN HP
 have hk := tcheck_any _ ⟨V, ns, T⟩ y n W (HF.out.below HBW.out) E0.out HC.out
 have HK := qHd hk; clear hk
 go_enter Tryz.func77, Tryz.ntmps77
 go_wp2_with (with_reducible refine qad ?_)
 rw [← hW]; clear hW
 rw [← hG2, ← hG1]; clear hG1 hG2
 refine qap.mk ?_
 (with_reducible refine HK.out.mono ?_); rintro e w1 ⟨rfl, hb1⟩
 have HB1 := qHd (HBW.out.trans (hb1.mono HBW.out.size))
 have G1 := qHd (qaa G1.out hb1); have G2 := qHd (qaa G2.out hb1)
 clear hb1 HK
 go_wp2_with (with_reducible first | refine qad ?_ | refine qai ?_ | refine qaj ?_ | refine qak ?_ | refine qag ?_)
 refine qap.mk ?_
 refine qao (A := ?aa4) (w := w1) 7 [] (by kernel_rfl) (Fl [KEq (.agg #[.int .i64 V, .slice ao ns.length c, .int .i64 T]), KEq (.agg #[.int .i64 (y : Nat), .int .i64 (n : Nat)]), KIV (qdq (qdt ⟨V, ns, T⟩ y n)), KEq (.pointer (some ⟨g1, 2, none⟩)), KEq (.int .i64 (T : Nat)), KPt (.int .i64 (gd (qdt ⟨V, ns, T⟩ y n) T : Nat)), KEq (.int .i64 (fv : Nat))]) (fun i => false) (by kernel_rfl) ?hq4 (qcw (qae (kEq _) (qae (kEq _) (qae (kIV _) (qae (kEq _) (qae (kEq _) (qae (kPt _) (qae (kEq _) qcv)))))))) ?ha4 ?st4 ?tl4
 case hq4 =>
  intro c a d v w h
  first | (simp only [Exit.then] at h ⊢; exact h) | (simp only [Exit.inBlock, Exit.then] at h ⊢; exact h) | exact h
 case ha4 =>
  intro vals
  simp only [qba, qcd, if_true, Act.put, List.setIfInBounds_toArray, List.set_cons_zero, List.set_cons_succ, List.getElem?_toArray, List.getElem?_cons_zero, List.getElem?_cons_succ, Option.bind_some]
  exact rfl
 case st4 =>
  simp only [List.take_succ_cons, List.take_zero]
  refine qab rfl rfl ?_ (qab rfl rfl ?_ (qab rfl rfl ?_ (qab rfl rfl ?_ (qab rfl rfl ?_ (qab rfl rfl ?_ (qab rfl rfl ?_ (qav)))))))
  ·intro vals w1 hb hd
   obtain ⟨e0, e1, e2⟩ := qay (qaa G1.out hb)
   refine qSv (.agg #[.int .i64 V, .slice ao ns.length c, .int .i64 T]) (by go_simp) (qLk rfl rfl)
  ·intro vals w1 hb hd
   obtain ⟨e0, e1⟩ := qcy (qaa G2.out hb)
   refine qSv (.agg #[.int .i64 (y : Nat), .int .i64 (n : Nat)]) (by go_simp) (qLk rfl rfl)
  ·intro vals w1 hb hd
   have d0 : KEq (.agg #[.int .i64 V, .slice ao ns.length c, .int .i64 T]) (vals 0) w1 := hd 0 (by kernel_rfl)
   have d1 : KEq (.agg #[.int .i64 (y : Nat), .int .i64 (n : Nat)]) (vals 1) w1 := hd 1 (by kernel_rfl)
   have HS := qHd (tvalues_any _ ⟨V, ns, T⟩ y n w1 (HF.out.below (HB1.out.step hb)) E0.out HC.out)
   have z0 : vals 0 = _ := d0
   rw [z0]; clear z0
   have z1 : vals 1 = _ := d1
   rw [z1]; clear z1
   refine qat (by go_simp; first | done | exact ⟨⟨rfl, rfl⟩, rfl⟩) ?_
   (with_reducible refine HS.out.mono ?_); rintro e w2 ⟨v, rfl, hb2, hn⟩
   exact ⟨_, rfl, qar hb2 hn (fun h => by cases h)⟩
  ·intro vals w1 hb hd
   refine qSv (.pointer (some ⟨g1, 2, none⟩)) (by go_simp) (qLk rfl rfl)
  ·intro vals w1 hb hd
   obtain ⟨e0, e1, e2⟩ := qay (qaa G1.out hb)
   rw [show vals 3 = .pointer (some ⟨g1, 2, none⟩) from hd 3 (by kernel_rfl)]
   refine qSv (.int .i64 (T : Nat)) (by go_simp) (qLk rfl rfl)
  ·intro vals w1 hb hd
   have d2 : KIV (qdq (qdt ⟨V, ns, T⟩ y n)) (vals 2) w1 := hd 2 (by kernel_rfl)
   obtain ⟨ap, cp, ev, _, _, _⟩ := qfd.shape d2
   have d2 : qfd w1 (vals 2) _ := d2
   rw [ev] at d2 ⊢
   obtain ⟨bp, op, rfl, hbp, hlp, hat⟩ := d2.at (by rw [qbw, qdk]; simp only [Int.toNat_natCast]; omega)
   have cT := hat T _ (nints_at (by rw [qdk]; simp only [Int.toNat_natCast]; omega))
   have hlp2 : (qdq (qdt ⟨V, ns, T⟩ y n)).length = V + ns.length := by rw [qbw, qdk]; simp only [Int.toNat_natCast]
   rw [hlp2]
   rw [show vals 4 = .int .i64 (T : Nat) from hd 4 (by kernel_rfl)]
   have hTz : (T : Int) < (V : Int) + (ns.length : Int) := by omega
   refine qaq (v := .pointer (some ⟨bp, op + T, none⟩)) (w' := w1) (by go_simp) (qar (Below.refl _ _) ⟨_, rfl, cT⟩ (fun h => by cases h))
  ·intro vals w1 hb hd
   have d5 : KPt (.int .i64 (gd (qdt ⟨V, ns, T⟩ y n) T : Nat)) (vals 5) w1 := hd 5 (by kernel_rfl)
   obtain ⟨p, ev, hp⟩ := d5
   rw [HV.out] at hp
   rw [ev]
   refine qSv (.int .i64 (fv : Nat)) (by go_simp) (qLk rfl rfl)
 case tl4 =>
  intro vals w2 hb2 hf hdis
  simp only [List.drop_succ_cons, List.drop_zero]
  have z6 : vals 6 = _ := hf 6 (by decide)
  rw [z6]
  clear z6 hf hdis
  have HB2 := qHd (HB1.out.trans (hb2.mono HB1.out.size))
  go_wp2_with fail
  go_ret2
  exact ⟨rfl, HB2.out⟩

theorem nextLit_any (g A : Nat) (vs : List Nat) (vv : Value) (w : World) (hg : w.heap[g]? = some (.cells #[vv] 80)) (hv : qfd w vv (qdq vs)) (hA : A < vs.length) (h2 : ∀ j, gd vs j ≤ 2) :
  Calls Tryz.prog 122 #[.int .i64 (A : Nat), .pointer (some ⟨g, 0, none⟩)] w (RetS w (.bool (decide (gd vs A = 2)))) := by
 obtain ⟨ao, c, rfl, hc, hc2, _⟩ := hv.shape
 obtain ⟨b, off, rfl, hb, _, hat⟩ := hv.at (by rw [qbw]; omega)
 have cA := hat A _ (nints_at hA)
 have h2A := h2 A
 clear hat hv h2
 have x0 : w.cell? ⟨g, 0, none⟩ = some (.slice (some ⟨b, off, none⟩) (qdq vs).length c) := by rw [cell_of_row w g 0 _ _ (0, 0) hg]; rfl
 rw [qbw] at x0 hc
 obtain ⟨x, hx⟩ : ∃ x, x = gd vs A := ⟨_, rfl⟩
 rw [← hx] at cA h2A ⊢
 have hA' : (A : Int) < (vs.length : Int) := by omega
 go_enter Tryz.func122, Tryz.ntmps122
 go_wp2_with fail
 go_ret
 exact ⟨qdp (by rw [Bool.eq_iff_iff]; simp; omega), rfl⟩

theorem indexFunc_any (g : Nat) (vs : List Nat) (vv va : Value) (args : List Int) (k : Nat) (a : Int) (w : World) (hg : w.heap[g]? = some (.cells #[vv] 80)) (hv : qfd w vv (qdq vs)) (ha : qfd w va args)
  (hr : ∀ x ∈ args, 0 ≤ x ∧ x.toNat < vs.length) (h2 : ∀ j, gd vs j ≤ 2) (hk : args[k]? = some a) (hk2 : gd vs a.toNat = 2) (hk3 : ∀ c ∈ args.take k, ¬ gd vs c.toNat = 2) (hl : args.length ≤ 16) :
  Calls Tryz.prog 121 #[va, .func (.func 122) #[] #[.pointer (some ⟨g, 0, none⟩)]] w (RetS w (.int .i64 (k : Nat))) := by
 have hkl : k < args.length := (List.getElem?_eq_some_iff.1 hk).1
 obtain ⟨ao, c, rfl, hc, hc2, _⟩ := ha.shape
 obtain ⟨b, off, rfl, hb, _, hat⟩ := ha.at (by omega)
 have HAT := qHd hat; clear hat ha
 have HL := qHd (fun A hA => nextLit_any g A vs vv w hg hv hA h2)
 have HR := qHd hr; have HK := qHd hk; have HK2 := qHd hk2; have HK3 := qHd hk3
 clear hg hv h2 hr hk hk2 hk3
 go_enter Tryz.func121, Tryz.ntmps121
 go_wp2_with fail
 go_loopw [8] (fun i' wx => ∃ q : Nat, q ≤ k ∧ i' = .int .i64 q ∧ wx = w) (fun i' _ => args.length - (intOf i').toNat)
 case atStart => exact ⟨0, Nat.zero_le _, rfl, rfl⟩
 case round =>
  obtain ⟨q, hq, rfl, rfl⟩ := hrel
  obtain ⟨x, hx⟩ : ∃ x, args[q]? = some x := ⟨args[q], List.getElem?_eq_getElem (by omega)⟩
  have cx := HAT.out q x hx
  obtain ⟨r0, r1⟩ := HR.out x (List.mem_of_getElem? hx)
  have hlt : (q : Int) < (args.length : Int) := by omega
  have hE : decide (gd vs x.toNat = 2) = decide (q = k) := by
   by_cases e : q = k
   ·subst e
    have : x = a := by have := HK.out; rw [hx] at this; exact Option.some.inj this
    rw [this]; simp [HK2.out]
   ·have := HK3.out x (by rw [List.mem_iff_getElem?]; exact ⟨q, by rw [List.getElem?_take, if_pos (by omega)]; exact hx⟩)
    simp [this, e]
  obtain ⟨X, rfl⟩ : ∃ X : Nat, x = X := ⟨x.toNat, by omega⟩
  have HH := qHd (HL.out X r1)
  rw [show ((X : Int)).toNat = X from rfl] at hE
  rw [hE] at HH
  clear hE hx r0 r1
  go_wp2_with (with_reducible refine qad ?_)
  refine qap.mk ?_
  (with_reducible refine HH.out.mono ?_); rintro e w1 ⟨rfl, rfl⟩
  by_cases e : q = k
  ·subst e
   rw [decide_eq_true rfl]
   go_wp2_with fail
   go_ret
   exact ⟨rfl, rfl⟩
  ·rw [decide_eq_false e]
   go_wp2_with fail
   go_roundw
   case rel => exact ⟨q + 1, by omega, by go_num, by first | rfl | trivial⟩
   case measure => simp [intOf]; omega

theorem tnext_any (vf : Value) (f : Fm) (y n : Nat) (w : World) (hf : FmV w vf f) (h0 : qcc f = 0) (hcu : CubeOK f.vars y n) (h2 : qco f y n = 2) :
  Calls Tryz.prog 82 #[vf, .agg #[.int .i64 (y : Nat), .int .i64 (n : Nat)]] w (qea w (.tuple #[.int .i64 (qcp f y n : Nat), .nilIface])) := by
 obtain ⟨vb, yb⟩ := hcu.small
 obtain ⟨p0, p1, p2, p3⟩ := qbe h0
 have htop := fmErr_top h0
 obtain ⟨nv, rfl, hn, hv, ht⟩ := hf
 obtain ⟨ao, c, rfl, hc, hc2, _⟩ := hn.shape
 have hF := (show FmV w _ f from ⟨_, rfl, hn, hv, ht⟩)
 obtain ⟨v, ns, top⟩ := f
 simp only at hv hc ht hn p0 p1 p2 p3 htop ⊢
 obtain ⟨V, rfl⟩ : ∃ V : Nat, v = V := ⟨v.toNat, by omega⟩
 obtain ⟨T, rfl⟩ : ∃ T : Nat, top = T := ⟨top.toNat, by omega⟩
 have HF := qHd hF; have HC := qHd hcu; have E0 := qHd h0; have HP := qHd p3; have HN := qHd hn
 have hT : T < V + ns.length := by omega
 obtain ⟨fv, hfv⟩ : ∃ fv, fv = qco ⟨V, ns, T⟩ y n := ⟨_, rfl⟩
 have HV := qHd (show gd (qdt ⟨V, ns, T⟩ y n) T = fv from hfv.symm)
 clear hF hcu h0 p3 hv ht htop hn p0
 obtain ⟨W, hW, hbW, hg1, hg2⟩ := qBx2 w (.cells #[.int .i64 V, .slice ao ns.length c, .int .i64 T] 24) (.cells #[.int .i64 (y : Nat), .int .i64 (n : Nat)] 46)
 obtain ⟨g1, hG1⟩ : ∃ g, g = w.heap.size := ⟨_, rfl⟩
 obtain ⟨g2, hG2⟩ : ∃ g, g = w.heap.size + 1 := ⟨_, rfl⟩
 rw [← hG1] at hg1; rw [← hG2] at hg2
 have HBW := qHd hbW; have G1 := qHd hg1; have G2 := qHd hg2; clear hbW hg1 hg2
 rw [h2] at hfv; subst hfv
 have hk := tcheck_any _ ⟨V, ns, T⟩ y n W (HF.out.below HBW.out) E0.out HC.out
 have HK := qHd hk; clear hk
 go_enter Tryz.func82, Tryz.ntmps82
 go_wp2_with (with_reducible refine qad ?_)
 rw [← hW]; clear hW
 rw [← hG2, ← hG1]; clear hG1 hG2
 refine qap.mk ?_
 (with_reducible refine HK.out.mono ?_); rintro e w1 ⟨rfl, hb1⟩
 have HB1 := qHd (HBW.out.trans (hb1.mono HBW.out.size))
 have G1 := qHd (qaa G1.out hb1); have G2 := qHd (qaa G2.out hb1)
 clear hb1 HK
 have hk := tvalues_any _ ⟨V, ns, T⟩ y n w1 (HF.out.below HB1.out) E0.out HC.out
 have HK := qHd hk; clear hk
 obtain ⟨x0, x1, x2⟩ := qay G1.out
 obtain ⟨y0, y1⟩ := qcy G2.out
 have hle := fun j => vals_le (f := ⟨V, ns, T⟩) HP.out y n j
 have hlen := qdk ⟨V, ns, T⟩ y n
 simp only [Int.toNat_natCast] at hlen
 have hnx : qcp ⟨V, ns, T⟩ y n = qfg V ns (qdt ⟨V, ns, T⟩ y n) (ns.length + 1) T := rfl
 have hun := fun a h1 h3 h4 => unk_node (f := ⟨V, ns, T⟩) (Int.natCast_nonneg V) HP.out y n a h1 h3 h4
 simp only [Int.toNat_natCast] at hun
 obtain ⟨vs, hvs⟩ : ∃ vs, vs = qdt ⟨V, ns, T⟩ y n := ⟨_, rfl⟩
 rw [← hvs] at HK HV hle hlen hnx hun
 obtain ⟨nx, hnx2⟩ : ∃ nx, nx = qcp ⟨V, ns, T⟩ y n := ⟨_, rfl⟩
 rw [← hnx2] at hnx
 have HNXE := qHd hnx2
 clear hvs hnx2
 have HLE := qHd hle; have HNX := qHd hnx; have HUN := qHd hun
 clear hle hnx hun
 go_wp2_with (with_reducible refine qad ?_)
 refine qap.mk ?_
 (with_reducible refine HK.out.mono ?_); rintro e w2 ⟨vv, rfl, hb2, hn2⟩
 have G1 := qHd (qaa G1.out hb2)
 have HB2 := qHd (HB1.out.trans (hb2.mono HB1.out.size))
 obtain ⟨av, cv, rfl, hcv, hcv2, _⟩ := hn2.shape
 have HN2 := qHd hn2; clear hn2 hb2 x0 x1 x2 y0 y1 HK
 have hL : (qdq vs).length = V + ns.length := by rw [qbw, hlen]
 generalize (qdq vs).length = L at *
 subst hL
 obtain ⟨w3, hw3, hb3, hz3⟩ := qBx3 w2 (.cells #[.slice av (V + ns.length) cv] 80)
 have G1 := qHd (qaa G1.out hb3)
 obtain ⟨g3, hg3⟩ : ∃ g, g = w2.heap.size := ⟨_, rfl⟩
 rw [← hg3] at hz3
 have HN3 := qHd (HN2.out.below hb3)
 have HB3 := qHd (HB2.out.trans (hb3.mono HB2.out.size))
 have G3 := qHd hz3
 clear hz3 hb3
 obtain ⟨bv, ov, rfl, hbv, hjk, hat⟩ := HN3.out.at (by omega); clear hjk
 have HAT := qHd hat; clear hat
 have cT := HAT.out T _ (nints_at (by rw [hlen]; exact hT))
 rw [HV.out] at cT
 obtain ⟨x0, x1, x2⟩ := qay G1.out
 have z0 : w3.cell? ⟨g3, 0, none⟩ = some (.slice (some ⟨bv, ov, none⟩) (V + ns.length) cv) := by rw [cell_of_row w3 g3 0 _ _ (0, 0) G3.out]; rfl
 have hTz : (T : Int) < (V : Int) + (ns.length : Int) := by omega
 rw [hw3] at x0 x1 x2 cT
 rw [hw3, hg3] at z0
 go_wp2_with (with_reducible first | refine qad ?_ | refine qai ?_ | refine qaj ?_ | refine qak ?_ | refine qag ?_)
 rw [← hw3]
 rw [← hg3]
 clear x0 x1 x2 z0 cT hw3 hg3
 refine qap.mk ?_
 obtain ⟨x0, x1, x2⟩ := qay G1.out
 have z0 : w3.cell? ⟨g3, 0, none⟩ = some (.slice (some ⟨bv, ov, none⟩) (V + ns.length) cv) := by rw [cell_of_row w3 g3 0 _ _ (0, 0) G3.out]; rfl
 go_loopw [8] (fun i' wx => ∃ a k : Nat, a < V + ns.length ∧ a < V + k ∧ i' = .int .i64 a ∧ wx = w3 ∧ Hid (gd vs a = 2 ∧ nx = qfg V ns vs (k + 1) a)) (fun i' _ => (intOf i').toNat)
 case atStart => exact ⟨T, ns.length, hT, hT, rfl, rfl, qHd ⟨HV.out, HNX.out⟩⟩
 case round =>
  obtain ⟨a, k, ha, hak, rfl, rfl, C⟩ := hrel
  by_cases hlt : a < V
  ·have hltz : (a : Int) < (V : Int) := by omega
   have R := qHd (show nx = a by rw [C.out.2, nextAt_low hlt])
   go_wp2_with fail
   go_ret2
   exact ⟨by rw [← HNXE.out, R.out]; rfl, HB3.out⟩
  ·obtain ⟨m, rfl⟩ : ∃ m, k = m + 1 := ⟨k - 1, by omega⟩
   obtain ⟨x, hx, he, hex⟩ := HUN.out a (by omega) ha C.out.1
   obtain ⟨kk, b, hb1, hb2, hb3⟩ := first_ex hex
   have hfu := firstUnk_at hb1 hb2 hb3
   have harg := ndErr_arg he
   have hst : qfg V ns vs (m + 1 + 1) a = qfg V ns vs (m + 1) b.toNat := nextAt_high (by omega) hx hfu
   have hbr := harg b (List.mem_of_getElem? hb1)
   have hkl : kk < x.args.length := (List.getElem?_eq_some_iff.1 hb1).1
   have h16 := nd_16 he
   obtain ⟨bn, on, rfl, hbn, _, hatn⟩ := (HN.out.below HB3.out).at (by omega)
   obtain ⟨c0, c1, ⟨va, c2, hI⟩, _, _⟩ := hatn (a - V) x hx
   have hlit := indexFunc_any g3 vs _ va x.args kk b wr G3.out HN3.out hI (fun z hz => by have := harg z hz; rw [hlen]; omega) HLE.out hb1 hb2 hb3 h16
   have HLIT := qHd hlit; clear hlit
   obtain ⟨aa, ca, rfl, hca, hca2, _⟩ := hI.shape
   obtain ⟨ba, oa, rfl, hba, _, hata⟩ := hI.at (by omega)
   have cb := hata kk b hb1
   have R := qHd (show nx = qfg V ns vs (m + 1) b.toNat by rw [C.out.2, hst])
   have HB2' := qHd hb2
   clear hata hatn hI hst hfu hb1 hb2 hb3 hex he harg c0 c1 hx
   obtain ⟨B, rfl⟩ : ∃ B : Nat, b = B := ⟨b.toNat, by omega⟩
   have hltz : ¬ (a : Int) < (V : Int) := by omega
   have hix : (a : Int) - (V : Int) = ((a - V : Nat) : Int) := by omega
   have hixl : ((a - V : Nat) : Int) < (ns.length : Int) := by omega
   have hkz : (kk : Int) < (x.args.length : Int) := by omega
   go_wp2_with (with_reducible refine qad ?_)
   refine qap.mk ?_
   (with_reducible refine HLIT.out.mono ?_); rintro e w4 ⟨rfl, rfl⟩
   go_wp2_with fail
   go_roundw
   case rel => exact ⟨B, m, by omega, by omega, rfl, by first | rfl | trivial, qHd ⟨HB2'.out, R.out⟩⟩
   case measure => simp [intOf]; omega
theorem KidsV.shape {w : World} {v : Value} {ks : List Tr} (h : KidsV w v ks) : ∃ ao c, v = .slice ao ks.length c ∧ ks.length ≤ c ∧ c ≤ 9223372036854775807 ∧ (ao = none → c = 0) := by
 obtain ⟨ao, c, h1, h2, h3, h4, _⟩ := h
 exact ⟨ao, c, h1, h2, h3, h4⟩
theorem KidsV.at {w : World} {ao : Option Addr} {n c : Nat} {ks : List Tr} (h : KidsV w (.slice ao n c) ks) (hn : 0 < n) :
  ∃ b off, ao = some ⟨b, off, none⟩ ∧ b < w.heap.size ∧ n = ks.length ∧ ∀ (j : Nat) t, ks[j]? = some t → TrAt w b (off + j * 3) t := by
 obtain ⟨ao', c', e, h1, h2, h3, h4⟩ := h
 cases e
 cases hao : ao with
 | none => have := h3 hao; omega
 | some a =>
  obtain ⟨b, off, s⟩ := a
  obtain ⟨k1, k2⟩ := h4 b off s hao
  obtain ⟨k3, rfl⟩ := k1 hn
  exact ⟨b, off, rfl, k3, rfl, fun j t hj => qeb.get ks off j t k2 hj⟩
theorem KidsV.nil (w : World) : KidsV w (.slice none 0 0) [] := ⟨none, 0, rfl, Nat.le_refl _, by omega, fun _ => rfl, fun b o s h => by cases h⟩
theorem TrAt.val {w : World} {b off : Nat} {t : Tr} (h : TrAt w b off t) :
  ∃ v r ao n c, w.cell? ⟨b, off, none⟩ = some (.int .i64 v) ∧ w.cell? ⟨b, off + 1, none⟩ = some (.slice ao n c) ∧ w.cell? ⟨b, off + 2, none⟩ = some (.int .i64 r) ∧ TrV w (.agg #[.int .i64 v, .slice ao n c, .int .i64 r]) t := by
 cases t with
 | mk v ks r =>
  obtain ⟨h1, h2, h3, h4, kv, h5, h6⟩ := h.parts
  obtain ⟨ao, c, rfl, _⟩ := h6.shape
  exact ⟨v, r, ao, _, c, h1, h5, h2, _, rfl, h6, h3, h4⟩
theorem TrV.open {w : World} {x : Value} {v r : Int} {ks : List Tr} (h : TrV w x (.mk v ks r)) :
  ∃ ao c, x = .agg #[.int .i64 v, .slice ao ks.length c, .int .i64 r] ∧ KidsV w (.slice ao ks.length c) ks ∧ ks.length ≤ c ∧ c ≤ 9223372036854775807 ∧ I64 v ∧ I64 r := by
 obtain ⟨kv, h1, h2, h3, h4⟩ := h
 obtain ⟨ao, c, rfl, k1, k2, k3⟩ := h2.shape
 exact ⟨ao, c, h1, h2, k1, k2, h3, h4⟩
theorem TrV.shape {w : World} {x : Value} {t : Tr} (h : TrV w x t) : ∃ v r ao n c, x = .agg #[.int .i64 v, .slice ao n c, .int .i64 r] := by
 cases t with
 | mk v ks r => obtain ⟨ao, c, h1, _⟩ := h.open; exact ⟨v, r, ao, _, c, h1⟩
theorem TrV.leaf (w : World) {r : Int} (h : I64 r) : TrV w (.agg #[.int .i64 0, .slice none 0 0, .int .i64 r]) (.mk 0 [] r) :=
 ⟨_, rfl, KidsV.nil w, ⟨by omega, by omega⟩, h⟩
theorem trAt_of {w : World} {b off : Nat} {x0 x1 x2 : Value} {t : Tr} (h : TrV w (.agg #[x0, x1, x2]) t) (h0 : w.cell? ⟨b, off, none⟩ = some x0) (h1 : w.cell? ⟨b, off + 1, none⟩ = some x1) (h2 : w.cell? ⟨b, off + 2, none⟩ = some x2) : TrAt w b off t := by
 cases t with
 | mk v ks r =>
  obtain ⟨kv, e, k1, k2, k3⟩ := h
  simp only [Value.agg.injEq, Array.mk.injEq, List.cons.injEq, and_true] at e
  obtain ⟨rfl, rfl, rfl⟩ := e
  exact trAt_mk h0 h1 h2 k1 k2 k3
theorem kidsV_two {w : World} {g : Nat} {T : TypeId} {x0 x1 x2 y0 y1 y2 : Value} {a b : Tr} (hg : w.heap[g]? = some (.cells #[x0, x1, x2, y0, y1, y2] T))
  (ha : TrV w (.agg #[x0, x1, x2]) a) (hb : TrV w (.agg #[y0, y1, y2]) b) : KidsV w (.slice (some ⟨g, 0, none⟩) 2 2) [a, b] := by
 obtain ⟨e0, e1, e2, e3, e4, e5⟩ := row6 hg
 refine ⟨_, _, rfl, Nat.le_refl _, by omega, (fun h => by cases h), ?_⟩
 intro b' o' s hs
 cases hs
 refine ⟨fun _ => ⟨(Array.getElem?_eq_some_iff.1 hg).1, rfl⟩, ?_⟩
 simp only [qeb]
 exact ⟨trAt_of ha e0 e1 e2, trAt_of hb e3 e4 e5, trivial⟩
theorem trV_node {w : World} {g : Nat} {T : TypeId} {x0 x1 x2 y0 y1 y2 : Value} {a b : Tr} {v r : Int} (hg : w.heap[g]? = some (.cells #[x0, x1, x2, y0, y1, y2] T))
  (ha : TrV w (.agg #[x0, x1, x2]) a) (hb : TrV w (.agg #[y0, y1, y2]) b) (hv : I64 v) (hr : I64 r) :
  TrV w (.agg #[.int .i64 v, .slice (some ⟨g, 0, none⟩) 2 2, .int .i64 r]) (.mk v [a, b] r) := ⟨_, rfl, kidsV_two hg ha hb, hv, hr⟩
theorem qdc {P : Program} {ops : Array Oper} {rest : List Oper} {a : Act} {w : World} {Q : Exit → Act → World → Prop} {ty tt : TypeId} {x y : Operand} {pos : String} {af : Array Edge}
  (g off : Nat) (v : Int) {cs : Array Value} {T : TypeId} (hg : w.heap[g]? = some (.cells cs T)) (hx : a.eval x = .pointer (some ⟨g, off, none⟩)) (hy : a.eval y = .int .i64 v)
  (hle : off < cs.size) (hi : (P.info? ty).map (·.size) = some 1) (hK : ∀ w', w' = qel w g off [.int .i64 v] → wpList P ops Q rest a w') :
  qap (wpList P ops Q (⟨none, .store ty x y, tt, pos, af, none⟩ :: rest) a w) := by
 refine wpList_plain rfl fun K hK' => ?_
 have hc : w.cell? ⟨g, off, none⟩ = some (cs[off]) := by rw [cell_of_row w g off cs T (0, 0) hg, Array.getElem?_eq_getElem hle]
 have hf := frozen_of_row w g off cs T hg
 obtain ⟨i0, hi0, hi1⟩ : ∃ i, P.info? ty = some i ∧ i.size = 1 := by
  cases h : P.info? ty with
  | none => rw [h] at hi; cases hi
  | some i => rw [h] at hi; exact ⟨i, rfl, by simpa using hi⟩
 have hs : (Go.sizeOf ty).run P w = .ok 1 w := by simp [Go.sizeOf, typeInfo, hi0, hi1]
 have hk := hK' _ _ (hK _ rfl)
 clear hK hK'
 unfold qel qel at hk
 unfold Oper.wp
 simp only [execOp, hx, hy]
 go_simp
 try simp only [hs, Result.andThen_ok, if_true, hc, hf]
 simpa [Oper.upon, Act.put] using hk
theorem qey {a b c : World} {r : Option Nat} (h : a.grownBy b r) (k : b.grownBy c r) : a.grownBy c r :=
 ⟨k.os.trans h.os, k.tape.trans h.tape, k.output.trans h.output, Nat.le_trans h.size k.size, fun i hi hr => (k.block i (Nat.lt_of_lt_of_le hi h.size) hr).trans (h.block i hi hr)⟩
theorem qev {a b : World} {r : Option Nat} (h : Below a.heap.size a b) : a.grownBy b r := ⟨h.os, h.tape, h.output, h.size, fun i hi _ => h.block i hi⟩
theorem qed {a b c : World} {r : Option Nat} (h : a.grownBy b r) (k : Below b.heap.size b c) : a.grownBy c r := qey h (qev k)
theorem putL_os2 : ∀ (l : List Value) (w : World) (g off : Nat), (qel w g off l).os = w.os ∧ (qel w g off l).tape = w.tape ∧ (qel w g off l).output = w.output
 | [], _, _, _ => ⟨rfl, rfl, rfl⟩
 | x :: l, w, g, off => by unfold qel; obtain ⟨h1, h2, h3⟩ := putL_os2 l (w.setCell ⟨g, off, none⟩ x) g (off + 1); exact ⟨h1, h2, h3⟩
theorem qfz {w w' : World} {g off : Nat} {l : List Value} (hw : w' = qel w g off l) : w.grownBy w' (some g) := by
 subst hw
 obtain ⟨h1, h2, h3⟩ := putL_os2 l w g off
 exact ⟨h1, h2, h3, by rw [putL_size]; exact Nat.le_refl _, fun k _ hk => putL_ne (fun e => hk (by rw [e])) l w off⟩
theorem qga {a b : World} {g p : Nat} {o : Obj} (h : a.grownBy b (some g)) (hp : a.heap[p]? = some o) (hne : p ≠ g) : b.heap[p]? = some o := by
 rw [h.block p (Array.getElem?_eq_some_iff.1 hp).1 (fun e => hne (by cases e; rfl))]; exact hp
theorem gb_low {w0 a b : World} {g B : Nat} (h : Below B w0 a) (hg : a.grownBy b (some g)) (hB : B ≤ a.heap.size) (hBg : B ≤ g) : Below B w0 b := h.grown hg hB (fun k hk => by cases hk; exact hBg)
theorem putL_1 {w : World} {g : Nat} {x0 x1 y0 : Value} {T : TypeId} (h : w.heap[g]? = some (.cells #[x0, x1] T)) : (qel w g 0 [y0]).heap[g]? = some (.cells #[y0, x1] T) := by
 simp [qel, World.setCell, Array.getElem?_modify, h]
theorem qcj {v r : Int} {ks : List Tr} {k : Tr} (h : k ∈ ks) : SizeOf.sizeOf k < SizeOf.sizeOf (Tr.mk v ks r) := by
 have := List.sizeOf_lt_of_mem h
 simp; omega
theorem trsErr_drop {V : Int} {ks : List Tr} {j ab n : Nat} {t : Tr} (h : ks[j]? = some t) :
  qdv V (ks.drop j) ab n = if (qbh V t ab n).2 ≠ 0 then qbh V t ab n else qdv V (ks.drop (j + 1)) ab (qbh V t ab n).1 := by
 obtain ⟨h1, h2⟩ := List.getElem?_eq_some_iff.1 h
 rw [List.drop_eq_getElem_cons h1, h2]; simp only [qdv]
theorem pow_l24 {v : Nat} (h : v < 24) : 2 ^ v < 16777216 := by
 have h1 := Nat.pow_lt_pow_right (a := 2) (by decide) h
 have e : 2 ^ 24 = 16777216 := by decide
 omega
def RetNode (w : World) (g : Nat) (V : Int) (T : TypeId) (r : Nat × Nat) (e : Ending) (w' : World) : Prop :=
 e = .returned (errV r.2) ∧ w.grownBy w' (some g) ∧ w'.heap[g]? = some (.cells #[.int .i64 (r.1 : Nat), .int .i64 V] T)
mutual
theorem trErr_cnt (V : Int) : ∀ (t : Tr) (ab n : Nat), n ≤ 4096 → (qbh V t ab n).1 ≤ 4097 ∧ ((qbh V t ab n).2 = 0 → (qbh V t ab n).1 ≤ 4096)
 | .mk v ks r, ab, n, h => by
  unfold qbh
  split
  ·simp; omega
  split
  ·simp; omega
  split
  ·simp; omega
  split
  ·simp; omega
  split
  ·simp; omega
  split
  ·simp; omega
  ·exact trsErr_cnt V ks _ _ (by omega)
theorem trsErr_cnt (V : Int) : ∀ (ks : List Tr) (ab n : Nat), n ≤ 4096 → (qdv V ks ab n).1 ≤ 4097 ∧ ((qdv V ks ab n).2 = 0 → (qdv V ks ab n).1 ≤ 4096)
 | [], ab, n, h => by simp [qdv]; omega
 | t :: ts, ab, n, h => by
  unfold qdv
  have h1 := trErr_cnt V t ab n h
  split
  ·rename_i h2; exact ⟨h1.1, fun h3 => absurd h3 h2⟩
  ·rename_i h2; exact trsErr_cnt V ts _ _ (h1.2 (by omega))
end
theorem snode_any (V : Nat) (hV : V ≤ 24) : ∀ (N : Nat) (t : Tr), SizeOf.sizeOf t < N → ∀ (x : Value) (above n g : Nat) (w0 w : World), TrV w0 x t → Below w0.heap.size w0 w → w0.heap.size ≤ g →
  w.heap[g]? = some (.cells #[.int .i64 (n : Nat), .int .i64 (V : Nat)] 143) → above < 16777216 → n ≤ 4096 →
  Calls Tryz.prog 84 #[.pointer (some ⟨g, 0, none⟩), x, .int .i64 (above : Nat)] w (RetNode w g V 143 (qbh V t above n))
 | 0, _, h, _, _, _, _, _, _, _, _, _, _, _, _ => by omega
 | N + 1, .mk v ks r, hN, x, above, n, g, w0, w, ht, hb0, hg0, hg, hab, hn => by
  obtain ⟨ao, c, rfl, hks, hc1, hc2, hv, hr⟩ := ht.open
  unfold I64 at hv hr
  have hgl := (Array.getElem?_eq_some_iff.1 hg).1
  obtain ⟨w1, hw1, hb1, hB1⟩ := qBx3 w (.cells #[.int .i64 v, .slice ao ks.length c, .int .i64 r] 27)
  have hg1 : w1.heap[g]? = some (.cells #[.int .i64 (n : Nat), .int .i64 (V : Nat)] 143) := by rw [hw1, heap_alloc_old _ _ hgl]; exact hg
  obtain ⟨b1, hbb⟩ : ∃ b, b = w.heap.size := ⟨_, rfl⟩
  rw [← hbb] at hB1
  have hne : b1 ≠ g := by omega
  have hlt1 : b1 < w1.heap.size := (Array.getElem?_eq_some_iff.1 hB1).1
  have GB1 := qHd (qev (r := some g) hb1)
  have HB1 := qHd (hb0.trans (hb1.mono hb0.size))
  have HKS := qHd hks
  obtain ⟨x0, x1⟩ := qcy hg1
  have hgl1 : g < w1.heap.size := (Array.getElem?_eq_some_iff.1 hg1).1
  have hfz := frozen_of_row w1 g 0 _ _ hg1
  rw [hw1] at x0 x1
  clear hks hb1 ht
  go_enter Tryz.func84, Tryz.ntmps84
  go_wp2_with (with_reducible refine qaf ?_)
  rw [← hw1, ← hbb]
  clear x0 x1 hfz hw1 hbb
  refine qdc g 0 ((n : Int) + 1) hg1 rfl rfl (by simp) (by kernel_rfl) ?_
  intro w2 hp2
  have hg2 : w2.heap[g]? = some (.cells #[.int .i64 ((n + 1 : Nat) : Int), .int .i64 (V : Nat)] 143) := by rw [hp2]; exact putL_1 hg1
  have hB2 : w2.heap[b1]? = some (.cells #[.int .i64 v, .slice ao ks.length c, .int .i64 r] 27) := qbr hp2 hB1 hne
  have GB := qHd (qey GB1.out (qfz hp2))
  have HB := qHd (qbl hp2 HB1.out hg0)
  have G2 := qHd hg2; have B1 := qHd hB2
  obtain ⟨x0, x1⟩ := qcy hg2
  obtain ⟨y0, y1, y2⟩ := qay hB2
  clear hp2 hg1 hB1 hg2 hB2 GB1 HB1 hb0 hg
  by_cases a1 : 4096 < n + 1
  ·have R := qHd (show qbh V (.mk v ks r) above n = (n + 1, 4) by unfold qbh; rw [if_pos a1])
   have a1' : (4096 : Int) < ((n + 1 : Nat) : Int) := by omega
   go_wp2_with fail
   go_ret
   exact ⟨by rw [R.out]; rfl, GB.out, by rw [R.out]; exact G2.out⟩
  have A1 := qHd a1
  have a1' : ((n + 1 : Nat) : Int) ≤ 4096 := by omega
  by_cases a2 : ks.length ≠ 0 ∧ ks.length ≠ 2
  ·have R := qHd (show qbh V (.mk v ks r) above n = (n + 1, 11) by unfold qbh; rw [if_neg A1.out, if_pos a2])
   obtain ⟨a3, a4⟩ := a2
   have a3' : ((ks.length : Int) != 0) = true := bne_iff_ne.2 (by omega)
   have a4' : ((ks.length : Int) != 2) = true := bne_iff_ne.2 (by omega)
   clear A1 HKS x1
   go_wp2_with fail
   go_ret
   exact ⟨by rw [R.out]; rfl, GB.out, by rw [R.out]; exact G2.out⟩
  have A2 := qHd a2
  by_cases a3 : ks.length = 0
  ·have a3' : (ks.length : Int) = 0 := by omega
   by_cases a4 : v = 0
   ·have R := qHd (show qbh V (.mk v ks r) above n = (n + 1, 0) by unfold qbh; rw [if_neg A1.out, if_neg A2.out, if_pos a3, if_neg (by simp [a4])])
    subst a4
    go_wp2_with fail
    go_ret
    exact ⟨by rw [R.out]; rfl, GB.out, by rw [R.out]; exact G2.out⟩
   ·have R := qHd (show qbh V (.mk v ks r) above n = (n + 1, 2) by unfold qbh; rw [if_neg A1.out, if_neg A2.out, if_pos a3, if_pos a4])
    have a4' : (v != 0) = true := bne_iff_ne.2 a4
    go_wp2_with fail
    go_ret
    exact ⟨by rw [R.out]; rfl, GB.out, by rw [R.out]; exact G2.out⟩
  have a5 : ks.length = 2 := by omega
  rw [a5] at y1 HKS B1 hc1
  have A3 := qHd a3
  have HL := qHd a5
  have TE : Hid (qbh V (.mk v ks r) above n = if v < 0 ∨ (V : Int) ≤ v then (n + 1, 3) else if above.testBit v.toNat then (n + 1, 6) else if r ≠ 0 then (n + 1, 2) else qdv V ks (above ||| 1 <<< v.toNat) (n + 1)) := qHd (by
   conv => lhs; unfold qbh
   rw [if_neg A1.out, if_neg A2.out, if_neg A3.out])
  clear a2 a3 A2 A3
  rw [a5]
  clear a5
  by_cases b1' : v < 0
  ·have R := qHd (show qbh V (.mk v ks r) above n = (n + 1, 3) by rw [TE.out, if_pos (.inl b1')])
   have DV := qHd (And.intro (decide_eq_true b1') True.intro)
   go_wp2_with (with_reducible first | refine qad ?_ | refine qai ?_ | refine qaj ?_ | refine qak ?_ | refine qag ?_)
   refine qap.mk ?_
   refine qao (A := ?aa10a) (w := w2) 12 [] (by kernel_rfl) (Fl [KEq (.pointer (some ⟨b1, 0, none⟩)), KEq (.int .i64 v), KEq (.bool true), KEq (.bool true), qfa, qfa, qfa, qfa, qfa, qfa, qfa, KEq (.bool true)]) (fun i => false) (by kernel_rfl) ?hq10a (qcw (qae (kEq _) (qae (kEq _) (qae (kEq _) (qae (kEq _) (qae (qfc) (qae (qfc) (qae (qfc) (qae (qfc) (qae (qfc) (qae (qfc) (qae (qfc) (qae (kEq _) qcv))))))))))))) ?ha10a ?st10a ?tl10a
   case hq10a =>
    intro c a d v w h
    first | (simp only [Exit.then] at h ⊢; exact h) | (simp only [Exit.inBlock, Exit.then] at h ⊢; exact h) | exact h
   case ha10a =>
    intro vals
    simp only [qba, qcd, if_true, Act.put, List.setIfInBounds_toArray, List.set_cons_zero, List.set_cons_succ, List.getElem?_toArray, List.getElem?_cons_zero, List.getElem?_cons_succ, Option.bind_some]
    exact rfl
   case st10a =>
    simp only [List.take_succ_cons, List.take_zero]
    refine qab rfl rfl ?_ (qab rfl rfl ?_ (qab rfl rfl ?_ (qab rfl rfl ?_ (qac rfl ?_ (qac rfl ?_ (qac rfl ?_ (qac rfl ?_ (qac rfl ?_ (qac rfl ?_ (qac rfl ?_ (qab rfl rfl ?_ (qav))))))))))))
    ·intro vals w1 hb hd
     refine qSv (.pointer (some ⟨b1, 0, none⟩)) (by go_simp) (qLk rfl rfl)
    ·intro vals w1 hb hd
     obtain ⟨e0, e1, e2⟩ := qay (qaa B1.out hb)
     rw [show vals 0 = .pointer (some ⟨b1, 0, none⟩) from hd 0 (by kernel_rfl)]
     refine qSv (.int .i64 v) (by go_simp) (qLk rfl rfl)
    ·intro vals w1 hb hd
     rw [show vals 1 = .int .i64 v from hd 1 (by kernel_rfl)]
     refine qSv (.bool true) (by go_simp; first | done | exact DV.out.1 | omega) (qLk rfl rfl)
    ·intro vals w1 hb hd
     rw [show vals 2 = .bool true from hd 2 (by kernel_rfl)]
     refine qSv (.bool true) (by go_simp) (qLk rfl rfl)
    ·exact fun vals w1 _ hd => qau (qas rfl rfl (congrArg some (show KEq (.bool true) (vals 3) w1 from hd 3 (by kernel_rfl))) rfl) (qLk trivial rfl)
    ·exact fun vals w1 _ hd => qau (qas rfl rfl (congrArg some (show KEq (.bool true) (vals 3) w1 from hd 3 (by kernel_rfl))) rfl) (qLk trivial rfl)
    ·exact fun vals w1 _ hd => qau (qas rfl rfl (congrArg some (show KEq (.bool true) (vals 3) w1 from hd 3 (by kernel_rfl))) rfl) (qLk trivial rfl)
    ·exact fun vals w1 _ hd => qau (qas rfl rfl (congrArg some (show KEq (.bool true) (vals 3) w1 from hd 3 (by kernel_rfl))) rfl) (qLk trivial rfl)
    ·exact fun vals w1 _ hd => qau (qas rfl rfl (congrArg some (show KEq (.bool true) (vals 3) w1 from hd 3 (by kernel_rfl))) rfl) (qLk trivial rfl)
    ·exact fun vals w1 _ hd => qau (qas rfl rfl (congrArg some (show KEq (.bool true) (vals 3) w1 from hd 3 (by kernel_rfl))) rfl) (qLk trivial rfl)
    ·exact fun vals w1 _ hd => qau (qas rfl rfl (congrArg some (show KEq (.bool true) (vals 3) w1 from hd 3 (by kernel_rfl))) rfl) (qLk trivial rfl)
    ·intro vals w1 hb hd
     rw [show vals 3 = .bool true from hd 3 (by kernel_rfl)]
     refine qSv (.bool true) (by go_simp) (qLk rfl rfl)
   case tl10a =>
    intro vals w3 hb3 hf hdis
    simp only [List.drop_succ_cons, List.drop_zero]
    have z11 : vals 11 = _ := hf 11 (by decide)
    rw [z11]; clear z11 hf hdis
    have G2 := qHd (qaa G2.out hb3); have B1 := qHd (qaa B1.out hb3); have HB := qHd (HB.out.trans (hb3.mono HB.out.size)); have GB := qHd (qed GB.out hb3)
    go_wp2_with fail
    go_ret
    exact ⟨by rw [R.out]; rfl, GB.out, by rw [R.out]; exact G2.out⟩
  by_cases b2' : (V : Int) ≤ v
  ·have R := qHd (show qbh V (.mk v ks r) above n = (n + 1, 3) by rw [TE.out, if_pos (.inr b2')])
   have DV := qHd (And.intro (decide_eq_false b1') (decide_eq_true b2'))
   go_wp2_with (with_reducible first | refine qad ?_ | refine qai ?_ | refine qaj ?_ | refine qak ?_ | refine qag ?_)
   refine qap.mk ?_
   refine qao (A := ?aa10b) (w := w2) 12 [] (by kernel_rfl) (Fl [KEq (.pointer (some ⟨b1, 0, none⟩)), KEq (.int .i64 v), KEq (.bool false), KEq (.bool false), KEq (.pointer (some ⟨b1, 0, none⟩)), KEq (.int .i64 v), KEq (.pointer (some ⟨g, 0, none⟩)), KEq (.pointer (some ⟨g, 0, none⟩)), KEq (.pointer (some ⟨g, 1, none⟩)), KEq (.int .i64 V), KEq (.bool true), KEq (.bool true)]) (fun i => false) (by kernel_rfl) ?hq10b (qcw (qae (kEq _) (qae (kEq _) (qae (kEq _) (qae (kEq _) (qae (kEq _) (qae (kEq _) (qae (kEq _) (qae (kEq _) (qae (kEq _) (qae (kEq _) (qae (kEq _) (qae (kEq _) qcv))))))))))))) ?ha10b ?st10b ?tl10b
   case hq10b =>
    intro c a d v w h
    first | (simp only [Exit.then] at h ⊢; exact h) | (simp only [Exit.inBlock, Exit.then] at h ⊢; exact h) | exact h
   case ha10b =>
    intro vals
    simp only [qba, qcd, if_true, Act.put, List.setIfInBounds_toArray, List.set_cons_zero, List.set_cons_succ, List.getElem?_toArray, List.getElem?_cons_zero, List.getElem?_cons_succ, Option.bind_some]
    exact rfl
   case st10b =>
    simp only [List.take_succ_cons, List.take_zero]
    refine qab rfl rfl ?_ (qab rfl rfl ?_ (qab rfl rfl ?_ (qab rfl rfl ?_ (qac rfl ?_ (qac rfl ?_ (qac rfl ?_ (qac rfl ?_ (qac rfl ?_ (qac rfl ?_ (qac rfl ?_ (qab rfl rfl ?_ (qav))))))))))))
    ·intro vals w1 hb hd
     refine qSv (.pointer (some ⟨b1, 0, none⟩)) (by go_simp) (qLk rfl rfl)
    ·intro vals w1 hb hd
     obtain ⟨e0, e1, e2⟩ := qay (qaa B1.out hb)
     rw [show vals 0 = .pointer (some ⟨b1, 0, none⟩) from hd 0 (by kernel_rfl)]
     refine qSv (.int .i64 v) (by go_simp) (qLk rfl rfl)
    ·intro vals w1 hb hd
     rw [show vals 1 = .int .i64 v from hd 1 (by kernel_rfl)]
     refine qSv (.bool false) (by go_simp; first | done | exact DV.out.1 | omega) (qLk rfl rfl)
    ·intro vals w1 hb hd
     rw [show vals 2 = .bool false from hd 2 (by kernel_rfl)]
     refine qSv (.bool false) (by go_simp) (qLk rfl rfl)
    ·intro vals w1 hb hd
     refine qam (qal rfl rfl (congrArg some (show KEq (.bool false) (vals 3) w1 from hd 3 (by kernel_rfl))) rfl) ?_
     refine qSv (.pointer (some ⟨b1, 0, none⟩)) (by go_simp) (qLk rfl rfl)
    ·intro vals w1 hb hd
     refine qam (qal rfl rfl (congrArg some (show KEq (.bool false) (vals 3) w1 from hd 3 (by kernel_rfl))) rfl) ?_
     obtain ⟨e0, e1, e2⟩ := qay (qaa B1.out hb)
     rw [show vals 4 = .pointer (some ⟨b1, 0, none⟩) from hd 4 (by kernel_rfl)]
     refine qSv (.int .i64 v) (by go_simp) (qLk rfl rfl)
    ·intro vals w1 hb hd
     refine qam (qal rfl rfl (congrArg some (show KEq (.bool false) (vals 3) w1 from hd 3 (by kernel_rfl))) rfl) ?_
     refine qSv (.pointer (some ⟨g, 0, none⟩)) (by go_simp) (qLk rfl rfl)
    ·intro vals w1 hb hd
     refine qam (qal rfl rfl (congrArg some (show KEq (.bool false) (vals 3) w1 from hd 3 (by kernel_rfl))) rfl) ?_
     rw [show vals 6 = .pointer (some ⟨g, 0, none⟩) from hd 6 (by kernel_rfl)]
     refine qSv (.pointer (some ⟨g, 0, none⟩)) (by go_simp) (qLk rfl rfl)
    ·intro vals w1 hb hd
     refine qam (qal rfl rfl (congrArg some (show KEq (.bool false) (vals 3) w1 from hd 3 (by kernel_rfl))) rfl) ?_
     rw [show vals 7 = .pointer (some ⟨g, 0, none⟩) from hd 7 (by kernel_rfl)]
     refine qSv (.pointer (some ⟨g, 1, none⟩)) (by go_simp) (qLk rfl rfl)
    ·intro vals w1 hb hd
     refine qam (qal rfl rfl (congrArg some (show KEq (.bool false) (vals 3) w1 from hd 3 (by kernel_rfl))) rfl) ?_
     obtain ⟨e0, e1⟩ := qcy (qaa G2.out hb)
     rw [show vals 8 = .pointer (some ⟨g, 1, none⟩) from hd 8 (by kernel_rfl)]
     refine qSv (.int .i64 V) (by go_simp) (qLk rfl rfl)
    ·intro vals w1 hb hd
     refine qam (qal rfl rfl (congrArg some (show KEq (.bool false) (vals 3) w1 from hd 3 (by kernel_rfl))) rfl) ?_
     rw [show vals 5 = .int .i64 v from hd 5 (by kernel_rfl)]
     rw [show vals 9 = .int .i64 V from hd 9 (by kernel_rfl)]
     refine qSv (.bool true) (by go_simp; first | done | exact DV.out.2 | omega) (qLk rfl rfl)
    ·intro vals w1 hb hd
     rw [show vals 3 = .bool false from hd 3 (by kernel_rfl)]
     rw [show vals 10 = .bool true from hd 10 (by kernel_rfl)]
     refine qSv (.bool true) (by go_simp) (qLk rfl rfl)
   case tl10b =>
    intro vals w3 hb3 hf hdis
    simp only [List.drop_succ_cons, List.drop_zero]
    have z11 : vals 11 = _ := hf 11 (by decide)
    rw [z11]; clear z11 hf hdis
    have G2 := qHd (qaa G2.out hb3); have B1 := qHd (qaa B1.out hb3); have HB := qHd (HB.out.trans (hb3.mono HB.out.size)); have GB := qHd (qed GB.out hb3)
    go_wp2_with fail
    go_ret
    exact ⟨by rw [R.out]; rfl, GB.out, by rw [R.out]; exact G2.out⟩
  have DV := qHd (And.intro (decide_eq_false b1') (decide_eq_false b2'))
  have TE := qHd (TE.out.trans (if_neg (by omega)))
  obtain ⟨vn, rfl⟩ : ∃ vn : Nat, v = vn := ⟨v.toNat, by omega⟩
  rw [Int.toNat_natCast] at TE
  have hvn : vn < V := by omega
  obtain ⟨xs, x1b, xt, hX⟩ := qgb (x := above) (i := vn) (by omega)
  go_wp2_with (with_reducible first | refine qad ?_ | refine qai ?_ | refine qaj ?_ | refine qak ?_ | refine qag ?_)
  refine qap.mk ?_
  refine qao (A := ?aa10c) (w := w2) 12 [] (by kernel_rfl) (Fl [KEq (.pointer (some ⟨b1, 0, none⟩)), KEq (.int .i64 (vn : Nat)), KEq (.bool false), KEq (.bool false), KEq (.pointer (some ⟨b1, 0, none⟩)), KEq (.int .i64 (vn : Nat)), KEq (.pointer (some ⟨g, 0, none⟩)), KEq (.pointer (some ⟨g, 0, none⟩)), KEq (.pointer (some ⟨g, 1, none⟩)), KEq (.int .i64 V), KEq (.bool false), KEq (.bool false)]) (fun i => false) (by kernel_rfl) ?hq10c (qcw (qae (kEq _) (qae (kEq _) (qae (kEq _) (qae (kEq _) (qae (kEq _) (qae (kEq _) (qae (kEq _) (qae (kEq _) (qae (kEq _) (qae (kEq _) (qae (kEq _) (qae (kEq _) qcv))))))))))))) ?ha10c ?st10c ?tl10c
  case hq10c =>
   intro c a d v w h
   first | (simp only [Exit.then] at h ⊢; exact h) | (simp only [Exit.inBlock, Exit.then] at h ⊢; exact h) | exact h
  case ha10c =>
   intro vals
   simp only [qba, qcd, if_true, Act.put, List.setIfInBounds_toArray, List.set_cons_zero, List.set_cons_succ, List.getElem?_toArray, List.getElem?_cons_zero, List.getElem?_cons_succ, Option.bind_some]
   exact rfl
  case st10c =>
   simp only [List.take_succ_cons, List.take_zero]
   refine qab rfl rfl ?_ (qab rfl rfl ?_ (qab rfl rfl ?_ (qab rfl rfl ?_ (qac rfl ?_ (qac rfl ?_ (qac rfl ?_ (qac rfl ?_ (qac rfl ?_ (qac rfl ?_ (qac rfl ?_ (qab rfl rfl ?_ (qav))))))))))))
   ·intro vals w1 hb hd
    refine qSv (.pointer (some ⟨b1, 0, none⟩)) (by go_simp) (qLk rfl rfl)
   ·intro vals w1 hb hd
    obtain ⟨e0, e1, e2⟩ := qay (qaa B1.out hb)
    rw [show vals 0 = .pointer (some ⟨b1, 0, none⟩) from hd 0 (by kernel_rfl)]
    refine qSv (.int .i64 (vn : Nat)) (by go_simp) (qLk rfl rfl)
   ·intro vals w1 hb hd
    rw [show vals 1 = .int .i64 (vn : Nat) from hd 1 (by kernel_rfl)]
    refine qSv (.bool false) (by go_simp; first | done | exact DV.out.1 | omega) (qLk rfl rfl)
   ·intro vals w1 hb hd
    rw [show vals 2 = .bool false from hd 2 (by kernel_rfl)]
    refine qSv (.bool false) (by go_simp) (qLk rfl rfl)
   ·intro vals w1 hb hd
    refine qam (qal rfl rfl (congrArg some (show KEq (.bool false) (vals 3) w1 from hd 3 (by kernel_rfl))) rfl) ?_
    refine qSv (.pointer (some ⟨b1, 0, none⟩)) (by go_simp) (qLk rfl rfl)
   ·intro vals w1 hb hd
    refine qam (qal rfl rfl (congrArg some (show KEq (.bool false) (vals 3) w1 from hd 3 (by kernel_rfl))) rfl) ?_
    obtain ⟨e0, e1, e2⟩ := qay (qaa B1.out hb)
    rw [show vals 4 = .pointer (some ⟨b1, 0, none⟩) from hd 4 (by kernel_rfl)]
    refine qSv (.int .i64 (vn : Nat)) (by go_simp) (qLk rfl rfl)
   ·intro vals w1 hb hd
    refine qam (qal rfl rfl (congrArg some (show KEq (.bool false) (vals 3) w1 from hd 3 (by kernel_rfl))) rfl) ?_
    refine qSv (.pointer (some ⟨g, 0, none⟩)) (by go_simp) (qLk rfl rfl)
   ·intro vals w1 hb hd
    refine qam (qal rfl rfl (congrArg some (show KEq (.bool false) (vals 3) w1 from hd 3 (by kernel_rfl))) rfl) ?_
    rw [show vals 6 = .pointer (some ⟨g, 0, none⟩) from hd 6 (by kernel_rfl)]
    refine qSv (.pointer (some ⟨g, 0, none⟩)) (by go_simp) (qLk rfl rfl)
   ·intro vals w1 hb hd
    refine qam (qal rfl rfl (congrArg some (show KEq (.bool false) (vals 3) w1 from hd 3 (by kernel_rfl))) rfl) ?_
    rw [show vals 7 = .pointer (some ⟨g, 0, none⟩) from hd 7 (by kernel_rfl)]
    refine qSv (.pointer (some ⟨g, 1, none⟩)) (by go_simp) (qLk rfl rfl)
   ·intro vals w1 hb hd
    refine qam (qal rfl rfl (congrArg some (show KEq (.bool false) (vals 3) w1 from hd 3 (by kernel_rfl))) rfl) ?_
    obtain ⟨e0, e1⟩ := qcy (qaa G2.out hb)
    rw [show vals 8 = .pointer (some ⟨g, 1, none⟩) from hd 8 (by kernel_rfl)]
    refine qSv (.int .i64 V) (by go_simp) (qLk rfl rfl)
   ·intro vals w1 hb hd
    refine qam (qal rfl rfl (congrArg some (show KEq (.bool false) (vals 3) w1 from hd 3 (by kernel_rfl))) rfl) ?_
    rw [show vals 5 = .int .i64 (vn : Nat) from hd 5 (by kernel_rfl)]
    rw [show vals 9 = .int .i64 V from hd 9 (by kernel_rfl)]
    refine qSv (.bool false) (by go_simp; first | done | exact DV.out.2 | omega) (qLk rfl rfl)
   ·intro vals w1 hb hd
    rw [show vals 3 = .bool false from hd 3 (by kernel_rfl)]
    rw [show vals 10 = .bool false from hd 10 (by kernel_rfl)]
    refine qSv (.bool false) (by go_simp) (qLk rfl rfl)
  case tl10c =>
   intro vals w3 hb3 hf hdis
   simp only [List.drop_succ_cons, List.drop_zero]
   have z11 : vals 11 = _ := hf 11 (by decide)
   rw [z11]; clear z11 hf hdis
   have G2 := qHd (qaa G2.out hb3); have B1 := qHd (qaa B1.out hb3); have HB := qHd (HB.out.trans (hb3.mono HB.out.size)); have GB := qHd (qed GB.out hb3)
   obtain ⟨x0, x1⟩ := qcy G2.out
   obtain ⟨y0, y1, y2⟩ := qay B1.out
   have X1 := hX.1; have X2 := hX.2.1; have X3 := hX.2.2.1
   clear b1' b2' DV
   cases xt with
   | true =>
    have R := qHd (show qbh V (.mk (vn : Nat) ks r) above n = (n + 1, 6) by rw [TE.out, hX.2.2.2]; rfl)
    go_wp2_with fail
    go_ret
    exact ⟨by rw [R.out]; rfl, GB.out, by rw [R.out]; exact G2.out⟩
   | false =>
    have TE := qHd (TE.out.trans (if_neg (by rw [hX.2.2.2]; decide)))
    clear hX
    by_cases r0 : r ≠ 0
    ·have R := qHd (show qbh V (.mk (vn : Nat) ks r) above n = (n + 1, 2) by rw [TE.out, if_pos r0])
     have r0' : (r != 0) = true := bne_iff_ne.2 r0
     go_wp2_with fail
     go_ret
     exact ⟨by rw [R.out]; rfl, GB.out, by rw [R.out]; exact G2.out⟩
    have r0 : r = 0 := by omega
    subst r0
    have TE := qHd (TE.out.trans (if_neg (by decide)))
    obtain ⟨P2, hP2⟩ : ∃ P : Nat, P = 2 ^ vn := ⟨_, rfl⟩
    have hp24 : P2 < 16777216 := by rw [hP2]; exact pow_l24 (by omega)
    have DP := qHd (show IntKind.wrap .i64 (2 ^ vn) = (P2 : Int) by rw [shl_one (by omega), hP2])
    obtain ⟨ab, hab2⟩ : ∃ ab, ab = above ||| 1 <<< vn := ⟨_, rfl⟩
    have hab3 : ab = above ||| P2 := by rw [hab2, hP2, Nat.one_shiftLeft]
    have hab4 : ab < 16777216 := by rw [hab3]; exact Nat.or_lt_two_pow (n := 24) (by omega) (by omega)
    have DO := qHd (show bits .or .i64 (above : Int) (P2 : Int) = (ab : Int) by rw [bits_or (by omega) (by omega), hab3])
    rw [← hab2] at TE
    clear hP2 hab2 hab3
    go_wp2_with fail
    clear X1 X2 X3 x0 x1 y0 y1 y2
    go_loopw [75] (fun i' wx => ∃ j n' : Nat, j ≤ 2 ∧ i' = .int .i64 j ∧ n' ≤ 4096 ∧ Hid (w3.grownBy wx (some g)) ∧ Hid (wx.heap[g]? = some (.cells #[.int .i64 (n' : Nat), .int .i64 (V : Nat)] 143)) ∧ Hid (qdv V ks ab (n + 1) = qdv V (ks.drop j) ab n')) (fun i' _ => 2 - (intOf i').toNat)
    case atStart => exact ⟨0, n + 1, by omega, rfl, by omega, qHd (World.grownBy.refl _ _), qHd G2.out, qHd rfl⟩
    case round =>
     obtain ⟨j, n', hj, rfl, hn', GW, GG, TS⟩ := hrel
     obtain ⟨wo, rfl⟩ : ∃ wo : World, wo = wr := ⟨_, rfl⟩
     have HBo := qHd (gb_low HB.out GW.out HB.out.size hg0)
     have B1o := qHd (qga GW.out B1.out hne)
     have GBo := qHd (qey GB.out GW.out)
     by_cases hlt : j < 2
     ·obtain ⟨t', ht'⟩ : ∃ t', ks[j]? = some t' := ⟨ks[j]'(by rw [HL.out]; exact hlt), List.getElem?_eq_getElem (by rw [HL.out]; exact hlt)⟩
      obtain ⟨bk, ok, rfl, hbk, hjk, hat⟩ := HKS.out.at (by decide); clear hjk
      obtain ⟨kv, kr, ka, kn, kc, c0, c1, c2, hTV⟩ := (hat j t' ht').val
      have hsz : SizeOf.sizeOf t' < N := by have := qcj (v := (vn : Int)) (r := 0) (List.mem_of_getElem? ht'); omega
      have hbk' : bk < wo.heap.size := Nat.lt_of_lt_of_le hbk HBo.out.size
      replace c0 := (HBo.out.cell (p := ⟨bk, _, none⟩) hbk).trans c0
      replace c1 := (HBo.out.cell (p := ⟨bk, _, none⟩) hbk).trans c1
      replace c2 := (HBo.out.cell (p := ⟨bk, _, none⟩) hbk).trans c2
      have TD := qHd (trsErr_drop (V := V) (ab := ab) (n := n') ht')
      have HTV := qHd hTV; have HSZ := qHd hsz
      clear hat hTV hsz ht'
      have hltz : (j : Int) < 2 := by omega
      obtain ⟨w4, hw4, hb4, b2, hbb, hB2⟩ := qBx5 wo (.cells #[.int .i64 kv, .slice ka kn kc, .int .i64 kr] 27)
      have B2 := qHd hB2; have B1 := qHd (qaa B1o.out hb4); have G2 := qHd (qaa GG.out hb4)
      have HB := qHd (HBo.out.trans (hb4.mono HBo.out.size)); have GB := qHd (qed GBo.out hb4); have GW := qHd (qed GW.out hb4)
      clear hB2 hb4 B1o HBo GBo GG
      go_wp2_with (with_reducible first | refine qad ?_ | refine qai ?_ | refine qaj ?_ | refine qak ?_ | refine qag ?_)
      rw [← hw4, ← hbb]
      clear hw4 hbb c0 c1 c2
      refine qap.mk ?_
      refine qao (A := ?aa19) (w := w4) 7 [] (by kernel_rfl) (Fl [KEq (.pointer (some ⟨g, 0, none⟩)), KEq (.agg #[.int .i64 kv, .slice ka kn kc, .int .i64 kr]), KEq (.int .i64 (above : Nat)), KEq (.pointer (some ⟨b1, 0, none⟩)), KEq (.int .i64 (vn : Nat)), KEq (.int .i64 (P2 : Nat)), KEq (.int .i64 (ab : Nat))]) (fun i => false) (by kernel_rfl) ?hq19 (qcw (qae (kEq _) (qae (kEq _) (qae (kEq _) (qae (kEq _) (qae (kEq _) (qae (kEq _) (qae (kEq _) qcv)))))))) ?ha19 ?st19 ?tl19
      case hq19 =>
       intro c a d v w h
       first | (simp only [Exit.then] at h ⊢; exact h) | (simp only [Exit.inBlock, Exit.then] at h ⊢; exact h) | exact h
      case ha19 =>
       intro vals
       simp only [qba, qcd, if_true, Act.put, List.setIfInBounds_toArray, List.set_cons_zero, List.set_cons_succ, List.getElem?_toArray, List.getElem?_cons_zero, List.getElem?_cons_succ, Option.bind_some]
       exact rfl
      case st19 =>
       simp only [List.take_succ_cons, List.take_zero]
       refine qab rfl rfl ?_ (qab rfl rfl ?_ (qab rfl rfl ?_ (qab rfl rfl ?_ (qab rfl rfl ?_ (qab rfl rfl ?_ (qab rfl rfl ?_ (qav)))))))
       ·intro vals w1 hb hd
        refine qSv (.pointer (some ⟨g, 0, none⟩)) (by go_simp) (qLk rfl rfl)
       ·intro vals w1 hb hd
        obtain ⟨e0, e1, e2⟩ := qay (qaa B2.out hb)
        refine qSv (.agg #[.int .i64 kv, .slice ka kn kc, .int .i64 kr]) (by go_simp) (qLk rfl rfl)
       ·intro vals w1 hb hd
        refine qSv (.int .i64 (above : Nat)) (by go_simp) (qLk rfl rfl)
       ·intro vals w1 hb hd
        refine qSv (.pointer (some ⟨b1, 0, none⟩)) (by go_simp) (qLk rfl rfl)
       ·intro vals w1 hb hd
        obtain ⟨e0, e1, e2⟩ := qay (qaa B1.out hb)
        rw [show vals 3 = .pointer (some ⟨b1, 0, none⟩) from hd 3 (by kernel_rfl)]
        refine qSv (.int .i64 (vn : Nat)) (by go_simp) (qLk rfl rfl)
       ·intro vals w1 hb hd
        rw [show vals 4 = .int .i64 (vn : Nat) from hd 4 (by kernel_rfl)]
        refine qSv (.int .i64 (P2 : Nat)) (by go_simp; first | done | exact DP.out) (qLk rfl rfl)
       ·intro vals w1 hb hd
        rw [show vals 2 = .int .i64 (above : Nat) from hd 2 (by kernel_rfl)]
        rw [show vals 5 = .int .i64 (P2 : Nat) from hd 5 (by kernel_rfl)]
        refine qSv (.int .i64 (ab : Nat)) (by go_simp; first | done | exact DO.out) (qLk rfl rfl)
      case tl19 =>
       intro vals w5 hb5 hf hdis
       simp only [List.drop_succ_cons, List.drop_zero]
       have z0 : vals 0 = _ := hf 0 (by decide)
       have z1 : vals 1 = _ := hf 1 (by decide)
       have z6 : vals 6 = _ := hf 6 (by decide)
       rw [z0, z1, z6]
       clear z0 z1 z6 hf hdis
       have G2 := qHd (qaa G2.out hb5)
       have HB := qHd (HB.out.trans (hb5.mono HB.out.size)); have GB := qHd (qed GB.out hb5); have GW := qHd (qed GW.out hb5)
       clear hb5
       have HK := qHd (snode_any V hV N t' HSZ.out _ ab n' g w0 w5 HTV.out HB.out hg0 G2.out hab4 hn')
       go_wp2_with (with_reducible refine qad ?_)
       refine qap.mk ?_
       (with_reducible refine HK.out.mono ?_); rintro e w6 ⟨rfl, gb6, hg6⟩
       have GB := qHd (qey GB.out gb6); have GW := qHd (qey GW.out gb6); have G6 := qHd hg6
       clear gb6 hg6 HK
       have TC := trErr_cnt V t' ab n' hn'
       by_cases E : (qbh V t' ab n').2 = 0
       ·have TC2 := TC.2 E
        have TS2 := qHd (show qdv V ks ab (n + 1) = qdv V (ks.drop (j + 1)) ab (qbh V t' ab n').1 by rw [TS.out, TD.out, if_neg (by rw [E]; decide)])
        rw [E, qbi]
        clear TC E
        go_wp2_with fail
        go_roundw
        case rel => exact ⟨j + 1, (qbh V t' ab n').1, by omega, by go_num, TC2, qHd GW.out, qHd G6.out, qHd TS2.out⟩
        case measure => simp [intOf]; omega
       ·have R := qHd (show qbh V (.mk (vn : Nat) ks 0) above n = qbh V t' ab n' by rw [TE.out, TS.out, TD.out, if_pos E])
        rw [qbz E]
        have E2 := qHd E
        clear TC E
        go_wp2_with fail
        go_ret
        exact ⟨by rw [R.out, qbz E2.out]; rfl, GB.out, by rw [R.out]; exact G6.out⟩
     ·have hj' : j = 2 := by omega
      subst hj'
      have R := qHd (show qbh V (.mk (vn : Nat) ks 0) above n = (n', 0) by rw [TE.out, TS.out, List.drop_of_length_le (by rw [HL.out]; exact Nat.le_refl _)]; rfl)
      go_wp2_with fail
      go_ret
      exact ⟨by rw [R.out]; rfl, GBo.out, by rw [R.out]; exact GG.out⟩
theorem scheck_any (x : Value) (t : Tr) (vars : Int) (w : World) (ht : TrV w x t) (hv : 0 ≤ vars ∧ vars ≤ 24) :
  Calls Tryz.prog 46 #[x, .int .i64 vars] w (qea w (errV (qbh vars t 0 0).2)) := by
 obtain ⟨V, rfl⟩ : ∃ V : Nat, vars = V := ⟨vars.toNat, by omega⟩
 obtain ⟨v, r, ao, kn, c, rfl⟩ := ht.shape
 obtain ⟨W, hW⟩ : ∃ W, W = (w.alloc (.cells #[.int .i64 v, .slice ao kn c, .int .i64 r] 27)).alloc (.cells #[.int .i64 0, .int .i64 (V : Nat)] 143) := ⟨_, rfl⟩
 have hbW : Below w.heap.size w W := by rw [hW]; exact ((Below.refl _ _).alloc (Nat.le_refl _) _).alloc (by simp) _
 have hg2 : W.heap[w.heap.size + 1]? = some (.cells #[.int .i64 (0 : Nat), .int .i64 (V : Nat)] 143) := by rw [hW]; exact heap_alloc2_new w _ _
 have hk := snode_any V (by omega) _ t (Nat.lt_succ_self _) _ 0 0 (w.heap.size + 1) w W ht hbW (by omega) hg2 (by decide) (by decide)
 rw [show ((0 : Nat) : Int) = 0 from rfl] at hk
 have HK := qHd hk; clear hk
 have HBW := qHd hbW
 clear hbW hg2 ht
 go_enter Tryz.func46, Tryz.ntmps46
 go_wp2_with (with_reducible refine qad ?_)
 rw [← hW]; clear hW
 refine qap.mk ?_
 (with_reducible refine HK.out.mono ?_); rintro e w6 ⟨rfl, gb6, hg6⟩
 have hb6 := gb_low HBW.out gb6 HBW.out.size (by omega)
 clear gb6 hg6 HK HBW
 go_wp2_with fail
 go_ret
 exact ⟨rfl, hb6⟩
def noU (l : List Value) : Prop := ∀ u ∈ l, ∀ n, u ≠ .int .u32 n
theorem noW_noU {cs : Array Value} (h : noU cs.toList) : noW cs := by
 intro j n hj
 have hm : Value.int .u32 n ∈ cs.toList := by
  obtain ⟨hlt, e⟩ := Array.getElem?_eq_some_iff.1 hj
  rw [← e]; simp
 exact h _ hm n rfl
theorem noU_app {a b : List Value} (h1 : noU a) (h2 : noU b) : noU (a ++ b) := by
 intro u hu
 rcases List.mem_append.1 hu with h | h
 ·exact h1 u h
 ·exact h2 u h
theorem noU_take {a : List Value} (h : noU a) (n : Nat) : noU (a.take n) := fun u hu => h u (List.mem_of_mem_take hu)
theorem noU_drop {a : List Value} (h : noU a) (n : Nat) : noU (a.drop n) := fun u hu => h u (List.mem_of_mem_drop hu)
theorem noU_zeros {z : Array Value} (h : noU z.toList) (n : Nat) : noU (Builtin.zeroCells z n).toList := by
 intro u hu k
 unfold Builtin.zeroCells at hu
 simp only [Array.toList_map, List.mem_map] at hu
 obtain ⟨i, _, rfl⟩ := hu
 by_cases hi : i % z.size < z.size
 ·rw [getElem!_pos z (i % z.size) hi]; exact h _ (by simp) k
 ·rw [getElem!_neg z (i % z.size) hi]; exact fun e => by cases e
def OwnL (w : World) (B : Nat) (e : TypeId) (size : Nat) (v : Value) (n : Nat) (xs : List Value) : Prop :=
 w.ownsRow B e size v n xs ∧ ∀ g cur, v.ownBlock = some g → w.heap[g]? = some (.cells cur e) → noU cur.toList
theorem OwnL.nil (w : World) (B : Nat) (e : TypeId) (size : Nat) : OwnL w B e size (.slice none 0 0) 0 [] := ⟨World.ownsRow_nil _ _ _ _, fun g _ h => by cases h⟩
theorem OwnL.below {w w' : World} {B : Nat} {e : TypeId} {size : Nat} {v : Value} {n : Nat} {xs : List Value} (h : OwnL w B e size v n xs) (hb : Below w.heap.size w w') : OwnL w' B e size v n xs := by
 refine ⟨World.ownsRow.kept (row := none) h.1 ⟨hb.os, hb.tape, hb.output, hb.size, fun k hk _ => hb.block k hk⟩ (by cases hv : v.ownBlock <;> simp), fun g cur hg hc => ?_⟩
 have hlt := (World.ownsRow.lt h.1 g hg).2
 rw [hb.block g hlt] at hc
 exact h.2 g cur hg hc
theorem OwnL.lt {w : World} {B : Nat} {e : TypeId} {size : Nat} {v : Value} {n : Nat} {xs : List Value} (h : OwnL w B e size v n xs) {g : Nat} (hg : w.heap.size ≤ g) : v.ownBlock ≠ some g := fun e => by
 have := (World.ownsRow.lt h.1 g e).2; omega
theorem OwnL.put {w w' : World} {B g off : Nat} {l : List Value} {e : TypeId} {size : Nat} {v : Value} {n : Nat} {xs : List Value} (h : OwnL w B e size v n xs) (hw : w' = qel w g off l) (hg : v.ownBlock ≠ some g) (hos : w'.os = w.os ∧ w'.tape = w.tape ∧ w'.output = w.output) : OwnL w' B e size v n xs := by
 have hbl : ∀ k, k ≠ g → w'.heap[k]? = w.heap[k]? := fun k hk => by rw [hw, putL_ne hk]
 refine ⟨World.ownsRow.kept (row := some g) h.1 ⟨hos.1, hos.2.1, hos.2.2, by rw [hw, putL_size]; exact Nat.le_refl _, fun k _ hk => hbl k (fun e => hk (by rw [e]))⟩ ?_, fun k cur hk hc => ?_⟩
 ·cases hv : v.ownBlock with
  | none => simp
  | some k => right; intro e; exact hg (by rw [hv]; exact e)
 ·rw [hbl k (fun e => hg (by rw [← e]; exact hk))] at hc
  exact h.2 k cur hk hc
theorem run_append_L {P : Program} (w : World) (base : Nat) (t ty e : TypeId) (i : TypeInfo) (z : Value) (size bytes : Nat) (ht : P.underlying t = some (.slice e)) (hi : P.info? e = some i) (hz : i.zero = some z)
  (hsize : i.size = size) (hby : i.bytes = bytes) (hzs : z.cells.size = size) (hsz : 0 < size) (hzu : noU z.cells.toList)
  (v : Value) (n : Nat) (xs : List Value) (hown : OwnL w base e size v n xs)
  (a : Addr) (c : Nat) (news : List Value) (hl : news.length = size) (hnews : ∀ j u, news[j]? = some u → w.cell? (a.add j) = some u) (h1 : ∀ u ∈ news, u.oneCell' = true) (hnu : noU news) (hxu : noU xs)
  (h63 : n + 1 ≤ maxLen) (hbytes : (n + 1) * bytes ≤ 140737488355328) (hbase : base ≤ w.heap.size) :
  ∃ v' w', (Builtin.append_ #[t, t] ty #[v, .slice (some a) 1 c]).run P w = .ok v' w' ∧ OwnL w' base e size v' (n + 1) (xs ++ news) ∧ w.grownBy w' v.ownBlock ∧
   (∀ g, g < w.heap.size → v.ownBlock ≠ some g → v'.ownBlock ≠ some g) := by
 subst hsize
 subst hby
 have hl' : news.length = 1 * i.size := by omega
 obtain ⟨v', w', hr, h2, h3, _⟩ := run_append_own (P := P) w base t ty e i z i.size i.bytes ht hi hz rfl rfl hzs hsz v n xs hown.1 a 1 c news hl' hnews h1 h63 hbytes hbase
 refine ⟨v', w', hr, ⟨h2, ?_⟩, h3, ?_⟩
 ·intro g cur hg hc
  rcases hown.1.2 with ⟨rfl, rfl⟩ | ⟨g', cap, old, rfl, hbg, hgg, hnc, hcm, hcs, htake⟩
  ·have hr' := run_append_nil (P := P) w t ty e i z ht hi hz a 1 c news hl' hnews (by omega) (by decide) (by omega)
   rw [hr] at hr'
   simp only [Result.ok.injEq] at hr'
   obtain ⟨rfl, rfl⟩ := hr'
   simp only [Value.ownBlock, Option.some.injEq] at hg
   subst hg
   have hn := heap_alloc_new w.drew (.cells (news.toArray ++ Builtin.zeroCells z.cells (grownCap w 1 0 e - 1)) e)
   rw [show w.drew.heap.size = w.heap.size from rfl] at hn
   rw [hn] at hc
   simp only [Option.some.injEq, Obj.cells.injEq] at hc
   rw [← hc.1, Array.toList_append]
   exact noU_app hnu (noU_zeros hzu _)
  ·by_cases hroom : n + 1 ≤ cap
   ·have hfit : n * i.size + news.length ≤ old.size := by rw [hl', hcs, ← Nat.add_mul]; exact Nat.mul_le_mul_right _ hroom
    have hr' := run_append_room (P := P) w t ty e i ht hi g' n cap old hgg a 1 c news hl' hnews h1 hroom hfit
    rw [hr] at hr'
    simp only [Result.ok.injEq] at hr'
    obtain ⟨rfl, rfl⟩ := hr'
    simp only [Value.ownBlock, Option.some.injEq] at hg
    subst hg
    rw [setRow_heap w g' old _ e _ hgg] at hc
    simp only [Option.some.injEq, Obj.cells.injEq] at hc
    have ho := hown.2 g' old rfl hgg
    rw [← hc.1]
    exact noU_app (noU_app (noU_take ho _) hnu) (noU_drop ho _)
   ·have holds : ∀ j u, xs[j]? = some u → w.cell? ((⟨g', 0, none⟩ : Addr).add j) = some u := World.ownsRow.cells hown.1 (g := g') rfl
    have hr' := run_append_grow (P := P) w t ty e i z ht hi hz ⟨g', 0, none⟩ n cap xs hown.1.1 holds a 1 c news hl' hnews (by omega) (by unfold maxLen at h63; omega) (growslice_fits (by omega) hbytes)
    rw [hr] at hr'
    simp only [Result.ok.injEq] at hr'
    obtain ⟨rfl, rfl⟩ := hr'
    simp only [Value.ownBlock, Option.some.injEq] at hg
    subst hg
    have hn := heap_alloc_new w.drew (.cells (xs.toArray ++ news.toArray ++ Builtin.zeroCells z.cells (grownCap w (n + 1) cap e - (n + 1))) e)
    rw [show w.drew.heap.size = w.heap.size from rfl] at hn
    rw [hn] at hc
    simp only [Option.some.injEq, Obj.cells.injEq] at hc
    rw [← hc.1, Array.toList_append, Array.toList_append]
    exact noU_app (noU_app hxu hnu) (noU_zeros hzu _)
 ·intro g hglt hgne hg'
  rcases hown.1.2 with ⟨rfl, rfl⟩ | ⟨g', cap, old, rfl, hbg, hgg, hnc, hcm, hcs, htake⟩
  ·have hr' := run_append_nil (P := P) w t ty e i z ht hi hz a 1 c news hl' hnews (by omega) (by decide) (by omega)
   rw [hr] at hr'
   simp only [Result.ok.injEq] at hr'
   obtain ⟨rfl, rfl⟩ := hr'
   simp only [Value.ownBlock, Option.some.injEq] at hg'
   omega
  ·by_cases hroom : n + 1 ≤ cap
   ·have hfit : n * i.size + news.length ≤ old.size := by rw [hl', hcs, ← Nat.add_mul]; exact Nat.mul_le_mul_right _ hroom
    have hr' := run_append_room (P := P) w t ty e i ht hi g' n cap old hgg a 1 c news hl' hnews h1 hroom hfit
    rw [hr] at hr'
    simp only [Result.ok.injEq] at hr'
    obtain ⟨rfl, rfl⟩ := hr'
    exact hgne hg'
   ·have holds : ∀ j u, xs[j]? = some u → w.cell? ((⟨g', 0, none⟩ : Addr).add j) = some u := World.ownsRow.cells hown.1 (g := g') rfl
    have hr' := run_append_grow (P := P) w t ty e i z ht hi hz ⟨g', 0, none⟩ n cap xs hown.1.1 holds a 1 c news hl' hnews (by omega) (by unfold maxLen at h63; omega) (growslice_fits (by omega) hbytes)
    rw [hr] at hr'
    simp only [Result.ok.injEq] at hr'
    obtain ⟨rfl, rfl⟩ := hr'
    simp only [Value.ownBlock, Option.some.injEq] at hg'
    omega
theorem wpList_appL {P : Program} {ops : Array Oper} {rest : List Oper} {a : Act} {w : World} {Q : Exit → Act → World → Prop} {d : Option Tmp} {tt : TypeId} {s x : Operand} {t e : TypeId} {pos : String} {af : Array Edge}
  (base : Nat) {z : Value} {size bytes : Nat} (T : qee P t e z size bytes) (hzs : z.cells.size = size) (hzu : noU z.cells.toList) (hsz : 0 < size)
  (v : Value) (n : Nat) (xs news : List Value) (g0 : Nat) (T0 : TypeId) (hs : a.eval s = v) (hx : a.eval x = .slice (some ⟨g0, 0, none⟩) 1 1) (hown : OwnL w base e size v n xs) (hg0 : w.heap[g0]? = some (.cells news.toArray T0)) (hl : news.length = size)
  (h1 : news.all (fun u => u.oneCell') = true) (hnu : noU news) (hxu : noU xs) (hn : n ≤ 1000000) (hby : bytes ≤ 1000) (hbase : base ≤ w.heap.size)
  (hK : ∀ v' w', OwnL w' base e size v' (n + 1) (xs ++ news) → w.grownBy w' v.ownBlock → (∀ g, g < w.heap.size → v.ownBlock ≠ some g → v'.ownBlock ≠ some g) → wpList P ops Q rest (a.put d v') w') :
  qap (wpList P ops Q (⟨d, .call { callee := .builtin .append, args := #[s, x], argTypes := #[t, t] }, tt, pos, af, none⟩ :: rest) a w) := by
 obtain ⟨i0, hi, hz0, hz1, hz2⟩ := T.info
 have hbb : (n + 1) * bytes ≤ 140737488355328 := Nat.le_trans (Nat.mul_le_mul (show n + 1 ≤ 1000001 by omega) hby) (by decide)
 obtain ⟨v', w', hr, k1, k2, k3⟩ := run_append_L (P := P) w base t tt e i0 z size bytes T.under hi hz0 hz1 hz2 hzs hsz hzu v n xs hown ⟨g0, 0, none⟩ 1 news hl
  (fun j u hu => by
   have e2 : (⟨g0, 0, none⟩ : Addr).add j = ⟨g0, j, none⟩ := by unfold Addr.add; split <;> simp_all
   rw [e2, cell_of_row w g0 j news.toArray T0 (0, 0) hg0]; simpa using hu) (fun u hu => List.all_eq_true.1 h1 u hu) hnu hxu (by unfold maxLen; omega) hbb hbase
 refine wpList_plain rfl fun _ hK' => ?_
 unfold Oper.wp execOp
 simp only [resolve, invoke, builtin, Sem.run_bind, Sem.run_pure, Result.andThen_ok, List.map_toArray, List.map_cons, List.map_nil, hs, hx, hr]
 exact hK' _ _ (hK v' w' k1 k2 k3)
theorem grown_num {w w' : World} {v0 v : Value} {k : List Nat} {B n size : Nat} {e : TypeId} {xs : List Value} (hg : w.grownBy w' v0.ownBlock) (ho : OwnL w B e size v0 n xs) (h : Num w v k) : Num w' v k := by
 obtain ⟨ao, c, rfl, h1, h2, h3, h4, h5⟩ := h
 refine ⟨ao, c, rfl, h1, h2, h3, ?_, h5⟩
 intro b' o s hs
 obtain ⟨k1, k2⟩ := h4 b' o s hs
 have hsz := hg.size
 refine ⟨fun h0 => by obtain ⟨q1, q2⟩ := k1 h0; exact ⟨by omega, q2⟩, fun j hj => ?_⟩
 have hc := k2 j hj
 by_cases hb : v0.ownBlock = some b'
 ·exfalso
  have hh := ho.2
  rcases ho.1.2 with ⟨rfl, _⟩ | ⟨g', cap, old, rfl, _, hgg, _⟩
  ·cases hb
  ·simp only [Value.ownBlock, Option.some.injEq] at hb
   subst hb
   have hn := noW_noU (hh g' old rfl hgg)
   rw [cell_of_row w g' (o + j) old e (0, 0) hgg] at hc
   exact hn _ _ hc
 ·have hlt : b' < w.heap.size := World.block_lt_of_cell? w _ hc
  rw [← hc]
  unfold World.cell?
  rw [hg.block b' hlt (fun e => hb e.symm)]
theorem OwnL.low {w w' w0 : World} {B n size : Nat} {e : TypeId} {v0 : Value} {xs : List Value} (ho : OwnL w B e size v0 n xs) (hg : w.grownBy w' v0.ownBlock) (hb : Below B w0 w) (hB : B ≤ w.heap.size) : Below B w0 w' := by
 refine hb.grown hg hB ?_
 intro k hk
 exact (World.ownsRow.lt ho.1 k hk).1
section
variable {w w' : World} {v0 v : Value} {B n size : Nat} {e : TypeId} {xs : List Value} {q : Rat} {s t : Bool} {a b c d : List Nat} {S : Rat × Rat}
theorem grown_V (hg : w.grownBy w' v0.ownBlock) (ho : OwnL w B e size v0 n xs) (h : RatV w v s a b) : RatV w' v s a b := by
 obtain ⟨va, vb, e, h1, h2⟩ := h
 exact ⟨va, vb, e, grown_num hg ho h1, grown_num hg ho h2⟩
end
theorem noU3 {s : Bool} {o p : Option Addr} {n c m d : Nat} : noU [.bool s, .slice o n c, .slice p m d] := by
 intro u hu k
 simp only [List.mem_cons, List.not_mem_nil, or_false] at hu
 rcases hu with rfl | rfl | rfl <;> exact fun e => by cases e
theorem noU0 : noU [] := fun u hu => by cases hu
theorem Tryz.ratTy : qee Tryz.prog 50 54 (.agg #[.bool false, .slice none 0 0, .slice none 0 0]) 3 56 :=
 .mk' Tryz.underlying50 (by kernel_rfl)
end Go.Proofs.YthhgfhdmfhnklaaGreatDoor
