/-
  What the law leans on, one text behind the other (the base).
  Conditions: each theorem's own.
-/
import Derived.WalkKit
import Derived.ProofKit
import Derived.WalkSpells
import Derived.WalkLawsBesides
import Derived.WalkSmall
import Derived.Lib.Hide
import Derived.Laws.BitsLemmas
import Derived.Lib.BitFns
import Derived.StillTailTactics
import Derived.Test.YthhgfhdmfhnklaaGreatDoorProg
import Derived.Deep.QuietTactic
import Derived.BigQuiet
set_option maxRecDepth 100000
set_option maxHeartbeats 16000000
namespace Go.Proofs.YthhgfhdmfhnklaaGreatDoor
open Go.RowKit Go.ChangeShapes Go.WideShapes
theorem qHd {p : Prop} (h : p) : Hid p := h
theorem qBA (w : World) (o : Obj) : Below w.heap.size w (w.alloc o) := (Below.refl _ _).alloc (Nat.le_refl _) _
theorem qBx3 (w : World) (o : Obj) : ∃ w', w' = w.alloc o ∧ Below w.heap.size w w' ∧ w'.heap[w.heap.size]? = some o := ⟨_, rfl, qBA w o, heap_alloc_new w o⟩
theorem qBx5 (w : World) (o : Obj) : ∃ w', w' = w.alloc o ∧ Below w.heap.size w w' ∧ ∃ g, g = w.heap.size ∧ w'.heap[g]? = some o := ⟨_, rfl, qBA w o, _, rfl, heap_alloc_new w o⟩
theorem qBx2 (w : World) (o p : Obj) : ∃ w', w' = (w.alloc o).alloc p ∧ Below w.heap.size w w' ∧ w'.heap[w.heap.size]? = some o ∧ w'.heap[w.heap.size + 1]? = some p := ⟨_, rfl, (qBA w o).alloc (by simp) _, heap_alloc2_old w o p, heap_alloc2_new w o p⟩
def gd (l : List Nat) (j : Nat) : Nat := l.getD j 0
theorem gd_over (l : List Nat) (j : Nat) (h : l.length ≤ j) : gd l j = 0 := by simp [gd, h]
theorem gd_lt (l : List Nat) (j : Nat) (h : j < l.length) : gd l j = l[j] := by simp [gd, h]
theorem gd_set (l : List Nat) (k x j : Nat) : gd (l.set k x) j = if j = k ∧ k < l.length then x else gd l j := by
 unfold gd
 rw [List.getD_eq_getElem?_getD, List.getD_eq_getElem?_getD, List.getElem?_set]
 by_cases h : k = j
 ·subst h
  by_cases h2 : k < l.length <;> simp [h2]
 ·rw [if_neg h, if_neg (by omega)]
theorem gd_replicate (n x j : Nat) : gd (List.replicate n x) j = if j < n then x else 0 := by
 unfold gd
 rw [List.getD_eq_getElem?_getD, List.getElem?_replicate]; split <;> simp
theorem gd_append (a b : List Nat) (j : Nat) : gd (a ++ b) j = if j < a.length then gd a j else gd b (j - a.length) := by
 unfold gd
 simp only [List.getD_eq_getElem?_getD, List.getElem?_append]; split <;> rfl
theorem gd_take (a : List Nat) (n j : Nat) : gd (a.take n) j = if j < n then gd a j else 0 := by
 unfold gd
 simp only [List.getD_eq_getElem?_getD, List.getElem?_take]; split <;> simp
theorem gd_drop (a : List Nat) (n j : Nat) : gd (a.drop n) j = gd a (n + j) := by
 unfold gd
 simp only [List.getD_eq_getElem?_getD, List.getElem?_drop]
theorem gd_ext {a b : List Nat} (hl : a.length = b.length) (h : ∀ j, j < a.length → gd a j = gd b j) : a = b := by
 apply List.ext_getElem hl
 intro i h1 h2
 have := h i h1
 rwa [gd_lt _ _ h1, gd_lt _ _ h2] at this
theorem gd_cons_zero (x : Nat) (l : List Nat) : gd (x :: l) 0 = x := rfl
theorem gd_cons_succ (x : Nat) (l : List Nat) (j : Nat) : gd (x :: l) (j + 1) = gd l j := rfl

def U32 (l : List Nat) : Prop := ∀ j, gd l j < 4294967296

def Num (w : World) (v : Value) (l : List Nat) : Prop :=
 ∃ ao c, v = .slice ao l.length c ∧ l.length ≤ c ∧ c ≤ 9223372036854775807 ∧ (ao = none → c = 0) ∧
  (∀ b off s, ao = some ⟨b, off, s⟩ → (0 < l.length → b < w.heap.size ∧ s = none) ∧ ∀ j, j < l.length → w.cell? ⟨b, off + j, none⟩ = some (.int .u32 (gd l j : Nat))) ∧
  U32 l
theorem Num.mono {w w' : World} {v : Value} {l : List Nat} {B : Nat} (h : Num w v l) (hb : Below B w w') (hB : w.heap.size ≤ B) : Num w' v l := by
 obtain ⟨ao, c, rfl, h1, h2, h3, h4, h5⟩ := h
 refine ⟨ao, c, rfl, h1, h2, h3, ?_, h5⟩
 intro b off s hs
 obtain ⟨k1, k3⟩ := h4 b off s hs
 refine ⟨fun h0 => ⟨Nat.lt_of_lt_of_le (k1 h0).1 hb.size, (k1 h0).2⟩, fun j hj => ?_⟩
 rw [hb.cell (p := ⟨b, off + j, none⟩) (Nat.lt_of_lt_of_le (k1 (by omega)).1 hB)]
 exact k3 j hj
theorem Num.below {w w' : World} {v : Value} {l : List Nat} (h : Num w v l) (hb : Below w.heap.size w w') : Num w' v l := h.mono hb (Nat.le_refl _)
theorem Num.shape {w : World} {v : Value} {l : List Nat} (h : Num w v l) : ∃ ao c, v = .slice ao l.length c ∧ l.length ≤ c ∧ c ≤ 9223372036854775807 ∧ (ao = none → c = 0) := by
 obtain ⟨ao', c', e, h1, h2, h3, h4, h5⟩ := h
 exact ⟨ao', c', e, h1, h2, h3⟩
theorem Num.at {w : World} {ao : Option Addr} {n c : Nat} {l : List Nat} (h : Num w (.slice ao n c) l) (hn : 0 < n) :
  ∃ b off, ao = some ⟨b, off, none⟩ ∧ b < w.heap.size ∧ ∀ j, j < n → w.cell? ⟨b, off + j, none⟩ = some (.int .u32 (gd l j : Nat)) := by
 obtain ⟨ao', c', e, h1, h2, h3, h4, h5⟩ := h
 cases e
 cases hao : ao with
 | none => have := h3 hao; omega
 | some a =>
  obtain ⟨b, off, s⟩ := a
  obtain ⟨k1, k3⟩ := h4 b off s hao
  obtain ⟨k0, rfl⟩ := k1 hn
  exact ⟨b, off, rfl, k0, k3⟩
theorem Num.lt {w : World} {v : Value} {l : List Nat} (h : Num w v l) : U32 l := by
 obtain ⟨ao', c', e, h1, h2, h3, h4, h5⟩ := h
 exact h5
theorem Num.nil (w : World) : Num w (.slice none 0 0) [] := ⟨none, 0, rfl, Nat.le_refl _, by omega, by simp, by simp, fun j => by simp [gd]⟩

def RetNum (w : World) (R : List Nat → Prop) (e : Ending) (w' : World) : Prop := ∃ v l, e = .returned v ∧ Below w.heap.size w w' ∧ Num w' v l ∧ R l
def qea (w : World) (v : Value) (e : Ending) (w' : World) : Prop := e = .returned v ∧ Below w.heap.size w w'

def RetS (w : World) (v : Value) (e : Ending) (w' : World) : Prop := e = .returned v ∧ w = w'
theorem ret_quiet {P : Program} {f : FuncId} {args : Array Value} {w : World} {v : Value} (h : Calls P f args w (RetS w v)) : Calls P f args w fun e w' => e = .returned v ∧ w' = w :=
 h.mono fun _ _ ⟨h1, h2⟩ => ⟨h1, h2.symm⟩
theorem qdp {a b : Bool} (h : a = b) : Ending.returned (.bool a) = .returned (.bool b) := by rw [h]
theorem qfb {k : IntKind} {a b : Int} (h : a = b) : Ending.returned (.int k a) = .returned (.int k b) := by rw [h]
theorem map_gd (l : List Nat) (j : Nat) : (l.map fun x : Nat => Value.int .u32 x)[j]? = if j < l.length then some (.int .u32 (gd l j : Nat)) else none := by
 by_cases h : j < l.length <;> simp [gd, h]

def qdu (e : TypeId) (w : World) (B : Nat) (v : Value) (l : List Nat) : Prop :=
 w.ownsRow B e 1 v l.length (l.map fun x : Nat => Value.int .u32 x) ∧ U32 l

section
variable {e : TypeId} {w : World} {B : Nat} {v : Value} {l : List Nat}
theorem qdu.lt (h : qdu e w B v l) : U32 l := h.2
theorem qdu.nil (e : TypeId) (w : World) (B : Nat) : qdu e w B (.slice none 0 0) [] := ⟨World.ownsRow_nil _ _ _ _, fun j => by simp [gd]⟩
theorem qdu.cell {g n c : Nat} (h : qdu e w B (.slice (some ⟨g, 0, none⟩) n c) l) (hn : l.length = n) : ∀ j, j < n → w.cell? ⟨g, j, none⟩ = some (.int .u32 (gd l j : Nat)) := by
 intro j hj
 subst hn
 have := h.1.cellAt j (by omega)
 rw [this, map_gd, if_pos hj]
theorem qdu.frozen {g n c : Nat} (h : qdu e w B (.slice (some ⟨g, 0, none⟩) n c) l) (hn : l.length = n) : ∀ j, w.frozen? ⟨g, j, none⟩ = false := fun j => by subst hn; exact h.1.frozenAt j
theorem qdu.stored {g n c : Nat} (h : qdu e w B (.slice (some ⟨g, 0, none⟩) n c) l) (hn : l.length = n) (k x : Nat) (hx : x < 4294967296) :
  qdu e (w.setCell ⟨g, k, none⟩ (.int .u32 x)) B (.slice (some ⟨g, 0, none⟩) n c) (l.set k x) := by
 subst hn
 obtain ⟨h1, h3⟩ := h
 obtain ⟨r1, r2⟩ := h1.stored k (.int .u32 x)
 refine ⟨?_, ?_⟩
 ·rw [List.map_set, List.length_set]; exact r1
 ·intro j
  rw [gd_set]; split
  ·exact hx
  ·exact h3 j
theorem qdu.num (h : qdu e w B v l) : Num w v l := by
 obtain ⟨h1, h2⟩ := h
 have hc := fun g hg => h1.cells (g := g) hg
 have hlt := h1.lt
 rcases h1.2 with ⟨rfl, hn⟩ | ⟨g, cap, cur, rfl, hb, hh, hcap, hm, hs, ht⟩
 ·have : l = [] := List.eq_nil_of_length_eq_zero hn
  subst this; exact Num.nil w
 ·refine ⟨some ⟨g, 0, none⟩, cap, rfl, hcap, by unfold maxLen at hm; omega, by simp, ?_, h2⟩
  intro b off s hs'
  simp only [Option.some.injEq, Addr.mk.injEq] at hs'
  obtain ⟨rfl, rfl, rfl⟩ := hs'
  refine ⟨fun _ => ⟨(hlt g rfl).2, rfl⟩, fun j hj => ?_⟩
  have := hc g rfl j (.int .u32 (gd l j : Nat)) (by rw [map_gd, if_pos hj])
  have e2 : (⟨g, 0, none⟩ : Addr).add j = ⟨g, 0 + j, none⟩ := by unfold Addr.add; split <;> simp_all
  rw [e2] at this; exact this
theorem qdu.head (h : qdu e w B v l) (hn : 0 < l.length) : ∃ g c, v = .slice (some ⟨g, 0, none⟩) l.length c ∧ B ≤ g := by
 rcases h.1.2 with ⟨rfl, h0⟩ | ⟨g, cap, cur, rfl, hb, hh, hcap, hm, hs, ht⟩
 ·omega
 ·exact ⟨g, cap, rfl, hb⟩
theorem qdu.block {g n c : Nat} (h : qdu e w B (.slice (some ⟨g, 0, none⟩) n c) l) : B ≤ g ∧ g < w.heap.size := h.1.lt g rfl
theorem qdu.alloc (h : qdu e w B v l) (o : Obj) : qdu e (w.alloc o) B v l := ⟨h.1.alloc o, h.2⟩
theorem qdu.drew (h : qdu e w B v l) : qdu e w.drew B v l := ⟨h.1.drew, h.2⟩
theorem qdu.below {w' : World} (h : qdu e w B v l) (hb : Below w.heap.size w w') : qdu e w' B v l := by
 refine ⟨h.1.kept (row := none) ⟨hb.os, hb.tape, hb.output, hb.size, fun k hk _ => hb.block k hk⟩ ?_, h.2⟩
 cases hv : v.ownBlock <;> simp
theorem qdu.base {B' : Nat} (h : qdu e w B v l) (hB : B' ≤ B) : qdu e w B' v l := by
 obtain ⟨⟨h1, h2⟩, h3⟩ := h
 refine ⟨⟨h1, ?_⟩, h3⟩
 rcases h2 with h2 | ⟨g, cap, cur, hv, hb, r⟩
 ·exact .inl h2
 ·exact .inr ⟨g, cap, cur, hv, Nat.le_trans hB hb, r⟩
end

theorem num_lit (w : World) (e : TypeId) (cs : Array Value) (l : List Nat) (n : Nat) (hU : U32 l) (hn : l.length = n) (hs : l.length ≤ 1000000) (hcs : cs = (l.map fun x : Nat => Value.int .u32 x).toArray) :
  Num (w.alloc (.cells cs e)) (.slice (some ⟨w.heap.size, 0, none⟩) n n) l := by
 subst hcs hn
 refine ⟨some ⟨w.heap.size, 0, none⟩, l.length, rfl, Nat.le_refl _, by omega, by simp, ?_, hU⟩
 intro b off s hs'
 simp only [Option.some.injEq, Addr.mk.injEq] at hs'
 obtain ⟨rfl, rfl, rfl⟩ := hs'
 refine ⟨fun _ => ⟨by simp, rfl⟩, fun j hj => ?_⟩
 rw [Nat.zero_add, cell_of_row (w.alloc (.cells (l.map fun x : Nat => Value.int .u32 x).toArray e)) w.heap.size j _ e (0, 0) (heap_alloc_new w _)]
 have := map_gd l j
 rw [if_pos hj] at this
 simpa using this

structure qee (P : Program) (t e : TypeId) (z : Value) (size bytes : Nat) : Prop where
 under : P.underlying t = some (.slice e)
 info : ∃ i, P.info? e = some i ∧ i.zero = some z ∧ i.size = size ∧ i.bytes = bytes

theorem qee.mk' {P : Program} {t e : TypeId} {z : Value} {size bytes : Nat} (h1 : P.underlying t = some (.slice e))
  (h2 : (P.info? e).map (fun i => (i.zero, i.size, i.bytes)) = some (some z, size, bytes)) : qee P t e z size bytes := ⟨h1, info_parts h2⟩

section
variable {P : Program} {w : World} {ops : Array Oper} {rest : List Oper} {o : Oper} {a : Act} {Q : Exit → Act → World → Prop} {t e : TypeId}
theorem qdz (T : qee P t e (.int .u32 0) 1 4)
  (hg : o.guard = none) (l c : Operand) (hop : o.op = Op.makeSlice t l c)
  (kl kc : IntKind) (L C : Int) (n : Nat) (hl : a.eval l = .int kl L) (hc : a.eval c = .int kc C) (hL : L = (n : Int)) (hC : C = (n : Int)) (hn : n ≤ 70368744177664)
  (hK : ∀ w', qdu e w' w.heap.size (.slice (some ⟨w.heap.size, 0, none⟩) n n) (List.replicate n 0) → Below w.heap.size w w' → w.heap.size < w'.heap.size →
   wpList P ops Q rest (a.put o.dst (.slice (some ⟨w.heap.size, 0, none⟩) n n)) w') :
  wpList P ops Q (o :: rest) a w := by
 obtain ⟨i0, hi, hz0, hz1, hz2⟩ := T.info
 refine wpList_make_full w hg l c t hop w.heap.size e i0 (.int .u32 0) 1 T.under hi hz0 hz1 kl kc L C n hl hc hL hC (by rw [hz2]; omega) (by unfold maxLen; omega) (Nat.le_refl _) ?_
 intro w1 h1 h2
 refine hK w1 ⟨?_, ?_⟩ ((Below.refl _ _).grown h2 (Nat.le_refl _) (by simp)) (h1.lt _ rfl).2
 ·have e1 : (Value.int IntKind.u32 0).cells = #[.int .u32 0] := rfl
  rw [e1, Nat.mul_one, toList_madeCells_one] at h1
  rw [List.map_replicate, List.length_replicate]; exact h1
 ·intro j; rw [gd_replicate]; split <;> omega

theorem run_appendN (T : qee P t e (.int .u32 0) 1 4) (ty : TypeId) (B : Nat) (v xv : Value) (l m : List Nat) (hown : qdu e w B v l) (hm : Num w xv m)
  (hlen : l.length + m.length ≤ 17592186044416) (hB : B ≤ w.heap.size) :
  ∃ v' w', (Builtin.append_ #[t, t] ty #[v, xv]).run P w = .ok v' w' ∧ qdu e w' B v' (l ++ m) ∧ w.grownBy w' v.ownBlock := by
 obtain ⟨i0, hi, hz0, hz1, hz2⟩ := T.info
 obtain ⟨ao, c, rfl, h1, h2, h3, h4, h5⟩ := hm
 have hU : U32 (l ++ m) := by
  intro j; rw [gd_append]; split
  ·exact hown.2 j
  ·exact h5 _
 cases hao : ao with
 | none =>
  have hc0 := h3 hao
  have hm0 : m = [] := List.eq_nil_of_length_eq_zero (by omega)
  subst hm0 hc0
  have hrun := run_append_owned_none (P := P) w B t ty e i0 1 T.under hi v _ _ hown.1
  refine ⟨v, w, hrun, ?_, World.grownBy.refl _ _⟩
  rw [List.append_nil]; exact hown
 | some ad =>
  obtain ⟨b, off, sp⟩ := ad
  obtain ⟨k1, k3⟩ := h4 b off sp hao
  have hnews : ∀ j u, (m.map fun x : Nat => Value.int .u32 x)[j]? = some u → w.cell? ((⟨b, off, sp⟩ : Addr).add j) = some u := by
   intro j u hu
   rw [map_gd] at hu
   split at hu
   ·rename_i hj
    have := (k1 (by omega)).2; subst this
    have e2 : (⟨b, off, none⟩ : Addr).add j = ⟨b, off + j, none⟩ := by unfold Addr.add; split <;> simp_all
    rw [e2, k3 j hj]; exact hu
   ·cases hu
  obtain ⟨v', w', r1, r2, r3, _⟩ := run_append_own (P := P) w B t ty e i0 (.int .u32 0) 1 4 T.under hi hz0 hz1 hz2 rfl (by decide) v _ _ hown.1 ⟨b, off, sp⟩ m.length c (m.map fun x : Nat => Value.int .u32 x) (by simp) hnews
   (by intro u hu; obtain ⟨x, _, rfl⟩ := List.mem_map.1 hu; rfl) (by unfold maxLen; omega) (by omega) hB
  refine ⟨v', w', r1, ⟨?_, hU⟩, r3⟩
  rw [List.map_append, List.length_append]; exact r2
theorem qcq (T : qee P t e (.int .u32 0) 1 4)
  (hg : o.guard = none) (s x : Operand) (hop : o.op = Op.call { callee := Callee.builtin Builtin.append, args := #[s, x], argTypes := #[t, t] })
  (B : Nat) (v xv : Value) (l m : List Nat) (hs : a.eval s = v) (hx : a.eval x = xv) (hown : qdu e w B v l) (hm : Num w xv m)
  (hlen : l.length + m.length ≤ 17592186044416) (hB : B ≤ w.heap.size)
  (hK : ∀ v' w', qdu e w' B v' (l ++ m) → (∀ w0, Below B w0 w → Below B w0 w') → w.heap.size ≤ w'.heap.size →
   wpList P ops Q rest (a.put o.dst v') w') :
  wpList P ops Q (o :: rest) a w := by
 refine wpList_plain hg fun K hK' => ?_
 have key := run_appendN T o.type B v xv l m hown hm hlen hB
 obtain ⟨v', w', hrun, r1, r2⟩ := key
 unfold Oper.wp
 simp [execOp, hop, resolve, invoke, builtin, hs, hx, hrun, Result.andThen]
 refine hK' _ _ (hK v' w' r1 (fun w0 h0 => h0.grown r2 hB ?_) r2.size)
 intro k hk
 exact (hown.1.lt k hk).1
end

section
variable {P : Program} (w : World)
@[go_sem 2000] theorem run_max_int2' (ts : Array TypeId) (t : TypeId) (k k' : IntKind) (x y : Int) : (Builtin.max_ ts t #[.int k x, .int k' y]).run P w = .ok (.int k (max x y)) w := by
  rw [run_max_int2]; congr 2; rw [Int.max_def]; split <;> split <;> omega
@[go_sem 2000] theorem run_min_int2' (ts : Array TypeId) (t : TypeId) (k k' : IntKind) (x y : Int) : (Builtin.min_ ts t #[.int k x, .int k' y]).run P w = .ok (.int k (min x y)) w := by
  simp only [Builtin.min_, Builtin.min2, List.foldlM]
  simp only [Sem.run_bind, Sem.run_pure, Result.andThen_ok]
  congr 2; rw [Int.min_def]; split <;> split <;> omega
end
end Go.Proofs.YthhgfhdmfhnklaaGreatDoor
namespace Go.Proofs.YthhgfhdmfhnklaaGreatDoor
structure Nd where
 kind : Int
 K : Int
 args : List Int
structure Fm where
 vars : Int
 nodes : List Nd
 top : Int
def I64 (x : Int) : Prop := -9223372036854775808 ≤ x ∧ x ≤ 9223372036854775807
def qcz (k : Int) (n : Nat) : Bool := if k = 0 then decide (n = 0) else if k = 1 then decide (n = 1) else decide (1 ≤ n ∧ n ≤ 16)
def argBad (vars : Int) (i : Nat) (a : Int) : Bool := decide (a < 0 ∨ vars + i ≤ a)
def qdh (vars : Int) (i : Nat) (x : Nd) : Nat :=
 if x.kind < 0 ∨ 5 < x.kind then 7
 else if qcz x.kind x.args.length = false then 11
 else if x.args.any (argBad vars i) then 10
 else if x.kind = 0 then (if x.K ≠ 0 ∧ x.K ≠ 1 then 3 else 0)
 else if x.kind = 4 then (if x.K < 1 ∨ (x.args.length : Int) < x.K then 3 else 0)
 else if x.K ≠ 0 then 2 else 0
def qdw (vars : Int) : Nat → List Nd → Nat
 | _, [] => 0
 | i, x :: xs => if qdh vars i x = 0 then qdw vars (i + 1) xs else qdh vars i x
theorem ndsErr_cons {vars : Int} {i : Nat} {x : Nd} {xs : List Nd} (h : qdh vars i x = 0) : qdw vars i (x :: xs) = qdw vars (i + 1) xs := by
 simp only [qdw]; rw [if_pos h]
theorem ndsErr_bad {vars : Int} {i : Nat} {x : Nd} {xs : List Nd} (h : qdh vars i x ≠ 0) : qdw vars i (x :: xs) = qdh vars i x := by
 simp only [qdw]; rw [if_neg h]
def argOK (f : Fm) (a : Int) : Bool := decide (0 ≤ f.vars ∧ 0 ≤ a ∧ (a < f.vars ∨ a - f.vars < f.nodes.length))
def qcc (f : Fm) : Nat :=
 if f.vars < 0 ∨ 24 < f.vars then 3 else if 128 < f.nodes.length then 4
 else if qdw f.vars 0 f.nodes ≠ 0 then qdw f.vars 0 f.nodes else if argOK f f.top then 0 else 10
theorem ndErr_lt (vars : Int) (i : Nat) (x : Nd) : qdh vars i x < 12 := by
 unfold qdh
 repeat' split
 all_goals decide
theorem ndsErr_lt (vars : Int) : ∀ (l : List Nd) (i : Nat), qdw vars i l < 12
 | [], _ => by simp [qdw]
 | x :: xs, i => by
  by_cases h : qdh vars i x = 0
  ·rw [ndsErr_cons h]; exact ndsErr_lt vars xs (i + 1)
  ·rw [ndsErr_bad h]; exact ndErr_lt vars i x
theorem fmErr_lt (f : Fm) : qcc f < 12 := by
 unfold qcc
 split
 ·decide
 split
 ·decide
 split
 ·exact ndsErr_lt _ _ _
 split <;> decide

def ev3 (yes no i : Nat) : Nat := if yes.testBit i then 1 else if no.testBit i then 0 else 2
def cntV (vs : List Nat) (args : List Int) (k : Nat) : Nat := (args.filter fun a => decide (gd vs a.toNat = k)).length
def lev (yes no : Bool) : Nat := if yes then 1 else if no then 0 else 2
def ndVal (x : Nd) (c0 c1 c2 : Nat) : Nat :=
 if x.kind = 0 then x.K.toNat
 else if x.kind = 1 then lev (decide (c0 = 1)) (decide (c1 = 1))
 else if x.kind = 2 then lev (decide (c1 = x.args.length)) (decide (0 < c0))
 else if x.kind = 3 then lev (decide (0 < c1)) (decide (c0 = x.args.length))
 else if x.kind = 4 then lev (decide (x.K ≤ c1)) (decide ((c1 : Int) + c2 < x.K))
 else lev (decide (c2 = 0 ∧ c1 % 2 = 1)) (decide (c2 = 0 ∧ c1 % 2 = 0))
def qcn (vars yes no : Nat) : List Nat := (List.range vars).map (ev3 yes no)
def qck (vs : List Nat) : List Nd → List Nat
 | [] => vs
 | x :: xs => qck (vs ++ [ndVal x (cntV vs x.args 0) (cntV vs x.args 1) (cntV vs x.args 2)]) xs
def qdt (f : Fm) (yes no : Nat) : List Nat := qck (qcn f.vars.toNat yes no) f.nodes
def qco (f : Fm) (yes no : Nat) : Nat := gd (qdt f yes no) f.top.toNat
theorem qcs (l : List Nd) : ∀ vs, (qck vs l).length = vs.length + l.length := by
 induction l with
 | nil => intro vs; simp [qck]
 | cons x xs ih => intro vs; simp only [qck, ih, List.length_append, List.length_cons, List.length_nil]; omega
theorem valsN_pre (l : List Nd) : ∀ vs j, j < vs.length → gd (qck vs l) j = gd vs j := by
 induction l with
 | nil => intro vs j _; rfl
 | cons x xs ih =>
  intro vs j hj
  simp only [qck]
  rw [ih _ j (by rw [List.length_append]; omega), gd_append, if_pos hj]

inductive Tr where
 | mk (var : Int) (kids : List Tr) (reason : Int)
def fits3 (a b : Nat) : Prop := a ≠ 2 → b = a
theorem cnt_all (vs : List Nat) (hv : ∀ j, gd vs j ≤ 2) (args : List Int) : cntV vs args 0 + cntV vs args 1 + cntV vs args 2 = args.length := by
 unfold cntV
 induction args with
 | nil => rfl
 | cons a xs ih =>
  have h := hv a.toNat
  rcases (by omega : gd vs a.toNat = 0 ∨ gd vs a.toNat = 1 ∨ gd vs a.toNat = 2) with k | k | k <;>
   ·simp only [List.filter_cons, k, List.length_cons]
    simp
    omega
theorem cnt_le {vs ws : List Nat} (h : ∀ j, fits3 (gd vs j) (gd ws j)) (args : List Int) (k : Nat) (hk : k ≠ 2) : cntV vs args k ≤ cntV ws args k := by
 unfold cntV
 induction args with
 | nil => simp
 | cons a xs ih =>
  have h1 := h a.toNat
  simp only [List.filter_cons]
  by_cases e : gd vs a.toNat = k
  ·have e2 : gd ws a.toNat = k := by rw [h1 (by rw [e]; exact hk), e]
   simp only [e, e2, decide_true, if_true, List.length_cons]; omega
  ·by_cases e2 : gd ws a.toNat = k <;> simp [e, e2] <;> omega
theorem nd_fits {x : Nd} {a0 a1 a2 b0 b1 b2 : Nat} (hn : qcz x.kind x.args.length = true) (h0 : a0 ≤ b0) (h1 : a1 ≤ b1) (ha : a0 + a1 + a2 = x.args.length) (hb : b0 + b1 + b2 = x.args.length) :
  fits3 (ndVal x a0 a1 a2) (ndVal x b0 b1 b2) := by
 intro h
 obtain ⟨n, hx⟩ : ∃ n, n = x.args.length := ⟨_, rfl⟩
 rw [← hx] at hn ha hb
 unfold ndVal lev at h ⊢
 unfold qcz at hn
 rw [← hx] at h ⊢
 by_cases k0 : x.kind = 0
 ·simp only [k0, if_true]
 by_cases k1 : x.kind = 1
 ·simp only [k1] at hn h ⊢
  simp at hn h ⊢
  split at h
  ·rw [if_pos (by omega)]; rw [if_pos (by omega)]
  ·split at h
   ·rw [if_neg (by omega), if_pos (by omega)]; rw [if_neg (by omega), if_pos (by omega)]
   ·exact absurd rfl h
 by_cases k2 : x.kind = 2
 ·simp only [k2] at h ⊢
  simp at h ⊢
  split at h
  ·rw [if_pos (by omega)]; rw [if_pos (by omega)]
  ·split at h
   ·rw [if_neg (by omega), if_pos (by omega)]; rw [if_neg (by omega), if_pos (by omega)]
   ·exact absurd rfl h
 by_cases k3 : x.kind = 3
 ·simp only [k3] at h ⊢
  simp at h ⊢
  split at h
  ·rw [if_pos (by omega)]; rw [if_pos (by omega)]
  ·split at h
   ·rw [if_neg (by omega), if_pos (by omega)]; rw [if_neg (by omega), if_pos (by omega)]
   ·exact absurd rfl h
 by_cases k4 : x.kind = 4
 ·simp only [k4] at h ⊢
  simp at h ⊢
  split at h
  ·rw [if_pos (by omega)]; rw [if_pos (by omega)]
  ·split at h
   ·rw [if_neg (by omega), if_pos (by omega)]; rw [if_neg (by omega), if_pos (by omega)]
   ·exact absurd rfl h
 ·simp only [k0, k1, k2, k3, k4, if_false] at h ⊢
  simp at h ⊢
  split at h
  ·rename_i q; rw [if_pos (by omega)]; rw [if_pos (by omega)]
  ·split at h
   ·rename_i q; rw [if_neg (by omega), if_pos (by omega)]; rw [if_neg (by omega), if_pos (by omega)]
   ·exact absurd rfl h
theorem lev_le (a b : Bool) : lev a b ≤ 2 := by unfold lev; split <;> (try split) <;> decide
def qfo (vars : Int) (i : Nat) (l : List Nd) : Prop := qdw vars i l = 0
theorem ndErr_args {vars : Int} {i : Nat} {x : Nd} (h : qdh vars i x = 0) : qcz x.kind x.args.length = true := by
 unfold qdh at h
 split at h
 ·cases h
 split at h
 ·cases h
 ·rename_i k; simpa using k
theorem ndErr_K {vars : Int} {i : Nat} {x : Nd} (h : qdh vars i x = 0) (h0 : x.kind = 0) : x.K = 0 ∨ x.K = 1 := by
 unfold qdh at h
 split at h
 ·cases h
 split at h
 ·cases h
 split at h
 ·cases h
 first | rw [if_pos h0] at h | skip
 split at h
 ·cases h
 ·omega
theorem ndVal_le {vars : Int} {i : Nat} {x : Nd} (h : qdh vars i x = 0) (a b c : Nat) : ndVal x a b c ≤ 2 := by
 unfold ndVal
 split
 ·rename_i k; rcases ndErr_K h k with e | e <;> rw [e] <;> decide
 repeat' split
 all_goals exact lev_le _ _
theorem ndsOK_cons {vars : Int} {i : Nat} {x : Nd} {xs : List Nd} (h : qfo vars i (x :: xs)) : qdh vars i x = 0 ∧ qfo vars (i + 1) xs := by
 unfold qfo at h ⊢
 by_cases k : qdh vars i x = 0
 ·rw [ndsErr_cons k] at h; exact ⟨k, h⟩
 ·rw [ndsErr_bad k] at h; exact absurd h k
theorem gd_snoc (vs : List Nat) (x j : Nat) : gd (vs ++ [x]) j = if j < vs.length then gd vs j else if j = vs.length then x else 0 := by
 rw [gd_append]
 split
 ·rfl
 split
 ·rename_i e; rw [e, Nat.sub_self]; rfl
 ·rw [gd_over]; simp; omega
theorem valsN_fits {vars : Int} : ∀ (l : List Nd) (i : Nat) (vs ws : List Nat), qfo vars i l → vs.length = ws.length → (∀ j, gd vs j ≤ 2) → (∀ j, gd ws j ≤ 2) → (∀ j, fits3 (gd vs j) (gd ws j)) →
  (∀ j, gd (qck vs l) j ≤ 2) ∧ (∀ j, gd (qck ws l) j ≤ 2) ∧ ∀ j, fits3 (gd (qck vs l) j) (gd (qck ws l) j)
 | [], _, vs, ws, _, _, h1, h2, h3 => ⟨h1, h2, h3⟩
 | x :: xs, i, vs, ws, ok, hl, h1, h2, h3 => by
  obtain ⟨hx, hxs⟩ := ndsOK_cons ok
  simp only [qck]
  refine valsN_fits xs (i + 1) _ _ hxs (by simp [hl]) ?_ ?_ ?_
  ·intro j; rw [gd_snoc]; split
   ·exact h1 j
   split
   ·exact ndVal_le hx _ _ _
   ·decide
  ·intro j; rw [gd_snoc]; split
   ·exact h2 j
   split
   ·exact ndVal_le hx _ _ _
   ·decide
  ·intro j; rw [gd_snoc, gd_snoc, hl]; split
   ·exact h3 j
   split
   ·exact nd_fits (ndErr_args hx) (cnt_le h3 _ 0 (by decide)) (cnt_le h3 _ 1 (by decide)) (cnt_all vs h1 _) (cnt_all ws h2 _)
   ·exact fun _ => rfl
theorem ev3_le (yes no i : Nat) : ev3 yes no i ≤ 2 := by unfold ev3; split <;> (try split) <;> decide
theorem qdl (vars yes no j : Nat) : gd (qcn vars yes no) j = if j < vars then ev3 yes no j else 0 := by
 unfold qcn gd
 rw [List.getD_eq_getElem?_getD, List.getElem?_map]
 split
 ·rename_i h; rw [List.getElem?_range h]; rfl
 ·rename_i h; rw [List.getElem?_eq_none (by simp; omega)]; rfl
theorem qbf (vars yes no : Nat) : (qcn vars yes no).length = vars := by simp [qcn]
theorem fmVal_le {f : Fm} (h : qfo f.vars 0 f.nodes) (yes no : Nat) : qco f yes no ≤ 2 := by
 have e : ∀ j, gd (qcn f.vars.toNat yes no) j ≤ 2 := fun j => by
  rw [qdl]; split
  ·exact ev3_le _ _ _
  ·decide
 exact (valsN_fits f.nodes 0 _ _ h rfl e e (fun _ _ => rfl)).1 _
theorem cnt_none {vs : List Nat} {args : List Int} (h : ∀ a ∈ args, gd vs a.toNat ≠ 2) : cntV vs args 2 = 0 := by
 unfold cntV
 rw [List.length_eq_zero_iff, List.filter_eq_nil_iff]
 intro a ha; simpa using h a ha
theorem nd_known {x : Nd} {c0 c1 : Nat} (hn : qcz x.kind x.args.length = true) (hK : x.kind = 0 → x.K = 0 ∨ x.K = 1) (hc : c0 + c1 = x.args.length) : ndVal x c0 c1 0 ≠ 2 := by
 obtain ⟨n, hx⟩ : ∃ n, n = x.args.length := ⟨_, rfl⟩
 rw [← hx] at hn hc
 unfold ndVal lev
 unfold qcz at hn
 rw [← hx]
 by_cases k0 : x.kind = 0
 ·rw [if_pos k0]; rcases hK k0 with e | e <;> rw [e] <;> decide
 by_cases k1 : x.kind = 1
 ·simp only [k1] at hn ⊢
  simp at hn ⊢
  rcases (by omega : c0 = 1 ∨ c1 = 1) with e | e
  ·rw [if_pos e]; decide
  ·rw [if_neg (by omega), if_pos e]; decide
 by_cases k2 : x.kind = 2
 ·simp only [k2]
  simp
  rcases (by omega : c1 = n ∨ 0 < c0) with e | e
  ·rw [if_pos e]; decide
  ·rw [if_neg (by omega), if_pos e]; decide
 by_cases k3 : x.kind = 3
 ·simp only [k3]
  simp
  rcases (by omega : 0 < c1 ∨ c0 = n) with e | e
  ·rw [if_pos e]; decide
  ·rw [if_neg (by omega), if_pos e]; decide
 by_cases k4 : x.kind = 4
 ·simp only [k4]
  simp
  rcases (by omega : x.K ≤ c1 ∨ (c1 : Int) < x.K) with e | e
  ·rw [if_pos e]; decide
  ·rw [if_neg (by omega), if_pos e]; decide
 ·simp only [k0, k1, k2, k3, k4, if_false]
  simp
  rcases (by omega : c1 % 2 = 1 ∨ c1 % 2 = 0) with e | e
  ·rw [if_pos e]; decide
  ·rw [if_neg (by omega), if_pos e]; decide
theorem nd_known' {vars : Int} {i : Nat} {x : Nd} {vs : List Nat} (h : qdh vars i x = 0) (hv : ∀ j, gd vs j ≤ 2) (hk : ∀ a ∈ x.args, gd vs a.toNat ≠ 2) :
  ndVal x (cntV vs x.args 0) (cntV vs x.args 1) (cntV vs x.args 2) ≠ 2 := by
 have h2 := cnt_none hk
 have ha := cnt_all vs hv x.args
 rw [h2] at ha ⊢
 exact nd_known (ndErr_args h) (ndErr_K h) (by omega)
def firstUnk (vs : List Nat) (args : List Int) : Nat := match args.find? (fun a => decide (gd vs a.toNat = 2)) with
 | some a => a.toNat
 | none => 0
def ndOf (l : List Nd) (i : Nat) : Nd := l.getD i ⟨0, 0, []⟩
def qfg (vars : Nat) (nodes : List Nd) (vs : List Nat) : Nat → Nat → Nat
 | 0, a => a
 | n + 1, a => if a < vars then a else qfg vars nodes vs n (firstUnk vs (ndOf nodes (a - vars)).args)
def qcp (f : Fm) (yes no : Nat) : Nat := qfg f.vars.toNat f.nodes (qdt f yes no) (f.nodes.length + 1) f.top.toNat
theorem firstUnk_ok {vs : List Nat} {args : List Int} (h : ∃ a ∈ args, gd vs a.toNat = 2) : ∃ a ∈ args, firstUnk vs args = a.toNat ∧ gd vs a.toNat = 2 := by
 unfold firstUnk
 cases hf : args.find? (fun a => decide (gd vs a.toNat = 2)) with
 | none =>
  obtain ⟨a, ha, h2⟩ := h
  have := List.find?_eq_none.1 hf a ha
  simp [h2] at this
 | some a => exact ⟨a, List.mem_of_find?_eq_some hf, rfl, by simpa using List.find?_some hf⟩
theorem ndErr_arg {vars : Int} {i : Nat} {x : Nd} (h : qdh vars i x = 0) : ∀ a ∈ x.args, 0 ≤ a ∧ a < vars + i := by
 unfold qdh at h
 split at h
 ·cases h
 split at h
 ·cases h
 split at h
 ·cases h
 rename_i _ _ k
 intro a ha
 have : argBad vars i a = false := by
  cases e : argBad vars i a with
  | false => rfl
  | true => exact absurd (List.any_eq_true.2 ⟨a, ha, e⟩) k
 unfold argBad at this
 simp at this
 omega
theorem cnt_congr {vs ws : List Nat} {args : List Int} (h : ∀ a ∈ args, gd vs a.toNat = gd ws a.toNat) (k : Nat) : cntV vs args k = cntV ws args k := by
 unfold cntV
 congr 1
 apply List.filter_congr
 intro a ha; rw [h a ha]
theorem valsN_at {vars : Int} (hv : 0 ≤ vars) : ∀ (l : List Nd) (i : Nat) (vs : List Nat), qfo vars i l → vs.length = vars.toNat + i → ∀ j (x : Nd), l[j]? = some x →
  gd (qck vs l) (vs.length + j) = ndVal x (cntV (qck vs l) x.args 0) (cntV (qck vs l) x.args 1) (cntV (qck vs l) x.args 2) ∧ qdh vars (i + j) x = 0
 | [], _, _, _, _, j, x, h => by simp at h
 | y :: ys, i, vs, ok, hl, j, x, h => by
  obtain ⟨hx, hxs⟩ := ndsOK_cons ok
  cases j with
  | zero =>
   have e : y = x := by simpa using h
   subst e
   simp only [qck, Nat.add_zero]
   refine ⟨?_, hx⟩
   rw [valsN_pre _ _ _ (by simp), gd_snoc, if_neg (by omega), if_pos rfl]
   have hc : ∀ k, cntV vs y.args k = cntV (qck (vs ++ [ndVal y (cntV vs y.args 0) (cntV vs y.args 1) (cntV vs y.args 2)]) ys) y.args k := fun k => by
    apply cnt_congr
    intro a ha
    have := ndErr_arg hx a ha
    rw [valsN_pre _ _ _ (by simp; omega), gd_snoc, if_pos (by omega)]
   rw [← hc, ← hc, ← hc]
  | succ j =>
   simp only [List.getElem?_cons_succ] at h
   have ih := valsN_at hv ys (i + 1) (vs ++ [ndVal y (cntV vs y.args 0) (cntV vs y.args 1) (cntV vs y.args 2)]) hxs (by simp; omega) j x h
   simp only [qck]
   rw [show vs.length + (j + 1) = (vs ++ [ndVal y (cntV vs y.args 0) (cntV vs y.args 1) (cntV vs y.args 2)]).length + j from by simp; omega, show i + (j + 1) = i + 1 + j from by omega]
   exact ih
theorem nextAt_ok {f : Fm} (hv : 0 ≤ f.vars) (h : qfo f.vars 0 f.nodes) (yes no : Nat) : ∀ (n a : Nat), a < f.vars.toNat + n → a < f.vars.toNat + f.nodes.length → gd (qdt f yes no) a = 2 →
  qfg f.vars.toNat f.nodes (qdt f yes no) (n + 1) a < f.vars.toNat ∧ ev3 yes no (qfg f.vars.toNat f.nodes (qdt f yes no) (n + 1) a) = 2
 | n, a, hn, ha, h2 => by
  unfold qfg
  by_cases hlt : a < f.vars.toNat
  ·rw [if_pos hlt]
   refine ⟨hlt, ?_⟩
   unfold qdt at h2
   rw [valsN_pre _ _ _ (by rw [qbf]; exact hlt), qdl, if_pos hlt] at h2
   exact h2
  ·rw [if_neg hlt]
   obtain ⟨m, rfl⟩ : ∃ m, n = m + 1 := ⟨n - 1, by omega⟩
   obtain ⟨x, hx⟩ : ∃ x, f.nodes[a - f.vars.toNat]? = some x := ⟨f.nodes[a - f.vars.toNat]'(by omega), List.getElem?_eq_getElem (by omega)⟩
   have hnd : ndOf f.nodes (a - f.vars.toNat) = x := by unfold ndOf; rw [List.getD_eq_getElem?_getD, hx]; rfl
   rw [hnd]
   obtain ⟨k1, k2⟩ := valsN_at hv f.nodes 0 (qcn f.vars.toNat yes no) h (by rw [qbf]; rfl) _ x hx
   rw [qbf, show f.vars.toNat + (a - f.vars.toNat) = a from by omega] at k1
   have hle : ∀ j, gd (qdt f yes no) j ≤ 2 := by
    have e : ∀ j, gd (qcn f.vars.toNat yes no) j ≤ 2 := fun j => by
     rw [qdl]; split
     ·exact ev3_le _ _ _
     ·decide
    exact (valsN_fits f.nodes 0 _ _ h rfl e e (fun _ _ => rfl)).1
   have hex : ∃ b ∈ x.args, gd (qdt f yes no) b.toNat = 2 := by
    by_cases q : ∃ b ∈ x.args, gd (qdt f yes no) b.toNat = 2
    ·exact q
    ·exfalso
     have := nd_known' k2 hle (fun b hb e => q ⟨b, hb, e⟩)
     unfold qdt at this h2
     rw [← k1] at this
     exact this h2
   obtain ⟨b, hb, hb1, hb2⟩ := firstUnk_ok hex
   rw [hb1]
   have hr := ndErr_arg k2 b hb
   exact nextAt_ok hv h yes no m b.toNat (by omega) (by omega) hb2
 termination_by n => n
theorem fmNext_ok {f : Fm} (h : qcc f = 0) {yes no : Nat} (h2 : qco f yes no = 2) : qcp f yes no < f.vars.toNat ∧ ev3 yes no (qcp f yes no) = 2 := by
 unfold qcc at h
 split at h
 ·cases h
 split at h
 ·cases h
 split at h
 ·rename_i k; exact absurd h k
 rename_i k1 _ k3
 split at h
 ·rename_i k4
  unfold argOK at k4
  simp at k4
  have hds : qfo f.vars 0 f.nodes := by unfold qfo; omega
  exact nextAt_ok (by omega) hds yes no f.nodes.length f.top.toNat (by omega) (by omega) h2
 ·cases h
mutual
/-- the nodes counted so far and the number of the error -/
def qbh (vars : Int) : Tr → Nat → Nat → Nat × Nat
 | .mk v ks r, above, n =>
  if 4096 < n + 1 then (n + 1, 4)
  else if ks.length ≠ 0 ∧ ks.length ≠ 2 then (n + 1, 11)
  else if ks.length = 0 then (n + 1, if v ≠ 0 then 2 else 0)
  else if v < 0 ∨ vars ≤ v then (n + 1, 3)
  else if above.testBit v.toNat then (n + 1, 6)
  else if r ≠ 0 then (n + 1, 2)
  else qdv vars ks (above ||| 1 <<< v.toNat) (n + 1)
def qdv (vars : Int) : List Tr → Nat → Nat → Nat × Nat
 | [], _, n => (n, 0)
 | t :: ts, above, n => if (qbh vars t above n).2 ≠ 0 then qbh vars t above n else qdv vars ts above (qbh vars t above n).1
end
structure Lf where
 yes : Nat
 no : Nat
 reason : Int
def qah : Tr → Nat → Nat → List Lf
 | .mk v [a, b] _, y, n => qah a y (n ||| 1 <<< v.toNat) ++ qah b (y ||| 1 <<< v.toNat) n
 | .mk _ _ r, y, n => [⟨y, n, r⟩]

def wtAt (p : Rat) (y n : Bool) : Rat := if y then p else if n then 1 - p else 1
def wtL : List Rat → Nat → Nat → Nat → Rat
 | [], _, _, _ => 1
 | p :: ps, i, y, n => wtAt p (y.testBit i) (n.testBit i) * wtL ps (i + 1) y n
def wt (ps : List Rat) (y n : Nat) : Rat := wtL ps 0 y n
theorem qcm (x v j : Nat) : (x ||| 1 <<< v).testBit j = (x.testBit j || decide (j = v)) := by
 rw [Nat.testBit_or, Nat.one_shiftLeft, Nat.testBit_two_pow]
 congr 1
 by_cases h : v = j
 ·simp [h]
 ·simp [h, Ne.symm h]
def sumS (g : Nat → Rat) : Nat → Rat
 | 0 => 0
 | k + 1 => sumS g k + g k
theorem sumS_add (g h k : Nat → Rat) (e : ∀ s, g s = h s + k s) : ∀ n, sumS g n = sumS h n + sumS k n
 | 0 => by simp only [sumS]; grind
 | n + 1 => by simp only [sumS]; rw [sumS_add g h k e n, e n]; grind
def conS (vars y n s : Nat) : Bool := (List.range vars).all fun i => (!y.testBit i || s.testBit i) && (!n.testBit i || !s.testBit i)
def stL : List Rat → Nat → Nat → Rat
 | [], _, _ => 1
 | p :: ps, i, s => (if s.testBit i then p else 1 - p) * stL ps (i + 1) s
def stS (vars : Nat) (ps : List Rat) (t : Nat → Bool) (y n : Nat) : Rat := sumS (fun s => if conS vars y n s && t s then stL ps 0 s else 0) (2 ^ vars)
def okC (vars y n : Nat) : Prop := ∀ i, (y.testBit i = true → n.testBit i = false ∧ i < vars) ∧ (n.testBit i = true → i < vars)
theorem okC_no {vars y n v : Nat} (h : okC vars y n) (hv : v < vars) (hy : y.testBit v = false) : okC vars y (n ||| 1 <<< v) := by
 intro i
 rw [qcm]
 refine ⟨fun e => ?_, fun e => ?_⟩
 ·obtain ⟨h1, h2⟩ := (h i).1 e
  refine ⟨?_, h2⟩
  have : i ≠ v := fun q => by rw [q, hy] at e; cases e
  simp [h1, this]
 ·by_cases q : i = v
  ·omega
  ·exact (h i).2 (by simpa [q] using e)
theorem okC_yes {vars y n v : Nat} (h : okC vars y n) (hv : v < vars) (hn : n.testBit v = false) : okC vars (y ||| 1 <<< v) n := by
 intro i
 rw [qcm]
 refine ⟨fun e => ?_, (h i).2⟩
 by_cases q : i = v
 ·subst q; exact ⟨hn, hv⟩
 ·exact (h i).1 (by simpa [q] using e)
def qdb (y n : Nat) : Nat → Nat
 | 0 => 0
 | k + 1 => qdb y n k + (if y.testBit k || n.testBit k then 0 else 1)
theorem opens_no {y n v : Nat} (hy : y.testBit v = false) (hn : n.testBit v = false) : ∀ k, qdb y (n ||| 1 <<< v) k + (if v < k then 1 else 0) = qdb y n k
 | 0 => by simp [qdb]
 | k + 1 => by
  simp only [qdb]
  have ih := opens_no hy hn k
  by_cases e : k = v
  ·subst e
   have e1 : (n ||| 1 <<< k).testBit k = true := by rw [qcm]; simp
   simp only [Nat.lt_irrefl, if_false] at ih
   simp [e1, hy, hn]; omega
  ·have e1 : (n ||| 1 <<< v).testBit k = n.testBit k := by rw [qcm]; simp [e]
   rw [e1]
   have e2 : (if v < k + 1 then 1 else 0 : Nat) = (if v < k then 1 else 0) := by split <;> split <;> omega
   rw [e2]; omega
theorem opens_yes {y n v : Nat} (hy : y.testBit v = false) (hn : n.testBit v = false) : ∀ k, qdb (y ||| 1 <<< v) n k + (if v < k then 1 else 0) = qdb y n k
 | 0 => by simp [qdb]
 | k + 1 => by
  simp only [qdb]
  have ih := opens_yes hy hn k
  by_cases e : k = v
  ·subst e
   have e1 : (y ||| 1 <<< k).testBit k = true := by rw [qcm]; simp
   simp only [Nat.lt_irrefl, if_false] at ih
   simp [e1, hy, hn]; omega
  ·have e1 : (y ||| 1 <<< v).testBit k = y.testBit k := by rw [qcm]; simp [e]
   rw [e1]
   have e2 : (if v < k + 1 then 1 else 0 : Nat) = (if v < k then 1 else 0) := by split <;> split <;> omega
   rw [e2]; omega
theorem trErr_inv {vars v r : Int} {ks : List Tr} {above n m : Nat} (h : qbh vars (.mk v ks r) above n = (m, 0)) :
  (ks = [] ∧ v = 0 ∧ m = n + 1) ∨ (∃ a b m1, ks = [a, b] ∧ 0 ≤ v ∧ v < vars ∧ above.testBit v.toNat = false ∧ r = 0 ∧ qbh vars a (above ||| 1 <<< v.toNat) (n + 1) = (m1, 0) ∧ qbh vars b (above ||| 1 <<< v.toNat) m1 = (m, 0)) := by
 simp only [qbh] at h
 split at h
 ·cases h
 split at h
 ·cases h
 rename_i _ k2
 split at h
 ·rename_i k3
  refine .inl ⟨List.length_eq_zero_iff.1 k3, ?_, ?_⟩
  ·have := (Prod.mk.inj h).2
   split at this
   ·cases this
   ·rename_i q; simpa using q
  ·exact ((Prod.mk.inj h).1).symm
 rename_i k3
 split at h
 ·cases h
 rename_i k4
 split at h
 ·cases h
 rename_i k5
 split at h
 ·cases h
 rename_i k6
 have hl : ks.length = 2 := by omega
 match ks, hl with
 | [a, b], _ =>
  refine .inr ⟨a, b, (qbh vars a (above ||| 1 <<< v.toNat) (n + 1)).1, rfl, by omega, by omega, by simpa using k5, by simpa using k6, ?_, ?_⟩
  ·simp only [qdv] at h
   split at h
   ·rename_i q; rw [h] at q; exact absurd rfl q
   ·rename_i q; exact Prod.ext rfl (by simpa using q)
  ·simp only [qdv] at h
   split at h
   ·rename_i q; rw [h] at q; exact absurd rfl q
   ·split at h
    ·exact h
    ·rename_i q; rw [← h]; exact Prod.ext rfl (by simpa using q)
def holdL (f : Fm) (l : List Lf) : Prop := ∀ x ∈ l, x.reason = 2 ∨ x.reason = (qco f x.yes x.no : Int)
def leafT (v : Nat) : Tr := .mk 0 [] v
def grT (f : Fm) : Nat → Nat → Nat → Tr
 | 0, y, n => leafT (qco f y n)
 | d + 1, y, n => if qco f y n ≠ 2 then leafT (qco f y n)
   else .mk (qcp f y n : Nat) [grT f d y (n ||| 1 <<< qcp f y n), grT f d (y ||| 1 <<< qcp f y n) n] 0
def grN (f : Fm) : Nat → Nat → Nat → Nat
 | 0, _, _ => 1
 | d + 1, y, n => if qco f y n ≠ 2 then 1 else 1 + grN f d y (n ||| 1 <<< qcp f y n) + grN f d (y ||| 1 <<< qcp f y n) n
theorem grN_pos (f : Fm) : ∀ d y n, 1 ≤ grN f d y n
 | 0, _, _ => Nat.le_refl _
 | d + 1, y, n => by simp only [grN]; split <;> omega
theorem ev3_open {y n i : Nat} (h : ev3 y n i = 2) : y.testBit i = false ∧ n.testBit i = false := by
 unfold ev3 at h
 split at h
 ·cases h
 split at h
 ·cases h
 ·rename_i a b; exact ⟨by simpa using a, by simpa using b⟩
theorem qbe {f : Fm} (h : qcc f = 0) : 0 ≤ f.vars ∧ f.vars ≤ 24 ∧ f.nodes.length ≤ 128 ∧ qfo f.vars 0 f.nodes := by
 unfold qcc at h
 split at h
 ·cases h
 split at h
 ·cases h
 split at h
 ·rename_i k; exact absurd h k
 rename_i _ _ k3
 exact ⟨by omega, by omega, by omega, by unfold qfo; omega⟩
theorem opens_le (y n : Nat) : ∀ k, qdb y n k ≤ k
 | 0 => Nat.le_refl _
 | k + 1 => by simp only [qdb]; have := opens_le y n k; split <;> omega
def qei : Tr → Nat
 | .mk _ [a, b] _ => 1 + qei a + qei b
 | .mk _ _ _ => 1
def qej (vars : Int) : Tr → Nat → Prop
 | .mk v [] _, _ => v = 0
 | .mk v [a, b] r, above => 0 ≤ v ∧ v < vars ∧ above.testBit v.toNat = false ∧ r = 0 ∧ qej vars a (above ||| 1 <<< v.toNat) ∧ qej vars b (above ||| 1 <<< v.toNat)
 | .mk _ _ _, _ => False
theorem qfh {vars : Int} : ∀ (t : Tr) (above m m' : Nat), qbh vars t above m = (m', 0) → qej vars t above ∧ m' = m + qei t ∧ m' ≤ 4096
 | .mk v ks r, above, m, m', h => by
  rcases trErr_inv h with ⟨rfl, h1, h2⟩ | ⟨a, b, m1, rfl, h1, h2, h3, h4, h5, h6⟩
  ·refine ⟨by simp only [qej]; exact h1, by simp only [qei]; exact h2, ?_⟩
   simp only [qbh] at h
   split at h
   ·cases h
   ·omega
  ·obtain ⟨a1, a2, a3⟩ := qfh a _ _ _ h5
   obtain ⟨b1, b2, b3⟩ := qfh b _ _ _ h6
   refine ⟨by simp only [qej]; exact ⟨h1, h2, h3, h4, a1, b1⟩, by simp only [qei]; omega, b3⟩
 termination_by t => SizeOf.sizeOf t
theorem grN_small {f : Fm} (h : qcc f = 0) : ∀ d y n, grN f d y n + 1 ≤ 2 ^ (qdb y n f.vars.toNat + 1)
 | 0, y, n => by
  have hp : 1 ≤ 2 ^ qdb y n f.vars.toNat := Nat.one_le_two_pow
  have hs : 2 ^ (qdb y n f.vars.toNat + 1) = 2 ^ qdb y n f.vars.toNat * 2 := Nat.pow_succ ..
  simp only [grN]; omega
 | d + 1, y, n => by
  have hp : 1 ≤ 2 ^ qdb y n f.vars.toNat := Nat.one_le_two_pow
  have hs : 2 ^ (qdb y n f.vars.toNat + 1) = 2 ^ qdb y n f.vars.toNat * 2 := Nat.pow_succ ..
  simp only [grN]
  by_cases q : qco f y n = 2
  ·rw [if_neg (fun k => k q)]
   obtain ⟨h1, h2⟩ := fmNext_ok h q
   obtain ⟨hy, hn⟩ := ev3_open h2
   have o1 := opens_no hy hn f.vars.toNat
   have o2 := opens_yes hy hn f.vars.toNat
   rw [if_pos h1] at o1 o2
   have a1 := grN_small h d y (n ||| 1 <<< qcp f y n)
   have b1 := grN_small h d (y ||| 1 <<< qcp f y n) n
   obtain ⟨k, hk⟩ : ∃ k, qdb y n f.vars.toNat = k + 1 := ⟨qdb y n f.vars.toNat - 1, by omega⟩
   rw [show qdb y (n ||| 1 <<< qcp f y n) f.vars.toNat = k from by omega] at a1
   rw [show qdb (y ||| 1 <<< qcp f y n) n f.vars.toNat = k from by omega] at b1
   rw [hk]
   have s1 : 2 ^ (k + 1) = 2 ^ k * 2 := Nat.pow_succ ..
   have s2 : 2 ^ (k + 1 + 1) = 2 ^ (k + 1) * 2 := Nat.pow_succ ..
   omega
  ·rw [if_pos q]; omega
def badL (f : Fm) (x : Lf) : Bool := decide (x.reason ≠ 2 ∧ x.reason ≠ (qco f x.yes x.no : Int))
def qbj (f : Fm) : List Lf → Nat → Int
 | [], _ => -1
 | x :: xs, i => if badL f x then (i : Int) else qbj f xs (i + 1)
theorem firstBad_ge (f : Fm) : ∀ (l : List Lf) (i : Nat), qbj f l i = -1 ∨ (i : Int) ≤ qbj f l i
 | [], _ => .inl rfl
 | x :: xs, i => by
  simp only [qbj]
  split
  ·exact .inr (Int.le_refl _)
  ·rcases firstBad_ge f xs (i + 1) with h | h
   ·exact .inl h
   ·exact .inr (by omega)
theorem qez {f : Fm} : ∀ (l : List Lf) (i : Nat), qbj f l i = -1 ↔ holdL f l
 | [], _ => by simp [qbj, holdL]
 | x :: xs, i => by
  simp only [qbj]
  have ih := qez (f := f) xs (i + 1)
  by_cases hb : badL f x = true
  ·rw [if_pos hb]
   constructor
   ·intro h; omega
   ·intro h
    have hx := h x (List.mem_cons_self ..)
    unfold badL at hb
    simp only [decide_eq_true_eq] at hb
    rcases hx with q | q
    ·exact absurd q hb.1
    ·exact absurd q hb.2
  ·rw [if_neg hb, ih]
   have hx : x.reason = 2 ∨ x.reason = (qco f x.yes x.no : Int) := by
    unfold badL at hb
    simp only [decide_eq_true_eq] at hb
    by_cases q : x.reason = 2
    ·exact .inl q
    ·by_cases q2 : x.reason = (qco f x.yes x.no : Int)
     ·exact .inr q2
     ·exact absurd ⟨q, q2⟩ hb
   constructor
   ·intro h z hz
    rcases List.mem_cons.1 hz with e | e
    ·rw [e]; exact hx
    ·exact h z e
   ·intro h z hz; exact h z (List.mem_cons_of_mem _ hz)
theorem bad_prog {f : Fm} (h : qfo f.vars 0 f.nodes) (x : Lf) : badL f x = decide (x.reason ≠ 2 ∧ ((qco f x.yes x.no : Int) ≠ x.reason ∨ x.reason < 0)) := by
 have hv := fmVal_le h x.yes x.no
 unfold badL
 apply decide_eq_decide.2
 omega
def sumF (ps : List Rat) (r : Int) : List Lf → Rat → Rat
 | [], a => a
 | x :: xs, a => sumF ps r xs (if x.reason = r then a + wt ps x.yes x.no else a)
mutual
/-- how many nodes are left behind a tree, -1 if it has more, or is too deep -/
def leftT : Tr → Int → Nat → Int
 | .mk _ ks _, most, d => if 100 < d ∨ 10 < ks.length then -1 else leftKs ks (most - 1) (d + 1)
def leftKs : List Tr → Int → Nat → Int
 | [], m, _ => m
 | t :: ts, m, d => if m < 0 then -1 else leftKs ts (leftT t m d) d
end
mutual
theorem leftT_range : ∀ (t : Tr) (most : Int) (d : Nat), 0 ≤ most → -1 ≤ leftT t most d ∧ leftT t most d ≤ most - 1
 | .mk v ks r, most, d, h => by
  unfold leftT
  split
  ·omega
  ·have := leftKs_range ks (most - 1) (d + 1) (by omega)
   omega
theorem leftKs_range : ∀ (ks : List Tr) (m : Int) (d : Nat), -1 ≤ m → -1 ≤ leftKs ks m d ∧ leftKs ks m d ≤ m
 | [], m, d, h => by unfold leftKs; omega
 | t :: ts, m, d, h => by
  unfold leftKs
  split
  ·omega
  ·have h1 := leftT_range t m d (by omega)
   have h2 := leftKs_range ts (leftT t m d) d (by omega)
   omega
end
def trDep : Tr → Nat
 | .mk _ [a, b] _ => (if trDep a < trDep b then trDep b else trDep a) + 1
 | .mk _ _ _ => 0
def qdo : Tr → Nat
 | .mk _ [a, b] _ => qdo a + qdo b
 | .mk _ _ _ => 1
theorem qdn : ∀ (t : Tr) (y n : Nat), (qah t y n).length = qdo t
 | .mk v [] r, y, n => by simp [qah, qdo]
 | .mk v [a, b] r, y, n => by simp only [qah, qdo, List.length_append]; rw [qdn a, qdn b]
 | .mk _ [_] _, _, _ => by simp [qah, qdo]
 | .mk _ (_ :: _ :: _ :: _) _, _, _ => by simp [qah, qdo]
theorem qdf : ∀ (t : Tr), trDep t ≤ qei t ∧ qdo t ≤ qei t
 | .mk v [] r => by simp [trDep, qei, qdo]
 | .mk v [a, b] r => by
  have h1 := qdf a; have h2 := qdf b
  simp only [trDep, qei, qdo]; split <;> omega
 | .mk _ [_] _ => by simp [trDep, qei, qdo]
 | .mk _ (_ :: _ :: _ :: _) _ => by simp [trDep, qei, qdo]
theorem valsN_snoc : ∀ (l : List Nd) (vs : List Nat) (x : Nd), qck vs (l ++ [x]) = qck vs l ++ [ndVal x (cntV (qck vs l) x.args 0) (cntV (qck vs l) x.args 1) (cntV (qck vs l) x.args 2)]
 | [], vs, x => by simp [qck]
 | y :: ys, vs, x => by simp only [List.cons_append, qck]; exact valsN_snoc ys _ x
theorem qen {α : Type} {l : List α} {j : Nat} {x : α} (h : l[j]? = some x) : l.take (j + 1) = l.take j ++ [x] := by
 rw [List.take_add_one, h]; rfl
theorem cntV_snoc (vs : List Nat) (args : List Int) (a : Int) (k : Nat) : cntV vs (args ++ [a]) k = cntV vs args k + if gd vs a.toNat = k then 1 else 0 := by
 unfold cntV
 rw [List.filter_append, List.length_append]
 by_cases h : gd vs a.toNat = k
 ·simp [h]
 ·simp [h]
theorem valsE_take (vars yes no j : Nat) (h : j < vars) : (qcn vars yes no).take (j + 1) = (qcn vars yes no).take j ++ [ev3 yes no j] := by
 apply qen
 unfold qcn
 rw [List.getElem?_map, List.getElem?_range h]; rfl
theorem valsN_take {l : List Nd} {i : Nat} {x : Nd} (h : l[i]? = some x) (vs : List Nat) :
  qck vs (l.take (i + 1)) = qck vs (l.take i) ++ [ndVal x (cntV (qck vs (l.take i)) x.args 0) (cntV (qck vs (l.take i)) x.args 1) (cntV (qck vs (l.take i)) x.args 2)] := by
 rw [qen h, valsN_snoc]
theorem ndsErr_at {vars : Int} : ∀ (l : List Nd) (i : Nat), qfo vars i l → ∀ (j : Nat) x, l[j]? = some x → qdh vars (i + j) x = 0
 | [], i, _, j, x, h => by simp at h
 | y :: ys, i, ho, j, x, h => by
  obtain ⟨h1, h2⟩ := ndsOK_cons ho
  cases j with
  | zero => simp at h; subst h; exact h1
  | succ j =>
   simp only [List.getElem?_cons_succ] at h
   have := ndsErr_at ys (i + 1) h2 j x h
   rw [show i + (j + 1) = i + 1 + j by omega]; exact this
theorem valsN_le {vars : Int} : ∀ (l : List Nd) (i : Nat) (vs : List Nat), qfo vars i l → (∀ j, gd vs j ≤ 2) → ∀ j, gd (qck vs l) j ≤ 2
 | [], _, vs, _, h, j => h j
 | x :: xs, i, vs, ho, h, j => by
  obtain ⟨h1, h2⟩ := ndsOK_cons ho
  simp only [qck]
  refine valsN_le xs (i + 1) _ h2 (fun k => ?_) j
  rw [gd_snoc]
  split
  ·exact h k
  split
  ·exact ndVal_le h1 _ _ _
  ·omega
theorem ndsOK_take {vars : Int} : ∀ (l : List Nd) (i k : Nat), qfo vars i l → qfo vars i (l.take k)
 | [], _, _, _ => by simp [qfo, qdw]
 | x :: xs, i, 0, _ => by simp [qfo, qdw]
 | x :: xs, i, k + 1, h => by
  obtain ⟨h1, h2⟩ := ndsOK_cons h
  have := ndsOK_take xs (i + 1) k h2
  unfold qfo at this ⊢
  rw [List.take_succ_cons, ndsErr_cons h1]; exact this
theorem leaves_okC {vars : Int} : ∀ (t : Tr) (y n above : Nat), qej vars t above → (∀ i, above.testBit i = (y.testBit i || n.testBit i)) → okC vars.toNat y n → ∀ x ∈ qah t y n, okC vars.toNat x.yes x.no
 | .mk v [] r, y, n, above, _, _, hc, x, hx => by
  simp only [qah, List.mem_singleton] at hx
  subst hx; exact hc
 | .mk v [a, b] r, y, n, above, ho, hb, hc, x, hx => by
  simp only [qej] at ho
  obtain ⟨h0, h1, h2, _, ha, hbb⟩ := ho
  have hv : v.toNat < vars.toNat := by omega
  have hyn := hb v.toNat
  rw [h2] at hyn
  have hy : y.testBit v.toNat = false := by cases h : y.testBit v.toNat with
   | false => rfl
   | true => rw [h] at hyn; simp at hyn
  have hn : n.testBit v.toNat = false := by cases h : n.testBit v.toNat with
   | false => rfl
   | true => rw [h] at hyn; simp at hyn
  simp only [qah, List.mem_append] at hx
  rcases hx with hx | hx
  ·refine leaves_okC a y (n ||| 1 <<< v.toNat) _ ha (fun i => ?_) (okC_no hc hv hy) x hx
   rw [qcm, qcm, hb i, Bool.or_assoc]
  ·refine leaves_okC b (y ||| 1 <<< v.toNat) n _ hbb (fun i => ?_) (okC_yes hc hv hn) x hx
   rw [qcm, qcm, hb i]
   cases y.testBit i <;> cases n.testBit i <;> simp
 | .mk _ [_] _, _, _, _, ho, _, _, _, _ => by simp only [qej] at ho
 | .mk _ (_ :: _ :: _ :: _) _, _, _, _, ho, _, _, _, _ => by simp only [qej] at ho
theorem okC_zero (vars : Nat) : okC vars 0 0 := fun i => ⟨fun h => by simp at h, fun h => by simp at h⟩
theorem okC_lt {V y n : Nat} (h : okC V y n) : y < 2 ^ V ∧ n < 2 ^ V ∧ y &&& n = 0 := by
 refine ⟨?_, ?_, ?_⟩
 ·exact Nat.lt_pow_two_of_testBit y (fun i hi => by cases hb : y.testBit i with
   | false => rfl
   | true => have := ((h i).1 hb).2; omega)
 ·exact Nat.lt_pow_two_of_testBit n (fun i hi => by cases hb : n.testBit i with
   | false => rfl
   | true => have := (h i).2 hb; omega)
 ·apply Nat.eq_of_testBit_eq
  intro i
  rw [Nat.testBit_and, Nat.zero_testBit]
  cases hb : y.testBit i with
  | false => rfl
  | true => rw [((h i).1 hb).1]; rfl
def cErr (f : Fm) (t : Tr) : Nat := if qcc f ≠ 0 then qcc f else (qbh f.vars t 0 0).2
theorem qds {f : Fm} {t : Tr} (h : cErr f t = 0) : qcc f = 0 ∧ (qbh f.vars t 0 0).2 = 0 ∧ qej f.vars t 0 ∧ qei t ≤ 4096 := by
 unfold cErr at h
 split at h
 ·rename_i h1; exact absurd h h1
 ·rename_i h1
  have h2 : qcc f = 0 := by omega
  obtain ⟨k1, k2, k3⟩ := qfh t 0 0 _ (Prod.ext rfl h : qbh f.vars t 0 0 = ((qbh f.vars t 0 0).1, 0))
  exact ⟨h2, h, k1, by omega⟩
theorem qdy {f : Fm} {t : Tr} (h : cErr f t = 0) : ∀ x ∈ qah t 0 0, okC f.vars.toNat x.yes x.no :=
 leaves_okC t 0 0 0 (qds h).2.2.1 (fun i => by simp) (okC_zero _)
end Go.Proofs.YthhgfhdmfhnklaaGreatDoor
namespace Go.Proofs.YthhgfhdmfhnklaaGreatDoor
open Go.RowKit
def val : List Nat → Nat
 | [] => 0
 | x :: l => x + 4294967296 * val l
def wd (n : Nat) : List Nat := if h : n = 0 then [] else n % 4294967296 :: wd (n / 4294967296)
termination_by n
decreasing_by exact Nat.div_lt_self (by omega) (by decide)
theorem qca : wd 0 = [] := by unfold wd; simp
theorem wd_pos {n : Nat} (h : n ≠ 0) : wd n = n % 4294967296 :: wd (n / 4294967296) := by rw [wd]; rw [dif_neg h]
theorem qaz (n : Nat) : val (wd n) = n := by
 induction n using Nat.strongRecOn with
 | _ n ih =>
  by_cases h : n = 0
  ·subst h; rw [qca]; rfl
  ·rw [wd_pos h]
   simp only [val]
   rw [ih _ (Nat.div_lt_self (by omega) (by decide))]
   exact Nat.mod_add_div n 4294967296
theorem U32.nil : U32 [] := fun j => by simp [gd]
theorem U32.cons {x : Nat} {l : List Nat} (h1 : x < 4294967296) (h2 : U32 l) : U32 (x :: l) := by
 intro j
 cases j with
 | zero => exact h1
 | succ j => exact h2 j
theorem U32.head {x : Nat} {l : List Nat} (h : U32 (x :: l)) : x < 4294967296 := h 0
theorem U32.tail {x : Nat} {l : List Nat} (h : U32 (x :: l)) : U32 l := fun j => h (j + 1)
theorem U32.take {a : List Nat} (h : U32 a) (n : Nat) : U32 (a.take n) := by
 intro j; rw [gd_take]; split
 ·exact h j
 ·decide
theorem U32.drop {a : List Nat} (h : U32 a) (n : Nat) : U32 (a.drop n) := by intro j; rw [gd_drop]; exact h _
theorem U32.replicate (n : Nat) {x : Nat} (hx : x < 4294967296) : U32 (List.replicate n x) := by
 intro j; rw [gd_replicate]; split
 ·exact hx
 ·decide
theorem qeh (n : Nat) : U32 (wd n) := by
 induction n using Nat.strongRecOn with
 | _ n ih =>
  by_cases h : n = 0
  ·subst h; rw [qca]; exact U32.nil
  ·rw [wd_pos h]
   exact U32.cons (Nat.mod_lt _ (by decide)) (ih _ (Nat.div_lt_self (by omega) (by decide)))
theorem val_append (a b : List Nat) : val (a ++ b) = val a + 4294967296 ^ a.length * val b := by
 induction a with
 | nil => simp [val]
 | cons x a ih =>
  have e : 4294967296 * (4294967296 ^ a.length * val b) = 4294967296 ^ a.length * 4294967296 * val b := by rw [← Nat.mul_assoc, Nat.mul_comm 4294967296]
  simp only [List.cons_append, val, ih, List.length_cons]
  rw [Nat.pow_succ, Nat.mul_add, e]; omega
theorem qem {l : List Nat} (h : U32 l) : val l < 4294967296 ^ l.length := by
 induction l with
 | nil => simp [val]
 | cons x l ih =>
  have := ih h.tail
  have := h.head
  simp only [val, List.length_cons]; rw [Nat.pow_succ]; omega
theorem val_zeros (n : Nat) : val (List.replicate n 0) = 0 := by
 induction n with
 | zero => rfl
 | succ n ih => rw [List.replicate_succ]; simp only [val, ih]
theorem val_drop {l : List Nat} (h : U32 l) (n : Nat) : val (l.drop n) = val l / 4294967296 ^ n := by
 induction n generalizing l with
 | zero => simp
 | succ n ih =>
  cases l with
  | nil => simp [val]
  | cons x l =>
   rw [List.drop_succ_cons, ih h.tail, Nat.pow_succ, Nat.mul_comm, ← Nat.div_div_eq_div_mul]
   congr 1
   have := h.head
   simp only [val]; omega
theorem val_take {l : List Nat} (h : U32 l) (n : Nat) : val (l.take n) = val l % 4294967296 ^ n := by
 have e : val l = val (l.take n) + 4294967296 ^ (l.take n).length * val (l.drop n) := by rw [← val_append, List.take_append_drop]
 by_cases hn : n ≤ l.length
 ·have hl : (l.take n).length = n := by rw [List.length_take]; omega
  have hlt := qem (h.take n)
  rw [hl] at e hlt
  rw [e, Nat.add_mul_mod_self_left, Nat.mod_eq_of_lt hlt]
 ·rw [List.take_of_length_le (by omega), Nat.mod_eq_of_lt]
  exact Nat.lt_of_lt_of_le (qem h) (Nat.pow_le_pow_right (by decide) (by omega))
theorem val_gd {l : List Nat} (h : U32 l) (j : Nat) : gd l j = val l / 4294967296 ^ j % 4294967296 := by
 rw [← val_drop h j]
 have e : gd l j = gd (l.drop j) 0 := by rw [gd_drop]; rfl
 rw [e]
 cases hd : l.drop j with
 | nil => simp [val, gd]
 | cons x r =>
  have hx := h.drop j
  rw [hd] at hx
  have := hx.head
  show x = _
  simp only [val]; omega
def Clean (l : List Nat) : Prop := l = [] ∨ gd l (l.length - 1) ≠ 0
theorem clean_wd (n : Nat) : Clean (wd n) := by
 induction n using Nat.strongRecOn with
 | _ n ih =>
  by_cases h : n = 0
  ·subst h; rw [qca]; exact .inl rfl
  ·rw [wd_pos h]
   right
   by_cases h2 : n / 4294967296 = 0
   ·rw [h2, qca]; show n % 4294967296 ≠ 0; omega
   ·rcases ih (n / 4294967296) (Nat.div_lt_self (by omega) (by decide)) with hn | hn
    ·rw [wd_pos h2] at hn; cases hn
    ·rw [wd_pos h2] at hn ⊢
     simp only [List.length_cons] at hn ⊢
     exact hn
theorem clean_eq {l : List Nat} (hu : U32 l) (hc : Clean l) : l = wd (val l) := by
 induction l with
 | nil => rw [show val [] = 0 from rfl, qca]
 | cons x l ih =>
  have hx := hu.head
  have hne : val (x :: l) ≠ 0 := by
   intro h0
   rcases hc with hc | hc
   ·cases hc
   ·apply hc
    rw [val_gd hu, h0]; simp
  rw [wd_pos hne]
  have e1 : val (x :: l) % 4294967296 = x := by simp only [val]; omega
  have e2 : val (x :: l) / 4294967296 = val l := by simp only [val]; omega
  rw [e1, e2, ← ih hu.tail]
  rcases hc with hc | hc
  ·cases hc
  ·cases l with
   | nil => exact .inl rfl
   | cons y l => right; exact hc
theorem qdr {l : List Nat} (n : Nat) (h : ∀ j, n ≤ j → gd l j = 0) : val (l.take n) = val l := by
 have e : val l = val (l.take n) + 4294967296 ^ (l.take n).length * val (l.drop n) := by rw [← val_append, List.take_append_drop]
 have hz : l.drop n = List.replicate (l.drop n).length 0 := by
  apply gd_ext (by simp)
  intro j _
  rw [gd_drop, h _ (by omega), gd_replicate]; split <;> rfl
 have : val (l.drop n) = 0 := by rw [hz]; exact val_zeros _
 rw [this] at e; omega
theorem qbp {l : List Nat} (hu : U32 l) : (wd (val l)).length ≤ l.length := by
 obtain ⟨n, hn⟩ : ∃ n, n = val l := ⟨_, rfl⟩
 rw [← hn]
 induction l generalizing n with
 | nil => simp only [val] at hn; subst hn; rw [qca]; exact Nat.le_refl _
 | cons x l ih =>
  by_cases h : n = 0
  ·subst h; rw [qca]; exact Nat.zero_le _
  ·rw [wd_pos h, List.length_cons, List.length_cons]
   have hx := hu.head
   have := ih hu.tail (n / 4294967296) (by rw [hn]; simp only [val]; omega)
   omega
theorem qcr {n k : Nat} (h : n < 4294967296 ^ k) : (wd n).length ≤ k := by
  induction k generalizing n with
  | zero => have : n = 0 := by simpa using h
            subst this; rw [qca]; exact Nat.le_refl _
  | succ k ih =>
    by_cases h0 : n = 0
    · subst h0; rw [qca]; exact Nat.zero_le _
    · rw [wd_pos h0, List.length_cons]
      have := ih (n := n / 4294967296) (Nat.div_lt_of_lt_mul (by rw [Nat.pow_succ, Nat.mul_comm] at h; exact h))
      omega
theorem val_ext {a b : List Nat} (h : ∀ j, gd a j = gd b j) : val a = val b := by
 induction a generalizing b with
 | nil =>
  have := qdr (l := b) 0 (fun j _ => by rw [← h j]; simp [gd])
  rw [← this]; rfl
 | cons x a ih =>
  cases b with
  | nil =>
   have := qdr (l := x :: a) 0 (fun j _ => by rw [h j]; simp [gd])
   rw [← this]; rfl
  | cons y b =>
   have h0 := h 0
   rw [gd_cons_zero, gd_cons_zero] at h0
   simp only [val]
   rw [h0, ih (b := b) (fun j => h (j + 1))]
theorem val_digit {l : List Nat} (h : U32 l) (k : Nat) : val l / 4294967296 ^ k = gd l k + 4294967296 * (val l / 4294967296 ^ (k + 1)) := by
 rw [val_gd h, Nat.pow_succ, ← Nat.div_div_eq_div_mul]
 omega
theorem qfq {a b : List Nat} (ha : U32 a) (hb : U32 b) (k : Nat) (h : ∀ j, k < j → gd a j = gd b j) (hk : gd a k < gd b k) : val a < val b := by
 have e : val a / 4294967296 ^ (k + 1) = val b / 4294967296 ^ (k + 1) := by
  rw [← val_drop ha, ← val_drop hb]
  exact val_ext fun j => by rw [gd_drop, gd_drop, h _ (by omega)]
 have e1 := val_digit ha k
 have e2 := val_digit hb k
 have : val a / 4294967296 ^ k < val b / 4294967296 ^ k := by rw [e1, e2, e]; omega
 rcases Nat.lt_or_ge (val a) (val b) with h1 | h1
 ·exact h1
 ·have := Nat.div_le_div_right (c := 4294967296 ^ k) h1; omega
theorem qbk {m n : Nat} (h : m ≤ n) : (wd m).length ≤ (wd n).length := by
 apply qcr
 have := qem (qeh n)
 rw [qaz] at this; omega
def cmpN (m n : Nat) : Int := if m < n then -1 else if n < m then 1 else 0
theorem cmpN_lt {m n : Nat} (h : m < n) : cmpN m n = -1 := by unfold cmpN; rw [if_pos h]
theorem cmpN_gt {m n : Nat} (h : n < m) : cmpN m n = 1 := by unfold cmpN; rw [if_neg (by omega), if_pos h]
theorem cmpN_eq {m n : Nat} (h : m = n) : cmpN m n = 0 := by unfold cmpN; rw [if_neg (by omega), if_neg (by omega)]
theorem qbm (l : List Nat) (k : Nat) : val (l.take (k + 1)) = val (l.take k) + 4294967296 ^ k * gd l k := by
 induction l generalizing k with
 | nil => simp [val, gd]
 | cons x l ih =>
  cases k with
  | zero => simp [val, gd_cons_zero]
  | succ k =>
   rw [List.take_succ_cons, List.take_succ_cons, gd_cons_succ]
   simp only [val]
   rw [ih k, Nat.pow_succ, Nat.mul_add, ← Nat.mul_assoc, Nat.mul_comm 4294967296 (4294967296 ^ k)]; omega
theorem qdm (l : List Nat) {k : Nat} (h : l.length ≤ k) : val (l.take k) = val l := by rw [List.take_of_length_le h]
theorem val_set (l : List Nat) (k x : Nat) (h : k < l.length) : val (l.set k x) + 4294967296 ^ k * gd l k = val l + 4294967296 ^ k * x := by
 induction l generalizing k with
 | nil => simp at h
 | cons y l ih =>
  cases k with
  | zero => simp [val, gd_cons_zero]; omega
  | succ k =>
   have := ih k (by simpa using h)
   simp only [List.set_cons_succ, val, gd_cons_succ]
   rw [Nat.pow_succ, Nat.mul_comm _ 4294967296, Nat.mul_assoc, Nat.mul_assoc]; omega
theorem take_set_le (l : List Nat) (k j x : Nat) (h : k ≤ j) : (l.set j x).take k = l.take k := by
 apply List.ext_getElem?
 intro i
 rw [List.getElem?_take, List.getElem?_take, List.getElem?_set]
 split
 ·rw [if_neg (by omega)]
 ·rfl
theorem val_take_set (l : List Nat) (k x : Nat) (h : k < l.length) : val ((l.set k x).take (k + 1)) = val (l.take k) + 4294967296 ^ k * x := by
 rw [qbm, take_set_le _ _ _ _ (Nat.le_refl _), gd_set, if_pos ⟨rfl, h⟩]
theorem val_snoc (l : List Nat) (x : Nat) : val (l ++ [x]) = val l + 4294967296 ^ l.length * x := by rw [val_append]; simp [val]
theorem add_step {P O c a b x y : Nat} (h : O + P * c = a + b) :
  (O + P * ((c + (x + y)) % 4294967296)) + P * 4294967296 * ((c + (x + y)) / 4294967296) = (a + P * x) + (b + P * y) := by
 have e : (c + (x + y)) % 4294967296 + 4294967296 * ((c + (x + y)) / 4294967296) = c + (x + y) := Nat.mod_add_div _ _
 have : P * ((c + (x + y)) % 4294967296) + P * 4294967296 * ((c + (x + y)) / 4294967296) = P * c + P * x + P * y := by
  rw [Nat.mul_assoc, ← Nat.mul_add, e, Nat.mul_add, Nat.mul_add]; omega
 omega
theorem add_end {a b : List Nat} {n O c : Nat} (ha : U32 a) (hb : U32 b) (hn : max a.length b.length < n) (h : O + 4294967296 ^ n * c = val a + val b) : O = val a + val b := by
 have h1 := qem ha
 have h2 := qem hb
 have e1 : 4294967296 ^ a.length ≤ 4294967296 ^ (n - 1) := Nat.pow_le_pow_right (by decide) (by omega)
 have e2 : 4294967296 ^ b.length ≤ 4294967296 ^ (n - 1) := Nat.pow_le_pow_right (by decide) (by omega)
 have e3 : 4294967296 ^ n = 4294967296 ^ (n - 1) * 4294967296 := by rw [← Nat.pow_succ]; congr 1; omega
 cases c with
 | zero => simpa using h
 | succ c =>
  have : 4294967296 ^ n ≤ 4294967296 ^ n * (c + 1) := Nat.le_mul_of_pos_right _ (by omega)
  omega

theorem sub_step {P O r a b x y d r' : Nat} (h : O + b = a + P * r) (hd : d + y + r = x + 4294967296 * r') :
  (O + P * d) + (b + P * y) = (a + P * x) + P * 4294967296 * r' := by
 have : P * (d + y + r) = P * (x + 4294967296 * r') := by rw [hd]
 rw [Nat.mul_add, Nat.mul_add, Nat.mul_add, ← Nat.mul_assoc] at this
 omega
theorem sub_end {O a b P r : Nat} (hO : O < P) (h : O + b = a + P * r) (hab : b ≤ a) (hr : r ≤ 1) : O = a - b := by
 rcases Nat.le_one_iff_eq_zero_or_eq_one.mp hr with rfl | rfl
 ·omega
 ·omega
theorem mul_step {P O O' c o p s R : Nat} (h : O + P * c = R) (hs : s = c + (p + o)) (h2 : O' + P * o = O + P * (s % 4294967296)) :
  O' + P * 4294967296 * (s / 4294967296) = R + P * p := by
 have e : s % 4294967296 + 4294967296 * (s / 4294967296) = s := Nat.mod_add_div _ _
 have : P * (s % 4294967296) + P * 4294967296 * (s / 4294967296) = P * c + P * p + P * o := by
  rw [Nat.mul_assoc, ← Nat.mul_add, e, hs, Nat.mul_add, Nat.mul_add]; omega
 omega
theorem word_mul {x y : Nat} (hx : x < 4294967296) (hy : y < 4294967296) : x * y ≤ 18446744065119617025 :=
 Nat.le_trans (Nat.mul_le_mul (Nat.le_pred_of_lt hx) (Nat.le_pred_of_lt hy)) (by decide)
theorem mul_bounds {c p o : Nat} (hc : c < 4294967296) (hp : p ≤ 18446744065119617025) (ho : o < 4294967296) : (c + (p + o)) / 4294967296 < 4294967296 ∧ (c + (p + o)) % 4294967296 < 4294967296 := by omega
theorem mul_row (T A x : Nat) (b : List Nat) (k y : Nat) (hy : y = gd b k) :
  T + A * (x * val (b.take k)) + A * 4294967296 ^ k * (x * y) = T + A * (x * val (b.take (k + 1))) := by
 have e : A * 4294967296 ^ k * (x * y) = A * (x * (4294967296 ^ k * y)) := by
  rw [Nat.mul_assoc]; congr 1; rw [Nat.mul_left_comm]
 rw [qbm, ← hy, e, Nat.mul_add x, Nat.mul_add A]; omega
theorem mul_rows (a b : List Nat) (i x : Nat) (hx : x = gd a i) : val (a.take i) * val b + 4294967296 ^ i * (x * val b) = val (a.take (i + 1)) * val b := by
 rw [qbm, ← hx, Nat.add_mul, Nat.mul_assoc]
theorem gd_zero_of_lt {l : List Nat} (h : U32 l) {n : Nat} (hv : val l < 4294967296 ^ n) (j : Nat) (hj : n ≤ j) : gd l j = 0 := by
 rw [val_gd h, Nat.div_eq_of_lt]
 exact Nat.lt_of_lt_of_le hv (Nat.pow_le_pow_right (by decide) hj)
theorem mul_lt {a b : List Nat} (ha : U32 a) (hb : U32 b) (i : Nat) : val (a.take i) * val b < 4294967296 ^ (i + b.length) := by
 have h1 : val (a.take i) < 4294967296 ^ i := by rw [val_take ha]; exact Nat.mod_lt _ (Nat.pow_pos (by decide))
 rw [Nat.pow_add]
 exact Nat.mul_lt_mul_of_lt_of_le h1 (Nat.le_of_lt (qem hb)) (Nat.pow_pos (by decide))
theorem mul_spent {O P c t : Nat} (h : O + P * c = t) (ht : t < P) : O = t := by
 cases c with
 | zero => simpa using h
 | succ c =>
  have := Nat.le_mul_of_pos_right P (show 0 < c + 1 by omega)
  omega
def fit (U3 V2 : Nat) : Nat := min 4294967295 (U3 / V2)
theorem fit_aux {g L x H V : Nat} (k : L < x ↔ H / V < g) : (4294967296 ≤ g ∨ L < x) ↔ fit H V < g := by
 rw [k]; unfold fit; generalize H / V = t; rw [Nat.min_def]; split <;> constructor <;> intro h <;> omega
theorem fit_le_of {H V t : Nat} (h : H / V ≤ t) : fit H V ≤ t := by unfold fit; exact Nat.le_trans (Nat.min_le_right _ _) h
theorem fit_test {g top next rest head low : Nat} (ht : 0 < top) (h : g * top + rest = head) :
  (4294967296 ≤ g ∨ rest * 4294967296 + low < g * next) ↔ fit (head * 4294967296 + low) (top * 4294967296 + next) < g := by
 have hV : 0 < top * 4294967296 + next := by omega
 have e : g * (top * 4294967296 + next) = (head - rest) * 4294967296 + g * next := by
  have e0 : g * top = head - rest := by omega
  rw [Nat.mul_add, ← Nat.mul_assoc, e0]
 have k : rest * 4294967296 + low < g * next ↔ (head * 4294967296 + low) / (top * 4294967296 + next) < g := by
  rw [Nat.div_lt_iff_lt_mul hV, e]
  have : rest ≤ head := by omega
  generalize g * next = x
  omega
 exact fit_aux k
theorem fit_rest {g top next rest head low : Nat} (ht : 0 < top) (h : g * top + rest = head) (hn : next < 4294967296) (hg : g < 4294967296) (hr : 4294967296 ≤ rest) :
  ¬ fit (head * 4294967296 + low) (top * 4294967296 + next) < g := by
 rw [← fit_test ht h]
 have h1 : g * next ≤ 4294967295 * 4294967295 := Nat.mul_le_mul (by omega) (by omega)
 omega
theorem fit_first {top next head low : Nat} (ht : 0 < top) (hl : low < 4294967296) : fit (head * 4294967296 + low) (top * 4294967296 + next) ≤ head / top := by
 have h1 : (head * 4294967296 + low) / (top * 4294967296 + next) ≤ (head * 4294967296 + low) / (top * 4294967296) := Nat.div_le_div_left (by omega) (by omega)
 have h2 : (head * 4294967296 + low) / (top * 4294967296) = head / top := by
  rw [Nat.mul_comm top, ← Nat.div_div_eq_div_mul]; congr 1; omega
 exact fit_le_of (Nat.le_trans h1 (Nat.le_of_eq h2))
theorem guess_le {top u1 u0 : Nat} (ht : 2147483648 ≤ top) (h1 : u1 ≤ top) (h0 : u0 < 4294967296) : (u1 * 4294967296 + u0) / top ≤ 4294967297 := by
 have : u1 * 4294967296 ≤ top * 4294967296 := Nat.mul_le_mul_right _ h1
 rw [← Nat.lt_succ_iff, Nat.div_lt_iff_lt_mul (by omega)]
 omega
theorem fit_near {u v D U3 V2 ul vl : Nat} (hD : 0 < D) (hu : u = U3 * D + ul) (hul : ul < D) (hv : v = V2 * D + vl) (hvl : vl < D) (hV : 4294967296 ≤ V2) (hlt : u < 4294967296 * v) :
  u / v ≤ fit U3 V2 ∧ fit U3 V2 ≤ u / v + 1 := by
 have hv0 : 0 < v := by
  have : 0 < V2 * D := Nat.mul_pos (by omega) hD
  omega
 obtain ⟨q, hq⟩ : ∃ q, q = u / v := ⟨_, rfl⟩
 have hqb : q < 4294967296 := by rw [hq, Nat.div_lt_iff_lt_mul hv0]; exact hlt
 have h1 : q * v ≤ u := by rw [hq]; exact Nat.div_mul_le_self u v
 have h2 : u < (q + 1) * v := by
  have := Nat.lt_mul_div_succ u hv0
  rw [hq, Nat.mul_comm]; exact this
 rw [← hq]
 have hV0 : 0 < V2 := by omega
 constructor
 ·unfold fit
  have : q ≤ U3 / V2 := by
   rw [Nat.le_div_iff_mul_le hV0]
   have e : q * V2 * D ≤ q * v := by rw [Nat.mul_assoc]; exact Nat.mul_le_mul_left _ (by omega)
   have : q * V2 * D < (U3 + 1) * D := by rw [Nat.add_mul]; omega
   have := Nat.lt_of_mul_lt_mul_right this
   omega
  exact Nat.le_min.2 ⟨by omega, this⟩
 ·unfold fit
  have : U3 / V2 < q + 2 := by
   rw [Nat.div_lt_iff_lt_mul hV0]
   have e1 : U3 * D < (q + 1) * ((V2 + 1) * D) := by
    have : (q + 1) * v ≤ (q + 1) * ((V2 + 1) * D) := Nat.mul_le_mul_left _ (by rw [Nat.add_mul]; omega)
    omega
   rw [← Nat.mul_assoc] at e1
   have e2 := Nat.lt_of_mul_lt_mul_right e1
   have e3 : (q + 1) * (V2 + 1) = q * V2 + q + V2 + 1 := by rw [Nat.add_mul, Nat.mul_add]; omega
   have e4 : (q + 2) * V2 = q * V2 + 2 * V2 := by rw [Nat.add_mul]
   omega
  exact Nat.le_trans (Nat.min_le_right _ _) (Nat.le_of_lt_succ this)
def blen (n : Nat) : Nat := if n = 0 then 0 else n.log2 + 1
theorem blen_zero : blen 0 = 0 := rfl
theorem blen_eq {n b : Nat} (h1 : n < 2 ^ b) (h2 : b = 0 ∨ 2 ^ (b - 1) ≤ n) : blen n = b := by
 unfold blen
 by_cases h0 : n = 0
 ·subst h0
  rw [if_pos rfl]
  rcases h2 with h2 | h2
  ·exact h2.symm
  ·have := Nat.two_pow_pos (b - 1); omega
 ·rw [if_neg h0]
  have g1 := (Nat.log2_lt h0).2 h1
  rcases h2 with h2 | h2
  ·omega
  ·have := (Nat.le_log2 h0).2 h2; omega
theorem lt_two_blen (n : Nat) : n < 2 ^ blen n := by
 unfold blen; split
 ·omega
 ·exact Nat.lt_log2_self
theorem two_blen_le {n : Nat} (h : n ≠ 0) : 2 ^ (blen n - 1) ≤ n ∧ 0 < blen n := by
 unfold blen; rw [if_neg h]; exact ⟨Nat.log2_self_le h, by omega⟩
theorem blen_le {n b : Nat} (h : n < 2 ^ b) : blen n ≤ b := by
 by_cases h0 : n = 0
 ·subst h0; exact Nat.zero_le _
 ·unfold blen; rw [if_neg h0]; exact (Nat.log2_lt h0).2 h
theorem blen_pos {n : Nat} : 0 < blen n ↔ n ≠ 0 := by
 constructor
 ·intro h h0; subst h0; exact absurd h (by decide)
 ·intro h; exact (two_blen_le h).2
theorem bitLenAux_eq : ∀ (f x : Nat), x < 2 ^ f → Lib.bitLenAux f x = blen x
  | 0, x, h => by have : x = 0 := by simpa using h
                  subst this; rfl
  | f + 1, x, h => by
    unfold Lib.bitLenAux
    by_cases h0 : x = 0
    · subst h0; rfl
    · rw [if_neg h0, bitLenAux_eq f (x / 2) (by rw [Nat.pow_succ] at h; omega)]
      symm
      have h2 := lt_two_blen (x / 2)
      apply blen_eq
      · rw [Nat.add_comm, Nat.pow_succ]; omega
      · right
        by_cases h3 : x / 2 = 0
        · rw [h3]; simp [blen_zero]; omega
        · have := two_blen_le h3
          rw [Nat.add_sub_cancel_left, show blen (x / 2) = (blen (x / 2) - 1) + 1 from by omega, Nat.pow_succ]; omega
theorem bitLen_eq (x : Nat) (h : x < 4294967296) : Lib.bitLen x = blen x := bitLenAux_eq 64 x (Nat.lt_trans h (by decide))
theorem pow32 (i : Nat) : 4294967296 ^ i = 2 ^ (32 * i) := by rw [Nat.pow_mul]
theorem blen_top {lo x i : Nat} (hlo : lo < 4294967296 ^ i) (hx : x ≠ 0) : blen (lo + 4294967296 ^ i * x) = 32 * i + blen x := by
 rw [pow32] at *
 have h1 := lt_two_blen x
 have h2 := two_blen_le hx
 apply blen_eq
 ·rw [Nat.pow_add]
  have : 2 ^ (32 * i) * (x + 1) ≤ 2 ^ (32 * i) * 2 ^ blen x := Nat.mul_le_mul_left _ h1
  rw [Nat.mul_add] at this; omega
 ·right
  rw [show 32 * i + blen x - 1 = 32 * i + (blen x - 1) from by omega, Nat.pow_add]
  have : 2 ^ (32 * i) * 2 ^ (blen x - 1) ≤ 2 ^ (32 * i) * x := Nat.mul_le_mul_left _ h2.1
  omega
theorem val_take_lt {l : List Nat} (h : U32 l) (i : Nat) : val (l.take i) < 4294967296 ^ i := by
 rw [val_take h]; exact Nat.mod_lt _ (Nat.pow_pos (by decide))
theorem mod_two_pow_succ (x k : Nat) : x % 2 ^ (k + 1) = x % 2 ^ k + 2 ^ k * (x / 2 ^ k % 2) := by
 rw [Nat.pow_succ, Nat.mod_mul]
theorem blen_bit {lo x i k : Nat} (hlo : lo < 4294967296 ^ i) (hb : x / 2 ^ k % 2 = 1) : blen (lo + 4294967296 ^ i * (x % 2 ^ (k + 1))) = 32 * i + k + 1 := by
 have hm : x % 2 ^ k < 2 ^ k := Nat.mod_lt _ (Nat.two_pow_pos _)
 have e : blen (x % 2 ^ (k + 1)) = k + 1 := by
  rw [mod_two_pow_succ, hb, Nat.mul_one]
  exact blen_eq (by rw [Nat.pow_succ]; omega) (.inr (by rw [Nat.add_sub_cancel]; omega))
 have h0 : x % 2 ^ (k + 1) ≠ 0 := by
  have := Nat.two_pow_pos k
  rw [mod_two_pow_succ, hb]; omega
 rw [blen_top hlo h0, e]; omega

theorem wraps_u64 (n : Int) (h₀ : 0 ≤ n) (h₁ : n < 2 ^ 64) : IntKind.u64.wrap n = n := by
 have e : IntKind.u64.wrap n = n % 18446744073709551616 := rfl
 rw [e]; omega
theorem wraps_u32 (n : Int) (h₀ : 0 ≤ n) (h₁ : n < 2 ^ 32) : IntKind.u32.wrap n = n := by
 have e : IntKind.u32.wrap n = n % 4294967296 := rfl
 rw [e]; omega
theorem or_words (x y : Nat) (hx : x < 4294967296) (hy : y < 4294967296) : bits .or .u64 (x : Int) ((y : Int) * 4294967296) = ((x + y * 4294967296 : Nat) : Int) := by
 have e : ((y : Int) * 4294967296) = ((y * 4294967296 : Nat) : Int) := rfl
 rw [e, (bits_nat .u64 64 (by decide) wraps_u64 x (y * 4294967296) (by omega) (by omega)).2]
 congr 1
 rw [Nat.or_comm, Nat.mul_comm, show (4294967296 : Nat) = 2 ^ 32 from rfl, ← Nat.two_pow_add_eq_or_of_lt (by omega)]; omega
theorem or_words' (x y : Nat) (hx : x < 4294967296) (hy : y < 4294967296) : bits .or .u64 ((y : Int) * 4294967296) (x : Int) = ((y * 4294967296 + x : Nat) : Int) := by
 have e : ((y : Int) * 4294967296) = ((y * 4294967296 : Nat) : Int) := rfl
 rw [e, (bits_nat .u64 64 (by decide) wraps_u64 (y * 4294967296) x (by omega) (by omega)).2]
 congr 1
 rw [Nat.mul_comm, show (4294967296 : Nat) = 2 ^ 32 from rfl, ← Nat.two_pow_add_eq_or_of_lt (by omega)]
theorem val_drop_at (l : List Nat) (m : Nat) : val (l.drop m) = gd l m + 4294967296 * val (l.drop (m + 1)) := by
 by_cases h : m < l.length
 ·rw [List.drop_eq_getElem_cons h, gd_lt _ _ h]; rfl
 ·rw [List.drop_of_length_le (by omega), List.drop_of_length_le (by omega), gd_over _ _ (by omega)]; rfl
theorem drop_set_lt (l : List Nat) (k j x : Nat) (h : j < k) : (l.set j x).drop k = l.drop k := by
 apply List.ext_getElem?
 intro i
 rw [List.getElem?_drop, List.getElem?_drop, List.getElem?_set, if_neg (by omega)]
theorem val_drop_set (l : List Nat) (m x : Nat) (h : m < l.length) : val ((l.set m x).drop m) = x + 4294967296 * val (l.drop (m + 1)) := by
 rw [val_drop_at, gd_set, if_pos ⟨rfl, h⟩, drop_set_lt _ _ _ _ (Nat.lt_succ_self m)]
theorem small_step {V W b r x : Nat} (h : W = V * b + r) : x + 4294967296 * W = ((r * 4294967296 + x) / b + 4294967296 * V) * b + (r * 4294967296 + x) % b := by
 have e := Nat.div_add_mod (r * 4294967296 + x) b
 rw [h, Nat.add_mul, Nat.mul_add, Nat.mul_assoc, Nat.mul_comm ((r * 4294967296 + x) / b) b]
 omega
theorem small_lt {b r x : Nat} (hb : b ≤ 4294967296) (hr : r < b) (hx : x < 4294967296) : (r * 4294967296 + x) / b < 4294967296 := by
 rw [Nat.div_lt_iff_lt_mul (by omega)]
 have : (r + 1) * 4294967296 ≤ b * 4294967296 := Nat.mul_le_mul_right _ hr
 rw [Nat.mul_comm 4294967296 b]
 omega
theorem div_of_eq {a q b r : Nat} (h : a = q * b + r) (hr : r < b) : q = a / b ∧ r = a % b := by
 have e : a = r + b * q := by rw [Nat.mul_comm b q]; omega
 constructor
 ·rw [e, Nat.add_mul_div_left _ _ (by omega), Nat.div_eq_of_lt hr, Nat.zero_add]
 ·rw [e, Nat.add_mul_mod_self_left, Nat.mod_eq_of_lt hr]
theorem val_of_digits {l : List Nat} (N : Nat) (h : ∀ j, j < l.length → gd l j = N / 4294967296 ^ j % 4294967296) (hN : N < 4294967296 ^ l.length) : val l = N := by
 rw [← qaz N]
 apply val_ext
 intro j
 rw [val_gd (qeh N) j, qaz]
 by_cases hj : j < l.length
 ·exact h j hj
 ·rw [gd_over _ _ (by omega), Nat.div_eq_of_lt (Nat.lt_of_lt_of_le hN (Nat.pow_le_pow_right (by decide) (by omega)))]
theorem shl_wrap (x n : Nat) (hx : x < 4294967296) (hn : n < 32) : IntKind.u64.wrap ((x : Int) * 2 ^ n) = ((x * 2 ^ n : Nat) : Int) ∧ x * 2 ^ n < 9223372036854775808 ∧ x * 2 ^ n / 4294967296 < 2 ^ n ∧ 2 ^ n ≤ 2147483648 := by
 have hp : 2 ^ n ≤ 2 ^ 31 := Nat.pow_le_pow_right (by decide) (by omega)
 have hp0 := Nat.two_pow_pos n
 have h1 : x * 2 ^ n < 4294967296 * 2 ^ n := Nat.mul_lt_mul_of_pos_right hx hp0
 have e : (x : Int) * 2 ^ n = ((x * 2 ^ n : Nat) : Int) := by simp
 refine ⟨?_, by omega, ?_, hp⟩
 ·rw [e]; exact wraps_u64 _ (by omega) (by omega)
 ·rw [Nat.div_lt_iff_lt_mul (by decide), Nat.mul_comm (2 ^ n)]; exact h1
theorem or_low (x n o : Nat) (hn : n < 32) (ho : o < 2 ^ n) : bits .or .u32 (o : Int) (((x * 2 ^ n : Nat) : Int) % 4294967296) = ((o + x * 2 ^ n % 4294967296 : Nat) : Int) ∧ o + x * 2 ^ n % 4294967296 < 4294967296 := by
 have hB : (4294967296 : Nat) = 2 ^ n * 2 ^ (32 - n) := by rw [← Nat.pow_add, show n + (32 - n) = 32 from by omega]
 have hq : x * 2 ^ n % 4294967296 = 2 ^ n * (x % 2 ^ (32 - n)) := by
  rw [hB, Nat.mul_comm x, Nat.mul_mod_mul_left]
 have hp0 := Nat.two_pow_pos n
 have hx : x % 2 ^ (32 - n) + 1 ≤ 2 ^ (32 - n) := Nat.mod_lt _ (Nat.two_pow_pos _)
 have h1 : 2 ^ n * (x % 2 ^ (32 - n) + 1) ≤ 2 ^ n * 2 ^ (32 - n) := Nat.mul_le_mul_left _ hx
 rw [← hB, Nat.mul_add] at h1
 have hlt : o + x * 2 ^ n % 4294967296 < 4294967296 := by rw [hq]; omega
 refine ⟨?_, hlt⟩
 have e : (((x * 2 ^ n : Nat) : Int) % 4294967296) = ((x * 2 ^ n % 4294967296 : Nat) : Int) := rfl
 rw [e, (bits_nat .u32 32 (by decide) wraps_u32 o (x * 2 ^ n % 4294967296) (by omega) (by omega)).2]
 congr 1
 rw [Nat.or_comm, hq, ← Nat.two_pow_add_eq_or_of_lt ho]; omega
theorem or_low64 (x n o : Nat) (hx : x < 4294967296) (hn : n < 32) (ho : o < 2 ^ n) : bits .or .u64 (o : Int) ((x * 2 ^ n : Nat) : Int) = ((o + x * 2 ^ n : Nat) : Int) ∧ o + x * 2 ^ n < 4294967296 * 2 ^ n ∧ o + x * 2 ^ n < 9223372036854775808 := by
 obtain ⟨_, h1, _, h3⟩ := shl_wrap x n hx hn
 have h4 : (x + 1) * 2 ^ n ≤ 4294967296 * 2 ^ n := Nat.mul_le_mul_right _ hx
 rw [Nat.add_mul] at h4
 refine ⟨?_, by omega, by omega⟩
 rw [(bits_nat .u64 64 (by decide) wraps_u64 o (x * 2 ^ n) (by omega) (by omega)).2]
 congr 1
 rw [Nat.or_comm, Nat.mul_comm x, ← Nat.two_pow_add_eq_or_of_lt ho]; omega
theorem word_down {l : List Nat} (h : U32 l) (i n : Nat) (hn : n < 32) : (gd l i + gd l (i + 1) * 4294967296) / 2 ^ n % 4294967296 = val l / 2 ^ n / 4294967296 ^ i % 4294967296 := by
 rw [Nat.div_div_eq_div_mul (val l), Nat.mul_comm (2 ^ n), ← Nat.div_div_eq_div_mul]
 have e : val l / 4294967296 ^ i = (gd l i + gd l (i + 1) * 4294967296) + 4294967296 * 4294967296 * (val l / 4294967296 ^ (i + 1 + 1)) := by
  rw [val_digit h i, val_digit h (i + 1)]; omega
 rw [e]
 have hB : (4294967296 * 4294967296 : Nat) = 2 ^ n * (2 ^ (32 - n) * 4294967296) := by
  rw [← Nat.mul_assoc, ← Nat.pow_add, show n + (32 - n) = 32 from by omega]
 rw [hB, Nat.mul_assoc (2 ^ n), Nat.add_mul_div_left _ _ (Nat.two_pow_pos n), Nat.mul_comm (2 ^ (32 - n)), Nat.mul_assoc, Nat.add_mul_mod_self_left]
def winv (l : List Nat) (j m : Nat) : Nat := val ((l.drop j).take m)
theorem winv_zero (l : List Nat) (j : Nat) : winv l j 0 = 0 := by simp [winv, val]
theorem winv_succ (l : List Nat) (j i : Nat) : winv l j (i + 1) = winv l j i + 4294967296 ^ i * gd l (j + i) := by
 unfold winv; rw [qbm, gd_drop]
theorem winv_set (l : List Nat) (j i x : Nat) (h : j + i < l.length) : winv (l.set (j + i) x) j (i + 1) = winv l j i + 4294967296 ^ i * x := by
 have e : (l.set (j + i) x).drop j = (l.drop j).set i x := by
  apply List.ext_getElem?
  intro k
  rw [List.getElem?_drop, List.getElem?_set, List.getElem?_set, List.getElem?_drop]
  by_cases hk : i = k
  ·subst hk; rw [if_pos rfl, if_pos rfl, if_pos h, if_pos (by rw [List.length_drop]; omega)]
  ·rw [if_neg (by omega), if_neg hk]
 unfold winv; rw [e, val_take_set _ _ _ (by rw [List.length_drop]; omega)]
theorem winv_lt {l : List Nat} (h : U32 l) (j m : Nat) : winv l j m < 4294967296 ^ m := val_take_lt (h.drop j) m
theorem winv_congr {l l' : List Nat} (j m : Nat) (h : ∀ i, j ≤ i → i < j + m → gd l i = gd l' i) : winv l j m = winv l' j m := by
 unfold winv
 apply val_ext
 intro i
 rw [gd_take, gd_take]
 split
 ·rw [gd_drop, gd_drop]; exact h _ (by omega) (by omega)
 ·rfl
theorem val_window (l : List Nat) (j m : Nat) : val l = winv l 0 j + 4294967296 ^ j * (winv l j m + 4294967296 ^ m * val (l.drop (j + m))) := by
 have e1 : ∀ (a : List Nat) (k : Nat), val a = val (a.take k) + 4294967296 ^ k * val (a.drop k) := by
  intro a k
  rcases Nat.lt_or_ge a.length k with h | h
  ·rw [List.take_of_length_le (by omega), List.drop_of_length_le (by omega)]; simp [val]
  ·have := val_append (a.take k) (a.drop k)
   rwa [List.take_append_drop, List.length_take, Nat.min_eq_left h] at this
 unfold winv
 rw [List.drop_zero, e1 l j, e1 (l.drop j) m, List.drop_drop]
theorem take_step {P W W0 T c r q y x d c' r' : Nat} (h : W + T = W0 + P * (r + c)) (hd : d + (c + q * y) % 4294967296 + r = x + 4294967296 * r') (hc' : c' = (c + q * y) / 4294967296) :
  (W + P * d) + (T + P * (q * y)) = (W0 + P * x) + P * 4294967296 * (r' + c') := by
 have e := Nat.mod_add_div (c + q * y) 4294967296
 have : P * (d + q * y + r + c) = P * x + P * 4294967296 * (r' + c') := by
  rw [Nat.mul_assoc P, ← Nat.mul_add]
  congr 1
  rw [hc', Nat.mul_add]; omega
 simp only [Nat.mul_add] at this h ⊢
 omega
theorem take_carry {P c T q y c' : Nat} (h : P * c ≤ T) (hc' : c' = (c + q * y) / 4294967296) : P * 4294967296 * c' ≤ T + P * (q * y) := by
 have e := Nat.mod_add_div (c + q * y) 4294967296
 rw [Nat.mul_assoc]
 have : P * (4294967296 * c') ≤ P * (c + q * y) := Nat.mul_le_mul_left _ (by rw [hc']; omega)
 rw [Nat.mul_add] at this; omega
theorem take_end {P c T : Nat} (h : P * c ≤ T) (hT : T < P) : c = 0 := by
 cases c with
 | zero => rfl
 | succ c =>
  have := Nat.le_mul_of_pos_right P (show 0 < c + 1 by omega)
  omega
theorem div_scaled {A Bv p U q : Nat} (hp : 0 < p) (h : U + Bv * p * q = A * p) (hU : U < Bv * p) : q = A / Bv ∧ U / p = A % Bv := by
 have h1 : A * p = q * (Bv * p) + U := by rw [Nat.mul_comm q]; omega
 obtain ⟨e1, e2⟩ := div_of_eq h1 hU
 rw [Nat.mul_div_mul_right _ _ hp] at e1
 rw [Nat.mul_mod_mul_right] at e2
 refine ⟨e1, ?_⟩
 rw [e2, Nat.mul_div_cancel _ hp]
theorem norm_top {Bv nb x s : Nat} (hB : Bv ≠ 0) (hb : blen Bv = 32 * (nb - 1) + blen x) (hx : x ≠ 0) (hxl : x < 4294967296) (hnb : 0 < nb) (hs : s = 32 - blen x) :
  Bv * 2 ^ s < 4294967296 ^ nb ∧ 2147483648 * 4294967296 ^ (nb - 1) ≤ Bv * 2 ^ s ∧ s < 32 := by
 have h1 : blen x ≤ 32 := blen_le hxl
 have h2 := two_blen_le hx
 have h3 := lt_two_blen Bv
 have h4 := two_blen_le hB
 have e : blen Bv + s = 32 * nb := by omega
 refine ⟨?_, ?_, by omega⟩
 ·rw [pow32, ← e, Nat.pow_add]; exact Nat.mul_lt_mul_of_pos_right h3 (Nat.two_pow_pos _)
 ·have e2 : 2147483648 * 4294967296 ^ (nb - 1) = 2 ^ (blen Bv - 1) * 2 ^ s := by
   rw [pow32, ← Nat.pow_add, show (2147483648 : Nat) = 2 ^ 31 from rfl, ← Nat.pow_add]; congr 1; omega
  rw [e2]; exact Nat.mul_le_mul_right _ h4.1
theorem take_all {l : List Nat} (h : U32 l) {n : Nat} (hv : val l < 4294967296 ^ n) : val (l.take n) = val l := by
 rw [val_take h, Nat.mod_eq_of_lt hv]
theorem winv_all {l : List Nat} (h : U32 l) {j m : Nat} (hv : val (l.drop j) < 4294967296 ^ m) : winv l j m = val (l.drop j) := take_all (h.drop j) hv
theorem div_two {lv : List Nat} (h : U32 lv) {nb : Nat} (hl : lv.length = nb) (h2 : 2 ≤ nb) (hlo : 2147483648 * 4294967296 ^ (nb - 1) ≤ val lv) :
  2147483648 ≤ gd lv (nb - 1) ∧ val lv = (gd lv (nb - 1) * 4294967296 + gd lv (nb - 2)) * 4294967296 ^ (nb - 2) + winv lv 0 (nb - 2) := by
 obtain ⟨d, rfl⟩ : ∃ d, nb = d + 2 := ⟨nb - 2, by omega⟩
 have hlt := qem h
 rw [hl] at hlt
 rw [show d + 2 - 1 = d + 1 from rfl, show d + 2 - 2 = d from rfl] at *
 have e : val lv = winv lv 0 (d + 1 + 1) := by rw [winv_all h (by rw [List.drop_zero]; exact hlt), List.drop_zero]
 constructor
 ·rw [val_gd h]
  have h3 : val lv / 4294967296 ^ (d + 1) < 4294967296 := by
   rw [Nat.div_lt_iff_lt_mul (Nat.pow_pos (by decide)), Nat.mul_comm, ← Nat.pow_succ]; exact hlt
  rw [Nat.mod_eq_of_lt h3, Nat.le_div_iff_mul_le (Nat.pow_pos (by decide))]
  exact hlo
 ·rw [e, winv_succ, winv_succ, Nat.zero_add, Nat.zero_add]
  simp only [Nat.pow_succ, Nat.add_mul]
  generalize gd lv d = x
  generalize gd lv (d + 1) = t
  generalize 4294967296 ^ d = P
  have e1 : P * 4294967296 * t = t * 4294967296 * P := by ac_rfl
  have e2 : P * x = x * P := by ac_rfl
  omega
theorem div_three (lu : List Nat) (j : Nat) {nb : Nat} (h2 : 2 ≤ nb) :
  winv lu j (nb + 1) = ((gd lu (j + nb) * 4294967296 + gd lu (j + nb - 1)) * 4294967296 + gd lu (j + nb - 2)) * 4294967296 ^ (nb - 2) + winv lu j (nb - 2) := by
 obtain ⟨d, rfl⟩ : ∃ d, nb = d + 2 := ⟨nb - 2, by omega⟩
 rw [show j + (d + 2) - 1 = j + (d + 1) from rfl, show j + (d + 2) - 2 = j + d from rfl, show d + 2 - 2 = d from rfl]
 rw [winv_succ, winv_succ, winv_succ]
 generalize gd lu (j + (d + 2)) = a
 generalize gd lu (j + (d + 1)) = b
 generalize gd lu (j + d) = c
 generalize winv lu j d = w
 simp only [Nat.pow_succ, Nat.add_mul]
 generalize 4294967296 ^ d = P
 have e1 : P * 4294967296 * 4294967296 * a = a * 4294967296 * 4294967296 * P := by ac_rfl
 have e2 : P * 4294967296 * b = b * 4294967296 * P := by ac_rfl
 have e3 : P * c = c * P := by ac_rfl
 omega
theorem div_round {lu lv : List Nat} (hu : U32 lu) (hv : U32 lv) {j nb : Nat} (hl : lv.length = nb) (h2 : 2 ≤ nb) (hlo : 2147483648 * 4294967296 ^ (nb - 1) ≤ val lv) (hW : winv lu j (nb + 1) < 4294967296 * val lv) :
  gd lu (j + nb) ≤ gd lv (nb - 1) ∧
  winv lu j (nb + 1) / val lv ≤ fit ((gd lu (j + nb) * 4294967296 + gd lu (j + nb - 1)) * 4294967296 + gd lu (j + nb - 2)) (gd lv (nb - 1) * 4294967296 + gd lv (nb - 2)) ∧
  fit ((gd lu (j + nb) * 4294967296 + gd lu (j + nb - 1)) * 4294967296 + gd lu (j + nb - 2)) (gd lv (nb - 1) * 4294967296 + gd lv (nb - 2)) ≤ winv lu j (nb + 1) / val lv + 1 := by
 obtain ⟨t1, t2⟩ := div_two hv hl h2 hlo
 have t3 := div_three lu j h2
 have hD : 0 < 4294967296 ^ (nb - 2) := Nat.pow_pos (by decide)
 have hn := fit_near hD t3 (winv_lt hu j (nb - 2)) t2 (winv_lt hv 0 (nb - 2)) (by omega) hW
 refine ⟨?_, hn.1, hn.2⟩
 have hvl := winv_lt hv 0 (nb - 2)
 have hnx := hv (nb - 2)
 rw [t3, t2] at hW
 generalize gd lu (j + nb) = a at *
 generalize gd lu (j + nb - 1) = b at *
 generalize gd lu (j + nb - 2) = c at *
 generalize gd lv (nb - 1) = top at *
 generalize gd lv (nb - 2) = next at *
 generalize winv lv 0 (nb - 2) = vl at *
 generalize 4294967296 ^ (nb - 2) = D at *
 generalize winv lu j (nb - 2) = ul at *
 clear hn t1 t2 t3 hlo
 rcases Nat.lt_or_ge top a with h | h
 ·exfalso
  have h4 : (top * 4294967296 + next) * D + vl < (top * 4294967296 + 4294967296) * D := by
   have h6 : (top * 4294967296 + next + 1) * D ≤ (top * 4294967296 + 4294967296) * D := Nat.mul_le_mul (show top * 4294967296 + next + 1 ≤ top * 4294967296 + 4294967296 from by omega) (Nat.le_refl D)
   rw [Nat.add_mul (top * 4294967296 + next) 1 D, Nat.one_mul] at h6
   exact Nat.lt_of_lt_of_le (Nat.add_lt_add_left hvl _) h6
  have h5 : (4294967296 * (top * 4294967296 + 4294967296)) * D ≤ ((a * 4294967296 + b) * 4294967296 + c) * D :=
   Nat.mul_le_mul (show 4294967296 * (top * 4294967296 + 4294967296) ≤ (a * 4294967296 + b) * 4294967296 + c from by omega) (Nat.le_refl D)
  rw [Nat.mul_assoc] at h5
  exact absurd (Nat.lt_of_lt_of_le (Nat.lt_of_le_of_lt (Nat.le_trans h5 (Nat.le_add_right _ ul)) hW) (Nat.mul_le_mul_left _ (Nat.le_of_lt h4))) (Nat.lt_irrefl _)
 ·exact h
theorem round_right {W V g l' : Nat} (hV : 0 < V) (h1 : W / V ≤ g) (h2 : l' + g * V = W) : g = W / V ∧ l' = W % V := by
 have : g ≤ W / V := by rw [Nat.le_div_iff_mul_le hV]; omega
 have e : g = W / V := by omega
 refine ⟨e, ?_⟩
 have := Nat.div_add_mod W V
 rw [← e, Nat.mul_comm] at this; omega
theorem round_over {W V g P l' l'' r' : Nat} (hV : 0 < V) (hVP : V < P) (h1 : g ≤ W / V + 1) (h2 : l' + g * V = W + P) (hl' : l' < P) (h3 : l'' + P * r' = l' + V) (hl'' : l'' < P) : g - 1 = W / V ∧ l'' = W % V ∧ 0 < g := by
 have hg : W < g * V := by omega
 have h4 : W / V < g := by rw [Nat.div_lt_iff_lt_mul hV]; exact hg
 have e : g = W / V + 1 := by omega
 have h5 := Nat.div_add_mod W V
 have h6 := Nat.mod_lt W hV
 have e2 : g * V = V * (W / V) + V := by rw [e, Nat.add_mul, Nat.mul_comm]; omega
 have h7 : l'' + P * r' = W % V + P := by omega
 refine ⟨by rw [e]; rfl, ?_, by rw [e]; exact Nat.succ_pos _⟩
 clear h1 h2 h3 h4 h5 e2 e
 match r' with
 | 0 => omega
 | 1 => omega
 | r + 2 =>
  exfalso
  have : P * 2 ≤ P * (r + 2) := Nat.mul_le_mul_left _ (by omega)
  omega
theorem round_inv {lu lu' lq : List Nat} {j m W qd V S : Nat} (hW : winv lu j m = W) (hW' : winv lu' j m = W % V) (hqd : qd = W / V) (hz : val (lu.drop (j + m)) = 0) (hsame : ∀ i, i < j ∨ j + m ≤ i → gd lu' i = gd lu i)
  (hj : j < lq.length) (hq0 : gd lq j = 0) (h : val lu + V * val lq = S) : val lu' + V * val (lq.set j qd) = S ∧ val (lu'.drop (j + m)) = 0 ∧ val (lu'.drop j) = W % V := by
 have e1 := val_window lu j m
 have e2 := val_window lu' j m
 have hz' : val (lu'.drop (j + m)) = 0 := by
  rw [← hz]; exact val_ext fun i => by rw [gd_drop, gd_drop]; exact hsame _ (.inr (by omega))
 have hlow : winv lu' 0 j = winv lu 0 j := winv_congr 0 j fun i _ h2 => hsame i (.inl (by omega))
 have hs := val_set lq j qd hj
 rw [hq0, Nat.mul_zero, Nat.add_zero] at hs
 rw [hz, hW, Nat.mul_zero, Nat.add_zero] at e1
 rw [hz', hW', hlow, Nat.mul_zero, Nat.add_zero] at e2
 have h5 := Nat.div_add_mod W V
 refine ⟨?_, hz', ?_⟩
 ·rw [hs, e2, ← h, e1, Nat.mul_add, hqd]
  have : 4294967296 ^ j * W = V * (4294967296 ^ j * (W / V)) + 4294967296 ^ j * (W % V) := by
   rw [Nat.mul_left_comm, ← Nat.mul_add, h5]
  omega
 ·have e3 := val_window (lu'.drop j) 0 m
  rw [List.drop_drop, Nat.zero_add, hz', Nat.mul_zero, Nat.add_zero, Nat.pow_zero, Nat.one_mul, winv_zero, Nat.zero_add] at e3
  rw [e3, ← hW']; rfl
theorem wd_top {n : Nat} (h : n ≠ 0) : 0 < (wd n).length ∧ gd (wd n) ((wd n).length - 1) ≠ 0 ∧ blen n = 32 * ((wd n).length - 1) + blen (gd (wd n) ((wd n).length - 1)) := by
 have h1 : 0 < (wd n).length := by rw [wd_pos h]; simp
 have h2 : gd (wd n) ((wd n).length - 1) ≠ 0 := by
  rcases clean_wd n with hc | hc
  ·rw [hc] at h1; cases h1
  ·exact hc
 refine ⟨h1, h2, ?_⟩
 have e := qbm (wd n) ((wd n).length - 1)
 rw [show (wd n).length - 1 + 1 = (wd n).length from by omega, List.take_of_length_le (Nat.le_refl _), qaz] at e
 have := blen_top (val_take_lt (qeh n) ((wd n).length - 1)) h2
 rw [← e] at this; exact this
theorem wd_two {n : Nat} (h : 4294967296 ≤ n) : 2 ≤ (wd n).length := by
 rcases Nat.lt_or_ge 1 (wd n).length with h1 | h1
 ·exact h1
 ·have h2 := qem (qeh n)
  rw [qaz] at h2
  have h3 : 4294967296 ^ (wd n).length ≤ 4294967296 ^ 1 := Nat.pow_le_pow_right (by decide) h1
  rw [Nat.pow_one] at h3
  omega
theorem guess_down {g top r hd : Nat} (h : g * top + r = hd) (hg : 0 < g) : (g - 1) * top + (r + top) = hd := by
 obtain ⟨k, rfl⟩ : ∃ k, g = k + 1 := ⟨g - 1, by omega⟩
 rw [Nat.add_sub_cancel]; rw [Nat.add_mul, Nat.one_mul] at h; omega
theorem round_head {lu : List Nat} (hu : U32 lu) {j nb V : Nat} (hV : V < 4294967296 ^ nb) (h : val (lu.drop (j + 1)) < V) :
  winv lu j (nb + 1) = val (lu.drop j) ∧ winv lu j (nb + 1) < 4294967296 * V ∧ val (lu.drop (j + (nb + 1))) = 0 := by
 have h1 : val (lu.drop j) < 4294967296 * V := by
  rw [val_drop_at]
  have := hu j
  omega
 have h2 : val (lu.drop j) < 4294967296 ^ (nb + 1) := by
  rw [Nat.pow_succ, Nat.mul_comm]
  exact Nat.lt_of_lt_of_le h1 (Nat.mul_le_mul_left _ (Nat.le_of_lt hV))
 have h3 := winv_all hu h2
 refine ⟨h3, by rw [h3]; exact h1, ?_⟩
 rw [← List.drop_drop, val_drop (hu.drop j), Nat.div_eq_of_lt h2]
theorem first_round {lu : List Nat} (hu : U32 lu) {A s na nb V k : Nat} (hA : A < 4294967296 ^ na) (hl : val lu = A * 2 ^ s) (hs : s < 32) (hk : k + nb = na + 1) (hnb : 0 < nb) (hlo : 2147483648 * 4294967296 ^ (nb - 1) ≤ V) : val (lu.drop k) < V := by
 rw [val_drop hu, hl]
 refine Nat.lt_of_lt_of_le ?_ hlo
 rw [Nat.div_lt_iff_lt_mul (Nat.pow_pos (by decide)), Nat.mul_assoc, ← Nat.pow_add, show nb - 1 + k = na from by omega]
 have h1 : 2 ^ s ≤ 2147483648 := by rw [show (2147483648 : Nat) = 2 ^ 31 from rfl]; exact Nat.pow_le_pow_right (by decide) (by omega)
 have h2 : A * 2 ^ s < 4294967296 ^ na * 2 ^ s := Nat.mul_lt_mul_of_pos_right hA (Nat.two_pow_pos s)
 have h3 : 4294967296 ^ na * 2 ^ s ≤ 2147483648 * 4294967296 ^ na := by rw [Nat.mul_comm]; exact Nat.mul_le_mul_right _ h1
 exact Nat.lt_of_lt_of_le h2 h3
theorem wd_add_len (m n : Nat) : (wd (m + n)).length ≤ max (wd m).length (wd n).length + 1 := by
 apply qcr
 have h1 := qem (qeh m)
 have h2 := qem (qeh n)
 rw [qaz] at h1 h2
 obtain ⟨k, hk⟩ : ∃ k, k = max (wd m).length (wd n).length := ⟨_, rfl⟩
 have e1 : 4294967296 ^ (wd m).length ≤ 4294967296 ^ k := Nat.pow_le_pow_right (by decide) (by omega)
 have e2 : 4294967296 ^ (wd n).length ≤ 4294967296 ^ k := Nat.pow_le_pow_right (by decide) (by omega)
 rw [← hk, Nat.pow_succ]
 omega
theorem qbn (m n : Nat) : (wd (m * n)).length ≤ (wd m).length + (wd n).length := by
 apply qcr
 have h1 := qem (qeh m)
 have h2 := qem (qeh n)
 rw [qaz] at h1 h2
 rw [Nat.pow_add]
 exact Nat.mul_lt_mul_of_lt_of_le h1 (Nat.le_of_lt h2) (Nat.pow_pos (by decide))
theorem wd_one {n : Nat} (h : n < 4294967296) (h0 : n ≠ 0) : wd n = [n] := by rw [wd_pos h0, Nat.mod_eq_of_lt h, Nat.div_eq_of_lt h, qca]
end Go.Proofs.YthhgfhdmfhnklaaGreatDoor
namespace Go.Proofs.YthhgfhdmfhnklaaGreatDoor
def sgn (s : Bool) (n : Nat) : Int := if s then -(n : Int) else n
def qm (s : Bool) (n d : Nat) : Rat := mkRat (sgn s n) d
def ng (q : Rat) : Bool := decide (q < 0)
def nn (q : Rat) : Nat := q.num.natAbs
def dn (q : Rat) : Nat := if q = 0 then 0 else q.den
def cq (p q : Rat) : Int := if p < q then -1 else if p = q then 0 else 1

theorem sgn_natAbs (s : Bool) (n : Nat) : (sgn s n).natAbs = n := by unfold sgn; split <;> simp
theorem sgn_zero (s : Bool) : sgn s 0 = 0 := by unfold sgn; split <;> rfl
theorem qm_zero (s : Bool) (d : Nat) : qm s 0 d = 0 := by unfold qm; rw [sgn_zero, Rat.zero_mkRat]
theorem ng_zero : ng 0 = false := rfl
theorem nn_zero : nn 0 = 0 := rfl
theorem dn_zero : dn 0 = 0 := rfl
theorem dn_pos {q : Rat} (h : q ≠ 0) : dn q = q.den := by unfold dn; rw [if_neg h]
theorem qfm {q : Rat} : nn q = 0 ↔ q = 0 := by
 unfold nn; rw [Int.natAbs_eq_zero, Rat.num_eq_zero]
theorem num_sgn (q : Rat) : q.num = sgn (ng q) (nn q) := by
 unfold sgn ng nn
 by_cases h : q < 0
 ·have : ¬ 0 ≤ q := by grind
  rw [← Rat.num_nonneg] at this
  rw [if_pos (decide_eq_true h)]; omega
 ·have : 0 ≤ q := by grind
  rw [← Rat.num_nonneg] at this
  rw [if_neg (by simp [h])]; omega
theorem qm_self (q : Rat) : qm (ng q) (nn q) q.den = q := by
 unfold qm; rw [← num_sgn, Rat.mkRat_self]
theorem qm_neg_iff {s : Bool} {n d : Nat} (hd : d ≠ 0) : qm s n d < 0 ↔ s = true ∧ n ≠ 0 := by
 have hd' : (0 : Rat) < (d : Rat) := Rat.natCast_pos.2 (by omega)
 unfold qm
 rw [Rat.mkRat_eq_div, Rat.div_lt_iff hd', Rat.zero_mul]
 rw [show (0 : Rat) = ((0 : Int) : Rat) from rfl, Rat.intCast_lt_intCast]
 unfold sgn
 cases s
 ·simp
 ·simp; omega
theorem ng_qm {s : Bool} {n d : Nat} (hd : d ≠ 0) (hn : n ≠ 0) : ng (qm s n d) = s := by
 unfold ng
 cases s
 ·exact decide_eq_false (fun h => by have := (qm_neg_iff hd).1 h; simp at this)
 ·exact decide_eq_true ((qm_neg_iff hd).2 ⟨rfl, hn⟩)
theorem qm_ne_zero {s : Bool} {n d : Nat} (hd : d ≠ 0) (hn : n ≠ 0) : qm s n d ≠ 0 := by
 unfold qm
 rw [Rat.mkRat_ne_zero hd]
 unfold sgn; split <;> omega
theorem nn_qm {s : Bool} {n d : Nat} (hd : d ≠ 0) : nn (qm s n d) = n / Nat.gcd n d := by
 unfold nn qm
 rw [Rat.num_mkRat, if_neg hd, sgn_natAbs, Nat.gcd_comm d n, Int.natAbs_ediv_of_dvd, sgn_natAbs, Int.natAbs_natCast]
 rw [← Int.dvd_natAbs, sgn_natAbs, Int.ofNat_dvd]
 exact Nat.gcd_dvd_left n d
theorem den_qm {s : Bool} {n d : Nat} (hd : d ≠ 0) : (qm s n d).den = d / Nat.gcd n d := by
 unfold qm
 rw [Rat.den_mkRat, if_neg hd, sgn_natAbs, Nat.gcd_comm d n]
theorem dn_qm {s : Bool} {n d : Nat} (hd : d ≠ 0) (hn : n ≠ 0) : dn (qm s n d) = d / Nat.gcd n d := by
 rw [dn_pos (qm_ne_zero hd hn), den_qm hd]
theorem nn_gcd (q : Rat) : Nat.gcd (nn q) q.den = 1 := q.reduced
theorem fields_qm {s : Bool} {n d : Nat} (hd : d ≠ 0) (hn : n ≠ 0) (hg : Nat.gcd n d = 1) : ng (qm s n d) = s ∧ nn (qm s n d) = n ∧ dn (qm s n d) = d := by
 refine ⟨ng_qm hd hn, ?_, ?_⟩
 ·rw [nn_qm hd, hg, Nat.div_one]
 ·rw [dn_qm hd hn, hg, Nat.div_one]
theorem qm_eq_div (s : Bool) (n d : Nat) : qm s n d = ((sgn s n : Int) : Rat) / (d : Rat) := by unfold qm; rw [Rat.mkRat_eq_div]
theorem den_ne (q : Rat) : (q.den : Rat) ≠ 0 := fun h => q.den_nz (Rat.natCast_eq_zero_iff.1 h)
theorem self_div (q : Rat) : q = ((sgn (ng q) (nn q) : Int) : Rat) / (q.den : Rat) := by rw [← qm_eq_div, qm_self]
theorem sgn_not (s : Bool) (n : Nat) : sgn (!s) n = -sgn s n := by unfold sgn; cases s <;> simp
theorem sgn_mul (s t : Bool) (m n : Nat) : sgn (s != t) (m * n) = sgn s m * sgn t n := by
 unfold sgn; cases s <;> cases t <;> simp [Int.neg_mul, Int.mul_neg]
theorem sgn_mulN (s : Bool) (m n : Nat) : sgn s (m * n) = sgn s m * (n : Int) := by
 unfold sgn; cases s <;> simp [Int.neg_mul]
theorem sgn_add (s : Bool) (m n : Nat) : sgn s (m + n) = sgn s m + sgn s n := by
 unfold sgn; cases s <;> simp; omega
theorem sgn_sub (s : Bool) {m n : Nat} (h : n ≤ m) : sgn s (m - n) = sgn s m + sgn (!s) n := by
 unfold sgn; cases s <;> simp <;> omega
theorem q_neg (p : Rat) : qm (!ng p) (nn p) p.den = -p := by
 have h := self_div p
 rw [qm_eq_div, sgn_not, Rat.intCast_neg]
 have hd := den_ne p
 grind
theorem qeg {a b : Nat} (ha : a ≠ 0) (hb : b ≠ 0) : a * b ≠ 0 := Nat.mul_ne_zero ha hb
theorem q_mul (p q : Rat) : qm (ng p != ng q) (nn p * nn q) (p.den * q.den) = p * q := by
 have h1 := self_div p
 have h2 := self_div q
 have d1 := den_ne p
 have d2 := den_ne q
 rw [qm_eq_div, sgn_mul, Rat.intCast_mul, Rat.natCast_mul]
 grind
theorem q_add_same (p q : Rat) (h : ng p = ng q) : qm (ng p) (nn p * q.den + nn q * p.den) (p.den * q.den) = p + q := by
 have h1 := self_div p
 have h2 := self_div q
 have d1 := den_ne p
 have d2 := den_ne q
 rw [← h] at h2
 rw [qm_eq_div, sgn_add, sgn_mulN, sgn_mulN,
  Rat.intCast_add, Rat.intCast_mul, Rat.intCast_mul, Rat.natCast_mul, Rat.intCast_natCast, Rat.intCast_natCast]
 grind
theorem q_add_diff (p q : Rat) (h : ng p ≠ ng q) (hle : nn q * p.den ≤ nn p * q.den) : qm (ng p) (nn p * q.den - nn q * p.den) (p.den * q.den) = p + q := by
 have h1 := self_div p
 have h2 := self_div q
 have d1 := den_ne p
 have d2 := den_ne q
 have e : ng q = !ng p := by revert h; cases ng p <;> cases ng q <;> simp
 rw [e] at h2
 rw [qm_eq_div, sgn_sub _ hle, sgn_mulN, sgn_mulN,
  Rat.intCast_add, Rat.intCast_mul, Rat.intCast_mul, Rat.natCast_mul, Rat.intCast_natCast, Rat.intCast_natCast]
 grind
theorem q_add_diff' (p q : Rat) (h : ng p ≠ ng q) (hle : nn p * q.den ≤ nn q * p.den) : qm (ng q) (nn q * p.den - nn p * q.den) (p.den * q.den) = p + q := by
 have := q_add_diff q p (fun e => h e.symm) hle
 rw [Nat.mul_comm q.den p.den, Rat.add_comm] at this; exact this
theorem cq_le (p q : Rat) : cq p q ≤ 0 ↔ p ≤ q := by
 unfold cq; split
 ·grind
 ·split <;> grind
def rl (q : Rat) : Nat := max (wd (nn q)).length (wd q.den).length
theorem rl_n (q : Rat) : (wd (nn q)).length ≤ rl q := Nat.le_max_left _ _
theorem rl_d (q : Rat) : (wd q.den).length ≤ rl q := Nat.le_max_right _ _
theorem rl_qm {s : Bool} {n d L : Nat} (hd : d ≠ 0) (h1 : (wd n).length ≤ L) (h2 : (wd d).length ≤ L) : rl (qm s n d) ≤ L := by
 unfold rl
 rw [nn_qm hd, den_qm hd]
 exact Nat.max_le.2 ⟨Nat.le_trans (qbk (Nat.div_le_self _ _)) h1, Nat.le_trans (qbk (Nat.div_le_self _ _)) h2⟩
theorem rl_mul (p q : Rat) : rl (p * q) ≤ rl p + rl q := by
 rw [← q_mul]
 refine rl_qm (qeg p.den_nz q.den_nz) ?_ ?_
 ·exact Nat.le_trans (qbn _ _) (Nat.add_le_add (rl_n p) (rl_n q))
 ·exact Nat.le_trans (qbn _ _) (Nat.add_le_add (rl_d p) (rl_d q))
theorem rl_neg (p : Rat) : rl (-p) = rl p := by
 unfold rl nn; rw [Rat.neg_num, Rat.neg_den, Int.natAbs_neg]
theorem rl_add (p q : Rat) : rl (p + q) ≤ rl p + rl q + 1 := by
 have a1 : (wd (nn p * q.den)).length ≤ rl p + rl q := Nat.le_trans (qbn _ _) (Nat.add_le_add (rl_n p) (rl_d q))
 have a2 : (wd (nn q * p.den)).length ≤ rl p + rl q := by rw [Nat.mul_comm]; exact Nat.le_trans (qbn _ _) (Nat.add_le_add (rl_d p) (rl_n q))
 have a3 : (wd (p.den * q.den)).length ≤ rl p + rl q := Nat.le_trans (qbn _ _) (Nat.add_le_add (rl_d p) (rl_d q))
 have nz := qeg p.den_nz q.den_nz
 by_cases h : ng p = ng q
 ·rw [← q_add_same p q h]
  refine rl_qm nz ?_ (by omega)
  have := wd_add_len (nn p * q.den) (nn q * p.den); omega
 ·rcases Nat.le_total (nn q * p.den) (nn p * q.den) with h2 | h2
  ·rw [← q_add_diff p q h h2]
   exact rl_qm nz (Nat.le_trans (qbk (Nat.sub_le _ _)) (by omega)) (by omega)
  ·rw [← q_add_diff' p q h h2]
   exact rl_qm nz (Nat.le_trans (qbk (Nat.sub_le _ _)) (by omega)) (by omega)
theorem rl_sub (p q : Rat) : rl (p - q) ≤ rl p + rl q + 1 := by
 rw [Rat.sub_eq_add_neg]; have := rl_add p (-q); rwa [rl_neg] at this
theorem rl_int (n : Int) : rl (n : Rat) = max (wd n.natAbs).length 1 := by
 unfold rl nn
 rw [Rat.num_intCast, Rat.den_intCast, show wd 1 = [1] from wd_one (by decide) (by decide)]; rfl
theorem qeo : rl 0 = 1 := by
 have := rl_int 0
 rw [show (0 : Int).natAbs = 0 from rfl, qca] at this; exact this
theorem qm_one (s : Bool) (n : Nat) : qm s n 1 = ((sgn s n : Int) : Rat) := by
 rw [qm_eq_div]
 have : ((1 : Nat) : Rat) = 1 := rfl
 rw [this]; grind
def fl (p : Rat) : Rat := ((p.floor : Int) : Rat)
theorem rl_one : rl 1 = 1 := by
 have := rl_int 1
 rw [show (1 : Int).natAbs = 1 from rfl, show wd 1 = [1] from wd_one (by decide) (by decide)] at this; exact this
def Vld (s : Bool) (a b : List Nat) : Prop := (a = [] ∧ b = [] ∧ s = false) ∨ (a ≠ [] ∧ b ≠ [] ∧ Clean a ∧ Clean b ∧ Nat.gcd (val a) (val b) = 1)
instance (l : List Nat) : Decidable (Clean l) := by unfold Clean; exact inferInstance
instance (s : Bool) (a b : List Nat) : Decidable (Vld s a b) := by unfold Vld; exact inferInstance
def rq (s : Bool) (a b : List Nat) : Rat := if Vld s a b then qm s (val a) (val b) else 0
theorem val_ne {l : List Nat} (hu : U32 l) (hc : Clean l) (h : l ≠ []) : val l ≠ 0 := by
 intro h0
 have := clean_eq hu hc
 rw [h0, qca] at this; exact h this
theorem wd_ne {n : Nat} (h : n ≠ 0) : wd n ≠ [] := by rw [wd_pos h]; simp
theorem vld_zero : Vld false [] [] := .inl ⟨rfl, rfl, rfl⟩
theorem rq_zero : rq false [] [] = 0 := by
 unfold rq; rw [if_pos vld_zero]; exact qm_zero _ _
theorem vld_fields {s : Bool} {a b : List Nat} (ha : U32 a) (hb : U32 b) (h : Vld s a b) : s = ng (rq s a b) ∧ a = wd (nn (rq s a b)) ∧ b = wd (dn (rq s a b)) := by
 have hr : rq s a b = qm s (val a) (val b) := by unfold rq; rw [if_pos h]
 rcases h with ⟨rfl, rfl, rfl⟩ | ⟨h1, h2, h3, h4, h5⟩
 ·rw [rq_zero, ng_zero, nn_zero, dn_zero, qca]; exact ⟨rfl, rfl, rfl⟩
 ·have v1 := val_ne ha h3 h1
  have v2 := val_ne hb h4 h2
  obtain ⟨e1, e2, e3⟩ := fields_qm (s := s) v2 v1 h5
  rw [hr, e1, e2, e3]
  exact ⟨rfl, clean_eq ha h3, clean_eq hb h4⟩
theorem vld_self (q : Rat) : Vld (ng q) (wd (nn q)) (wd (dn q)) ∧ rq (ng q) (wd (nn q)) (wd (dn q)) = q := by
 by_cases h : q = 0
 ·subst h
  rw [ng_zero, nn_zero, dn_zero, qca]; exact ⟨vld_zero, rq_zero⟩
 ·have h1 : nn q ≠ 0 := fun e => h (qfm.1 e)
  have hv : Vld (ng q) (wd (nn q)) (wd (dn q)) := by
   right
   rw [dn_pos h]
   refine ⟨wd_ne h1, wd_ne q.den_nz, clean_wd _, clean_wd _, ?_⟩
   rw [qaz, qaz]; exact nn_gcd q
  refine ⟨hv, ?_⟩
  unfold rq
  rw [if_pos hv, qaz, qaz, dn_pos h, qm_self]
theorem rq_invalid {s : Bool} {a b : List Nat} (h : ¬ Vld s a b) : rq s a b = 0 := by unfold rq; rw [if_neg h]
theorem rl_rq {s : Bool} {a b : List Nat} {L : Nat} (ha : U32 a) (hb : U32 b) (h1 : a.length ≤ L) (h2 : b.length ≤ L) (hL : 1 ≤ L) : rl (rq s a b) ≤ L := by
 by_cases h : Vld s a b
 ·by_cases h0 : rq s a b = 0
  ·rw [h0, qeo]; exact hL
  ·obtain ⟨_, e2, e3⟩ := vld_fields ha hb h
   unfold rl
   rw [dn_pos h0] at e3
   rw [← e2, ← e3]; omega
 ·rw [rq_invalid h, qeo]; exact hL
theorem prob_iff (p : Rat) : (ng p = false ∧ nn p ≤ dn p) ↔ 0 ≤ p ∧ p ≤ 1 := by
 by_cases h0 : p = 0
 ·subst h0; decide
 rw [dn_pos h0]
 have hs := num_sgn p
 have e1 : ng p = false ↔ 0 ≤ p := by unfold ng; rw [decide_eq_false_iff_not]; grind
 rw [e1]
 constructor
 ·rintro ⟨h1, h2⟩
  refine ⟨h1, ?_⟩
  rw [e1.2 h1] at hs
  rw [Rat.le_iff]; unfold sgn at hs; simp at hs ⊢; omega
 ·rintro ⟨h1, h2⟩
  refine ⟨h1, ?_⟩
  rw [e1.2 h1] at hs
  rw [Rat.le_iff] at h2; unfold sgn at hs; simp at hs h2; omega
def mx (p q : Rat) : Rat := if q ≤ p then p else q
end Go.Proofs.YthhgfhdmfhnklaaGreatDoor
namespace Go.Proofs.YthhgfhdmfhnklaaGreatDoor
open Go.RowKit Go.ChangeShapes Go.WideShapes
section
variable {P : Program} {ops : Array Oper} {md : Region.Mode}

def qcd (ops : Array Oper) (j : Nat) : Option Tmp := (ops[j]?).bind (·.dst)
def qba (ops : Array Oper) (listed : Nat → Bool) (vals : Nat → Value) (a : Act) : Nat → Act
 | 0 => a
 | n + 1 => if listed n then (qba ops listed vals a n).put (qcd ops n) (vals n) else qba ops listed vals a n
theorem putsTo_congr {l l' : Nat → Bool} {v v' : Nat → Value} {a : Act} {n : Nat} (h : ∀ j, j < n → l j = l' j ∧ (l j = true → v j = v' j)) : qba ops l v a n = qba ops l' v' a n := by
 induction n with
 | zero => rfl
 | succ n ih =>
  obtain ⟨h1, h2⟩ := h n (by omega)
  unfold qba
  rw [ih (fun j hj => h j (by omega)), ← h1]
  by_cases hl : l n = true
  ·rw [if_pos hl, if_pos hl, h2 hl]
  ·rw [if_neg hl, if_neg hl]
theorem putsTo_set {l : Nat → Bool} {vals : Nat → Value} {a : Act} {i : Nat} {v : Value} (hi : l i = false) :
  ∀ n, i < n → (∀ j, j < n → j ≠ i → ∀ d, qcd ops i = some d → qcd ops j ≠ some d) →
  qba ops (fun j => if j = i then true else l j) (fun j => if j = i then v else vals j) a n = (qba ops l vals a n).put (qcd ops i) v := by
 intro n
 induction n with
 | zero => intro h; omega
 | succ n ih =>
  intro hin hd
  unfold qba
  by_cases hn : n = i
  ·subst hn
   have e := putsTo_congr (ops := ops) (l := fun j => if j = n then true else l j) (l' := l) (v := fun j => if j = n then v else vals j) (v' := vals) (a := a) (n := n) (fun j hj => by
    have : j ≠ n := by omega
    exact ⟨by show (if j = n then true else l j) = l j; rw [if_neg this], fun _ => by show (if j = n then v else vals j) = vals j; rw [if_neg this]⟩)
   rw [e]
   simp only [if_true, hi, Bool.false_eq_true, if_false]
  ·rw [if_neg hn, if_neg hn, ih (by omega) (fun j hj => hd j (by omega))]
   by_cases hl : l n = true
   ·rw [if_pos hl, if_pos hl, Act.put_comm _ v (vals n) (hd n (by omega) hn)]
   ·rw [if_neg hl, if_neg hl]
theorem getD_set_self (t : Array Value) (d : Nat) (v u : Value) : (t.setIfInBounds d v).getD d u = if d < t.size then v else u := by
 by_cases h : d < t.size <;> simp [h]
theorem putsTo_eval {l : Nat → Bool} {vals : Nat → Value} {a : Act} {x : Operand} : ∀ n, (∀ t, x = .tmp t → ∀ j, j < n → qcd ops j = some t → l j = true) →
  (qba ops l vals a n).eval x = (qba ops (fun _ => true) vals a n).eval x ∧ (qba ops l vals a n).tmps.size = (qba ops (fun _ => true) vals a n).tmps.size := by
 have hsz : ∀ (a : Act) (d : Option Tmp) (v : Value), (a.put d v).tmps.size = a.tmps.size := fun a d v => by cases d <;> simp [Act.put]
 intro n
 induction n with
 | zero => intro _; exact ⟨rfl, rfl⟩
 | succ n ih =>
  intro h
  obtain ⟨h1, h2⟩ := ih (fun t ht j hj => h t ht j (by omega))
  unfold qba
  rw [if_pos rfl]
  by_cases hl : l n = true
  ·rw [if_pos hl, hsz, hsz]
   refine ⟨?_, h2⟩
   cases hd : qcd ops n with
   | none => exact h1
   | some d =>
    cases x with
    | tmp t =>
     by_cases htd : d = t
     ·subst htd
      show ((qba ops l vals a n).tmps.setIfInBounds d (vals n)).getD d undef = ((qba ops (fun _ => true) vals a n).tmps.setIfInBounds d (vals n)).getD d undef
      rw [getD_set_self, getD_set_self, h2]
     ·rw [Act.eval_put (fun e he hx => htd (by cases he; cases hx; rfl)), Act.eval_put (fun e he hx => htd (by cases he; cases hx; rfl))]; exact h1
    | _ => exact h1
  ·rw [if_neg hl, hsz]
   refine ⟨?_, h2⟩
   rw [Act.eval_put (fun d hd hx => hl (h d hx n (by omega) hd))]; exact h1

def StepOK (P : Program) (o : Oper) (a : Act) (w : World) (R : Value → World → Prop) : Prop :=
 match (execOp a.eval o).run P w with
 | .ok (.value v) w' => R v w'
 | .ok (.enter f args) w' => Calls P f args w' fun e w'' => ∃ v, e = .returned v ∧ R v w''
 | _ => False
def StepG (P : Program) (ops : Array Oper) (o : Oper) (a : Act) (w : World) (R : Value → World → Prop) : Prop :=
 if Region.wanted o (yielded ops a.tmps) = true then StepOK P o a w R else R undef w
theorem wpOp_of_stepG {o : Oper} {a a' : Act} {w : World} {i : Nat} {R : Value → World → Prop} {Q : Exit → Act → World → Prop} {K : Act → World → Prop} (hi : ops[i]? = some o)
  (hg : Region.wanted o (yielded ops a.tmps) = Region.wanted o (yielded ops a'.tmps))
  (he : execOp a.eval o = execOp a'.eval o) (h : StepG P ops o a' w R) (hK : ∀ v w', R v w' → K (a.put o.dst v) w') : wpOp P ops Q i K a w := by
 unfold wpOp
 simp only [hi]
 unfold StepG at h
 rw [hg]
 by_cases hw : Region.wanted o (yielded ops a'.tmps) = true
 ·rw [if_pos hw] at h ⊢
  left
  unfold StepOK at h
  unfold Oper.wp
  rw [he]
  generalize (execOp a'.eval o).run P w = r at h
  cases r with
  | ok n w' =>
   cases n <;> simp only [Oper.upon] at h ⊢
   case value v => exact hK _ _ h
   case enter f args => exact h.mono fun e w'' ⟨v, hv, hr⟩ => by subst hv; exact hK _ _ hr
   all_goals exact h.elim
  | halt x w' => simp at h
 ·rw [if_neg hw] at h ⊢
  exact hK _ _ h
theorem putsTo_wanted {l : Nat → Bool} {vals : Nat → Value} {a : Act} {o : Oper} (n : Nat) (h : ∀ g b, o.guard = some (g, b) → ∀ t, qcd ops g = some t → ∀ j, j < n → qcd ops j = some t → l j = true) :
  Region.wanted o (yielded ops (qba ops l vals a n).tmps) = Region.wanted o (yielded ops (qba ops (fun _ => true) vals a n).tmps) := by
 unfold Region.wanted
 cases hg : o.guard with
 | none => rfl
 | some gw =>
  obtain ⟨g, want⟩ := gw
  have hy : yielded ops (qba ops l vals a n).tmps g = yielded ops (qba ops (fun _ => true) vals a n).tmps g := by
   unfold yielded
   cases ht : (ops[g]?).bind (·.dst) with
   | none => rfl
   | some t =>
    obtain ⟨h1, h2⟩ := putsTo_eval (ops := ops) (l := l) (vals := vals) (a := a) (x := .tmp t) n (fun t' ht' j hj hd => h g want hg t ht j hj (by rw [hd]; cases ht'; rfl))
    have h3 : (qba ops l vals a n).tmps[t]? = (qba ops (fun _ => true) vals a n).tmps[t]? := by
     have h4 : (qba ops l vals a n).tmps.getD t undef = (qba ops (fun _ => true) vals a n).tmps.getD t undef := h1
     rcases Nat.lt_or_ge t (qba ops l vals a n).tmps.size with hl | hl
     ·have hl2 : t < (qba ops (fun _ => true) vals a n).tmps.size := by rw [← h2]; exact hl
      rw [Array.getElem?_eq_getElem hl, Array.getElem?_eq_getElem hl2]
      simp [hl, hl2] at h4
      rw [h4]
     ·rw [Array.getElem?_eq_none hl, Array.getElem?_eq_none (by omega)]
    show (match (some t).bind ((qba ops l vals a n).tmps[·]?) with | some (.bool b) => some b | _ => none) = (match (some t).bind ((qba ops (fun _ => true) vals a n).tmps[·]?) with | some (.bool b) => some b | _ => none)
    simp only [Option.bind_some, h3]
  simp only [hy]

def sinkF (md : Region.Mode) (ops : Array Oper) (fl : List Nat) (n : Nat) : Bool :=
 (List.range n).all fun i => fl.contains i || (List.range (n + 1)).any fun j => decide (i < j) && !fl.contains j && Region.waitsFor md ops j i
def floatB (md : Region.Mode) (ops : Array Oper) (fl : List Nat) : Bool :=
 fl.all fun i => match ops[i]? with
  | none => false
  | some oi => oi.guard.isNone && (List.range ops.size).all fun j => j == i || Region.waitsFor md ops j i || Region.waitsFor md ops i j || match ops[j]? with
   | some oj => oi.apart ops oj
   | none => true
def headB (md : Region.Mode) (ops : Array Oper) (fl : List Nat) (n : Nat) : Bool :=
 Region.noSelect ops && decide (n < ops.size) && (sinkF md ops fl n && floatB md ops fl && fl.all (fun i => decide (i < n))) && Region.chainB md ops n &&
 ((List.range n).all fun k => match ops[k]? with
  | none => false
  | some o => (match o.guard with | none => true | some (g, _) => decide (g < n) && Region.waitsFor md ops k g) && (o.after.all fun e => !Region.binds md e || decide (e.on < k)) &&
   ((List.range n).all fun j => (j == k || o.dst.isNone || decide (qcd ops j ≠ o.dst)) &&
    (o.op.operands.all fun x => match x with
     | .tmp t => decide (qcd ops j ≠ some t) || Region.waitsFor md ops k j
     | _ => true))) &&
 Region.seqB md ops (ops.size - n) n ((Array.range ops.size).map fun i => decide (i < n))
theorem tail_waitsF {n : Nat} {fl : List Nat} {listed : Array Bool} (hs : sinkF md ops fl n = true) (hc : Region.chainB md ops n = true) (hn : n < ops.size) (inv : HeadInv md ops n listed) :
  ∀ (d i : Nat), n - i = d → i < n → fl.contains i = false → listed.getD i true = false → ∀ t, n ≤ t → t ∉ Region.ready md ops listed := by
 intro d
 induction d using Nat.strongRecOn with
 | _ d ih =>
  intro i hd hi hfi hun t ht hr
  obtain ⟨_, ot, hot, hall⟩ := mem_ready.1 hr
  have htlt : t < ops.size := (Array.getElem?_eq_some_iff.1 hot).1
  by_cases htn : t = n
  ·subst htn
   have h1 := List.all_eq_true.1 hs i (List.mem_range.2 hi)
   rw [hfi, Bool.false_or] at h1
   obtain ⟨j, hj, hj2⟩ := List.any_eq_true.1 h1
   simp only [Bool.and_eq_true, decide_eq_true_eq, Bool.not_eq_true'] at hj2
   obtain ⟨oj, hoj, e, he, hb, hon⟩ := Region.waitsFor_spec hj2.2
   have hjle : j ≤ t := by have := List.mem_range.1 hj; omega
   by_cases hjt : j = t
   ·subst hjt
    have : oj = ot := Option.some.inj (hoj.symm.trans hot)
    subst this
    have h2 := hall e he hb
    rw [hon, getD_both hun] at h2
    cases h2
   ·cases hl : listed.getD j false with
    | true =>
     have h2 := inv.closed j oj hoj hl e he hb
     rw [hon, getD_both hun] at h2
     cases h2
    | false =>
     have hjs : j < listed.size := by rw [inv.size]; omega
     exact ih (t - j) (by omega) j rfl (by omega) hj2.1.2 (getD_in hjs hl) t (Nat.le_refl _) hr
  ·have h1 := List.all_eq_true.1 hc t (List.mem_range.2 htlt)
   simp only [Bool.or_eq_true, decide_eq_true_eq] at h1
   rcases h1 with h1 | h1
   ·omega
   ·obtain ⟨o', ho', e, he, hb, hon⟩ := Region.waitsFor_spec h1
    have : o' = ot := Option.some.inj (ho'.symm.trans hot)
    subst this
    have h2 := hall e he hb
    rw [hon, getD_both (inv.tail (t - 1) (by omega) (by omega))] at h2
    cases h2

structure HeadOK (md : Region.Mode) (ops : Array Oper) (n k : Nat) (o : Oper) : Prop where
 guard : ∀ g b, o.guard = some (g, b) → g < n ∧ Region.waitsFor md ops k g = true
 early : ∀ e ∈ o.after, Region.binds md e = true → e.on < k
 dst : ∀ j, j < n → j ≠ k → ∀ d, o.dst = some d → qcd ops j ≠ some d
 reads : ∀ x ∈ o.op.operands, ∀ t, x = .tmp t → ∀ j, j < n → qcd ops j = some t → Region.waitsFor md ops k j = true
theorem headB_ok {n k : Nat} {fl : List Nat} {o : Oper} (h : headB md ops fl n = true) (hk : k < n) (ho : ops[k]? = some o) : HeadOK md ops n k o := by
 unfold headB at h
 simp only [Bool.and_eq_true] at h
 have h1 := List.all_eq_true.1 h.1.2 k (List.mem_range.2 hk)
 rw [ho] at h1
 simp only [Bool.and_eq_true, List.all_eq_true, List.mem_range] at h1
 obtain ⟨⟨g1, g2⟩, g3⟩ := h1
 refine ⟨fun g b hg => by
  rw [hg] at g1
  simpa using g1, fun e he hb => ?_, fun j hj hjk d hd => ?_, fun x hx t ht j hj hd => ?_⟩
 ·have := Array.all_eq_true_iff_forall_mem.1 g2 e he
  rw [hb] at this; simpa using this
 ·have := (g3 j hj).1
  rw [hd] at this
  simp only [Bool.or_eq_true, beq_iff_eq, Option.isNone_some, Bool.false_eq_true, or_false, decide_eq_true_eq] at this
  rcases this with h | h
  ·exact absurd h hjk
  ·exact h
 ·have := Array.all_eq_true_iff_forall_mem.1 (g3 j hj).2 x hx
  subst ht
  simp only [Bool.or_eq_true, decide_eq_true_eq] at this
  rcases this with h | h
  ·exact absurd hd h
  ·exact h

structure DrawInv (md : Region.Mode) (ops : Array Oper) (n : Nat) (F : Nat → Value → World → Prop) (AL : Nat → Bool) (w0 : World) (a0 : Act) (listed : Array Bool) (a : Act) (w : World) : Prop where
 head : HeadInv md ops n listed
 below : Below w0.heap.size w0 w
 vals : ∃ vals : Nat → Value, a = qba ops (fun j => listed.getD j false) vals a0 n ∧ (∀ j, j < n → listed.getD j false = true → F j (vals j) w) ∧
  (∀ j, j < n → listed.getD j false = true → AL j = true → ∃ g, vals j = .pointer (some ⟨g, 0, none⟩) ∧ g < w.heap.size) ∧
  (∀ j k, j < n → k < n → j ≠ k → listed.getD j false = true → listed.getD k false = true → AL j = true → AL k = true → vals j ≠ vals k)

def unl (listed : Array Bool) : Nat → Nat
 | 0 => 0
 | n + 1 => unl listed n + if listed.getD n false then 0 else 1
theorem unl_zero {listed : Array Bool} : ∀ n, unl listed n = 0 → ∀ j, j < n → listed.getD j false = true
 | 0, _, j, hj => by omega
 | n + 1, h, j, hj => by
  unfold unl at h
  by_cases hn : listed.getD n false = true
  ·rw [if_pos hn] at h
   by_cases hjn : j = n
   ·subst hjn; exact hn
   ·exact unl_zero n (by omega) j (by omega)
  ·rw [if_neg hn] at h; omega
theorem unl_first {listed : Array Bool} : ∀ n, unl listed n ≠ 0 → ∃ k, k < n ∧ listed.getD k false = false ∧ ∀ j, j < k → listed.getD j false = true
 | 0, h => absurd rfl h
 | n + 1, h => by
  by_cases hz : unl listed n = 0
  ·unfold unl at h
   refine ⟨n, by omega, ?_, unl_zero n hz⟩
   cases hn : listed.getD n false with
   | false => rfl
   | true => rw [hz, hn] at h; simp at h
  ·obtain ⟨k, h1, h2⟩ := unl_first n hz
   exact ⟨k, by omega, h2⟩
theorem unl_congr {l l' : Array Bool} : ∀ n, (∀ j, j < n → l.getD j false = l'.getD j false) → unl l n = unl l' n
 | 0, _ => rfl
 | n + 1, h => by
  unfold unl
  rw [unl_congr n (fun j hj => h j (by omega)), h n (by omega)]
theorem unl_set {listed : Array Bool} {i : Nat} (hs : i < listed.size) (hi : listed.getD i false = false) : ∀ n, i < n → unl (listed.setIfInBounds i true) n + 1 = unl listed n
 | 0, h => by omega
 | n + 1, h => by
  unfold unl
  by_cases hn : n = i
  ·subst hn
   rw [unl_congr (l' := listed) n (fun j hj => getD_set_ne false (by omega)), hi]
   have : (listed.setIfInBounds n true).getD n false = true := by simp [hs]
   rw [this]; simp
  ·have ih := unl_set hs hi n (by omega)
   rw [getD_set_ne false (Ne.symm hn)]; omega

def StepPure (P : Program) (o : Oper) (a : Act) (R : Value → Prop) : Prop := ∃ v, (∀ w, (execOp a.eval o).run P w = .ok (.value v) w) ∧ R v
def Leaves (F : Nat → Value → World → Prop) (AL : Nat → Bool) (i : Nat) (w1 : World) (v : Value) (w2 : World) : Prop :=
 Below w1.heap.size w1 w2 ∧ F i v w2 ∧ (AL i = true → v = .pointer (some ⟨w1.heap.size, 0, none⟩) ∧ w1.heap.size < w2.heap.size)
theorem qar {F : Nat → Value → World → Prop} {AL : Nat → Bool} {i : Nat} {w1 w2 : World} {v : Value} (hb : Below w1.heap.size w1 w2) (hf : F i v w2) (hal : AL i = true → v = .pointer (some ⟨w1.heap.size, 0, none⟩) ∧ w1.heap.size < w2.heap.size) : Leaves F AL i w1 v w2 := ⟨hb, hf, hal⟩
theorem qLk {F : Nat → Value → World → Prop} {AL : Nat → Bool} {i : Nat} {w : World} {v : Value} (hf : F i v w) (h : AL i = false) : Leaves F AL i w v w := qar (Below.refl _ _) hf (fun k => by rw [h] at k; cases k)
theorem DrawInv.next {n i : Nat} {oi : Oper} {fl : List Nat} {F : Nat → Value → World → Prop} {AL : Nat → Bool} {w0 w w' : World} {a0 a : Act} {listed : Array Bool} {v : Value} (hB : headB md ops fl n = true)
  (hF : ∀ i v w1 w2, F i v w1 → Below w1.heap.size w1 w2 → F i v w2) (inv : DrawInv md ops n F AL w0 a0 listed a w) (hi : i ∈ Region.ready md ops listed) (hin : i < n) (hoi : ops[i]? = some oi)
  (h : Leaves F AL i w v w') : DrawInv md ops n F AL w0 a0 (listed.setIfInBounds i true) (a.put oi.dst v) w' := by
 obtain ⟨hiu, oi', hoi', hdeps⟩ := mem_ready.1 hi
 have : oi' = oi := Option.some.inj (hoi'.symm.trans hoi)
 subst this
 have hiu' := getD_both hiu
 have ok := headB_ok hB hin hoi
 have his : i < listed.size := by rw [inv.head.size]; exact (Array.getElem?_eq_some_iff.1 hoi).1
 have hdst : qcd ops i = oi'.dst := by unfold qcd; rw [hoi]; rfl
 obtain ⟨vals, rfl, hv, hg, hd⟩ := inv.vals
 obtain ⟨hb, hf, hal⟩ := h
 refine ⟨inv.head.set hi hin, inv.below.trans (hb.mono inv.below.size), fun j => if j = i then v else vals j, ?_, ?_, ?_, ?_⟩
 ·rw [← hdst, ← putsTo_set hiu' n hin (fun j hj hji => by rw [hdst]; exact ok.dst j hj hji)]
  refine putsTo_congr fun j hj => ⟨?_, fun _ => rfl⟩
  by_cases hji : j = i
  ·subst hji; rw [if_pos rfl]; simp [his]
  ·rw [if_neg hji, getD_set_ne false (Ne.symm hji)]
 ·intro j hj hl
  show F j (if j = i then v else vals j) w'
  by_cases hji : j = i
  ·subst hji; rw [if_pos rfl]; exact hf
  ·rw [if_neg hji]
   rw [getD_set_ne false (Ne.symm hji)] at hl
   exact hF _ _ _ _ (hv j hj hl) hb
 ·intro j hj hl aj
  show ∃ g, (if j = i then v else vals j) = _ ∧ _
  by_cases hji : j = i
  ·subst hji; rw [if_pos rfl]
   obtain ⟨e1, e2⟩ := hal aj
   exact ⟨_, e1, e2⟩
  ·rw [if_neg hji]
   rw [getD_set_ne false (Ne.symm hji)] at hl
   obtain ⟨g, e1, e2⟩ := hg j hj hl aj
   exact ⟨g, e1, Nat.lt_of_lt_of_le e2 hb.size⟩
 ·intro j k' hj hk' hjk hl hl' aj ak
  show (if j = i then v else vals j) ≠ (if k' = i then v else vals k')
  by_cases hji : j = i
  ·subst hji
   have hki : k' ≠ j := fun e => hjk e.symm
   rw [if_pos rfl, if_neg hki]
   rw [getD_set_ne false (Ne.symm hki)] at hl'
   obtain ⟨e1, e2⟩ := hal aj
   obtain ⟨g, e3, e4⟩ := hg k' hk' hl' ak
   rw [e1, e3]
   intro h
   cases h; omega
  ·rw [if_neg hji]
   rw [getD_set_ne false (Ne.symm hji)] at hl
   by_cases hki : k' = i
   ·subst hki
    rw [if_pos rfl]
    obtain ⟨e1, e2⟩ := hal ak
    obtain ⟨g, e3, e4⟩ := hg j hj hl aj
    rw [e1, e3]
    intro h
    cases h; omega
   ·rw [if_neg hki]
    rw [getD_set_ne false (Ne.symm hki)] at hl'
    exact hd j k' hj hk' hjk hl hl' aj ak

theorem wpAny_of_facts {n : Nat} {fl : List Nat} {Q : Exit → Act → World → Prop} {F : Nat → Value → World → Prop} {AL : Nat → Bool} {w0 : World} {a0 : Act} (hB : headB md ops fl n = true)
  (hQ : ∀ c (a : Act) (d : Tmp) v w, Q (.panic c) (a.put (some d) v) w → Q (.panic c) a w)
  (hF : ∀ i v w1 w2, F i v w1 → Below w1.heap.size w1 w2 → F i v w2)
  (hstep : ∀ i o, i < n → ops[i]? = some o → ∀ (vals : Nat → Value) (w1 : World), Below w0.heap.size w0 w1 → (∀ j, Region.waitsFor md ops i j = true → F j (vals j) w1) →
   if fl.contains i then StepPure P o (qba ops (fun _ => true) vals a0 n) (fun v => Leaves F AL i w1 v w1) else StepG P ops o (qba ops (fun _ => true) vals a0 n) w1 (Leaves F AL i w1))
  (hend : ∀ (vals : Nat → Value) (w1 : World), Below w0.heap.size w0 w1 → (∀ i, i < n → F i (vals i) w1) → (∀ i j, i < n → j < n → i ≠ j → AL i = true → AL j = true → vals i ≠ vals j) →
   wpList P ops Q (ops.toList.drop n) (qba ops (fun _ => true) vals a0 n) w1) :
  ∀ (m : Nat) (listed : Array Bool) (a : Act) (w : World), unl listed n = m → DrawInv md ops n F AL w0 a0 listed a w → wpAny P md ops Q (m + (ops.size - n)) listed a w := by
 have hB' := hB
 unfold headB at hB'
 simp only [Bool.and_eq_true, decide_eq_true_eq] at hB'
 obtain ⟨⟨⟨⟨⟨hsel, hn⟩, ⟨hs, hfb⟩, hfn⟩, hc⟩, _⟩, hseq⟩ := hB'
 intro m
 induction m with
 | zero =>
  intro listed a w hm inv
  have hall := unl_zero n hm
  obtain ⟨vals, rfl, hv, _, hd⟩ := inv.vals
  have hl : listed = (Array.range ops.size).map fun i => decide (i < n) := by
   apply Array.ext
   ·simp [inv.head.size]
   ·intro j h1 h2
    simp only [Array.getElem_map, Array.getElem_range]
    by_cases hj : j < n
    ·have := hall j hj
     simp [h1] at this; rw [this, decide_eq_true hj]
    ·have hjs : j < ops.size := by rw [← inv.head.size]; exact h1
     have := inv.head.tail j (by omega) hjs
     simp [h1] at this; rw [this, decide_eq_false hj]
  have hend' := hend vals w inv.below (fun i hi => hv i hi (hall i hi)) (fun i j hi hj hij ai aj => hd i j hi hj hij (hall i hi) (hall j hj) ai aj)
  rw [putsTo_congr (l' := fun _ => true) (v' := vals) (fun j hj => ⟨hall j hj, fun _ => rfl⟩)]
  rw [Nat.zero_add]
  have hlen : (ops.toList.drop n).length = ops.size - n := by simp
  have := wpAny_of_seq (P := P) (md := md) (Q' := Q) (ops.toList.drop n) n listed (qba ops (fun _ => true) vals a0 n) w (fun j => by simp [List.getElem?_drop]) (by rw [hlen, hl]; exact hseq) hend'
  rwa [hlen] at this
 | succ m ih =>
  intro listed a w hm inv
  have step : ∀ i oi, i ∈ Region.ready md ops listed → i < n → ops[i]? = some oi →
    (execOp a.eval oi = execOp (qba ops (fun _ => true) (Classical.choose inv.vals) a0 n).eval oi ∧ Region.wanted oi (yielded ops a.tmps) = Region.wanted oi (yielded ops (qba ops (fun _ => true) (Classical.choose inv.vals) a0 n).tmps)) ∧ (∀ j, Region.waitsFor md ops i j = true → F j (Classical.choose inv.vals j) w) ∧ unl (listed.setIfInBounds i true) n = m := by
   intro i oi hi hin hoi
   obtain ⟨ha, hv, _, _⟩ := Classical.choose_spec inv.vals
   obtain ⟨hiu, oi', hoi', hdeps⟩ := mem_ready.1 hi
   have : oi' = oi := Option.some.inj (hoi'.symm.trans hoi)
   subst this
   have ok := headB_ok hB hin hoi
   have his : i < listed.size := by rw [inv.head.size]; exact (Array.getElem?_eq_some_iff.1 hoi).1
   have hwl : ∀ j, Region.waitsFor md ops i j = true → listed.getD j false = true := fun j hj => by
    obtain ⟨o', ho', e, he, hb, hon⟩ := Region.waitsFor_spec hj
    have : o' = oi' := Option.some.inj (ho'.symm.trans hoi)
    subst this
    rw [← hon]; exact hdeps e he hb
   have hwn : ∀ j, Region.waitsFor md ops i j = true → j < n := fun j hj => by
    obtain ⟨o', ho', e, he, hb, hon⟩ := Region.waitsFor_spec hj
    have : o' = oi' := Option.some.inj (ho'.symm.trans hoi)
    subst this
    have := ok.early e he hb; omega
   refine ⟨?_, fun j hj => hv j (hwn j hj) (hwl j hj), by have := unl_set his (getD_both hiu) n hin; omega⟩
   have e := execOp_congr oi' (ρ := (qba ops (fun j => listed.getD j false) (Classical.choose inv.vals) a0 n).eval) (ρ' := (qba ops (fun _ => true) (Classical.choose inv.vals) a0 n).eval) (fun cs b => Region.noSelect_spec hsel i oi' cs b hoi)
    fun x hx => (putsTo_eval n (fun t ht j hj hdj => hwl j (ok.reads x hx t ht j hj hdj))).1
   have e2 := putsTo_wanted (ops := ops) (l := fun j => listed.getD j false) (vals := Classical.choose inv.vals) (a := a0) (o := oi') n (fun g b hg t ht j hj hdj => by
    obtain ⟨hgn, hw⟩ := ok.guard g b hg
    by_cases hjg : j = g
    ·subst hjg; exact hwl _ hw
    ·exfalso
     have hgs : g < ops.size := by omega
     have okg := headB_ok hB hgn (Array.getElem?_eq_getElem hgs)
     refine okg.dst j hj hjg t ?_ hdj
     unfold qcd at ht
     rw [Array.getElem?_eq_getElem hgs] at ht; exact ht)
   rw [← ha] at e e2; exact ⟨e, e2⟩
  obtain ⟨k, hk, hku, hkl⟩ := unl_first (listed := listed) n (by omega)
  have hks : k < listed.size := by rw [inv.head.size]; omega
  have hkt := getD_in hks hku
  have hready : k ∈ Region.ready md ops listed := by
   rw [mem_ready]
   refine ⟨hkt, ops[k]'(by omega), by rw [Array.getElem?_eq_getElem], fun e he hb => ?_⟩
   exact hkl _ ((headB_ok hB hk (Array.getElem?_eq_getElem (by omega))).early e he hb)
  rw [show m + 1 + (ops.size - n) = (m + (ops.size - n)) + 1 by omega]
  by_cases hfl : ∃ i, i < n ∧ i ∈ Region.ready md ops listed ∧ fl.contains i = true
  ·obtain ⟨i, hin, hi, hif⟩ := hfl
   obtain ⟨_, oi, hoi, _⟩ := mem_ready.1 hi
   obtain ⟨he, hdp, hu⟩ := step i oi hi hin hoi
   have st := hstep i oi hin hoi (Classical.choose inv.vals) w inv.below hdp
   rw [if_pos hif] at st
   obtain ⟨v, hv, hL⟩ := st
   have hfi := List.all_eq_true.1 hfb i (by simpa using hif)
   rw [hoi] at hfi
   simp only [Bool.and_eq_true] at hfi
   obtain ⟨hgn, hfi⟩ := hfi
   have hgn : oi.guard = none := by simpa using hgn
   refine wpAny_first hoi (Region.noSelect_spec hsel) (fun c a w h => by
    cases hd : oi.dst with
    | none => rw [hd] at h; exact h
    | some d => rw [hd] at h; exact hQ c a d v w h) _ listed a w ?_ hi (.inl ⟨by simp [Region.wanted, hgn], fun w' => by rw [he.1]; exact hv w'⟩) (ih _ _ _ hu (inv.next hB hF hi hin hoi hL))
   intro j oj hj hji hun hno
   have h1 := List.all_eq_true.1 hfi j (List.mem_range.2 (Array.getElem?_eq_some_iff.1 hj).1)
   rw [hj] at h1
   simp only [Bool.or_eq_true, beq_iff_eq, hji, false_or] at h1
   rcases h1 with (h1 | h1) | h1
   ·obtain ⟨o', ho', e, he, hb, hon⟩ := Region.waitsFor_spec h1
    have : o' = oj := Option.some.inj (ho'.symm.trans hj)
    subst this
    exact absurd hon (hno e he hb)
   ·obtain ⟨o', ho', e, he, hb, hon⟩ := Region.waitsFor_spec h1
    obtain ⟨_, o2, ho2, hall⟩ := mem_ready.1 hi
    have : o' = o2 := Option.some.inj (ho'.symm.trans ho2)
    subst this
    have := hall e he hb
    rw [hon, getD_both hun] at this; cases this
   ·exact h1
  ·have hkf : fl.contains k = false := by
    cases h : fl.contains k with
    | false => rfl
    | true => exact absurd ⟨k, hk, hready, h⟩ hfl
   refine ⟨fun h0 => (by rw [h0] at hready; cases hready), fun i hi => ?_⟩
   have hin : i < n := by
    rcases Nat.lt_or_ge i n with h | h
    ·exact h
    ·exact absurd hi (tail_waitsF hs hc hn inv.head _ k rfl hk hkf hkt i h)
   obtain ⟨_, oi, hoi, _⟩ := mem_ready.1 hi
   obtain ⟨he, hdp, hu⟩ := step i oi hi hin hoi
   have st := hstep i oi hin hoi (Classical.choose inv.vals) w inv.below hdp
   rw [if_neg (fun h => hfl ⟨i, hin, hi, h⟩)] at st
   refine wpOp_of_stepG hoi he.2 he.1 st ?_
   intro v w' hL
   exact ih _ _ _ hu (inv.next hB hF hi hin hoi hL)

def stepsOK (P : Program) (md : Region.Mode) (ops : Array Oper) (fl : List Nat) (F : Nat → Value → World → Prop) (AL : Nat → Bool) (w0 : World) (A : (Nat → Value) → Act) : List Oper → Nat → Prop
 | [], _ => True
 | o :: l, i => (∀ (vals : Nat → Value) (w1 : World), Below w0.heap.size w0 w1 → (∀ j, Region.waitsFor md ops i j = true → F j (vals j) w1) →
   if fl.contains i then StepPure P o (A vals) (fun v => Leaves F AL i w1 v w1) else StepG P ops o (A vals) w1 (Leaves F AL i w1)) ∧
  stepsOK P md ops fl F AL w0 A l (i + 1)
theorem stepsOK_at {fl : List Nat} {F : Nat → Value → World → Prop} {AL : Nat → Bool} {w0 : World} {A : (Nat → Value) → Act} : ∀ (l : List Oper) (i : Nat), stepsOK P md ops fl F AL w0 A l i → ∀ k o, l[k]? = some o →
  ∀ (vals : Nat → Value) (w1 : World), Below w0.heap.size w0 w1 → (∀ j, Region.waitsFor md ops (i + k) j = true → F j (vals j) w1) →
   if fl.contains (i + k) then StepPure P o (A vals) (fun v => Leaves F AL (i + k) w1 v w1) else StepG P ops o (A vals) w1 (Leaves F AL (i + k) w1)
 | [], _, _, k, o, h => by simp at h
 | x :: l, i, hs, 0, o, h => by
  simp at h; subst h
  exact hs.1
 | x :: l, i, hs, k + 1, o, h => by
  have := stepsOK_at l (i + 1) hs.2 k o (by simpa using h)
  rw [show i + 1 + k = i + (k + 1) by omega] at this
  exact this
theorem qao {id : Nat} {Q : Exit → Act → World → Prop} {a : Act} {w : World} {l : List Oper} {A : (Nat → Value) → Act} (n : Nat) (fl : List Nat) (hm : P.follows .mixedOrders = true) (F : Nat → Value → World → Prop) (AL : Nat → Bool)
  (hB : headB .any l.toArray fl n = true)
  (hQ : ∀ c (a : Act) (d : Tmp) v w, Q (.panic c) (a.put (some d) v) w → Q (.panic c) a w)
  (hF : ∀ i v w1 w2, F i v w1 → Below w1.heap.size w1 w2 → F i v w2)
  (hA : ∀ vals : Nat → Value, qba l.toArray (fun _ => true) vals a n = A vals)
  (hstep : stepsOK P .any l.toArray fl F AL w A (l.take n) 0)
  (hend : ∀ (vals : Nat → Value) (w1 : World), Below w.heap.size w w1 → (∀ i, i < n → F i (vals i) w1) → (∀ i j, i < n → j < n → i ≠ j → AL i = true → AL j = true → vals i ≠ vals j) →
   wpList P l.toArray Q (l.drop n) (A vals) w1) : (Code.region id l.toArray true).wp P Q a w := by
 refine wp_region_any hm ?_
 have hB' := hB
 unfold headB at hB'
 simp only [Bool.and_eq_true, decide_eq_true_eq] at hB'
 have hn : n < l.toArray.size := hB'.1.1.1.1.2
 have hu : ∀ k, unl (Array.replicate l.toArray.size false) k = k := fun k => by
  induction k with
  | zero => rfl
  | succ k ih => unfold unl; rw [ih, getD_replicate_false]; rfl
 have key := wpAny_of_facts (P := P) (Q := Q) (F := F) (AL := AL) (w0 := w) (a0 := a) hB hQ hF (fun i o hi ho vals w1 hb hd => by
   have := stepsOK_at (l.take n) 0 hstep i o (by
    rw [List.getElem?_take, if_pos hi]; simpa using ho)
   rw [Nat.zero_add] at this; rw [hA]; exact this vals w1 hb hd) (fun vals w1 hb hf hd => by rw [hA]; simpa using hend vals w1 hb hf hd) n (Array.replicate l.toArray.size false) a { w with drawn := w.drawn + 1 } (hu n)
  ⟨⟨by simp, fun j oj _ hl => (by rw [getD_replicate_false] at hl; cases hl), fun t _ ht => getD_in (by simpa using ht) (getD_replicate_false _ _)⟩,
   (Below.refl w.heap.size w).drew, fun _ => undef, by
    have : ∀ k, qba l.toArray (fun j => (Array.replicate l.toArray.size false).getD j false) (fun _ => undef) a k = a := fun k => by
     induction k with
     | zero => rfl
     | succ k ih => unfold qba; rw [if_neg (by rw [getD_replicate_false]; decide), ih]
    exact (this n).symm, fun j _ hl => (by rw [getD_replicate_false] at hl; cases hl), fun j _ hl => (by rw [getD_replicate_false] at hl; cases hl), fun j _ _ _ _ hl => (by rw [getD_replicate_false] at hl; cases hl)⟩
 rw [show n + (l.toArray.size - n) = l.toArray.size by omega] at key
 exact key
section
variable {fl : List Nat} {F : Nat → Value → World → Prop} {AL : Nat → Bool} {w0 : World} {A : (Nat → Value) → Act} {i : Nat} {o : Oper} {l : List Oper}
theorem qav : stepsOK P md ops fl F AL w0 A [] i := trivial
theorem qab (hi : fl.contains i = false) (hg : o.guard = none)
  (h : ∀ (vals : Nat → Value) (w1 : World), Below w0.heap.size w0 w1 → (∀ j, Region.waitsFor md ops i j = true → F j (vals j) w1) → StepOK P o (A vals) w1 (Leaves F AL i w1))
  (hl : stepsOK P md ops fl F AL w0 A l (i + 1)) : stepsOK P md ops fl F AL w0 A (o :: l) i := ⟨fun vals w1 hb hd => by rw [if_neg (by rw [hi]; decide)]; unfold StepG; rw [if_pos (by simp [Region.wanted, hg])]; exact h vals w1 hb hd, hl⟩
theorem qct (hi : fl.contains i = true)
  (h : ∀ (vals : Nat → Value) (w1 : World), Below w0.heap.size w0 w1 → (∀ j, Region.waitsFor md ops i j = true → F j (vals j) w1) → StepPure P o (A vals) (fun v => Leaves F AL i w1 v w1))
  (hl : stepsOK P md ops fl F AL w0 A l (i + 1)) : stepsOK P md ops fl F AL w0 A (o :: l) i := ⟨fun vals w1 hb hd => by rw [if_pos hi]; exact h vals w1 hb hd, hl⟩
theorem qac (hi : fl.contains i = false)
  (h : ∀ (vals : Nat → Value) (w1 : World), Below w0.heap.size w0 w1 → (∀ j, Region.waitsFor md ops i j = true → F j (vals j) w1) → StepG P ops o (A vals) w1 (Leaves F AL i w1))
  (hl : stepsOK P md ops fl F AL w0 A l (i + 1)) : stepsOK P md ops fl F AL w0 A (o :: l) i := ⟨fun vals w1 hb hd => by rw [if_neg (by rw [hi]; decide)]; exact h vals w1 hb hd, hl⟩
end
theorem qal {o : Oper} {tmps : Array Value} {g : Nat} {t : Tmp} {b want : Bool} (hg : o.guard = some (g, want)) (hd : (ops[g]?).bind (·.dst) = some t) (ht : tmps[t]? = some (.bool b)) (hb : (b == want) = true) : Region.wanted o (yielded ops tmps) = true := by
 have hy : yielded ops tmps g = some b := by unfold yielded; rw [hd]; show (match tmps[t]? with | some (.bool b) => some b | _ => none) = some b; rw [ht]
 unfold Region.wanted; rw [hg]
 have : b = want := by simpa using hb
 subst this
 simp [hy]
theorem qas {o : Oper} {tmps : Array Value} {g : Nat} {t : Tmp} {b want : Bool} (hg : o.guard = some (g, want)) (hd : (ops[g]?).bind (·.dst) = some t) (ht : tmps[t]? = some (.bool b)) (hb : (b == want) = false) : Region.wanted o (yielded ops tmps) = false := by
 have hy : yielded ops tmps g = some b := by unfold yielded; rw [hd]; show (match tmps[t]? with | some (.bool b) => some b | _ => none) = some b; rw [ht]
 unfold Region.wanted; rw [hg]
 have : b ≠ want := by simpa using hb
 simp [hy, this]
theorem qam {o : Oper} {a : Act} {w : World} {R : Value → World → Prop} (hw : Region.wanted o (yielded ops a.tmps) = true) (h : StepOK P o a w R) : StepG P ops o a w R := by
 unfold StepG; rw [if_pos hw]; exact h
theorem qau {o : Oper} {a : Act} {w : World} {R : Value → World → Prop} (hw : Region.wanted o (yielded ops a.tmps) = false) (h : R undef w) : StepG P ops o a w R := by
 unfold StepG; rw [if_neg (by rw [hw]; decide)]; exact h
theorem qbv {o : Oper} {a : Act} {v : Value} {R : Value → Prop} (h : ∀ w, (execOp a.eval o).run P w = .ok (.value v) w) (hR : R v) : StepPure P o a R := ⟨v, h, hR⟩
theorem qaq {o : Oper} {a : Act} {w w' : World} {v : Value} {R : Value → World → Prop} (h : (execOp a.eval o).run P w = .ok (.value v) w') (hR : R v w') : StepOK P o a w R := by
 unfold StepOK; rw [h]; exact hR
theorem qSv {o : Oper} {a : Act} {w : World} (v : Value) {R : Value → World → Prop} (h : (execOp a.eval o).run P w = .ok (.value v) w) (hR : R v w) : StepOK P o a w R := qaq h hR
theorem qat {o : Oper} {a : Act} {w w' : World} {f : FuncId} {args : Array Value} {R : Value → World → Prop} (h : (execOp a.eval o).run P w = .ok (.enter f args) w')
  (hR : Calls P f args w' fun e w'' => ∃ v, e = .returned v ∧ R v w'') : StepOK P o a w R := by
 unfold StepOK; rw [h]; exact hR
end
def MonoF (p : Value → World → Prop) : Prop := ∀ v w1 w2, p v w1 → Below w1.heap.size w1 w2 → p v w2
def Fl (l : List (Value → World → Prop)) (i : Nat) : Value → World → Prop := l.getD i fun _ _ => True
theorem qcw {l : List (Value → World → Prop)} (h : ∀ p ∈ l, MonoF p) (i : Nat) (v : Value) (w1 w2 : World) (h1 : Fl l i v w1) (hb : Below w1.heap.size w1 w2) : Fl l i v w2 := by
 unfold Fl at *
 rw [List.getD_eq_getElem?_getD] at *
 cases hi : l[i]? with
 | none => trivial
 | some p =>
  rw [hi] at h1
  exact h p (List.mem_of_getElem? hi) v w1 w2 h1 hb
theorem qcv : ∀ p ∈ ([] : List (Value → World → Prop)), MonoF p := fun _ h => by cases h
theorem qae {p : Value → World → Prop} {l : List (Value → World → Prop)} (hp : MonoF p) (h : ∀ p ∈ l, MonoF p) : ∀ q ∈ p :: l, MonoF q := fun q hq => by
 rcases List.mem_cons.1 hq with rfl | hq
 ·exact hp
 ·exact h q hq
def KEq (c : Value) : Value → World → Prop := fun v _ => v = c
theorem kEq (c : Value) : MonoF (KEq c) := fun _ _ _ h _ => h
def qfa : Value → World → Prop := fun _ _ => True
theorem qfc : MonoF qfa := fun _ _ _ h _ => h
theorem Tryz.wordsTy : qee Tryz.prog 52 156 (.int .u32 0) 1 4 := .mk' Tryz.underlying52 (by kernel_rfl)

def RetOwn (w : World) (R : List Nat → Prop) (e : Ending) (w' : World) : Prop := ∃ v l, e = .returned v ∧ Below w.heap.size w w' ∧ qdu 156 w' w.heap.size v l ∧ R l

theorem own_lit (w : World) (e : TypeId) (B : Nat) (cs : Array Value) (l : List Nat) (n : Nat) (hB : B ≤ w.heap.size) (hU : U32 l) (hn : l.length = n) (hs : l.length ≤ 1000000) (hcs : cs = (l.map fun x : Nat => Value.int .u32 x).toArray) :
  qdu e (w.alloc (.cells cs e)) B (.slice (some ⟨w.heap.size, 0, none⟩) n n) l := by
 subst hcs hn
 refine ⟨⟨by simp, .inr ⟨w.heap.size, l.length, _, rfl, hB, heap_alloc_new w _, Nat.le_refl _, by unfold maxLen; omega, by simp, by simp [List.take_of_length_le]⟩⟩, hU⟩
theorem Num.take {w : World} {ao : Option Addr} {n c : Nat} {l : List Nat} (h : Num w (.slice ao n c) l) (k : Nat) (hk : k ≤ l.length) : Num w (.slice ao k c) (l.take k) := by
  obtain ⟨ao', c', e, h1, h2, h3, h4, h5⟩ := h
  cases e
  have hl : (l.take k).length = k := by rw [List.length_take]; omega
  refine ⟨ao, c, by rw [hl], by omega, h2, h3, ?_, ?_⟩
  · intro b off s hs
    obtain ⟨k1, k2⟩ := h4 b off s hs
    rw [hl]
    exact ⟨fun h0 => k1 (by omega), fun j hj => by rw [k2 j (by omega), gd_take, if_pos hj]⟩
  · exact fun j => by rw [gd_take]; split
                      · exact h5 j
                      · decide
theorem trim_take {l : List Nat} (hu : U32 l) (k : Nat) (hk : k ≤ l.length) (h0 : ∀ j, k ≤ j → gd l j = 0) (hc : k = 0 ∨ gd l (k - 1) ≠ 0) : l.take k = wd (val l) := by
  rw [← qdr k h0]
  apply clean_eq (fun j => by rw [gd_take]; split
                              · exact hu j
                              · decide)
  rcases hc with rfl | hc
  · exact .inl (by simp)
  · by_cases hz : k = 0
    · subst hz; exact .inl (by simp)
    · right
      have hl : (l.take k).length = k := by rw [List.length_take]; omega
      rw [hl, gd_take, if_pos (by omega)]; exact hc

theorem trim_own (v : Value) (l : List Nat) (w : World) (h : Num w v l) (hl : l.length ≤ 1000000) :
  Calls Tryz.prog 112 #[v] w (RetOwn w fun r => r = wd (val l)) := by
 obtain ⟨ao, c, rfl, hc, hc2, _⟩ := h.shape
 have hu := h.lt
 have HU := qHd hu
 clear hu
 go_enter Tryz.func112, Tryz.ntmps112
 go_wp2_with fail
 go_loop [3] (fun n => ∃ k : Nat, k ≤ l.length ∧ n = .int .i64 k ∧ Hid (∀ j, k ≤ j → gd l j = 0)) (fun n => (intOf n).toNat)
 case atStart => exact ⟨l.length, Nat.le_refl _, rfl, qHd fun j hj => gd_over _ _ hj⟩
 case round =>
  obtain ⟨k, hk, rfl, hz⟩ := hrel
  by_cases hk0 : k = 0
  ·subst hk0
   have hv : val l = 0 := by
    have := qdr 0 hz.out
    rw [← this]; rfl
   have HV := qHd hv; clear hv
   go_wp2_with fail
   go_ret
   exact ⟨_, [], rfl, Below.refl _ _, qdu.nil _ _ _, by rw [HV.out, qca]⟩
  ·obtain ⟨b, off, rfl, hbs, hcell⟩ := h.at (by omega)
   have hx := hcell (k - 1) (by omega)
   have hx' : w.cell? ⟨b, off + (k - 1), none⟩ = _ := hx
   have hxl := HU.out (k - 1)
   obtain ⟨x, hxe⟩ : ∃ x, x = gd l (k - 1) := ⟨_, rfl⟩
   rw [← hxe] at hx hxl
   obtain ⟨m, rfl⟩ : ∃ m, k = m + 1 := ⟨k - 1, by omega⟩
   simp only [Nat.add_sub_cancel] at hx hxe
   have HX := qHd hxe; clear hxe hx' hcell
   by_cases hx0 : x = 0
   ·subst hx0
    go_wp2_with fail
    go_round
    case rel =>
     refine ⟨m, by omega, by go_num, qHd fun j hj => ?_⟩
     by_cases hjm : j = m
     ·rw [hjm, ← HX.out]
     ·exact hz.out j (by omega)
    case measure => simp [intOf]
   ·have hd : ((x : Int) == 0) = false := by simp; omega
    have hne : gd l (m + 1 - 1) ≠ 0 := by rw [Nat.add_sub_cancel, ← HX.out]; exact hx0
    have HT := qHd (trim_take HU.out (m + 1) hk hz.out (.inr hne))
    have hnum := h.take (m + 1) hk
    have HN := qHd hnum
    clear hnum hne hx0
    have hown := own_lit w 156 w.heap.size #[] [] 0 (Nat.le_refl _) U32.nil rfl (by simp) rfl
    have HO := qHd hown; clear hown
    go_wp2_with (at_builtin; refine qcq Tryz.wordsTy rfl (.tmp 20) (.tmp 23) rfl w.heap.size _ _ [] (l.take (m + 1)) rfl rfl HO.out (HN.out.below ((Below.refl _ _).alloc (Nat.le_refl _) _)) ?c1 ?c2 ?_)
    case c1 => omega
    intro v' w1 h1 h2 h3
    have h4 := h2 w ((Below.refl _ _).alloc (Nat.le_refl _) _)
    go_wp2_with fail
    go_ret
    exact ⟨_, _, rfl, h4, h1, HT.out⟩
theorem qda (v : Value) (l : List Nat) (w : World) (h : Num w v l) (hl : l.length ≤ 1000000) :
  Calls Tryz.prog 112 #[v] w (RetNum w fun r => r = wd (val l)) := by
 refine (trim_own v l w h hl).mono ?_
 rintro e w' ⟨v', l', he, hb, ho, hr⟩
 exact ⟨v', l', he, hb, ho.num, hr⟩
theorem rtrim_own (v : Value) (l : List Nat) (w : World) (h : Num w v l) (hl : l.length ≤ 1000000) :
  Calls Tryz.prog 160 #[v] w (RetOwn w fun r => r = wd (val l)) := by
 obtain ⟨ao, c, rfl, hc, hc2, _⟩ := h.shape
 have hu := h.lt
 have HU := qHd hu
 clear hu
 go_enter Tryz.func160, Tryz.ntmps160
 go_wp2_with fail
 go_loop [3] (fun n => ∃ k : Nat, k ≤ l.length ∧ n = .int .i64 k ∧ Hid (∀ j, k ≤ j → gd l j = 0)) (fun n => (intOf n).toNat)
 case atStart => exact ⟨l.length, Nat.le_refl _, rfl, qHd fun j hj => gd_over _ _ hj⟩
 case round =>
  obtain ⟨k, hk, rfl, hz⟩ := hrel
  by_cases hk0 : k = 0
  ·subst hk0
   have hv : val l = 0 := by
    have := qdr 0 hz.out
    rw [← this]; rfl
   have HV := qHd hv; clear hv
   have hown := own_lit w 156 w.heap.size #[] [] 0 (Nat.le_refl _) U32.nil rfl (by simp) rfl
   have hnum := h.take 0 (Nat.zero_le _)
   have HO := qHd hown; have HN := qHd hnum; clear hown hnum
   go_wp2_with (at_builtin; refine qcq Tryz.wordsTy rfl (.tmp 18) (.tmp 21) rfl w.heap.size _ _ [] (l.take 0) rfl rfl HO.out (HN.out.below ((Below.refl _ _).alloc (Nat.le_refl _) _)) ?c1 ?c2 ?_)
   intro v' w1 h1 h2 h3
   have h4 := h2 w ((Below.refl _ _).alloc (Nat.le_refl _) _)
   go_wp2_with fail
   go_ret
   exact ⟨_, _, rfl, h4, h1, by show _ = wd (val l); rw [HV.out, qca]⟩
  ·obtain ⟨b, off, rfl, hbs, hcell⟩ := h.at (by omega)
   have hx := hcell (k - 1) (by omega)
   have hx' : w.cell? ⟨b, off + (k - 1), none⟩ = _ := hx
   have hxl := HU.out (k - 1)
   obtain ⟨x, hxe⟩ : ∃ x, x = gd l (k - 1) := ⟨_, rfl⟩
   rw [← hxe] at hx hxl
   obtain ⟨m, rfl⟩ : ∃ m, k = m + 1 := ⟨k - 1, by omega⟩
   simp only [Nat.add_sub_cancel] at hx hxe
   have HX := qHd hxe; clear hxe hx' hcell
   by_cases hx0 : x = 0
   ·subst hx0
    go_wp2_with fail
    go_round
    case rel =>
     refine ⟨m, by omega, by go_num, qHd fun j hj => ?_⟩
     by_cases hjm : j = m
     ·rw [hjm, ← HX.out]
     ·exact hz.out j (by omega)
    case measure => simp [intOf]
   ·have hd : ((x : Int) == 0) = false := by simp; omega
    have hne : gd l (m + 1 - 1) ≠ 0 := by rw [Nat.add_sub_cancel, ← HX.out]; exact hx0
    have HT := qHd (trim_take HU.out (m + 1) hk hz.out (.inr hne))
    have hnum := h.take (m + 1) hk
    have HN := qHd hnum
    clear hnum hne hx0
    have hown := own_lit w 156 w.heap.size #[] [] 0 (Nat.le_refl _) U32.nil rfl (by simp) rfl
    have HO := qHd hown; clear hown
    go_wp2_with (at_builtin; refine qcq Tryz.wordsTy rfl (.tmp 18) (.tmp 21) rfl w.heap.size _ _ [] (l.take (m + 1)) rfl rfl HO.out (HN.out.below ((Below.refl _ _).alloc (Nat.le_refl _) _)) ?e1 ?e2 ?_)
    case e1 => omega
    intro v' w1 h1 h2 h3
    have h4 := h2 w ((Below.refl _ _).alloc (Nat.le_refl _) _)
    go_wp2_with fail
    go_ret
    exact ⟨_, _, rfl, h4, h1, HT.out⟩

theorem qfs (v : Value) (l : List Nat) (w : World) (h : Num w v l) (hl : l.length ≤ 1000000) :
  Calls Tryz.prog 160 #[v] w (RetNum w fun r => r = wd (val l)) := by
 refine (rtrim_own v l w h hl).mono ?_
 rintro e w' ⟨v', l', he, hb, ho, hr⟩
 exact ⟨v', l', he, hb, ho.num, hr⟩

theorem word_any (v : Value) (l : List Nat) (i : Int) (w : World) (h : Num w v l) (h0 : 0 ≤ i) (h1 : i < 9223372036854775807) :
  Calls Tryz.prog 138 #[v, .int .i64 i] w (RetS w (.int .u64 (gd l i.toNat : Nat))) := by
 obtain ⟨ao, c, rfl, hc, hc2, _⟩ := h.shape
 obtain ⟨k, rfl⟩ := Int.eq_ofNat_of_zero_le h0
 by_cases hk : k < l.length
 ·obtain ⟨b, off, rfl, _, hcell⟩ := h.at (by omega)
  have hx := hcell k hk
  have hlt := h.lt k
  clear hcell h
  go_enter Tryz.func138, Tryz.ntmps138
  go_wp2_with fail
  go_ret
  exact ⟨by simp, rfl⟩
 ·have hz := gd_over l k (by omega)
  have HZ := qHd hz; clear hz
  go_enter Tryz.func138, Tryz.ntmps138
  go_wp2_with fail
  go_ret
  exact ⟨by simp [HZ.out], rfl⟩

theorem qef (v : Value) (l : List Nat) (i : Int) (w : World) (h : Num w v l) (h0 : 0 ≤ i) (h1 : i < 9223372036854775807) :
  Calls Tryz.prog 159 #[v, .int .i64 i] w (RetS w (.int .u64 (gd l i.toNat : Nat))) := by
 obtain ⟨ao, c, rfl, hc, hc2, _⟩ := h.shape
 obtain ⟨k, rfl⟩ := Int.eq_ofNat_of_zero_le h0
 by_cases hk : k < l.length
 ·obtain ⟨b, off, rfl, _, hcell⟩ := h.at (by omega)
  have hx := hcell k hk
  have hlt := h.lt k
  clear hcell h
  go_enter Tryz.func159, Tryz.ntmps159
  go_wp2_with fail
  go_ret
  exact ⟨by simp, rfl⟩
 ·have hz := gd_over l k (by omega)
  have HZ := qHd hz; clear hz
  go_enter Tryz.func159, Tryz.ntmps159
  go_wp2_with fail
  go_ret
  exact ⟨by simp [HZ.out], rfl⟩
theorem qbg {B : Nat} {a w : World} (h : Below B a w) (n : Nat) : Below B a (w.drewN n) := h.trans ⟨rfl, rfl, rfl, Nat.le_refl _, fun _ _ => rfl⟩

theorem rcmp_any (va vb : Value) (a b : List Nat) (w : World) (ha : Num w va a) (hb : Num w vb b) (hla : a.length ≤ 1000000) (hlb : b.length ≤ 1000000) :
  Calls Tryz.prog 135 #[va, vb] w (RetS w (.int .i64 (cmpN (val a) (val b)))) := by
 obtain ⟨ao, ca, rfl, hca, hca2, _⟩ := ha.shape
 obtain ⟨bo, cb, rfl, hcb, hcb2, _⟩ := hb.shape
 have HA := qHd ha; have HB := qHd hb; clear ha hb
 obtain ⟨r, hr⟩ : ∃ r, r = cmpN (val a) (val b) := ⟨_, rfl⟩
 rw [← hr]
 have HR := qHd hr; clear hr
 go_enter Tryz.func135, Tryz.ntmps135
 go_wp2_with fail
 go_loop [5] (fun i => ∃ k : Nat, k ≤ max a.length b.length ∧ i = .int .i64 ((k : Int) - 1) ∧ Hid (∀ j, k ≤ j → gd a j = gd b j)) (fun i => (intOf i + 1).toNat)
 case atStart => exact ⟨max a.length b.length, Nat.le_refl _, by go_num, qHd fun j hj => by rw [gd_over _ _ (by omega), gd_over _ _ (by omega)]⟩
 case round =>
  obtain ⟨k, hk, rfl, hz⟩ := hrel
  by_cases hk0 : k = 0
  ·subst hk0
   have hv : r = 0 := by rw [HR.out]; exact cmpN_eq (val_ext fun j => hz.out j (Nat.zero_le _))
   have HV := qHd hv; clear hv
   go_wp2_with fail
   go_ret
   exact ⟨qfb HV.out.symm, rfl⟩
  ·obtain ⟨m, rfl⟩ : ∃ m, k = m + 1 := ⟨k - 1, by omega⟩
   have hm1 : ((m + 1 : Nat) : Int) - 1 = (m : Int) := by omega
   rw [hm1]
   clear hm1
   have hxa := HA.out.lt m
   have hxb := HB.out.lt m
   obtain ⟨x, hx⟩ : ∃ x, x = gd a m := ⟨_, rfl⟩
   obtain ⟨y, hy⟩ : ∃ y, y = gd b m := ⟨_, rfl⟩
   have hwa := qef _ a m w HA.out (by omega) (by omega)
   have hwb := qef _ b m w HB.out (by omega) (by omega)
   rw [Int.toNat_natCast, ← hx] at hwa
   rw [Int.toNat_natCast, ← hy] at hwb
   rw [← hx] at hxa
   rw [← hy] at hxb
   have HWA := qHd hwa; have HWB := qHd hwb; have HX := qHd hx; have HY := qHd hy; clear hwa hwb hx hy
   rcases Nat.lt_trichotomy x y with h1 | h1 | h1
   ·have hv : r = -1 := by rw [HR.out]; exact cmpN_lt (qfq HA.out.lt HB.out.lt m (fun j hj => hz.out j (by omega)) (by rw [← HX.out, ← HY.out]; exact h1))
    have HV := qHd hv; clear hv
    go_wp2_with (first | (go_at_call 159; (with_reducible refine HWA.out.mono ?_); rintro e w' ⟨rfl, rfl⟩) | (go_at_call 159; (with_reducible refine HWB.out.mono ?_); rintro e w' ⟨rfl, rfl⟩))
    go_ret
    exact ⟨qfb HV.out.symm, rfl⟩
   ·subst h1
    have hzm : ∀ j, m ≤ j → gd a j = gd b j := fun j hj => by
     by_cases hjm : j = m
     ·rw [hjm, ← HX.out, ← HY.out]
     ·exact hz.out j (by omega)
    have HZ := qHd hzm; clear hzm
    go_wp2_with (first | (go_at_call 159; (with_reducible refine HWA.out.mono ?_); rintro e w' ⟨rfl, rfl⟩) | (go_at_call 159; (with_reducible refine HWB.out.mono ?_); rintro e w' ⟨rfl, rfl⟩))
    go_round
    case rel => exact ⟨m, by omega, rfl, HZ⟩
    case measure => simp [intOf]
   ·have hv : r = 1 := by rw [HR.out]; exact cmpN_gt (qfq HB.out.lt HA.out.lt m (fun j hj => (hz.out j (by omega)).symm) (by rw [← HX.out, ← HY.out]; exact h1))
    have HV := qHd hv; clear hv
    go_wp2_with (first | (go_at_call 159; (with_reducible refine HWA.out.mono ?_); rintro e w' ⟨rfl, rfl⟩) | (go_at_call 159; (with_reducible refine HWB.out.mono ?_); rintro e w' ⟨rfl, rfl⟩))
    go_ret
    exact ⟨qfb HV.out.symm, rfl⟩

theorem cmp_any (va vb : Value) (a b : List Nat) (w : World) (ha : Num w va a) (hb : Num w vb b) (hla : a.length ≤ 1000000) (hlb : b.length ≤ 1000000) :
  Calls Tryz.prog 75 #[va, vb] w (qea w (.int .i64 (cmpN (val a) (val b)))) := by
 obtain ⟨r, hr⟩ : ∃ r, r = cmpN (val a) (val b) := ⟨_, rfl⟩
 rw [← hr]
 have HR := qHd hr; clear hr
 have hl1 := qbp ha.lt
 have hl2 := qbp hb.lt
 go_enter Tryz.func75, Tryz.ntmps75
 go_wp2_with fail
 (with_reducible refine (qda _ _ _ ha hla).mono ?_); rintro e w1 ⟨v1, l1, rfl, hb1, hn1, hl1'⟩
 go_wp2_with fail
 (with_reducible refine (qda _ _ _ (hb.below hb1) hlb).mono ?_); rintro e w2 ⟨v2, l2, rfl, hb2, hn2, hl2'⟩
 have hn1 := hn1.below hb2
 have hb12 := hb1.trans (hb2.mono hb1.size)
 rw [← hl1'] at hl1
 rw [← hl2'] at hl2
 obtain ⟨ao, ca, rfl, hca, hca2, _⟩ := hn1.shape
 obtain ⟨bo, cb, rfl, hcb, hcb2, _⟩ := hn2.shape
 have H1 := qHd hl1'; have H2 := qHd hl2'; have HA := qHd hn1; have HB := qHd hn2
 clear hl1' hl2' hn1 hn2 hb1 hb2 ha hb
 rcases Nat.lt_trichotomy l1.length l2.length with h1 | h1 | h1
 ·have hv : r = -1 := by
   rw [HR.out]; apply cmpN_lt
   rcases Nat.lt_or_ge (val a) (val b) with h | h
   ·exact h
   ·have := qbk h; rw [← H1.out, ← H2.out] at this; omega
  have HV := qHd hv; clear hv
  go_wp2_with fail
  go_ret
  exact ⟨qfb HV.out.symm, hb12⟩
 ·rw [← h1] at hl2 hcb ⊢
  have HB' := HB.out
  rw [← h1] at HB'
  have HBB := qHd HB'; have HL := qHd h1; clear h1 HB'
  go_wp2_with fail
  go_loopw [5] (fun i wx => ∃ k : Nat, k ≤ l1.length ∧ i = .int .i64 ((k : Int) - 1) ∧ Hid (∀ j, k ≤ j → gd l1 j = gd l2 j) ∧ Below w2.heap.size w2 wx) (fun i _ => (intOf i + 1).toNat)
  case atStart => exact ⟨l1.length, Nat.le_refl _, by go_num, qHd fun j hj => by rw [gd_over _ _ (by omega), gd_over _ _ (by rw [← HL.out]; exact hj)], Below.refl _ _⟩
  case round =>
   obtain ⟨k, hk, rfl, hz, hbx⟩ := hrel
   by_cases hk0 : k = 0
   ·subst hk0
    have hv : r = 0 := by
     rw [HR.out]; apply cmpN_eq
     rw [← qaz (val a), ← H1.out, ← qaz (val b), ← H2.out]; exact val_ext fun j => hz.out j (Nat.zero_le _)
    have HV := qHd hv; clear hv
    go_wp2_with fail
    go_ret
    exact ⟨qfb HV.out.symm, hb12.trans (hbx.mono hb12.size)⟩
   ·obtain ⟨m, rfl⟩ : ∃ m, k = m + 1 := ⟨k - 1, by omega⟩
    have hm1 : ((m + 1 : Nat) : Int) - 1 = (m : Int) := by omega
    rw [hm1]
    clear hm1
    obtain ⟨b1, o1, rfl, _, hc1⟩ := (HA.out.below hbx).at (by omega)
    obtain ⟨b2, o2, rfl, _, hc2⟩ := (HBB.out.below hbx).at (by omega)
    have hx1 := hc1 m (by omega)
    have hx2 := hc2 m (by omega)
    clear hc1 hc2
    have hxa := HA.out.lt m
    have hxb := HB.out.lt m
    obtain ⟨x, hx⟩ : ∃ x, x = gd l1 m := ⟨_, rfl⟩
    obtain ⟨y, hy⟩ : ∃ y, y = gd l2 m := ⟨_, rfl⟩
    rw [← hx] at hxa hx1
    rw [← hy] at hxb hx2
    have HX := qHd hx; have HY := qHd hy; clear hx hy
    rcases Nat.lt_trichotomy x y with g1 | g1 | g1
    ·have hv : r = -1 := by
      rw [HR.out, ← qaz (val a), ← H1.out, ← qaz (val b), ← H2.out]
      exact cmpN_lt (qfq HA.out.lt HB.out.lt m (fun j hj => hz.out j (by omega)) (by rw [← HX.out, ← HY.out]; exact g1))
     have HV := qHd hv; clear hv
     go_wp2_with fail
     go_quiet (fail)
     go_wp2_with fail
     go_ret
     exact ⟨qfb HV.out.symm, hb12.trans ((qbg hbx _).mono hb12.size)⟩
    ·subst g1
     have hzm : ∀ j, m ≤ j → gd l1 j = gd l2 j := fun j hj => by
      by_cases hjm : j = m
      ·rw [hjm, ← HX.out, ← HY.out]
      ·exact hz.out j (by omega)
     have HZ := qHd hzm; clear hzm
     go_wp2_with fail
     go_quiet (fail)
     go_wp2_with fail
     go_quiet (fail)
     go_wp2_with fail
     go_roundw
     case rel => exact ⟨m, by omega, rfl, HZ, qbg hbx _⟩
     case measure => simp [intOf]
    ·have hv : r = 1 := by
      rw [HR.out, ← qaz (val a), ← H1.out, ← qaz (val b), ← H2.out]
      exact cmpN_gt (qfq HB.out.lt HA.out.lt m (fun j hj => (hz.out j (by omega)).symm) (by rw [← HX.out, ← HY.out]; exact g1))
     have HV := qHd hv; clear hv
     go_wp2_with fail
     go_quiet (fail)
     go_wp2_with fail
     go_quiet (fail)
     go_wp2_with fail
     go_ret
     exact ⟨qfb HV.out.symm, hb12.trans ((qbg (qbg hbx _) _).mono hb12.size)⟩
 ·have hv : r = 1 := by
   rw [HR.out]; apply cmpN_gt
   rcases Nat.lt_or_ge (val b) (val a) with h | h
   ·exact h
   ·have := qbk h; rw [← H1.out, ← H2.out] at this; omega
  have HV := qHd hv; clear hv
  go_wp2_with fail
  go_ret
  exact ⟨qfb HV.out.symm, hb12⟩
theorem of_any (n : Int) (w : World) (h0 : -9223372036854775808 ≤ n) (h1 : n < 9223372036854775808) :
  Calls Tryz.prog 127 #[.int .i64 n] w (RetNum w fun r => r = wd n.toNat) := by
 by_cases hn : n ≤ 0
 ·have hz : n.toNat = 0 := by omega
  have HZ := qHd hz; clear hz
  go_enter Tryz.func127, Tryz.ntmps127
  go_wp2_with fail
  go_ret
  exact ⟨_, [], rfl, Below.refl _ _, Num.nil _, by rw [HZ.out, qca]⟩
 ·obtain ⟨k, rfl⟩ := Int.eq_ofNat_of_zero_le (show 0 ≤ n by omega)
  have hcv1 : ∀ wx : World, (convert 3 156 (.int .i64 (k : Int))).run Tryz.prog wx = .ok (.int .u32 ((k % 4294967296 : Nat) : Int)) wx := fun wx => by
   rw [run_convert_int (P := Tryz.prog) wx 3 156 .i64 k (by kernel_rfl) (by kernel_rfl)]
   rfl
  have hcv2 : ∀ wx : World, (convert 3 156 (.int .i64 ((k : Int) / 4294967296))).run Tryz.prog wx = .ok (.int .u32 ((k / 4294967296 % 4294967296 : Nat) : Int)) wx := fun wx => by
   rw [run_convert_int (P := Tryz.prog) wx 3 156 .i64 _ (by kernel_rfl) (by kernel_rfl)]
   rfl
  go_enter Tryz.func127, Tryz.ntmps127
  have hk0 : 0 < k := by omega
  have hk1 : k < 9223372036854775808 := by omega
  clear h0 h1 hn
  have hnl := num_lit w 156 #[.int .u32 ((k % 4294967296 : Nat) : Int), .int .u32 ((k / 4294967296 % 4294967296 : Nat) : Int)] [k % 4294967296, k / 4294967296 % 4294967296] 2 (U32.cons (by omega) (U32.cons (by omega) U32.nil)) rfl (by simp) rfl
  have hv : val [k % 4294967296, k / 4294967296 % 4294967296] = k := by simp only [val]; omega
  have htr := qda _ _ _ hnl (by simp)
  rw [hv] at htr
  have HTR := qHd htr; clear hnl hv htr
  go_wp2_with (go_at_call 112; go_loud ((refine HTR.out.mono ?_)); rintro e w1 ⟨v1, l1, rfl, hb1, hn1, hl1⟩)
  go_ret
  exact ⟨_, _, rfl, ((Below.refl _ _).alloc (Nat.le_refl _) _).trans (hb1.mono (by simp)), hn1, hl1⟩

theorem add_bounds {c x y : Nat} (hc : c ≤ 1) (hx : x < 4294967296) (hy : y < 4294967296) : (c + (x + y)) / 4294967296 ≤ 1 ∧ (c + (x + y)) % 4294967296 < 4294967296 := by omega

theorem add_any (va vb : Value) (a b : List Nat) (w : World) (ha : Num w va a) (hb : Num w vb b) (hla : a.length ≤ 900000) (hlb : b.length ≤ 900000) :
  Calls Tryz.prog 105 #[va, vb] w (RetNum w fun r => r = wd (val a + val b)) := by
 obtain ⟨ao, ca, rfl, hca, hca2, _⟩ := ha.shape
 obtain ⟨bo, cb, rfl, hcb, hcb2, _⟩ := hb.shape
 obtain ⟨n, hn⟩ : ∃ n, n = max a.length b.length + 1 := ⟨_, rfl⟩
 have hnb : n ≤ 900001 := by omega
 have hnb' : n ≤ 70368744177664 := by omega
 have hnz : 0 < n := by omega
 have HN := qHd hn
 have HA := qHd ha; have HB := qHd hb
 clear hn ha hb
 go_enter Tryz.func105, Tryz.ntmps105
 go_wp2_with (at_make; refine qdz Tryz.wordsTy rfl _ _ rfl _ _ _ _ n rfl rfl ?c1 ?c2 hnb' ?_)
 case c1 => rw [HN.out]; simp; omega
 case c2 => rw [HN.out]; simp; omega
 intro w1 hO hB hsz
 go_wp2_with fail
 go_loopw [6, 17] (fun c i wr => ∃ (k cc : Nat) (l : List Nat), k ≤ n ∧ i = .int .i64 k ∧ c = .int .u64 cc ∧ cc ≤ 1 ∧ qdu 156 wr w.heap.size (.slice (some ⟨w.heap.size, 0, none⟩) n n) l ∧ Hid (l.length = n) ∧ Below w.heap.size w wr ∧
   Hid (val (l.take k) + 4294967296 ^ k * cc = val (a.take k) + val (b.take k))) (fun _ i _ => n - (intOf i).toNat)
 case atStart => exact ⟨0, 0, _, Nat.zero_le _, rfl, rfl, by omega, hO, qHd (by simp), hB, qHd (by simp [val])⟩
 case round =>
  obtain ⟨k, cc, l, hk, rfl, rfl, hcc, hOr, hll, hBr, hinv⟩ := hrel
  have hak := HA.out.lt k
  have hbk := HB.out.lt k
  have har := qHd (HA.out.below hBr)
  have hbr := qHd (HB.out.below hBr)
  by_cases hkn : k < n
  ·obtain ⟨x, hx⟩ : ∃ x, x = gd a k := ⟨_, rfl⟩
   obtain ⟨y, hy⟩ : ∃ y, y = gd b k := ⟨_, rfl⟩
   have hwa := word_any _ a k wr har.out (by omega) (by omega)
   have hwb := word_any _ b k wr hbr.out (by omega) (by omega)
   rw [Int.toNat_natCast, ← hx] at hwa
   rw [Int.toNat_natCast, ← hy] at hwb
   rw [← hx] at hak
   rw [← hy] at hbk
   have HWA := qHd hwa; have HWB := qHd hwb; have HX := qHd hx; have HY := qHd hy; clear hwa hwb hx hy
   have hcell := hOr.cell hll.out k hkn
   have hfr := hOr.frozen hll.out k
   have HO := qHd hOr
   obtain ⟨s1, s2⟩ := add_bounds hcc hak hbk
   have S2 := qHd s2; have S1 := qHd s1
   clear hOr s1 s2
   go_wp2_with (first | (go_at_call 138; (with_reducible refine HWA.out.mono ?_); rintro e w' ⟨rfl, rfl⟩) | (go_at_call 138; (with_reducible refine HWB.out.mono ?_); rintro e w' ⟨rfl, rfl⟩))
   go_roundw
   case rel =>
    have hst := HO.out.stored hll.out k ((cc + (x + y)) % 4294967296) S2.out
    exact ⟨k + 1, (cc + (x + y)) / 4294967296, l.set k ((cc + (x + y)) % 4294967296), by omega, by go_num, rfl, S1.out, hst, qHd (by rw [List.length_set]; exact hll.out), hBr.setCell (Nat.le_refl _) _,
     qHd (by rw [val_take_set _ _ _ (by rw [hll.out]; exact hkn), Nat.pow_succ, add_step hinv.out, qbm, qbm, ← HX.out, ← HY.out])⟩
   case measure => simp [intOf]; omega
  ·obtain rfl : k = n := by omega
   have hnum := hOr.num
   have hv : val l = val a + val b := by
    have := hinv.out
    rw [qdm l (by rw [hll.out]; exact Nat.le_refl _), qdm a (by rw [HN.out]; omega), qdm b (by rw [HN.out]; omega)] at this
    exact add_end HA.out.lt HB.out.lt (by rw [HN.out]; omega) this
   have htr := qda _ _ _ hnum (by rw [hll.out]; omega)
   rw [hv] at htr
   have HT := qHd htr; clear hnum hv htr
   have HL := hll.out
   go_wp2_with (go_at_call 112; (with_reducible refine HT.out.mono ?_); rintro e w' ⟨v', l', rfl, hB', hN', hl'⟩)
   go_ret
   exact ⟨_, _, rfl, hBr.trans (hB'.mono hBr.size), hN', hl'⟩
end Go.Proofs.YthhgfhdmfhnklaaGreatDoor
