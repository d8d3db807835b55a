/-
  What the law leans on, one text behind the other (the base).
  Conditions: each theorem's own.
-/
import Derived.WalkKit
import Derived.ProofKit
import Derived.WalkSpells
import Derived.WalkLawsBesides
import Derived.WalkSmall
import Derived.Lib.Hide
import Derived.Laws.BitsLemmas
import Derived.Lib.BitFns
import Derived.StillTailTactics
import Derived.Test.YtblekfkmianmeaaGreatDoorProg
import Derived.Deep.QuietTactic
import Derived.BigQuiet
import Derived.Shelf.Strings.Builder1
import Derived.Shelf.Strings.Trim
import Derived.Shelf.Small.Utf8
import Derived.Shelf.Small.Bits
import Derived.Shelf.Small.Strs
import Derived.Shelf.Strings.BuilderF
import Derived.Shelf.Strings.BuilderK
import Derived.Shelf.Strings.Search1
import Derived.Shelf.Unicode.Decode
import Derived.Shelf.Strings.Runes
import Derived.Shelf.Strings.AsciiSet
import Derived.Shelf.Unicode.DecodeSlow
import Derived.Shelf.Unicode.DecodeAny
import Derived.Shelf.Strings.BuilderCap
set_option maxRecDepth 100000
set_option maxHeartbeats 16000000
namespace Go.Proofs.YtblekfkmianmeaaGreatDoor
open Go.RowKit Go.ChangeShapes Go.WideShapes
theorem qHd {p : Prop} (h : p) : Hid p := h
theorem qBA (w : World) (o : Obj) : Below w.heap.size w (w.alloc o) := (Below.refl _ _).alloc (Nat.le_refl _) _
theorem qBx3 (w : World) (o : Obj) : ∃ w', w' = w.alloc o ∧ Below w.heap.size w w' ∧ w'.heap[w.heap.size]? = some o := ⟨_, rfl, qBA w o, heap_alloc_new w o⟩
theorem qBx5 (w : World) (o : Obj) : ∃ w', w' = w.alloc o ∧ Below w.heap.size w w' ∧ ∃ g, g = w.heap.size ∧ w'.heap[g]? = some o := ⟨_, rfl, qBA w o, _, rfl, heap_alloc_new w o⟩
theorem qBx2 (w : World) (o p : Obj) : ∃ w', w' = (w.alloc o).alloc p ∧ Below w.heap.size w w' ∧ w'.heap[w.heap.size]? = some o ∧ w'.heap[w.heap.size + 1]? = some p := ⟨_, rfl, (qBA w o).alloc (by simp) _, heap_alloc2_old w o p, heap_alloc2_new w o p⟩
def gd (l : List Nat) (j : Nat) : Nat := l.getD j 0
theorem gd_over (l : List Nat) (j : Nat) (h : l.length ≤ j) : gd l j = 0 := by simp [gd, h]
theorem gd_lt (l : List Nat) (j : Nat) (h : j < l.length) : gd l j = l[j] := by simp [gd, h]
theorem gd_set (l : List Nat) (k x j : Nat) : gd (l.set k x) j = if j = k ∧ k < l.length then x else gd l j := by
 unfold gd
 rw [List.getD_eq_getElem?_getD, List.getD_eq_getElem?_getD, List.getElem?_set]
 by_cases h : k = j
 ·subst h
  by_cases h2 : k < l.length <;> simp [h2]
 ·rw [if_neg h, if_neg (by omega)]
theorem gd_replicate (n x j : Nat) : gd (List.replicate n x) j = if j < n then x else 0 := by
 unfold gd
 rw [List.getD_eq_getElem?_getD, List.getElem?_replicate]; split <;> simp
theorem gd_append (a b : List Nat) (j : Nat) : gd (a ++ b) j = if j < a.length then gd a j else gd b (j - a.length) := by
 unfold gd
 simp only [List.getD_eq_getElem?_getD, List.getElem?_append]; split <;> rfl
theorem gd_take (a : List Nat) (n j : Nat) : gd (a.take n) j = if j < n then gd a j else 0 := by
 unfold gd
 simp only [List.getD_eq_getElem?_getD, List.getElem?_take]; split <;> simp
theorem gd_drop (a : List Nat) (n j : Nat) : gd (a.drop n) j = gd a (n + j) := by
 unfold gd
 simp only [List.getD_eq_getElem?_getD, List.getElem?_drop]
theorem gd_ext {a b : List Nat} (hl : a.length = b.length) (h : ∀ j, j < a.length → gd a j = gd b j) : a = b := by
 apply List.ext_getElem hl
 intro i h1 h2
 have := h i h1
 rwa [gd_lt _ _ h1, gd_lt _ _ h2] at this
theorem gd_cons_zero (x : Nat) (l : List Nat) : gd (x :: l) 0 = x := rfl
theorem gd_cons_succ (x : Nat) (l : List Nat) (j : Nat) : gd (x :: l) (j + 1) = gd l j := rfl

def U32 (l : List Nat) : Prop := ∀ j, gd l j < 4294967296

def Num (w : World) (v : Value) (l : List Nat) : Prop :=
 ∃ ao c, v = .slice ao l.length c ∧ l.length ≤ c ∧ c ≤ 9223372036854775807 ∧ (ao = none → c = 0) ∧
  (∀ b off s, ao = some ⟨b, off, s⟩ → (0 < l.length → b < w.heap.size ∧ s = none) ∧ ∀ j, j < l.length → w.cell? ⟨b, off + j, none⟩ = some (.int .u32 (gd l j : Nat))) ∧
  U32 l
theorem Num.mono {w w' : World} {v : Value} {l : List Nat} {B : Nat} (h : Num w v l) (hb : Below B w w') (hB : w.heap.size ≤ B) : Num w' v l := by
 obtain ⟨ao, c, rfl, h1, h2, h3, h4, h5⟩ := h
 refine ⟨ao, c, rfl, h1, h2, h3, ?_, h5⟩
 intro b off s hs
 obtain ⟨k1, k3⟩ := h4 b off s hs
 refine ⟨fun h0 => ⟨Nat.lt_of_lt_of_le (k1 h0).1 hb.size, (k1 h0).2⟩, fun j hj => ?_⟩
 rw [hb.cell (p := ⟨b, off + j, none⟩) (Nat.lt_of_lt_of_le (k1 (by omega)).1 hB)]
 exact k3 j hj
theorem Num.below {w w' : World} {v : Value} {l : List Nat} (h : Num w v l) (hb : Below w.heap.size w w') : Num w' v l := h.mono hb (Nat.le_refl _)
theorem Num.shape {w : World} {v : Value} {l : List Nat} (h : Num w v l) : ∃ ao c, v = .slice ao l.length c ∧ l.length ≤ c ∧ c ≤ 9223372036854775807 ∧ (ao = none → c = 0) := by
 obtain ⟨ao', c', e, h1, h2, h3, h4, h5⟩ := h
 exact ⟨ao', c', e, h1, h2, h3⟩
theorem Num.at {w : World} {ao : Option Addr} {n c : Nat} {l : List Nat} (h : Num w (.slice ao n c) l) (hn : 0 < n) :
  ∃ b off, ao = some ⟨b, off, none⟩ ∧ b < w.heap.size ∧ ∀ j, j < n → w.cell? ⟨b, off + j, none⟩ = some (.int .u32 (gd l j : Nat)) := by
 obtain ⟨ao', c', e, h1, h2, h3, h4, h5⟩ := h
 cases e
 cases hao : ao with
 | none => have := h3 hao; omega
 | some a =>
  obtain ⟨b, off, s⟩ := a
  obtain ⟨k1, k3⟩ := h4 b off s hao
  obtain ⟨k0, rfl⟩ := k1 hn
  exact ⟨b, off, rfl, k0, k3⟩
theorem Num.lt {w : World} {v : Value} {l : List Nat} (h : Num w v l) : U32 l := by
 obtain ⟨ao', c', e, h1, h2, h3, h4, h5⟩ := h
 exact h5
theorem Num.nil (w : World) : Num w (.slice none 0 0) [] := ⟨none, 0, rfl, Nat.le_refl _, by omega, by simp, by simp, fun j => by simp [gd]⟩

def RetNum (w : World) (R : List Nat → Prop) (e : Ending) (w' : World) : Prop := ∃ v l, e = .returned v ∧ Below w.heap.size w w' ∧ Num w' v l ∧ R l
def RetV (w : World) (v : Value) (e : Ending) (w' : World) : Prop := e = .returned v ∧ Below w.heap.size w w'

def RetS (w : World) (v : Value) (e : Ending) (w' : World) : Prop := e = .returned v ∧ w = w'
theorem ret_quiet {P : Program} {f : FuncId} {args : Array Value} {w : World} {v : Value} (h : Calls P f args w (RetS w v)) : Calls P f args w fun e w' => e = .returned v ∧ w' = w :=
 h.mono fun _ _ ⟨h1, h2⟩ => ⟨h1, h2.symm⟩
theorem ret_bool {a b : Bool} (h : a = b) : Ending.returned (.bool a) = .returned (.bool b) := by rw [h]
theorem ret_int {k : IntKind} {a b : Int} (h : a = b) : Ending.returned (.int k a) = .returned (.int k b) := by rw [h]
theorem map_gd (l : List Nat) (j : Nat) : (l.map fun x : Nat => Value.int .u32 x)[j]? = if j < l.length then some (.int .u32 (gd l j : Nat)) else none := by
 by_cases h : j < l.length <;> simp [gd, h]

def qcg (e : TypeId) (w : World) (B : Nat) (v : Value) (l : List Nat) : Prop :=
 w.ownsRow B e 1 v l.length (l.map fun x : Nat => Value.int .u32 x) ∧ U32 l

section
variable {e : TypeId} {w : World} {B : Nat} {v : Value} {l : List Nat}
theorem qcg.lt (h : qcg e w B v l) : U32 l := h.2
theorem qcg.nil (e : TypeId) (w : World) (B : Nat) : qcg e w B (.slice none 0 0) [] := ⟨World.ownsRow_nil _ _ _ _, fun j => by simp [gd]⟩
theorem qcg.cell {g n c : Nat} (h : qcg e w B (.slice (some ⟨g, 0, none⟩) n c) l) (hn : l.length = n) : ∀ j, j < n → w.cell? ⟨g, j, none⟩ = some (.int .u32 (gd l j : Nat)) := by
 intro j hj
 subst hn
 have := h.1.cellAt j (by omega)
 rw [this, map_gd, if_pos hj]
theorem qcg.frozen {g n c : Nat} (h : qcg e w B (.slice (some ⟨g, 0, none⟩) n c) l) (hn : l.length = n) : ∀ j, w.frozen? ⟨g, j, none⟩ = false := fun j => by subst hn; exact h.1.frozenAt j
theorem qcg.stored {g n c : Nat} (h : qcg e w B (.slice (some ⟨g, 0, none⟩) n c) l) (hn : l.length = n) (k x : Nat) (hx : x < 4294967296) :
  qcg e (w.setCell ⟨g, k, none⟩ (.int .u32 x)) B (.slice (some ⟨g, 0, none⟩) n c) (l.set k x) := by
 subst hn
 obtain ⟨h1, h3⟩ := h
 obtain ⟨r1, r2⟩ := h1.stored k (.int .u32 x)
 refine ⟨?_, ?_⟩
 ·rw [List.map_set, List.length_set]; exact r1
 ·intro j
  rw [gd_set]; split
  ·exact hx
  ·exact h3 j
theorem qcg.num (h : qcg e w B v l) : Num w v l := by
 obtain ⟨h1, h2⟩ := h
 have hc := fun g hg => h1.cells (g := g) hg
 have hlt := h1.lt
 rcases h1.2 with ⟨rfl, hn⟩ | ⟨g, cap, cur, rfl, hb, hh, hcap, hm, hs, ht⟩
 ·have : l = [] := List.eq_nil_of_length_eq_zero hn
  subst this; exact Num.nil w
 ·refine ⟨some ⟨g, 0, none⟩, cap, rfl, hcap, by unfold maxLen at hm; omega, by simp, ?_, h2⟩
  intro b off s hs'
  simp only [Option.some.injEq, Addr.mk.injEq] at hs'
  obtain ⟨rfl, rfl, rfl⟩ := hs'
  refine ⟨fun _ => ⟨(hlt g rfl).2, rfl⟩, fun j hj => ?_⟩
  have := hc g rfl j (.int .u32 (gd l j : Nat)) (by rw [map_gd, if_pos hj])
  have e2 : (⟨g, 0, none⟩ : Addr).add j = ⟨g, 0 + j, none⟩ := by unfold Addr.add; split <;> simp_all
  rw [e2] at this; exact this
theorem qcg.head (h : qcg e w B v l) (hn : 0 < l.length) : ∃ g c, v = .slice (some ⟨g, 0, none⟩) l.length c ∧ B ≤ g := by
 rcases h.1.2 with ⟨rfl, h0⟩ | ⟨g, cap, cur, rfl, hb, hh, hcap, hm, hs, ht⟩
 ·omega
 ·exact ⟨g, cap, rfl, hb⟩
theorem qcg.block {g n c : Nat} (h : qcg e w B (.slice (some ⟨g, 0, none⟩) n c) l) : B ≤ g ∧ g < w.heap.size := h.1.lt g rfl
theorem qcg.alloc (h : qcg e w B v l) (o : Obj) : qcg e (w.alloc o) B v l := ⟨h.1.alloc o, h.2⟩
theorem qcg.drew (h : qcg e w B v l) : qcg e w.drew B v l := ⟨h.1.drew, h.2⟩
theorem qcg.below {w' : World} (h : qcg e w B v l) (hb : Below w.heap.size w w') : qcg e w' B v l := by
 refine ⟨h.1.kept (row := none) ⟨hb.os, hb.tape, hb.output, hb.size, fun k hk _ => hb.block k hk⟩ ?_, h.2⟩
 cases hv : v.ownBlock <;> simp
theorem qcg.base {B' : Nat} (h : qcg e w B v l) (hB : B' ≤ B) : qcg e w B' v l := by
 obtain ⟨⟨h1, h2⟩, h3⟩ := h
 refine ⟨⟨h1, ?_⟩, h3⟩
 rcases h2 with h2 | ⟨g, cap, cur, hv, hb, r⟩
 ·exact .inl h2
 ·exact .inr ⟨g, cap, cur, hv, Nat.le_trans hB hb, r⟩
end

theorem num_lit (w : World) (e : TypeId) (cs : Array Value) (l : List Nat) (n : Nat) (hU : U32 l) (hn : l.length = n) (hs : l.length ≤ 1000000) (hcs : cs = (l.map fun x : Nat => Value.int .u32 x).toArray) :
  Num (w.alloc (.cells cs e)) (.slice (some ⟨w.heap.size, 0, none⟩) n n) l := by
 subst hcs hn
 refine ⟨some ⟨w.heap.size, 0, none⟩, l.length, rfl, Nat.le_refl _, by omega, by simp, ?_, hU⟩
 intro b off s hs'
 simp only [Option.some.injEq, Addr.mk.injEq] at hs'
 obtain ⟨rfl, rfl, rfl⟩ := hs'
 refine ⟨fun _ => ⟨by simp, rfl⟩, fun j hj => ?_⟩
 rw [Nat.zero_add, cell_of_row (w.alloc (.cells (l.map fun x : Nat => Value.int .u32 x).toArray e)) w.heap.size j _ e (0, 0) (heap_alloc_new w _)]
 have := map_gd l j
 rw [if_pos hj] at this
 simpa using this

structure qcl (P : Program) (t e : TypeId) (z : Value) (size bytes : Nat) : Prop where
 under : P.underlying t = some (.slice e)
 info : ∃ i, P.info? e = some i ∧ i.zero = some z ∧ i.size = size ∧ i.bytes = bytes

theorem qcl.mk' {P : Program} {t e : TypeId} {z : Value} {size bytes : Nat} (h1 : P.underlying t = some (.slice e))
  (h2 : (P.info? e).map (fun i => (i.zero, i.size, i.bytes)) = some (some z, size, bytes)) : qcl P t e z size bytes := ⟨h1, info_parts h2⟩

section
variable {P : Program} {w : World} {ops : Array Oper} {rest : List Oper} {o : Oper} {a : Act} {Q : Exit → Act → World → Prop} {t e : TypeId}
theorem qch (T : qcl P t e (.int .u32 0) 1 4)
  (hg : o.guard = none) (l c : Operand) (hop : o.op = Op.makeSlice t l c)
  (kl kc : IntKind) (L C : Int) (n : Nat) (hl : a.eval l = .int kl L) (hc : a.eval c = .int kc C) (hL : L = (n : Int)) (hC : C = (n : Int)) (hn : n ≤ 70368744177664)
  (hK : ∀ w', qcg e w' w.heap.size (.slice (some ⟨w.heap.size, 0, none⟩) n n) (List.replicate n 0) → Below w.heap.size w w' → w.heap.size < w'.heap.size →
   wpList P ops Q rest (a.put o.dst (.slice (some ⟨w.heap.size, 0, none⟩) n n)) w') :
  wpList P ops Q (o :: rest) a w := by
 obtain ⟨i0, hi, hz0, hz1, hz2⟩ := T.info
 refine wpList_make_full w hg l c t hop w.heap.size e i0 (.int .u32 0) 1 T.under hi hz0 hz1 kl kc L C n hl hc hL hC (by rw [hz2]; omega) (by unfold maxLen; omega) (Nat.le_refl _) ?_
 intro w1 h1 h2
 refine hK w1 ⟨?_, ?_⟩ ((Below.refl _ _).grown h2 (Nat.le_refl _) (by simp)) (h1.lt _ rfl).2
 ·have e1 : (Value.int IntKind.u32 0).cells = #[.int .u32 0] := rfl
  rw [e1, Nat.mul_one, toList_madeCells_one] at h1
  rw [List.map_replicate, List.length_replicate]; exact h1
 ·intro j; rw [gd_replicate]; split <;> omega

theorem run_appendN (T : qcl P t e (.int .u32 0) 1 4) (ty : TypeId) (B : Nat) (v xv : Value) (l m : List Nat) (hown : qcg e w B v l) (hm : Num w xv m)
  (hlen : l.length + m.length ≤ 17592186044416) (hB : B ≤ w.heap.size) :
  ∃ v' w', (Builtin.append_ #[t, t] ty #[v, xv]).run P w = .ok v' w' ∧ qcg e w' B v' (l ++ m) ∧ w.grownBy w' v.ownBlock := by
 obtain ⟨i0, hi, hz0, hz1, hz2⟩ := T.info
 obtain ⟨ao, c, rfl, h1, h2, h3, h4, h5⟩ := hm
 have hU : U32 (l ++ m) := by
  intro j; rw [gd_append]; split
  ·exact hown.2 j
  ·exact h5 _
 cases hao : ao with
 | none =>
  have hc0 := h3 hao
  have hm0 : m = [] := List.eq_nil_of_length_eq_zero (by omega)
  subst hm0 hc0
  have hrun := run_append_owned_none (P := P) w B t ty e i0 1 T.under hi v _ _ hown.1
  refine ⟨v, w, hrun, ?_, World.grownBy.refl _ _⟩
  rw [List.append_nil]; exact hown
 | some ad =>
  obtain ⟨b, off, sp⟩ := ad
  obtain ⟨k1, k3⟩ := h4 b off sp hao
  have hnews : ∀ j u, (m.map fun x : Nat => Value.int .u32 x)[j]? = some u → w.cell? ((⟨b, off, sp⟩ : Addr).add j) = some u := by
   intro j u hu
   rw [map_gd] at hu
   split at hu
   ·rename_i hj
    have := (k1 (by omega)).2; subst this
    have e2 : (⟨b, off, none⟩ : Addr).add j = ⟨b, off + j, none⟩ := by unfold Addr.add; split <;> simp_all
    rw [e2, k3 j hj]; exact hu
   ·cases hu
  obtain ⟨v', w', r1, r2, r3, _⟩ := run_append_own (P := P) w B t ty e i0 (.int .u32 0) 1 4 T.under hi hz0 hz1 hz2 rfl (by decide) v _ _ hown.1 ⟨b, off, sp⟩ m.length c (m.map fun x : Nat => Value.int .u32 x) (by simp) hnews
   (by intro u hu; obtain ⟨x, _, rfl⟩ := List.mem_map.1 hu; rfl) (by unfold maxLen; omega) (by omega) hB
  refine ⟨v', w', r1, ⟨?_, hU⟩, r3⟩
  rw [List.map_append, List.length_append]; exact r2
theorem qbu (T : qcl P t e (.int .u32 0) 1 4)
  (hg : o.guard = none) (s x : Operand) (hop : o.op = Op.call { callee := Callee.builtin Builtin.append, args := #[s, x], argTypes := #[t, t] })
  (B : Nat) (v xv : Value) (l m : List Nat) (hs : a.eval s = v) (hx : a.eval x = xv) (hown : qcg e w B v l) (hm : Num w xv m)
  (hlen : l.length + m.length ≤ 17592186044416) (hB : B ≤ w.heap.size)
  (hK : ∀ v' w', qcg e w' B v' (l ++ m) → (∀ w0, Below B w0 w → Below B w0 w') → w.heap.size ≤ w'.heap.size →
   wpList P ops Q rest (a.put o.dst v') w') :
  wpList P ops Q (o :: rest) a w := by
 refine wpList_plain hg fun K hK' => ?_
 have key := run_appendN T o.type B v xv l m hown hm hlen hB
 obtain ⟨v', w', hrun, r1, r2⟩ := key
 unfold Oper.wp
 simp [execOp, hop, resolve, invoke, builtin, hs, hx, hrun, Result.andThen]
 refine hK' _ _ (hK v' w' r1 (fun w0 h0 => h0.grown r2 hB ?_) r2.size)
 intro k hk
 exact (hown.1.lt k hk).1
end

section
variable {P : Program} (w : World)
@[go_sem 2000] theorem run_max_int2' (ts : Array TypeId) (t : TypeId) (k k' : IntKind) (x y : Int) : (Builtin.max_ ts t #[.int k x, .int k' y]).run P w = .ok (.int k (max x y)) w := by
  rw [run_max_int2]; congr 2; rw [Int.max_def]; split <;> split <;> omega
@[go_sem 2000] theorem run_min_int2' (ts : Array TypeId) (t : TypeId) (k k' : IntKind) (x y : Int) : (Builtin.min_ ts t #[.int k x, .int k' y]).run P w = .ok (.int k (min x y)) w := by
  simp only [Builtin.min_, Builtin.min2, List.foldlM]
  simp only [Sem.run_bind, Sem.run_pure, Result.andThen_ok]
  congr 2; rw [Int.min_def]; split <;> split <;> omega
end
end Go.Proofs.YtblekfkmianmeaaGreatDoor
namespace Go.Proofs.YtblekfkmianmeaaGreatDoor
open Go.RowKit
def val : List Nat → Nat
 | [] => 0
 | x :: l => x + 4294967296 * val l
def wd (n : Nat) : List Nat := if h : n = 0 then [] else n % 4294967296 :: wd (n / 4294967296)
termination_by n
decreasing_by exact Nat.div_lt_self (by omega) (by decide)
theorem qbl : wd 0 = [] := by unfold wd; simp
theorem wd_pos {n : Nat} (h : n ≠ 0) : wd n = n % 4294967296 :: wd (n / 4294967296) := by rw [wd]; rw [dif_neg h]
theorem qao (n : Nat) : val (wd n) = n := by
 induction n using Nat.strongRecOn with
 | _ n ih =>
  by_cases h : n = 0
  ·subst h; rw [qbl]; rfl
  ·rw [wd_pos h]
   simp only [val]
   rw [ih _ (Nat.div_lt_self (by omega) (by decide))]
   exact Nat.mod_add_div n 4294967296
theorem U32.nil : U32 [] := fun j => by simp [gd]
theorem U32.cons {x : Nat} {l : List Nat} (h1 : x < 4294967296) (h2 : U32 l) : U32 (x :: l) := by
 intro j
 cases j with
 | zero => exact h1
 | succ j => exact h2 j
theorem U32.head {x : Nat} {l : List Nat} (h : U32 (x :: l)) : x < 4294967296 := h 0
theorem U32.tail {x : Nat} {l : List Nat} (h : U32 (x :: l)) : U32 l := fun j => h (j + 1)
theorem U32.take {a : List Nat} (h : U32 a) (n : Nat) : U32 (a.take n) := by
 intro j; rw [gd_take]; split
 ·exact h j
 ·decide
theorem U32.drop {a : List Nat} (h : U32 a) (n : Nat) : U32 (a.drop n) := by intro j; rw [gd_drop]; exact h _
theorem U32.replicate (n : Nat) {x : Nat} (hx : x < 4294967296) : U32 (List.replicate n x) := by
 intro j; rw [gd_replicate]; split
 ·exact hx
 ·decide
theorem qcp (n : Nat) : U32 (wd n) := by
 induction n using Nat.strongRecOn with
 | _ n ih =>
  by_cases h : n = 0
  ·subst h; rw [qbl]; exact U32.nil
  ·rw [wd_pos h]
   exact U32.cons (Nat.mod_lt _ (by decide)) (ih _ (Nat.div_lt_self (by omega) (by decide)))
theorem val_append (a b : List Nat) : val (a ++ b) = val a + 4294967296 ^ a.length * val b := by
 induction a with
 | nil => simp [val]
 | cons x a ih =>
  have e : 4294967296 * (4294967296 ^ a.length * val b) = 4294967296 ^ a.length * 4294967296 * val b := by rw [← Nat.mul_assoc, Nat.mul_comm 4294967296]
  simp only [List.cons_append, val, ih, List.length_cons]
  rw [Nat.pow_succ, Nat.mul_add, e]; omega
theorem qct {l : List Nat} (h : U32 l) : val l < 4294967296 ^ l.length := by
 induction l with
 | nil => simp [val]
 | cons x l ih =>
  have := ih h.tail
  have := h.head
  simp only [val, List.length_cons]; rw [Nat.pow_succ]; omega
theorem val_zeros (n : Nat) : val (List.replicate n 0) = 0 := by
 induction n with
 | zero => rfl
 | succ n ih => rw [List.replicate_succ]; simp only [val, ih]
theorem val_drop {l : List Nat} (h : U32 l) (n : Nat) : val (l.drop n) = val l / 4294967296 ^ n := by
 induction n generalizing l with
 | zero => simp
 | succ n ih =>
  cases l with
  | nil => simp [val]
  | cons x l =>
   rw [List.drop_succ_cons, ih h.tail, Nat.pow_succ, Nat.mul_comm, ← Nat.div_div_eq_div_mul]
   congr 1
   have := h.head
   simp only [val]; omega
theorem val_take {l : List Nat} (h : U32 l) (n : Nat) : val (l.take n) = val l % 4294967296 ^ n := by
 have e : val l = val (l.take n) + 4294967296 ^ (l.take n).length * val (l.drop n) := by rw [← val_append, List.take_append_drop]
 by_cases hn : n ≤ l.length
 ·have hl : (l.take n).length = n := by rw [List.length_take]; omega
  have hlt := qct (h.take n)
  rw [hl] at e hlt
  rw [e, Nat.add_mul_mod_self_left, Nat.mod_eq_of_lt hlt]
 ·rw [List.take_of_length_le (by omega), Nat.mod_eq_of_lt]
  exact Nat.lt_of_lt_of_le (qct h) (Nat.pow_le_pow_right (by decide) (by omega))
theorem val_gd {l : List Nat} (h : U32 l) (j : Nat) : gd l j = val l / 4294967296 ^ j % 4294967296 := by
 rw [← val_drop h j]
 have e : gd l j = gd (l.drop j) 0 := by rw [gd_drop]; rfl
 rw [e]
 cases hd : l.drop j with
 | nil => simp [val, gd]
 | cons x r =>
  have hx := h.drop j
  rw [hd] at hx
  have := hx.head
  show x = _
  simp only [val]; omega
def Clean (l : List Nat) : Prop := l = [] ∨ gd l (l.length - 1) ≠ 0
theorem clean_wd (n : Nat) : Clean (wd n) := by
 induction n using Nat.strongRecOn with
 | _ n ih =>
  by_cases h : n = 0
  ·subst h; rw [qbl]; exact .inl rfl
  ·rw [wd_pos h]
   right
   by_cases h2 : n / 4294967296 = 0
   ·rw [h2, qbl]; show n % 4294967296 ≠ 0; omega
   ·rcases ih (n / 4294967296) (Nat.div_lt_self (by omega) (by decide)) with hn | hn
    ·rw [wd_pos h2] at hn; cases hn
    ·rw [wd_pos h2] at hn ⊢
     simp only [List.length_cons] at hn ⊢
     exact hn
theorem clean_eq {l : List Nat} (hu : U32 l) (hc : Clean l) : l = wd (val l) := by
 induction l with
 | nil => rw [show val [] = 0 from rfl, qbl]
 | cons x l ih =>
  have hx := hu.head
  have hne : val (x :: l) ≠ 0 := by
   intro h0
   rcases hc with hc | hc
   ·cases hc
   ·apply hc
    rw [val_gd hu, h0]; simp
  rw [wd_pos hne]
  have e1 : val (x :: l) % 4294967296 = x := by simp only [val]; omega
  have e2 : val (x :: l) / 4294967296 = val l := by simp only [val]; omega
  rw [e1, e2, ← ih hu.tail]
  rcases hc with hc | hc
  ·cases hc
  ·cases l with
   | nil => exact .inl rfl
   | cons y l => right; exact hc
theorem qcb {l : List Nat} (n : Nat) (h : ∀ j, n ≤ j → gd l j = 0) : val (l.take n) = val l := by
 have e : val l = val (l.take n) + 4294967296 ^ (l.take n).length * val (l.drop n) := by rw [← val_append, List.take_append_drop]
 have hz : l.drop n = List.replicate (l.drop n).length 0 := by
  apply gd_ext (by simp)
  intro j _
  rw [gd_drop, h _ (by omega), gd_replicate]; split <;> rfl
 have : val (l.drop n) = 0 := by rw [hz]; exact val_zeros _
 rw [this] at e; omega
theorem qbh {l : List Nat} (hu : U32 l) : (wd (val l)).length ≤ l.length := by
 obtain ⟨n, hn⟩ : ∃ n, n = val l := ⟨_, rfl⟩
 rw [← hn]
 induction l generalizing n with
 | nil => simp only [val] at hn; subst hn; rw [qbl]; exact Nat.le_refl _
 | cons x l ih =>
  by_cases h : n = 0
  ·subst h; rw [qbl]; exact Nat.zero_le _
  ·rw [wd_pos h, List.length_cons, List.length_cons]
   have hx := hu.head
   have := ih hu.tail (n / 4294967296) (by rw [hn]; simp only [val]; omega)
   omega
theorem qbr {n k : Nat} (h : n < 4294967296 ^ k) : (wd n).length ≤ k := by
  induction k generalizing n with
  | zero => have : n = 0 := by simpa using h
            subst this; rw [qbl]; exact Nat.le_refl _
  | succ k ih =>
    by_cases h0 : n = 0
    · subst h0; rw [qbl]; exact Nat.zero_le _
    · rw [wd_pos h0, List.length_cons]
      have := ih (n := n / 4294967296) (Nat.div_lt_of_lt_mul (by rw [Nat.pow_succ, Nat.mul_comm] at h; exact h))
      omega
theorem val_ext {a b : List Nat} (h : ∀ j, gd a j = gd b j) : val a = val b := by
 induction a generalizing b with
 | nil =>
  have := qcb (l := b) 0 (fun j _ => by rw [← h j]; simp [gd])
  rw [← this]; rfl
 | cons x a ih =>
  cases b with
  | nil =>
   have := qcb (l := x :: a) 0 (fun j _ => by rw [h j]; simp [gd])
   rw [← this]; rfl
  | cons y b =>
   have h0 := h 0
   rw [gd_cons_zero, gd_cons_zero] at h0
   simp only [val]
   rw [h0, ih (b := b) (fun j => h (j + 1))]
theorem val_digit {l : List Nat} (h : U32 l) (k : Nat) : val l / 4294967296 ^ k = gd l k + 4294967296 * (val l / 4294967296 ^ (k + 1)) := by
 rw [val_gd h, Nat.pow_succ, ← Nat.div_div_eq_div_mul]
 omega
theorem qdh {a b : List Nat} (ha : U32 a) (hb : U32 b) (k : Nat) (h : ∀ j, k < j → gd a j = gd b j) (hk : gd a k < gd b k) : val a < val b := by
 have e : val a / 4294967296 ^ (k + 1) = val b / 4294967296 ^ (k + 1) := by
  rw [← val_drop ha, ← val_drop hb]
  exact val_ext fun j => by rw [gd_drop, gd_drop, h _ (by omega)]
 have e1 := val_digit ha k
 have e2 := val_digit hb k
 have : val a / 4294967296 ^ k < val b / 4294967296 ^ k := by rw [e1, e2, e]; omega
 rcases Nat.lt_or_ge (val a) (val b) with h1 | h1
 ·exact h1
 ·have := Nat.div_le_div_right (c := 4294967296 ^ k) h1; omega
theorem qas {m n : Nat} (h : m ≤ n) : (wd m).length ≤ (wd n).length := by
 apply qbr
 have := qct (qcp n)
 rw [qao] at this; omega
def cmpN (m n : Nat) : Int := if m < n then -1 else if n < m then 1 else 0
theorem cmpN_lt {m n : Nat} (h : m < n) : cmpN m n = -1 := by unfold cmpN; rw [if_pos h]
theorem cmpN_gt {m n : Nat} (h : n < m) : cmpN m n = 1 := by unfold cmpN; rw [if_neg (by omega), if_pos h]
theorem cmpN_eq {m n : Nat} (h : m = n) : cmpN m n = 0 := by unfold cmpN; rw [if_neg (by omega), if_neg (by omega)]
theorem qay (l : List Nat) (k : Nat) : val (l.take (k + 1)) = val (l.take k) + 4294967296 ^ k * gd l k := by
 induction l generalizing k with
 | nil => simp [val, gd]
 | cons x l ih =>
  cases k with
  | zero => simp [val, gd_cons_zero]
  | succ k =>
   rw [List.take_succ_cons, List.take_succ_cons, gd_cons_succ]
   simp only [val]
   rw [ih k, Nat.pow_succ, Nat.mul_add, ← Nat.mul_assoc, Nat.mul_comm 4294967296 (4294967296 ^ k)]; omega
theorem qcw (l : List Nat) {k : Nat} (h : l.length ≤ k) : val (l.take k) = val l := by rw [List.take_of_length_le h]
theorem val_set (l : List Nat) (k x : Nat) (h : k < l.length) : val (l.set k x) + 4294967296 ^ k * gd l k = val l + 4294967296 ^ k * x := by
 induction l generalizing k with
 | nil => simp at h
 | cons y l ih =>
  cases k with
  | zero => simp [val, gd_cons_zero]; omega
  | succ k =>
   have := ih k (by simpa using h)
   simp only [List.set_cons_succ, val, gd_cons_succ]
   rw [Nat.pow_succ, Nat.mul_comm _ 4294967296, Nat.mul_assoc, Nat.mul_assoc]; omega
theorem take_set_le (l : List Nat) (k j x : Nat) (h : k ≤ j) : (l.set j x).take k = l.take k := by
 apply List.ext_getElem?
 intro i
 rw [List.getElem?_take, List.getElem?_take, List.getElem?_set]
 split
 ·rw [if_neg (by omega)]
 ·rfl
theorem val_take_set (l : List Nat) (k x : Nat) (h : k < l.length) : val ((l.set k x).take (k + 1)) = val (l.take k) + 4294967296 ^ k * x := by
 rw [qay, take_set_le _ _ _ _ (Nat.le_refl _), gd_set, if_pos ⟨rfl, h⟩]
theorem val_snoc (l : List Nat) (x : Nat) : val (l ++ [x]) = val l + 4294967296 ^ l.length * x := by rw [val_append]; simp [val]
theorem add_step {P O c a b x y : Nat} (h : O + P * c = a + b) :
  (O + P * ((c + (x + y)) % 4294967296)) + P * 4294967296 * ((c + (x + y)) / 4294967296) = (a + P * x) + (b + P * y) := by
 have e : (c + (x + y)) % 4294967296 + 4294967296 * ((c + (x + y)) / 4294967296) = c + (x + y) := Nat.mod_add_div _ _
 have : P * ((c + (x + y)) % 4294967296) + P * 4294967296 * ((c + (x + y)) / 4294967296) = P * c + P * x + P * y := by
  rw [Nat.mul_assoc, ← Nat.mul_add, e, Nat.mul_add, Nat.mul_add]; omega
 omega
theorem add_end {a b : List Nat} {n O c : Nat} (ha : U32 a) (hb : U32 b) (hn : max a.length b.length < n) (h : O + 4294967296 ^ n * c = val a + val b) : O = val a + val b := by
 have h1 := qct ha
 have h2 := qct hb
 have e1 : 4294967296 ^ a.length ≤ 4294967296 ^ (n - 1) := Nat.pow_le_pow_right (by decide) (by omega)
 have e2 : 4294967296 ^ b.length ≤ 4294967296 ^ (n - 1) := Nat.pow_le_pow_right (by decide) (by omega)
 have e3 : 4294967296 ^ n = 4294967296 ^ (n - 1) * 4294967296 := by rw [← Nat.pow_succ]; congr 1; omega
 cases c with
 | zero => simpa using h
 | succ c =>
  have : 4294967296 ^ n ≤ 4294967296 ^ n * (c + 1) := Nat.le_mul_of_pos_right _ (by omega)
  omega

theorem sub_step {P O r a b x y d r' : Nat} (h : O + b = a + P * r) (hd : d + y + r = x + 4294967296 * r') :
  (O + P * d) + (b + P * y) = (a + P * x) + P * 4294967296 * r' := by
 have : P * (d + y + r) = P * (x + 4294967296 * r') := by rw [hd]
 rw [Nat.mul_add, Nat.mul_add, Nat.mul_add, ← Nat.mul_assoc] at this
 omega
theorem sub_end {O a b P r : Nat} (hO : O < P) (h : O + b = a + P * r) (hab : b ≤ a) (hr : r ≤ 1) : O = a - b := by
 rcases Nat.le_one_iff_eq_zero_or_eq_one.mp hr with rfl | rfl
 ·omega
 ·omega
theorem mul_step {P O O' c o p s R : Nat} (h : O + P * c = R) (hs : s = c + (p + o)) (h2 : O' + P * o = O + P * (s % 4294967296)) :
  O' + P * 4294967296 * (s / 4294967296) = R + P * p := by
 have e : s % 4294967296 + 4294967296 * (s / 4294967296) = s := Nat.mod_add_div _ _
 have : P * (s % 4294967296) + P * 4294967296 * (s / 4294967296) = P * c + P * p + P * o := by
  rw [Nat.mul_assoc, ← Nat.mul_add, e, hs, Nat.mul_add, Nat.mul_add]; omega
 omega
theorem word_mul {x y : Nat} (hx : x < 4294967296) (hy : y < 4294967296) : x * y ≤ 18446744065119617025 :=
 Nat.le_trans (Nat.mul_le_mul (Nat.le_pred_of_lt hx) (Nat.le_pred_of_lt hy)) (by decide)
theorem mul_bounds {c p o : Nat} (hc : c < 4294967296) (hp : p ≤ 18446744065119617025) (ho : o < 4294967296) : (c + (p + o)) / 4294967296 < 4294967296 ∧ (c + (p + o)) % 4294967296 < 4294967296 := by omega
theorem mul_row (T A x : Nat) (b : List Nat) (k y : Nat) (hy : y = gd b k) :
  T + A * (x * val (b.take k)) + A * 4294967296 ^ k * (x * y) = T + A * (x * val (b.take (k + 1))) := by
 have e : A * 4294967296 ^ k * (x * y) = A * (x * (4294967296 ^ k * y)) := by
  rw [Nat.mul_assoc]; congr 1; rw [Nat.mul_left_comm]
 rw [qay, ← hy, e, Nat.mul_add x, Nat.mul_add A]; omega
theorem mul_rows (a b : List Nat) (i x : Nat) (hx : x = gd a i) : val (a.take i) * val b + 4294967296 ^ i * (x * val b) = val (a.take (i + 1)) * val b := by
 rw [qay, ← hx, Nat.add_mul, Nat.mul_assoc]
theorem gd_zero_of_lt {l : List Nat} (h : U32 l) {n : Nat} (hv : val l < 4294967296 ^ n) (j : Nat) (hj : n ≤ j) : gd l j = 0 := by
 rw [val_gd h, Nat.div_eq_of_lt]
 exact Nat.lt_of_lt_of_le hv (Nat.pow_le_pow_right (by decide) hj)
theorem mul_lt {a b : List Nat} (ha : U32 a) (hb : U32 b) (i : Nat) : val (a.take i) * val b < 4294967296 ^ (i + b.length) := by
 have h1 : val (a.take i) < 4294967296 ^ i := by rw [val_take ha]; exact Nat.mod_lt _ (Nat.pow_pos (by decide))
 rw [Nat.pow_add]
 exact Nat.mul_lt_mul_of_lt_of_le h1 (Nat.le_of_lt (qct hb)) (Nat.pow_pos (by decide))
theorem mul_spent {O P c t : Nat} (h : O + P * c = t) (ht : t < P) : O = t := by
 cases c with
 | zero => simpa using h
 | succ c =>
  have := Nat.le_mul_of_pos_right P (show 0 < c + 1 by omega)
  omega
def fit (U3 V2 : Nat) : Nat := min 4294967295 (U3 / V2)
theorem fit_aux {g L x H V : Nat} (k : L < x ↔ H / V < g) : (4294967296 ≤ g ∨ L < x) ↔ fit H V < g := by
 rw [k]; unfold fit; generalize H / V = t; rw [Nat.min_def]; split <;> constructor <;> intro h <;> omega
theorem fit_le_of {H V t : Nat} (h : H / V ≤ t) : fit H V ≤ t := by unfold fit; exact Nat.le_trans (Nat.min_le_right _ _) h
theorem fit_test {g top next rest head low : Nat} (ht : 0 < top) (h : g * top + rest = head) :
  (4294967296 ≤ g ∨ rest * 4294967296 + low < g * next) ↔ fit (head * 4294967296 + low) (top * 4294967296 + next) < g := by
 have hV : 0 < top * 4294967296 + next := by omega
 have e : g * (top * 4294967296 + next) = (head - rest) * 4294967296 + g * next := by
  have e0 : g * top = head - rest := by omega
  rw [Nat.mul_add, ← Nat.mul_assoc, e0]
 have k : rest * 4294967296 + low < g * next ↔ (head * 4294967296 + low) / (top * 4294967296 + next) < g := by
  rw [Nat.div_lt_iff_lt_mul hV, e]
  have : rest ≤ head := by omega
  generalize g * next = x
  omega
 exact fit_aux k
theorem fit_rest {g top next rest head low : Nat} (ht : 0 < top) (h : g * top + rest = head) (hn : next < 4294967296) (hg : g < 4294967296) (hr : 4294967296 ≤ rest) :
  ¬ fit (head * 4294967296 + low) (top * 4294967296 + next) < g := by
 rw [← fit_test ht h]
 have h1 : g * next ≤ 4294967295 * 4294967295 := Nat.mul_le_mul (by omega) (by omega)
 omega
theorem fit_first {top next head low : Nat} (ht : 0 < top) (hl : low < 4294967296) : fit (head * 4294967296 + low) (top * 4294967296 + next) ≤ head / top := by
 have h1 : (head * 4294967296 + low) / (top * 4294967296 + next) ≤ (head * 4294967296 + low) / (top * 4294967296) := Nat.div_le_div_left (by omega) (by omega)
 have h2 : (head * 4294967296 + low) / (top * 4294967296) = head / top := by
  rw [Nat.mul_comm top, ← Nat.div_div_eq_div_mul]; congr 1; omega
 exact fit_le_of (Nat.le_trans h1 (Nat.le_of_eq h2))
theorem guess_le {top u1 u0 : Nat} (ht : 2147483648 ≤ top) (h1 : u1 ≤ top) (h0 : u0 < 4294967296) : (u1 * 4294967296 + u0) / top ≤ 4294967297 := by
 have : u1 * 4294967296 ≤ top * 4294967296 := Nat.mul_le_mul_right _ h1
 rw [← Nat.lt_succ_iff, Nat.div_lt_iff_lt_mul (by omega)]
 omega
theorem fit_near {u v D U3 V2 ul vl : Nat} (hD : 0 < D) (hu : u = U3 * D + ul) (hul : ul < D) (hv : v = V2 * D + vl) (hvl : vl < D) (hV : 4294967296 ≤ V2) (hlt : u < 4294967296 * v) :
  u / v ≤ fit U3 V2 ∧ fit U3 V2 ≤ u / v + 1 := by
 have hv0 : 0 < v := by
  have : 0 < V2 * D := Nat.mul_pos (by omega) hD
  omega
 obtain ⟨q, hq⟩ : ∃ q, q = u / v := ⟨_, rfl⟩
 have hqb : q < 4294967296 := by rw [hq, Nat.div_lt_iff_lt_mul hv0]; exact hlt
 have h1 : q * v ≤ u := by rw [hq]; exact Nat.div_mul_le_self u v
 have h2 : u < (q + 1) * v := by
  have := Nat.lt_mul_div_succ u hv0
  rw [hq, Nat.mul_comm]; exact this
 rw [← hq]
 have hV0 : 0 < V2 := by omega
 constructor
 ·unfold fit
  have : q ≤ U3 / V2 := by
   rw [Nat.le_div_iff_mul_le hV0]
   have e : q * V2 * D ≤ q * v := by rw [Nat.mul_assoc]; exact Nat.mul_le_mul_left _ (by omega)
   have : q * V2 * D < (U3 + 1) * D := by rw [Nat.add_mul]; omega
   have := Nat.lt_of_mul_lt_mul_right this
   omega
  exact Nat.le_min.2 ⟨by omega, this⟩
 ·unfold fit
  have : U3 / V2 < q + 2 := by
   rw [Nat.div_lt_iff_lt_mul hV0]
   have e1 : U3 * D < (q + 1) * ((V2 + 1) * D) := by
    have : (q + 1) * v ≤ (q + 1) * ((V2 + 1) * D) := Nat.mul_le_mul_left _ (by rw [Nat.add_mul]; omega)
    omega
   rw [← Nat.mul_assoc] at e1
   have e2 := Nat.lt_of_mul_lt_mul_right e1
   have e3 : (q + 1) * (V2 + 1) = q * V2 + q + V2 + 1 := by rw [Nat.add_mul, Nat.mul_add]; omega
   have e4 : (q + 2) * V2 = q * V2 + 2 * V2 := by rw [Nat.add_mul]
   omega
  exact Nat.le_trans (Nat.min_le_right _ _) (Nat.le_of_lt_succ this)
def blen (n : Nat) : Nat := if n = 0 then 0 else n.log2 + 1
theorem blen_zero : blen 0 = 0 := rfl
theorem blen_eq {n b : Nat} (h1 : n < 2 ^ b) (h2 : b = 0 ∨ 2 ^ (b - 1) ≤ n) : blen n = b := by
 unfold blen
 by_cases h0 : n = 0
 ·subst h0
  rw [if_pos rfl]
  rcases h2 with h2 | h2
  ·exact h2.symm
  ·have := Nat.two_pow_pos (b - 1); omega
 ·rw [if_neg h0]
  have g1 := (Nat.log2_lt h0).2 h1
  rcases h2 with h2 | h2
  ·omega
  ·have := (Nat.le_log2 h0).2 h2; omega
theorem lt_two_blen (n : Nat) : n < 2 ^ blen n := by
 unfold blen; split
 ·omega
 ·exact Nat.lt_log2_self
theorem two_blen_le {n : Nat} (h : n ≠ 0) : 2 ^ (blen n - 1) ≤ n ∧ 0 < blen n := by
 unfold blen; rw [if_neg h]; exact ⟨Nat.log2_self_le h, by omega⟩
theorem blen_le {n b : Nat} (h : n < 2 ^ b) : blen n ≤ b := by
 by_cases h0 : n = 0
 ·subst h0; exact Nat.zero_le _
 ·unfold blen; rw [if_neg h0]; exact (Nat.log2_lt h0).2 h
theorem blen_pos {n : Nat} : 0 < blen n ↔ n ≠ 0 := by
 constructor
 ·intro h h0; subst h0; exact absurd h (by decide)
 ·intro h; exact (two_blen_le h).2
theorem bitLenAux_eq : ∀ (f x : Nat), x < 2 ^ f → Lib.bitLenAux f x = blen x
  | 0, x, h => by have : x = 0 := by simpa using h
                  subst this; rfl
  | f + 1, x, h => by
    unfold Lib.bitLenAux
    by_cases h0 : x = 0
    · subst h0; rfl
    · rw [if_neg h0, bitLenAux_eq f (x / 2) (by rw [Nat.pow_succ] at h; omega)]
      symm
      have h2 := lt_two_blen (x / 2)
      apply blen_eq
      · rw [Nat.add_comm, Nat.pow_succ]; omega
      · right
        by_cases h3 : x / 2 = 0
        · rw [h3]; simp [blen_zero]; omega
        · have := two_blen_le h3
          rw [Nat.add_sub_cancel_left, show blen (x / 2) = (blen (x / 2) - 1) + 1 from by omega, Nat.pow_succ]; omega
theorem bitLen_eq (x : Nat) (h : x < 4294967296) : Lib.bitLen x = blen x := bitLenAux_eq 64 x (Nat.lt_trans h (by decide))
theorem pow32 (i : Nat) : 4294967296 ^ i = 2 ^ (32 * i) := by rw [Nat.pow_mul]
theorem blen_top {lo x i : Nat} (hlo : lo < 4294967296 ^ i) (hx : x ≠ 0) : blen (lo + 4294967296 ^ i * x) = 32 * i + blen x := by
 rw [pow32] at *
 have h1 := lt_two_blen x
 have h2 := two_blen_le hx
 apply blen_eq
 ·rw [Nat.pow_add]
  have : 2 ^ (32 * i) * (x + 1) ≤ 2 ^ (32 * i) * 2 ^ blen x := Nat.mul_le_mul_left _ h1
  rw [Nat.mul_add] at this; omega
 ·right
  rw [show 32 * i + blen x - 1 = 32 * i + (blen x - 1) from by omega, Nat.pow_add]
  have : 2 ^ (32 * i) * 2 ^ (blen x - 1) ≤ 2 ^ (32 * i) * x := Nat.mul_le_mul_left _ h2.1
  omega
theorem val_take_lt {l : List Nat} (h : U32 l) (i : Nat) : val (l.take i) < 4294967296 ^ i := by
 rw [val_take h]; exact Nat.mod_lt _ (Nat.pow_pos (by decide))
theorem mod_two_pow_succ (x k : Nat) : x % 2 ^ (k + 1) = x % 2 ^ k + 2 ^ k * (x / 2 ^ k % 2) := by
 rw [Nat.pow_succ, Nat.mod_mul]
theorem blen_bit {lo x i k : Nat} (hlo : lo < 4294967296 ^ i) (hb : x / 2 ^ k % 2 = 1) : blen (lo + 4294967296 ^ i * (x % 2 ^ (k + 1))) = 32 * i + k + 1 := by
 have hm : x % 2 ^ k < 2 ^ k := Nat.mod_lt _ (Nat.two_pow_pos _)
 have e : blen (x % 2 ^ (k + 1)) = k + 1 := by
  rw [mod_two_pow_succ, hb, Nat.mul_one]
  exact blen_eq (by rw [Nat.pow_succ]; omega) (.inr (by rw [Nat.add_sub_cancel]; omega))
 have h0 : x % 2 ^ (k + 1) ≠ 0 := by
  have := Nat.two_pow_pos k
  rw [mod_two_pow_succ, hb]; omega
 rw [blen_top hlo h0, e]; omega

theorem wraps_u64 (n : Int) (h₀ : 0 ≤ n) (h₁ : n < 2 ^ 64) : IntKind.u64.wrap n = n := by
 have e : IntKind.u64.wrap n = n % 18446744073709551616 := rfl
 rw [e]; omega
theorem wraps_u32 (n : Int) (h₀ : 0 ≤ n) (h₁ : n < 2 ^ 32) : IntKind.u32.wrap n = n := by
 have e : IntKind.u32.wrap n = n % 4294967296 := rfl
 rw [e]; omega
theorem or_words (x y : Nat) (hx : x < 4294967296) (hy : y < 4294967296) : bits .or .u64 (x : Int) ((y : Int) * 4294967296) = ((x + y * 4294967296 : Nat) : Int) := by
 have e : ((y : Int) * 4294967296) = ((y * 4294967296 : Nat) : Int) := rfl
 rw [e, (bits_nat .u64 64 (by decide) wraps_u64 x (y * 4294967296) (by omega) (by omega)).2]
 congr 1
 rw [Nat.or_comm, Nat.mul_comm, show (4294967296 : Nat) = 2 ^ 32 from rfl, ← Nat.two_pow_add_eq_or_of_lt (by omega)]; omega
theorem or_words' (x y : Nat) (hx : x < 4294967296) (hy : y < 4294967296) : bits .or .u64 ((y : Int) * 4294967296) (x : Int) = ((y * 4294967296 + x : Nat) : Int) := by
 have e : ((y : Int) * 4294967296) = ((y * 4294967296 : Nat) : Int) := rfl
 rw [e, (bits_nat .u64 64 (by decide) wraps_u64 (y * 4294967296) x (by omega) (by omega)).2]
 congr 1
 rw [Nat.mul_comm, show (4294967296 : Nat) = 2 ^ 32 from rfl, ← Nat.two_pow_add_eq_or_of_lt (by omega)]
theorem val_drop_at (l : List Nat) (m : Nat) : val (l.drop m) = gd l m + 4294967296 * val (l.drop (m + 1)) := by
 by_cases h : m < l.length
 ·rw [List.drop_eq_getElem_cons h, gd_lt _ _ h]; rfl
 ·rw [List.drop_of_length_le (by omega), List.drop_of_length_le (by omega), gd_over _ _ (by omega)]; rfl
theorem drop_set_lt (l : List Nat) (k j x : Nat) (h : j < k) : (l.set j x).drop k = l.drop k := by
 apply List.ext_getElem?
 intro i
 rw [List.getElem?_drop, List.getElem?_drop, List.getElem?_set, if_neg (by omega)]
theorem val_drop_set (l : List Nat) (m x : Nat) (h : m < l.length) : val ((l.set m x).drop m) = x + 4294967296 * val (l.drop (m + 1)) := by
 rw [val_drop_at, gd_set, if_pos ⟨rfl, h⟩, drop_set_lt _ _ _ _ (Nat.lt_succ_self m)]
theorem small_step {V W b r x : Nat} (h : W = V * b + r) : x + 4294967296 * W = ((r * 4294967296 + x) / b + 4294967296 * V) * b + (r * 4294967296 + x) % b := by
 have e := Nat.div_add_mod (r * 4294967296 + x) b
 rw [h, Nat.add_mul, Nat.mul_add, Nat.mul_assoc, Nat.mul_comm ((r * 4294967296 + x) / b) b]
 omega
theorem small_lt {b r x : Nat} (hb : b ≤ 4294967296) (hr : r < b) (hx : x < 4294967296) : (r * 4294967296 + x) / b < 4294967296 := by
 rw [Nat.div_lt_iff_lt_mul (by omega)]
 have : (r + 1) * 4294967296 ≤ b * 4294967296 := Nat.mul_le_mul_right _ hr
 rw [Nat.mul_comm 4294967296 b]
 omega
theorem div_of_eq {a q b r : Nat} (h : a = q * b + r) (hr : r < b) : q = a / b ∧ r = a % b := by
 have e : a = r + b * q := by rw [Nat.mul_comm b q]; omega
 constructor
 ·rw [e, Nat.add_mul_div_left _ _ (by omega), Nat.div_eq_of_lt hr, Nat.zero_add]
 ·rw [e, Nat.add_mul_mod_self_left, Nat.mod_eq_of_lt hr]
theorem val_of_digits {l : List Nat} (N : Nat) (h : ∀ j, j < l.length → gd l j = N / 4294967296 ^ j % 4294967296) (hN : N < 4294967296 ^ l.length) : val l = N := by
 rw [← qao N]
 apply val_ext
 intro j
 rw [val_gd (qcp N) j, qao]
 by_cases hj : j < l.length
 ·exact h j hj
 ·rw [gd_over _ _ (by omega), Nat.div_eq_of_lt (Nat.lt_of_lt_of_le hN (Nat.pow_le_pow_right (by decide) (by omega)))]
theorem shl_wrap (x n : Nat) (hx : x < 4294967296) (hn : n < 32) : IntKind.u64.wrap ((x : Int) * 2 ^ n) = ((x * 2 ^ n : Nat) : Int) ∧ x * 2 ^ n < 9223372036854775808 ∧ x * 2 ^ n / 4294967296 < 2 ^ n ∧ 2 ^ n ≤ 2147483648 := by
 have hp : 2 ^ n ≤ 2 ^ 31 := Nat.pow_le_pow_right (by decide) (by omega)
 have hp0 := Nat.two_pow_pos n
 have h1 : x * 2 ^ n < 4294967296 * 2 ^ n := Nat.mul_lt_mul_of_pos_right hx hp0
 have e : (x : Int) * 2 ^ n = ((x * 2 ^ n : Nat) : Int) := by simp
 refine ⟨?_, by omega, ?_, hp⟩
 ·rw [e]; exact wraps_u64 _ (by omega) (by omega)
 ·rw [Nat.div_lt_iff_lt_mul (by decide), Nat.mul_comm (2 ^ n)]; exact h1
theorem or_low (x n o : Nat) (hn : n < 32) (ho : o < 2 ^ n) : bits .or .u32 (o : Int) (((x * 2 ^ n : Nat) : Int) % 4294967296) = ((o + x * 2 ^ n % 4294967296 : Nat) : Int) ∧ o + x * 2 ^ n % 4294967296 < 4294967296 := by
 have hB : (4294967296 : Nat) = 2 ^ n * 2 ^ (32 - n) := by rw [← Nat.pow_add, show n + (32 - n) = 32 from by omega]
 have hq : x * 2 ^ n % 4294967296 = 2 ^ n * (x % 2 ^ (32 - n)) := by
  rw [hB, Nat.mul_comm x, Nat.mul_mod_mul_left]
 have hp0 := Nat.two_pow_pos n
 have hx : x % 2 ^ (32 - n) + 1 ≤ 2 ^ (32 - n) := Nat.mod_lt _ (Nat.two_pow_pos _)
 have h1 : 2 ^ n * (x % 2 ^ (32 - n) + 1) ≤ 2 ^ n * 2 ^ (32 - n) := Nat.mul_le_mul_left _ hx
 rw [← hB, Nat.mul_add] at h1
 have hlt : o + x * 2 ^ n % 4294967296 < 4294967296 := by rw [hq]; omega
 refine ⟨?_, hlt⟩
 have e : (((x * 2 ^ n : Nat) : Int) % 4294967296) = ((x * 2 ^ n % 4294967296 : Nat) : Int) := rfl
 rw [e, (bits_nat .u32 32 (by decide) wraps_u32 o (x * 2 ^ n % 4294967296) (by omega) (by omega)).2]
 congr 1
 rw [Nat.or_comm, hq, ← Nat.two_pow_add_eq_or_of_lt ho]; omega
theorem or_low64 (x n o : Nat) (hx : x < 4294967296) (hn : n < 32) (ho : o < 2 ^ n) : bits .or .u64 (o : Int) ((x * 2 ^ n : Nat) : Int) = ((o + x * 2 ^ n : Nat) : Int) ∧ o + x * 2 ^ n < 4294967296 * 2 ^ n ∧ o + x * 2 ^ n < 9223372036854775808 := by
 obtain ⟨_, h1, _, h3⟩ := shl_wrap x n hx hn
 have h4 : (x + 1) * 2 ^ n ≤ 4294967296 * 2 ^ n := Nat.mul_le_mul_right _ hx
 rw [Nat.add_mul] at h4
 refine ⟨?_, by omega, by omega⟩
 rw [(bits_nat .u64 64 (by decide) wraps_u64 o (x * 2 ^ n) (by omega) (by omega)).2]
 congr 1
 rw [Nat.or_comm, Nat.mul_comm x, ← Nat.two_pow_add_eq_or_of_lt ho]; omega
theorem word_down {l : List Nat} (h : U32 l) (i n : Nat) (hn : n < 32) : (gd l i + gd l (i + 1) * 4294967296) / 2 ^ n % 4294967296 = val l / 2 ^ n / 4294967296 ^ i % 4294967296 := by
 rw [Nat.div_div_eq_div_mul (val l), Nat.mul_comm (2 ^ n), ← Nat.div_div_eq_div_mul]
 have e : val l / 4294967296 ^ i = (gd l i + gd l (i + 1) * 4294967296) + 4294967296 * 4294967296 * (val l / 4294967296 ^ (i + 1 + 1)) := by
  rw [val_digit h i, val_digit h (i + 1)]; omega
 rw [e]
 have hB : (4294967296 * 4294967296 : Nat) = 2 ^ n * (2 ^ (32 - n) * 4294967296) := by
  rw [← Nat.mul_assoc, ← Nat.pow_add, show n + (32 - n) = 32 from by omega]
 rw [hB, Nat.mul_assoc (2 ^ n), Nat.add_mul_div_left _ _ (Nat.two_pow_pos n), Nat.mul_comm (2 ^ (32 - n)), Nat.mul_assoc, Nat.add_mul_mod_self_left]
def winv (l : List Nat) (j m : Nat) : Nat := val ((l.drop j).take m)
theorem winv_zero (l : List Nat) (j : Nat) : winv l j 0 = 0 := by simp [winv, val]
theorem winv_succ (l : List Nat) (j i : Nat) : winv l j (i + 1) = winv l j i + 4294967296 ^ i * gd l (j + i) := by
 unfold winv; rw [qay, gd_drop]
theorem winv_set (l : List Nat) (j i x : Nat) (h : j + i < l.length) : winv (l.set (j + i) x) j (i + 1) = winv l j i + 4294967296 ^ i * x := by
 have e : (l.set (j + i) x).drop j = (l.drop j).set i x := by
  apply List.ext_getElem?
  intro k
  rw [List.getElem?_drop, List.getElem?_set, List.getElem?_set, List.getElem?_drop]
  by_cases hk : i = k
  ·subst hk; rw [if_pos rfl, if_pos rfl, if_pos h, if_pos (by rw [List.length_drop]; omega)]
  ·rw [if_neg (by omega), if_neg hk]
 unfold winv; rw [e, val_take_set _ _ _ (by rw [List.length_drop]; omega)]
theorem winv_lt {l : List Nat} (h : U32 l) (j m : Nat) : winv l j m < 4294967296 ^ m := val_take_lt (h.drop j) m
theorem winv_congr {l l' : List Nat} (j m : Nat) (h : ∀ i, j ≤ i → i < j + m → gd l i = gd l' i) : winv l j m = winv l' j m := by
 unfold winv
 apply val_ext
 intro i
 rw [gd_take, gd_take]
 split
 ·rw [gd_drop, gd_drop]; exact h _ (by omega) (by omega)
 ·rfl
theorem val_window (l : List Nat) (j m : Nat) : val l = winv l 0 j + 4294967296 ^ j * (winv l j m + 4294967296 ^ m * val (l.drop (j + m))) := by
 have e1 : ∀ (a : List Nat) (k : Nat), val a = val (a.take k) + 4294967296 ^ k * val (a.drop k) := by
  intro a k
  rcases Nat.lt_or_ge a.length k with h | h
  ·rw [List.take_of_length_le (by omega), List.drop_of_length_le (by omega)]; simp [val]
  ·have := val_append (a.take k) (a.drop k)
   rwa [List.take_append_drop, List.length_take, Nat.min_eq_left h] at this
 unfold winv
 rw [List.drop_zero, e1 l j, e1 (l.drop j) m, List.drop_drop]
theorem take_step {P W W0 T c r q y x d c' r' : Nat} (h : W + T = W0 + P * (r + c)) (hd : d + (c + q * y) % 4294967296 + r = x + 4294967296 * r') (hc' : c' = (c + q * y) / 4294967296) :
  (W + P * d) + (T + P * (q * y)) = (W0 + P * x) + P * 4294967296 * (r' + c') := by
 have e := Nat.mod_add_div (c + q * y) 4294967296
 have : P * (d + q * y + r + c) = P * x + P * 4294967296 * (r' + c') := by
  rw [Nat.mul_assoc P, ← Nat.mul_add]
  congr 1
  rw [hc', Nat.mul_add]; omega
 simp only [Nat.mul_add] at this h ⊢
 omega
theorem take_carry {P c T q y c' : Nat} (h : P * c ≤ T) (hc' : c' = (c + q * y) / 4294967296) : P * 4294967296 * c' ≤ T + P * (q * y) := by
 have e := Nat.mod_add_div (c + q * y) 4294967296
 rw [Nat.mul_assoc]
 have : P * (4294967296 * c') ≤ P * (c + q * y) := Nat.mul_le_mul_left _ (by rw [hc']; omega)
 rw [Nat.mul_add] at this; omega
theorem take_end {P c T : Nat} (h : P * c ≤ T) (hT : T < P) : c = 0 := by
 cases c with
 | zero => rfl
 | succ c =>
  have := Nat.le_mul_of_pos_right P (show 0 < c + 1 by omega)
  omega
theorem div_scaled {A Bv p U q : Nat} (hp : 0 < p) (h : U + Bv * p * q = A * p) (hU : U < Bv * p) : q = A / Bv ∧ U / p = A % Bv := by
 have h1 : A * p = q * (Bv * p) + U := by rw [Nat.mul_comm q]; omega
 obtain ⟨e1, e2⟩ := div_of_eq h1 hU
 rw [Nat.mul_div_mul_right _ _ hp] at e1
 rw [Nat.mul_mod_mul_right] at e2
 refine ⟨e1, ?_⟩
 rw [e2, Nat.mul_div_cancel _ hp]
theorem norm_top {Bv nb x s : Nat} (hB : Bv ≠ 0) (hb : blen Bv = 32 * (nb - 1) + blen x) (hx : x ≠ 0) (hxl : x < 4294967296) (hnb : 0 < nb) (hs : s = 32 - blen x) :
  Bv * 2 ^ s < 4294967296 ^ nb ∧ 2147483648 * 4294967296 ^ (nb - 1) ≤ Bv * 2 ^ s ∧ s < 32 := by
 have h1 : blen x ≤ 32 := blen_le hxl
 have h2 := two_blen_le hx
 have h3 := lt_two_blen Bv
 have h4 := two_blen_le hB
 have e : blen Bv + s = 32 * nb := by omega
 refine ⟨?_, ?_, by omega⟩
 ·rw [pow32, ← e, Nat.pow_add]; exact Nat.mul_lt_mul_of_pos_right h3 (Nat.two_pow_pos _)
 ·have e2 : 2147483648 * 4294967296 ^ (nb - 1) = 2 ^ (blen Bv - 1) * 2 ^ s := by
   rw [pow32, ← Nat.pow_add, show (2147483648 : Nat) = 2 ^ 31 from rfl, ← Nat.pow_add]; congr 1; omega
  rw [e2]; exact Nat.mul_le_mul_right _ h4.1
theorem take_all {l : List Nat} (h : U32 l) {n : Nat} (hv : val l < 4294967296 ^ n) : val (l.take n) = val l := by
 rw [val_take h, Nat.mod_eq_of_lt hv]
theorem winv_all {l : List Nat} (h : U32 l) {j m : Nat} (hv : val (l.drop j) < 4294967296 ^ m) : winv l j m = val (l.drop j) := take_all (h.drop j) hv
theorem div_two {lv : List Nat} (h : U32 lv) {nb : Nat} (hl : lv.length = nb) (h2 : 2 ≤ nb) (hlo : 2147483648 * 4294967296 ^ (nb - 1) ≤ val lv) :
  2147483648 ≤ gd lv (nb - 1) ∧ val lv = (gd lv (nb - 1) * 4294967296 + gd lv (nb - 2)) * 4294967296 ^ (nb - 2) + winv lv 0 (nb - 2) := by
 obtain ⟨d, rfl⟩ : ∃ d, nb = d + 2 := ⟨nb - 2, by omega⟩
 have hlt := qct h
 rw [hl] at hlt
 rw [show d + 2 - 1 = d + 1 from rfl, show d + 2 - 2 = d from rfl] at *
 have e : val lv = winv lv 0 (d + 1 + 1) := by rw [winv_all h (by rw [List.drop_zero]; exact hlt), List.drop_zero]
 constructor
 ·rw [val_gd h]
  have h3 : val lv / 4294967296 ^ (d + 1) < 4294967296 := by
   rw [Nat.div_lt_iff_lt_mul (Nat.pow_pos (by decide)), Nat.mul_comm, ← Nat.pow_succ]; exact hlt
  rw [Nat.mod_eq_of_lt h3, Nat.le_div_iff_mul_le (Nat.pow_pos (by decide))]
  exact hlo
 ·rw [e, winv_succ, winv_succ, Nat.zero_add, Nat.zero_add]
  simp only [Nat.pow_succ, Nat.add_mul]
  generalize gd lv d = x
  generalize gd lv (d + 1) = t
  generalize 4294967296 ^ d = P
  have e1 : P * 4294967296 * t = t * 4294967296 * P := by ac_rfl
  have e2 : P * x = x * P := by ac_rfl
  omega
theorem div_three (lu : List Nat) (j : Nat) {nb : Nat} (h2 : 2 ≤ nb) :
  winv lu j (nb + 1) = ((gd lu (j + nb) * 4294967296 + gd lu (j + nb - 1)) * 4294967296 + gd lu (j + nb - 2)) * 4294967296 ^ (nb - 2) + winv lu j (nb - 2) := by
 obtain ⟨d, rfl⟩ : ∃ d, nb = d + 2 := ⟨nb - 2, by omega⟩
 rw [show j + (d + 2) - 1 = j + (d + 1) from rfl, show j + (d + 2) - 2 = j + d from rfl, show d + 2 - 2 = d from rfl]
 rw [winv_succ, winv_succ, winv_succ]
 generalize gd lu (j + (d + 2)) = a
 generalize gd lu (j + (d + 1)) = b
 generalize gd lu (j + d) = c
 generalize winv lu j d = w
 simp only [Nat.pow_succ, Nat.add_mul]
 generalize 4294967296 ^ d = P
 have e1 : P * 4294967296 * 4294967296 * a = a * 4294967296 * 4294967296 * P := by ac_rfl
 have e2 : P * 4294967296 * b = b * 4294967296 * P := by ac_rfl
 have e3 : P * c = c * P := by ac_rfl
 omega
theorem div_round {lu lv : List Nat} (hu : U32 lu) (hv : U32 lv) {j nb : Nat} (hl : lv.length = nb) (h2 : 2 ≤ nb) (hlo : 2147483648 * 4294967296 ^ (nb - 1) ≤ val lv) (hW : winv lu j (nb + 1) < 4294967296 * val lv) :
  gd lu (j + nb) ≤ gd lv (nb - 1) ∧
  winv lu j (nb + 1) / val lv ≤ fit ((gd lu (j + nb) * 4294967296 + gd lu (j + nb - 1)) * 4294967296 + gd lu (j + nb - 2)) (gd lv (nb - 1) * 4294967296 + gd lv (nb - 2)) ∧
  fit ((gd lu (j + nb) * 4294967296 + gd lu (j + nb - 1)) * 4294967296 + gd lu (j + nb - 2)) (gd lv (nb - 1) * 4294967296 + gd lv (nb - 2)) ≤ winv lu j (nb + 1) / val lv + 1 := by
 obtain ⟨t1, t2⟩ := div_two hv hl h2 hlo
 have t3 := div_three lu j h2
 have hD : 0 < 4294967296 ^ (nb - 2) := Nat.pow_pos (by decide)
 have hn := fit_near hD t3 (winv_lt hu j (nb - 2)) t2 (winv_lt hv 0 (nb - 2)) (by omega) hW
 refine ⟨?_, hn.1, hn.2⟩
 have hvl := winv_lt hv 0 (nb - 2)
 have hnx := hv (nb - 2)
 rw [t3, t2] at hW
 generalize gd lu (j + nb) = a at *
 generalize gd lu (j + nb - 1) = b at *
 generalize gd lu (j + nb - 2) = c at *
 generalize gd lv (nb - 1) = top at *
 generalize gd lv (nb - 2) = next at *
 generalize winv lv 0 (nb - 2) = vl at *
 generalize 4294967296 ^ (nb - 2) = D at *
 generalize winv lu j (nb - 2) = ul at *
 clear hn t1 t2 t3 hlo
 rcases Nat.lt_or_ge top a with h | h
 ·exfalso
  have h4 : (top * 4294967296 + next) * D + vl < (top * 4294967296 + 4294967296) * D := by
   have h6 : (top * 4294967296 + next + 1) * D ≤ (top * 4294967296 + 4294967296) * D := Nat.mul_le_mul (show top * 4294967296 + next + 1 ≤ top * 4294967296 + 4294967296 from by omega) (Nat.le_refl D)
   rw [Nat.add_mul (top * 4294967296 + next) 1 D, Nat.one_mul] at h6
   exact Nat.lt_of_lt_of_le (Nat.add_lt_add_left hvl _) h6
  have h5 : (4294967296 * (top * 4294967296 + 4294967296)) * D ≤ ((a * 4294967296 + b) * 4294967296 + c) * D :=
   Nat.mul_le_mul (show 4294967296 * (top * 4294967296 + 4294967296) ≤ (a * 4294967296 + b) * 4294967296 + c from by omega) (Nat.le_refl D)
  rw [Nat.mul_assoc] at h5
  exact absurd (Nat.lt_of_lt_of_le (Nat.lt_of_le_of_lt (Nat.le_trans h5 (Nat.le_add_right _ ul)) hW) (Nat.mul_le_mul_left _ (Nat.le_of_lt h4))) (Nat.lt_irrefl _)
 ·exact h
theorem round_right {W V g l' : Nat} (hV : 0 < V) (h1 : W / V ≤ g) (h2 : l' + g * V = W) : g = W / V ∧ l' = W % V := by
 have : g ≤ W / V := by rw [Nat.le_div_iff_mul_le hV]; omega
 have e : g = W / V := by omega
 refine ⟨e, ?_⟩
 have := Nat.div_add_mod W V
 rw [← e, Nat.mul_comm] at this; omega
theorem round_over {W V g P l' l'' r' : Nat} (hV : 0 < V) (hVP : V < P) (h1 : g ≤ W / V + 1) (h2 : l' + g * V = W + P) (hl' : l' < P) (h3 : l'' + P * r' = l' + V) (hl'' : l'' < P) : g - 1 = W / V ∧ l'' = W % V ∧ 0 < g := by
 have hg : W < g * V := by omega
 have h4 : W / V < g := by rw [Nat.div_lt_iff_lt_mul hV]; exact hg
 have e : g = W / V + 1 := by omega
 have h5 := Nat.div_add_mod W V
 have h6 := Nat.mod_lt W hV
 have e2 : g * V = V * (W / V) + V := by rw [e, Nat.add_mul, Nat.mul_comm]; omega
 have h7 : l'' + P * r' = W % V + P := by omega
 refine ⟨by rw [e]; rfl, ?_, by rw [e]; exact Nat.succ_pos _⟩
 clear h1 h2 h3 h4 h5 e2 e
 match r' with
 | 0 => omega
 | 1 => omega
 | r + 2 =>
  exfalso
  have : P * 2 ≤ P * (r + 2) := Nat.mul_le_mul_left _ (by omega)
  omega
theorem round_inv {lu lu' lq : List Nat} {j m W qd V S : Nat} (hW : winv lu j m = W) (hW' : winv lu' j m = W % V) (hqd : qd = W / V) (hz : val (lu.drop (j + m)) = 0) (hsame : ∀ i, i < j ∨ j + m ≤ i → gd lu' i = gd lu i)
  (hj : j < lq.length) (hq0 : gd lq j = 0) (h : val lu + V * val lq = S) : val lu' + V * val (lq.set j qd) = S ∧ val (lu'.drop (j + m)) = 0 ∧ val (lu'.drop j) = W % V := by
 have e1 := val_window lu j m
 have e2 := val_window lu' j m
 have hz' : val (lu'.drop (j + m)) = 0 := by
  rw [← hz]; exact val_ext fun i => by rw [gd_drop, gd_drop]; exact hsame _ (.inr (by omega))
 have hlow : winv lu' 0 j = winv lu 0 j := winv_congr 0 j fun i _ h2 => hsame i (.inl (by omega))
 have hs := val_set lq j qd hj
 rw [hq0, Nat.mul_zero, Nat.add_zero] at hs
 rw [hz, hW, Nat.mul_zero, Nat.add_zero] at e1
 rw [hz', hW', hlow, Nat.mul_zero, Nat.add_zero] at e2
 have h5 := Nat.div_add_mod W V
 refine ⟨?_, hz', ?_⟩
 ·rw [hs, e2, ← h, e1, Nat.mul_add, hqd]
  have : 4294967296 ^ j * W = V * (4294967296 ^ j * (W / V)) + 4294967296 ^ j * (W % V) := by
   rw [Nat.mul_left_comm, ← Nat.mul_add, h5]
  omega
 ·have e3 := val_window (lu'.drop j) 0 m
  rw [List.drop_drop, Nat.zero_add, hz', Nat.mul_zero, Nat.add_zero, Nat.pow_zero, Nat.one_mul, winv_zero, Nat.zero_add] at e3
  rw [e3, ← hW']; rfl
theorem wd_top {n : Nat} (h : n ≠ 0) : 0 < (wd n).length ∧ gd (wd n) ((wd n).length - 1) ≠ 0 ∧ blen n = 32 * ((wd n).length - 1) + blen (gd (wd n) ((wd n).length - 1)) := by
 have h1 : 0 < (wd n).length := by rw [wd_pos h]; simp
 have h2 : gd (wd n) ((wd n).length - 1) ≠ 0 := by
  rcases clean_wd n with hc | hc
  ·rw [hc] at h1; cases h1
  ·exact hc
 refine ⟨h1, h2, ?_⟩
 have e := qay (wd n) ((wd n).length - 1)
 rw [show (wd n).length - 1 + 1 = (wd n).length from by omega, List.take_of_length_le (Nat.le_refl _), qao] at e
 have := blen_top (val_take_lt (qcp n) ((wd n).length - 1)) h2
 rw [← e] at this; exact this
theorem wd_two {n : Nat} (h : 4294967296 ≤ n) : 2 ≤ (wd n).length := by
 rcases Nat.lt_or_ge 1 (wd n).length with h1 | h1
 ·exact h1
 ·have h2 := qct (qcp n)
  rw [qao] at h2
  have h3 : 4294967296 ^ (wd n).length ≤ 4294967296 ^ 1 := Nat.pow_le_pow_right (by decide) h1
  rw [Nat.pow_one] at h3
  omega
theorem guess_down {g top r hd : Nat} (h : g * top + r = hd) (hg : 0 < g) : (g - 1) * top + (r + top) = hd := by
 obtain ⟨k, rfl⟩ : ∃ k, g = k + 1 := ⟨g - 1, by omega⟩
 rw [Nat.add_sub_cancel]; rw [Nat.add_mul, Nat.one_mul] at h; omega
theorem round_head {lu : List Nat} (hu : U32 lu) {j nb V : Nat} (hV : V < 4294967296 ^ nb) (h : val (lu.drop (j + 1)) < V) :
  winv lu j (nb + 1) = val (lu.drop j) ∧ winv lu j (nb + 1) < 4294967296 * V ∧ val (lu.drop (j + (nb + 1))) = 0 := by
 have h1 : val (lu.drop j) < 4294967296 * V := by
  rw [val_drop_at]
  have := hu j
  omega
 have h2 : val (lu.drop j) < 4294967296 ^ (nb + 1) := by
  rw [Nat.pow_succ, Nat.mul_comm]
  exact Nat.lt_of_lt_of_le h1 (Nat.mul_le_mul_left _ (Nat.le_of_lt hV))
 have h3 := winv_all hu h2
 refine ⟨h3, by rw [h3]; exact h1, ?_⟩
 rw [← List.drop_drop, val_drop (hu.drop j), Nat.div_eq_of_lt h2]
theorem first_round {lu : List Nat} (hu : U32 lu) {A s na nb V k : Nat} (hA : A < 4294967296 ^ na) (hl : val lu = A * 2 ^ s) (hs : s < 32) (hk : k + nb = na + 1) (hnb : 0 < nb) (hlo : 2147483648 * 4294967296 ^ (nb - 1) ≤ V) : val (lu.drop k) < V := by
 rw [val_drop hu, hl]
 refine Nat.lt_of_lt_of_le ?_ hlo
 rw [Nat.div_lt_iff_lt_mul (Nat.pow_pos (by decide)), Nat.mul_assoc, ← Nat.pow_add, show nb - 1 + k = na from by omega]
 have h1 : 2 ^ s ≤ 2147483648 := by rw [show (2147483648 : Nat) = 2 ^ 31 from rfl]; exact Nat.pow_le_pow_right (by decide) (by omega)
 have h2 : A * 2 ^ s < 4294967296 ^ na * 2 ^ s := Nat.mul_lt_mul_of_pos_right hA (Nat.two_pow_pos s)
 have h3 : 4294967296 ^ na * 2 ^ s ≤ 2147483648 * 4294967296 ^ na := by rw [Nat.mul_comm]; exact Nat.mul_le_mul_right _ h1
 exact Nat.lt_of_lt_of_le h2 h3
theorem wd_add_len (m n : Nat) : (wd (m + n)).length ≤ max (wd m).length (wd n).length + 1 := by
 apply qbr
 have h1 := qct (qcp m)
 have h2 := qct (qcp n)
 rw [qao] at h1 h2
 obtain ⟨k, hk⟩ : ∃ k, k = max (wd m).length (wd n).length := ⟨_, rfl⟩
 have e1 : 4294967296 ^ (wd m).length ≤ 4294967296 ^ k := Nat.pow_le_pow_right (by decide) (by omega)
 have e2 : 4294967296 ^ (wd n).length ≤ 4294967296 ^ k := Nat.pow_le_pow_right (by decide) (by omega)
 rw [← hk, Nat.pow_succ]
 omega
theorem qbk (m n : Nat) : (wd (m * n)).length ≤ (wd m).length + (wd n).length := by
 apply qbr
 have h1 := qct (qcp m)
 have h2 := qct (qcp n)
 rw [qao] at h1 h2
 rw [Nat.pow_add]
 exact Nat.mul_lt_mul_of_lt_of_le h1 (Nat.le_of_lt h2) (Nat.pow_pos (by decide))
theorem wd_one {n : Nat} (h : n < 4294967296) (h0 : n ≠ 0) : wd n = [n] := by rw [wd_pos h0, Nat.mod_eq_of_lt h, Nat.div_eq_of_lt h, qbl]
end Go.Proofs.YtblekfkmianmeaaGreatDoor
namespace Go.Proofs.YtblekfkmianmeaaGreatDoor
def sgn (s : Bool) (n : Nat) : Int := if s then -(n : Int) else n
def qm (s : Bool) (n d : Nat) : Rat := mkRat (sgn s n) d
def ng (q : Rat) : Bool := decide (q < 0)
def nn (q : Rat) : Nat := q.num.natAbs
def dn (q : Rat) : Nat := if q = 0 then 0 else q.den
def sg (q : Rat) : Int := if q < 0 then -1 else if q = 0 then 0 else 1
def cq (p q : Rat) : Int := if p < q then -1 else if p = q then 0 else 1

theorem sgn_natAbs (s : Bool) (n : Nat) : (sgn s n).natAbs = n := by unfold sgn; split <;> simp
theorem sgn_zero (s : Bool) : sgn s 0 = 0 := by unfold sgn; split <;> rfl
theorem qm_zero (s : Bool) (d : Nat) : qm s 0 d = 0 := by unfold qm; rw [sgn_zero, Rat.zero_mkRat]
theorem ng_zero : ng 0 = false := rfl
theorem nn_zero : nn 0 = 0 := rfl
theorem dn_zero : dn 0 = 0 := rfl
theorem dn_pos {q : Rat} (h : q ≠ 0) : dn q = q.den := by unfold dn; rw [if_neg h]
theorem qcx {q : Rat} : nn q = 0 ↔ q = 0 := by
 unfold nn; rw [Int.natAbs_eq_zero, Rat.num_eq_zero]
theorem num_sgn (q : Rat) : q.num = sgn (ng q) (nn q) := by
 unfold sgn ng nn
 by_cases h : q < 0
 ·have : ¬ 0 ≤ q := by grind
  rw [← Rat.num_nonneg] at this
  rw [if_pos (decide_eq_true h)]; omega
 ·have : 0 ≤ q := by grind
  rw [← Rat.num_nonneg] at this
  rw [if_neg (by simp [h])]; omega
theorem qm_self (q : Rat) : qm (ng q) (nn q) q.den = q := by
 unfold qm; rw [← num_sgn, Rat.mkRat_self]
theorem qm_neg_iff {s : Bool} {n d : Nat} (hd : d ≠ 0) : qm s n d < 0 ↔ s = true ∧ n ≠ 0 := by
 have hd' : (0 : Rat) < (d : Rat) := Rat.natCast_pos.2 (by omega)
 unfold qm
 rw [Rat.mkRat_eq_div, Rat.div_lt_iff hd', Rat.zero_mul]
 rw [show (0 : Rat) = ((0 : Int) : Rat) from rfl, Rat.intCast_lt_intCast]
 unfold sgn
 cases s
 ·simp
 ·simp; omega
theorem ng_qm {s : Bool} {n d : Nat} (hd : d ≠ 0) (hn : n ≠ 0) : ng (qm s n d) = s := by
 unfold ng
 cases s
 ·exact decide_eq_false (fun h => by have := (qm_neg_iff hd).1 h; simp at this)
 ·exact decide_eq_true ((qm_neg_iff hd).2 ⟨rfl, hn⟩)
theorem qm_ne_zero {s : Bool} {n d : Nat} (hd : d ≠ 0) (hn : n ≠ 0) : qm s n d ≠ 0 := by
 unfold qm
 rw [Rat.mkRat_ne_zero hd]
 unfold sgn; split <;> omega
theorem nn_qm {s : Bool} {n d : Nat} (hd : d ≠ 0) : nn (qm s n d) = n / Nat.gcd n d := by
 unfold nn qm
 rw [Rat.num_mkRat, if_neg hd, sgn_natAbs, Nat.gcd_comm d n, Int.natAbs_ediv_of_dvd, sgn_natAbs, Int.natAbs_natCast]
 rw [← Int.dvd_natAbs, sgn_natAbs, Int.ofNat_dvd]
 exact Nat.gcd_dvd_left n d
theorem den_qm {s : Bool} {n d : Nat} (hd : d ≠ 0) : (qm s n d).den = d / Nat.gcd n d := by
 unfold qm
 rw [Rat.den_mkRat, if_neg hd, sgn_natAbs, Nat.gcd_comm d n]
theorem dn_qm {s : Bool} {n d : Nat} (hd : d ≠ 0) (hn : n ≠ 0) : dn (qm s n d) = d / Nat.gcd n d := by
 rw [dn_pos (qm_ne_zero hd hn), den_qm hd]
theorem nn_gcd (q : Rat) : Nat.gcd (nn q) q.den = 1 := q.reduced
theorem fields_qm {s : Bool} {n d : Nat} (hd : d ≠ 0) (hn : n ≠ 0) (hg : Nat.gcd n d = 1) : ng (qm s n d) = s ∧ nn (qm s n d) = n ∧ dn (qm s n d) = d := by
 refine ⟨ng_qm hd hn, ?_, ?_⟩
 ·rw [nn_qm hd, hg, Nat.div_one]
 ·rw [dn_qm hd hn, hg, Nat.div_one]
theorem qcu (s : Bool) (n d : Nat) : qm s n d = ((sgn s n : Int) : Rat) / (d : Rat) := by unfold qm; rw [Rat.mkRat_eq_div]
theorem den_ne (q : Rat) : (q.den : Rat) ≠ 0 := fun h => q.den_nz (Rat.natCast_eq_zero_iff.1 h)
theorem self_div (q : Rat) : q = ((sgn (ng q) (nn q) : Int) : Rat) / (q.den : Rat) := by rw [← qcu, qm_self]
theorem sgn_not (s : Bool) (n : Nat) : sgn (!s) n = -sgn s n := by unfold sgn; cases s <;> simp
theorem sgn_mul (s t : Bool) (m n : Nat) : sgn (s != t) (m * n) = sgn s m * sgn t n := by
 unfold sgn; cases s <;> cases t <;> simp [Int.neg_mul, Int.mul_neg]
theorem sgn_mulN (s : Bool) (m n : Nat) : sgn s (m * n) = sgn s m * (n : Int) := by
 unfold sgn; cases s <;> simp [Int.neg_mul]
theorem sgn_add (s : Bool) (m n : Nat) : sgn s (m + n) = sgn s m + sgn s n := by
 unfold sgn; cases s <;> simp; omega
theorem sgn_sub (s : Bool) {m n : Nat} (h : n ≤ m) : sgn s (m - n) = sgn s m + sgn (!s) n := by
 unfold sgn; cases s <;> simp <;> omega
theorem q_neg (p : Rat) : qm (!ng p) (nn p) p.den = -p := by
 have h := self_div p
 rw [qcu, sgn_not, Rat.intCast_neg]
 have hd := den_ne p
 grind
theorem qdf {a b : Nat} (ha : a ≠ 0) (hb : b ≠ 0) : a * b ≠ 0 := Nat.mul_ne_zero ha hb
theorem q_mul (p q : Rat) : qm (ng p != ng q) (nn p * nn q) (p.den * q.den) = p * q := by
 have h1 := self_div p
 have h2 := self_div q
 have d1 := den_ne p
 have d2 := den_ne q
 rw [qcu, sgn_mul, Rat.intCast_mul, Rat.natCast_mul]
 grind
theorem q_add_same (p q : Rat) (h : ng p = ng q) : qm (ng p) (nn p * q.den + nn q * p.den) (p.den * q.den) = p + q := by
 have h1 := self_div p
 have h2 := self_div q
 have d1 := den_ne p
 have d2 := den_ne q
 rw [← h] at h2
 rw [qcu, sgn_add, sgn_mulN, sgn_mulN,
  Rat.intCast_add, Rat.intCast_mul, Rat.intCast_mul, Rat.natCast_mul, Rat.intCast_natCast, Rat.intCast_natCast]
 grind
theorem q_add_diff (p q : Rat) (h : ng p ≠ ng q) (hle : nn q * p.den ≤ nn p * q.den) : qm (ng p) (nn p * q.den - nn q * p.den) (p.den * q.den) = p + q := by
 have h1 := self_div p
 have h2 := self_div q
 have d1 := den_ne p
 have d2 := den_ne q
 have e : ng q = !ng p := by revert h; cases ng p <;> cases ng q <;> simp
 rw [e] at h2
 rw [qcu, sgn_sub _ hle, sgn_mulN, sgn_mulN,
  Rat.intCast_add, Rat.intCast_mul, Rat.intCast_mul, Rat.natCast_mul, Rat.intCast_natCast, Rat.intCast_natCast]
 grind
theorem q_add_diff' (p q : Rat) (h : ng p ≠ ng q) (hle : nn p * q.den ≤ nn q * p.den) : qm (ng q) (nn q * p.den - nn p * q.den) (p.den * q.den) = p + q := by
 have := q_add_diff q p (fun e => h e.symm) hle
 rw [Nat.mul_comm q.den p.den, Rat.add_comm] at this; exact this
theorem q_div (p q : Rat) (h : q ≠ 0) : qm (ng p != ng q) (nn p * q.den) (p.den * nn q) = p / q := by
 have h1 := self_div p
 have h2 := self_div q
 have d1 := den_ne p
 have d2 := den_ne q
 have h3 : nn q ≠ 0 := fun e => h (qcx.1 e)
 have d3 : (nn q : Rat) ≠ 0 := fun e => h3 (Rat.natCast_eq_zero_iff.1 e)
 have e3 : ((sgn (ng p != ng q) (nn p * q.den) : Int) : Rat) * ((sgn (ng q) (nn q) : Int) : Rat) = ((sgn (ng p) (nn p) : Int) : Rat) * (q.den : Rat) * (nn q : Rat) := by
  rw [← Rat.intCast_mul, ← Rat.intCast_natCast, ← Rat.intCast_natCast, ← Rat.intCast_mul, ← Rat.intCast_mul]
  congr 1
  have e4 : sgn (ng q) (nn q) * sgn (ng q) (nn q) = (nn q : Int) * (nn q : Int) := by unfold sgn; cases ng q <;> simp [Int.neg_mul_neg]
  have e5 : sgn (ng p != ng q) (nn p * q.den) * (nn q : Int) = sgn (ng p) (nn p) * sgn (ng q) (nn q) * (q.den : Int) := by
   rw [← sgn_mul, ← sgn_mulN, ← sgn_mulN, Nat.mul_assoc, Nat.mul_comm q.den, ← Nat.mul_assoc]
  have h6 : (nn q : Int) ≠ 0 := by omega
  apply Int.eq_of_mul_eq_mul_right h6
  calc _ = (sgn (ng p != ng q) (nn p * q.den) * (nn q : Int)) * sgn (ng q) (nn q) := by ac_rfl
   _ = sgn (ng p) (nn p) * (q.den : Int) * (sgn (ng q) (nn q) * sgn (ng q) (nn q)) := by rw [e5]; ac_rfl
   _ = _ := by rw [e4]; ac_rfl
 have d4 : ((sgn (ng q) (nn q) : Int) : Rat) ≠ 0 := fun e => by
  rw [Rat.intCast_eq_zero_iff] at e
  have := sgn_natAbs (ng q) (nn q)
  rw [e] at this; exact h3 this.symm
 rw [qcu, Rat.natCast_mul]
 grind
theorem sg_eq (p : Rat) : sg p = if nn p = 0 then 0 else if ng p = true then -1 else 1 := by
 unfold sg ng
 by_cases h : p < 0
 ·have : p ≠ 0 := by grind
  rw [if_pos h, if_neg (fun e => this (qcx.1 e)), if_pos (decide_eq_true h)]
 ·rw [if_neg h]
  by_cases h2 : p = 0
  ·rw [if_pos h2, if_pos (qcx.2 h2)]
  ·rw [if_neg h2, if_neg (fun e => h2 (qcx.1 e)), if_neg (by simp [h])]
theorem sg_sub (p q : Rat) : sg (p - q) = cq p q := by
 unfold sg cq; grind
theorem cq_le (p q : Rat) : cq p q ≤ 0 ↔ p ≤ q := by
 unfold cq; split
 ·grind
 ·split <;> grind
theorem cq_ge (p q : Rat) : 0 ≤ cq p q ↔ q ≤ p := by
 unfold cq; split
 ·grind
 ·split <;> grind
def rl (q : Rat) : Nat := max (wd (nn q)).length (wd q.den).length
theorem rl_n (q : Rat) : (wd (nn q)).length ≤ rl q := Nat.le_max_left _ _
theorem rl_d (q : Rat) : (wd q.den).length ≤ rl q := Nat.le_max_right _ _
theorem rl_qm {s : Bool} {n d L : Nat} (hd : d ≠ 0) (h1 : (wd n).length ≤ L) (h2 : (wd d).length ≤ L) : rl (qm s n d) ≤ L := by
 unfold rl
 rw [nn_qm hd, den_qm hd]
 exact Nat.max_le.2 ⟨Nat.le_trans (qas (Nat.div_le_self _ _)) h1, Nat.le_trans (qas (Nat.div_le_self _ _)) h2⟩
theorem rl_mul (p q : Rat) : rl (p * q) ≤ rl p + rl q := by
 rw [← q_mul]
 refine rl_qm (qdf p.den_nz q.den_nz) ?_ ?_
 ·exact Nat.le_trans (qbk _ _) (Nat.add_le_add (rl_n p) (rl_n q))
 ·exact Nat.le_trans (qbk _ _) (Nat.add_le_add (rl_d p) (rl_d q))
theorem rl_div (p q : Rat) (h : q ≠ 0) : rl (p / q) ≤ rl p + rl q := by
 rw [← q_div p q h]
 refine rl_qm (qdf p.den_nz (fun e => h (qcx.1 e))) ?_ ?_
 ·exact Nat.le_trans (qbk _ _) (Nat.add_le_add (rl_n p) (rl_d q))
 ·exact Nat.le_trans (qbk _ _) (Nat.add_le_add (rl_d p) (rl_n q))
theorem rl_neg (p : Rat) : rl (-p) = rl p := by
 unfold rl nn; rw [Rat.neg_num, Rat.neg_den, Int.natAbs_neg]
theorem rl_add (p q : Rat) : rl (p + q) ≤ rl p + rl q + 1 := by
 have a1 : (wd (nn p * q.den)).length ≤ rl p + rl q := Nat.le_trans (qbk _ _) (Nat.add_le_add (rl_n p) (rl_d q))
 have a2 : (wd (nn q * p.den)).length ≤ rl p + rl q := by rw [Nat.mul_comm]; exact Nat.le_trans (qbk _ _) (Nat.add_le_add (rl_d p) (rl_n q))
 have a3 : (wd (p.den * q.den)).length ≤ rl p + rl q := Nat.le_trans (qbk _ _) (Nat.add_le_add (rl_d p) (rl_d q))
 have nz := qdf p.den_nz q.den_nz
 by_cases h : ng p = ng q
 ·rw [← q_add_same p q h]
  refine rl_qm nz ?_ (by omega)
  have := wd_add_len (nn p * q.den) (nn q * p.den); omega
 ·rcases Nat.le_total (nn q * p.den) (nn p * q.den) with h2 | h2
  ·rw [← q_add_diff p q h h2]
   exact rl_qm nz (Nat.le_trans (qas (Nat.sub_le _ _)) (by omega)) (by omega)
  ·rw [← q_add_diff' p q h h2]
   exact rl_qm nz (Nat.le_trans (qas (Nat.sub_le _ _)) (by omega)) (by omega)
theorem rl_sub (p q : Rat) : rl (p - q) ≤ rl p + rl q + 1 := by
 rw [Rat.sub_eq_add_neg]; have := rl_add p (-q); rwa [rl_neg] at this
theorem rl_int (n : Int) : rl (n : Rat) = max (wd n.natAbs).length 1 := by
 unfold rl nn
 rw [Rat.num_intCast, Rat.den_intCast, show wd 1 = [1] from wd_one (by decide) (by decide)]; rfl
theorem rl_zero : rl 0 = 1 := by
 have := rl_int 0
 rw [show (0 : Int).natAbs = 0 from rfl, qbl] at this; exact this
theorem qm_one (s : Bool) (n : Nat) : qm s n 1 = ((sgn s n : Int) : Rat) := by
 rw [qcu]
 have : ((1 : Nat) : Rat) = 1 := rfl
 rw [this]; grind
def fl (p : Rat) : Rat := ((p.floor : Int) : Rat)
theorem rl_one : rl 1 = 1 := by
 have := rl_int 1
 rw [show (1 : Int).natAbs = 1 from rfl, show wd 1 = [1] from wd_one (by decide) (by decide)] at this; exact this
def Vld (s : Bool) (a b : List Nat) : Prop := (a = [] ∧ b = [] ∧ s = false) ∨ (a ≠ [] ∧ b ≠ [] ∧ Clean a ∧ Clean b ∧ Nat.gcd (val a) (val b) = 1)
instance (l : List Nat) : Decidable (Clean l) := by unfold Clean; exact inferInstance
instance (s : Bool) (a b : List Nat) : Decidable (Vld s a b) := by unfold Vld; exact inferInstance
def rq (s : Bool) (a b : List Nat) : Rat := if Vld s a b then qm s (val a) (val b) else 0
theorem val_ne {l : List Nat} (hu : U32 l) (hc : Clean l) (h : l ≠ []) : val l ≠ 0 := by
 intro h0
 have := clean_eq hu hc
 rw [h0, qbl] at this; exact h this
theorem wd_ne {n : Nat} (h : n ≠ 0) : wd n ≠ [] := by rw [wd_pos h]; simp
theorem vld_zero : Vld false [] [] := .inl ⟨rfl, rfl, rfl⟩
theorem rq_zero : rq false [] [] = 0 := by
 unfold rq; rw [if_pos vld_zero]; exact qm_zero _ _
theorem qde {s : Bool} {a b : List Nat} (ha : U32 a) (hb : U32 b) (h : Vld s a b) : s = ng (rq s a b) ∧ a = wd (nn (rq s a b)) ∧ b = wd (dn (rq s a b)) := by
 have hr : rq s a b = qm s (val a) (val b) := by unfold rq; rw [if_pos h]
 rcases h with ⟨rfl, rfl, rfl⟩ | ⟨h1, h2, h3, h4, h5⟩
 ·rw [rq_zero, ng_zero, nn_zero, dn_zero, qbl]; exact ⟨rfl, rfl, rfl⟩
 ·have v1 := val_ne ha h3 h1
  have v2 := val_ne hb h4 h2
  obtain ⟨e1, e2, e3⟩ := fields_qm (s := s) v2 v1 h5
  rw [hr, e1, e2, e3]
  exact ⟨rfl, clean_eq ha h3, clean_eq hb h4⟩
theorem vld_self (q : Rat) : Vld (ng q) (wd (nn q)) (wd (dn q)) ∧ rq (ng q) (wd (nn q)) (wd (dn q)) = q := by
 by_cases h : q = 0
 ·subst h
  rw [ng_zero, nn_zero, dn_zero, qbl]; exact ⟨vld_zero, rq_zero⟩
 ·have h1 : nn q ≠ 0 := fun e => h (qcx.1 e)
  have hv : Vld (ng q) (wd (nn q)) (wd (dn q)) := by
   right
   rw [dn_pos h]
   refine ⟨wd_ne h1, wd_ne q.den_nz, clean_wd _, clean_wd _, ?_⟩
   rw [qao, qao]; exact nn_gcd q
  refine ⟨hv, ?_⟩
  unfold rq
  rw [if_pos hv, qao, qao, dn_pos h, qm_self]
theorem rq_invalid {s : Bool} {a b : List Nat} (h : ¬ Vld s a b) : rq s a b = 0 := by unfold rq; rw [if_neg h]
theorem rl_rq {s : Bool} {a b : List Nat} {L : Nat} (ha : U32 a) (hb : U32 b) (h1 : a.length ≤ L) (h2 : b.length ≤ L) (hL : 1 ≤ L) : rl (rq s a b) ≤ L := by
 by_cases h : Vld s a b
 ·by_cases h0 : rq s a b = 0
  ·rw [h0, rl_zero]; exact hL
  ·obtain ⟨_, e2, e3⟩ := qde ha hb h
   unfold rl
   rw [dn_pos h0] at e3
   rw [← e2, ← e3]; omega
 ·rw [rq_invalid h, rl_zero]; exact hL
def mx (p q : Rat) : Rat := if q ≤ p then p else q
end Go.Proofs.YtblekfkmianmeaaGreatDoor
namespace Go.Proofs.YtblekfkmianmeaaGreatDoor
open Go.RowKit Go.ChangeShapes Go.WideShapes
section
variable {P : Program} {ops : Array Oper} {md : Region.Mode}

def qby (ops : Array Oper) (j : Nat) : Option Tmp := (ops[j]?).bind (·.dst)
def qat (ops : Array Oper) (listed : Nat → Bool) (vals : Nat → Value) (a : Act) : Nat → Act
 | 0 => a
 | n + 1 => if listed n then (qat ops listed vals a n).put (qby ops n) (vals n) else qat ops listed vals a n
theorem putsTo_congr {l l' : Nat → Bool} {v v' : Nat → Value} {a : Act} {n : Nat} (h : ∀ j, j < n → l j = l' j ∧ (l j = true → v j = v' j)) : qat ops l v a n = qat ops l' v' a n := by
 induction n with
 | zero => rfl
 | succ n ih =>
  obtain ⟨h1, h2⟩ := h n (by omega)
  unfold qat
  rw [ih (fun j hj => h j (by omega)), ← h1]
  by_cases hl : l n = true
  ·rw [if_pos hl, if_pos hl, h2 hl]
  ·rw [if_neg hl, if_neg hl]
theorem putsTo_set {l : Nat → Bool} {vals : Nat → Value} {a : Act} {i : Nat} {v : Value} (hi : l i = false) :
  ∀ n, i < n → (∀ j, j < n → j ≠ i → ∀ d, qby ops i = some d → qby ops j ≠ some d) →
  qat ops (fun j => if j = i then true else l j) (fun j => if j = i then v else vals j) a n = (qat ops l vals a n).put (qby ops i) v := by
 intro n
 induction n with
 | zero => intro h; omega
 | succ n ih =>
  intro hin hd
  unfold qat
  by_cases hn : n = i
  ·subst hn
   have e := putsTo_congr (ops := ops) (l := fun j => if j = n then true else l j) (l' := l) (v := fun j => if j = n then v else vals j) (v' := vals) (a := a) (n := n) (fun j hj => by
    have : j ≠ n := by omega
    exact ⟨by show (if j = n then true else l j) = l j; rw [if_neg this], fun _ => by show (if j = n then v else vals j) = vals j; rw [if_neg this]⟩)
   rw [e]
   simp only [if_true, hi, Bool.false_eq_true, if_false]
  ·rw [if_neg hn, if_neg hn, ih (by omega) (fun j hj => hd j (by omega))]
   by_cases hl : l n = true
   ·rw [if_pos hl, if_pos hl, Act.put_comm _ v (vals n) (hd n (by omega) hn)]
   ·rw [if_neg hl, if_neg hl]
theorem getD_set_self (t : Array Value) (d : Nat) (v u : Value) : (t.setIfInBounds d v).getD d u = if d < t.size then v else u := by
 by_cases h : d < t.size <;> simp [h]
theorem putsTo_eval {l : Nat → Bool} {vals : Nat → Value} {a : Act} {x : Operand} : ∀ n, (∀ t, x = .tmp t → ∀ j, j < n → qby ops j = some t → l j = true) →
  (qat ops l vals a n).eval x = (qat ops (fun _ => true) vals a n).eval x ∧ (qat ops l vals a n).tmps.size = (qat ops (fun _ => true) vals a n).tmps.size := by
 have hsz : ∀ (a : Act) (d : Option Tmp) (v : Value), (a.put d v).tmps.size = a.tmps.size := fun a d v => by cases d <;> simp [Act.put]
 intro n
 induction n with
 | zero => intro _; exact ⟨rfl, rfl⟩
 | succ n ih =>
  intro h
  obtain ⟨h1, h2⟩ := ih (fun t ht j hj => h t ht j (by omega))
  unfold qat
  rw [if_pos rfl]
  by_cases hl : l n = true
  ·rw [if_pos hl, hsz, hsz]
   refine ⟨?_, h2⟩
   cases hd : qby ops n with
   | none => exact h1
   | some d =>
    cases x with
    | tmp t =>
     by_cases htd : d = t
     ·subst htd
      show ((qat ops l vals a n).tmps.setIfInBounds d (vals n)).getD d undef = ((qat ops (fun _ => true) vals a n).tmps.setIfInBounds d (vals n)).getD d undef
      rw [getD_set_self, getD_set_self, h2]
     ·rw [Act.eval_put (fun e he hx => htd (by cases he; cases hx; rfl)), Act.eval_put (fun e he hx => htd (by cases he; cases hx; rfl))]; exact h1
    | _ => exact h1
  ·rw [if_neg hl, hsz]
   refine ⟨?_, h2⟩
   rw [Act.eval_put (fun d hd hx => hl (h d hx n (by omega) hd))]; exact h1

def StepOK (P : Program) (o : Oper) (a : Act) (w : World) (R : Value → World → Prop) : Prop :=
 match (execOp a.eval o).run P w with
 | .ok (.value v) w' => R v w'
 | .ok (.enter f args) w' => Calls P f args w' fun e w'' => ∃ v, e = .returned v ∧ R v w''
 | _ => False
def StepG (P : Program) (ops : Array Oper) (o : Oper) (a : Act) (w : World) (R : Value → World → Prop) : Prop :=
 if Region.wanted o (yielded ops a.tmps) = true then StepOK P o a w R else R undef w
theorem wpOp_of_stepG {o : Oper} {a a' : Act} {w : World} {i : Nat} {R : Value → World → Prop} {Q : Exit → Act → World → Prop} {K : Act → World → Prop} (hi : ops[i]? = some o)
  (hg : Region.wanted o (yielded ops a.tmps) = Region.wanted o (yielded ops a'.tmps))
  (he : execOp a.eval o = execOp a'.eval o) (h : StepG P ops o a' w R) (hK : ∀ v w', R v w' → K (a.put o.dst v) w') : wpOp P ops Q i K a w := by
 unfold wpOp
 simp only [hi]
 unfold StepG at h
 rw [hg]
 by_cases hw : Region.wanted o (yielded ops a'.tmps) = true
 ·rw [if_pos hw] at h ⊢
  left
  unfold StepOK at h
  unfold Oper.wp
  rw [he]
  generalize (execOp a'.eval o).run P w = r at h
  cases r with
  | ok n w' =>
   cases n <;> simp only [Oper.upon] at h ⊢
   case value v => exact hK _ _ h
   case enter f args => exact h.mono fun e w'' ⟨v, hv, hr⟩ => by subst hv; exact hK _ _ hr
   all_goals exact h.elim
  | halt x w' => simp at h
 ·rw [if_neg hw] at h ⊢
  exact hK _ _ h
theorem putsTo_wanted {l : Nat → Bool} {vals : Nat → Value} {a : Act} {o : Oper} (n : Nat) (h : ∀ g b, o.guard = some (g, b) → ∀ t, qby ops g = some t → ∀ j, j < n → qby ops j = some t → l j = true) :
  Region.wanted o (yielded ops (qat ops l vals a n).tmps) = Region.wanted o (yielded ops (qat ops (fun _ => true) vals a n).tmps) := by
 unfold Region.wanted
 cases hg : o.guard with
 | none => rfl
 | some gw =>
  obtain ⟨g, want⟩ := gw
  have hy : yielded ops (qat ops l vals a n).tmps g = yielded ops (qat ops (fun _ => true) vals a n).tmps g := by
   unfold yielded
   cases ht : (ops[g]?).bind (·.dst) with
   | none => rfl
   | some t =>
    obtain ⟨h1, h2⟩ := putsTo_eval (ops := ops) (l := l) (vals := vals) (a := a) (x := .tmp t) n (fun t' ht' j hj hd => h g want hg t ht j hj (by rw [hd]; cases ht'; rfl))
    have h3 : (qat ops l vals a n).tmps[t]? = (qat ops (fun _ => true) vals a n).tmps[t]? := by
     have h4 : (qat ops l vals a n).tmps.getD t undef = (qat ops (fun _ => true) vals a n).tmps.getD t undef := h1
     rcases Nat.lt_or_ge t (qat ops l vals a n).tmps.size with hl | hl
     ·have hl2 : t < (qat ops (fun _ => true) vals a n).tmps.size := by rw [← h2]; exact hl
      rw [Array.getElem?_eq_getElem hl, Array.getElem?_eq_getElem hl2]
      simp [hl, hl2] at h4
      rw [h4]
     ·rw [Array.getElem?_eq_none hl, Array.getElem?_eq_none (by omega)]
    show (match (some t).bind ((qat ops l vals a n).tmps[·]?) with | some (.bool b) => some b | _ => none) = (match (some t).bind ((qat ops (fun _ => true) vals a n).tmps[·]?) with | some (.bool b) => some b | _ => none)
    simp only [Option.bind_some, h3]
  simp only [hy]

def sinkF (md : Region.Mode) (ops : Array Oper) (fl : List Nat) (n : Nat) : Bool :=
 (List.range n).all fun i => fl.contains i || (List.range (n + 1)).any fun j => decide (i < j) && !fl.contains j && Region.waitsFor md ops j i
def floatB (md : Region.Mode) (ops : Array Oper) (fl : List Nat) : Bool :=
 fl.all fun i => match ops[i]? with
  | none => false
  | some oi => oi.guard.isNone && (List.range ops.size).all fun j => j == i || Region.waitsFor md ops j i || Region.waitsFor md ops i j || match ops[j]? with
   | some oj => oi.apart ops oj
   | none => true
def headB (md : Region.Mode) (ops : Array Oper) (fl : List Nat) (n : Nat) : Bool :=
 Region.noSelect ops && decide (n < ops.size) && (sinkF md ops fl n && floatB md ops fl && fl.all (fun i => decide (i < n))) && Region.chainB md ops n &&
 ((List.range n).all fun k => match ops[k]? with
  | none => false
  | some o => (match o.guard with | none => true | some (g, _) => decide (g < n) && Region.waitsFor md ops k g) && (o.after.all fun e => !Region.binds md e || decide (e.on < k)) &&
   ((List.range n).all fun j => (j == k || o.dst.isNone || decide (qby ops j ≠ o.dst)) &&
    (o.op.operands.all fun x => match x with
     | .tmp t => decide (qby ops j ≠ some t) || Region.waitsFor md ops k j
     | _ => true))) &&
 Region.seqB md ops (ops.size - n) n ((Array.range ops.size).map fun i => decide (i < n))
theorem tail_waitsF {n : Nat} {fl : List Nat} {listed : Array Bool} (hs : sinkF md ops fl n = true) (hc : Region.chainB md ops n = true) (hn : n < ops.size) (inv : HeadInv md ops n listed) :
  ∀ (d i : Nat), n - i = d → i < n → fl.contains i = false → listed.getD i true = false → ∀ t, n ≤ t → t ∉ Region.ready md ops listed := by
 intro d
 induction d using Nat.strongRecOn with
 | _ d ih =>
  intro i hd hi hfi hun t ht hr
  obtain ⟨_, ot, hot, hall⟩ := mem_ready.1 hr
  have htlt : t < ops.size := (Array.getElem?_eq_some_iff.1 hot).1
  by_cases htn : t = n
  ·subst htn
   have h1 := List.all_eq_true.1 hs i (List.mem_range.2 hi)
   rw [hfi, Bool.false_or] at h1
   obtain ⟨j, hj, hj2⟩ := List.any_eq_true.1 h1
   simp only [Bool.and_eq_true, decide_eq_true_eq, Bool.not_eq_true'] at hj2
   obtain ⟨oj, hoj, e, he, hb, hon⟩ := Region.waitsFor_spec hj2.2
   have hjle : j ≤ t := by have := List.mem_range.1 hj; omega
   by_cases hjt : j = t
   ·subst hjt
    have : oj = ot := Option.some.inj (hoj.symm.trans hot)
    subst this
    have h2 := hall e he hb
    rw [hon, getD_both hun] at h2
    cases h2
   ·cases hl : listed.getD j false with
    | true =>
     have h2 := inv.closed j oj hoj hl e he hb
     rw [hon, getD_both hun] at h2
     cases h2
    | false =>
     have hjs : j < listed.size := by rw [inv.size]; omega
     exact ih (t - j) (by omega) j rfl (by omega) hj2.1.2 (getD_in hjs hl) t (Nat.le_refl _) hr
  ·have h1 := List.all_eq_true.1 hc t (List.mem_range.2 htlt)
   simp only [Bool.or_eq_true, decide_eq_true_eq] at h1
   rcases h1 with h1 | h1
   ·omega
   ·obtain ⟨o', ho', e, he, hb, hon⟩ := Region.waitsFor_spec h1
    have : o' = ot := Option.some.inj (ho'.symm.trans hot)
    subst this
    have h2 := hall e he hb
    rw [hon, getD_both (inv.tail (t - 1) (by omega) (by omega))] at h2
    cases h2

structure HeadOK (md : Region.Mode) (ops : Array Oper) (n k : Nat) (o : Oper) : Prop where
 guard : ∀ g b, o.guard = some (g, b) → g < n ∧ Region.waitsFor md ops k g = true
 early : ∀ e ∈ o.after, Region.binds md e = true → e.on < k
 dst : ∀ j, j < n → j ≠ k → ∀ d, o.dst = some d → qby ops j ≠ some d
 reads : ∀ x ∈ o.op.operands, ∀ t, x = .tmp t → ∀ j, j < n → qby ops j = some t → Region.waitsFor md ops k j = true
theorem headB_ok {n k : Nat} {fl : List Nat} {o : Oper} (h : headB md ops fl n = true) (hk : k < n) (ho : ops[k]? = some o) : HeadOK md ops n k o := by
 unfold headB at h
 simp only [Bool.and_eq_true] at h
 have h1 := List.all_eq_true.1 h.1.2 k (List.mem_range.2 hk)
 rw [ho] at h1
 simp only [Bool.and_eq_true, List.all_eq_true, List.mem_range] at h1
 obtain ⟨⟨g1, g2⟩, g3⟩ := h1
 refine ⟨fun g b hg => by
  rw [hg] at g1
  simpa using g1, fun e he hb => ?_, fun j hj hjk d hd => ?_, fun x hx t ht j hj hd => ?_⟩
 ·have := Array.all_eq_true_iff_forall_mem.1 g2 e he
  rw [hb] at this; simpa using this
 ·have := (g3 j hj).1
  rw [hd] at this
  simp only [Bool.or_eq_true, beq_iff_eq, Option.isNone_some, Bool.false_eq_true, or_false, decide_eq_true_eq] at this
  rcases this with h | h
  ·exact absurd h hjk
  ·exact h
 ·have := Array.all_eq_true_iff_forall_mem.1 (g3 j hj).2 x hx
  subst ht
  simp only [Bool.or_eq_true, decide_eq_true_eq] at this
  rcases this with h | h
  ·exact absurd hd h
  ·exact h

structure DrawInv (md : Region.Mode) (ops : Array Oper) (n : Nat) (F : Nat → Value → World → Prop) (AL : Nat → Bool) (w0 : World) (a0 : Act) (listed : Array Bool) (a : Act) (w : World) : Prop where
 head : HeadInv md ops n listed
 below : Below w0.heap.size w0 w
 vals : ∃ vals : Nat → Value, a = qat ops (fun j => listed.getD j false) vals a0 n ∧ (∀ j, j < n → listed.getD j false = true → F j (vals j) w) ∧
  (∀ j, j < n → listed.getD j false = true → AL j = true → ∃ g, vals j = .pointer (some ⟨g, 0, none⟩) ∧ g < w.heap.size) ∧
  (∀ j k, j < n → k < n → j ≠ k → listed.getD j false = true → listed.getD k false = true → AL j = true → AL k = true → vals j ≠ vals k)

def unl (listed : Array Bool) : Nat → Nat
 | 0 => 0
 | n + 1 => unl listed n + if listed.getD n false then 0 else 1
theorem unl_zero {listed : Array Bool} : ∀ n, unl listed n = 0 → ∀ j, j < n → listed.getD j false = true
 | 0, _, j, hj => by omega
 | n + 1, h, j, hj => by
  unfold unl at h
  by_cases hn : listed.getD n false = true
  ·rw [if_pos hn] at h
   by_cases hjn : j = n
   ·subst hjn; exact hn
   ·exact unl_zero n (by omega) j (by omega)
  ·rw [if_neg hn] at h; omega
theorem unl_first {listed : Array Bool} : ∀ n, unl listed n ≠ 0 → ∃ k, k < n ∧ listed.getD k false = false ∧ ∀ j, j < k → listed.getD j false = true
 | 0, h => absurd rfl h
 | n + 1, h => by
  by_cases hz : unl listed n = 0
  ·unfold unl at h
   refine ⟨n, by omega, ?_, unl_zero n hz⟩
   cases hn : listed.getD n false with
   | false => rfl
   | true => rw [hz, hn] at h; simp at h
  ·obtain ⟨k, h1, h2⟩ := unl_first n hz
   exact ⟨k, by omega, h2⟩
theorem unl_congr {l l' : Array Bool} : ∀ n, (∀ j, j < n → l.getD j false = l'.getD j false) → unl l n = unl l' n
 | 0, _ => rfl
 | n + 1, h => by
  unfold unl
  rw [unl_congr n (fun j hj => h j (by omega)), h n (by omega)]
theorem unl_set {listed : Array Bool} {i : Nat} (hs : i < listed.size) (hi : listed.getD i false = false) : ∀ n, i < n → unl (listed.setIfInBounds i true) n + 1 = unl listed n
 | 0, h => by omega
 | n + 1, h => by
  unfold unl
  by_cases hn : n = i
  ·subst hn
   rw [unl_congr (l' := listed) n (fun j hj => getD_set_ne false (by omega)), hi]
   have : (listed.setIfInBounds n true).getD n false = true := by simp [hs]
   rw [this]; simp
  ·have ih := unl_set hs hi n (by omega)
   rw [getD_set_ne false (Ne.symm hn)]; omega

def StepPure (P : Program) (o : Oper) (a : Act) (R : Value → Prop) : Prop := ∃ v, (∀ w, (execOp a.eval o).run P w = .ok (.value v) w) ∧ R v
def Leaves (F : Nat → Value → World → Prop) (AL : Nat → Bool) (i : Nat) (w1 : World) (v : Value) (w2 : World) : Prop :=
 Below w1.heap.size w1 w2 ∧ F i v w2 ∧ (AL i = true → v = .pointer (some ⟨w1.heap.size, 0, none⟩) ∧ w1.heap.size < w2.heap.size)
theorem qai {F : Nat → Value → World → Prop} {AL : Nat → Bool} {i : Nat} {w1 w2 : World} {v : Value} (hb : Below w1.heap.size w1 w2) (hf : F i v w2) (hal : AL i = true → v = .pointer (some ⟨w1.heap.size, 0, none⟩) ∧ w1.heap.size < w2.heap.size) : Leaves F AL i w1 v w2 := ⟨hb, hf, hal⟩
theorem qLk {F : Nat → Value → World → Prop} {AL : Nat → Bool} {i : Nat} {w : World} {v : Value} (hf : F i v w) (h : AL i = false) : Leaves F AL i w v w := qai (Below.refl _ _) hf (fun k => by rw [h] at k; cases k)
theorem DrawInv.next {n i : Nat} {oi : Oper} {fl : List Nat} {F : Nat → Value → World → Prop} {AL : Nat → Bool} {w0 w w' : World} {a0 a : Act} {listed : Array Bool} {v : Value} (hB : headB md ops fl n = true)
  (hF : ∀ i v w1 w2, F i v w1 → Below w1.heap.size w1 w2 → F i v w2) (inv : DrawInv md ops n F AL w0 a0 listed a w) (hi : i ∈ Region.ready md ops listed) (hin : i < n) (hoi : ops[i]? = some oi)
  (h : Leaves F AL i w v w') : DrawInv md ops n F AL w0 a0 (listed.setIfInBounds i true) (a.put oi.dst v) w' := by
 obtain ⟨hiu, oi', hoi', hdeps⟩ := mem_ready.1 hi
 have : oi' = oi := Option.some.inj (hoi'.symm.trans hoi)
 subst this
 have hiu' := getD_both hiu
 have ok := headB_ok hB hin hoi
 have his : i < listed.size := by rw [inv.head.size]; exact (Array.getElem?_eq_some_iff.1 hoi).1
 have hdst : qby ops i = oi'.dst := by unfold qby; rw [hoi]; rfl
 obtain ⟨vals, rfl, hv, hg, hd⟩ := inv.vals
 obtain ⟨hb, hf, hal⟩ := h
 refine ⟨inv.head.set hi hin, inv.below.trans (hb.mono inv.below.size), fun j => if j = i then v else vals j, ?_, ?_, ?_, ?_⟩
 ·rw [← hdst, ← putsTo_set hiu' n hin (fun j hj hji => by rw [hdst]; exact ok.dst j hj hji)]
  refine putsTo_congr fun j hj => ⟨?_, fun _ => rfl⟩
  by_cases hji : j = i
  ·subst hji; rw [if_pos rfl]; simp [his]
  ·rw [if_neg hji, getD_set_ne false (Ne.symm hji)]
 ·intro j hj hl
  show F j (if j = i then v else vals j) w'
  by_cases hji : j = i
  ·subst hji; rw [if_pos rfl]; exact hf
  ·rw [if_neg hji]
   rw [getD_set_ne false (Ne.symm hji)] at hl
   exact hF _ _ _ _ (hv j hj hl) hb
 ·intro j hj hl aj
  show ∃ g, (if j = i then v else vals j) = _ ∧ _
  by_cases hji : j = i
  ·subst hji; rw [if_pos rfl]
   obtain ⟨e1, e2⟩ := hal aj
   exact ⟨_, e1, e2⟩
  ·rw [if_neg hji]
   rw [getD_set_ne false (Ne.symm hji)] at hl
   obtain ⟨g, e1, e2⟩ := hg j hj hl aj
   exact ⟨g, e1, Nat.lt_of_lt_of_le e2 hb.size⟩
 ·intro j k' hj hk' hjk hl hl' aj ak
  show (if j = i then v else vals j) ≠ (if k' = i then v else vals k')
  by_cases hji : j = i
  ·subst hji
   have hki : k' ≠ j := fun e => hjk e.symm
   rw [if_pos rfl, if_neg hki]
   rw [getD_set_ne false (Ne.symm hki)] at hl'
   obtain ⟨e1, e2⟩ := hal aj
   obtain ⟨g, e3, e4⟩ := hg k' hk' hl' ak
   rw [e1, e3]
   intro h
   cases h; omega
  ·rw [if_neg hji]
   rw [getD_set_ne false (Ne.symm hji)] at hl
   by_cases hki : k' = i
   ·subst hki
    rw [if_pos rfl]
    obtain ⟨e1, e2⟩ := hal ak
    obtain ⟨g, e3, e4⟩ := hg j hj hl aj
    rw [e1, e3]
    intro h
    cases h; omega
   ·rw [if_neg hki]
    rw [getD_set_ne false (Ne.symm hki)] at hl'
    exact hd j k' hj hk' hjk hl hl' aj ak

theorem wpAny_of_facts {n : Nat} {fl : List Nat} {Q : Exit → Act → World → Prop} {F : Nat → Value → World → Prop} {AL : Nat → Bool} {w0 : World} {a0 : Act} (hB : headB md ops fl n = true)
  (hQ : ∀ c (a : Act) (d : Tmp) v w, Q (.panic c) (a.put (some d) v) w → Q (.panic c) a w)
  (hF : ∀ i v w1 w2, F i v w1 → Below w1.heap.size w1 w2 → F i v w2)
  (hstep : ∀ i o, i < n → ops[i]? = some o → ∀ (vals : Nat → Value) (w1 : World), Below w0.heap.size w0 w1 → (∀ j, Region.waitsFor md ops i j = true → F j (vals j) w1) →
   if fl.contains i then StepPure P o (qat ops (fun _ => true) vals a0 n) (fun v => Leaves F AL i w1 v w1) else StepG P ops o (qat ops (fun _ => true) vals a0 n) w1 (Leaves F AL i w1))
  (hend : ∀ (vals : Nat → Value) (w1 : World), Below w0.heap.size w0 w1 → (∀ i, i < n → F i (vals i) w1) → (∀ i j, i < n → j < n → i ≠ j → AL i = true → AL j = true → vals i ≠ vals j) →
   wpList P ops Q (ops.toList.drop n) (qat ops (fun _ => true) vals a0 n) w1) :
  ∀ (m : Nat) (listed : Array Bool) (a : Act) (w : World), unl listed n = m → DrawInv md ops n F AL w0 a0 listed a w → wpAny P md ops Q (m + (ops.size - n)) listed a w := by
 have hB' := hB
 unfold headB at hB'
 simp only [Bool.and_eq_true, decide_eq_true_eq] at hB'
 obtain ⟨⟨⟨⟨⟨hsel, hn⟩, ⟨hs, hfb⟩, hfn⟩, hc⟩, _⟩, hseq⟩ := hB'
 intro m
 induction m with
 | zero =>
  intro listed a w hm inv
  have hall := unl_zero n hm
  obtain ⟨vals, rfl, hv, _, hd⟩ := inv.vals
  have hl : listed = (Array.range ops.size).map fun i => decide (i < n) := by
   apply Array.ext
   ·simp [inv.head.size]
   ·intro j h1 h2
    simp only [Array.getElem_map, Array.getElem_range]
    by_cases hj : j < n
    ·have := hall j hj
     simp [h1] at this; rw [this, decide_eq_true hj]
    ·have hjs : j < ops.size := by rw [← inv.head.size]; exact h1
     have := inv.head.tail j (by omega) hjs
     simp [h1] at this; rw [this, decide_eq_false hj]
  have hend' := hend vals w inv.below (fun i hi => hv i hi (hall i hi)) (fun i j hi hj hij ai aj => hd i j hi hj hij (hall i hi) (hall j hj) ai aj)
  rw [putsTo_congr (l' := fun _ => true) (v' := vals) (fun j hj => ⟨hall j hj, fun _ => rfl⟩)]
  rw [Nat.zero_add]
  have hlen : (ops.toList.drop n).length = ops.size - n := by simp
  have := wpAny_of_seq (P := P) (md := md) (Q' := Q) (ops.toList.drop n) n listed (qat ops (fun _ => true) vals a0 n) w (fun j => by simp [List.getElem?_drop]) (by rw [hlen, hl]; exact hseq) hend'
  rwa [hlen] at this
 | succ m ih =>
  intro listed a w hm inv
  have step : ∀ i oi, i ∈ Region.ready md ops listed → i < n → ops[i]? = some oi →
    (execOp a.eval oi = execOp (qat ops (fun _ => true) (Classical.choose inv.vals) a0 n).eval oi ∧ Region.wanted oi (yielded ops a.tmps) = Region.wanted oi (yielded ops (qat ops (fun _ => true) (Classical.choose inv.vals) a0 n).tmps)) ∧ (∀ j, Region.waitsFor md ops i j = true → F j (Classical.choose inv.vals j) w) ∧ unl (listed.setIfInBounds i true) n = m := by
   intro i oi hi hin hoi
   obtain ⟨ha, hv, _, _⟩ := Classical.choose_spec inv.vals
   obtain ⟨hiu, oi', hoi', hdeps⟩ := mem_ready.1 hi
   have : oi' = oi := Option.some.inj (hoi'.symm.trans hoi)
   subst this
   have ok := headB_ok hB hin hoi
   have his : i < listed.size := by rw [inv.head.size]; exact (Array.getElem?_eq_some_iff.1 hoi).1
   have hwl : ∀ j, Region.waitsFor md ops i j = true → listed.getD j false = true := fun j hj => by
    obtain ⟨o', ho', e, he, hb, hon⟩ := Region.waitsFor_spec hj
    have : o' = oi' := Option.some.inj (ho'.symm.trans hoi)
    subst this
    rw [← hon]; exact hdeps e he hb
   have hwn : ∀ j, Region.waitsFor md ops i j = true → j < n := fun j hj => by
    obtain ⟨o', ho', e, he, hb, hon⟩ := Region.waitsFor_spec hj
    have : o' = oi' := Option.some.inj (ho'.symm.trans hoi)
    subst this
    have := ok.early e he hb; omega
   refine ⟨?_, fun j hj => hv j (hwn j hj) (hwl j hj), by have := unl_set his (getD_both hiu) n hin; omega⟩
   have e := execOp_congr oi' (ρ := (qat ops (fun j => listed.getD j false) (Classical.choose inv.vals) a0 n).eval) (ρ' := (qat ops (fun _ => true) (Classical.choose inv.vals) a0 n).eval) (fun cs b => Region.noSelect_spec hsel i oi' cs b hoi)
    fun x hx => (putsTo_eval n (fun t ht j hj hdj => hwl j (ok.reads x hx t ht j hj hdj))).1
   have e2 := putsTo_wanted (ops := ops) (l := fun j => listed.getD j false) (vals := Classical.choose inv.vals) (a := a0) (o := oi') n (fun g b hg t ht j hj hdj => by
    obtain ⟨hgn, hw⟩ := ok.guard g b hg
    by_cases hjg : j = g
    ·subst hjg; exact hwl _ hw
    ·exfalso
     have hgs : g < ops.size := by omega
     have okg := headB_ok hB hgn (Array.getElem?_eq_getElem hgs)
     refine okg.dst j hj hjg t ?_ hdj
     unfold qby at ht
     rw [Array.getElem?_eq_getElem hgs] at ht; exact ht)
   rw [← ha] at e e2; exact ⟨e, e2⟩
  obtain ⟨k, hk, hku, hkl⟩ := unl_first (listed := listed) n (by omega)
  have hks : k < listed.size := by rw [inv.head.size]; omega
  have hkt := getD_in hks hku
  have hready : k ∈ Region.ready md ops listed := by
   rw [mem_ready]
   refine ⟨hkt, ops[k]'(by omega), by rw [Array.getElem?_eq_getElem], fun e he hb => ?_⟩
   exact hkl _ ((headB_ok hB hk (Array.getElem?_eq_getElem (by omega))).early e he hb)
  rw [show m + 1 + (ops.size - n) = (m + (ops.size - n)) + 1 by omega]
  by_cases hfl : ∃ i, i < n ∧ i ∈ Region.ready md ops listed ∧ fl.contains i = true
  ·obtain ⟨i, hin, hi, hif⟩ := hfl
   obtain ⟨_, oi, hoi, _⟩ := mem_ready.1 hi
   obtain ⟨he, hdp, hu⟩ := step i oi hi hin hoi
   have st := hstep i oi hin hoi (Classical.choose inv.vals) w inv.below hdp
   rw [if_pos hif] at st
   obtain ⟨v, hv, hL⟩ := st
   have hfi := List.all_eq_true.1 hfb i (by simpa using hif)
   rw [hoi] at hfi
   simp only [Bool.and_eq_true] at hfi
   obtain ⟨hgn, hfi⟩ := hfi
   have hgn : oi.guard = none := by simpa using hgn
   refine wpAny_first hoi (Region.noSelect_spec hsel) (fun c a w h => by
    cases hd : oi.dst with
    | none => rw [hd] at h; exact h
    | some d => rw [hd] at h; exact hQ c a d v w h) _ listed a w ?_ hi (.inl ⟨by simp [Region.wanted, hgn], fun w' => by rw [he.1]; exact hv w'⟩) (ih _ _ _ hu (inv.next hB hF hi hin hoi hL))
   intro j oj hj hji hun hno
   have h1 := List.all_eq_true.1 hfi j (List.mem_range.2 (Array.getElem?_eq_some_iff.1 hj).1)
   rw [hj] at h1
   simp only [Bool.or_eq_true, beq_iff_eq, hji, false_or] at h1
   rcases h1 with (h1 | h1) | h1
   ·obtain ⟨o', ho', e, he, hb, hon⟩ := Region.waitsFor_spec h1
    have : o' = oj := Option.some.inj (ho'.symm.trans hj)
    subst this
    exact absurd hon (hno e he hb)
   ·obtain ⟨o', ho', e, he, hb, hon⟩ := Region.waitsFor_spec h1
    obtain ⟨_, o2, ho2, hall⟩ := mem_ready.1 hi
    have : o' = o2 := Option.some.inj (ho'.symm.trans ho2)
    subst this
    have := hall e he hb
    rw [hon, getD_both hun] at this; cases this
   ·exact h1
  ·have hkf : fl.contains k = false := by
    cases h : fl.contains k with
    | false => rfl
    | true => exact absurd ⟨k, hk, hready, h⟩ hfl
   refine ⟨fun h0 => (by rw [h0] at hready; cases hready), fun i hi => ?_⟩
   have hin : i < n := by
    rcases Nat.lt_or_ge i n with h | h
    ·exact h
    ·exact absurd hi (tail_waitsF hs hc hn inv.head _ k rfl hk hkf hkt i h)
   obtain ⟨_, oi, hoi, _⟩ := mem_ready.1 hi
   obtain ⟨he, hdp, hu⟩ := step i oi hi hin hoi
   have st := hstep i oi hin hoi (Classical.choose inv.vals) w inv.below hdp
   rw [if_neg (fun h => hfl ⟨i, hin, hi, h⟩)] at st
   refine wpOp_of_stepG hoi he.2 he.1 st ?_
   intro v w' hL
   exact ih _ _ _ hu (inv.next hB hF hi hin hoi hL)

def stepsOK (P : Program) (md : Region.Mode) (ops : Array Oper) (fl : List Nat) (F : Nat → Value → World → Prop) (AL : Nat → Bool) (w0 : World) (A : (Nat → Value) → Act) : List Oper → Nat → Prop
 | [], _ => True
 | o :: l, i => (∀ (vals : Nat → Value) (w1 : World), Below w0.heap.size w0 w1 → (∀ j, Region.waitsFor md ops i j = true → F j (vals j) w1) →
   if fl.contains i then StepPure P o (A vals) (fun v => Leaves F AL i w1 v w1) else StepG P ops o (A vals) w1 (Leaves F AL i w1)) ∧
  stepsOK P md ops fl F AL w0 A l (i + 1)
theorem stepsOK_at {fl : List Nat} {F : Nat → Value → World → Prop} {AL : Nat → Bool} {w0 : World} {A : (Nat → Value) → Act} : ∀ (l : List Oper) (i : Nat), stepsOK P md ops fl F AL w0 A l i → ∀ k o, l[k]? = some o →
  ∀ (vals : Nat → Value) (w1 : World), Below w0.heap.size w0 w1 → (∀ j, Region.waitsFor md ops (i + k) j = true → F j (vals j) w1) →
   if fl.contains (i + k) then StepPure P o (A vals) (fun v => Leaves F AL (i + k) w1 v w1) else StepG P ops o (A vals) w1 (Leaves F AL (i + k) w1)
 | [], _, _, k, o, h => by simp at h
 | x :: l, i, hs, 0, o, h => by
  simp at h; subst h
  exact hs.1
 | x :: l, i, hs, k + 1, o, h => by
  have := stepsOK_at l (i + 1) hs.2 k o (by simpa using h)
  rw [show i + 1 + k = i + (k + 1) by omega] at this
  exact this
theorem qaj {id : Nat} {Q : Exit → Act → World → Prop} {a : Act} {w : World} {l : List Oper} {A : (Nat → Value) → Act} (n : Nat) (fl : List Nat) (hm : P.follows .mixedOrders = true) (F : Nat → Value → World → Prop) (AL : Nat → Bool)
  (hB : headB .any l.toArray fl n = true)
  (hQ : ∀ c (a : Act) (d : Tmp) v w, Q (.panic c) (a.put (some d) v) w → Q (.panic c) a w)
  (hF : ∀ i v w1 w2, F i v w1 → Below w1.heap.size w1 w2 → F i v w2)
  (hA : ∀ vals : Nat → Value, qat l.toArray (fun _ => true) vals a n = A vals)
  (hstep : stepsOK P .any l.toArray fl F AL w A (l.take n) 0)
  (hend : ∀ (vals : Nat → Value) (w1 : World), Below w.heap.size w w1 → (∀ i, i < n → F i (vals i) w1) → (∀ i j, i < n → j < n → i ≠ j → AL i = true → AL j = true → vals i ≠ vals j) →
   wpList P l.toArray Q (l.drop n) (A vals) w1) : (Code.region id l.toArray true).wp P Q a w := by
 refine wp_region_any hm ?_
 have hB' := hB
 unfold headB at hB'
 simp only [Bool.and_eq_true, decide_eq_true_eq] at hB'
 have hn : n < l.toArray.size := hB'.1.1.1.1.2
 have hu : ∀ k, unl (Array.replicate l.toArray.size false) k = k := fun k => by
  induction k with
  | zero => rfl
  | succ k ih => unfold unl; rw [ih, getD_replicate_false]; rfl
 have key := wpAny_of_facts (P := P) (Q := Q) (F := F) (AL := AL) (w0 := w) (a0 := a) hB hQ hF (fun i o hi ho vals w1 hb hd => by
   have := stepsOK_at (l.take n) 0 hstep i o (by
    rw [List.getElem?_take, if_pos hi]; simpa using ho)
   rw [Nat.zero_add] at this; rw [hA]; exact this vals w1 hb hd) (fun vals w1 hb hf hd => by rw [hA]; simpa using hend vals w1 hb hf hd) n (Array.replicate l.toArray.size false) a { w with drawn := w.drawn + 1 } (hu n)
  ⟨⟨by simp, fun j oj _ hl => (by rw [getD_replicate_false] at hl; cases hl), fun t _ ht => getD_in (by simpa using ht) (getD_replicate_false _ _)⟩,
   (Below.refl w.heap.size w).drew, fun _ => undef, by
    have : ∀ k, qat l.toArray (fun j => (Array.replicate l.toArray.size false).getD j false) (fun _ => undef) a k = a := fun k => by
     induction k with
     | zero => rfl
     | succ k ih => unfold qat; rw [if_neg (by rw [getD_replicate_false]; decide), ih]
    exact (this n).symm, fun j _ hl => (by rw [getD_replicate_false] at hl; cases hl), fun j _ hl => (by rw [getD_replicate_false] at hl; cases hl), fun j _ _ _ _ hl => (by rw [getD_replicate_false] at hl; cases hl)⟩
 rw [show n + (l.toArray.size - n) = l.toArray.size by omega] at key
 exact key
section
variable {fl : List Nat} {F : Nat → Value → World → Prop} {AL : Nat → Bool} {w0 : World} {A : (Nat → Value) → Act} {i : Nat} {o : Oper} {l : List Oper}
theorem qau : stepsOK P md ops fl F AL w0 A [] i := trivial
theorem qaa (hi : fl.contains i = false) (hg : o.guard = none)
  (h : ∀ (vals : Nat → Value) (w1 : World), Below w0.heap.size w0 w1 → (∀ j, Region.waitsFor md ops i j = true → F j (vals j) w1) → StepOK P o (A vals) w1 (Leaves F AL i w1))
  (hl : stepsOK P md ops fl F AL w0 A l (i + 1)) : stepsOK P md ops fl F AL w0 A (o :: l) i := ⟨fun vals w1 hb hd => by rw [if_neg (by rw [hi]; decide)]; unfold StepG; rw [if_pos (by simp [Region.wanted, hg])]; exact h vals w1 hb hd, hl⟩
theorem qci (hi : fl.contains i = true)
  (h : ∀ (vals : Nat → Value) (w1 : World), Below w0.heap.size w0 w1 → (∀ j, Region.waitsFor md ops i j = true → F j (vals j) w1) → StepPure P o (A vals) (fun v => Leaves F AL i w1 v w1))
  (hl : stepsOK P md ops fl F AL w0 A l (i + 1)) : stepsOK P md ops fl F AL w0 A (o :: l) i := ⟨fun vals w1 hb hd => by rw [if_pos hi]; exact h vals w1 hb hd, hl⟩
theorem qbg (hi : fl.contains i = false)
  (h : ∀ (vals : Nat → Value) (w1 : World), Below w0.heap.size w0 w1 → (∀ j, Region.waitsFor md ops i j = true → F j (vals j) w1) → StepG P ops o (A vals) w1 (Leaves F AL i w1))
  (hl : stepsOK P md ops fl F AL w0 A l (i + 1)) : stepsOK P md ops fl F AL w0 A (o :: l) i := ⟨fun vals w1 hb hd => by rw [if_neg (by rw [hi]; decide)]; exact h vals w1 hb hd, hl⟩
end
theorem qdg {o : Oper} {tmps : Array Value} {g : Nat} {t : Tmp} {b want : Bool} (hg : o.guard = some (g, want)) (hd : (ops[g]?).bind (·.dst) = some t) (ht : tmps[t]? = some (.bool b)) (hb : (b == want) = true) : Region.wanted o (yielded ops tmps) = true := by
 have hy : yielded ops tmps g = some b := by unfold yielded; rw [hd]; show (match tmps[t]? with | some (.bool b) => some b | _ => none) = some b; rw [ht]
 unfold Region.wanted; rw [hg]
 have : b = want := by simpa using hb
 subst this
 simp [hy]
theorem qck {o : Oper} {tmps : Array Value} {g : Nat} {t : Tmp} {b want : Bool} (hg : o.guard = some (g, want)) (hd : (ops[g]?).bind (·.dst) = some t) (ht : tmps[t]? = some (.bool b)) (hb : (b == want) = false) : Region.wanted o (yielded ops tmps) = false := by
 have hy : yielded ops tmps g = some b := by unfold yielded; rw [hd]; show (match tmps[t]? with | some (.bool b) => some b | _ => none) = some b; rw [ht]
 unfold Region.wanted; rw [hg]
 have : b ≠ want := by simpa using hb
 simp [hy, this]
theorem qdi {o : Oper} {a : Act} {w : World} {R : Value → World → Prop} (hw : Region.wanted o (yielded ops a.tmps) = true) (h : StepOK P o a w R) : StepG P ops o a w R := by
 unfold StepG; rw [if_pos hw]; exact h
theorem stepG_no {o : Oper} {a : Act} {w : World} {R : Value → World → Prop} (hw : Region.wanted o (yielded ops a.tmps) = false) (h : R undef w) : StepG P ops o a w R := by
 unfold StepG; rw [if_neg (by rw [hw]; decide)]; exact h
theorem qbv {o : Oper} {a : Act} {v : Value} {R : Value → Prop} (h : ∀ w, (execOp a.eval o).run P w = .ok (.value v) w) (hR : R v) : StepPure P o a R := ⟨v, h, hR⟩
theorem qaf {o : Oper} {a : Act} {w w' : World} {v : Value} {R : Value → World → Prop} (h : (execOp a.eval o).run P w = .ok (.value v) w') (hR : R v w') : StepOK P o a w R := by
 unfold StepOK; rw [h]; exact hR
theorem qSv {o : Oper} {a : Act} {w : World} (v : Value) {R : Value → World → Prop} (h : (execOp a.eval o).run P w = .ok (.value v) w) (hR : R v w) : StepOK P o a w R := qaf h hR
theorem qar {o : Oper} {a : Act} {w w' : World} {f : FuncId} {args : Array Value} {R : Value → World → Prop} (h : (execOp a.eval o).run P w = .ok (.enter f args) w')
  (hR : Calls P f args w' fun e w'' => ∃ v, e = .returned v ∧ R v w'') : StepOK P o a w R := by
 unfold StepOK; rw [h]; exact hR
end
def MonoF (p : Value → World → Prop) : Prop := ∀ v w1 w2, p v w1 → Below w1.heap.size w1 w2 → p v w2
def Fl (l : List (Value → World → Prop)) (i : Nat) : Value → World → Prop := l.getD i fun _ _ => True
theorem qdk {l : List (Value → World → Prop)} (h : ∀ p ∈ l, MonoF p) (i : Nat) (v : Value) (w1 w2 : World) (h1 : Fl l i v w1) (hb : Below w1.heap.size w1 w2) : Fl l i v w2 := by
 unfold Fl at *
 rw [List.getD_eq_getElem?_getD] at *
 cases hi : l[i]? with
 | none => trivial
 | some p =>
  rw [hi] at h1
  exact h p (List.mem_of_getElem? hi) v w1 w2 h1 hb
theorem qdj : ∀ p ∈ ([] : List (Value → World → Prop)), MonoF p := fun _ h => by cases h
theorem qad {p : Value → World → Prop} {l : List (Value → World → Prop)} (hp : MonoF p) (h : ∀ p ∈ l, MonoF p) : ∀ q ∈ p :: l, MonoF q := fun q hq => by
 rcases List.mem_cons.1 hq with rfl | hq
 ·exact hp
 ·exact h q hq
def KEq (c : Value) : Value → World → Prop := fun v _ => v = c
theorem kEq (c : Value) : MonoF (KEq c) := fun _ _ _ h _ => h
def KAny : Value → World → Prop := fun _ _ => True
theorem kAny : MonoF KAny := fun _ _ _ h _ => h
theorem Tryz.wordsTy : qcl Tryz.prog 35 49 (.int .u32 0) 1 4 := .mk' Tryz.underlying35 (by kernel_rfl)

def RetOwn (w : World) (R : List Nat → Prop) (e : Ending) (w' : World) : Prop := ∃ v l, e = .returned v ∧ Below w.heap.size w w' ∧ qcg 49 w' w.heap.size v l ∧ R l

theorem own_lit (w : World) (e : TypeId) (B : Nat) (cs : Array Value) (l : List Nat) (n : Nat) (hB : B ≤ w.heap.size) (hU : U32 l) (hn : l.length = n) (hs : l.length ≤ 1000000) (hcs : cs = (l.map fun x : Nat => Value.int .u32 x).toArray) :
  qcg e (w.alloc (.cells cs e)) B (.slice (some ⟨w.heap.size, 0, none⟩) n n) l := by
 subst hcs hn
 refine ⟨⟨by simp, .inr ⟨w.heap.size, l.length, _, rfl, hB, heap_alloc_new w _, Nat.le_refl _, by unfold maxLen; omega, by simp, by simp [List.take_of_length_le]⟩⟩, hU⟩
theorem Num.take {w : World} {ao : Option Addr} {n c : Nat} {l : List Nat} (h : Num w (.slice ao n c) l) (k : Nat) (hk : k ≤ l.length) : Num w (.slice ao k c) (l.take k) := by
  obtain ⟨ao', c', e, h1, h2, h3, h4, h5⟩ := h
  cases e
  have hl : (l.take k).length = k := by rw [List.length_take]; omega
  refine ⟨ao, c, by rw [hl], by omega, h2, h3, ?_, ?_⟩
  · intro b off s hs
    obtain ⟨k1, k2⟩ := h4 b off s hs
    rw [hl]
    exact ⟨fun h0 => k1 (by omega), fun j hj => by rw [k2 j (by omega), gd_take, if_pos hj]⟩
  · exact fun j => by rw [gd_take]; split
                      · exact h5 j
                      · decide
theorem trim_take {l : List Nat} (hu : U32 l) (k : Nat) (hk : k ≤ l.length) (h0 : ∀ j, k ≤ j → gd l j = 0) (hc : k = 0 ∨ gd l (k - 1) ≠ 0) : l.take k = wd (val l) := by
  rw [← qcb k h0]
  apply clean_eq (fun j => by rw [gd_take]; split
                              · exact hu j
                              · decide)
  rcases hc with rfl | hc
  · exact .inl (by simp)
  · by_cases hz : k = 0
    · subst hz; exact .inl (by simp)
    · right
      have hl : (l.take k).length = k := by rw [List.length_take]; omega
      rw [hl, gd_take, if_pos (by omega)]; exact hc

theorem trim_own (v : Value) (l : List Nat) (w : World) (h : Num w v l) (hl : l.length ≤ 1000000) :
  Calls Tryz.prog 44 #[v] w (RetOwn w fun r => r = wd (val l)) := by
 obtain ⟨ao, c, rfl, hc, hc2, _⟩ := h.shape
 have hu := h.lt
 have HU := qHd hu
 clear hu
 go_enter Tryz.func44, Tryz.ntmps44
 go_wp2_with fail
 go_loop [3] (fun n => ∃ k : Nat, k ≤ l.length ∧ n = .int .i64 k ∧ Hid (∀ j, k ≤ j → gd l j = 0)) (fun n => (intOf n).toNat)
 case atStart => exact ⟨l.length, Nat.le_refl _, rfl, qHd fun j hj => gd_over _ _ hj⟩
 case round =>
  obtain ⟨k, hk, rfl, hz⟩ := hrel
  by_cases hk0 : k = 0
  ·subst hk0
   have hv : val l = 0 := by
    have := qcb 0 hz.out
    rw [← this]; rfl
   have HV := qHd hv; clear hv
   go_wp2_with fail
   go_ret
   exact ⟨_, [], rfl, Below.refl _ _, qcg.nil _ _ _, by rw [HV.out, qbl]⟩
  ·obtain ⟨b, off, rfl, hbs, hcell⟩ := h.at (by omega)
   have hx := hcell (k - 1) (by omega)
   have hx' : w.cell? ⟨b, off + (k - 1), none⟩ = _ := hx
   have hxl := HU.out (k - 1)
   obtain ⟨x, hxe⟩ : ∃ x, x = gd l (k - 1) := ⟨_, rfl⟩
   rw [← hxe] at hx hxl
   obtain ⟨m, rfl⟩ : ∃ m, k = m + 1 := ⟨k - 1, by omega⟩
   simp only [Nat.add_sub_cancel] at hx hxe
   have HX := qHd hxe; clear hxe hx' hcell
   by_cases hx0 : x = 0
   ·subst hx0
    go_wp2_with fail
    go_round
    case rel =>
     refine ⟨m, by omega, by go_num, qHd fun j hj => ?_⟩
     by_cases hjm : j = m
     ·rw [hjm, ← HX.out]
     ·exact hz.out j (by omega)
    case measure => simp [intOf]
   ·have hd : ((x : Int) == 0) = false := by simp; omega
    have hne : gd l (m + 1 - 1) ≠ 0 := by rw [Nat.add_sub_cancel, ← HX.out]; exact hx0
    have HT := qHd (trim_take HU.out (m + 1) hk hz.out (.inr hne))
    have hnum := h.take (m + 1) hk
    have HN := qHd hnum
    clear hnum hne hx0
    have hown := own_lit w 49 w.heap.size #[] [] 0 (Nat.le_refl _) U32.nil rfl (by simp) rfl
    have HO := qHd hown; clear hown
    go_wp2_with (at_builtin; refine qbu Tryz.wordsTy rfl (.tmp 20) (.tmp 23) rfl w.heap.size _ _ [] (l.take (m + 1)) rfl rfl HO.out (HN.out.below ((Below.refl _ _).alloc (Nat.le_refl _) _)) ?c1 ?c2 ?_)
    case c1 => omega
    intro v' w1 h1 h2 h3
    have h4 := h2 w ((Below.refl _ _).alloc (Nat.le_refl _) _)
    go_wp2_with fail
    go_ret
    exact ⟨_, _, rfl, h4, h1, HT.out⟩
theorem qbs (v : Value) (l : List Nat) (w : World) (h : Num w v l) (hl : l.length ≤ 1000000) :
  Calls Tryz.prog 44 #[v] w (RetNum w fun r => r = wd (val l)) := by
 refine (trim_own v l w h hl).mono ?_
 rintro e w' ⟨v', l', he, hb, ho, hr⟩
 exact ⟨v', l', he, hb, ho.num, hr⟩
theorem rtrim_own (v : Value) (l : List Nat) (w : World) (h : Num w v l) (hl : l.length ≤ 1000000) :
  Calls Tryz.prog 86 #[v] w (RetOwn w fun r => r = wd (val l)) := by
 obtain ⟨ao, c, rfl, hc, hc2, _⟩ := h.shape
 have hu := h.lt
 have HU := qHd hu
 clear hu
 go_enter Tryz.func86, Tryz.ntmps86
 go_wp2_with fail
 go_loop [3] (fun n => ∃ k : Nat, k ≤ l.length ∧ n = .int .i64 k ∧ Hid (∀ j, k ≤ j → gd l j = 0)) (fun n => (intOf n).toNat)
 case atStart => exact ⟨l.length, Nat.le_refl _, rfl, qHd fun j hj => gd_over _ _ hj⟩
 case round =>
  obtain ⟨k, hk, rfl, hz⟩ := hrel
  by_cases hk0 : k = 0
  ·subst hk0
   have hv : val l = 0 := by
    have := qcb 0 hz.out
    rw [← this]; rfl
   have HV := qHd hv; clear hv
   have hown := own_lit w 49 w.heap.size #[] [] 0 (Nat.le_refl _) U32.nil rfl (by simp) rfl
   have hnum := h.take 0 (Nat.zero_le _)
   have HO := qHd hown; have HN := qHd hnum; clear hown hnum
   go_wp2_with (at_builtin; refine qbu Tryz.wordsTy rfl (.tmp 18) (.tmp 21) rfl w.heap.size _ _ [] (l.take 0) rfl rfl HO.out (HN.out.below ((Below.refl _ _).alloc (Nat.le_refl _) _)) ?c1 ?c2 ?_)
   intro v' w1 h1 h2 h3
   have h4 := h2 w ((Below.refl _ _).alloc (Nat.le_refl _) _)
   go_wp2_with fail
   go_ret
   exact ⟨_, _, rfl, h4, h1, by show _ = wd (val l); rw [HV.out, qbl]⟩
  ·obtain ⟨b, off, rfl, hbs, hcell⟩ := h.at (by omega)
   have hx := hcell (k - 1) (by omega)
   have hx' : w.cell? ⟨b, off + (k - 1), none⟩ = _ := hx
   have hxl := HU.out (k - 1)
   obtain ⟨x, hxe⟩ : ∃ x, x = gd l (k - 1) := ⟨_, rfl⟩
   rw [← hxe] at hx hxl
   obtain ⟨m, rfl⟩ : ∃ m, k = m + 1 := ⟨k - 1, by omega⟩
   simp only [Nat.add_sub_cancel] at hx hxe
   have HX := qHd hxe; clear hxe hx' hcell
   by_cases hx0 : x = 0
   ·subst hx0
    go_wp2_with fail
    go_round
    case rel =>
     refine ⟨m, by omega, by go_num, qHd fun j hj => ?_⟩
     by_cases hjm : j = m
     ·rw [hjm, ← HX.out]
     ·exact hz.out j (by omega)
    case measure => simp [intOf]
   ·have hd : ((x : Int) == 0) = false := by simp; omega
    have hne : gd l (m + 1 - 1) ≠ 0 := by rw [Nat.add_sub_cancel, ← HX.out]; exact hx0
    have HT := qHd (trim_take HU.out (m + 1) hk hz.out (.inr hne))
    have hnum := h.take (m + 1) hk
    have HN := qHd hnum
    clear hnum hne hx0
    have hown := own_lit w 49 w.heap.size #[] [] 0 (Nat.le_refl _) U32.nil rfl (by simp) rfl
    have HO := qHd hown; clear hown
    go_wp2_with (at_builtin; refine qbu Tryz.wordsTy rfl (.tmp 18) (.tmp 21) rfl w.heap.size _ _ [] (l.take (m + 1)) rfl rfl HO.out (HN.out.below ((Below.refl _ _).alloc (Nat.le_refl _) _)) ?e1 ?e2 ?_)
    case e1 => omega
    intro v' w1 h1 h2 h3
    have h4 := h2 w ((Below.refl _ _).alloc (Nat.le_refl _) _)
    go_wp2_with fail
    go_ret
    exact ⟨_, _, rfl, h4, h1, HT.out⟩

theorem rtrim_any (v : Value) (l : List Nat) (w : World) (h : Num w v l) (hl : l.length ≤ 1000000) :
  Calls Tryz.prog 86 #[v] w (RetNum w fun r => r = wd (val l)) := by
 refine (rtrim_own v l w h hl).mono ?_
 rintro e w' ⟨v', l', he, hb, ho, hr⟩
 exact ⟨v', l', he, hb, ho.num, hr⟩

theorem word_any (v : Value) (l : List Nat) (i : Int) (w : World) (h : Num w v l) (h0 : 0 ≤ i) (h1 : i < 9223372036854775807) :
  Calls Tryz.prog 48 #[v, .int .i64 i] w (RetS w (.int .u64 (gd l i.toNat : Nat))) := by
 obtain ⟨ao, c, rfl, hc, hc2, _⟩ := h.shape
 obtain ⟨k, rfl⟩ := Int.eq_ofNat_of_zero_le h0
 by_cases hk : k < l.length
 ·obtain ⟨b, off, rfl, _, hcell⟩ := h.at (by omega)
  have hx := hcell k hk
  have hlt := h.lt k
  clear hcell h
  go_enter Tryz.func48, Tryz.ntmps48
  go_wp2_with fail
  go_ret
  exact ⟨by simp, rfl⟩
 ·have hz := gd_over l k (by omega)
  have HZ := qHd hz; clear hz
  go_enter Tryz.func48, Tryz.ntmps48
  go_wp2_with fail
  go_ret
  exact ⟨by simp [HZ.out], rfl⟩

theorem qdb (v : Value) (l : List Nat) (i : Int) (w : World) (h : Num w v l) (h0 : 0 ≤ i) (h1 : i < 9223372036854775807) :
  Calls Tryz.prog 94 #[v, .int .i64 i] w (RetS w (.int .u64 (gd l i.toNat : Nat))) := by
 obtain ⟨ao, c, rfl, hc, hc2, _⟩ := h.shape
 obtain ⟨k, rfl⟩ := Int.eq_ofNat_of_zero_le h0
 by_cases hk : k < l.length
 ·obtain ⟨b, off, rfl, _, hcell⟩ := h.at (by omega)
  have hx := hcell k hk
  have hlt := h.lt k
  clear hcell h
  go_enter Tryz.func94, Tryz.ntmps94
  go_wp2_with fail
  go_ret
  exact ⟨by simp, rfl⟩
 ·have hz := gd_over l k (by omega)
  have HZ := qHd hz; clear hz
  go_enter Tryz.func94, Tryz.ntmps94
  go_wp2_with fail
  go_ret
  exact ⟨by simp [HZ.out], rfl⟩
theorem qap {B : Nat} {a w : World} (h : Below B a w) (n : Nat) : Below B a (w.drewN n) := h.trans ⟨rfl, rfl, rfl, Nat.le_refl _, fun _ _ => rfl⟩

theorem rcmp_any (va vb : Value) (a b : List Nat) (w : World) (ha : Num w va a) (hb : Num w vb b) (hla : a.length ≤ 1000000) (hlb : b.length ≤ 1000000) :
  Calls Tryz.prog 96 #[va, vb] w (RetS w (.int .i64 (cmpN (val a) (val b)))) := by
 obtain ⟨ao, ca, rfl, hca, hca2, _⟩ := ha.shape
 obtain ⟨bo, cb, rfl, hcb, hcb2, _⟩ := hb.shape
 have HA := qHd ha; have HB := qHd hb; clear ha hb
 obtain ⟨r, hr⟩ : ∃ r, r = cmpN (val a) (val b) := ⟨_, rfl⟩
 rw [← hr]
 have HR := qHd hr; clear hr
 go_enter Tryz.func96, Tryz.ntmps96
 go_wp2_with fail
 go_loop [5] (fun i => ∃ k : Nat, k ≤ max a.length b.length ∧ i = .int .i64 ((k : Int) - 1) ∧ Hid (∀ j, k ≤ j → gd a j = gd b j)) (fun i => (intOf i + 1).toNat)
 case atStart => exact ⟨max a.length b.length, Nat.le_refl _, by go_num, qHd fun j hj => by rw [gd_over _ _ (by omega), gd_over _ _ (by omega)]⟩
 case round =>
  obtain ⟨k, hk, rfl, hz⟩ := hrel
  by_cases hk0 : k = 0
  ·subst hk0
   have hv : r = 0 := by rw [HR.out]; exact cmpN_eq (val_ext fun j => hz.out j (Nat.zero_le _))
   have HV := qHd hv; clear hv
   go_wp2_with fail
   go_ret
   exact ⟨ret_int HV.out.symm, rfl⟩
  ·obtain ⟨m, rfl⟩ : ∃ m, k = m + 1 := ⟨k - 1, by omega⟩
   have hm1 : ((m + 1 : Nat) : Int) - 1 = (m : Int) := by omega
   rw [hm1]
   clear hm1
   have hxa := HA.out.lt m
   have hxb := HB.out.lt m
   obtain ⟨x, hx⟩ : ∃ x, x = gd a m := ⟨_, rfl⟩
   obtain ⟨y, hy⟩ : ∃ y, y = gd b m := ⟨_, rfl⟩
   have hwa := qdb _ a m w HA.out (by omega) (by omega)
   have hwb := qdb _ b m w HB.out (by omega) (by omega)
   rw [Int.toNat_natCast, ← hx] at hwa
   rw [Int.toNat_natCast, ← hy] at hwb
   rw [← hx] at hxa
   rw [← hy] at hxb
   have HWA := qHd hwa; have HWB := qHd hwb; have HX := qHd hx; have HY := qHd hy; clear hwa hwb hx hy
   rcases Nat.lt_trichotomy x y with h1 | h1 | h1
   ·have hv : r = -1 := by rw [HR.out]; exact cmpN_lt (qdh HA.out.lt HB.out.lt m (fun j hj => hz.out j (by omega)) (by rw [← HX.out, ← HY.out]; exact h1))
    have HV := qHd hv; clear hv
    go_wp2_with (first | (go_at_call 94; (with_reducible refine HWA.out.mono ?_); rintro e w' ⟨rfl, rfl⟩) | (go_at_call 94; (with_reducible refine HWB.out.mono ?_); rintro e w' ⟨rfl, rfl⟩))
    go_ret
    exact ⟨ret_int HV.out.symm, rfl⟩
   ·subst h1
    have hzm : ∀ j, m ≤ j → gd a j = gd b j := fun j hj => by
     by_cases hjm : j = m
     ·rw [hjm, ← HX.out, ← HY.out]
     ·exact hz.out j (by omega)
    have HZ := qHd hzm; clear hzm
    go_wp2_with (first | (go_at_call 94; (with_reducible refine HWA.out.mono ?_); rintro e w' ⟨rfl, rfl⟩) | (go_at_call 94; (with_reducible refine HWB.out.mono ?_); rintro e w' ⟨rfl, rfl⟩))
    go_round
    case rel => exact ⟨m, by omega, rfl, HZ⟩
    case measure => simp [intOf]
   ·have hv : r = 1 := by rw [HR.out]; exact cmpN_gt (qdh HB.out.lt HA.out.lt m (fun j hj => (hz.out j (by omega)).symm) (by rw [← HX.out, ← HY.out]; exact h1))
    have HV := qHd hv; clear hv
    go_wp2_with (first | (go_at_call 94; (with_reducible refine HWA.out.mono ?_); rintro e w' ⟨rfl, rfl⟩) | (go_at_call 94; (with_reducible refine HWB.out.mono ?_); rintro e w' ⟨rfl, rfl⟩))
    go_ret
    exact ⟨ret_int HV.out.symm, rfl⟩

theorem cmp_any (va vb : Value) (a b : List Nat) (w : World) (ha : Num w va a) (hb : Num w vb b) (hla : a.length ≤ 1000000) (hlb : b.length ≤ 1000000) :
  Calls Tryz.prog 26 #[va, vb] w (RetV w (.int .i64 (cmpN (val a) (val b)))) := by
 obtain ⟨r, hr⟩ : ∃ r, r = cmpN (val a) (val b) := ⟨_, rfl⟩
 rw [← hr]
 have HR := qHd hr; clear hr
 have hl1 := qbh ha.lt
 have hl2 := qbh hb.lt
 go_enter Tryz.func26, Tryz.ntmps26
 go_wp2_with fail
 (with_reducible refine (qbs _ _ _ ha hla).mono ?_); rintro e w1 ⟨v1, l1, rfl, hb1, hn1, hl1'⟩
 go_wp2_with fail
 (with_reducible refine (qbs _ _ _ (hb.below hb1) hlb).mono ?_); rintro e w2 ⟨v2, l2, rfl, hb2, hn2, hl2'⟩
 have hn1 := hn1.below hb2
 have hb12 := hb1.trans (hb2.mono hb1.size)
 rw [← hl1'] at hl1
 rw [← hl2'] at hl2
 obtain ⟨ao, ca, rfl, hca, hca2, _⟩ := hn1.shape
 obtain ⟨bo, cb, rfl, hcb, hcb2, _⟩ := hn2.shape
 have H1 := qHd hl1'; have H2 := qHd hl2'; have HA := qHd hn1; have HB := qHd hn2
 clear hl1' hl2' hn1 hn2 hb1 hb2 ha hb
 rcases Nat.lt_trichotomy l1.length l2.length with h1 | h1 | h1
 ·have hv : r = -1 := by
   rw [HR.out]; apply cmpN_lt
   rcases Nat.lt_or_ge (val a) (val b) with h | h
   ·exact h
   ·have := qas h; rw [← H1.out, ← H2.out] at this; omega
  have HV := qHd hv; clear hv
  go_wp2_with fail
  go_ret
  exact ⟨ret_int HV.out.symm, hb12⟩
 ·rw [← h1] at hl2 hcb ⊢
  have HB' := HB.out
  rw [← h1] at HB'
  have HBB := qHd HB'; have HL := qHd h1; clear h1 HB'
  go_wp2_with fail
  go_loopw [5] (fun i wx => ∃ k : Nat, k ≤ l1.length ∧ i = .int .i64 ((k : Int) - 1) ∧ Hid (∀ j, k ≤ j → gd l1 j = gd l2 j) ∧ Below w2.heap.size w2 wx) (fun i _ => (intOf i + 1).toNat)
  case atStart => exact ⟨l1.length, Nat.le_refl _, by go_num, qHd fun j hj => by rw [gd_over _ _ (by omega), gd_over _ _ (by rw [← HL.out]; exact hj)], Below.refl _ _⟩
  case round =>
   obtain ⟨k, hk, rfl, hz, hbx⟩ := hrel
   by_cases hk0 : k = 0
   ·subst hk0
    have hv : r = 0 := by
     rw [HR.out]; apply cmpN_eq
     rw [← qao (val a), ← H1.out, ← qao (val b), ← H2.out]; exact val_ext fun j => hz.out j (Nat.zero_le _)
    have HV := qHd hv; clear hv
    go_wp2_with fail
    go_ret
    exact ⟨ret_int HV.out.symm, hb12.trans (hbx.mono hb12.size)⟩
   ·obtain ⟨m, rfl⟩ : ∃ m, k = m + 1 := ⟨k - 1, by omega⟩
    have hm1 : ((m + 1 : Nat) : Int) - 1 = (m : Int) := by omega
    rw [hm1]
    clear hm1
    obtain ⟨b1, o1, rfl, _, hc1⟩ := (HA.out.below hbx).at (by omega)
    obtain ⟨b2, o2, rfl, _, hc2⟩ := (HBB.out.below hbx).at (by omega)
    have hx1 := hc1 m (by omega)
    have hx2 := hc2 m (by omega)
    clear hc1 hc2
    have hxa := HA.out.lt m
    have hxb := HB.out.lt m
    obtain ⟨x, hx⟩ : ∃ x, x = gd l1 m := ⟨_, rfl⟩
    obtain ⟨y, hy⟩ : ∃ y, y = gd l2 m := ⟨_, rfl⟩
    rw [← hx] at hxa hx1
    rw [← hy] at hxb hx2
    have HX := qHd hx; have HY := qHd hy; clear hx hy
    rcases Nat.lt_trichotomy x y with g1 | g1 | g1
    ·have hv : r = -1 := by
      rw [HR.out, ← qao (val a), ← H1.out, ← qao (val b), ← H2.out]
      exact cmpN_lt (qdh HA.out.lt HB.out.lt m (fun j hj => hz.out j (by omega)) (by rw [← HX.out, ← HY.out]; exact g1))
     have HV := qHd hv; clear hv
     go_wp2_with fail
     go_quiet (fail)
     go_wp2_with fail
     go_ret
     exact ⟨ret_int HV.out.symm, hb12.trans ((qap hbx _).mono hb12.size)⟩
    ·subst g1
     have hzm : ∀ j, m ≤ j → gd l1 j = gd l2 j := fun j hj => by
      by_cases hjm : j = m
      ·rw [hjm, ← HX.out, ← HY.out]
      ·exact hz.out j (by omega)
     have HZ := qHd hzm; clear hzm
     go_wp2_with fail
     go_quiet (fail)
     go_wp2_with fail
     go_quiet (fail)
     go_wp2_with fail
     go_roundw
     case rel => exact ⟨m, by omega, rfl, HZ, qap hbx _⟩
     case measure => simp [intOf]
    ·have hv : r = 1 := by
      rw [HR.out, ← qao (val a), ← H1.out, ← qao (val b), ← H2.out]
      exact cmpN_gt (qdh HB.out.lt HA.out.lt m (fun j hj => (hz.out j (by omega)).symm) (by rw [← HX.out, ← HY.out]; exact g1))
     have HV := qHd hv; clear hv
     go_wp2_with fail
     go_quiet (fail)
     go_wp2_with fail
     go_quiet (fail)
     go_wp2_with fail
     go_ret
     exact ⟨ret_int HV.out.symm, hb12.trans ((qap (qap hbx _) _).mono hb12.size)⟩
 ·have hv : r = 1 := by
   rw [HR.out]; apply cmpN_gt
   rcases Nat.lt_or_ge (val b) (val a) with h | h
   ·exact h
   ·have := qas h; rw [← H1.out, ← H2.out] at this; omega
  have HV := qHd hv; clear hv
  go_wp2_with fail
  go_ret
  exact ⟨ret_int HV.out.symm, hb12⟩
theorem of_any (n : Int) (w : World) (h0 : -9223372036854775808 ≤ n) (h1 : n < 9223372036854775808) :
  Calls Tryz.prog 49 #[.int .i64 n] w (RetNum w fun r => r = wd n.toNat) := by
 by_cases hn : n ≤ 0
 ·have hz : n.toNat = 0 := by omega
  have HZ := qHd hz; clear hz
  go_enter Tryz.func49, Tryz.ntmps49
  go_wp2_with fail
  go_ret
  exact ⟨_, [], rfl, Below.refl _ _, Num.nil _, by rw [HZ.out, qbl]⟩
 ·obtain ⟨k, rfl⟩ := Int.eq_ofNat_of_zero_le (show 0 ≤ n by omega)
  have hcv1 : ∀ wx : World, (convert 3 49 (.int .i64 (k : Int))).run Tryz.prog wx = .ok (.int .u32 ((k % 4294967296 : Nat) : Int)) wx := fun wx => by
   rw [run_convert_int (P := Tryz.prog) wx 3 49 .i64 k (by kernel_rfl) (by kernel_rfl)]
   rfl
  have hcv2 : ∀ wx : World, (convert 3 49 (.int .i64 ((k : Int) / 4294967296))).run Tryz.prog wx = .ok (.int .u32 ((k / 4294967296 % 4294967296 : Nat) : Int)) wx := fun wx => by
   rw [run_convert_int (P := Tryz.prog) wx 3 49 .i64 _ (by kernel_rfl) (by kernel_rfl)]
   rfl
  go_enter Tryz.func49, Tryz.ntmps49
  have hk0 : 0 < k := by omega
  have hk1 : k < 9223372036854775808 := by omega
  clear h0 h1 hn
  have hnl := num_lit w 49 #[.int .u32 ((k % 4294967296 : Nat) : Int), .int .u32 ((k / 4294967296 % 4294967296 : Nat) : Int)] [k % 4294967296, k / 4294967296 % 4294967296] 2 (U32.cons (by omega) (U32.cons (by omega) U32.nil)) rfl (by simp) rfl
  have hv : val [k % 4294967296, k / 4294967296 % 4294967296] = k := by simp only [val]; omega
  have htr := qbs _ _ _ hnl (by simp)
  rw [hv] at htr
  have HTR := qHd htr; clear hnl hv htr
  go_wp2_with (go_at_call 44; go_loud ((refine HTR.out.mono ?_)); rintro e w1 ⟨v1, l1, rfl, hb1, hn1, hl1⟩)
  go_ret
  exact ⟨_, _, rfl, ((Below.refl _ _).alloc (Nat.le_refl _) _).trans (hb1.mono (by simp)), hn1, hl1⟩

theorem add_bounds {c x y : Nat} (hc : c ≤ 1) (hx : x < 4294967296) (hy : y < 4294967296) : (c + (x + y)) / 4294967296 ≤ 1 ∧ (c + (x + y)) % 4294967296 < 4294967296 := by omega

theorem add_any (va vb : Value) (a b : List Nat) (w : World) (ha : Num w va a) (hb : Num w vb b) (hla : a.length ≤ 900000) (hlb : b.length ≤ 900000) :
  Calls Tryz.prog 25 #[va, vb] w (RetNum w fun r => r = wd (val a + val b)) := by
 obtain ⟨ao, ca, rfl, hca, hca2, _⟩ := ha.shape
 obtain ⟨bo, cb, rfl, hcb, hcb2, _⟩ := hb.shape
 obtain ⟨n, hn⟩ : ∃ n, n = max a.length b.length + 1 := ⟨_, rfl⟩
 have hnb : n ≤ 900001 := by omega
 have hnb' : n ≤ 70368744177664 := by omega
 have hnz : 0 < n := by omega
 have HN := qHd hn
 have HA := qHd ha; have HB := qHd hb
 clear hn ha hb
 go_enter Tryz.func25, Tryz.ntmps25
 go_wp2_with (at_make; refine qch Tryz.wordsTy rfl _ _ rfl _ _ _ _ n rfl rfl ?c1 ?c2 hnb' ?_)
 case c1 => rw [HN.out]; simp; omega
 case c2 => rw [HN.out]; simp; omega
 intro w1 hO hB hsz
 go_wp2_with fail
 go_loopw [6, 17] (fun c i wr => ∃ (k cc : Nat) (l : List Nat), k ≤ n ∧ i = .int .i64 k ∧ c = .int .u64 cc ∧ cc ≤ 1 ∧ qcg 49 wr w.heap.size (.slice (some ⟨w.heap.size, 0, none⟩) n n) l ∧ Hid (l.length = n) ∧ Below w.heap.size w wr ∧
   Hid (val (l.take k) + 4294967296 ^ k * cc = val (a.take k) + val (b.take k))) (fun _ i _ => n - (intOf i).toNat)
 case atStart => exact ⟨0, 0, _, Nat.zero_le _, rfl, rfl, by omega, hO, qHd (by simp), hB, qHd (by simp [val])⟩
 case round =>
  obtain ⟨k, cc, l, hk, rfl, rfl, hcc, hOr, hll, hBr, hinv⟩ := hrel
  have hak := HA.out.lt k
  have hbk := HB.out.lt k
  have har := qHd (HA.out.below hBr)
  have hbr := qHd (HB.out.below hBr)
  by_cases hkn : k < n
  ·obtain ⟨x, hx⟩ : ∃ x, x = gd a k := ⟨_, rfl⟩
   obtain ⟨y, hy⟩ : ∃ y, y = gd b k := ⟨_, rfl⟩
   have hwa := word_any _ a k wr har.out (by omega) (by omega)
   have hwb := word_any _ b k wr hbr.out (by omega) (by omega)
   rw [Int.toNat_natCast, ← hx] at hwa
   rw [Int.toNat_natCast, ← hy] at hwb
   rw [← hx] at hak
   rw [← hy] at hbk
   have HWA := qHd hwa; have HWB := qHd hwb; have HX := qHd hx; have HY := qHd hy; clear hwa hwb hx hy
   have hcell := hOr.cell hll.out k hkn
   have hfr := hOr.frozen hll.out k
   have HO := qHd hOr
   obtain ⟨s1, s2⟩ := add_bounds hcc hak hbk
   have S2 := qHd s2; have S1 := qHd s1
   clear hOr s1 s2
   go_wp2_with (first | (go_at_call 48; (with_reducible refine HWA.out.mono ?_); rintro e w' ⟨rfl, rfl⟩) | (go_at_call 48; (with_reducible refine HWB.out.mono ?_); rintro e w' ⟨rfl, rfl⟩))
   go_roundw
   case rel =>
    have hst := HO.out.stored hll.out k ((cc + (x + y)) % 4294967296) S2.out
    exact ⟨k + 1, (cc + (x + y)) / 4294967296, l.set k ((cc + (x + y)) % 4294967296), by omega, by go_num, rfl, S1.out, hst, qHd (by rw [List.length_set]; exact hll.out), hBr.setCell (Nat.le_refl _) _,
     qHd (by rw [val_take_set _ _ _ (by rw [hll.out]; exact hkn), Nat.pow_succ, add_step hinv.out, qay, qay, ← HX.out, ← HY.out])⟩
   case measure => simp [intOf]; omega
  ·obtain rfl : k = n := by omega
   have hnum := hOr.num
   have hv : val l = val a + val b := by
    have := hinv.out
    rw [qcw l (by rw [hll.out]; exact Nat.le_refl _), qcw a (by rw [HN.out]; omega), qcw b (by rw [HN.out]; omega)] at this
    exact add_end HA.out.lt HB.out.lt (by rw [HN.out]; omega) this
   have htr := qbs _ _ _ hnum (by rw [hll.out]; omega)
   rw [hv] at htr
   have HT := qHd htr; clear hnum hv htr
   have HL := hll.out
   go_wp2_with (go_at_call 44; (with_reducible refine HT.out.mono ?_); rintro e w' ⟨v', l', rfl, hB', hN', hl'⟩)
   go_ret
   exact ⟨_, _, rfl, hBr.trans (hB'.mono hBr.size), hN', hl'⟩
theorem cmpN_nlt {m n : Nat} (h : n ≤ m) : decide (cmpN m n < 0) = false := by
 unfold cmpN; rw [if_neg (by omega)]; split <;> rfl
theorem cmpN_islt {m n : Nat} (h : m < n) : decide (cmpN m n < 0) = true := by
 unfold cmpN; rw [if_pos h]; rfl
def errV (c : Nat) : Value := if c = 0 then .nilIface else .iface 34 (.int .i64 c)
theorem qcm : errV 0 = .nilIface := rfl
theorem errV_pos {c : Nat} (h : c ≠ 0) : errV c = .iface 34 (.int .i64 c) := by simp [errV, h]
def RetNE (w : World) (n : Nat) (er : Value) (e : Ending) (w' : World) : Prop := ∃ v, e = .returned (.tuple #[v, er]) ∧ Below w.heap.size w w' ∧ Num w' v (wd n)
def RetNEO (w : World) (n : Nat) (er : Value) (e : Ending) (w' : World) : Prop := ∃ v, e = .returned (.tuple #[v, er]) ∧ Below w.heap.size w w' ∧ qcg 49 w' w.heap.size v (wd n)
theorem num_one (w : World) (e : TypeId) (x : Nat) (hx : x < 4294967296) : Num (w.alloc (.cells #[.int .u32 x] e)) (.slice (some ⟨w.heap.size, 0, none⟩) 1 1) [x] :=
 num_lit w e _ [x] 1 (U32.cons hx U32.nil) rfl (by simp) rfl

def subW (x y r : Nat) : Nat := if y + r ≤ x then x - y - r else 18446744073709551616 + x - y - r
theorem subW_lt {x y r : Nat} (hx : x < 4294967296) (hy : y < 4294967296) (hr : r ≤ 1) : subW x y r < 18446744073709551616 := by unfold subW; split <;> omega
theorem subW_wrap {x y r : Nat} (hx : x < 4294967296) (hy : y < 4294967296) (hr : r ≤ 1) : IntKind.u64.wrap (IntKind.u64.wrap ((x : Int) - y) - r) = (subW x y r : Nat) := by
 have e : ∀ n : Int, IntKind.u64.wrap n = n % 18446744073709551616 := fun n => rfl
 rw [e, e]; unfold subW; split <;> omega
theorem subW_borrow {x y r : Nat} (hx : x < 4294967296) (hy : y < 4294967296) (hr : r ≤ 1) : subW x y r / 9223372036854775808 ≤ 1 ∧
  subW x y r % 4294967296 + y + r = x + 4294967296 * (subW x y r / 9223372036854775808) := by unfold subW; split <;> omega

theorem sub_ge (va vb : Value) (a b : List Nat) (w : World) (ha : Num w va a) (hb : Num w vb b) (hla : a.length ≤ 900000) (hlb : b.length ≤ 900000) (hge : val b ≤ val a) :
  Calls Tryz.prog 27 #[va, vb] w (RetNE w (val a - val b) (errV 0)) := by
 have hcmp := cmp_any va vb a b w ha hb (by omega) (by omega)
 obtain ⟨cr, hcr⟩ : ∃ cr, cr = cmpN (val a) (val b) := ⟨_, rfl⟩
 have hcr0 : decide (cr < 0) = false := by rw [hcr]; exact cmpN_nlt hge
 rw [← hcr] at hcmp
 have HC := qHd hcmp; clear hcmp hcr
 obtain ⟨ao, ca, rfl, hca, hca2, _⟩ := ha.shape
 obtain ⟨bo, cb, rfl, hcb, hcb2, _⟩ := hb.shape
 obtain ⟨n, hn⟩ : ∃ n, n = a.length := ⟨_, rfl⟩
 have hnb : n ≤ 900000 := by omega
 have hnb' : n ≤ 70368744177664 := by omega
 have HN := qHd hn
 have HA := qHd ha; have HB := qHd hb
 clear hn ha hb
 rw [qcm]
 go_enter Tryz.func27, Tryz.ntmps27
 go_wp2_with fail
 (with_reducible refine HC.out.mono ?_); rintro e w0 ⟨rfl, hb0⟩
 go_wp2_with (at_make; refine qch Tryz.wordsTy rfl _ _ rfl _ _ _ _ n rfl rfl ?c1 ?c2 hnb' ?_)
 case c1 => rw [HN.out]
 case c2 => rw [HN.out]
 intro w1 hO hB hsz
 have hB01 := hb0.trans (hB.mono hb0.size)
 have hOb := hO.base hb0.size
 clear hO hB
 go_wp2_with fail
 go_loopw [7, 9, 20] (fun c d i wr => ∃ (k cc : Nat) (l : List Nat), k ≤ n ∧ i = .int .i64 k ∧ c = .int .u64 cc ∧ cc ≤ 1 ∧ qcg 49 wr w.heap.size (.slice (some ⟨w0.heap.size, 0, none⟩) n n) l ∧ Hid (l.length = n) ∧ Below w.heap.size w wr ∧
   Hid (val (l.take k) + val (b.take k) = val (a.take k) + 4294967296 ^ k * cc)) (fun _ _ i _ => n - (intOf i).toNat)
 case atStart => exact ⟨0, 0, _, Nat.zero_le _, rfl, rfl, by omega, hOb, qHd (by simp), hB01, qHd (by simp [val])⟩
 case round =>
  obtain ⟨k, cc, l, hk, rfl, rfl, hcc, hOr, hll, hBr, hinv⟩ := hrel
  have hak := HA.out.lt k
  have hbk := HB.out.lt k
  have har := qHd (HA.out.below hBr)
  have hbr := qHd (HB.out.below hBr)
  by_cases hkn : k < n
  ·obtain ⟨x, hx⟩ : ∃ x, x = gd a k := ⟨_, rfl⟩
   obtain ⟨y, hy⟩ : ∃ y, y = gd b k := ⟨_, rfl⟩
   have hwa := word_any _ a k wr har.out (by omega) (by omega)
   have hwb := word_any _ b k wr hbr.out (by omega) (by omega)
   rw [Int.toNat_natCast, ← hx] at hwa
   rw [Int.toNat_natCast, ← hy] at hwb
   rw [← hx] at hak
   rw [← hy] at hbk
   have HWA := qHd hwa; have HWB := qHd hwb; have HX := qHd hx; have HY := qHd hy; clear hwa hwb hx hy
   have hcell := hOr.cell hll.out k hkn
   have hfr := hOr.frozen hll.out k
   have HO := qHd hOr
   have hsw := subW_wrap hak hbk hcc
   have hslt := subW_lt hak hbk hcc
   have hsb := subW_borrow hak hbk hcc
   obtain ⟨d, hd⟩ : ∃ d, d = subW x y cc := ⟨_, rfl⟩
   rw [← hd] at hsw hslt hsb
   obtain ⟨s1, s2⟩ := hsb
   have S2 := qHd s2; have S1 := qHd s1
   have hdm : d % 4294967296 < 4294967296 := Nat.mod_lt _ (by decide)
   have HDM := qHd hdm
   clear hOr s1 s2 hd hdm
   have hcell' := hcell
   go_wp2_with (first | (go_at_call 48; (with_reducible refine HWA.out.mono ?_); rintro e w' ⟨rfl, rfl⟩) | (go_at_call 48; (with_reducible refine HWB.out.mono ?_); rintro e w' ⟨rfl, rfl⟩))
   go_roundw
   case rel =>
    have hst := HO.out.stored hll.out k (d % 4294967296) HDM.out
    exact ⟨k + 1, d / 9223372036854775808, l.set k (d % 4294967296), by omega, by go_num, rfl, S1.out, hst, qHd (by rw [List.length_set]; exact hll.out), hBr.setCell hb0.size _,
     qHd (by rw [val_take_set _ _ _ (by rw [hll.out]; exact hkn), Nat.pow_succ, qay, qay, ← HX.out, ← HY.out]; exact sub_step hinv.out S2.out)⟩
   case measure => simp [intOf]; omega
  ·obtain rfl : k = n := by omega
   have hnum := hOr.num
   have hv : val l = val a - val b := by
    have hi := hinv.out
    have hlt := qct (hOr.lt)
    have halt := qct HA.out.lt
    rw [hll.out] at hlt
    rw [← HN.out] at halt
    rw [qcw l (by rw [hll.out]; exact Nat.le_refl _), qcw a (by rw [HN.out]; omega), val_take HB.out.lt, Nat.mod_eq_of_lt (by omega)] at hi
    exact sub_end hlt hi hge hcc
   have htr := qbs _ _ _ hnum (by rw [hll.out]; omega)
   rw [hv] at htr
   have HT := qHd htr; clear hnum hv htr
   have HL := hll.out
   go_wp2_with (go_at_call 44; (with_reducible refine HT.out.mono ?_); rintro e w' ⟨v', l', rfl, hB', hN', hl'⟩)
   go_ret2
   exact ⟨_, rfl, hBr.trans (hB'.mono hBr.size), by rw [← hl']; exact hN'⟩
theorem rsub_own (va vb : Value) (a b : List Nat) (w : World) (ha : Num w va a) (hb : Num w vb b) (hla : a.length ≤ 900000) (hlb : b.length ≤ 900000) (hge : val b ≤ val a) :
  Calls Tryz.prog 97 #[va, vb] w (RetNEO w (val a - val b) (.int .i64 0)) := by
 have hcmp := rcmp_any va vb a b w ha hb (by omega) (by omega)
 obtain ⟨cr, hcr⟩ : ∃ cr, cr = cmpN (val a) (val b) := ⟨_, rfl⟩
 have hcr0 : decide (cr < 0) = false := by rw [hcr]; exact cmpN_nlt hge
 rw [← hcr] at hcmp
 have HC := qHd hcmp; clear hcmp hcr
 obtain ⟨ao, ca, rfl, hca, hca2, _⟩ := ha.shape
 obtain ⟨bo, cb, rfl, hcb, hcb2, _⟩ := hb.shape
 obtain ⟨n, hn⟩ : ∃ n, n = a.length := ⟨_, rfl⟩
 have hni : (a.length : Int) = (n : Int) := by omega
 have HNI := qHd hni; clear hni
 have hnb : n ≤ 900000 := by omega
 have hnb' : n ≤ 70368744177664 := by omega
 have HN := qHd hn
 have HA := qHd ha; have HB := qHd hb
 clear hn ha hb
 go_enter Tryz.func97, Tryz.ntmps97
 go_wp2_with (go_at_call 96; (with_reducible refine HC.out.mono ?_); rintro e w0 ⟨rfl, rfl⟩)
 go_loopw [6, 7, 9, 16] (fun v c d i wr => ∃ (k cc : Nat) (l : List Nat), k ≤ n ∧ i = .int .i64 k ∧ c = .int .u64 cc ∧ cc ≤ 1 ∧ qcg 49 wr w.heap.size v l ∧ Hid (l.length = k) ∧ Below w.heap.size w wr ∧
   Hid (val l + val (b.take k) = val (a.take k) + 4294967296 ^ k * cc)) (fun _ _ _ i _ => n - (intOf i).toNat)
 case atStart => exact ⟨0, 0, [], Nat.zero_le _, rfl, rfl, by omega, qcg.nil _ _ _, qHd rfl, Below.refl _ _, qHd (by simp [val])⟩
 case round =>
  obtain ⟨k, cc, l, hk, rfl, rfl, hcc, hOr, hll, hBr, hinv⟩ := hrel
  have hak := HA.out.lt k
  have hbk := HB.out.lt k
  have har := qHd (HA.out.below hBr)
  have hbr := qHd (HB.out.below hBr)
  by_cases hkn : k < n
  ·have hkl : k < a.length := by rw [← HN.out]; exact hkn
   obtain ⟨x, hx⟩ : ∃ x, x = gd a k := ⟨_, rfl⟩
   obtain ⟨y, hy⟩ : ∃ y, y = gd b k := ⟨_, rfl⟩
   have hwa := qdb _ a k wr har.out (by omega) (by omega)
   have hwb := qdb _ b k wr hbr.out (by omega) (by omega)
   rw [Int.toNat_natCast, ← hx] at hwa
   rw [Int.toNat_natCast, ← hy] at hwb
   rw [← hx] at hak
   rw [← hy] at hbk
   have HWA := qHd hwa; have HWB := qHd hwb; have HX := qHd hx; have HY := qHd hy; clear hwa hwb hx hy
   have hszr := hBr.size
   have HO := qHd hOr
   have hsw := subW_wrap hak hbk hcc
   have hslt := subW_lt hak hbk hcc
   have hsb := subW_borrow hak hbk hcc
   obtain ⟨d, hd⟩ : ∃ d, d = subW x y cc := ⟨_, rfl⟩
   rw [← hd] at hsw hslt hsb
   obtain ⟨s1, s2⟩ := hsb
   have S2 := qHd s2; have S1 := qHd s1
   have hdm : d % 4294967296 < 4294967296 := Nat.mod_lt _ (by decide)
   have HDM := qHd hdm
   have h1 := num_one wr 49 (d % 4294967296) hdm
   have H1 := qHd h1
   clear hOr s1 s2 hd hdm h1
   go_wp2_with (first | (go_at_call 94; (with_reducible refine HWA.out.mono ?_); rintro e w' ⟨rfl, rfl⟩) | (go_at_call 94; (with_reducible refine HWB.out.mono ?_); rintro e w' ⟨rfl, rfl⟩) |
    (at_builtin; refine qbu Tryz.wordsTy rfl (.tmp 28) (.tmp 31) rfl w.heap.size _ _ l [d % 4294967296] rfl rfl (HO.out.alloc _) H1.out ?c1 ?c2 ?_))
   case c1 => rw [hll.out]; simp; omega
   case c2 => simp; omega
   intro v' w1 h1 h2 h3
   have h4 := h2 w (hBr.alloc hszr _)
   go_wp2_with fail
   go_roundw
   case rel =>
    exact ⟨k + 1, d / 9223372036854775808, l ++ [d % 4294967296], by omega, by go_num, rfl, S1.out, h1, qHd (by rw [List.length_append, hll.out]; rfl), h4,
     qHd (by rw [val_snoc, hll.out, Nat.pow_succ, qay, qay, ← HX.out, ← HY.out]; exact sub_step hinv.out S2.out)⟩
   case measure => simp [intOf]; omega
  ·have hkl : ¬ k < a.length := by rw [← HN.out]; exact hkn
   obtain rfl : k = n := by omega
   have hnum := hOr.num
   have hv : val l = val a - val b := by
    have hi := hinv.out
    have hlt := qct (hOr.lt)
    have halt := qct HA.out.lt
    rw [hll.out] at hlt
    rw [← HN.out] at halt
    rw [qcw a (by rw [HN.out]; omega), val_take HB.out.lt, Nat.mod_eq_of_lt (by omega)] at hi
    exact sub_end hlt hi hge hcc
   have htr := rtrim_own _ _ _ hnum (by rw [hll.out]; omega)
   rw [hv] at htr
   have HT := qHd htr; clear hnum hv htr
   have HL := hll.out
   go_wp2_with (go_at_call 86; (with_reducible refine HT.out.mono ?_); rintro e w' ⟨v', l', rfl, hB', hN', hl'⟩)
   go_ret2
   exact ⟨_, rfl, hBr.trans (hB'.mono hBr.size), by rw [← hl']; exact hN'.base hBr.size⟩
theorem rsub_ge (va vb : Value) (a b : List Nat) (w : World) (ha : Num w va a) (hb : Num w vb b) (hla : a.length ≤ 900000) (hlb : b.length ≤ 900000) (hge : val b ≤ val a) :
  Calls Tryz.prog 97 #[va, vb] w (RetNE w (val a - val b) (.int .i64 0)) := by
 refine (rsub_own va vb a b w ha hb hla hlb hge).mono ?_
 rintro e w' ⟨v, he, hbb, ho⟩
 exact ⟨v, he, hbb, ho.num⟩
theorem mul_any (va vb : Value) (a b : List Nat) (w : World) (ha : Num w va a) (hb : Num w vb b) (hla : a.length ≤ 450000) (hlb : b.length ≤ 450000) :
  Calls Tryz.prog 23 #[va, vb] w (RetNum w fun r => r = wd (val a * val b)) := by
 obtain ⟨ao, ca, rfl, hca, hca2, _⟩ := ha.shape
 obtain ⟨bo, cb, rfl, hcb, hcb2, _⟩ := hb.shape
 obtain ⟨n, hn⟩ : ∃ n, n = a.length + b.length := ⟨_, rfl⟩
 have hnb : n ≤ 900000 := by omega
 have hnb' : n ≤ 70368744177664 := by omega
 have hna : a.length + b.length ≤ n := by omega
 have HN := qHd hn
 have HA := qHd ha; have HB := qHd hb
 clear hn ha hb
 go_enter Tryz.func23, Tryz.ntmps23
 go_wp2_with (at_make; refine qch Tryz.wordsTy rfl _ _ rfl _ _ _ _ n rfl rfl ?c1 ?c2 hnb' ?_)
 case c1 => rw [HN.out]; rfl
 case c2 => rw [HN.out]; rfl
 intro w1 hO hB hsz
 go_wp2_with fail
 go_loopw [19] (fun iv wr => ∃ (i : Nat) (l : List Nat), i ≤ a.length ∧ iv = .int .i64 i ∧ qcg 49 wr w.heap.size (.slice (some ⟨w.heap.size, 0, none⟩) n n) l ∧ Hid (l.length = n) ∧ Below w.heap.size w wr ∧
   Hid (val l = val (a.take i) * val b)) (fun i _ => a.length - (intOf i).toNat)
 case atStart => exact ⟨0, _, Nat.zero_le _, rfl, hO, qHd (by simp), hB, qHd (by simp [val, val_zeros])⟩
 case round =>
  obtain ⟨i, l, hi, rfl, hOr, hll, hBr, hinv⟩ := hrel
  obtain ⟨wo, rfl⟩ : ∃ wo : World, wo = wr := ⟨_, rfl⟩
  by_cases hin : i < a.length
  ·have har := HA.out.below hBr
   obtain ⟨ba, oa, rfl, _, hca⟩ := har.at (by omega)
   have hx := hca i hin
   have hxl := HA.out.lt i
   obtain ⟨x, hxe⟩ : ∃ x, x = gd a i := ⟨_, rfl⟩
   rw [← hxe] at hx hxl
   have hz := gd_zero_of_lt hOr.lt (n := i + b.length) (by rw [hinv.out]; exact mul_lt HA.out.lt HB.out.lt i)
   have HZ := qHd hz
   have HX := qHd hxe; have HO := qHd hOr; have HAR := qHd har
   clear hxe hOr har hca hz
   go_wp2_with fail
   go_loopw [8, 26] (fun cv kv wr => ∃ (k c : Nat) (m : List Nat), k ≤ b.length ∧ kv = .int .i64 k ∧ cv = .int .u64 c ∧ c < 4294967296 ∧ qcg 49 wr w.heap.size (.slice (some ⟨w.heap.size, 0, none⟩) n n) m ∧ Hid (m.length = n) ∧ Below w.heap.size w wr ∧
     Hid (val m + 4294967296 ^ (i + k) * c = val (a.take i) * val b + 4294967296 ^ i * (x * val (b.take k))) ∧ Hid (∀ j, i + b.length ≤ j → gd m j = 0)) (fun _ k _ => b.length - (intOf k).toNat)
   case atStart => exact ⟨0, 0, l, Nat.zero_le _, rfl, rfl, by omega, HO.out, hll, hBr, qHd (by rw [hinv.out]; simp [val]), HZ⟩
   case round =>
    obtain ⟨k, c, m, hk, rfl, rfl, hc, hOm, hml, hBm, hinm, hzm⟩ := hrel
    by_cases hkn : k < b.length
    ·have hbr := HB.out.below hBm
     obtain ⟨bb, ob, rfl, _, hcb⟩ := hbr.at (by omega)
     have hy := hcb k hkn
     have hyl := HB.out.lt k
     obtain ⟨y, hye⟩ : ∃ y, y = gd b k := ⟨_, rfl⟩
     rw [← hye] at hy hyl
     have hik : i + k < n := by omega
     have hcell := hOm.cell hml.out (i + k) hik
     have hfr := hOm.frozen hml.out (i + k)
     have hol := hOm.lt (i + k)
     obtain ⟨o, hoe⟩ : ∃ o, o = gd m (i + k) := ⟨_, rfl⟩
     rw [← hoe] at hcell hol
     obtain ⟨p, hpe⟩ : ∃ p, p = x * y := ⟨_, rfl⟩
     have hpi : (x : Int) * (y : Int) = (p : Int) := by rw [hpe]; rfl
     have hpl := word_mul hxl hyl
     rw [← hpe] at hpl
     obtain ⟨s1, s2⟩ := mul_bounds hc hpl hol
     have HY := qHd hye; have HO := qHd hOm; have HOE := qHd hoe; have HPE := qHd hpe; have S1 := qHd s1; have S2 := qHd s2
     clear hye hOm hoe hpe hbr hcb s1 s2
     go_wp2_with fail
     go_roundw
     case rel =>
      have hst := HO.out.stored hml.out (i + k) ((c + (p + o)) % 4294967296) S2.out
      have hvs := val_set m (i + k) ((c + (p + o)) % 4294967296) (by rw [hml.out]; exact hik)
      rw [← HOE.out] at hvs
      refine ⟨k + 1, (c + (p + o)) / 4294967296, m.set (i + k) ((c + (p + o)) % 4294967296), by omega, by go_num, rfl, S1.out, hst, qHd (by rw [List.length_set]; exact hml.out), hBm.setCell (Nat.le_refl _) _, qHd ?_, qHd ?_⟩
      ·have h3 := mul_step hinm.out rfl hvs
       have e5 : i + (k + 1) = (i + k) + 1 := rfl
       rw [e5, Nat.pow_succ, h3, Nat.pow_add, HPE.out]
       exact mul_row _ _ _ _ _ _ HY.out
      ·intro j hj
       rw [gd_set, if_neg (by omega)]; exact hzm.out j hj
     case measure => simp [intOf]; omega
    ·obtain rfl : k = b.length := by omega
     have hik : i + b.length < n := by omega
     have hcell := hOm.cell hml.out (i + b.length) hik
     have hfr := hOm.frozen hml.out (i + b.length)
     have HO := qHd hOm
     have hcm : c % 4294967296 = c := Nat.mod_eq_of_lt hc
     have hci : (c : Int) % 4294967296 = (c : Int) := by omega
     have HCM := qHd hcm
     clear hOm hcm
     go_wp2_with fail
     go_roundw
     case rel =>
      have hst := HO.out.stored hml.out (i + b.length) c hc
      have hvs := val_set m (i + b.length) c (by rw [hml.out]; exact hik)
      rw [hzm.out _ (Nat.le_refl _)] at hvs
      refine ⟨i + 1, m.set (i + b.length) c, by omega, by go_num, hst, qHd (by rw [List.length_set]; exact hml.out), hBm.setCell (Nat.le_refl _) _, qHd ?_⟩
      have h3 := hinm.out
      rw [List.take_of_length_le (Nat.le_refl _), mul_rows _ _ _ _ HX.out] at h3
      omega
     case measure => simp [intOf]; omega
  ·obtain rfl : i = a.length := by omega
   have hnum := hOr.num
   have htr := qbs _ _ _ hnum (by rw [hll.out]; omega)
   rw [hinv.out, List.take_of_length_le (Nat.le_refl _)] at htr
   have HT := qHd htr; clear hnum htr
   have HL := hll.out
   go_wp2_with (go_at_call 44; (with_reducible refine HT.out.mono ?_); rintro e w' ⟨v', l', rfl, hB', hN', hl'⟩)
   go_ret
   exact ⟨_, _, rfl, hBr.trans (hB'.mono hBr.size), hN', hl'⟩
theorem rmul_any (va vb : Value) (a b : List Nat) (w : World) (ha : Num w va a) (hb : Num w vb b) (hla : a.length ≤ 450000) (hlb : b.length ≤ 450000) :
  Calls Tryz.prog 95 #[va, vb] w (RetNum w fun r => r = wd (val a * val b)) := by
 obtain ⟨ao, ca, rfl, hca, hca2, _⟩ := ha.shape
 obtain ⟨bo, cb, rfl, hcb, hcb2, _⟩ := hb.shape
 obtain ⟨n, hn⟩ : ∃ n, n = a.length + b.length + 1 := ⟨_, rfl⟩
 have hnb : n ≤ 900001 := by omega
 have hnb' : n ≤ 70368744177664 := by omega
 have hna : a.length + b.length < n := by omega
 have HN := qHd hn
 have HA := qHd ha; have HB := qHd hb
 clear hn ha hb
 go_enter Tryz.func95, Tryz.ntmps95
 go_wp2_with (at_make; refine qch Tryz.wordsTy rfl _ _ rfl _ _ _ _ n rfl rfl ?c1 ?c2 hnb' ?_)
 case c1 => rw [HN.out]; rfl
 case c2 => rw [HN.out]; rfl
 intro w1 hO hB hsz
 go_wp2_with fail
 go_loopw [20] (fun iv wr => ∃ (i : Nat) (l : List Nat), i ≤ a.length ∧ iv = .int .i64 i ∧ qcg 49 wr w.heap.size (.slice (some ⟨w.heap.size, 0, none⟩) n n) l ∧ Hid (l.length = n) ∧ Below w.heap.size w wr ∧
   Hid (val l = val (a.take i) * val b)) (fun i _ => a.length - (intOf i).toNat)
 case atStart => exact ⟨0, _, Nat.zero_le _, rfl, hO, qHd (by simp), hB, qHd (by simp [val, val_zeros])⟩
 case round =>
  obtain ⟨i, l, hi, rfl, hOr, hll, hBr, hinv⟩ := hrel
  obtain ⟨wo, rfl⟩ : ∃ wo : World, wo = wr := ⟨_, rfl⟩
  by_cases hin : i < a.length
  ·have har := HA.out.below hBr
   obtain ⟨ba, oa, rfl, _, hca⟩ := har.at (by omega)
   have hx := hca i hin
   have hxl := HA.out.lt i
   obtain ⟨x, hxe⟩ : ∃ x, x = gd a i := ⟨_, rfl⟩
   rw [← hxe] at hx hxl
   have HX := qHd hxe; have HO := qHd hOr; have HAR := qHd har
   clear hxe hOr har hca
   go_wp2_with fail
   go_loopw [8, 28] (fun cv kv wr => ∃ (k c : Nat) (m : List Nat), k ≤ b.length + 1 ∧ kv = .int .i64 k ∧ cv = .int .u64 c ∧ c < 4294967296 ∧ qcg 49 wr w.heap.size (.slice (some ⟨w.heap.size, 0, none⟩) n n) m ∧ Hid (m.length = n) ∧ Below w.heap.size w wr ∧
     Hid (val m + 4294967296 ^ (i + k) * c = val (a.take i) * val b + 4294967296 ^ i * (x * val (b.take k)))) (fun _ k _ => b.length + 1 - (intOf k).toNat)
   case atStart => exact ⟨0, 0, l, Nat.zero_le _, rfl, rfl, by omega, HO.out, hll, hBr, qHd (by rw [hinv.out]; simp [val])⟩
   case round =>
    obtain ⟨k, c, m, hk, rfl, rfl, hc, hOm, hml, hBm, hinm⟩ := hrel
    by_cases hkn : k < b.length + 1
    ·have hbr := qHd (HB.out.below hBm)
     have hyl := HB.out.lt k
     obtain ⟨y, hye⟩ : ∃ y, y = gd b k := ⟨_, rfl⟩
     have hwb : ∀ nq, Calls Tryz.prog 94 #[.slice bo b.length cb, .int .i64 k] (wr.drewN nq) (RetS (wr.drewN nq) (.int .u64 (y : Nat))) := fun nq => by
      have h := qdb _ b k (wr.drewN nq) (hbr.out.below (qap (Below.refl _ _) nq)) (by omega) (by omega)
      rw [Int.toNat_natCast, ← hye] at h; exact h
     have HWB := qHd hwb
     rw [← hye] at hyl
     have hik : i + k < n := by omega
     have hcell := hOm.cell hml.out (i + k) hik
     have hfr := hOm.frozen hml.out (i + k)
     have hol := hOm.lt (i + k)
     obtain ⟨o, hoe⟩ : ∃ o, o = gd m (i + k) := ⟨_, rfl⟩
     rw [← hoe] at hcell hol
     obtain ⟨p, hpe⟩ : ∃ p, p = x * y := ⟨_, rfl⟩
     have hpi : (x : Int) * (y : Int) = (p : Int) := by rw [hpe]; rfl
     have hpl := word_mul hxl hyl
     rw [← hpe] at hpl
     obtain ⟨s1, s2⟩ := mul_bounds hc hpl hol
     have e1 : c + (p + o) = p + o + c := by omega
     have E1 := qHd e1
     rw [e1] at s1 s2
     clear e1
     have HY := qHd hye; have HO := qHd hOm; have HOE := qHd hoe; have HPE := qHd hpe; have S1 := qHd s1; have S2 := qHd s2
     clear hye hOm hoe hpe hwb s1 s2
     go_wp2_with fail
     go_quiet ((go_at_call 94; exact Calls.quiet_of_same (ret_quiet (HWB.out _))))
     go_wp2_with fail
     go_roundw
     case rel =>
      have hst := (HO.out.below (qap (Below.refl _ _) nq)).stored hml.out (i + k) ((p + o + c) % 4294967296) S2.out
      have hvs := val_set m (i + k) ((p + o + c) % 4294967296) (by rw [hml.out]; exact hik)
      rw [← HOE.out] at hvs
      refine ⟨k + 1, (p + o + c) / 4294967296, m.set (i + k) ((p + o + c) % 4294967296), by omega, by go_num, rfl, S1.out, hst, qHd (by rw [List.length_set]; exact hml.out), (qap hBm nq).setCell (Nat.le_refl _) _, qHd ?_⟩
      ·have h3 := mul_step hinm.out E1.out.symm hvs
       have e5 : i + (k + 1) = (i + k) + 1 := rfl
       rw [e5, Nat.pow_succ, h3, Nat.pow_add, HPE.out]
       exact mul_row _ _ _ _ _ _ HY.out
     case measure => simp [intOf]; omega
    ·obtain rfl : k = b.length + 1 := by omega
     go_wp2_with fail
     go_roundw
     case rel =>
      refine ⟨i + 1, m, by omega, by go_num, hOm, hml, hBm, qHd ?_⟩
      have h3 := hinm.out
      rw [List.take_of_length_le (Nat.le_succ _), mul_rows _ _ _ _ HX.out] at h3
      have h4 := mul_lt HA.out.lt HB.out.lt (i + 1)
      rw [show i + 1 + b.length = i + (b.length + 1) from by omega] at h4
      exact mul_spent h3 h4
     case measure => simp [intOf]; omega
  ·obtain rfl : i = a.length := by omega
   have hnum := hOr.num
   have htr := rtrim_any _ _ _ hnum (by rw [hll.out]; omega)
   rw [hinv.out, List.take_of_length_le (Nat.le_refl _)] at htr
   have HT := qHd htr; clear hnum htr
   have HL := hll.out
   go_wp2_with (go_at_call 86; (with_reducible refine HT.out.mono ?_); rintro e w' ⟨v', l', rfl, hB', hN', hl'⟩)
   go_ret
   exact ⟨_, _, rfl, hBr.trans (hB'.mono hBr.size), hN', hl'⟩
end Go.Proofs.YtblekfkmianmeaaGreatDoor
namespace Go.Proofs
open Go.Shelf
def Tryz.lays169_ren : Go.Shelf.Ren := ⟨fun | 169 => 62 | n => n, fun | 70 => 105 | 9 => 9 | 0 => 0 | 72 => 108 | 37 => 106 | 127 => 132 | 3 => 3 | 5 => 5 | n => n, fun | n => n⟩
theorem Tryz.lays169 : Go.Proofs.Lays.n169 Tryz.prog Tryz.lays169_ren := {
 mixed := by kernel_rfl
 f169 := Tryz.func62.trans (congrArg some (by kernel_rfl))
 t0 := Tryz.underlying0
 a0 := Tryz.isAgg0
 z0 := Tryz.sizeOf0
 v0 := Tryz.zeroValue0
 t3 := Tryz.underlying3
 a3 := Tryz.isAgg3
 z3 := Tryz.sizeOf3
 v3 := Tryz.zeroValue3
 t9 := Tryz.underlying9
 a9 := Tryz.isAgg9
 z9 := Tryz.sizeOf9
 v9 := Tryz.zeroValue9
 t37 := Tryz.underlying106
 a37 := Tryz.isAgg106
 z37 := Tryz.sizeOf106
 v37 := Tryz.zeroValue106
 t70 := Tryz.underlying105
 a70 := Tryz.isAgg105
 z70 := Tryz.sizeOf105
 v70 := Tryz.zeroValue105
 t72 := Tryz.underlying108
 a72 := Tryz.isAgg108
 z72 := Tryz.sizeOf108
 v72 := Tryz.zeroValue108
 t127 := Tryz.underlying132
 a127 := Tryz.isAgg132
 z127 := Tryz.sizeOf132
 v127 := Tryz.zeroValue132 }
theorem Tryz.Builder_Extra_169 : Builder.Extra Tryz.prog Tryz.lays169_ren := {
 sizeBuilder := by kernel_rfl
 liesBuilder := by kernel_rfl
 t5 := Tryz.underlying5
 a5 := Tryz.isAgg5
 z5 := Tryz.sizeOf5
 v5 := Tryz.zeroValue5
 infoByte := by kernel_rfl
 cellsByte := by kernel_rfl
 sizeByte := by kernel_rfl
 neB5 := by decide }
open Go.RowKit in
/-- (*strings.Builder).String: "String returns the accumulated string.": WHATEVER THE BUILDER HOLDS. (LAID: no walk: one application.) -/
theorem Tryz.Builder_String_any (B b : Nat) (l : List UInt8) (w : World) (h : Lib.IsBuilder 108 5 B b (Lib.byteCells l) w) (hBw : B ≤ w.heap.size) :
  Calls Tryz.prog 62 #[.pointer (some ⟨b, 0, none⟩)] w fun e w' => e = .returned (.string ⟨l.toArray⟩) ∧ Below B w w' := Any.Builder_String_any Tryz.lays169 Tryz.Builder_Extra_169 B b l w h hBw
def Tryz.lays161_ren : Go.Shelf.Ren := ⟨fun | 161 => 61 | 231 => 82 | 227 => 83 | 233 => 84 | 235 => 85 | 228 => 90 | 197 => 91 | 151 => 92 | 260 => 99 | 152 => 100 | 137 => 101 | 119 => 102 | 224 => 103 | 225 => 104 | 217 => 105 | 266 => 106 | n => n, fun | 9 => 9 | 4 => 4 | 3 => 3 | 5 => 5 | 117 => 128 | 116 => 127 | 0 => 0 | 124 => 131 | 105 => 139 | 21 => 21 | 119 => 145 | 46 => 83 | 139 => 148 | 138 => 147 | n => n, fun | 3 => 0 | 4 => 1 | n => n⟩
theorem Tryz.lays161 : Go.Proofs.Lays.n161 Tryz.prog Tryz.lays161_ren := {
 mixed := by kernel_rfl
 f119 := Tryz.func102.trans (congrArg some (by kernel_rfl))
 f137 := Tryz.func101.trans (congrArg some (by kernel_rfl))
 f151 := Tryz.func92.trans (congrArg some (by kernel_rfl))
 f152 := Tryz.func100.trans (congrArg some (by kernel_rfl))
 f161 := Tryz.func61.trans (congrArg some (by kernel_rfl))
 f197 := Tryz.func91.trans (congrArg some (by kernel_rfl))
 f217 := Tryz.func105.trans (congrArg some (by kernel_rfl))
 f224 := Tryz.func103.trans (congrArg some (by kernel_rfl))
 f225 := Tryz.func104.trans (congrArg some (by kernel_rfl))
 f227 := Tryz.func83.trans (congrArg some (by kernel_rfl))
 f228 := Tryz.func90.trans (congrArg some (by kernel_rfl))
 f231 := Tryz.func82.trans (congrArg some (by kernel_rfl))
 f233 := Tryz.func84.trans (congrArg some (by kernel_rfl))
 f235 := Tryz.func85.trans (congrArg some (by kernel_rfl))
 f260 := Tryz.func99.trans (congrArg some (by kernel_rfl))
 f266 := Tryz.func106.trans (congrArg some (by kernel_rfl))
 t0 := Tryz.underlying0
 a0 := Tryz.isAgg0
 z0 := Tryz.sizeOf0
 v0 := Tryz.zeroValue0
 t3 := Tryz.underlying3
 a3 := Tryz.isAgg3
 z3 := Tryz.sizeOf3
 v3 := Tryz.zeroValue3
 t4 := Tryz.underlying4
 a4 := Tryz.isAgg4
 z4 := Tryz.sizeOf4
 v4 := Tryz.zeroValue4
 t5 := Tryz.underlying5
 a5 := Tryz.isAgg5
 z5 := Tryz.sizeOf5
 v5 := Tryz.zeroValue5
 t9 := Tryz.underlying9
 a9 := Tryz.isAgg9
 z9 := Tryz.sizeOf9
 v9 := Tryz.zeroValue9
 t21 := Tryz.underlying21
 a21 := Tryz.isAgg21
 z21 := Tryz.sizeOf21
 v21 := Tryz.zeroValue21
 t46 := Tryz.underlying83
 a46 := Tryz.isAgg83
 z46 := Tryz.sizeOf83
 v46 := Tryz.zeroValue83
 t105 := Tryz.underlying139
 a105 := Tryz.isAgg139
 z105 := Tryz.sizeOf139
 v105 := Tryz.zeroValue139
 t116 := Tryz.underlying127
 a116 := Tryz.isAgg127
 z116 := Tryz.sizeOf127
 t117 := Tryz.underlying128
 a117 := Tryz.isAgg128
 z117 := Tryz.sizeOf128
 v117 := Tryz.zeroValue128
 t119 := Tryz.underlying145
 a119 := Tryz.isAgg145
 z119 := Tryz.sizeOf145
 t124 := Tryz.underlying131
 a124 := Tryz.isAgg131
 z124 := Tryz.sizeOf131
 v124 := Tryz.zeroValue131
 t138 := Tryz.underlying147
 a138 := Tryz.isAgg147
 z138 := Tryz.sizeOf147
 v138 := Tryz.zeroValue147
 t139 := Tryz.underlying148
 a139 := Tryz.isAgg148
 z139 := Tryz.sizeOf148
 v139 := Tryz.zeroValue148
 g3 := by kernel_rfl
 g4 := by kernel_rfl }
open Go.RowKit in
/-- strings.TrimLeft: "TrimLeft returns a slice of the string s with all leading Unicode code points contained in cutset removed.": AT A cutset OF ONE ASCII BYTE. The world is as it was. (LAID: no walk: one application.) -/
theorem Tryz.strings_TrimLeft_one (s : ByteArray) (c : UInt8) (hc : c.toNat < 128) (w : World) :
  Calls Tryz.prog 61 #[.string s, .string ⟨#[c]⟩] w fun e w' => e = .returned (.string ⟨(Lib.trimLeftB s.data.toList c).toArray⟩) ∧ w' = w := Any.strings_TrimLeft_one Tryz.lays161 s c hc w
def Tryz.lays128_ren : Go.Shelf.Ren := ⟨fun | 128 => 68 | n => n, fun | 51 => 49 | 3 => 3 | 4 => 4 | 46 => 83 | 5 => 5 | 9 => 9 | n => n, fun | n => n⟩
theorem Tryz.lays128 : Go.Proofs.Lays.n128 Tryz.prog Tryz.lays128_ren := {
 mixed := by kernel_rfl
 f128 := Tryz.func68.trans (congrArg some (by kernel_rfl))
 t3 := Tryz.underlying3
 a3 := Tryz.isAgg3
 z3 := Tryz.sizeOf3
 v3 := Tryz.zeroValue3
 t4 := Tryz.underlying4
 a4 := Tryz.isAgg4
 z4 := Tryz.sizeOf4
 v4 := Tryz.zeroValue4
 t5 := Tryz.underlying5
 a5 := Tryz.isAgg5
 z5 := Tryz.sizeOf5
 v5 := Tryz.zeroValue5
 t9 := Tryz.underlying9
 a9 := Tryz.isAgg9
 z9 := Tryz.sizeOf9
 v9 := Tryz.zeroValue9
 t46 := Tryz.underlying83
 a46 := Tryz.isAgg83
 z46 := Tryz.sizeOf83
 v46 := Tryz.zeroValue83
 t51 := Tryz.underlying49
 a51 := Tryz.isAgg49
 z51 := Tryz.sizeOf49
 v51 := Tryz.zeroValue49 }
theorem Tryz.bits_Len32 (x : Int) (w : World) (h0 : 0 ≤ x) (h1 : x ≤ 4294967295) :
  Calls Tryz.prog 68 #[.int .u32 x] w fun e w' => e = .returned (.int .i64 (Lib.bitLen x.toNat)) ∧ w' = w := Any.bits_Len32 Tryz.lays128 x w h0 h1
def Tryz.lays133_ren : Go.Shelf.Ren := ⟨fun | 133 => 69 | 128 => 68 | n => n, fun | 51 => 49 | 3 => 3 | 4 => 4 | 46 => 83 | 5 => 5 | 9 => 9 | n => n, fun | n => n⟩
theorem Tryz.lays133 : Go.Proofs.Lays.n133 Tryz.prog Tryz.lays133_ren := {
 mixed := by kernel_rfl
 f128 := Tryz.func68.trans (congrArg some (by kernel_rfl))
 f133 := Tryz.func69.trans (congrArg some (by kernel_rfl))
 t3 := Tryz.underlying3
 a3 := Tryz.isAgg3
 z3 := Tryz.sizeOf3
 v3 := Tryz.zeroValue3
 t4 := Tryz.underlying4
 a4 := Tryz.isAgg4
 z4 := Tryz.sizeOf4
 v4 := Tryz.zeroValue4
 t5 := Tryz.underlying5
 a5 := Tryz.isAgg5
 z5 := Tryz.sizeOf5
 v5 := Tryz.zeroValue5
 t9 := Tryz.underlying9
 a9 := Tryz.isAgg9
 z9 := Tryz.sizeOf9
 v9 := Tryz.zeroValue9
 t46 := Tryz.underlying83
 a46 := Tryz.isAgg83
 z46 := Tryz.sizeOf83
 v46 := Tryz.zeroValue83
 t51 := Tryz.underlying49
 a51 := Tryz.isAgg49
 z51 := Tryz.sizeOf49
 v51 := Tryz.zeroValue49 }
theorem Tryz.bits_LeadingZeros32 (x : Int) (w : World) (h0 : 0 ≤ x) (h1 : x ≤ 4294967295) :
  Calls Tryz.prog 69 #[.int .u32 x] w fun e w' => e = .returned (.int .i64 (32 - (Lib.bitLen x.toNat : Int))) ∧ w' = w := Any.bits_LeadingZeros32 Tryz.lays133 x w h0 h1
end Go.Proofs
namespace Go.Proofs.YtblekfkmianmeaaGreatDoor
open Go.RowKit Go.ChangeShapes Go.WideShapes
theorem bits_any (va : Value) (a : List Nat) (w : World) (ha : Num w va a) (hla : a.length ≤ 1000000) :
  Calls Tryz.prog 45 #[va] w (RetS w (.int .i64 (blen (val a) : Nat))) := by
 obtain ⟨ao, ca, rfl, hca, hca2, _⟩ := ha.shape
 have HA := qHd ha; clear ha
 obtain ⟨r, hr⟩ : ∃ r, r = blen (val a) := ⟨_, rfl⟩
 rw [← hr]
 have HR := qHd hr; clear hr
 go_enter Tryz.func45, Tryz.ntmps45
 go_wp2_with fail
 go_loop [3] (fun i => ∃ k : Nat, k ≤ a.length ∧ i = .int .i64 ((k : Int) - 1) ∧ Hid (∀ j, k ≤ j → gd a j = 0)) (fun i => (intOf i + 1).toNat)
 case atStart => exact ⟨a.length, Nat.le_refl _, rfl, qHd fun j hj => gd_over _ _ hj⟩
 case round =>
  obtain ⟨k, hk, rfl, hz⟩ := hrel
  by_cases hk0 : k = 0
  ·subst hk0
   have hv : r = 0 := by rw [HR.out, ← qcb 0 hz.out]; rfl
   have HV := qHd hv; clear hv
   go_wp2_with fail
   go_ret
   exact ⟨by rw [HV.out]; rfl, rfl⟩
  ·obtain ⟨m, rfl⟩ : ∃ m, k = m + 1 := ⟨k - 1, by omega⟩
   have hm1 : ((m + 1 : Nat) : Int) - 1 = (m : Int) := by omega
   rw [hm1]
   clear hm1
   have hu := HA.out.lt
   obtain ⟨b, off, rfl, hbs, hcell⟩ := HA.out.at (by omega)
   have hx := hcell m (by omega)
   have hxl := hu m
   obtain ⟨x, hxe⟩ : ∃ x, x = gd a m := ⟨_, rfl⟩
   rw [← hxe] at hx hxl
   have HX := qHd hxe; have HU := qHd hu; clear hxe hcell hu
   by_cases hx0 : x = 0
   ·subst hx0
    go_wp2_with fail
    go_round
    case rel =>
     refine ⟨m, by omega, rfl, qHd fun j hj => ?_⟩
     by_cases hjm : j = m
     ·rw [hjm, ← HX.out]
     ·exact hz.out j (by omega)
    case measure => simp [intOf]
   ·have hd : (bne (x : Int) 0) = true := by simp; omega
    have hv : r = 32 * m + blen x := by
     rw [HR.out, ← qcb (m + 1) hz.out, qay, ← HX.out]
     exact blen_top (val_take_lt HU.out m) hx0
    have hl := Tryz.bits_Len32 x w (by omega) (by omega)
    rw [Int.toNat_natCast, bitLen_eq x hxl] at hl
    have hbl : blen x ≤ 32 := blen_le hxl
    obtain ⟨y, hy⟩ : ∃ y, y = blen x := ⟨_, rfl⟩
    rw [← hy] at hl hv hbl
    have HL := qHd hl; have HV := qHd hv
    clear hl hv hy hx0
    go_wp2_with (go_at_call 68; (with_reducible refine HL.out.mono ?_); rintro e w' ⟨rfl, rfl⟩)
    go_ret
    exact ⟨ret_int (by rw [HV.out]; omega), rfl⟩

theorem bit_test (x k : Nat) (hx : x < 4294967296) : bits .and .u32 ((x : Int) / 2 ^ k) 1 = ((x / 2 ^ k % 2 : Nat) : Int) := by
 have e : ((x : Int) / 2 ^ k) = ((x / 2 ^ k : Nat) : Int) := by rw [Int.natCast_ediv]; simp
 have h : x / 2 ^ k ≤ x := Nat.div_le_self _ _
 rw [e, show (1 : Int) = ((1 : Nat) : Int) from rfl, (bits_nat .u32 32 (by decide) wraps_u32 (x / 2 ^ k) 1 (by omega) (by omega)).1]
 congr 1
 rw [Nat.and_one_is_mod]

theorem rbits_any (va : Value) (a : List Nat) (w : World) (ha : Num w va a) (hla : a.length ≤ 1000000) :
  Calls Tryz.prog 63 #[va] w (RetS w (.int .i64 (blen (val a) : Nat))) := by
 obtain ⟨ao, ca, rfl, hca, hca2, _⟩ := ha.shape
 have HA := qHd ha; clear ha
 go_enter Tryz.func63, Tryz.ntmps63
 go_wp2_with fail
 go_loop [3, 9] (fun n i => ∃ k : Nat, k ≤ a.length ∧ i = .int .i64 k ∧ n = .int .i64 (blen (val (a.take k)) : Nat)) (fun _ i => a.length - (intOf i).toNat)
 case atStart => exact ⟨0, Nat.zero_le _, rfl, by simp [val, blen_zero]⟩
 case round =>
  obtain ⟨k, hk, rfl, rfl⟩ := hrel
  by_cases hkn : k < a.length
  ·have hu := HA.out.lt
   obtain ⟨b, off, rfl, hbs, hcell⟩ := HA.out.at (by omega)
   have hx := hcell k (by omega)
   have hxl := hu k
   obtain ⟨x, hxe⟩ : ∃ x, x = gd a k := ⟨_, rfl⟩
   rw [← hxe] at hx hxl
   have HX := qHd hxe; have HU := qHd hu; clear hxe hcell hu
   go_wp2_with fail
   go_loop [3, 14] (fun n i => ∃ m : Nat, m ≤ 32 ∧ i = .int .i64 m ∧ n = .int .i64 (blen (val (a.take k) + 4294967296 ^ k * (x % 2 ^ m)) : Nat)) (fun _ i => 32 - (intOf i).toNat)
   case atStart => exact ⟨0, Nat.zero_le _, rfl, by simp [Nat.mod_one]⟩
   case round =>
    obtain ⟨m, hm, rfl, rfl⟩ := hrel
    by_cases hmn : m < 32
    ·have hbt := bit_test x m hxl
     obtain ⟨y, hy⟩ : ∃ y, y = x / 2 ^ m % 2 := ⟨_, rfl⟩
     rw [← hy] at hbt
     have hyl : y < 2 := by omega
     have HY := qHd hy; clear hy
     by_cases hy1 : y = 1
     ·subst hy1
      have hB := blen_bit (k := m) (val_take_lt HU.out k) HY.out.symm
      have HB := qHd hB; clear hB
      go_wp2_with fail
      go_round
      case rel => exact ⟨m + 1, by omega, by go_num, by rw [HB.out]; go_num⟩
      case measure => simp [intOf]; omega
     ·obtain rfl : y = 0 := by omega
      have hB : x % 2 ^ (m + 1) = x % 2 ^ m := by rw [mod_two_pow_succ, ← HY.out, Nat.mul_zero, Nat.add_zero]
      have HB := qHd hB; clear hB
      go_wp2_with fail
      go_round
      case rel => exact ⟨m + 1, by omega, by go_num, by rw [HB.out]⟩
      case measure => simp [intOf]; omega
    ·obtain rfl : m = 32 := by omega
     have hB : val (a.take k) + 4294967296 ^ k * (x % 2 ^ 32) = val (a.take (k + 1)) := by
      rw [qay, ← HX.out, Nat.mod_eq_of_lt hxl]
     have HB := qHd hB; clear hB
     go_wp2_with fail
     go_round
     case rel => exact ⟨k + 1, by omega, by go_num, by rw [HB.out]⟩
     case measure => simp [intOf]; omega
  ·obtain rfl : k = a.length := by omega
   have hB : val (a.take a.length) = val a := by rw [List.take_of_length_le (Nat.le_refl _)]
   have HB := qHd hB; clear hB
   go_wp2_with fail
   go_ret
   exact ⟨rfl, rfl⟩
def RetSmall (w : World) (q r : Nat) (e : Ending) (w' : World) : Prop := ∃ v, e = .returned (.tuple #[v, .int .u32 r]) ∧ Below w.heap.size w w' ∧ Num w' v (wd q)

def RetSmallO (w : World) (q r : Nat) (e : Ending) (w' : World) : Prop := ∃ v, e = .returned (.tuple #[v, .int .u32 r]) ∧ Below w.heap.size w w' ∧ qcg 49 w' w.heap.size v (wd q)

theorem small_own (va : Value) (a : List Nat) (b : Nat) (w : World) (ha : Num w va a) (hla : a.length ≤ 900000) (hb0 : 0 < b) (hb : b < 4294967296) :
  Calls Tryz.prog 58 #[va, .int .u32 b] w (RetSmallO w (val a / b) (val a % b)) := by
 obtain ⟨ao, ca, rfl, hca, hca2, _⟩ := ha.shape
 obtain ⟨n, hn⟩ : ∃ n, n = a.length := ⟨_, rfl⟩
 have hnb' : n ≤ 70368744177664 := by omega
 have hnb : n ≤ 900000 := by omega
 have HN := qHd hn
 have HA := qHd ha
 clear hn ha
 go_enter Tryz.func58, Tryz.ntmps58
 go_wp2_with (at_make; refine qch Tryz.wordsTy rfl _ _ rfl _ _ _ _ n rfl rfl ?c1 ?c2 hnb' ?_)
 case c1 => rw [HN.out]
 case c2 => rw [HN.out]
 intro w1 hO hB hsz
 go_wp2_with fail
 go_loopw [7, 8] (fun rv i wr => ∃ (k r : Nat) (l : List Nat), k ≤ n ∧ i = .int .i64 ((k : Int) - 1) ∧ rv = .int .u64 r ∧ r < b ∧ qcg 49 wr w.heap.size (.slice (some ⟨w.heap.size, 0, none⟩) n n) l ∧ Hid (l.length = n) ∧ Below w.heap.size w wr ∧
   Hid (val (a.drop k) = val (l.drop k) * b + r)) (fun _ i _ => (intOf i + 1).toNat)
 case atStart => exact ⟨n, 0, _, Nat.le_refl _, by rw [HN.out], rfl, hb0, hO, qHd (by simp), hB, qHd (by rw [HN.out]; simp [val])⟩
 case round =>
  obtain ⟨k, r, l, hk, rfl, rfl, hr, hOr, hll, hBr, hinv⟩ := hrel
  by_cases hk0 : k = 0
  ·subst hk0
   have hnum := hOr.num
   have hinv' := hinv.out
   rw [List.drop_zero, List.drop_zero] at hinv'
   obtain ⟨h1, h2⟩ := div_of_eq hinv' hr
   have htr := trim_own _ _ _ hnum (by rw [hll.out]; omega)
   rw [h1] at htr
   have hrm : (r : Int) % 4294967296 = (r : Int) := by omega
   have HT := qHd htr; have H2 := qHd h2; clear hnum hinv' h1 h2 htr
   have HL := hll.out
   go_wp2_with fail
   (with_reducible refine HT.out.mono ?_); rintro e w' ⟨v', l', rfl, hB', hN', hl'⟩
   go_wp2_with fail
   go_ret2
   exact ⟨v', by rw [← H2.out]; rfl, hBr.trans (hB'.mono hBr.size), by rw [← hl']; exact hN'.base hBr.size⟩
  ·obtain ⟨m, rfl⟩ : ∃ m, k = m + 1 := ⟨k - 1, by omega⟩
   have hm1 : ((m + 1 : Nat) : Int) - 1 = (m : Int) := by omega
   rw [hm1]
   clear hm1
   have har := HA.out.below hBr
   obtain ⟨ba, oa, rfl, _, hca⟩ := har.at (by rw [← HN.out]; omega)
   have hma : m < a.length := by rw [← HN.out]; omega
   have hx := hca m hma
   have hxl := HA.out.lt m
   obtain ⟨x, hxe⟩ : ∃ x, x = gd a m := ⟨_, rfl⟩
   rw [← hxe] at hx hxl
   have hcell := hOr.cell hll.out m hk
   have hfr := hOr.frozen hll.out m
   have hor := or_words' x r hxl (by omega)
   have hst := small_step (x := x) hinv.out
   have hql := small_lt (Nat.le_of_lt hb) hr hxl
   have hrl : (r * 4294967296 + x) % b < b := Nat.mod_lt _ hb0
   have hnl : r * 4294967296 + x < 18446744073709551616 := by omega
   obtain ⟨N, hN⟩ : ∃ N, N = r * 4294967296 + x := ⟨_, rfl⟩
   rw [← hN] at hor hst hql hrl hnl
   obtain ⟨q, hq⟩ : ∃ q, q = N / b := ⟨_, rfl⟩
   obtain ⟨t, ht⟩ : ∃ t, t = N % b := ⟨_, rfl⟩
   rw [← hq] at hst hql
   rw [← ht] at hst hrl
   have hqi : (N : Int) / (b : Int) = (q : Int) := by rw [hq]; simp
   have hti : (N : Int) % (b : Int) = (t : Int) := by rw [ht]; simp
   have hqm : (q : Int) % 4294967296 = (q : Int) := by omega
   have HTI := qHd hti
   have HX := qHd hxe; have HO := qHd hOr; have HST := qHd hst; have HQL := qHd hql; have HRL := qHd hrl
   clear hxe hOr har hca hst hql hrl hN hq ht
   go_wp2_with fail
   go_roundw
   case rel =>
    have hst := HO.out.stored hll.out m q HQL.out
    exact ⟨m, t, l.set m q, by omega, rfl, by rw [HTI.out], HRL.out, hst, qHd (by rw [List.length_set]; exact hll.out), hBr.setCell (Nat.le_refl _) _,
     qHd (by rw [val_drop_set _ _ _ (by rw [hll.out]; exact hk), val_drop_at a, ← HX.out]; exact HST.out)⟩
   case measure => simp [intOf]

theorem small_any (va : Value) (a : List Nat) (b : Nat) (w : World) (ha : Num w va a) (hla : a.length ≤ 900000) (hb0 : 0 < b) (hb : b < 4294967296) :
  Calls Tryz.prog 58 #[va, .int .u32 b] w (RetSmall w (val a / b) (val a % b)) := by
 refine (small_own va a b w ha hla hb0 hb).mono ?_
 rintro e w' ⟨v, he, hbb, ho⟩
 exact ⟨v, he, hbb, ho.num⟩

theorem left_any (va : Value) (a : List Nat) (n : Nat) (w : World) (ha : Num w va a) (hla : a.length ≤ 900000) (hn : n < 32) :
  Calls Tryz.prog 70 #[va, .int .i64 n] w (RetOwn w fun r => r.length = a.length + 1 ∧ val r = val a * 2 ^ n) := by
 obtain ⟨ao, ca, rfl, hca, hca2, _⟩ := ha.shape
 obtain ⟨N, hN⟩ : ∃ N, N = a.length + 1 := ⟨_, rfl⟩
 have HN := qHd hN
 have hnb' : N ≤ 70368744177664 := by omega
 clear hN
 have HA := qHd ha; clear ha
 go_enter Tryz.func70, Tryz.ntmps70
 go_wp2_with (at_make; refine qch Tryz.wordsTy rfl _ _ rfl _ _ _ _ N rfl rfl ?c1 ?c2 hnb' ?_)
 case c1 => rw [HN.out]; rfl
 case c2 => rw [HN.out]; rfl
 intro w1 hO hB hsz
 go_wp2_with fail
 go_loopw [15] (fun iv wr => ∃ (i : Nat) (l : List Nat), i ≤ a.length ∧ iv = .int .i64 i ∧ qcg 49 wr w.heap.size (.slice (some ⟨w.heap.size, 0, none⟩) N N) l ∧ Hid (l.length = N) ∧ Below w.heap.size w wr ∧
   Hid (val l = val (a.take i) * 2 ^ n)) (fun i _ => a.length - (intOf i).toNat)
 case atStart => exact ⟨0, _, Nat.zero_le _, rfl, hO, qHd (by simp), hB, qHd (by simp [val, val_zeros])⟩
 case round =>
  obtain ⟨i, l, hi, rfl, hOr, hll, hBr, hinv⟩ := hrel
  by_cases hin : i < a.length
  ·have har := HA.out.below hBr
   obtain ⟨ba, oa, rfl, _, hca⟩ := har.at (by omega)
   have hx := hca i hin
   have hxl := HA.out.lt i
   obtain ⟨x, hxe⟩ : ∃ x, x = gd a i := ⟨_, rfl⟩
   rw [← hxe] at hx hxl
   have hiN : i + 1 < N := by rw [HN.out]; omega
   have hlt : val l < 4294967296 ^ i * 2 ^ n := by
    rw [hinv.out]; exact Nat.mul_lt_mul_of_pos_right (val_take_lt HA.out.lt i) (Nat.two_pow_pos n)
   obtain ⟨hw, hyl, hyh, hp⟩ := shl_wrap x n hxl hn
   have hol : gd l i < 2 ^ n := by
    rw [val_gd hOr.lt]
    refine Nat.lt_of_le_of_lt (Nat.mod_le _ _) ?_
    rw [Nat.div_lt_iff_lt_mul (Nat.pow_pos (by decide)), Nat.mul_comm]; exact hlt
   have hoz : gd l (i + 1) = 0 := gd_zero_of_lt hOr.lt (n := i + 1) (Nat.lt_of_lt_of_le hlt (by rw [Nat.pow_succ]; exact Nat.mul_le_mul_left _ (by omega))) _ (Nat.le_refl _)
   have hcell := hOr.cell hll.out i (by omega)
   have hfr := hOr.frozen hll.out i
   have hfr1 := hOr.frozen hll.out (i + 1)
   have hcell1 := hOr.cell hll.out (i + 1) (by omega)
   rw [hoz] at hcell1
   obtain ⟨o, hoe⟩ : ∃ o, o = gd l i := ⟨_, rfl⟩
   rw [← hoe] at hol hcell
   obtain ⟨hor, hol2⟩ := or_low x n o hn hol
   obtain ⟨y, hy⟩ : ∃ y, y = x * 2 ^ n := ⟨_, rfl⟩
   rw [← hy] at hw hyl hyh hor hol2
   obtain ⟨p, hpe⟩ : ∃ p, p = o + y % 4294967296 := ⟨_, rfl⟩
   rw [← hpe] at hor hol2
   have hym : (y : Int) / 4294967296 = ((y / 4294967296 : Nat) : Int) := by omega
   obtain ⟨t, ht⟩ : ∃ t, t = y / 4294967296 := ⟨_, rfl⟩
   have htl : t < 4294967296 := by omega
   rw [← ht] at hym
   have HX := qHd hxe; have HO := qHd hOr; have HY := qHd hy; have HP := qHd hpe; have HT := qHd ht; have HOE := qHd hoe; have HOZ := qHd hoz
   clear har hca hOr hxe hy hpe ht hoe hoz hlt
   go_wp2_with fail
   go_roundw
   case rel =>
    have h1 := HO.out.stored hll.out i p hol2
    have h2 := h1.stored (by rw [List.length_set]; exact hll.out) (i + 1) t htl
    have e1 := val_set l i p (by rw [hll.out]; omega)
    have e2 := val_set (l.set i p) (i + 1) t (by rw [List.length_set, hll.out]; exact hiN)
    rw [gd_set, if_neg (by omega), HOZ.out] at e2
    rw [← HOE.out] at e1
    refine ⟨i + 1, (l.set i p).set (i + 1) t, by omega, by go_num, h2, qHd (by rw [List.length_set, List.length_set]; exact hll.out), (hBr.setCell (Nat.le_refl _) _).setCell (Nat.le_refl _) _, qHd ?_⟩
    rw [qay, Nat.add_mul, ← hinv.out, ← HX.out, Nat.mul_assoc, ← HY.out]
    have e3 : y = y % 4294967296 + 4294967296 * t := by rw [HT.out]; omega
    rw [Nat.pow_succ] at e2
    have e4 : 4294967296 ^ i * y = 4294967296 ^ i * (y % 4294967296) + 4294967296 ^ i * 4294967296 * t := by
     rw [Nat.mul_assoc, ← Nat.mul_add, ← e3]
    rw [HP.out, Nat.mul_add] at e1
    rw [HP.out] at e2 ⊢
    omega
   case measure => simp [intOf]; omega
  ·obtain rfl : i = a.length := by omega
   have hv := hinv.out
   rw [List.take_of_length_le (Nat.le_refl _)] at hv
   have hl := hll.out
   rw [HN.out] at hl
   have HV := qHd hv; have HL := qHd hl; clear hv hl
   go_wp2_with fail
   go_ret
   exact ⟨_, l, rfl, hBr, hOr, HL.out, HV.out⟩

theorem right_any (va : Value) (a : List Nat) (n : Nat) (w : World) (ha : Num w va a) (hla : a.length ≤ 900000) (hn : n < 32) :
  Calls Tryz.prog 73 #[va, .int .i64 n] w (RetOwn w fun r => r.length = a.length ∧ val r = val a / 2 ^ n) := by
 obtain ⟨ao, ca, rfl, hca, hca2, _⟩ := ha.shape
 obtain ⟨N, hN⟩ : ∃ N, N = a.length := ⟨_, rfl⟩
 have HN := qHd hN
 have hnb' : N ≤ 70368744177664 := by omega
 have hnb : N ≤ 900000 := by omega
 clear hN
 have HA := qHd ha; clear ha
 go_enter Tryz.func73, Tryz.ntmps73
 go_wp2_with (at_make; refine qch Tryz.wordsTy rfl _ _ rfl _ _ _ _ N rfl rfl ?c1 ?c2 hnb' ?_)
 case c1 => rw [HN.out]
 case c2 => rw [HN.out]
 intro w1 hO hB hsz
 go_wp2_with fail
 go_loopw [12] (fun iv wr => ∃ (i : Nat) (l : List Nat), i ≤ a.length ∧ iv = .int .i64 i ∧ qcg 49 wr w.heap.size (.slice (some ⟨w.heap.size, 0, none⟩) N N) l ∧ Hid (l.length = N) ∧ Below w.heap.size w wr ∧
   Hid (∀ j, j < i → gd l j = val a / 2 ^ n / 4294967296 ^ j % 4294967296)) (fun i _ => a.length - (intOf i).toNat)
 case atStart => exact ⟨0, _, Nat.zero_le _, rfl, hO, qHd (by simp), hB, qHd (fun j hj => by omega)⟩
 case round =>
  obtain ⟨i, l, hi, rfl, hOr, hll, hBr, hinv⟩ := hrel
  by_cases hin : i < a.length
  ·have har := qHd (HA.out.below hBr)
   have hiN : i < N := by rw [HN.out]; exact hin
   have hwa := word_any _ a i wr har.out (by omega) (by omega)
   have hwb := word_any _ a ((i : Int) + 1) wr har.out (by omega) (by omega)
   have hxl := HA.out.lt i
   have hyl := HA.out.lt (i + 1)
   have hd := word_down HA.out.lt i n hn
   obtain ⟨x, hx⟩ : ∃ x, x = gd a i := ⟨_, rfl⟩
   obtain ⟨y, hy⟩ : ∃ y, y = gd a (i + 1) := ⟨_, rfl⟩
   rw [Int.toNat_natCast, ← hx] at hwa
   rw [show ((i : Int) + 1).toNat = i + 1 from by omega, ← hy] at hwb
   rw [← hx] at hxl
   rw [← hy] at hyl
   rw [← hx, ← hy] at hd
   have hor := or_words x y hxl hyl
   have hzl : x + y * 4294967296 < 18446744073709551616 := by omega
   obtain ⟨z, hz⟩ : ∃ z, z = x + y * 4294967296 := ⟨_, rfl⟩
   rw [← hz] at hor hzl hd
   have hsh : (z : Int) / 2 ^ n % 4294967296 = ((z / 2 ^ n % 4294967296 : Nat) : Int) := by rw [Int.natCast_emod, Int.natCast_ediv]; simp
   obtain ⟨t, ht⟩ : ∃ t, t = z / 2 ^ n % 4294967296 := ⟨_, rfl⟩
   have htl : t < 4294967296 := by rw [ht]; exact Nat.mod_lt _ (by decide)
   rw [← ht] at hsh hd
   have hcell := hOr.cell hll.out i hiN
   have hfr := hOr.frozen hll.out i
   have HWA := qHd hwa; have HWB := qHd hwb; have HO := qHd hOr; have HD := qHd hd
   clear hwa hwb hx hy hz ht hd hOr
   go_wp2_with fail
   (with_reducible refine HWA.out.mono ?_); rintro e w' ⟨rfl, rfl⟩
   go_wp2_with fail
   (with_reducible refine HWB.out.mono ?_); rintro e w' ⟨rfl, rfl⟩
   go_wp2_with fail
   go_roundw
   case rel =>
    have h1 := HO.out.stored hll.out i t htl
    refine ⟨i + 1, l.set i t, by omega, by go_num, h1, qHd (by rw [List.length_set]; exact hll.out), hBr.setCell (Nat.le_refl _) _, qHd fun j hj => ?_⟩
    rw [gd_set]
    by_cases hji : j = i
    ·subst hji
     rw [if_pos ⟨rfl, by rw [hll.out]; exact hiN⟩]; exact HD.out
    ·rw [if_neg (by omega)]; exact hinv.out j (by omega)
   case measure => simp [intOf]; omega
  ·obtain rfl : i = a.length := by omega
   have hl := hll.out
   rw [HN.out] at hl
   have hv : val l = val a / 2 ^ n := by
    apply val_of_digits
    ·intro j hj; exact hinv.out j (by omega)
    ·rw [hl]; exact Nat.lt_of_le_of_lt (Nat.div_le_self _ _) (qct HA.out.lt)
   have HV := qHd hv; have HL := qHd hl; clear hv hl
   go_wp2_with fail
   go_ret
   exact ⟨_, l, rfl, hBr, hOr, HL.out, HV.out⟩
end Go.Proofs.YtblekfkmianmeaaGreatDoor
