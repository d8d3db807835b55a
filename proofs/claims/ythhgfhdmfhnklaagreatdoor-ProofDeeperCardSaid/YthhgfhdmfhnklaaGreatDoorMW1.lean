/-
  The texts Lib, FmMath, Fm0, FmV, NatMath, Nat1, NatMath2, Nat2, NatMath3, Nat3, Nat4, FmN, FmNr, NatMath4, NatMath5, NatMath6, NatMath7, NatMath8, NatMath9, RatMath, RatMath2, Nat5, one behind the other (what the laws lean on).
  Conditions: each theorem's own.
-/
import Derived.WalkKit
import Derived.ProofKit
import Derived.WalkSpells
import Derived.WalkLawsBesides
import Derived.WalkSmall
import Derived.Lib.Hide
import Derived.Test.YthhgfhdmfhnklaaGreatDoorProg
import Derived.Deep.QuietTactic
import Derived.BigQuiet
import Derived.Laws.BitsLemmas
import Derived.Lib.BitFns
/-
  Words and laws that every walk of this seat uses: slices that read as lists of words, arrays of the call's own, what a call hands back.
  Conditions: none beyond each theorem's own.
-/
namespace Go.Proofs.YthhgfhdmfhnklaaGreatDoor
open Go.RowKit Go.ChangeShapes Go.WideShapes

/-- element j of a list of numbers, 0 behind its end -/
def gd (l : List Nat) (j : Nat) : Nat := l.getD j 0
theorem gd_over (l : List Nat) (j : Nat) (h : l.length ≤ j) : gd l j = 0 := by simp [gd, h]
theorem gd_lt (l : List Nat) (j : Nat) (h : j < l.length) : gd l j = l[j] := by simp [gd, h]
theorem gd_set (l : List Nat) (k x j : Nat) : gd (l.set k x) j = if j = k ∧ k < l.length then x else gd l j := by
  unfold gd
  rw [List.getD_eq_getElem?_getD, List.getD_eq_getElem?_getD, List.getElem?_set]
  by_cases h : k = j
  · subst h
    by_cases h2 : k < l.length <;> simp [h2]
  · rw [if_neg h, if_neg (by omega)]
theorem gd_replicate (n x j : Nat) : gd (List.replicate n x) j = if j < n then x else 0 := by
  unfold gd
  rw [List.getD_eq_getElem?_getD, List.getElem?_replicate]; split <;> simp
theorem gd_append (a b : List Nat) (j : Nat) : gd (a ++ b) j = if j < a.length then gd a j else gd b (j - a.length) := by
  unfold gd
  simp only [List.getD_eq_getElem?_getD, List.getElem?_append]; split <;> rfl
theorem gd_take (a : List Nat) (n j : Nat) : gd (a.take n) j = if j < n then gd a j else 0 := by
  unfold gd
  simp only [List.getD_eq_getElem?_getD, List.getElem?_take]; split <;> simp
theorem gd_drop (a : List Nat) (n j : Nat) : gd (a.drop n) j = gd a (n + j) := by
  unfold gd
  simp only [List.getD_eq_getElem?_getD, List.getElem?_drop]
theorem gd_ext {a b : List Nat} (hl : a.length = b.length) (h : ∀ j, j < a.length → gd a j = gd b j) : a = b := by
  apply List.ext_getElem hl
  intro i h1 h2
  have := h i h1
  rwa [gd_lt _ _ h1, gd_lt _ _ h2] at this
theorem gd_cons_zero (x : Nat) (l : List Nat) : gd (x :: l) 0 = x := rfl
theorem gd_cons_succ (x : Nat) (l : List Nat) (j : Nat) : gd (x :: l) (j + 1) = gd l j := rfl

/-- all words of a list fit 32 bits -/
def U32 (l : List Nat) : Prop := ∀ j, gd l j < 4294967296

/-- the slice value v reads as the words l in w -/
def Num (w : World) (v : Value) (l : List Nat) : Prop :=
  ∃ ao c, v = .slice ao l.length c ∧ l.length ≤ c ∧ c ≤ 9223372036854775807 ∧ (ao = none → c = 0) ∧
    (∀ b off s, ao = some ⟨b, off, s⟩ → (0 < l.length → b < w.heap.size ∧ s = none) ∧ ∀ j, j < l.length → w.cell? ⟨b, off + j, none⟩ = some (.int .u32 (gd l j : Nat))) ∧
    U32 l
theorem Num.mono {w w' : World} {v : Value} {l : List Nat} {B : Nat} (h : Num w v l) (hb : Below B w w') (hB : w.heap.size ≤ B) : Num w' v l := by
  obtain ⟨ao, c, rfl, h1, h2, h3, h4, h5⟩ := h
  refine ⟨ao, c, rfl, h1, h2, h3, ?_, h5⟩
  intro b off s hs
  obtain ⟨k1, k3⟩ := h4 b off s hs
  refine ⟨fun h0 => ⟨Nat.lt_of_lt_of_le (k1 h0).1 hb.size, (k1 h0).2⟩, fun j hj => ?_⟩
  rw [hb.cell (p := ⟨b, off + j, none⟩) (Nat.lt_of_lt_of_le (k1 (by omega)).1 hB)]
  exact k3 j hj
theorem Num.below {w w' : World} {v : Value} {l : List Nat} (h : Num w v l) (hb : Below w.heap.size w w') : Num w' v l := h.mono hb (Nat.le_refl _)
theorem Num.shape {w : World} {v : Value} {l : List Nat} (h : Num w v l) : ∃ ao c, v = .slice ao l.length c ∧ l.length ≤ c ∧ c ≤ 9223372036854775807 ∧ (ao = none → c = 0) := by
  obtain ⟨ao', c', e, h1, h2, h3, h4, h5⟩ := h
  exact ⟨ao', c', e, h1, h2, h3⟩
theorem Num.at {w : World} {ao : Option Addr} {n c : Nat} {l : List Nat} (h : Num w (.slice ao n c) l) (hn : 0 < n) :
    ∃ b off, ao = some ⟨b, off, none⟩ ∧ b < w.heap.size ∧ ∀ j, j < n → w.cell? ⟨b, off + j, none⟩ = some (.int .u32 (gd l j : Nat)) := by
  obtain ⟨ao', c', e, h1, h2, h3, h4, h5⟩ := h
  cases e
  cases hao : ao with
  | none => have := h3 hao; omega
  | some a =>
    obtain ⟨b, off, s⟩ := a
    obtain ⟨k1, k3⟩ := h4 b off s hao
    obtain ⟨k0, rfl⟩ := k1 hn
    exact ⟨b, off, rfl, k0, k3⟩
theorem Num.lt {w : World} {v : Value} {l : List Nat} (h : Num w v l) : U32 l := by
  obtain ⟨ao', c', e, h1, h2, h3, h4, h5⟩ := h
  exact h5
theorem Num.nil (w : World) : Num w (.slice none 0 0) [] := ⟨none, 0, rfl, Nat.le_refl _, by omega, by simp, by simp, fun j => by simp [gd]⟩

/-- what a function that hands back words leaves -/
def RetNum (w : World) (R : List Nat → Prop) (e : Ending) (w' : World) : Prop := ∃ v l, e = .returned v ∧ Below w.heap.size w w' ∧ Num w' v l ∧ R l
/-- what a function that hands back a value and leaves old memory alone leaves -/
def RetV (w : World) (v : Value) (e : Ending) (w' : World) : Prop := e = .returned v ∧ Below w.heap.size w w'

/-- hands back a value, the world as it was -/
def RetS (w : World) (v : Value) (e : Ending) (w' : World) : Prop := e = .returned v ∧ w = w'
theorem ret_quiet {P : Program} {f : FuncId} {args : Array Value} {w : World} {v : Value} (h : Calls P f args w (RetS w v)) : Calls P f args w fun e w' => e = .returned v ∧ w' = w :=
  h.mono fun _ _ ⟨h1, h2⟩ => ⟨h1, h2.symm⟩
theorem ret_bool {a b : Bool} (h : a = b) : Ending.returned (.bool a) = .returned (.bool b) := by rw [h]
theorem ret_int {k : IntKind} {a b : Int} (h : a = b) : Ending.returned (.int k a) = .returned (.int k b) := by rw [h]
theorem map_gd (l : List Nat) (j : Nat) : (l.map fun x : Nat => Value.int .u32 x)[j]? = if j < l.length then some (.int .u32 (gd l j : Nat)) else none := by
  by_cases h : j < l.length <;> simp [gd, h]

/-- a slice of words of the call's own, in blocks from B on: v is nil and empty, or v lies at the head of its block; room for c words -/
def OwnW (e : TypeId) (w : World) (B : Nat) (v : Value) (l : List Nat) : Prop :=
  w.ownsRow B e 1 v l.length (l.map fun x : Nat => Value.int .u32 x) ∧ U32 l

section
variable {e : TypeId} {w : World} {B : Nat} {v : Value} {l : List Nat}
theorem OwnW.lt (h : OwnW e w B v l) : U32 l := h.2
theorem OwnW.nil (e : TypeId) (w : World) (B : Nat) : OwnW e w B (.slice none 0 0) [] := ⟨World.ownsRow_nil _ _ _ _, fun j => by simp [gd]⟩
theorem OwnW.cell {g n c : Nat} (h : OwnW e w B (.slice (some ⟨g, 0, none⟩) n c) l) (hn : l.length = n) : ∀ j, j < n → w.cell? ⟨g, j, none⟩ = some (.int .u32 (gd l j : Nat)) := by
  intro j hj
  subst hn
  have := h.1.cellAt j (by omega)
  rw [this, map_gd, if_pos hj]
theorem OwnW.frozen {g n c : Nat} (h : OwnW e w B (.slice (some ⟨g, 0, none⟩) n c) l) (hn : l.length = n) : ∀ j, w.frozen? ⟨g, j, none⟩ = false := fun j => by subst hn; exact h.1.frozenAt j
theorem OwnW.stored {g n c : Nat} (h : OwnW e w B (.slice (some ⟨g, 0, none⟩) n c) l) (hn : l.length = n) (k x : Nat) (hx : x < 4294967296) :
    OwnW e (w.setCell ⟨g, k, none⟩ (.int .u32 x)) B (.slice (some ⟨g, 0, none⟩) n c) (l.set k x) := by
  subst hn
  obtain ⟨h1, h3⟩ := h
  obtain ⟨r1, r2⟩ := h1.stored k (.int .u32 x)
  refine ⟨?_, ?_⟩
  · rw [List.map_set, List.length_set]; exact r1
  · intro j
    rw [gd_set]; split
    · exact hx
    · exact h3 j
theorem OwnW.num (h : OwnW e w B v l) : Num w v l := by
  obtain ⟨h1, h2⟩ := h
  have hc := fun g hg => h1.cells (g := g) hg
  have hlt := h1.lt
  rcases h1.2 with ⟨rfl, hn⟩ | ⟨g, cap, cur, rfl, hb, hh, hcap, hm, hs, ht⟩
  · have : l = [] := List.eq_nil_of_length_eq_zero hn
    subst this; exact Num.nil w
  · refine ⟨some ⟨g, 0, none⟩, cap, rfl, hcap, by unfold maxLen at hm; omega, by simp, ?_, h2⟩
    intro b off s hs'
    simp only [Option.some.injEq, Addr.mk.injEq] at hs'
    obtain ⟨rfl, rfl, rfl⟩ := hs'
    refine ⟨fun _ => ⟨(hlt g rfl).2, rfl⟩, fun j hj => ?_⟩
    have := hc g rfl j (.int .u32 (gd l j : Nat)) (by rw [map_gd, if_pos hj])
    have e2 : (⟨g, 0, none⟩ : Addr).add j = ⟨g, 0 + j, none⟩ := by unfold Addr.add; split <;> simp_all
    rw [e2] at this; exact this
theorem OwnW.head (h : OwnW e w B v l) (hn : 0 < l.length) : ∃ g c, v = .slice (some ⟨g, 0, none⟩) l.length c ∧ B ≤ g := by
  rcases h.1.2 with ⟨rfl, h0⟩ | ⟨g, cap, cur, rfl, hb, hh, hcap, hm, hs, ht⟩
  · omega
  · exact ⟨g, cap, rfl, hb⟩
theorem OwnW.block {g n c : Nat} (h : OwnW e w B (.slice (some ⟨g, 0, none⟩) n c) l) : B ≤ g ∧ g < w.heap.size := h.1.lt g rfl
theorem OwnW.alloc (h : OwnW e w B v l) (o : Obj) : OwnW e (w.alloc o) B v l := ⟨h.1.alloc o, h.2⟩
theorem OwnW.drew (h : OwnW e w B v l) : OwnW e w.drew B v l := ⟨h.1.drew, h.2⟩
/-- what is owned stays owned behind a call that leaves all blocks that were there alone -/
theorem OwnW.below {w' : World} (h : OwnW e w B v l) (hb : Below w.heap.size w w') : OwnW e w' B v l := by
  refine ⟨h.1.kept (row := none) ⟨hb.os, hb.tape, hb.output, hb.size, fun k hk _ => hb.block k hk⟩ ?_, h.2⟩
  cases hv : v.ownBlock <;> simp
theorem OwnW.base {B' : Nat} (h : OwnW e w B v l) (hB : B' ≤ B) : OwnW e w B' v l := by
  obtain ⟨⟨h1, h2⟩, h3⟩ := h
  refine ⟨⟨h1, ?_⟩, h3⟩
  rcases h2 with h2 | ⟨g, cap, cur, hv, hb, r⟩
  · exact .inl h2
  · exact .inr ⟨g, cap, cur, hv, Nat.le_trans hB hb, r⟩
end

/-- a slice literal of words -/
theorem num_lit (w : World) (e : TypeId) (cs : Array Value) (l : List Nat) (n : Nat) (hU : U32 l) (hn : l.length = n) (hs : l.length ≤ 1000000) (hcs : cs = (l.map fun x : Nat => Value.int .u32 x).toArray) :
    Num (w.alloc (.cells cs e)) (.slice (some ⟨w.heap.size, 0, none⟩) n n) l := by
  subst hcs hn
  refine ⟨some ⟨w.heap.size, 0, none⟩, l.length, rfl, Nat.le_refl _, by omega, by simp, ?_, hU⟩
  intro b off s hs'
  simp only [Option.some.injEq, Addr.mk.injEq] at hs'
  obtain ⟨rfl, rfl, rfl⟩ := hs'
  refine ⟨fun _ => ⟨by simp, rfl⟩, fun j hj => ?_⟩
  rw [Nat.zero_add, cell_of_row (w.alloc (.cells (l.map fun x : Nat => Value.int .u32 x).toArray e)) w.heap.size j _ e (0, 0) (heap_alloc_new w _)]
  have := map_gd l j
  rw [if_pos hj] at this
  simpa using this

/-- the facts on a slice type and its element type -/
structure SliceTy (P : Program) (t e : TypeId) (z : Value) (size bytes : Nat) : Prop where
  under : P.underlying t = some (.slice e)
  info : ∃ i, P.info? e = some i ∧ i.zero = some z ∧ i.size = size ∧ i.bytes = bytes

theorem SliceTy.mk' {P : Program} {t e : TypeId} {z : Value} {size bytes : Nat} (h1 : P.underlying t = some (.slice e))
    (h2 : (P.info? e).map (fun i => (i.zero, i.size, i.bytes)) = some (some z, size, bytes)) : SliceTy P t e z size bytes := ⟨h1, info_parts h2⟩

section
variable {P : Program} {w : World} {ops : Array Oper} {rest : List Oper} {o : Oper} {a : Act} {Q : Exit → Act → World → Prop} {t e : TypeId}
/-- 'make([]uint32, n)' -/
theorem wpList_makeN (T : SliceTy P t e (.int .u32 0) 1 4)
    (hg : o.guard = none) (l c : Operand) (hop : o.op = Op.makeSlice t l c)
    (kl kc : IntKind) (L C : Int) (n : Nat) (hl : a.eval l = .int kl L) (hc : a.eval c = .int kc C) (hL : L = (n : Int)) (hC : C = (n : Int)) (hn : n ≤ 70368744177664)
    (hK : ∀ w', OwnW e w' w.heap.size (.slice (some ⟨w.heap.size, 0, none⟩) n n) (List.replicate n 0) → Below w.heap.size w w' → w.heap.size < w'.heap.size →
      wpList P ops Q rest (a.put o.dst (.slice (some ⟨w.heap.size, 0, none⟩) n n)) w') :
    wpList P ops Q (o :: rest) a w := by
  obtain ⟨i0, hi, hz0, hz1, hz2⟩ := T.info
  refine wpList_make_full w hg l c t hop w.heap.size e i0 (.int .u32 0) 1 T.under hi hz0 hz1 kl kc L C n hl hc hL hC (by rw [hz2]; omega) (by unfold maxLen; omega) (Nat.le_refl _) ?_
  intro w1 h1 h2
  refine hK w1 ⟨?_, ?_⟩ ((Below.refl _ _).grown h2 (Nat.le_refl _) (by simp)) (h1.lt _ rfl).2
  · have e1 : (Value.int IntKind.u32 0).cells = #[.int .u32 0] := rfl
    rw [e1, Nat.mul_one, toList_madeCells_one] at h1
    rw [List.map_replicate, List.length_replicate]; exact h1
  · intro j; rw [gd_replicate]; split <;> omega

theorem run_appendN (T : SliceTy P t e (.int .u32 0) 1 4) (ty : TypeId) (B : Nat) (v xv : Value) (l m : List Nat) (hown : OwnW e w B v l) (hm : Num w xv m)
    (hlen : l.length + m.length ≤ 17592186044416) (hB : B ≤ w.heap.size) :
    ∃ v' w', (Builtin.append_ #[t, t] ty #[v, xv]).run P w = .ok v' w' ∧ OwnW e w' B v' (l ++ m) ∧ w.grownBy w' v.ownBlock := by
  obtain ⟨i0, hi, hz0, hz1, hz2⟩ := T.info
  obtain ⟨ao, c, rfl, h1, h2, h3, h4, h5⟩ := hm
  have hU : U32 (l ++ m) := by
    intro j; rw [gd_append]; split
    · exact hown.2 j
    · exact h5 _
  cases hao : ao with
  | none =>
    have hc0 := h3 hao
    have hm0 : m = [] := List.eq_nil_of_length_eq_zero (by omega)
    subst hm0 hc0
    have hrun := run_append_owned_none (P := P) w B t ty e i0 1 T.under hi v _ _ hown.1
    refine ⟨v, w, hrun, ?_, World.grownBy.refl _ _⟩
    rw [List.append_nil]; exact hown
  | some ad =>
    obtain ⟨b, off, sp⟩ := ad
    obtain ⟨k1, k3⟩ := h4 b off sp hao
    have hnews : ∀ j u, (m.map fun x : Nat => Value.int .u32 x)[j]? = some u → w.cell? ((⟨b, off, sp⟩ : Addr).add j) = some u := by
      intro j u hu
      rw [map_gd] at hu
      split at hu
      · rename_i hj
        have := (k1 (by omega)).2; subst this
        have e2 : (⟨b, off, none⟩ : Addr).add j = ⟨b, off + j, none⟩ := by unfold Addr.add; split <;> simp_all
        rw [e2, k3 j hj]; exact hu
      · cases hu
    obtain ⟨v', w', r1, r2, r3, _⟩ := run_append_own (P := P) w B t ty e i0 (.int .u32 0) 1 4 T.under hi hz0 hz1 hz2 rfl (by decide) v _ _ hown.1 ⟨b, off, sp⟩ m.length c (m.map fun x : Nat => Value.int .u32 x) (by simp) hnews
      (by intro u hu; obtain ⟨x, _, rfl⟩ := List.mem_map.1 hu; rfl) (by unfold maxLen; omega) (by omega) hB
    refine ⟨v', w', r1, ⟨?_, hU⟩, r3⟩
    rw [List.map_append, List.length_append]; exact r2
/-- 'append(s, x...)': s the call's own, x any slice of words -/
theorem wpList_appendN (T : SliceTy P t e (.int .u32 0) 1 4)
    (hg : o.guard = none) (s x : Operand) (hop : o.op = Op.call { callee := Callee.builtin Builtin.append, args := #[s, x], argTypes := #[t, t] })
    (B : Nat) (v xv : Value) (l m : List Nat) (hs : a.eval s = v) (hx : a.eval x = xv) (hown : OwnW e w B v l) (hm : Num w xv m)
    (hlen : l.length + m.length ≤ 17592186044416) (hB : B ≤ w.heap.size)
    (hK : ∀ v' w', OwnW e w' B v' (l ++ m) → (∀ w0, Below B w0 w → Below B w0 w') → w.heap.size ≤ w'.heap.size →
      wpList P ops Q rest (a.put o.dst v') w') :
    wpList P ops Q (o :: rest) a w := by
  refine wpList_plain hg fun K hK' => ?_
  have key := run_appendN T o.type B v xv l m hown hm hlen hB
  obtain ⟨v', w', hrun, r1, r2⟩ := key
  unfold Oper.wp
  simp [execOp, hop, resolve, invoke, builtin, hs, hx, hrun, Result.andThen]
  refine hK' _ _ (hK v' w' r1 (fun w0 h0 => h0.grown r2 hB ?_) r2.size)
  intro k hk
  exact (hown.1.lt k hk).1
end

section
variable {P : Program} (w : World)
@[go_sem 2000] theorem run_max_int2' (ts : Array TypeId) (t : TypeId) (k k' : IntKind) (x y : Int) : (Builtin.max_ ts t #[.int k x, .int k' y]).run P w = .ok (.int k (max x y)) w := by
  rw [run_max_int2]; congr 2; rw [Int.max_def]; split <;> split <;> omega
@[go_sem 2000] theorem run_min_int2' (ts : Array TypeId) (t : TypeId) (k k' : IntKind) (x y : Int) : (Builtin.min_ ts t #[.int k x, .int k' y]).run P w = .ok (.int k (min x y)) w := by
  simp only [Builtin.min_, Builtin.min2, List.foldlM]
  simp only [Sem.run_bind, Sem.run_pure, Result.andThen_ok]
  congr 2; rw [Int.min_def]; split <;> split <;> omega
end
end Go.Proofs.YthhgfhdmfhnklaaGreatDoor
/-
  Formulas in plain words: nodes, the errors of a formula, values where some events are known, the next event.
  Conditions: none.
-/
namespace Go.Proofs.YthhgfhdmfhnklaaGreatDoor

/-- a node: its kind, K, its arguments -/
structure Nd where
  kind : Int
  K : Int
  args : List Int
structure Fm where
  vars : Int
  nodes : List Nd
  top : Int
/-- a number that an int holds -/
def I64 (x : Int) : Prop := -9223372036854775808 ≤ x ∧ x ≤ 9223372036854775807
/-- a kind may have so many arguments -/
def ndArgs (k : Int) (n : Nat) : Bool := if k = 0 then decide (n = 0) else if k = 1 then decide (n = 1) else decide (1 ≤ n ∧ n ≤ 16)
def argBad (vars : Int) (i : Nat) (a : Int) : Bool := decide (a < 0 ∨ vars + i ≤ a)
def ndErr (vars : Int) (i : Nat) (x : Nd) : Nat :=
  if x.kind < 0 ∨ 5 < x.kind then 7
  else if ndArgs x.kind x.args.length = false then 11
  else if x.args.any (argBad vars i) then 10
  else if x.kind = 0 then (if x.K ≠ 0 ∧ x.K ≠ 1 then 3 else 0)
  else if x.kind = 4 then (if x.K < 1 ∨ (x.args.length : Int) < x.K then 3 else 0)
  else if x.K ≠ 0 then 2 else 0
/-- the first node's error from node i on -/
def ndsErr (vars : Int) : Nat → List Nd → Nat
  | _, [] => 0
  | i, x :: xs => if ndErr vars i x = 0 then ndsErr vars (i + 1) xs else ndErr vars i x
theorem ndsErr_cons {vars : Int} {i : Nat} {x : Nd} {xs : List Nd} (h : ndErr vars i x = 0) : ndsErr vars i (x :: xs) = ndsErr vars (i + 1) xs := by
  simp only [ndsErr]; rw [if_pos h]
theorem ndsErr_bad {vars : Int} {i : Nat} {x : Nd} {xs : List Nd} (h : ndErr vars i x ≠ 0) : ndsErr vars i (x :: xs) = ndErr vars i x := by
  simp only [ndsErr]; rw [if_neg h]
def argOK (f : Fm) (a : Int) : Bool := decide (0 ≤ f.vars ∧ 0 ≤ a ∧ (a < f.vars ∨ a - f.vars < f.nodes.length))
def fmErr (f : Fm) : Nat :=
  if f.vars < 0 ∨ 24 < f.vars then 3 else if 128 < f.nodes.length then 4
  else if ndsErr f.vars 0 f.nodes ≠ 0 then ndsErr f.vars 0 f.nodes else if argOK f f.top then 0 else 10
theorem ndErr_lt (vars : Int) (i : Nat) (x : Nd) : ndErr vars i x < 12 := by
  unfold ndErr
  repeat' split
  all_goals decide
theorem ndsErr_lt (vars : Int) : ∀ (l : List Nd) (i : Nat), ndsErr vars i l < 12
  | [], _ => by simp [ndsErr]
  | x :: xs, i => by
    by_cases h : ndErr vars i x = 0
    · rw [ndsErr_cons h]; exact ndsErr_lt vars xs (i + 1)
    · rw [ndsErr_bad h]; exact ndErr_lt vars i x
theorem fmErr_lt (f : Fm) : fmErr f < 12 := by
  unfold fmErr
  split
  · decide
  split
  · decide
  split
  · exact ndsErr_lt _ _ _
  split <;> decide

/-- an event's value: 1 failed, 0 works, 2 unknown -/
def ev3 (yes no i : Nat) : Nat := if yes.testBit i then 1 else if no.testBit i then 0 else 2
def cntV (vs : List Nat) (args : List Int) (k : Nat) : Nat := (args.filter fun a => decide (gd vs a.toNat = k)).length
def lev (yes no : Bool) : Nat := if yes then 1 else if no then 0 else 2
def ndVal (x : Nd) (c0 c1 c2 : Nat) : Nat :=
  if x.kind = 0 then x.K.toNat
  else if x.kind = 1 then lev (decide (c0 = 1)) (decide (c1 = 1))
  else if x.kind = 2 then lev (decide (c1 = x.args.length)) (decide (0 < c0))
  else if x.kind = 3 then lev (decide (0 < c1)) (decide (c0 = x.args.length))
  else if x.kind = 4 then lev (decide (x.K ≤ c1)) (decide ((c1 : Int) + c2 < x.K))
  else lev (decide (c2 = 0 ∧ c1 % 2 = 1)) (decide (c2 = 0 ∧ c1 % 2 = 0))
/-- the values of all arguments, events first -/
def valsE (vars yes no : Nat) : List Nat := (List.range vars).map (ev3 yes no)
def valsN (vs : List Nat) : List Nd → List Nat
  | [] => vs
  | x :: xs => valsN (vs ++ [ndVal x (cntV vs x.args 0) (cntV vs x.args 1) (cntV vs x.args 2)]) xs
def valsF (f : Fm) (yes no : Nat) : List Nat := valsN (valsE f.vars.toNat yes no) f.nodes
def fmVal (f : Fm) (yes no : Nat) : Nat := gd (valsF f yes no) f.top.toNat
theorem valsN_length (l : List Nd) : ∀ vs, (valsN vs l).length = vs.length + l.length := by
  induction l with
  | nil => intro vs; simp [valsN]
  | cons x xs ih => intro vs; simp only [valsN, ih, List.length_append, List.length_cons, List.length_nil]; omega
theorem valsN_pre (l : List Nd) : ∀ vs j, j < vs.length → gd (valsN vs l) j = gd vs j := by
  induction l with
  | nil => intro vs j _; rfl
  | cons x xs ih =>
    intro vs j hj
    simp only [valsN]
    rw [ih _ j (by rw [List.length_append]; omega), gd_append, if_pos hj]

/-- a split tree: an event and kids, or a leaf's reason -/
inductive Tr where
  | mk (var : Int) (kids : List Tr) (reason : Int)
end Go.Proofs.YthhgfhdmfhnklaaGreatDoor
/-
  Slices of integers, nodes, formulas in memory.
  Conditions: none.
-/
namespace Go.Proofs.YthhgfhdmfhnklaaGreatDoor
open Go.RowKit Go.ChangeShapes Go.WideShapes

/-- the slice value v reads as the integers l in w -/
def IntsV (w : World) (v : Value) (l : List Int) : Prop :=
  ∃ ao c, v = .slice ao l.length c ∧ l.length ≤ c ∧ c ≤ 9223372036854775807 ∧ (ao = none → c = 0) ∧
    (∀ b off s, ao = some ⟨b, off, s⟩ → (0 < l.length → b < w.heap.size ∧ s = none) ∧ ∀ (j : Nat) x, l[j]? = some x → w.cell? ⟨b, off + j, none⟩ = some (.int .i64 x)) ∧
    ∀ x ∈ l, I64 x
theorem getElem?_pos {α : Type} {l : List α} {j : Nat} {x : α} (h : l[j]? = some x) : 0 < l.length := by
  rcases Nat.eq_zero_or_pos l.length with k | k
  · rw [List.length_eq_zero_iff] at k; rw [k] at h; cases h
  · exact k
theorem IntsV.mono {w w' : World} {v : Value} {l : List Int} {B : Nat} (h : IntsV w v l) (hb : Below B w w') (hB : w.heap.size ≤ B) : IntsV w' v l := by
  obtain ⟨ao, c, rfl, h1, h2, h3, h4, h5⟩ := h
  refine ⟨ao, c, rfl, h1, h2, h3, ?_, h5⟩
  intro b off s hs
  obtain ⟨k1, k3⟩ := h4 b off s hs
  refine ⟨fun h0 => ⟨Nat.lt_of_lt_of_le (k1 h0).1 hb.size, (k1 h0).2⟩, fun j x hj => ?_⟩
  rw [hb.cell (p := ⟨b, off + j, none⟩) (Nat.lt_of_lt_of_le (k1 (getElem?_pos hj)).1 hB)]
  exact k3 j x hj
theorem IntsV.below {w w' : World} {v : Value} {l : List Int} (h : IntsV w v l) (hb : Below w.heap.size w w') : IntsV w' v l := h.mono hb (Nat.le_refl _)
theorem IntsV.shape {w : World} {v : Value} {l : List Int} (h : IntsV w v l) : ∃ ao c, v = .slice ao l.length c ∧ l.length ≤ c ∧ c ≤ 9223372036854775807 ∧ (ao = none → c = 0) := by
  obtain ⟨ao', c', e, h1, h2, h3, h4, h5⟩ := h
  exact ⟨ao', c', e, h1, h2, h3⟩
theorem IntsV.at {w : World} {ao : Option Addr} {n c : Nat} {l : List Int} (h : IntsV w (.slice ao n c) l) (hn : 0 < n) :
    ∃ b off, ao = some ⟨b, off, none⟩ ∧ b < w.heap.size ∧ n = l.length ∧ ∀ (j : Nat) x, l[j]? = some x → w.cell? ⟨b, off + j, none⟩ = some (.int .i64 x) := by
  obtain ⟨ao', c', e, h1, h2, h3, h4, h5⟩ := h
  cases e
  cases hao : ao with
  | none => have := h3 hao; omega
  | some a =>
    obtain ⟨b, off, s⟩ := a
    obtain ⟨k1, k2⟩ := h4 b off s hao
    obtain ⟨k3, rfl⟩ := k1 hn
    exact ⟨b, off, rfl, k3, rfl, k2⟩
theorem IntsV.lt {w : World} {v : Value} {l : List Int} (h : IntsV w v l) : ∀ x ∈ l, I64 x := by
  obtain ⟨ao', c', e, h1, h2, h3, h4, h5⟩ := h
  exact h5
/-- three cells read as a node -/
def NdAt (w : World) (b off : Nat) (n : Nd) : Prop :=
  w.cell? ⟨b, off, none⟩ = some (.int .i64 n.kind) ∧ w.cell? ⟨b, off + 1, none⟩ = some (.int .i64 n.K) ∧ (∃ av, w.cell? ⟨b, off + 2, none⟩ = some av ∧ IntsV w av n.args) ∧ I64 n.kind ∧ I64 n.K
def NdsV (w : World) (v : Value) (l : List Nd) : Prop :=
  ∃ ao c, v = .slice ao l.length c ∧ l.length ≤ c ∧ c ≤ 9223372036854775807 ∧ (ao = none → c = 0) ∧
    (∀ b off s, ao = some ⟨b, off, s⟩ → (0 < l.length → b < w.heap.size ∧ s = none) ∧ ∀ (j : Nat) x, l[j]? = some x → NdAt w b (off + j * 3) x)
theorem NdAt.mono {w w' : World} {b off : Nat} {n : Nd} {B : Nat} (h : NdAt w b off n) (hb : Below B w w') (hB : w.heap.size ≤ B) (hlt : b < B) : NdAt w' b off n := by
  obtain ⟨h1, h2, ⟨av, h3, h4⟩, h5, h6⟩ := h
  refine ⟨?_, ?_, ⟨av, ?_, h4.mono hb hB⟩, h5, h6⟩
  · rw [hb.cell (p := ⟨b, _, none⟩) hlt]; exact h1
  · rw [hb.cell (p := ⟨b, _, none⟩) hlt]; exact h2
  · rw [hb.cell (p := ⟨b, _, none⟩) hlt]; exact h3
theorem NdsV.mono {w w' : World} {v : Value} {l : List Nd} {B : Nat} (h : NdsV w v l) (hb : Below B w w') (hB : w.heap.size ≤ B) : NdsV w' v l := by
  obtain ⟨ao, c, rfl, h1, h2, h3, h4⟩ := h
  refine ⟨ao, c, rfl, h1, h2, h3, ?_⟩
  intro b off s hs
  obtain ⟨k1, k3⟩ := h4 b off s hs
  refine ⟨fun h0 => ⟨Nat.lt_of_lt_of_le (k1 h0).1 hb.size, (k1 h0).2⟩, fun j x hj => ?_⟩
  exact (k3 j x hj).mono hb hB (Nat.lt_of_lt_of_le (k1 (getElem?_pos hj)).1 hB)
theorem NdsV.below {w w' : World} {v : Value} {l : List Nd} (h : NdsV w v l) (hb : Below w.heap.size w w') : NdsV w' v l := h.mono hb (Nat.le_refl _)
theorem NdsV.shape {w : World} {v : Value} {l : List Nd} (h : NdsV w v l) : ∃ ao c, v = .slice ao l.length c ∧ l.length ≤ c ∧ c ≤ 9223372036854775807 ∧ (ao = none → c = 0) := by
  obtain ⟨ao', c', e, h1, h2, h3, h4⟩ := h
  exact ⟨ao', c', e, h1, h2, h3⟩
theorem NdsV.at {w : World} {ao : Option Addr} {n c : Nat} {l : List Nd} (h : NdsV w (.slice ao n c) l) (hn : 0 < n) :
    ∃ b off, ao = some ⟨b, off, none⟩ ∧ b < w.heap.size ∧ n = l.length ∧ ∀ (j : Nat) x, l[j]? = some x → NdAt w b (off + j * 3) x := by
  obtain ⟨ao', c', e, h1, h2, h3, h4⟩ := h
  cases e
  cases hao : ao with
  | none => have := h3 hao; omega
  | some a =>
    obtain ⟨b, off, s⟩ := a
    obtain ⟨k1, k2⟩ := h4 b off s hao
    obtain ⟨k3, rfl⟩ := k1 hn
    exact ⟨b, off, rfl, k3, rfl, k2⟩
/-- the value reads as a formula -/
def FmV (w : World) (v : Value) (f : Fm) : Prop := ∃ nv, v = .agg #[.int .i64 f.vars, nv, .int .i64 f.top] ∧ NdsV w nv f.nodes ∧ I64 f.vars ∧ I64 f.top
theorem FmV.below {w w' : World} {v : Value} {f : Fm} (h : FmV w v f) (hb : Below w.heap.size w w') : FmV w' v f := by
  obtain ⟨nv, h1, h2, h3, h4⟩ := h
  exact ⟨nv, h1, h2.below hb, h3, h4⟩
/-- the value reads as a node -/
def NdV (w : World) (v : Value) (n : Nd) : Prop := ∃ av, v = .agg #[.int .i64 n.kind, .int .i64 n.K, av] ∧ IntsV w av n.args ∧ I64 n.kind ∧ I64 n.K
theorem NdV.below {w w' : World} {v : Value} {n : Nd} (h : NdV w v n) (hb : Below w.heap.size w w') : NdV w' v n := by
  obtain ⟨nv, h1, h2, h3, h4⟩ := h
  exact ⟨nv, h1, h2.below hb, h3, h4⟩
end Go.Proofs.YthhgfhdmfhnklaaGreatDoor
/-
  formula.Valid, formula.arguments, and the reference's Valid.
  Conditions: each theorem's own.
-/
namespace Go.Proofs.YthhgfhdmfhnklaaGreatDoor
open Go.RowKit Go.ChangeShapes Go.WideShapes

theorem arguments_any (k : Int) (n : Nat) (w : World) (hn : n ≤ 9223372036854775807) : Calls Tryz.prog 120 #[.int .i64 k, .int .i64 (n : Nat)] w (RetS w (.bool (ndArgs k n))) := by
  by_cases h0 : k = 0
  · subst h0
    go_enter Tryz.func120, Tryz.ntmps120
    go_wp2
    go_ret
    exact ⟨ret_bool (by rw [Bool.eq_iff_iff]; simp [ndArgs] <;> omega), rfl⟩
  by_cases h1 : k = 1
  · subst h1
    go_enter Tryz.func120, Tryz.ntmps120
    go_wp2
    go_ret
    exact ⟨ret_bool (by rw [Bool.eq_iff_iff]; simp [ndArgs] <;> omega), rfl⟩
  by_cases h2 : 1 ≤ (n : Int)
  · go_enter Tryz.func120, Tryz.ntmps120
    go_wp2
    go_ret
    exact ⟨ret_bool (by rw [Bool.eq_iff_iff]; simp [ndArgs, h0, h1] <;> omega), rfl⟩
  · go_enter Tryz.func120, Tryz.ntmps120
    go_wp2
    go_ret
    exact ⟨ret_bool (by rw [Bool.eq_iff_iff]; simp [ndArgs, h0, h1] <;> omega), rfl⟩

set_option maxHeartbeats 1000000 in
theorem fvalid_any (vf : Value) (f : Fm) (a : Int) (w : World) (hf : FmV w vf f) (ha : I64 a) : Calls Tryz.prog 81 #[vf, .int .i64 a] w (RetV w (.bool (argOK f a))) := by
  obtain ⟨nv, rfl, hn, hv, _⟩ := hf
  obtain ⟨ao, c, rfl, hc, hc2, _⟩ := hn.shape
  clear hn
  obtain ⟨v, ns, top⟩ := f
  simp only at hv hc ⊢
  unfold I64 at ha hv
  have key : ∀ b : Bool, (b = true ↔ 0 ≤ v ∧ 0 ≤ a ∧ (a < v ∨ a - v < ns.length)) → b = argOK ⟨v, ns, top⟩ a := fun b hb => by rw [Bool.eq_iff_iff, hb]; simp [argOK]
  have KEY := Lib.hid key; clear key
  by_cases c1 : 0 ≤ v
  · by_cases c2 : 0 ≤ a
    · by_cases c3 : a < v
      · go_enter Tryz.func81, Tryz.ntmps81
        go_wp2
        go_ret
        exact ⟨ret_bool (KEY.out _ (by simp; omega)), (Below.refl _ _).alloc (Nat.le_refl _) _⟩
      · go_enter Tryz.func81, Tryz.ntmps81
        go_wp2
        go_ret
        exact ⟨ret_bool (KEY.out _ (by simp; omega)), (Below.refl _ _).alloc (Nat.le_refl _) _⟩
    · go_enter Tryz.func81, Tryz.ntmps81
      go_wp2
      go_ret
      exact ⟨ret_bool (KEY.out _ (by simp; omega)), (Below.refl _ _).alloc (Nat.le_refl _) _⟩
  · go_enter Tryz.func81, Tryz.ntmps81
    go_wp2
    go_ret
    exact ⟨ret_bool (KEY.out _ (by simp; omega)), (Below.refl _ _).alloc (Nat.le_refl _) _⟩

set_option maxHeartbeats 1000000 in
theorem rfvalid_any (vf : Value) (f : Fm) (a : Int) (w : World) (hf : FmV w vf f) (ha : I64 a) : Calls Tryz.prog 69 #[vf, .int .i64 a] w (RetV w (.bool (argOK f a))) := by
  obtain ⟨nv, rfl, hn, hv, _⟩ := hf
  obtain ⟨ao, c, rfl, hc, hc2, _⟩ := hn.shape
  clear hn
  obtain ⟨v, ns, top⟩ := f
  simp only at hv hc ⊢
  unfold I64 at ha hv
  have key : ∀ b : Bool, (b = true ↔ 0 ≤ v ∧ 0 ≤ a ∧ (a < v ∨ a - v < ns.length)) → b = argOK ⟨v, ns, top⟩ a := fun b hb => by rw [Bool.eq_iff_iff, hb]; simp [argOK]
  have KEY := Lib.hid key; clear key
  by_cases c1 : 0 ≤ v
  · by_cases c2 : 0 ≤ a
    · by_cases c3 : a < v
      · go_enter Tryz.func69, Tryz.ntmps69
        go_wp2
        go_ret
        exact ⟨ret_bool (KEY.out _ (by simp; omega)), (Below.refl _ _).alloc (Nat.le_refl _) _⟩
      · go_enter Tryz.func69, Tryz.ntmps69
        go_wp2
        go_ret
        exact ⟨ret_bool (KEY.out _ (by simp; omega)), (Below.refl _ _).alloc (Nat.le_refl _) _⟩
    · go_enter Tryz.func69, Tryz.ntmps69
      go_wp2
      go_ret
      exact ⟨ret_bool (KEY.out _ (by simp; omega)), (Below.refl _ _).alloc (Nat.le_refl _) _⟩
  · go_enter Tryz.func69, Tryz.ntmps69
    go_wp2
    go_ret
    exact ⟨ret_bool (KEY.out _ (by simp; omega)), (Below.refl _ _).alloc (Nat.le_refl _) _⟩
end Go.Proofs.YthhgfhdmfhnklaaGreatDoor
/-
  Plain numbers: what a list of words is worth, the words of a number. No program is in sight here.
  Conditions: each theorem's own.
-/
namespace Go.Proofs.YthhgfhdmfhnklaaGreatDoor
open Go.RowKit

/-- what a list of words is worth, the lowest word first -/
def val : List Nat → Nat
  | [] => 0
  | x :: l => x + 4294967296 * val l
/-- the words of a number, no zero at the end -/
def wd (n : Nat) : List Nat := if h : n = 0 then [] else n % 4294967296 :: wd (n / 4294967296)
termination_by n
decreasing_by exact Nat.div_lt_self (by omega) (by decide)
theorem wd_zero : wd 0 = [] := by unfold wd; simp
theorem wd_pos {n : Nat} (h : n ≠ 0) : wd n = n % 4294967296 :: wd (n / 4294967296) := by rw [wd]; rw [dif_neg h]
theorem val_wd (n : Nat) : val (wd n) = n := by
  induction n using Nat.strongRecOn with
  | _ n ih =>
    by_cases h : n = 0
    · subst h; rw [wd_zero]; rfl
    · rw [wd_pos h]
      simp only [val]
      rw [ih _ (Nat.div_lt_self (by omega) (by decide))]
      exact Nat.mod_add_div n 4294967296
theorem U32.nil : U32 [] := fun j => by simp [gd]
theorem U32.cons {x : Nat} {l : List Nat} (h1 : x < 4294967296) (h2 : U32 l) : U32 (x :: l) := by
  intro j
  cases j with
  | zero => exact h1
  | succ j => exact h2 j
theorem U32.head {x : Nat} {l : List Nat} (h : U32 (x :: l)) : x < 4294967296 := h 0
theorem U32.tail {x : Nat} {l : List Nat} (h : U32 (x :: l)) : U32 l := fun j => h (j + 1)
theorem U32.append {a b : List Nat} (h1 : U32 a) (h2 : U32 b) : U32 (a ++ b) := by
  intro j; rw [gd_append]; split
  · exact h1 j
  · exact h2 _
theorem U32.take {a : List Nat} (h : U32 a) (n : Nat) : U32 (a.take n) := by
  intro j; rw [gd_take]; split
  · exact h j
  · decide
theorem U32.drop {a : List Nat} (h : U32 a) (n : Nat) : U32 (a.drop n) := by intro j; rw [gd_drop]; exact h _
theorem U32.set {a : List Nat} (h : U32 a) (k : Nat) {x : Nat} (hx : x < 4294967296) : U32 (a.set k x) := by
  intro j; rw [gd_set]; split
  · exact hx
  · exact h j
theorem U32.replicate (n : Nat) {x : Nat} (hx : x < 4294967296) : U32 (List.replicate n x) := by
  intro j; rw [gd_replicate]; split
  · exact hx
  · decide
theorem u32_wd (n : Nat) : U32 (wd n) := by
  induction n using Nat.strongRecOn with
  | _ n ih =>
    by_cases h : n = 0
    · subst h; rw [wd_zero]; exact U32.nil
    · rw [wd_pos h]
      exact U32.cons (Nat.mod_lt _ (by decide)) (ih _ (Nat.div_lt_self (by omega) (by decide)))
theorem val_append (a b : List Nat) : val (a ++ b) = val a + 4294967296 ^ a.length * val b := by
  induction a with
  | nil => simp [val]
  | cons x a ih =>
    have e : 4294967296 * (4294967296 ^ a.length * val b) = 4294967296 ^ a.length * 4294967296 * val b := by rw [← Nat.mul_assoc, Nat.mul_comm 4294967296]
    simp only [List.cons_append, val, ih, List.length_cons]
    rw [Nat.pow_succ, Nat.mul_add, e]; omega
theorem val_lt {l : List Nat} (h : U32 l) : val l < 4294967296 ^ l.length := by
  induction l with
  | nil => simp [val]
  | cons x l ih =>
    have := ih h.tail
    have := h.head
    simp only [val, List.length_cons]; rw [Nat.pow_succ]; omega
theorem val_zeros (n : Nat) : val (List.replicate n 0) = 0 := by
  induction n with
  | zero => rfl
  | succ n ih => rw [List.replicate_succ]; simp only [val, ih]
theorem val_drop {l : List Nat} (h : U32 l) (n : Nat) : val (l.drop n) = val l / 4294967296 ^ n := by
  induction n generalizing l with
  | zero => simp
  | succ n ih =>
    cases l with
    | nil => simp [val]
    | cons x l =>
      rw [List.drop_succ_cons, ih h.tail, Nat.pow_succ, Nat.mul_comm, ← Nat.div_div_eq_div_mul]
      congr 1
      have := h.head
      simp only [val]; omega
theorem val_take {l : List Nat} (h : U32 l) (n : Nat) : val (l.take n) = val l % 4294967296 ^ n := by
  have e : val l = val (l.take n) + 4294967296 ^ (l.take n).length * val (l.drop n) := by rw [← val_append, List.take_append_drop]
  by_cases hn : n ≤ l.length
  · have hl : (l.take n).length = n := by rw [List.length_take]; omega
    have hlt := val_lt (h.take n)
    rw [hl] at e hlt
    rw [e, Nat.add_mul_mod_self_left, Nat.mod_eq_of_lt hlt]
  · rw [List.take_of_length_le (by omega), Nat.mod_eq_of_lt]
    exact Nat.lt_of_lt_of_le (val_lt h) (Nat.pow_le_pow_right (by decide) (by omega))
theorem val_gd {l : List Nat} (h : U32 l) (j : Nat) : gd l j = val l / 4294967296 ^ j % 4294967296 := by
  rw [← val_drop h j]
  have e : gd l j = gd (l.drop j) 0 := by rw [gd_drop]; rfl
  rw [e]
  cases hd : l.drop j with
  | nil => simp [val, gd]
  | cons x r =>
    have hx := h.drop j
    rw [hd] at hx
    have := hx.head
    show x = _
    simp only [val]; omega
/-- a list of words without a zero at its end is that of its number -/
def Clean (l : List Nat) : Prop := l = [] ∨ gd l (l.length - 1) ≠ 0
theorem clean_wd (n : Nat) : Clean (wd n) := by
  induction n using Nat.strongRecOn with
  | _ n ih =>
    by_cases h : n = 0
    · subst h; rw [wd_zero]; exact .inl rfl
    · rw [wd_pos h]
      right
      by_cases h2 : n / 4294967296 = 0
      · rw [h2, wd_zero]; show n % 4294967296 ≠ 0; omega
      · rcases ih (n / 4294967296) (Nat.div_lt_self (by omega) (by decide)) with hn | hn
        · rw [wd_pos h2] at hn; cases hn
        · rw [wd_pos h2] at hn ⊢
          simp only [List.length_cons] at hn ⊢
          exact hn
theorem clean_eq {l : List Nat} (hu : U32 l) (hc : Clean l) : l = wd (val l) := by
  induction l with
  | nil => rw [show val [] = 0 from rfl, wd_zero]
  | cons x l ih =>
    have hx := hu.head
    have hne : val (x :: l) ≠ 0 := by
      intro h0
      rcases hc with hc | hc
      · cases hc
      · apply hc
        rw [val_gd hu, h0]; simp
    rw [wd_pos hne]
    have e1 : val (x :: l) % 4294967296 = x := by simp only [val]; omega
    have e2 : val (x :: l) / 4294967296 = val l := by simp only [val]; omega
    rw [e1, e2, ← ih hu.tail]
    rcases hc with hc | hc
    · cases hc
    · cases l with
      | nil => exact .inl rfl
      | cons y l => right; exact hc
/-- zeros at the end change nothing -/
theorem val_take_zeros {l : List Nat} (n : Nat) (h : ∀ j, n ≤ j → gd l j = 0) : val (l.take n) = val l := by
  have e : val l = val (l.take n) + 4294967296 ^ (l.take n).length * val (l.drop n) := by rw [← val_append, List.take_append_drop]
  have hz : l.drop n = List.replicate (l.drop n).length 0 := by
    apply gd_ext (by simp)
    intro j _
    rw [gd_drop, h _ (by omega), gd_replicate]; split <;> rfl
  have : val (l.drop n) = 0 := by rw [hz]; exact val_zeros _
  rw [this] at e; omega
theorem wd_length_le {l : List Nat} (hu : U32 l) : (wd (val l)).length ≤ l.length := by
  obtain ⟨n, hn⟩ : ∃ n, n = val l := ⟨_, rfl⟩
  rw [← hn]
  induction l generalizing n with
  | nil => simp only [val] at hn; subst hn; rw [wd_zero]; exact Nat.le_refl _
  | cons x l ih =>
    by_cases h : n = 0
    · subst h; rw [wd_zero]; exact Nat.zero_le _
    · rw [wd_pos h, List.length_cons, List.length_cons]
      have hx := hu.head
      have := ih hu.tail (n / 4294967296) (by rw [hn]; simp only [val]; omega)
      omega
/-- how long the words of a number are -/
theorem wd_length_of_lt {n k : Nat} (h : n < 4294967296 ^ k) : (wd n).length ≤ k := by
  induction k generalizing n with
  | zero => have : n = 0 := by simpa using h
            subst this; rw [wd_zero]; exact Nat.le_refl _
  | succ k ih =>
    by_cases h0 : n = 0
    · subst h0; rw [wd_zero]; exact Nat.zero_le _
    · rw [wd_pos h0, List.length_cons]
      have := ih (n := n / 4294967296) (Nat.div_lt_of_lt_mul (by rw [Nat.pow_succ, Nat.mul_comm] at h; exact h))
      omega
end Go.Proofs.YthhgfhdmfhnklaaGreatDoor
/-
  natural.trim, natural.word, natural.Of and the reference's: what they hand back.
  Conditions: each theorem's own.
-/
namespace Go.Proofs.YthhgfhdmfhnklaaGreatDoor
open Go.RowKit Go.ChangeShapes Go.WideShapes

theorem Tryz.wordsTy : SliceTy Tryz.prog 52 156 (.int .u32 0) 1 4 := .mk' Tryz.underlying52 (by kernel_rfl)

/-- hands back words of the call's own -/
def RetOwn (w : World) (R : List Nat → Prop) (e : Ending) (w' : World) : Prop := ∃ v l, e = .returned v ∧ Below w.heap.size w w' ∧ OwnW 156 w' w.heap.size v l ∧ R l

/-- a slice literal of words is the call's own -/
theorem own_lit (w : World) (e : TypeId) (B : Nat) (cs : Array Value) (l : List Nat) (n : Nat) (hB : B ≤ w.heap.size) (hU : U32 l) (hn : l.length = n) (hs : l.length ≤ 1000000) (hcs : cs = (l.map fun x : Nat => Value.int .u32 x).toArray) :
    OwnW e (w.alloc (.cells cs e)) B (.slice (some ⟨w.heap.size, 0, none⟩) n n) l := by
  subst hcs hn
  refine ⟨⟨by simp, .inr ⟨w.heap.size, l.length, _, rfl, hB, heap_alloc_new w _, Nat.le_refl _, by unfold maxLen; omega, by simp, by simp [List.take_of_length_le]⟩⟩, hU⟩
theorem Num.take {w : World} {ao : Option Addr} {n c : Nat} {l : List Nat} (h : Num w (.slice ao n c) l) (k : Nat) (hk : k ≤ l.length) : Num w (.slice ao k c) (l.take k) := by
  obtain ⟨ao', c', e, h1, h2, h3, h4, h5⟩ := h
  cases e
  have hl : (l.take k).length = k := by rw [List.length_take]; omega
  refine ⟨ao, c, by rw [hl], by omega, h2, h3, ?_, ?_⟩
  · intro b off s hs
    obtain ⟨k1, k2⟩ := h4 b off s hs
    rw [hl]
    exact ⟨fun h0 => k1 (by omega), fun j hj => by rw [k2 j (by omega), gd_take, if_pos hj]⟩
  · exact fun j => by rw [gd_take]; split
                      · exact h5 j
                      · decide
/-- the words that trim keeps -/
theorem trim_take {l : List Nat} (hu : U32 l) (k : Nat) (hk : k ≤ l.length) (h0 : ∀ j, k ≤ j → gd l j = 0) (hc : k = 0 ∨ gd l (k - 1) ≠ 0) : l.take k = wd (val l) := by
  rw [← val_take_zeros k h0]
  apply clean_eq (fun j => by rw [gd_take]; split
                              · exact hu j
                              · decide)
  rcases hc with rfl | hc
  · exact .inl (by simp)
  · by_cases hz : k = 0
    · subst hz; exact .inl (by simp)
    · right
      have hl : (l.take k).length = k := by rw [List.length_take]; omega
      rw [hl, gd_take, if_pos (by omega)]; exact hc

set_option maxRecDepth 100000 in
set_option maxHeartbeats 800000 in
theorem trim_own (v : Value) (l : List Nat) (w : World) (h : Num w v l) (hl : l.length ≤ 1000000) :
    Calls Tryz.prog 112 #[v] w (RetOwn w fun r => r = wd (val l)) := by
  obtain ⟨ao, c, rfl, hc, hc2, _⟩ := h.shape
  have hu := h.lt
  have HU := Lib.hid hu
  clear hu
  go_enter Tryz.func112, Tryz.ntmps112
  go_wp2_with fail
  go_loop [3] (fun n => ∃ k : Nat, k ≤ l.length ∧ n = .int .i64 k ∧ Hid (∀ j, k ≤ j → gd l j = 0)) (fun n => (intOf n).toNat)
  case atStart => exact ⟨l.length, Nat.le_refl _, rfl, Lib.hid fun j hj => gd_over _ _ hj⟩
  case round =>
    obtain ⟨k, hk, rfl, hz⟩ := hrel
    by_cases hk0 : k = 0
    · subst hk0
      have hv : val l = 0 := by
        have := val_take_zeros 0 hz.out
        rw [← this]; rfl
      have HV := Lib.hid hv; clear hv
      go_wp2_with fail
      go_ret
      exact ⟨_, [], rfl, Below.refl _ _, OwnW.nil _ _ _, by rw [HV.out, wd_zero]⟩
    · obtain ⟨b, off, rfl, hbs, hcell⟩ := h.at (by omega)
      have hx := hcell (k - 1) (by omega)
      have hx' : w.cell? ⟨b, off + (k - 1), none⟩ = _ := hx
      have hxl := HU.out (k - 1)
      obtain ⟨x, hxe⟩ : ∃ x, x = gd l (k - 1) := ⟨_, rfl⟩
      rw [← hxe] at hx hxl
      obtain ⟨m, rfl⟩ : ∃ m, k = m + 1 := ⟨k - 1, by omega⟩
      simp only [Nat.add_sub_cancel] at hx hxe
      have HX := Lib.hid hxe; clear hxe hx' hcell
      by_cases hx0 : x = 0
      · subst hx0
        go_wp2_with fail
        go_round
        case rel =>
          refine ⟨m, by omega, by go_num, Lib.hid fun j hj => ?_⟩
          by_cases hjm : j = m
          · rw [hjm, ← HX.out]
          · exact hz.out j (by omega)
        case measure => simp [intOf]
      · have hd : ((x : Int) == 0) = false := by simp; omega
        have hne : gd l (m + 1 - 1) ≠ 0 := by rw [Nat.add_sub_cancel, ← HX.out]; exact hx0
        have HT := Lib.hid (trim_take HU.out (m + 1) hk hz.out (.inr hne))
        have hnum := h.take (m + 1) hk
        have HN := Lib.hid hnum
        clear hnum hne hx0
        have hown := own_lit w 156 w.heap.size #[] [] 0 (Nat.le_refl _) U32.nil rfl (by simp) rfl
        have HO := Lib.hid hown; clear hown
        go_wp2_with (at_builtin; refine wpList_appendN Tryz.wordsTy rfl (.tmp 20) (.tmp 23) rfl w.heap.size _ _ [] (l.take (m + 1)) rfl rfl HO.out (HN.out.below ((Below.refl _ _).alloc (Nat.le_refl _) _)) ?c1 ?c2 ?_)
        case c1 => omega
        intro v' w1 h1 h2 h3
        have h4 := h2 w ((Below.refl _ _).alloc (Nat.le_refl _) _)
        go_wp2_with fail
        go_ret
        exact ⟨_, _, rfl, h4, h1, HT.out⟩
theorem trim_any (v : Value) (l : List Nat) (w : World) (h : Num w v l) (hl : l.length ≤ 1000000) :
    Calls Tryz.prog 112 #[v] w (RetNum w fun r => r = wd (val l)) := by
  refine (trim_own v l w h hl).mono ?_
  rintro e w' ⟨v', l', he, hb, ho, hr⟩
  exact ⟨v', l', he, hb, ho.num, hr⟩
set_option maxRecDepth 100000 in
set_option maxHeartbeats 800000 in
theorem rtrim_own (v : Value) (l : List Nat) (w : World) (h : Num w v l) (hl : l.length ≤ 1000000) :
    Calls Tryz.prog 160 #[v] w (RetOwn w fun r => r = wd (val l)) := by
  obtain ⟨ao, c, rfl, hc, hc2, _⟩ := h.shape
  have hu := h.lt
  have HU := Lib.hid hu
  clear hu
  go_enter Tryz.func160, Tryz.ntmps160
  go_wp2_with fail
  go_loop [3] (fun n => ∃ k : Nat, k ≤ l.length ∧ n = .int .i64 k ∧ Hid (∀ j, k ≤ j → gd l j = 0)) (fun n => (intOf n).toNat)
  case atStart => exact ⟨l.length, Nat.le_refl _, rfl, Lib.hid fun j hj => gd_over _ _ hj⟩
  case round =>
    obtain ⟨k, hk, rfl, hz⟩ := hrel
    by_cases hk0 : k = 0
    · subst hk0
      have hv : val l = 0 := by
        have := val_take_zeros 0 hz.out
        rw [← this]; rfl
      have HV := Lib.hid hv; clear hv
      have hown := own_lit w 156 w.heap.size #[] [] 0 (Nat.le_refl _) U32.nil rfl (by simp) rfl
      have hnum := h.take 0 (Nat.zero_le _)
      have HO := Lib.hid hown; have HN := Lib.hid hnum; clear hown hnum
      go_wp2_with (at_builtin; refine wpList_appendN Tryz.wordsTy rfl (.tmp 18) (.tmp 21) rfl w.heap.size _ _ [] (l.take 0) rfl rfl HO.out (HN.out.below ((Below.refl _ _).alloc (Nat.le_refl _) _)) ?c1 ?c2 ?_)
      intro v' w1 h1 h2 h3
      have h4 := h2 w ((Below.refl _ _).alloc (Nat.le_refl _) _)
      go_wp2_with fail
      go_ret
      exact ⟨_, _, rfl, h4, h1, by show _ = wd (val l); rw [HV.out, wd_zero]⟩
    · obtain ⟨b, off, rfl, hbs, hcell⟩ := h.at (by omega)
      have hx := hcell (k - 1) (by omega)
      have hx' : w.cell? ⟨b, off + (k - 1), none⟩ = _ := hx
      have hxl := HU.out (k - 1)
      obtain ⟨x, hxe⟩ : ∃ x, x = gd l (k - 1) := ⟨_, rfl⟩
      rw [← hxe] at hx hxl
      obtain ⟨m, rfl⟩ : ∃ m, k = m + 1 := ⟨k - 1, by omega⟩
      simp only [Nat.add_sub_cancel] at hx hxe
      have HX := Lib.hid hxe; clear hxe hx' hcell
      by_cases hx0 : x = 0
      · subst hx0
        go_wp2_with fail
        go_round
        case rel =>
          refine ⟨m, by omega, by go_num, Lib.hid fun j hj => ?_⟩
          by_cases hjm : j = m
          · rw [hjm, ← HX.out]
          · exact hz.out j (by omega)
        case measure => simp [intOf]
      · have hd : ((x : Int) == 0) = false := by simp; omega
        have hne : gd l (m + 1 - 1) ≠ 0 := by rw [Nat.add_sub_cancel, ← HX.out]; exact hx0
        have HT := Lib.hid (trim_take HU.out (m + 1) hk hz.out (.inr hne))
        have hnum := h.take (m + 1) hk
        have HN := Lib.hid hnum
        clear hnum hne hx0
        have hown := own_lit w 156 w.heap.size #[] [] 0 (Nat.le_refl _) U32.nil rfl (by simp) rfl
        have HO := Lib.hid hown; clear hown
        go_wp2_with (at_builtin; refine wpList_appendN Tryz.wordsTy rfl (.tmp 18) (.tmp 21) rfl w.heap.size _ _ [] (l.take (m + 1)) rfl rfl HO.out (HN.out.below ((Below.refl _ _).alloc (Nat.le_refl _) _)) ?e1 ?e2 ?_)
        case e1 => omega
        intro v' w1 h1 h2 h3
        have h4 := h2 w ((Below.refl _ _).alloc (Nat.le_refl _) _)
        go_wp2_with fail
        go_ret
        exact ⟨_, _, rfl, h4, h1, HT.out⟩

theorem rtrim_any (v : Value) (l : List Nat) (w : World) (h : Num w v l) (hl : l.length ≤ 1000000) :
    Calls Tryz.prog 160 #[v] w (RetNum w fun r => r = wd (val l)) := by
  refine (rtrim_own v l w h hl).mono ?_
  rintro e w' ⟨v', l', he, hb, ho, hr⟩
  exact ⟨v', l', he, hb, ho.num, hr⟩

set_option maxHeartbeats 400000 in
theorem word_any (v : Value) (l : List Nat) (i : Int) (w : World) (h : Num w v l) (h0 : 0 ≤ i) (h1 : i < 9223372036854775807) :
    Calls Tryz.prog 138 #[v, .int .i64 i] w (RetS w (.int .u64 (gd l i.toNat : Nat))) := by
  obtain ⟨ao, c, rfl, hc, hc2, _⟩ := h.shape
  obtain ⟨k, rfl⟩ := Int.eq_ofNat_of_zero_le h0
  by_cases hk : k < l.length
  · obtain ⟨b, off, rfl, _, hcell⟩ := h.at (by omega)
    have hx := hcell k hk
    have hlt := h.lt k
    clear hcell h
    go_enter Tryz.func138, Tryz.ntmps138
    go_wp2_with fail
    go_ret
    exact ⟨by simp, rfl⟩
  · have hz := gd_over l k (by omega)
    have HZ := Lib.hid hz; clear hz
    go_enter Tryz.func138, Tryz.ntmps138
    go_wp2_with fail
    go_ret
    exact ⟨by simp [HZ.out], rfl⟩

set_option maxHeartbeats 400000 in
theorem rword_any (v : Value) (l : List Nat) (i : Int) (w : World) (h : Num w v l) (h0 : 0 ≤ i) (h1 : i < 9223372036854775807) :
    Calls Tryz.prog 159 #[v, .int .i64 i] w (RetS w (.int .u64 (gd l i.toNat : Nat))) := by
  obtain ⟨ao, c, rfl, hc, hc2, _⟩ := h.shape
  obtain ⟨k, rfl⟩ := Int.eq_ofNat_of_zero_le h0
  by_cases hk : k < l.length
  · obtain ⟨b, off, rfl, _, hcell⟩ := h.at (by omega)
    have hx := hcell k hk
    have hlt := h.lt k
    clear hcell h
    go_enter Tryz.func159, Tryz.ntmps159
    go_wp2_with fail
    go_ret
    exact ⟨by simp, rfl⟩
  · have hz := gd_over l k (by omega)
    have HZ := Lib.hid hz; clear hz
    go_enter Tryz.func159, Tryz.ntmps159
    go_wp2_with fail
    go_ret
    exact ⟨by simp [HZ.out], rfl⟩
end Go.Proofs.YthhgfhdmfhnklaaGreatDoor
/-
  Plain numbers: order of lists of words.
  Conditions: each theorem's own.
-/
namespace Go.Proofs.YthhgfhdmfhnklaaGreatDoor
open Go.RowKit

theorem val_ext {a b : List Nat} (h : ∀ j, gd a j = gd b j) : val a = val b := by
  induction a generalizing b with
  | nil =>
    have := val_take_zeros (l := b) 0 (fun j _ => by rw [← h j]; simp [gd])
    rw [← this]; rfl
  | cons x a ih =>
    cases b with
    | nil =>
      have := val_take_zeros (l := x :: a) 0 (fun j _ => by rw [h j]; simp [gd])
      rw [← this]; rfl
    | cons y b =>
      have h0 := h 0
      rw [gd_cons_zero, gd_cons_zero] at h0
      simp only [val]
      rw [h0, ih (b := b) (fun j => h (j + 1))]
theorem val_digit {l : List Nat} (h : U32 l) (k : Nat) : val l / 4294967296 ^ k = gd l k + 4294967296 * (val l / 4294967296 ^ (k + 1)) := by
  rw [val_gd h, Nat.pow_succ, ← Nat.div_div_eq_div_mul]
  omega
/-- the first word from the top that differs decides -/
theorem val_lt_of_digit {a b : List Nat} (ha : U32 a) (hb : U32 b) (k : Nat) (h : ∀ j, k < j → gd a j = gd b j) (hk : gd a k < gd b k) : val a < val b := by
  have e : val a / 4294967296 ^ (k + 1) = val b / 4294967296 ^ (k + 1) := by
    rw [← val_drop ha, ← val_drop hb]
    exact val_ext fun j => by rw [gd_drop, gd_drop, h _ (by omega)]
  have e1 := val_digit ha k
  have e2 := val_digit hb k
  have : val a / 4294967296 ^ k < val b / 4294967296 ^ k := by rw [e1, e2, e]; omega
  rcases Nat.lt_or_ge (val a) (val b) with h1 | h1
  · exact h1
  · have := Nat.div_le_div_right (c := 4294967296 ^ k) h1; omega
theorem wd_length_mono {m n : Nat} (h : m ≤ n) : (wd m).length ≤ (wd n).length := by
  apply wd_length_of_lt
  have := val_lt (u32_wd n)
  rw [val_wd] at this; omega
/-- how two numbers compare -/
def cmpN (m n : Nat) : Int := if m < n then -1 else if n < m then 1 else 0
theorem cmpN_lt {m n : Nat} (h : m < n) : cmpN m n = -1 := by unfold cmpN; rw [if_pos h]
theorem cmpN_gt {m n : Nat} (h : n < m) : cmpN m n = 1 := by unfold cmpN; rw [if_neg (by omega), if_pos h]
theorem cmpN_eq {m n : Nat} (h : m = n) : cmpN m n = 0 := by unfold cmpN; rw [if_neg (by omega), if_neg (by omega)]
end Go.Proofs.YthhgfhdmfhnklaaGreatDoor
/-
  natural.Cmp and the reference's: what they hand back.
  Conditions: each theorem's own.
-/
namespace Go.Proofs.YthhgfhdmfhnklaaGreatDoor
open Go.RowKit Go.ChangeShapes Go.WideShapes

theorem below_drewN {B : Nat} {a w : World} (h : Below B a w) (n : Nat) : Below B a (w.drewN n) := h.trans ⟨rfl, rfl, rfl, Nat.le_refl _, fun _ _ => rfl⟩

set_option maxRecDepth 100000 in
set_option maxHeartbeats 800000 in
theorem rcmp_any (va vb : Value) (a b : List Nat) (w : World) (ha : Num w va a) (hb : Num w vb b) (hla : a.length ≤ 1000000) (hlb : b.length ≤ 1000000) :
    Calls Tryz.prog 135 #[va, vb] w (RetS w (.int .i64 (cmpN (val a) (val b)))) := by
  obtain ⟨ao, ca, rfl, hca, hca2, _⟩ := ha.shape
  obtain ⟨bo, cb, rfl, hcb, hcb2, _⟩ := hb.shape
  have HA := Lib.hid ha; have HB := Lib.hid hb; clear ha hb
  obtain ⟨r, hr⟩ : ∃ r, r = cmpN (val a) (val b) := ⟨_, rfl⟩
  rw [← hr]
  have HR := Lib.hid hr; clear hr
  go_enter Tryz.func135, Tryz.ntmps135
  go_wp2_with fail
  go_loop [5] (fun i => ∃ k : Nat, k ≤ max a.length b.length ∧ i = .int .i64 ((k : Int) - 1) ∧ Hid (∀ j, k ≤ j → gd a j = gd b j)) (fun i => (intOf i + 1).toNat)
  case atStart => exact ⟨max a.length b.length, Nat.le_refl _, by go_num, Lib.hid fun j hj => by rw [gd_over _ _ (by omega), gd_over _ _ (by omega)]⟩
  case round =>
    obtain ⟨k, hk, rfl, hz⟩ := hrel
    by_cases hk0 : k = 0
    · subst hk0
      have hv : r = 0 := by rw [HR.out]; exact cmpN_eq (val_ext fun j => hz.out j (Nat.zero_le _))
      have HV := Lib.hid hv; clear hv
      go_wp2_with fail
      go_ret
      exact ⟨ret_int HV.out.symm, rfl⟩
    · obtain ⟨m, rfl⟩ : ∃ m, k = m + 1 := ⟨k - 1, by omega⟩
      have hm1 : ((m + 1 : Nat) : Int) - 1 = (m : Int) := by omega
      rw [hm1]
      clear hm1
      have hxa := HA.out.lt m
      have hxb := HB.out.lt m
      obtain ⟨x, hx⟩ : ∃ x, x = gd a m := ⟨_, rfl⟩
      obtain ⟨y, hy⟩ : ∃ y, y = gd b m := ⟨_, rfl⟩
      have hwa := rword_any _ a m w HA.out (by omega) (by omega)
      have hwb := rword_any _ b m w HB.out (by omega) (by omega)
      rw [Int.toNat_natCast, ← hx] at hwa
      rw [Int.toNat_natCast, ← hy] at hwb
      rw [← hx] at hxa
      rw [← hy] at hxb
      have HWA := Lib.hid hwa; have HWB := Lib.hid hwb; have HX := Lib.hid hx; have HY := Lib.hid hy; clear hwa hwb hx hy
      rcases Nat.lt_trichotomy x y with h1 | h1 | h1
      · have hv : r = -1 := by rw [HR.out]; exact cmpN_lt (val_lt_of_digit HA.out.lt HB.out.lt m (fun j hj => hz.out j (by omega)) (by rw [← HX.out, ← HY.out]; exact h1))
        have HV := Lib.hid hv; clear hv
        go_wp2_with (first | (go_at_call 159; (with_reducible refine HWA.out.mono ?_); rintro e w' ⟨rfl, rfl⟩) | (go_at_call 159; (with_reducible refine HWB.out.mono ?_); rintro e w' ⟨rfl, rfl⟩))
        go_ret
        exact ⟨ret_int HV.out.symm, rfl⟩
      · subst h1
        have hzm : ∀ j, m ≤ j → gd a j = gd b j := fun j hj => by
          by_cases hjm : j = m
          · rw [hjm, ← HX.out, ← HY.out]
          · exact hz.out j (by omega)
        have HZ := Lib.hid hzm; clear hzm
        go_wp2_with (first | (go_at_call 159; (with_reducible refine HWA.out.mono ?_); rintro e w' ⟨rfl, rfl⟩) | (go_at_call 159; (with_reducible refine HWB.out.mono ?_); rintro e w' ⟨rfl, rfl⟩))
        go_round
        case rel => exact ⟨m, by omega, rfl, HZ⟩
        case measure => simp [intOf]
      · have hv : r = 1 := by rw [HR.out]; exact cmpN_gt (val_lt_of_digit HB.out.lt HA.out.lt m (fun j hj => (hz.out j (by omega)).symm) (by rw [← HX.out, ← HY.out]; exact h1))
        have HV := Lib.hid hv; clear hv
        go_wp2_with (first | (go_at_call 159; (with_reducible refine HWA.out.mono ?_); rintro e w' ⟨rfl, rfl⟩) | (go_at_call 159; (with_reducible refine HWB.out.mono ?_); rintro e w' ⟨rfl, rfl⟩))
        go_ret
        exact ⟨ret_int HV.out.symm, rfl⟩

set_option maxRecDepth 100000 in
set_option maxHeartbeats 800000 in
theorem cmp_any (va vb : Value) (a b : List Nat) (w : World) (ha : Num w va a) (hb : Num w vb b) (hla : a.length ≤ 1000000) (hlb : b.length ≤ 1000000) :
    Calls Tryz.prog 75 #[va, vb] w (RetV w (.int .i64 (cmpN (val a) (val b)))) := by
  obtain ⟨r, hr⟩ : ∃ r, r = cmpN (val a) (val b) := ⟨_, rfl⟩
  rw [← hr]
  have HR := Lib.hid hr; clear hr
  have hl1 := wd_length_le ha.lt
  have hl2 := wd_length_le hb.lt
  go_enter Tryz.func75, Tryz.ntmps75
  go_wp2_with fail
  (with_reducible refine (trim_any _ _ _ ha hla).mono ?_); rintro e w1 ⟨v1, l1, rfl, hb1, hn1, hl1'⟩
  go_wp2_with fail
  (with_reducible refine (trim_any _ _ _ (hb.below hb1) hlb).mono ?_); rintro e w2 ⟨v2, l2, rfl, hb2, hn2, hl2'⟩
  have hn1 := hn1.below hb2
  have hb12 := hb1.trans (hb2.mono hb1.size)
  rw [← hl1'] at hl1
  rw [← hl2'] at hl2
  obtain ⟨ao, ca, rfl, hca, hca2, _⟩ := hn1.shape
  obtain ⟨bo, cb, rfl, hcb, hcb2, _⟩ := hn2.shape
  have H1 := Lib.hid hl1'; have H2 := Lib.hid hl2'; have HA := Lib.hid hn1; have HB := Lib.hid hn2
  clear hl1' hl2' hn1 hn2 hb1 hb2 ha hb
  rcases Nat.lt_trichotomy l1.length l2.length with h1 | h1 | h1
  · have hv : r = -1 := by
      rw [HR.out]; apply cmpN_lt
      rcases Nat.lt_or_ge (val a) (val b) with h | h
      · exact h
      · have := wd_length_mono h; rw [← H1.out, ← H2.out] at this; omega
    have HV := Lib.hid hv; clear hv
    go_wp2_with fail
    go_ret
    exact ⟨ret_int HV.out.symm, hb12⟩
  · rw [← h1] at hl2 hcb ⊢
    have HB' := HB.out
    rw [← h1] at HB'
    have HBB := Lib.hid HB'; have HL := Lib.hid h1; clear h1 HB'
    go_wp2_with fail
    go_loopw [5] (fun i wx => ∃ k : Nat, k ≤ l1.length ∧ i = .int .i64 ((k : Int) - 1) ∧ Hid (∀ j, k ≤ j → gd l1 j = gd l2 j) ∧ Below w2.heap.size w2 wx) (fun i _ => (intOf i + 1).toNat)
    case atStart => exact ⟨l1.length, Nat.le_refl _, by go_num, Lib.hid fun j hj => by rw [gd_over _ _ (by omega), gd_over _ _ (by rw [← HL.out]; exact hj)], Below.refl _ _⟩
    case round =>
      obtain ⟨k, hk, rfl, hz, hbx⟩ := hrel
      by_cases hk0 : k = 0
      · subst hk0
        have hv : r = 0 := by
          rw [HR.out]; apply cmpN_eq
          rw [← val_wd (val a), ← H1.out, ← val_wd (val b), ← H2.out]; exact val_ext fun j => hz.out j (Nat.zero_le _)
        have HV := Lib.hid hv; clear hv
        go_wp2_with fail
        go_ret
        exact ⟨ret_int HV.out.symm, hb12.trans (hbx.mono hb12.size)⟩
      · obtain ⟨m, rfl⟩ : ∃ m, k = m + 1 := ⟨k - 1, by omega⟩
        have hm1 : ((m + 1 : Nat) : Int) - 1 = (m : Int) := by omega
        rw [hm1]
        clear hm1
        obtain ⟨b1, o1, rfl, _, hc1⟩ := (HA.out.below hbx).at (by omega)
        obtain ⟨b2, o2, rfl, _, hc2⟩ := (HBB.out.below hbx).at (by omega)
        have hx1 := hc1 m (by omega)
        have hx2 := hc2 m (by omega)
        clear hc1 hc2
        have hxa := HA.out.lt m
        have hxb := HB.out.lt m
        obtain ⟨x, hx⟩ : ∃ x, x = gd l1 m := ⟨_, rfl⟩
        obtain ⟨y, hy⟩ : ∃ y, y = gd l2 m := ⟨_, rfl⟩
        rw [← hx] at hxa hx1
        rw [← hy] at hxb hx2
        have HX := Lib.hid hx; have HY := Lib.hid hy; clear hx hy
        rcases Nat.lt_trichotomy x y with g1 | g1 | g1
        · have hv : r = -1 := by
            rw [HR.out, ← val_wd (val a), ← H1.out, ← val_wd (val b), ← H2.out]
            exact cmpN_lt (val_lt_of_digit HA.out.lt HB.out.lt m (fun j hj => hz.out j (by omega)) (by rw [← HX.out, ← HY.out]; exact g1))
          have HV := Lib.hid hv; clear hv
          go_wp2_with fail
          go_quiet (fail)
          go_wp2_with fail
          go_ret
          exact ⟨ret_int HV.out.symm, hb12.trans ((below_drewN hbx _).mono hb12.size)⟩
        · subst g1
          have hzm : ∀ j, m ≤ j → gd l1 j = gd l2 j := fun j hj => by
            by_cases hjm : j = m
            · rw [hjm, ← HX.out, ← HY.out]
            · exact hz.out j (by omega)
          have HZ := Lib.hid hzm; clear hzm
          go_wp2_with fail
          go_quiet (fail)
          go_wp2_with fail
          go_quiet (fail)
          go_wp2_with fail
          go_roundw
          case rel => exact ⟨m, by omega, rfl, HZ, below_drewN hbx _⟩
          case measure => simp [intOf]
        · have hv : r = 1 := by
            rw [HR.out, ← val_wd (val a), ← H1.out, ← val_wd (val b), ← H2.out]
            exact cmpN_gt (val_lt_of_digit HB.out.lt HA.out.lt m (fun j hj => (hz.out j (by omega)).symm) (by rw [← HX.out, ← HY.out]; exact g1))
          have HV := Lib.hid hv; clear hv
          go_wp2_with fail
          go_quiet (fail)
          go_wp2_with fail
          go_quiet (fail)
          go_wp2_with fail
          go_ret
          exact ⟨ret_int HV.out.symm, hb12.trans ((below_drewN (below_drewN hbx _) _).mono hb12.size)⟩
  · have hv : r = 1 := by
      rw [HR.out]; apply cmpN_gt
      rcases Nat.lt_or_ge (val b) (val a) with h | h
      · exact h
      · have := wd_length_mono h; rw [← H1.out, ← H2.out] at this; omega
    have HV := Lib.hid hv; clear hv
    go_wp2_with fail
    go_ret
    exact ⟨ret_int HV.out.symm, hb12⟩
end Go.Proofs.YthhgfhdmfhnklaaGreatDoor
/-
  Plain numbers: sums, differences, products of lists of words, word by word.
  Conditions: each theorem's own.
-/
namespace Go.Proofs.YthhgfhdmfhnklaaGreatDoor
open Go.RowKit

/-- one word more -/
theorem val_take_succ (l : List Nat) (k : Nat) : val (l.take (k + 1)) = val (l.take k) + 4294967296 ^ k * gd l k := by
  induction l generalizing k with
  | nil => simp [val, gd]
  | cons x l ih =>
    cases k with
    | zero => simp [val, gd_cons_zero]
    | succ k =>
      rw [List.take_succ_cons, List.take_succ_cons, gd_cons_succ]
      simp only [val]
      rw [ih k, Nat.pow_succ, Nat.mul_add, ← Nat.mul_assoc, Nat.mul_comm 4294967296 (4294967296 ^ k)]; omega
theorem val_take_full (l : List Nat) {k : Nat} (h : l.length ≤ k) : val (l.take k) = val l := by rw [List.take_of_length_le h]
/-- a word is stored -/
theorem val_set (l : List Nat) (k x : Nat) (h : k < l.length) : val (l.set k x) + 4294967296 ^ k * gd l k = val l + 4294967296 ^ k * x := by
  induction l generalizing k with
  | nil => simp at h
  | cons y l ih =>
    cases k with
    | zero => simp [val, gd_cons_zero]; omega
    | succ k =>
      have := ih k (by simpa using h)
      simp only [List.set_cons_succ, val, gd_cons_succ]
      rw [Nat.pow_succ, Nat.mul_comm _ 4294967296, Nat.mul_assoc, Nat.mul_assoc]; omega
theorem take_set_le (l : List Nat) (k j x : Nat) (h : k ≤ j) : (l.set j x).take k = l.take k := by
  apply List.ext_getElem?
  intro i
  rw [List.getElem?_take, List.getElem?_take, List.getElem?_set]
  split
  · rw [if_neg (by omega)]
  · rfl
theorem val_take_set (l : List Nat) (k x : Nat) (h : k < l.length) : val ((l.set k x).take (k + 1)) = val (l.take k) + 4294967296 ^ k * x := by
  rw [val_take_succ, take_set_le _ _ _ _ (Nat.le_refl _), gd_set, if_pos ⟨rfl, h⟩]
theorem val_snoc (l : List Nat) (x : Nat) : val (l ++ [x]) = val l + 4294967296 ^ l.length * x := by rw [val_append]; simp [val]
/-- how sums go on: O what stands, c the carry, a and b what was added so far -/
theorem add_step {P O c a b x y : Nat} (h : O + P * c = a + b) :
    (O + P * ((c + (x + y)) % 4294967296)) + P * 4294967296 * ((c + (x + y)) / 4294967296) = (a + P * x) + (b + P * y) := by
  have e : (c + (x + y)) % 4294967296 + 4294967296 * ((c + (x + y)) / 4294967296) = c + (x + y) := Nat.mod_add_div _ _
  have : P * ((c + (x + y)) % 4294967296) + P * 4294967296 * ((c + (x + y)) / 4294967296) = P * c + P * x + P * y := by
    rw [Nat.mul_assoc, ← Nat.mul_add, e, Nat.mul_add, Nat.mul_add]; omega
  omega
/-- the carry is spent at the end -/
theorem add_end {a b : List Nat} {n O c : Nat} (ha : U32 a) (hb : U32 b) (hn : max a.length b.length < n) (h : O + 4294967296 ^ n * c = val a + val b) : O = val a + val b := by
  have h1 := val_lt ha
  have h2 := val_lt hb
  have e1 : 4294967296 ^ a.length ≤ 4294967296 ^ (n - 1) := Nat.pow_le_pow_right (by decide) (by omega)
  have e2 : 4294967296 ^ b.length ≤ 4294967296 ^ (n - 1) := Nat.pow_le_pow_right (by decide) (by omega)
  have e3 : 4294967296 ^ n = 4294967296 ^ (n - 1) * 4294967296 := by rw [← Nat.pow_succ]; congr 1; omega
  cases c with
  | zero => simpa using h
  | succ c =>
    have : 4294967296 ^ n ≤ 4294967296 ^ n * (c + 1) := Nat.le_mul_of_pos_right _ (by omega)
    omega

/-- how differences go on: r the borrow -/
theorem sub_step {P O r a b x y d r' : Nat} (h : O + b = a + P * r) (hd : d + y + r = x + 4294967296 * r') :
    (O + P * d) + (b + P * y) = (a + P * x) + P * 4294967296 * r' := by
  have : P * (d + y + r) = P * (x + 4294967296 * r') := by rw [hd]
  rw [Nat.mul_add, Nat.mul_add, Nat.mul_add, ← Nat.mul_assoc] at this
  omega
theorem sub_end {O a b P r : Nat} (hO : O < P) (h : O + b = a + P * r) (hab : b ≤ a) (hr : r ≤ 1) : O = a - b := by
  rcases Nat.le_one_iff_eq_zero_or_eq_one.mp hr with rfl | rfl
  · omega
  · omega
/-- one row of a product goes on -/
theorem mul_step {P O O' c o p s R : Nat} (h : O + P * c = R) (hs : s = c + (p + o)) (h2 : O' + P * o = O + P * (s % 4294967296)) :
    O' + P * 4294967296 * (s / 4294967296) = R + P * p := by
  have e : s % 4294967296 + 4294967296 * (s / 4294967296) = s := Nat.mod_add_div _ _
  have : P * (s % 4294967296) + P * 4294967296 * (s / 4294967296) = P * c + P * p + P * o := by
    rw [Nat.mul_assoc, ← Nat.mul_add, e, hs, Nat.mul_add, Nat.mul_add]; omega
  omega
theorem word_mul {x y : Nat} (hx : x < 4294967296) (hy : y < 4294967296) : x * y ≤ 18446744065119617025 :=
  Nat.le_trans (Nat.mul_le_mul (Nat.le_pred_of_lt hx) (Nat.le_pred_of_lt hy)) (by decide)
theorem mul_bounds {c p o : Nat} (hc : c < 4294967296) (hp : p ≤ 18446744065119617025) (ho : o < 4294967296) : (c + (p + o)) / 4294967296 < 4294967296 ∧ (c + (p + o)) % 4294967296 < 4294967296 := by omega
/-- a row of a product, its next word -/
theorem mul_row (T A x : Nat) (b : List Nat) (k y : Nat) (hy : y = gd b k) :
    T + A * (x * val (b.take k)) + A * 4294967296 ^ k * (x * y) = T + A * (x * val (b.take (k + 1))) := by
  have e : A * 4294967296 ^ k * (x * y) = A * (x * (4294967296 ^ k * y)) := by
    rw [Nat.mul_assoc]; congr 1; rw [Nat.mul_left_comm]
  rw [val_take_succ, ← hy, e, Nat.mul_add x, Nat.mul_add A]; omega
/-- a row of a product is done -/
theorem mul_rows (a b : List Nat) (i x : Nat) (hx : x = gd a i) : val (a.take i) * val b + 4294967296 ^ i * (x * val b) = val (a.take (i + 1)) * val b := by
  rw [val_take_succ, ← hx, Nat.add_mul, Nat.mul_assoc]
theorem gd_zero_of_lt {l : List Nat} (h : U32 l) {n : Nat} (hv : val l < 4294967296 ^ n) (j : Nat) (hj : n ≤ j) : gd l j = 0 := by
  rw [val_gd h, Nat.div_eq_of_lt]
  exact Nat.lt_of_lt_of_le hv (Nat.pow_le_pow_right (by decide) hj)
theorem mul_lt {a b : List Nat} (ha : U32 a) (hb : U32 b) (i : Nat) : val (a.take i) * val b < 4294967296 ^ (i + b.length) := by
  have h1 : val (a.take i) < 4294967296 ^ i := by rw [val_take ha]; exact Nat.mod_lt _ (Nat.pow_pos (by decide))
  rw [Nat.pow_add]
  exact Nat.mul_lt_mul_of_lt_of_le h1 (Nat.le_of_lt (val_lt hb)) (Nat.pow_pos (by decide))
/-- a carry above all words is 0 -/
theorem mul_spent {O P c t : Nat} (h : O + P * c = t) (ht : t < P) : O = t := by
  cases c with
  | zero => simpa using h
  | succ c =>
    have := Nat.le_mul_of_pos_right P (show 0 < c + 1 by omega)
    omega
end Go.Proofs.YthhgfhdmfhnklaaGreatDoor
/-
  natural.Of, natural.Add and the reference's: what they hand back.
  Conditions: each theorem's own.
-/
namespace Go.Proofs.YthhgfhdmfhnklaaGreatDoor
open Go.RowKit Go.ChangeShapes Go.WideShapes

set_option maxRecDepth 100000 in
set_option maxHeartbeats 800000 in
theorem of_any (n : Int) (w : World) (h0 : -9223372036854775808 ≤ n) (h1 : n < 9223372036854775808) :
    Calls Tryz.prog 127 #[.int .i64 n] w (RetNum w fun r => r = wd n.toNat) := by
  by_cases hn : n ≤ 0
  · have hz : n.toNat = 0 := by omega
    have HZ := Lib.hid hz; clear hz
    go_enter Tryz.func127, Tryz.ntmps127
    go_wp2_with fail
    go_ret
    exact ⟨_, [], rfl, Below.refl _ _, Num.nil _, by rw [HZ.out, wd_zero]⟩
  · obtain ⟨k, rfl⟩ := Int.eq_ofNat_of_zero_le (show 0 ≤ n by omega)
    have hcv1 : ∀ wx : World, (convert 3 156 (.int .i64 (k : Int))).run Tryz.prog wx = .ok (.int .u32 ((k % 4294967296 : Nat) : Int)) wx := fun wx => by
      rw [run_convert_int (P := Tryz.prog) wx 3 156 .i64 k (by kernel_rfl) (by kernel_rfl)]
      rfl
    have hcv2 : ∀ wx : World, (convert 3 156 (.int .i64 ((k : Int) / 4294967296))).run Tryz.prog wx = .ok (.int .u32 ((k / 4294967296 % 4294967296 : Nat) : Int)) wx := fun wx => by
      rw [run_convert_int (P := Tryz.prog) wx 3 156 .i64 _ (by kernel_rfl) (by kernel_rfl)]
      rfl
    go_enter Tryz.func127, Tryz.ntmps127
    have hk0 : 0 < k := by omega
    have hk1 : k < 9223372036854775808 := by omega
    clear h0 h1 hn
    have hnl := num_lit w 156 #[.int .u32 ((k % 4294967296 : Nat) : Int), .int .u32 ((k / 4294967296 % 4294967296 : Nat) : Int)] [k % 4294967296, k / 4294967296 % 4294967296] 2 (U32.cons (by omega) (U32.cons (by omega) U32.nil)) rfl (by simp) rfl
    have hv : val [k % 4294967296, k / 4294967296 % 4294967296] = k := by simp only [val]; omega
    have htr := trim_any _ _ _ hnl (by simp)
    rw [hv] at htr
    have HTR := Lib.hid htr; clear hnl hv htr
    go_wp2_with (go_at_call 112; go_loud ((refine HTR.out.mono ?_)); rintro e w1 ⟨v1, l1, rfl, hb1, hn1, hl1⟩)
    go_ret
    exact ⟨_, _, rfl, ((Below.refl _ _).alloc (Nat.le_refl _) _).trans (hb1.mono (by simp)), hn1, hl1⟩

theorem add_bounds {c x y : Nat} (hc : c ≤ 1) (hx : x < 4294967296) (hy : y < 4294967296) : (c + (x + y)) / 4294967296 ≤ 1 ∧ (c + (x + y)) % 4294967296 < 4294967296 := by omega

set_option maxRecDepth 100000 in
set_option maxHeartbeats 800000 in
theorem add_any (va vb : Value) (a b : List Nat) (w : World) (ha : Num w va a) (hb : Num w vb b) (hla : a.length ≤ 900000) (hlb : b.length ≤ 900000) :
    Calls Tryz.prog 105 #[va, vb] w (RetNum w fun r => r = wd (val a + val b)) := by
  obtain ⟨ao, ca, rfl, hca, hca2, _⟩ := ha.shape
  obtain ⟨bo, cb, rfl, hcb, hcb2, _⟩ := hb.shape
  obtain ⟨n, hn⟩ : ∃ n, n = max a.length b.length + 1 := ⟨_, rfl⟩
  have hnb : n ≤ 900001 := by omega
  have hnb' : n ≤ 70368744177664 := by omega
  have hnz : 0 < n := by omega
  have HN := Lib.hid hn
  have HA := Lib.hid ha; have HB := Lib.hid hb
  clear hn ha hb
  go_enter Tryz.func105, Tryz.ntmps105
  go_wp2_with (at_make; refine wpList_makeN Tryz.wordsTy rfl _ _ rfl _ _ _ _ n rfl rfl ?c1 ?c2 hnb' ?_)
  case c1 => rw [HN.out]; simp; omega
  case c2 => rw [HN.out]; simp; omega
  intro w1 hO hB hsz
  go_wp2_with fail
  go_loopw [6, 17] (fun c i wr => ∃ (k cc : Nat) (l : List Nat), k ≤ n ∧ i = .int .i64 k ∧ c = .int .u64 cc ∧ cc ≤ 1 ∧ OwnW 156 wr w.heap.size (.slice (some ⟨w.heap.size, 0, none⟩) n n) l ∧ Hid (l.length = n) ∧ Below w.heap.size w wr ∧
      Hid (val (l.take k) + 4294967296 ^ k * cc = val (a.take k) + val (b.take k))) (fun _ i _ => n - (intOf i).toNat)
  case atStart => exact ⟨0, 0, _, Nat.zero_le _, rfl, rfl, by omega, hO, Lib.hid (by simp), hB, Lib.hid (by simp [val])⟩
  case round =>
    obtain ⟨k, cc, l, hk, rfl, rfl, hcc, hOr, hll, hBr, hinv⟩ := hrel
    have hak := HA.out.lt k
    have hbk := HB.out.lt k
    have har := Lib.hid (HA.out.below hBr)
    have hbr := Lib.hid (HB.out.below hBr)
    by_cases hkn : k < n
    · obtain ⟨x, hx⟩ : ∃ x, x = gd a k := ⟨_, rfl⟩
      obtain ⟨y, hy⟩ : ∃ y, y = gd b k := ⟨_, rfl⟩
      have hwa := word_any _ a k wr har.out (by omega) (by omega)
      have hwb := word_any _ b k wr hbr.out (by omega) (by omega)
      rw [Int.toNat_natCast, ← hx] at hwa
      rw [Int.toNat_natCast, ← hy] at hwb
      rw [← hx] at hak
      rw [← hy] at hbk
      have HWA := Lib.hid hwa; have HWB := Lib.hid hwb; have HX := Lib.hid hx; have HY := Lib.hid hy; clear hwa hwb hx hy
      have hcell := hOr.cell hll.out k hkn
      have hfr := hOr.frozen hll.out k
      have HO := Lib.hid hOr
      obtain ⟨s1, s2⟩ := add_bounds hcc hak hbk
      have S2 := Lib.hid s2; have S1 := Lib.hid s1
      clear hOr s1 s2
      go_wp2_with (first | (go_at_call 138; (with_reducible refine HWA.out.mono ?_); rintro e w' ⟨rfl, rfl⟩) | (go_at_call 138; (with_reducible refine HWB.out.mono ?_); rintro e w' ⟨rfl, rfl⟩))
      go_roundw
      case rel =>
        have hst := HO.out.stored hll.out k ((cc + (x + y)) % 4294967296) S2.out
        exact ⟨k + 1, (cc + (x + y)) / 4294967296, l.set k ((cc + (x + y)) % 4294967296), by omega, by go_num, rfl, S1.out, hst, Lib.hid (by rw [List.length_set]; exact hll.out), hBr.setCell (Nat.le_refl _) _,
          Lib.hid (by rw [val_take_set _ _ _ (by rw [hll.out]; exact hkn), Nat.pow_succ, add_step hinv.out, val_take_succ, val_take_succ, ← HX.out, ← HY.out])⟩
      case measure => simp [intOf]; omega
    · obtain rfl : k = n := by omega
      have hnum := hOr.num
      have hv : val l = val a + val b := by
        have := hinv.out
        rw [val_take_full l (by rw [hll.out]; exact Nat.le_refl _), val_take_full a (by rw [HN.out]; omega), val_take_full b (by rw [HN.out]; omega)] at this
        exact add_end HA.out.lt HB.out.lt (by rw [HN.out]; omega) this
      have htr := trim_any _ _ _ hnum (by rw [hll.out]; omega)
      rw [hv] at htr
      have HT := Lib.hid htr; clear hnum hv htr
      have HL := hll.out
      go_wp2_with (go_at_call 112; (with_reducible refine HT.out.mono ?_); rintro e w' ⟨v', l', rfl, hB', hN', hl'⟩)
      go_ret
      exact ⟨_, _, rfl, hBr.trans (hB'.mono hBr.size), hN', hl'⟩
end Go.Proofs.YthhgfhdmfhnklaaGreatDoor
/-
  The reference's Add, natural.Sub and the reference's: what they hand back.
  Conditions: each theorem's own.
-/
namespace Go.Proofs.YthhgfhdmfhnklaaGreatDoor
open Go.RowKit Go.ChangeShapes Go.WideShapes

theorem cmpN_nlt {m n : Nat} (h : n ≤ m) : decide (cmpN m n < 0) = false := by
  unfold cmpN; rw [if_neg (by omega)]; split <;> rfl
theorem cmpN_islt {m n : Nat} (h : m < n) : decide (cmpN m n < 0) = true := by
  unfold cmpN; rw [if_pos h]; rfl
/-- an error by its number -/
def errV (c : Nat) : Value := if c = 0 then .nilIface else .iface 74 (.int .i64 c)
theorem errV_zero : errV 0 = .nilIface := rfl
theorem errV_pos {c : Nat} (h : c ≠ 0) : errV c = .iface 74 (.int .i64 c) := by simp [errV, h]
/-- hands back words and an error -/
def RetNE (w : World) (n : Nat) (er : Value) (e : Ending) (w' : World) : Prop := ∃ v, e = .returned (.tuple #[v, er]) ∧ Below w.heap.size w w' ∧ Num w' v (wd n)
/-- .. words of the call's own -/
def RetNEO (w : World) (n : Nat) (er : Value) (e : Ending) (w' : World) : Prop := ∃ v, e = .returned (.tuple #[v, er]) ∧ Below w.heap.size w w' ∧ OwnW 156 w' w.heap.size v (wd n)
/-- a slice literal of one word, as the walk lays it -/
theorem num_one (w : World) (e : TypeId) (x : Nat) (hx : x < 4294967296) : Num (w.alloc (.cells #[.int .u32 x] e)) (.slice (some ⟨w.heap.size, 0, none⟩) 1 1) [x] :=
  num_lit w e _ [x] 1 (U32.cons hx U32.nil) rfl (by simp) rfl

/-- a word less another one less a borrow, in 64 bits -/
def subW (x y r : Nat) : Nat := if y + r ≤ x then x - y - r else 18446744073709551616 + x - y - r
theorem subW_lt {x y r : Nat} (hx : x < 4294967296) (hy : y < 4294967296) (hr : r ≤ 1) : subW x y r < 18446744073709551616 := by unfold subW; split <;> omega
theorem subW_wrap {x y r : Nat} (hx : x < 4294967296) (hy : y < 4294967296) (hr : r ≤ 1) : IntKind.u64.wrap (IntKind.u64.wrap ((x : Int) - y) - r) = (subW x y r : Nat) := by
  have e : ∀ n : Int, IntKind.u64.wrap n = n % 18446744073709551616 := fun n => rfl
  rw [e, e]; unfold subW; split <;> omega
theorem subW_borrow {x y r : Nat} (hx : x < 4294967296) (hy : y < 4294967296) (hr : r ≤ 1) : subW x y r / 9223372036854775808 ≤ 1 ∧
    subW x y r % 4294967296 + y + r = x + 4294967296 * (subW x y r / 9223372036854775808) := by unfold subW; split <;> omega

set_option maxRecDepth 100000 in
set_option maxHeartbeats 800000 in
theorem sub_ge (va vb : Value) (a b : List Nat) (w : World) (ha : Num w va a) (hb : Num w vb b) (hla : a.length ≤ 900000) (hlb : b.length ≤ 900000) (hge : val b ≤ val a) :
    Calls Tryz.prog 106 #[va, vb] w (RetNE w (val a - val b) (errV 0)) := by
  have hcmp := cmp_any va vb a b w ha hb (by omega) (by omega)
  obtain ⟨cr, hcr⟩ : ∃ cr, cr = cmpN (val a) (val b) := ⟨_, rfl⟩
  have hcr0 : decide (cr < 0) = false := by rw [hcr]; exact cmpN_nlt hge
  rw [← hcr] at hcmp
  have HC := Lib.hid hcmp; clear hcmp hcr
  obtain ⟨ao, ca, rfl, hca, hca2, _⟩ := ha.shape
  obtain ⟨bo, cb, rfl, hcb, hcb2, _⟩ := hb.shape
  obtain ⟨n, hn⟩ : ∃ n, n = a.length := ⟨_, rfl⟩
  have hnb : n ≤ 900000 := by omega
  have hnb' : n ≤ 70368744177664 := by omega
  have HN := Lib.hid hn
  have HA := Lib.hid ha; have HB := Lib.hid hb
  clear hn ha hb
  rw [errV_zero]
  go_enter Tryz.func106, Tryz.ntmps106
  go_wp2_with fail
  (with_reducible refine HC.out.mono ?_); rintro e w0 ⟨rfl, hb0⟩
  go_wp2_with (at_make; refine wpList_makeN Tryz.wordsTy rfl _ _ rfl _ _ _ _ n rfl rfl ?c1 ?c2 hnb' ?_)
  case c1 => rw [HN.out]
  case c2 => rw [HN.out]
  intro w1 hO hB hsz
  have hB01 := hb0.trans (hB.mono hb0.size)
  have hOb := hO.base hb0.size
  clear hO hB
  go_wp2_with fail
  go_loopw [7, 9, 20] (fun c d i wr => ∃ (k cc : Nat) (l : List Nat), k ≤ n ∧ i = .int .i64 k ∧ c = .int .u64 cc ∧ cc ≤ 1 ∧ OwnW 156 wr w.heap.size (.slice (some ⟨w0.heap.size, 0, none⟩) n n) l ∧ Hid (l.length = n) ∧ Below w.heap.size w wr ∧
      Hid (val (l.take k) + val (b.take k) = val (a.take k) + 4294967296 ^ k * cc)) (fun _ _ i _ => n - (intOf i).toNat)
  case atStart => exact ⟨0, 0, _, Nat.zero_le _, rfl, rfl, by omega, hOb, Lib.hid (by simp), hB01, Lib.hid (by simp [val])⟩
  case round =>
    obtain ⟨k, cc, l, hk, rfl, rfl, hcc, hOr, hll, hBr, hinv⟩ := hrel
    have hak := HA.out.lt k
    have hbk := HB.out.lt k
    have har := Lib.hid (HA.out.below hBr)
    have hbr := Lib.hid (HB.out.below hBr)
    by_cases hkn : k < n
    · obtain ⟨x, hx⟩ : ∃ x, x = gd a k := ⟨_, rfl⟩
      obtain ⟨y, hy⟩ : ∃ y, y = gd b k := ⟨_, rfl⟩
      have hwa := word_any _ a k wr har.out (by omega) (by omega)
      have hwb := word_any _ b k wr hbr.out (by omega) (by omega)
      rw [Int.toNat_natCast, ← hx] at hwa
      rw [Int.toNat_natCast, ← hy] at hwb
      rw [← hx] at hak
      rw [← hy] at hbk
      have HWA := Lib.hid hwa; have HWB := Lib.hid hwb; have HX := Lib.hid hx; have HY := Lib.hid hy; clear hwa hwb hx hy
      have hcell := hOr.cell hll.out k hkn
      have hfr := hOr.frozen hll.out k
      have HO := Lib.hid hOr
      have hsw := subW_wrap hak hbk hcc
      have hslt := subW_lt hak hbk hcc
      have hsb := subW_borrow hak hbk hcc
      obtain ⟨d, hd⟩ : ∃ d, d = subW x y cc := ⟨_, rfl⟩
      rw [← hd] at hsw hslt hsb
      obtain ⟨s1, s2⟩ := hsb
      have S2 := Lib.hid s2; have S1 := Lib.hid s1
      have hdm : d % 4294967296 < 4294967296 := Nat.mod_lt _ (by decide)
      have HDM := Lib.hid hdm
      clear hOr s1 s2 hd hdm
      have hcell' := hcell
      go_wp2_with (first | (go_at_call 138; (with_reducible refine HWA.out.mono ?_); rintro e w' ⟨rfl, rfl⟩) | (go_at_call 138; (with_reducible refine HWB.out.mono ?_); rintro e w' ⟨rfl, rfl⟩))
      go_roundw
      case rel =>
        have hst := HO.out.stored hll.out k (d % 4294967296) HDM.out
        exact ⟨k + 1, d / 9223372036854775808, l.set k (d % 4294967296), by omega, by go_num, rfl, S1.out, hst, Lib.hid (by rw [List.length_set]; exact hll.out), hBr.setCell hb0.size _,
          Lib.hid (by rw [val_take_set _ _ _ (by rw [hll.out]; exact hkn), Nat.pow_succ, val_take_succ, val_take_succ, ← HX.out, ← HY.out]; exact sub_step hinv.out S2.out)⟩
      case measure => simp [intOf]; omega
    · obtain rfl : k = n := by omega
      have hnum := hOr.num
      have hv : val l = val a - val b := by
        have hi := hinv.out
        have hlt := val_lt (hOr.lt)
        have halt := val_lt HA.out.lt
        rw [hll.out] at hlt
        rw [← HN.out] at halt
        rw [val_take_full l (by rw [hll.out]; exact Nat.le_refl _), val_take_full a (by rw [HN.out]; omega), val_take HB.out.lt, Nat.mod_eq_of_lt (by omega)] at hi
        exact sub_end hlt hi hge hcc
      have htr := trim_any _ _ _ hnum (by rw [hll.out]; omega)
      rw [hv] at htr
      have HT := Lib.hid htr; clear hnum hv htr
      have HL := hll.out
      go_wp2_with (go_at_call 112; (with_reducible refine HT.out.mono ?_); rintro e w' ⟨v', l', rfl, hB', hN', hl'⟩)
      go_ret2
      exact ⟨_, rfl, hBr.trans (hB'.mono hBr.size), by rw [← hl']; exact hN'⟩
set_option maxRecDepth 100000 in
set_option maxHeartbeats 800000 in
theorem rsub_own (va vb : Value) (a b : List Nat) (w : World) (ha : Num w va a) (hb : Num w vb b) (hla : a.length ≤ 900000) (hlb : b.length ≤ 900000) (hge : val b ≤ val a) :
    Calls Tryz.prog 136 #[va, vb] w (RetNEO w (val a - val b) (.int .i64 0)) := by
  have hcmp := rcmp_any va vb a b w ha hb (by omega) (by omega)
  obtain ⟨cr, hcr⟩ : ∃ cr, cr = cmpN (val a) (val b) := ⟨_, rfl⟩
  have hcr0 : decide (cr < 0) = false := by rw [hcr]; exact cmpN_nlt hge
  rw [← hcr] at hcmp
  have HC := Lib.hid hcmp; clear hcmp hcr
  obtain ⟨ao, ca, rfl, hca, hca2, _⟩ := ha.shape
  obtain ⟨bo, cb, rfl, hcb, hcb2, _⟩ := hb.shape
  obtain ⟨n, hn⟩ : ∃ n, n = a.length := ⟨_, rfl⟩
  have hni : (a.length : Int) = (n : Int) := by omega
  have HNI := Lib.hid hni; clear hni
  have hnb : n ≤ 900000 := by omega
  have hnb' : n ≤ 70368744177664 := by omega
  have HN := Lib.hid hn
  have HA := Lib.hid ha; have HB := Lib.hid hb
  clear hn ha hb
  go_enter Tryz.func136, Tryz.ntmps136
  go_wp2_with (go_at_call 135; (with_reducible refine HC.out.mono ?_); rintro e w0 ⟨rfl, rfl⟩)
  go_loopw [6, 7, 9, 16] (fun v c d i wr => ∃ (k cc : Nat) (l : List Nat), k ≤ n ∧ i = .int .i64 k ∧ c = .int .u64 cc ∧ cc ≤ 1 ∧ OwnW 156 wr w.heap.size v l ∧ Hid (l.length = k) ∧ Below w.heap.size w wr ∧
      Hid (val l + val (b.take k) = val (a.take k) + 4294967296 ^ k * cc)) (fun _ _ _ i _ => n - (intOf i).toNat)
  case atStart => exact ⟨0, 0, [], Nat.zero_le _, rfl, rfl, by omega, OwnW.nil _ _ _, Lib.hid rfl, Below.refl _ _, Lib.hid (by simp [val])⟩
  case round =>
    obtain ⟨k, cc, l, hk, rfl, rfl, hcc, hOr, hll, hBr, hinv⟩ := hrel
    have hak := HA.out.lt k
    have hbk := HB.out.lt k
    have har := Lib.hid (HA.out.below hBr)
    have hbr := Lib.hid (HB.out.below hBr)
    by_cases hkn : k < n
    · have hkl : k < a.length := by rw [← HN.out]; exact hkn
      obtain ⟨x, hx⟩ : ∃ x, x = gd a k := ⟨_, rfl⟩
      obtain ⟨y, hy⟩ : ∃ y, y = gd b k := ⟨_, rfl⟩
      have hwa := rword_any _ a k wr har.out (by omega) (by omega)
      have hwb := rword_any _ b k wr hbr.out (by omega) (by omega)
      rw [Int.toNat_natCast, ← hx] at hwa
      rw [Int.toNat_natCast, ← hy] at hwb
      rw [← hx] at hak
      rw [← hy] at hbk
      have HWA := Lib.hid hwa; have HWB := Lib.hid hwb; have HX := Lib.hid hx; have HY := Lib.hid hy; clear hwa hwb hx hy
      have hszr := hBr.size
      have HO := Lib.hid hOr
      have hsw := subW_wrap hak hbk hcc
      have hslt := subW_lt hak hbk hcc
      have hsb := subW_borrow hak hbk hcc
      obtain ⟨d, hd⟩ : ∃ d, d = subW x y cc := ⟨_, rfl⟩
      rw [← hd] at hsw hslt hsb
      obtain ⟨s1, s2⟩ := hsb
      have S2 := Lib.hid s2; have S1 := Lib.hid s1
      have hdm : d % 4294967296 < 4294967296 := Nat.mod_lt _ (by decide)
      have HDM := Lib.hid hdm
      have h1 := num_one wr 156 (d % 4294967296) hdm
      have H1 := Lib.hid h1
      clear hOr s1 s2 hd hdm h1
      go_wp2_with (first | (go_at_call 159; (with_reducible refine HWA.out.mono ?_); rintro e w' ⟨rfl, rfl⟩) | (go_at_call 159; (with_reducible refine HWB.out.mono ?_); rintro e w' ⟨rfl, rfl⟩) |
        (at_builtin; refine wpList_appendN Tryz.wordsTy rfl (.tmp 28) (.tmp 31) rfl w.heap.size _ _ l [d % 4294967296] rfl rfl (HO.out.alloc _) H1.out ?c1 ?c2 ?_))
      case c1 => rw [hll.out]; simp; omega
      case c2 => simp; omega
      intro v' w1 h1 h2 h3
      have h4 := h2 w (hBr.alloc hszr _)
      go_wp2_with fail
      go_roundw
      case rel =>
        exact ⟨k + 1, d / 9223372036854775808, l ++ [d % 4294967296], by omega, by go_num, rfl, S1.out, h1, Lib.hid (by rw [List.length_append, hll.out]; rfl), h4,
          Lib.hid (by rw [val_snoc, hll.out, Nat.pow_succ, val_take_succ, val_take_succ, ← HX.out, ← HY.out]; exact sub_step hinv.out S2.out)⟩
      case measure => simp [intOf]; omega
    · have hkl : ¬ k < a.length := by rw [← HN.out]; exact hkn
      obtain rfl : k = n := by omega
      have hnum := hOr.num
      have hv : val l = val a - val b := by
        have hi := hinv.out
        have hlt := val_lt (hOr.lt)
        have halt := val_lt HA.out.lt
        rw [hll.out] at hlt
        rw [← HN.out] at halt
        rw [val_take_full a (by rw [HN.out]; omega), val_take HB.out.lt, Nat.mod_eq_of_lt (by omega)] at hi
        exact sub_end hlt hi hge hcc
      have htr := rtrim_own _ _ _ hnum (by rw [hll.out]; omega)
      rw [hv] at htr
      have HT := Lib.hid htr; clear hnum hv htr
      have HL := hll.out
      go_wp2_with (go_at_call 160; (with_reducible refine HT.out.mono ?_); rintro e w' ⟨v', l', rfl, hB', hN', hl'⟩)
      go_ret2
      exact ⟨_, rfl, hBr.trans (hB'.mono hBr.size), by rw [← hl']; exact hN'.base hBr.size⟩
theorem rsub_ge (va vb : Value) (a b : List Nat) (w : World) (ha : Num w va a) (hb : Num w vb b) (hla : a.length ≤ 900000) (hlb : b.length ≤ 900000) (hge : val b ≤ val a) :
    Calls Tryz.prog 136 #[va, vb] w (RetNE w (val a - val b) (.int .i64 0)) := by
  refine (rsub_own va vb a b w ha hb hla hlb hge).mono ?_
  rintro e w' ⟨v, he, hbb, ho⟩
  exact ⟨v, he, hbb, ho.num⟩
end Go.Proofs.YthhgfhdmfhnklaaGreatDoor
/-
  formula.checkNode and the reference's node.
  Conditions: each theorem's own.
-/
namespace Go.Proofs.YthhgfhdmfhnklaaGreatDoor
open Go.RowKit Go.ChangeShapes Go.WideShapes

/-- the error of a node behind its kind and its number of arguments -/
def ndK (kind K : Int) (n : Nat) : Nat :=
  if kind = 0 then (if K ≠ 0 ∧ K ≠ 1 then 3 else 0) else if kind = 4 then (if K < 1 ∨ (n : Int) < K then 3 else 0) else if K ≠ 0 then 2 else 0
theorem ndErr_type {v K kind : Int} {i : Nat} {args : List Int} (h : kind < 0 ∨ 5 < kind) : ndErr v i ⟨kind, K, args⟩ = 7 := by unfold ndErr; rw [if_pos h]
theorem ndErr_shape {v K kind : Int} {i : Nat} {args : List Int} (h : ¬ (kind < 0 ∨ 5 < kind)) (h2 : ndArgs kind args.length = false) : ndErr v i ⟨kind, K, args⟩ = 11 := by unfold ndErr; rw [if_neg h]; simp only; rw [if_pos h2]
theorem ndErr_index {v K kind : Int} {i : Nat} {args : List Int} (h : ¬ (kind < 0 ∨ 5 < kind)) (h2 : ndArgs kind args.length = true) (q : Nat) (a : Int) (ha : args[q]? = some a) (hb : argBad v i a = true) : ndErr v i ⟨kind, K, args⟩ = 10 := by
  unfold ndErr; rw [if_neg h]; simp only; rw [if_neg (by simp [h2]), if_pos (List.any_eq_true.2 ⟨a, List.mem_of_getElem? ha, hb⟩)]
theorem ndErr_kp {v K kind : Int} {i : Nat} {args : List Int} (h : ¬ (kind < 0 ∨ 5 < kind)) (h2 : ndArgs kind args.length = true) (h3 : ∀ a ∈ args.take args.length, argBad v i a = false) : ndErr v i ⟨kind, K, args⟩ = ndK kind K args.length := by
  unfold ndErr ndK
  rw [if_neg h]; simp only
  rw [if_neg (by simp [h2]), if_neg]
  intro hh
  obtain ⟨a, ha, hb⟩ := List.any_eq_true.1 hh
  rw [List.take_length] at h3
  rw [h3 a ha] at hb; cases hb
theorem bad_take {args : List Int} {p : Int → Bool} {q : Nat} {a : Int} (h : ∀ a ∈ args.take q, p a = false) (hq : args[q]? = some a) (ha : p a = false) : ∀ a ∈ args.take (q + 1), p a = false := by
  intro x hx
  rw [List.take_add_one, hq] at hx
  simp only [Option.toList_some, List.mem_append, List.mem_singleton] at hx
  rcases hx with hx | rfl
  · exact h x hx
  · exact ha

set_option maxRecDepth 100000 in
set_option maxHeartbeats 4000000 in
theorem checkNode_any (vf : Value) (f : Fm) (i : Nat) (x : Nd) (w : World) (hf : FmV w vf f) (hx : f.nodes[i]? = some x) (hv : 0 ≤ f.vars ∧ f.vars ≤ 24) (hi : i ≤ 128) :
    Calls Tryz.prog 80 #[vf, .int .i64 (i : Nat)] w (RetV w (errV (ndErr f.vars i x))) := by
  obtain ⟨nv, rfl, hn, _, _⟩ := hf
  obtain ⟨ao, c, rfl, hc, hc2, _⟩ := hn.shape
  have hlt : i < f.nodes.length := (List.getElem?_eq_some_iff.1 hx).1
  obtain ⟨b, off, rfl, hb, _, hat⟩ := hn.at (by omega)
  obtain ⟨c0, c1, ⟨av, c2, hI⟩, hk, hK⟩ := hat i x hx
  clear hn hat
  obtain ⟨v, ns, top⟩ := f
  obtain ⟨kind, K, args⟩ := x
  simp only at hv hc hlt c0 c1 c2 hI hk hK ⊢
  obtain ⟨ao', c', rfl, hc', hc2', _⟩ := hI.shape
  have HI := Lib.hid hI; clear hI
  have hlt' : (i : Int) < (ns.length : Int) := by omega
  unfold I64 at hk hK
  have hbW : Below w.heap.size w ((w.alloc (.cells #[.int .i64 v, .slice (some ⟨b, off, none⟩) ns.length c, .int .i64 top] 24)).alloc (.cells #[.int .i64 kind, .int .i64 K, .slice ao' args.length c'] 82)) := ((Below.refl _ _).alloc (Nat.le_refl _) _).alloc (by simp) _
  clear hx
  by_cases e1 : kind < 0
  · have R := Lib.hid (ndErr_type (v := v) (K := K) (i := i) (args := args) (.inl e1))
    go_enter Tryz.func80, Tryz.ntmps80
    go_wp2
    go_ret
    exact ⟨by rw [R.out]; rfl, by first | exact hbW | exact ((Below.refl _ _).alloc (Nat.le_refl _) _).alloc (by simp) _⟩
  by_cases e2 : 5 < kind
  · have R := Lib.hid (ndErr_type (v := v) (K := K) (i := i) (args := args) (.inr e2))
    go_enter Tryz.func80, Tryz.ntmps80
    go_wp2
    go_ret
    exact ⟨by rw [R.out]; rfl, by first | exact hbW | exact ((Below.refl _ _).alloc (Nat.le_refl _) _).alloc (by simp) _⟩
  have E12 := Lib.hid (show ¬ (kind < 0 ∨ 5 < kind) by omega)
  by_cases ha : ndArgs kind args.length = false
  · have R := Lib.hid (ndErr_shape (v := v) (K := K) (i := i) E12.out ha)
    go_enter Tryz.func80, Tryz.ntmps80
    go_wp2_with fail
    (with_reducible refine (arguments_any _ _ _ (by omega)).mono ?_); rintro e w1 ⟨rfl, rfl⟩
    rw [ha]
    go_wp2
    go_ret
    exact ⟨by rw [R.out]; rfl, by first | exact hbW | exact ((Below.refl _ _).alloc (Nat.le_refl _) _).alloc (by simp) _⟩
  have ha : ndArgs kind args.length = true := by simpa using ha
  have HA := Lib.hid ha
  have R10 := Lib.hid (ndErr_index (v := v) (K := K) (i := i) E12.out ha)
  have RK := Lib.hid (ndErr_kp (v := v) (K := K) (i := i) E12.out ha)
  have hkk : kind = 0 ∨ kind = 4 ∨ (kind ≠ 0 ∧ kind ≠ 4) := by omega
  rcases hkk with rfl | rfl | ⟨n0, n4⟩
  · go_enter Tryz.func80, Tryz.ntmps80
    go_wp2_with fail
    (with_reducible refine (arguments_any _ _ _ (by omega)).mono ?_); rintro e w1 ⟨rfl, rfl⟩
    rw [HA.out]
    go_wp2_with fail
    go_loopw [33] (fun i' wx => ∃ q : Nat, q ≤ args.length ∧ i' = .int .i64 q ∧ wx = ((w.alloc (.cells #[.int .i64 v, .slice (some ⟨b, off, none⟩) ns.length c, .int .i64 top] 24)).alloc (.cells #[.int .i64 0, .int .i64 K, .slice ao' args.length c'] 82)) ∧ Hid (∀ a ∈ args.take q, argBad v i a = false)) (fun i' _ => args.length - (intOf i').toNat)
    case atStart => exact ⟨0, Nat.zero_le _, rfl, by first | rfl | trivial, Lib.hid (by simp)⟩
    case round =>
      obtain ⟨q, hq, rfl, rfl, G⟩ := hrel
      by_cases hlt2 : q < args.length
      · obtain ⟨b', off', rfl, hb', _, hat'⟩ := HI.out.at (by omega)
        obtain ⟨a, hqa⟩ : ∃ a, args[q]? = some a := ⟨args[q], List.getElem?_eq_getElem hlt2⟩
        have ca := hat' q a hqa
        have hla := HI.out.lt a (List.mem_of_getElem? hqa)
        unfold I64 at hla
        clear hat'
        have HQ := Lib.hid hqa; clear hqa
        have hlt3 : (q : Int) < (args.length : Int) := by omega
        by_cases a1 : a < 0
        · go_wp2
          all_goals (go_ret; exact ⟨by rw [R10.out q a HQ.out (decide_eq_true (Or.inl a1))]; rfl, by first | exact hbW | exact ((Below.refl _ _).alloc (Nat.le_refl _) _).alloc (by simp) _⟩)
        by_cases a2 : v + i ≤ a
        · go_wp2
          all_goals (go_ret; exact ⟨by rw [R10.out q a HQ.out (decide_eq_true (Or.inr a2))]; rfl, by first | exact hbW | exact ((Below.refl _ _).alloc (Nat.le_refl _) _).alloc (by simp) _⟩)
        · go_wp2
          go_roundw
          case rel => exact ⟨q + 1, by omega, by go_num, by first | rfl | trivial, Lib.hid (bad_take G.out HQ.out (decide_eq_false (by omega)))⟩
          case measure => simp [intOf]; omega
      · have hq' : q = args.length := by omega
        subst hq'
        have R := Lib.hid (RK.out G.out); clear G RK R10
        by_cases h0 : K = 0
        · have hR : ndK 0 K args.length = 0 := by unfold ndK; first | (simp <;> omega) | (rw [if_neg n0, if_neg n4]; simp <;> omega)
          rw [hR] at R
          go_wp2
          all_goals first | (exfalso; omega) | (go_ret; exact ⟨by rw [R.out]; rfl, by first | exact hbW | exact ((Below.refl _ _).alloc (Nat.le_refl _) _).alloc (by simp) _⟩) | (exfalso; simp_all; done)
        by_cases h1 : K = 1
        · have hR : ndK 0 K args.length = 0 := by unfold ndK; first | (simp <;> omega) | (rw [if_neg n0, if_neg n4]; simp <;> omega)
          rw [hR] at R
          go_wp2
          all_goals first | (exfalso; omega) | (go_ret; exact ⟨by rw [R.out]; rfl, by first | exact hbW | exact ((Below.refl _ _).alloc (Nat.le_refl _) _).alloc (by simp) _⟩) | (exfalso; simp_all; done)
        have hR : ndK 0 K args.length = 3 := by unfold ndK; first | (simp <;> omega) | (rw [if_neg n0, if_neg n4]; simp <;> omega)
        rw [hR] at R
        go_wp2
        all_goals first | (exfalso; omega) | (go_ret; exact ⟨by rw [R.out]; rfl, by first | exact hbW | exact ((Below.refl _ _).alloc (Nat.le_refl _) _).alloc (by simp) _⟩) | (exfalso; simp_all; done)
  · go_enter Tryz.func80, Tryz.ntmps80
    go_wp2_with fail
    (with_reducible refine (arguments_any _ _ _ (by omega)).mono ?_); rintro e w1 ⟨rfl, rfl⟩
    rw [HA.out]
    go_wp2_with fail
    go_loopw [33] (fun i' wx => ∃ q : Nat, q ≤ args.length ∧ i' = .int .i64 q ∧ wx = ((w.alloc (.cells #[.int .i64 v, .slice (some ⟨b, off, none⟩) ns.length c, .int .i64 top] 24)).alloc (.cells #[.int .i64 4, .int .i64 K, .slice ao' args.length c'] 82)) ∧ Hid (∀ a ∈ args.take q, argBad v i a = false)) (fun i' _ => args.length - (intOf i').toNat)
    case atStart => exact ⟨0, Nat.zero_le _, rfl, by first | rfl | trivial, Lib.hid (by simp)⟩
    case round =>
      obtain ⟨q, hq, rfl, rfl, G⟩ := hrel
      by_cases hlt2 : q < args.length
      · obtain ⟨b', off', rfl, hb', _, hat'⟩ := HI.out.at (by omega)
        obtain ⟨a, hqa⟩ : ∃ a, args[q]? = some a := ⟨args[q], List.getElem?_eq_getElem hlt2⟩
        have ca := hat' q a hqa
        have hla := HI.out.lt a (List.mem_of_getElem? hqa)
        unfold I64 at hla
        clear hat'
        have HQ := Lib.hid hqa; clear hqa
        have hlt3 : (q : Int) < (args.length : Int) := by omega
        by_cases a1 : a < 0
        · go_wp2
          all_goals (go_ret; exact ⟨by rw [R10.out q a HQ.out (decide_eq_true (Or.inl a1))]; rfl, by first | exact hbW | exact ((Below.refl _ _).alloc (Nat.le_refl _) _).alloc (by simp) _⟩)
        by_cases a2 : v + i ≤ a
        · go_wp2
          all_goals (go_ret; exact ⟨by rw [R10.out q a HQ.out (decide_eq_true (Or.inr a2))]; rfl, by first | exact hbW | exact ((Below.refl _ _).alloc (Nat.le_refl _) _).alloc (by simp) _⟩)
        · go_wp2
          go_roundw
          case rel => exact ⟨q + 1, by omega, by go_num, by first | rfl | trivial, Lib.hid (bad_take G.out HQ.out (decide_eq_false (by omega)))⟩
          case measure => simp [intOf]; omega
      · have hq' : q = args.length := by omega
        subst hq'
        have R := Lib.hid (RK.out G.out); clear G RK R10
        by_cases h0 : K < 1
        · have hR : ndK 4 K args.length = 3 := by unfold ndK; first | (simp <;> omega) | (rw [if_neg n0, if_neg n4]; simp <;> omega)
          rw [hR] at R
          go_wp2
          all_goals first | (exfalso; omega) | (go_ret; exact ⟨by rw [R.out]; rfl, by first | exact hbW | exact ((Below.refl _ _).alloc (Nat.le_refl _) _).alloc (by simp) _⟩) | (exfalso; simp_all; done)
        by_cases h1 : (args.length : Int) < K
        · have hR : ndK 4 K args.length = 3 := by unfold ndK; first | (simp <;> omega) | (rw [if_neg n0, if_neg n4]; simp <;> omega)
          rw [hR] at R
          go_wp2
          all_goals first | (exfalso; omega) | (go_ret; exact ⟨by rw [R.out]; rfl, by first | exact hbW | exact ((Below.refl _ _).alloc (Nat.le_refl _) _).alloc (by simp) _⟩) | (exfalso; simp_all; done)
        have hR : ndK 4 K args.length = 0 := by unfold ndK; first | (simp <;> omega) | (rw [if_neg n0, if_neg n4]; simp <;> omega)
        rw [hR] at R
        go_wp2
        all_goals first | (exfalso; omega) | (go_ret; exact ⟨by rw [R.out]; rfl, by first | exact hbW | exact ((Below.refl _ _).alloc (Nat.le_refl _) _).alloc (by simp) _⟩) | (exfalso; simp_all; done)
  · go_enter Tryz.func80, Tryz.ntmps80
    go_wp2_with fail
    (with_reducible refine (arguments_any _ _ _ (by omega)).mono ?_); rintro e w1 ⟨rfl, rfl⟩
    rw [HA.out]
    go_wp2_with fail
    go_loopw [33] (fun i' wx => ∃ q : Nat, q ≤ args.length ∧ i' = .int .i64 q ∧ wx = ((w.alloc (.cells #[.int .i64 v, .slice (some ⟨b, off, none⟩) ns.length c, .int .i64 top] 24)).alloc (.cells #[.int .i64 kind, .int .i64 K, .slice ao' args.length c'] 82)) ∧ Hid (∀ a ∈ args.take q, argBad v i a = false)) (fun i' _ => args.length - (intOf i').toNat)
    case atStart => exact ⟨0, Nat.zero_le _, rfl, by first | rfl | trivial, Lib.hid (by simp)⟩
    case round =>
      obtain ⟨q, hq, rfl, rfl, G⟩ := hrel
      by_cases hlt2 : q < args.length
      · obtain ⟨b', off', rfl, hb', _, hat'⟩ := HI.out.at (by omega)
        obtain ⟨a, hqa⟩ : ∃ a, args[q]? = some a := ⟨args[q], List.getElem?_eq_getElem hlt2⟩
        have ca := hat' q a hqa
        have hla := HI.out.lt a (List.mem_of_getElem? hqa)
        unfold I64 at hla
        clear hat'
        have HQ := Lib.hid hqa; clear hqa
        have hlt3 : (q : Int) < (args.length : Int) := by omega
        by_cases a1 : a < 0
        · go_wp2
          all_goals (go_ret; exact ⟨by rw [R10.out q a HQ.out (decide_eq_true (Or.inl a1))]; rfl, by first | exact hbW | exact ((Below.refl _ _).alloc (Nat.le_refl _) _).alloc (by simp) _⟩)
        by_cases a2 : v + i ≤ a
        · go_wp2
          all_goals (go_ret; exact ⟨by rw [R10.out q a HQ.out (decide_eq_true (Or.inr a2))]; rfl, by first | exact hbW | exact ((Below.refl _ _).alloc (Nat.le_refl _) _).alloc (by simp) _⟩)
        · go_wp2
          go_roundw
          case rel => exact ⟨q + 1, by omega, by go_num, by first | rfl | trivial, Lib.hid (bad_take G.out HQ.out (decide_eq_false (by omega)))⟩
          case measure => simp [intOf]; omega
      · have hq' : q = args.length := by omega
        subst hq'
        have R := Lib.hid (RK.out G.out); clear G RK R10
        by_cases h0 : K = 0
        · have hR : ndK kind K args.length = 0 := by unfold ndK; first | (simp <;> omega) | (rw [if_neg n0, if_neg n4]; simp <;> omega)
          rw [hR] at R
          go_wp2
          all_goals first | (exfalso; omega) | (go_ret; exact ⟨by rw [R.out]; rfl, by first | exact hbW | exact ((Below.refl _ _).alloc (Nat.le_refl _) _).alloc (by simp) _⟩) | (exfalso; simp_all; done)
        have hR : ndK kind K args.length = 2 := by unfold ndK; first | (simp <;> omega) | (rw [if_neg n0, if_neg n4]; simp <;> omega)
        rw [hR] at R
        go_wp2
        all_goals first | (exfalso; omega) | (go_ret; exact ⟨by rw [R.out]; rfl, by first | exact hbW | exact ((Below.refl _ _).alloc (Nat.le_refl _) _).alloc (by simp) _⟩) | (exfalso; simp_all; done)
end Go.Proofs.YthhgfhdmfhnklaaGreatDoor
/-
  The reference's node.
  Conditions: each theorem's own.
-/
namespace Go.Proofs.YthhgfhdmfhnklaaGreatDoor
open Go.RowKit Go.ChangeShapes Go.WideShapes

set_option maxRecDepth 100000 in
set_option maxHeartbeats 4000000 in
theorem rnode_any (vf : Value) (f : Fm) (i : Nat) (x : Nd) (w : World) (hf : FmV w vf f) (hx : f.nodes[i]? = some x) (hv : 0 ≤ f.vars ∧ f.vars ≤ 24) (hi : i ≤ 128) :
    Calls Tryz.prog 68 #[vf, .int .i64 (i : Nat)] w (RetV w (.int .i64 (ndErr f.vars i x : Nat))) := by
  obtain ⟨nv, rfl, hn, _, _⟩ := hf
  obtain ⟨ao, c, rfl, hc, hc2, _⟩ := hn.shape
  have hlt : i < f.nodes.length := (List.getElem?_eq_some_iff.1 hx).1
  obtain ⟨b, off, rfl, hb, _, hat⟩ := hn.at (by omega)
  obtain ⟨c0, c1, ⟨av, c2, hI⟩, hk, hK⟩ := hat i x hx
  clear hn hat
  obtain ⟨v, ns, top⟩ := f
  obtain ⟨kind, K, args⟩ := x
  simp only at hv hc hlt c0 c1 c2 hI hk hK ⊢
  obtain ⟨ao', c', rfl, hc', hc2', _⟩ := hI.shape
  have HI := Lib.hid hI; clear hI
  have hlt' : (i : Int) < (ns.length : Int) := by omega
  unfold I64 at hk hK
  have hbW : Below w.heap.size w ((w.alloc (.cells #[.int .i64 v, .slice (some ⟨b, off, none⟩) ns.length c, .int .i64 top] 24)).alloc (.cells #[.int .i64 kind, .int .i64 K, .slice ao' args.length c'] 82)) := ((Below.refl _ _).alloc (Nat.le_refl _) _).alloc (by simp) _
  clear hx
  by_cases e1 : kind < 0
  · have R := Lib.hid (ndErr_type (v := v) (K := K) (i := i) (args := args) (.inl e1))
    go_enter Tryz.func68, Tryz.ntmps68
    go_wp2
    go_ret
    exact ⟨by rw [R.out]; rfl, by first | exact hbW | exact ((Below.refl _ _).alloc (Nat.le_refl _) _).alloc (by simp) _⟩
  by_cases e2 : 5 < kind
  · have R := Lib.hid (ndErr_type (v := v) (K := K) (i := i) (args := args) (.inr e2))
    go_enter Tryz.func68, Tryz.ntmps68
    go_wp2
    go_ret
    exact ⟨by rw [R.out]; rfl, by first | exact hbW | exact ((Below.refl _ _).alloc (Nat.le_refl _) _).alloc (by simp) _⟩
  have E12 := Lib.hid (show ¬ (kind < 0 ∨ 5 < kind) by omega)
  by_cases ha : ndArgs kind args.length = false
  · have R := Lib.hid (ndErr_shape (v := v) (K := K) (i := i) E12.out ha)
    have hkk : kind = 0 ∨ kind = 1 ∨ kind = 2 ∨ kind = 3 ∨ kind = 4 ∨ kind = 5 := by omega
    rcases hkk with rfl | rfl | rfl | rfl | rfl | rfl
    · have hl : 0 < args.length := by simp [ndArgs] at ha; exact List.length_pos_iff.2 ha
      go_enter Tryz.func68, Tryz.ntmps68
      go_wp2
      go_ret
      exact ⟨by rw [R.out]; rfl, by first | exact hbW | exact ((Below.refl _ _).alloc (Nat.le_refl _) _).alloc (by simp) _⟩
    · have hl : args.length ≠ 1 := by simpa [ndArgs] using ha
      by_cases hl1 : args.length < 1
      · go_enter Tryz.func68, Tryz.ntmps68
        go_wp2
        go_ret
        exact ⟨by rw [R.out]; rfl, by first | exact hbW | exact ((Below.refl _ _).alloc (Nat.le_refl _) _).alloc (by simp) _⟩
      · go_enter Tryz.func68, Tryz.ntmps68
        go_wp2
        go_ret
        exact ⟨by rw [R.out]; rfl, by first | exact hbW | exact ((Below.refl _ _).alloc (Nat.le_refl _) _).alloc (by simp) _⟩
    · have hl : ¬ (1 ≤ args.length ∧ args.length ≤ 16) := by simpa [ndArgs] using ha
      by_cases hl1 : args.length < 1
      · go_enter Tryz.func68, Tryz.ntmps68
        go_wp2
        go_ret
        exact ⟨by rw [R.out]; rfl, by first | exact hbW | exact ((Below.refl _ _).alloc (Nat.le_refl _) _).alloc (by simp) _⟩
      · go_enter Tryz.func68, Tryz.ntmps68
        go_wp2
        go_ret
        exact ⟨by rw [R.out]; rfl, by first | exact hbW | exact ((Below.refl _ _).alloc (Nat.le_refl _) _).alloc (by simp) _⟩
    · have hl : ¬ (1 ≤ args.length ∧ args.length ≤ 16) := by simpa [ndArgs] using ha
      by_cases hl1 : args.length < 1
      · go_enter Tryz.func68, Tryz.ntmps68
        go_wp2
        go_ret
        exact ⟨by rw [R.out]; rfl, by first | exact hbW | exact ((Below.refl _ _).alloc (Nat.le_refl _) _).alloc (by simp) _⟩
      · go_enter Tryz.func68, Tryz.ntmps68
        go_wp2
        go_ret
        exact ⟨by rw [R.out]; rfl, by first | exact hbW | exact ((Below.refl _ _).alloc (Nat.le_refl _) _).alloc (by simp) _⟩
    · have hl : ¬ (1 ≤ args.length ∧ args.length ≤ 16) := by simpa [ndArgs] using ha
      by_cases hl1 : args.length < 1
      · go_enter Tryz.func68, Tryz.ntmps68
        go_wp2
        go_ret
        exact ⟨by rw [R.out]; rfl, by first | exact hbW | exact ((Below.refl _ _).alloc (Nat.le_refl _) _).alloc (by simp) _⟩
      · go_enter Tryz.func68, Tryz.ntmps68
        go_wp2
        go_ret
        exact ⟨by rw [R.out]; rfl, by first | exact hbW | exact ((Below.refl _ _).alloc (Nat.le_refl _) _).alloc (by simp) _⟩
    · have hl : ¬ (1 ≤ args.length ∧ args.length ≤ 16) := by simpa [ndArgs] using ha
      by_cases hl1 : args.length < 1
      · go_enter Tryz.func68, Tryz.ntmps68
        go_wp2
        go_ret
        exact ⟨by rw [R.out]; rfl, by first | exact hbW | exact ((Below.refl _ _).alloc (Nat.le_refl _) _).alloc (by simp) _⟩
      · go_enter Tryz.func68, Tryz.ntmps68
        go_wp2
        go_ret
        exact ⟨by rw [R.out]; rfl, by first | exact hbW | exact ((Below.refl _ _).alloc (Nat.le_refl _) _).alloc (by simp) _⟩
  have ha : ndArgs kind args.length = true := by simpa using ha
  have HA := Lib.hid ha
  have R10 := Lib.hid (ndErr_index (v := v) (K := K) (i := i) E12.out ha)
  have RK := Lib.hid (ndErr_kp (v := v) (K := K) (i := i) E12.out ha)
  have hkk : kind = 0 ∨ kind = 4 ∨ kind = 1 ∨ kind = 2 ∨ kind = 3 ∨ kind = 5 := by omega
  rcases hkk with rfl | rfl | rfl | rfl | rfl | rfl
  · have hl : args.length = 0 := by simpa [ndArgs] using ha
    clear ha
    go_enter Tryz.func68, Tryz.ntmps68
    go_wp2_with fail
    go_loopw [41] (fun i' wx => ∃ q : Nat, q ≤ args.length ∧ i' = .int .i64 q ∧ wx = ((w.alloc (.cells #[.int .i64 v, .slice (some ⟨b, off, none⟩) ns.length c, .int .i64 top] 24)).alloc (.cells #[.int .i64 0, .int .i64 K, .slice ao' 0 c'] 82)) ∧ Hid (∀ a ∈ args.take q, argBad v i a = false)) (fun i' _ => args.length - (intOf i').toNat)
    case atStart => exact ⟨0, Nat.zero_le _, rfl, by first | rfl | trivial, Lib.hid (by simp)⟩
    case round =>
      obtain ⟨q, hq, rfl, rfl, G⟩ := hrel
      by_cases hlt2 : q < args.length
      · exfalso; omega
      · have hq' : q = args.length := by omega
        subst hq'
        have R := Lib.hid (RK.out G.out); clear G RK R10
        by_cases h0 : K = 0
        · have hR : ndK 0 K args.length = 0 := by unfold ndK; first | (simp <;> omega) | (rw [if_neg n0, if_neg n4]; simp <;> omega)
          rw [hR] at R
          go_wp2
          all_goals first | (exfalso; omega) | (go_ret; exact ⟨by rw [R.out]; rfl, by first | exact hbW | exact ((Below.refl _ _).alloc (Nat.le_refl _) _).alloc (by simp) _⟩) | (exfalso; simp_all; done)
        by_cases h1 : K = 1
        · have hR : ndK 0 K args.length = 0 := by unfold ndK; first | (simp <;> omega) | (rw [if_neg n0, if_neg n4]; simp <;> omega)
          rw [hR] at R
          go_wp2
          all_goals first | (exfalso; omega) | (go_ret; exact ⟨by rw [R.out]; rfl, by first | exact hbW | exact ((Below.refl _ _).alloc (Nat.le_refl _) _).alloc (by simp) _⟩) | (exfalso; simp_all; done)
        have hR : ndK 0 K args.length = 3 := by unfold ndK; first | (simp <;> omega) | (rw [if_neg n0, if_neg n4]; simp <;> omega)
        rw [hR] at R
        go_wp2
        all_goals first | (exfalso; omega) | (go_ret; exact ⟨by rw [R.out]; rfl, by first | exact hbW | exact ((Below.refl _ _).alloc (Nat.le_refl _) _).alloc (by simp) _⟩) | (exfalso; simp_all; done)
  · have hl : 1 ≤ args.length ∧ args.length ≤ 16 := by simpa [ndArgs] using ha
    clear ha
    go_enter Tryz.func68, Tryz.ntmps68
    go_wp2_with fail
    go_loopw [41] (fun i' wx => ∃ q : Nat, q ≤ args.length ∧ i' = .int .i64 q ∧ wx = ((w.alloc (.cells #[.int .i64 v, .slice (some ⟨b, off, none⟩) ns.length c, .int .i64 top] 24)).alloc (.cells #[.int .i64 4, .int .i64 K, .slice ao' args.length c'] 82)) ∧ Hid (∀ a ∈ args.take q, argBad v i a = false)) (fun i' _ => args.length - (intOf i').toNat)
    case atStart => exact ⟨0, Nat.zero_le _, rfl, by first | rfl | trivial, Lib.hid (by simp)⟩
    case round =>
      obtain ⟨q, hq, rfl, rfl, G⟩ := hrel
      by_cases hlt2 : q < args.length
      · obtain ⟨b', off', rfl, hb', _, hat'⟩ := HI.out.at (by omega)
        obtain ⟨a, hqa⟩ : ∃ a, args[q]? = some a := ⟨args[q], List.getElem?_eq_getElem hlt2⟩
        have ca := hat' q a hqa
        have hla := HI.out.lt a (List.mem_of_getElem? hqa)
        unfold I64 at hla
        clear hat'
        have HQ := Lib.hid hqa; clear hqa
        have hlt3 : (q : Int) < (args.length : Int) := by omega
        by_cases a1 : a < 0
        · go_wp2
          all_goals (go_ret; exact ⟨by rw [R10.out q a HQ.out (decide_eq_true (Or.inl a1))]; rfl, by first | exact hbW | exact ((Below.refl _ _).alloc (Nat.le_refl _) _).alloc (by simp) _⟩)
        by_cases a2 : v + i ≤ a
        · go_wp2
          all_goals (go_ret; exact ⟨by rw [R10.out q a HQ.out (decide_eq_true (Or.inr a2))]; rfl, by first | exact hbW | exact ((Below.refl _ _).alloc (Nat.le_refl _) _).alloc (by simp) _⟩)
        · go_wp2
          go_roundw
          case rel => exact ⟨q + 1, by omega, by go_num, by first | rfl | trivial, Lib.hid (bad_take G.out HQ.out (decide_eq_false (by omega)))⟩
          case measure => simp [intOf]; omega
      · have hq' : q = args.length := by omega
        subst hq'
        have R := Lib.hid (RK.out G.out); clear G RK R10
        by_cases h0 : K < 1
        · have hR : ndK 4 K args.length = 3 := by unfold ndK; first | (simp <;> omega) | (rw [if_neg n0, if_neg n4]; simp <;> omega)
          rw [hR] at R
          go_wp2
          all_goals first | (exfalso; omega) | (go_ret; exact ⟨by rw [R.out]; rfl, by first | exact hbW | exact ((Below.refl _ _).alloc (Nat.le_refl _) _).alloc (by simp) _⟩) | (exfalso; simp_all; done)
        by_cases h1 : (args.length : Int) < K
        · have hR : ndK 4 K args.length = 3 := by unfold ndK; first | (simp <;> omega) | (rw [if_neg n0, if_neg n4]; simp <;> omega)
          rw [hR] at R
          go_wp2
          all_goals first | (exfalso; omega) | (go_ret; exact ⟨by rw [R.out]; rfl, by first | exact hbW | exact ((Below.refl _ _).alloc (Nat.le_refl _) _).alloc (by simp) _⟩) | (exfalso; simp_all; done)
        have hR : ndK 4 K args.length = 0 := by unfold ndK; first | (simp <;> omega) | (rw [if_neg n0, if_neg n4]; simp <;> omega)
        rw [hR] at R
        go_wp2
        all_goals first | (exfalso; omega) | (go_ret; exact ⟨by rw [R.out]; rfl, by first | exact hbW | exact ((Below.refl _ _).alloc (Nat.le_refl _) _).alloc (by simp) _⟩) | (exfalso; simp_all; done)
  · have hl : args.length = 1 := by simpa [ndArgs] using ha
    clear ha
    go_enter Tryz.func68, Tryz.ntmps68
    go_wp2_with fail
    go_loopw [41] (fun i' wx => ∃ q : Nat, q ≤ args.length ∧ i' = .int .i64 q ∧ wx = ((w.alloc (.cells #[.int .i64 v, .slice (some ⟨b, off, none⟩) ns.length c, .int .i64 top] 24)).alloc (.cells #[.int .i64 1, .int .i64 K, .slice ao' 1 c'] 82)) ∧ Hid (∀ a ∈ args.take q, argBad v i a = false)) (fun i' _ => args.length - (intOf i').toNat)
    case atStart => exact ⟨0, Nat.zero_le _, rfl, by first | rfl | trivial, Lib.hid (by simp)⟩
    case round =>
      obtain ⟨q, hq, rfl, rfl, G⟩ := hrel
      by_cases hlt2 : q < args.length
      · obtain ⟨b', off', rfl, hb', _, hat'⟩ := HI.out.at (by omega)
        obtain ⟨a, hqa⟩ : ∃ a, args[q]? = some a := ⟨args[q], List.getElem?_eq_getElem hlt2⟩
        have ca := hat' q a hqa
        have hla := HI.out.lt a (List.mem_of_getElem? hqa)
        unfold I64 at hla
        clear hat'
        have HQ := Lib.hid hqa; clear hqa
        have hlt3 : (q : Int) < (args.length : Int) := by omega
        by_cases a1 : a < 0
        · go_wp2
          all_goals (go_ret; exact ⟨by rw [R10.out q a HQ.out (decide_eq_true (Or.inl a1))]; rfl, by first | exact hbW | exact ((Below.refl _ _).alloc (Nat.le_refl _) _).alloc (by simp) _⟩)
        by_cases a2 : v + i ≤ a
        · go_wp2
          all_goals (go_ret; exact ⟨by rw [R10.out q a HQ.out (decide_eq_true (Or.inr a2))]; rfl, by first | exact hbW | exact ((Below.refl _ _).alloc (Nat.le_refl _) _).alloc (by simp) _⟩)
        · go_wp2
          go_roundw
          case rel => exact ⟨q + 1, by omega, by go_num, by first | rfl | trivial, Lib.hid (bad_take G.out HQ.out (decide_eq_false (by omega)))⟩
          case measure => simp [intOf]; omega
      · have hq' : q = args.length := by omega
        subst hq'
        have R := Lib.hid (RK.out G.out); clear G RK R10
        by_cases h0 : K = 0
        · have hR : ndK 1 K args.length = 0 := by unfold ndK; first | (simp <;> omega) | (rw [if_neg n0, if_neg n4]; simp <;> omega)
          rw [hR] at R
          go_wp2
          all_goals first | (exfalso; omega) | (go_ret; exact ⟨by rw [R.out]; rfl, by first | exact hbW | exact ((Below.refl _ _).alloc (Nat.le_refl _) _).alloc (by simp) _⟩) | (exfalso; simp_all; done)
        have hR : ndK 1 K args.length = 2 := by unfold ndK; first | (simp <;> omega) | (rw [if_neg n0, if_neg n4]; simp <;> omega)
        rw [hR] at R
        go_wp2
        all_goals first | (exfalso; omega) | (go_ret; exact ⟨by rw [R.out]; rfl, by first | exact hbW | exact ((Below.refl _ _).alloc (Nat.le_refl _) _).alloc (by simp) _⟩) | (exfalso; simp_all; done)
  · have hl : 1 ≤ args.length ∧ args.length ≤ 16 := by simpa [ndArgs] using ha
    clear ha
    go_enter Tryz.func68, Tryz.ntmps68
    go_wp2_with fail
    go_loopw [41] (fun i' wx => ∃ q : Nat, q ≤ args.length ∧ i' = .int .i64 q ∧ wx = ((w.alloc (.cells #[.int .i64 v, .slice (some ⟨b, off, none⟩) ns.length c, .int .i64 top] 24)).alloc (.cells #[.int .i64 2, .int .i64 K, .slice ao' args.length c'] 82)) ∧ Hid (∀ a ∈ args.take q, argBad v i a = false)) (fun i' _ => args.length - (intOf i').toNat)
    case atStart => exact ⟨0, Nat.zero_le _, rfl, by first | rfl | trivial, Lib.hid (by simp)⟩
    case round =>
      obtain ⟨q, hq, rfl, rfl, G⟩ := hrel
      by_cases hlt2 : q < args.length
      · obtain ⟨b', off', rfl, hb', _, hat'⟩ := HI.out.at (by omega)
        obtain ⟨a, hqa⟩ : ∃ a, args[q]? = some a := ⟨args[q], List.getElem?_eq_getElem hlt2⟩
        have ca := hat' q a hqa
        have hla := HI.out.lt a (List.mem_of_getElem? hqa)
        unfold I64 at hla
        clear hat'
        have HQ := Lib.hid hqa; clear hqa
        have hlt3 : (q : Int) < (args.length : Int) := by omega
        by_cases a1 : a < 0
        · go_wp2
          all_goals (go_ret; exact ⟨by rw [R10.out q a HQ.out (decide_eq_true (Or.inl a1))]; rfl, by first | exact hbW | exact ((Below.refl _ _).alloc (Nat.le_refl _) _).alloc (by simp) _⟩)
        by_cases a2 : v + i ≤ a
        · go_wp2
          all_goals (go_ret; exact ⟨by rw [R10.out q a HQ.out (decide_eq_true (Or.inr a2))]; rfl, by first | exact hbW | exact ((Below.refl _ _).alloc (Nat.le_refl _) _).alloc (by simp) _⟩)
        · go_wp2
          go_roundw
          case rel => exact ⟨q + 1, by omega, by go_num, by first | rfl | trivial, Lib.hid (bad_take G.out HQ.out (decide_eq_false (by omega)))⟩
          case measure => simp [intOf]; omega
      · have hq' : q = args.length := by omega
        subst hq'
        have R := Lib.hid (RK.out G.out); clear G RK R10
        by_cases h0 : K = 0
        · have hR : ndK 2 K args.length = 0 := by unfold ndK; first | (simp <;> omega) | (rw [if_neg n0, if_neg n4]; simp <;> omega)
          rw [hR] at R
          go_wp2
          all_goals first | (exfalso; omega) | (go_ret; exact ⟨by rw [R.out]; rfl, by first | exact hbW | exact ((Below.refl _ _).alloc (Nat.le_refl _) _).alloc (by simp) _⟩) | (exfalso; simp_all; done)
        have hR : ndK 2 K args.length = 2 := by unfold ndK; first | (simp <;> omega) | (rw [if_neg n0, if_neg n4]; simp <;> omega)
        rw [hR] at R
        go_wp2
        all_goals first | (exfalso; omega) | (go_ret; exact ⟨by rw [R.out]; rfl, by first | exact hbW | exact ((Below.refl _ _).alloc (Nat.le_refl _) _).alloc (by simp) _⟩) | (exfalso; simp_all; done)
  · have hl : 1 ≤ args.length ∧ args.length ≤ 16 := by simpa [ndArgs] using ha
    clear ha
    go_enter Tryz.func68, Tryz.ntmps68
    go_wp2_with fail
    go_loopw [41] (fun i' wx => ∃ q : Nat, q ≤ args.length ∧ i' = .int .i64 q ∧ wx = ((w.alloc (.cells #[.int .i64 v, .slice (some ⟨b, off, none⟩) ns.length c, .int .i64 top] 24)).alloc (.cells #[.int .i64 3, .int .i64 K, .slice ao' args.length c'] 82)) ∧ Hid (∀ a ∈ args.take q, argBad v i a = false)) (fun i' _ => args.length - (intOf i').toNat)
    case atStart => exact ⟨0, Nat.zero_le _, rfl, by first | rfl | trivial, Lib.hid (by simp)⟩
    case round =>
      obtain ⟨q, hq, rfl, rfl, G⟩ := hrel
      by_cases hlt2 : q < args.length
      · obtain ⟨b', off', rfl, hb', _, hat'⟩ := HI.out.at (by omega)
        obtain ⟨a, hqa⟩ : ∃ a, args[q]? = some a := ⟨args[q], List.getElem?_eq_getElem hlt2⟩
        have ca := hat' q a hqa
        have hla := HI.out.lt a (List.mem_of_getElem? hqa)
        unfold I64 at hla
        clear hat'
        have HQ := Lib.hid hqa; clear hqa
        have hlt3 : (q : Int) < (args.length : Int) := by omega
        by_cases a1 : a < 0
        · go_wp2
          all_goals (go_ret; exact ⟨by rw [R10.out q a HQ.out (decide_eq_true (Or.inl a1))]; rfl, by first | exact hbW | exact ((Below.refl _ _).alloc (Nat.le_refl _) _).alloc (by simp) _⟩)
        by_cases a2 : v + i ≤ a
        · go_wp2
          all_goals (go_ret; exact ⟨by rw [R10.out q a HQ.out (decide_eq_true (Or.inr a2))]; rfl, by first | exact hbW | exact ((Below.refl _ _).alloc (Nat.le_refl _) _).alloc (by simp) _⟩)
        · go_wp2
          go_roundw
          case rel => exact ⟨q + 1, by omega, by go_num, by first | rfl | trivial, Lib.hid (bad_take G.out HQ.out (decide_eq_false (by omega)))⟩
          case measure => simp [intOf]; omega
      · have hq' : q = args.length := by omega
        subst hq'
        have R := Lib.hid (RK.out G.out); clear G RK R10
        by_cases h0 : K = 0
        · have hR : ndK 3 K args.length = 0 := by unfold ndK; first | (simp <;> omega) | (rw [if_neg n0, if_neg n4]; simp <;> omega)
          rw [hR] at R
          go_wp2
          all_goals first | (exfalso; omega) | (go_ret; exact ⟨by rw [R.out]; rfl, by first | exact hbW | exact ((Below.refl _ _).alloc (Nat.le_refl _) _).alloc (by simp) _⟩) | (exfalso; simp_all; done)
        have hR : ndK 3 K args.length = 2 := by unfold ndK; first | (simp <;> omega) | (rw [if_neg n0, if_neg n4]; simp <;> omega)
        rw [hR] at R
        go_wp2
        all_goals first | (exfalso; omega) | (go_ret; exact ⟨by rw [R.out]; rfl, by first | exact hbW | exact ((Below.refl _ _).alloc (Nat.le_refl _) _).alloc (by simp) _⟩) | (exfalso; simp_all; done)
  · have hl : 1 ≤ args.length ∧ args.length ≤ 16 := by simpa [ndArgs] using ha
    clear ha
    go_enter Tryz.func68, Tryz.ntmps68
    go_wp2_with fail
    go_loopw [41] (fun i' wx => ∃ q : Nat, q ≤ args.length ∧ i' = .int .i64 q ∧ wx = ((w.alloc (.cells #[.int .i64 v, .slice (some ⟨b, off, none⟩) ns.length c, .int .i64 top] 24)).alloc (.cells #[.int .i64 5, .int .i64 K, .slice ao' args.length c'] 82)) ∧ Hid (∀ a ∈ args.take q, argBad v i a = false)) (fun i' _ => args.length - (intOf i').toNat)
    case atStart => exact ⟨0, Nat.zero_le _, rfl, by first | rfl | trivial, Lib.hid (by simp)⟩
    case round =>
      obtain ⟨q, hq, rfl, rfl, G⟩ := hrel
      by_cases hlt2 : q < args.length
      · obtain ⟨b', off', rfl, hb', _, hat'⟩ := HI.out.at (by omega)
        obtain ⟨a, hqa⟩ : ∃ a, args[q]? = some a := ⟨args[q], List.getElem?_eq_getElem hlt2⟩
        have ca := hat' q a hqa
        have hla := HI.out.lt a (List.mem_of_getElem? hqa)
        unfold I64 at hla
        clear hat'
        have HQ := Lib.hid hqa; clear hqa
        have hlt3 : (q : Int) < (args.length : Int) := by omega
        by_cases a1 : a < 0
        · go_wp2
          all_goals (go_ret; exact ⟨by rw [R10.out q a HQ.out (decide_eq_true (Or.inl a1))]; rfl, by first | exact hbW | exact ((Below.refl _ _).alloc (Nat.le_refl _) _).alloc (by simp) _⟩)
        by_cases a2 : v + i ≤ a
        · go_wp2
          all_goals (go_ret; exact ⟨by rw [R10.out q a HQ.out (decide_eq_true (Or.inr a2))]; rfl, by first | exact hbW | exact ((Below.refl _ _).alloc (Nat.le_refl _) _).alloc (by simp) _⟩)
        · go_wp2
          go_roundw
          case rel => exact ⟨q + 1, by omega, by go_num, by first | rfl | trivial, Lib.hid (bad_take G.out HQ.out (decide_eq_false (by omega)))⟩
          case measure => simp [intOf]; omega
      · have hq' : q = args.length := by omega
        subst hq'
        have R := Lib.hid (RK.out G.out); clear G RK R10
        by_cases h0 : K = 0
        · have hR : ndK 5 K args.length = 0 := by unfold ndK; first | (simp <;> omega) | (rw [if_neg n0, if_neg n4]; simp <;> omega)
          rw [hR] at R
          go_wp2
          all_goals first | (exfalso; omega) | (go_ret; exact ⟨by rw [R.out]; rfl, by first | exact hbW | exact ((Below.refl _ _).alloc (Nat.le_refl _) _).alloc (by simp) _⟩) | (exfalso; simp_all; done)
        have hR : ndK 5 K args.length = 2 := by unfold ndK; first | (simp <;> omega) | (rw [if_neg n0, if_neg n4]; simp <;> omega)
        rw [hR] at R
        go_wp2
        all_goals first | (exfalso; omega) | (go_ret; exact ⟨by rw [R.out]; rfl, by first | exact hbW | exact ((Below.refl _ _).alloc (Nat.le_refl _) _).alloc (by simp) _⟩) | (exfalso; simp_all; done)
end Go.Proofs.YthhgfhdmfhnklaaGreatDoor
/-
  Plain numbers: the estimate of a word of a quotient out of three words of the dividend and two of the divisor.
  Conditions: each theorem's own.
-/
namespace Go.Proofs.YthhgfhdmfhnklaaGreatDoor
open Go.RowKit

/-- the greatest fit that a word can hold -/
def fit (U3 V2 : Nat) : Nat := min 4294967295 (U3 / V2)
theorem fit_aux {g L x H V : Nat} (k : L < x ↔ H / V < g) : (4294967296 ≤ g ∨ L < x) ↔ fit H V < g := by
  rw [k]; unfold fit; generalize H / V = t; rw [Nat.min_def]; split <;> constructor <;> intro h <;> omega
theorem fit_le_of {H V t : Nat} (h : H / V ≤ t) : fit H V ≤ t := by unfold fit; exact Nat.le_trans (Nat.min_le_right _ _) h
/-- the loop's test, of a guess with its rest: it is too great exactly if it is above the fit -/
theorem fit_test {g top next rest head low : Nat} (ht : 0 < top) (h : g * top + rest = head) :
    (4294967296 ≤ g ∨ rest * 4294967296 + low < g * next) ↔ fit (head * 4294967296 + low) (top * 4294967296 + next) < g := by
  have hV : 0 < top * 4294967296 + next := by omega
  have e : g * (top * 4294967296 + next) = (head - rest) * 4294967296 + g * next := by
    have e0 : g * top = head - rest := by omega
    rw [Nat.mul_add, ← Nat.mul_assoc, e0]
  have k : rest * 4294967296 + low < g * next ↔ (head * 4294967296 + low) / (top * 4294967296 + next) < g := by
    rw [Nat.div_lt_iff_lt_mul hV, e]
    have : rest ≤ head := by omega
    generalize g * next = x
    omega
  exact fit_aux k
/-- a rest that does not fit a word: the guess is low enough -/
theorem fit_rest {g top next rest head low : Nat} (ht : 0 < top) (h : g * top + rest = head) (hn : next < 4294967296) (hg : g < 4294967296) (hr : 4294967296 ≤ rest) :
    ¬ fit (head * 4294967296 + low) (top * 4294967296 + next) < g := by
  rw [← fit_test ht h]
  have h1 : g * next ≤ 4294967295 * 4294967295 := Nat.mul_le_mul (by omega) (by omega)
  omega
/-- the first guess is not too low -/
theorem fit_first {top next head low : Nat} (ht : 0 < top) (hl : low < 4294967296) : fit (head * 4294967296 + low) (top * 4294967296 + next) ≤ head / top := by
  have h1 : (head * 4294967296 + low) / (top * 4294967296 + next) ≤ (head * 4294967296 + low) / (top * 4294967296) := Nat.div_le_div_left (by omega) (by omega)
  have h2 : (head * 4294967296 + low) / (top * 4294967296) = head / top := by
    rw [Nat.mul_comm top, ← Nat.div_div_eq_div_mul]; congr 1; omega
  exact fit_le_of (Nat.le_trans h1 (Nat.le_of_eq h2))
/-- the first guess is at most a little too great for a word -/
theorem guess_le {top u1 u0 : Nat} (ht : 2147483648 ≤ top) (h1 : u1 ≤ top) (h0 : u0 < 4294967296) : (u1 * 4294967296 + u0) / top ≤ 4294967297 := by
  have : u1 * 4294967296 ≤ top * 4294967296 := Nat.mul_le_mul_right _ h1
  rw [← Nat.lt_succ_iff, Nat.div_lt_iff_lt_mul (by omega)]
  omega
/-- the fit is the quotient, or one more -/
theorem fit_near {u v D U3 V2 ul vl : Nat} (hD : 0 < D) (hu : u = U3 * D + ul) (hul : ul < D) (hv : v = V2 * D + vl) (hvl : vl < D) (hV : 4294967296 ≤ V2) (hlt : u < 4294967296 * v) :
    u / v ≤ fit U3 V2 ∧ fit U3 V2 ≤ u / v + 1 := by
  have hv0 : 0 < v := by
    have : 0 < V2 * D := Nat.mul_pos (by omega) hD
    omega
  obtain ⟨q, hq⟩ : ∃ q, q = u / v := ⟨_, rfl⟩
  have hqb : q < 4294967296 := by rw [hq, Nat.div_lt_iff_lt_mul hv0]; exact hlt
  have h1 : q * v ≤ u := by rw [hq]; exact Nat.div_mul_le_self u v
  have h2 : u < (q + 1) * v := by
    have := Nat.lt_mul_div_succ u hv0
    rw [hq, Nat.mul_comm]; exact this
  rw [← hq]
  have hV0 : 0 < V2 := by omega
  constructor
  · unfold fit
    have : q ≤ U3 / V2 := by
      rw [Nat.le_div_iff_mul_le hV0]
      have e : q * V2 * D ≤ q * v := by rw [Nat.mul_assoc]; exact Nat.mul_le_mul_left _ (by omega)
      have : q * V2 * D < (U3 + 1) * D := by rw [Nat.add_mul]; omega
      have := Nat.lt_of_mul_lt_mul_right this
      omega
    exact Nat.le_min.2 ⟨by omega, this⟩
  · unfold fit
    have : U3 / V2 < q + 2 := by
      rw [Nat.div_lt_iff_lt_mul hV0]
      have e1 : U3 * D < (q + 1) * ((V2 + 1) * D) := by
        have : (q + 1) * v ≤ (q + 1) * ((V2 + 1) * D) := Nat.mul_le_mul_left _ (by rw [Nat.add_mul]; omega)
        omega
      rw [← Nat.mul_assoc] at e1
      have e2 := Nat.lt_of_mul_lt_mul_right e1
      have e3 : (q + 1) * (V2 + 1) = q * V2 + q + V2 + 1 := by rw [Nat.add_mul, Nat.mul_add]; omega
      have e4 : (q + 2) * V2 = q * V2 + 2 * V2 := by rw [Nat.add_mul]
      omega
    exact Nat.le_trans (Nat.min_le_right _ _) (Nat.le_of_lt_succ this)
end Go.Proofs.YthhgfhdmfhnklaaGreatDoor
/-
  Plain numbers: how many bits a number has; words joined and cut by bits.
  Conditions: each theorem's own.
-/
namespace Go.Proofs.YthhgfhdmfhnklaaGreatDoor
open Go.RowKit

/-- how many bits a number has -/
def blen (n : Nat) : Nat := if n = 0 then 0 else n.log2 + 1
theorem blen_zero : blen 0 = 0 := rfl
theorem blen_eq {n b : Nat} (h1 : n < 2 ^ b) (h2 : b = 0 ∨ 2 ^ (b - 1) ≤ n) : blen n = b := by
  unfold blen
  by_cases h0 : n = 0
  · subst h0
    rw [if_pos rfl]
    rcases h2 with h2 | h2
    · exact h2.symm
    · have := Nat.two_pow_pos (b - 1); omega
  · rw [if_neg h0]
    have g1 := (Nat.log2_lt h0).2 h1
    rcases h2 with h2 | h2
    · omega
    · have := (Nat.le_log2 h0).2 h2; omega
theorem lt_two_blen (n : Nat) : n < 2 ^ blen n := by
  unfold blen; split
  · omega
  · exact Nat.lt_log2_self
theorem two_blen_le {n : Nat} (h : n ≠ 0) : 2 ^ (blen n - 1) ≤ n ∧ 0 < blen n := by
  unfold blen; rw [if_neg h]; exact ⟨Nat.log2_self_le h, by omega⟩
theorem blen_le {n b : Nat} (h : n < 2 ^ b) : blen n ≤ b := by
  by_cases h0 : n = 0
  · subst h0; exact Nat.zero_le _
  · unfold blen; rw [if_neg h0]; exact (Nat.log2_lt h0).2 h
theorem blen_pos {n : Nat} : 0 < blen n ↔ n ≠ 0 := by
  constructor
  · intro h h0; subst h0; exact absurd h (by decide)
  · intro h; exact (two_blen_le h).2
theorem bitLenAux_eq : ∀ (f x : Nat), x < 2 ^ f → Lib.bitLenAux f x = blen x
  | 0, x, h => by have : x = 0 := by simpa using h
                  subst this; rfl
  | f + 1, x, h => by
    unfold Lib.bitLenAux
    by_cases h0 : x = 0
    · subst h0; rfl
    · rw [if_neg h0, bitLenAux_eq f (x / 2) (by rw [Nat.pow_succ] at h; omega)]
      symm
      have h2 := lt_two_blen (x / 2)
      apply blen_eq
      · rw [Nat.add_comm, Nat.pow_succ]; omega
      · right
        by_cases h3 : x / 2 = 0
        · rw [h3]; simp [blen_zero]; omega
        · have := two_blen_le h3
          rw [Nat.add_sub_cancel_left, show blen (x / 2) = (blen (x / 2) - 1) + 1 from by omega, Nat.pow_succ]; omega
theorem bitLen_eq (x : Nat) (h : x < 4294967296) : Lib.bitLen x = blen x := bitLenAux_eq 64 x (Nat.lt_trans h (by decide))
theorem pow32 (i : Nat) : 4294967296 ^ i = 2 ^ (32 * i) := by rw [Nat.pow_mul]
/-- a number with a highest word -/
theorem blen_top {lo x i : Nat} (hlo : lo < 4294967296 ^ i) (hx : x ≠ 0) : blen (lo + 4294967296 ^ i * x) = 32 * i + blen x := by
  rw [pow32] at *
  have h1 := lt_two_blen x
  have h2 := two_blen_le hx
  apply blen_eq
  · rw [Nat.pow_add]
    have : 2 ^ (32 * i) * (x + 1) ≤ 2 ^ (32 * i) * 2 ^ blen x := Nat.mul_le_mul_left _ h1
    rw [Nat.mul_add] at this; omega
  · right
    rw [show 32 * i + blen x - 1 = 32 * i + (blen x - 1) from by omega, Nat.pow_add]
    have : 2 ^ (32 * i) * 2 ^ (blen x - 1) ≤ 2 ^ (32 * i) * x := Nat.mul_le_mul_left _ h2.1
    omega
theorem val_take_lt {l : List Nat} (h : U32 l) (i : Nat) : val (l.take i) < 4294967296 ^ i := by
  rw [val_take h]; exact Nat.mod_lt _ (Nat.pow_pos (by decide))
/-- one bit more of a word -/
theorem mod_two_pow_succ (x k : Nat) : x % 2 ^ (k + 1) = x % 2 ^ k + 2 ^ k * (x / 2 ^ k % 2) := by
  rw [Nat.pow_succ, Nat.mod_mul]
theorem blen_bit {lo x i k : Nat} (hlo : lo < 4294967296 ^ i) (hb : x / 2 ^ k % 2 = 1) : blen (lo + 4294967296 ^ i * (x % 2 ^ (k + 1))) = 32 * i + k + 1 := by
  have hm : x % 2 ^ k < 2 ^ k := Nat.mod_lt _ (Nat.two_pow_pos _)
  have e : blen (x % 2 ^ (k + 1)) = k + 1 := by
    rw [mod_two_pow_succ, hb, Nat.mul_one]
    exact blen_eq (by rw [Nat.pow_succ]; omega) (.inr (by rw [Nat.add_sub_cancel]; omega))
  have h0 : x % 2 ^ (k + 1) ≠ 0 := by
    have := Nat.two_pow_pos k
    rw [mod_two_pow_succ, hb]; omega
  rw [blen_top hlo h0, e]; omega

theorem wraps_u64 (n : Int) (h₀ : 0 ≤ n) (h₁ : n < 2 ^ 64) : IntKind.u64.wrap n = n := by
  have e : IntKind.u64.wrap n = n % 18446744073709551616 := rfl
  rw [e]; omega
theorem wraps_u32 (n : Int) (h₀ : 0 ≤ n) (h₁ : n < 2 ^ 32) : IntKind.u32.wrap n = n := by
  have e : IntKind.u32.wrap n = n % 4294967296 := rfl
  rw [e]; omega
/-- two words of 32 bits side by side -/
theorem or_words (x y : Nat) (hx : x < 4294967296) (hy : y < 4294967296) : bits .or .u64 (x : Int) ((y : Int) * 4294967296) = ((x + y * 4294967296 : Nat) : Int) := by
  have e : ((y : Int) * 4294967296) = ((y * 4294967296 : Nat) : Int) := rfl
  rw [e, (bits_nat .u64 64 (by decide) wraps_u64 x (y * 4294967296) (by omega) (by omega)).2]
  congr 1
  rw [Nat.or_comm, Nat.mul_comm, show (4294967296 : Nat) = 2 ^ 32 from rfl, ← Nat.two_pow_add_eq_or_of_lt (by omega)]; omega
theorem or_words' (x y : Nat) (hx : x < 4294967296) (hy : y < 4294967296) : bits .or .u64 ((y : Int) * 4294967296) (x : Int) = ((y * 4294967296 + x : Nat) : Int) := by
  have e : ((y : Int) * 4294967296) = ((y * 4294967296 : Nat) : Int) := rfl
  rw [e, (bits_nat .u64 64 (by decide) wraps_u64 (y * 4294967296) x (by omega) (by omega)).2]
  congr 1
  rw [Nat.mul_comm, show (4294967296 : Nat) = 2 ^ 32 from rfl, ← Nat.two_pow_add_eq_or_of_lt (by omega)]
end Go.Proofs.YthhgfhdmfhnklaaGreatDoor
/-
  Plain numbers: division by a word, shifts by fewer bits than a word has.
  Conditions: each theorem's own.
-/
namespace Go.Proofs.YthhgfhdmfhnklaaGreatDoor
open Go.RowKit

theorem val_drop_at (l : List Nat) (m : Nat) : val (l.drop m) = gd l m + 4294967296 * val (l.drop (m + 1)) := by
  by_cases h : m < l.length
  · rw [List.drop_eq_getElem_cons h, gd_lt _ _ h]; rfl
  · rw [List.drop_of_length_le (by omega), List.drop_of_length_le (by omega), gd_over _ _ (by omega)]; rfl
theorem drop_set_lt (l : List Nat) (k j x : Nat) (h : j < k) : (l.set j x).drop k = l.drop k := by
  apply List.ext_getElem?
  intro i
  rw [List.getElem?_drop, List.getElem?_drop, List.getElem?_set, if_neg (by omega)]
theorem val_drop_set (l : List Nat) (m x : Nat) (h : m < l.length) : val ((l.set m x).drop m) = x + 4294967296 * val (l.drop (m + 1)) := by
  rw [val_drop_at, gd_set, if_pos ⟨rfl, h⟩, drop_set_lt _ _ _ _ (Nat.lt_succ_self m)]
/-- one word of a division by a word -/
theorem small_step {V W b r x : Nat} (h : W = V * b + r) : x + 4294967296 * W = ((r * 4294967296 + x) / b + 4294967296 * V) * b + (r * 4294967296 + x) % b := by
  have e := Nat.div_add_mod (r * 4294967296 + x) b
  rw [h, Nat.add_mul, Nat.mul_add, Nat.mul_assoc, Nat.mul_comm ((r * 4294967296 + x) / b) b]
  omega
theorem small_lt {b r x : Nat} (hb : b ≤ 4294967296) (hr : r < b) (hx : x < 4294967296) : (r * 4294967296 + x) / b < 4294967296 := by
  rw [Nat.div_lt_iff_lt_mul (by omega)]
  have : (r + 1) * 4294967296 ≤ b * 4294967296 := Nat.mul_le_mul_right _ hr
  rw [Nat.mul_comm 4294967296 b]
  omega
theorem div_of_eq {a q b r : Nat} (h : a = q * b + r) (hr : r < b) : q = a / b ∧ r = a % b := by
  have e : a = r + b * q := by rw [Nat.mul_comm b q]; omega
  constructor
  · rw [e, Nat.add_mul_div_left _ _ (by omega), Nat.div_eq_of_lt hr, Nat.zero_add]
  · rw [e, Nat.add_mul_mod_self_left, Nat.mod_eq_of_lt hr]
theorem val_of_digits {l : List Nat} (N : Nat) (h : ∀ j, j < l.length → gd l j = N / 4294967296 ^ j % 4294967296) (hN : N < 4294967296 ^ l.length) : val l = N := by
  rw [← val_wd N]
  apply val_ext
  intro j
  rw [val_gd (u32_wd N) j, val_wd]
  by_cases hj : j < l.length
  · exact h j hj
  · rw [gd_over _ _ (by omega), Nat.div_eq_of_lt (Nat.lt_of_lt_of_le hN (Nat.pow_le_pow_right (by decide) (by omega)))]
/-- bits of a word moved up -/
theorem shl_wrap (x n : Nat) (hx : x < 4294967296) (hn : n < 32) : IntKind.u64.wrap ((x : Int) * 2 ^ n) = ((x * 2 ^ n : Nat) : Int) ∧ x * 2 ^ n < 9223372036854775808 ∧ x * 2 ^ n / 4294967296 < 2 ^ n ∧ 2 ^ n ≤ 2147483648 := by
  have hp : 2 ^ n ≤ 2 ^ 31 := Nat.pow_le_pow_right (by decide) (by omega)
  have hp0 := Nat.two_pow_pos n
  have h1 : x * 2 ^ n < 4294967296 * 2 ^ n := Nat.mul_lt_mul_of_pos_right hx hp0
  have e : (x : Int) * 2 ^ n = ((x * 2 ^ n : Nat) : Int) := by simp
  refine ⟨?_, by omega, ?_, hp⟩
  · rw [e]; exact wraps_u64 _ (by omega) (by omega)
  · rw [Nat.div_lt_iff_lt_mul (by decide), Nat.mul_comm (2 ^ n)]; exact h1
/-- low bits beside bits moved up, within a word -/
theorem or_low (x n o : Nat) (hn : n < 32) (ho : o < 2 ^ n) : bits .or .u32 (o : Int) (((x * 2 ^ n : Nat) : Int) % 4294967296) = ((o + x * 2 ^ n % 4294967296 : Nat) : Int) ∧ o + x * 2 ^ n % 4294967296 < 4294967296 := by
  have hB : (4294967296 : Nat) = 2 ^ n * 2 ^ (32 - n) := by rw [← Nat.pow_add, show n + (32 - n) = 32 from by omega]
  have hq : x * 2 ^ n % 4294967296 = 2 ^ n * (x % 2 ^ (32 - n)) := by
    rw [hB, Nat.mul_comm x, Nat.mul_mod_mul_left]
  have hp0 := Nat.two_pow_pos n
  have hx : x % 2 ^ (32 - n) + 1 ≤ 2 ^ (32 - n) := Nat.mod_lt _ (Nat.two_pow_pos _)
  have h1 : 2 ^ n * (x % 2 ^ (32 - n) + 1) ≤ 2 ^ n * 2 ^ (32 - n) := Nat.mul_le_mul_left _ hx
  rw [← hB, Nat.mul_add] at h1
  have hlt : o + x * 2 ^ n % 4294967296 < 4294967296 := by rw [hq]; omega
  refine ⟨?_, hlt⟩
  have e : (((x * 2 ^ n : Nat) : Int) % 4294967296) = ((x * 2 ^ n % 4294967296 : Nat) : Int) := rfl
  rw [e, (bits_nat .u32 32 (by decide) wraps_u32 o (x * 2 ^ n % 4294967296) (by omega) (by omega)).2]
  congr 1
  rw [Nat.or_comm, hq, ← Nat.two_pow_add_eq_or_of_lt ho]; omega
/-- low bits beside bits moved up, in two words -/
theorem or_low64 (x n o : Nat) (hx : x < 4294967296) (hn : n < 32) (ho : o < 2 ^ n) : bits .or .u64 (o : Int) ((x * 2 ^ n : Nat) : Int) = ((o + x * 2 ^ n : Nat) : Int) ∧ o + x * 2 ^ n < 4294967296 * 2 ^ n ∧ o + x * 2 ^ n < 9223372036854775808 := by
  obtain ⟨_, h1, _, h3⟩ := shl_wrap x n hx hn
  have h4 : (x + 1) * 2 ^ n ≤ 4294967296 * 2 ^ n := Nat.mul_le_mul_right _ hx
  rw [Nat.add_mul] at h4
  refine ⟨?_, by omega, by omega⟩
  rw [(bits_nat .u64 64 (by decide) wraps_u64 o (x * 2 ^ n) (by omega) (by omega)).2]
  congr 1
  rw [Nat.or_comm, Nat.mul_comm x, ← Nat.two_pow_add_eq_or_of_lt ho]; omega
/-- two words cut by bits: a word of the number moved down -/
theorem word_down {l : List Nat} (h : U32 l) (i n : Nat) (hn : n < 32) : (gd l i + gd l (i + 1) * 4294967296) / 2 ^ n % 4294967296 = val l / 2 ^ n / 4294967296 ^ i % 4294967296 := by
  rw [Nat.div_div_eq_div_mul (val l), Nat.mul_comm (2 ^ n), ← Nat.div_div_eq_div_mul]
  have e : val l / 4294967296 ^ i = (gd l i + gd l (i + 1) * 4294967296) + 4294967296 * 4294967296 * (val l / 4294967296 ^ (i + 1 + 1)) := by
    rw [val_digit h i, val_digit h (i + 1)]; omega
  rw [e]
  have hB : (4294967296 * 4294967296 : Nat) = 2 ^ n * (2 ^ (32 - n) * 4294967296) := by
    rw [← Nat.mul_assoc, ← Nat.pow_add, show n + (32 - n) = 32 from by omega]
  rw [hB, Nat.mul_assoc (2 ^ n), Nat.add_mul_div_left _ _ (Nat.two_pow_pos n), Nat.mul_comm (2 ^ (32 - n)), Nat.mul_assoc, Nat.add_mul_mod_self_left]
end Go.Proofs.YthhgfhdmfhnklaaGreatDoor
/-
  Plain numbers: windows of lists of words; a multiple taken from a window, a number given back.
  Conditions: each theorem's own.
-/
namespace Go.Proofs.YthhgfhdmfhnklaaGreatDoor
open Go.RowKit

/-- what m words from place j on are worth -/
def winv (l : List Nat) (j m : Nat) : Nat := val ((l.drop j).take m)
theorem winv_zero (l : List Nat) (j : Nat) : winv l j 0 = 0 := by simp [winv, val]
theorem winv_succ (l : List Nat) (j i : Nat) : winv l j (i + 1) = winv l j i + 4294967296 ^ i * gd l (j + i) := by
  unfold winv; rw [val_take_succ, gd_drop]
theorem winv_set (l : List Nat) (j i x : Nat) (h : j + i < l.length) : winv (l.set (j + i) x) j (i + 1) = winv l j i + 4294967296 ^ i * x := by
  have e : (l.set (j + i) x).drop j = (l.drop j).set i x := by
    apply List.ext_getElem?
    intro k
    rw [List.getElem?_drop, List.getElem?_set, List.getElem?_set, List.getElem?_drop]
    by_cases hk : i = k
    · subst hk; rw [if_pos rfl, if_pos rfl, if_pos h, if_pos (by rw [List.length_drop]; omega)]
    · rw [if_neg (by omega), if_neg hk]
  unfold winv; rw [e, val_take_set _ _ _ (by rw [List.length_drop]; omega)]
theorem winv_lt {l : List Nat} (h : U32 l) (j m : Nat) : winv l j m < 4294967296 ^ m := val_take_lt (h.drop j) m
theorem winv_congr {l l' : List Nat} (j m : Nat) (h : ∀ i, j ≤ i → i < j + m → gd l i = gd l' i) : winv l j m = winv l' j m := by
  unfold winv
  apply val_ext
  intro i
  rw [gd_take, gd_take]
  split
  · rw [gd_drop, gd_drop]; exact h _ (by omega) (by omega)
  · rfl
/-- a list's worth, parted at a window -/
theorem val_window (l : List Nat) (j m : Nat) : val l = winv l 0 j + 4294967296 ^ j * (winv l j m + 4294967296 ^ m * val (l.drop (j + m))) := by
  have e1 : ∀ (a : List Nat) (k : Nat), val a = val (a.take k) + 4294967296 ^ k * val (a.drop k) := by
    intro a k
    rcases Nat.lt_or_ge a.length k with h | h
    · rw [List.take_of_length_le (by omega), List.drop_of_length_le (by omega)]; simp [val]
    · have := val_append (a.take k) (a.drop k)
      rwa [List.take_append_drop, List.length_take, Nat.min_eq_left h] at this
  unfold winv
  rw [List.drop_zero, e1 l j, e1 (l.drop j) m, List.drop_drop]
/-- one word of a multiple taken off: s what is to be taken, d what is left -/
theorem take_step {P W W0 T c r q y x d c' r' : Nat} (h : W + T = W0 + P * (r + c)) (hd : d + (c + q * y) % 4294967296 + r = x + 4294967296 * r') (hc' : c' = (c + q * y) / 4294967296) :
    (W + P * d) + (T + P * (q * y)) = (W0 + P * x) + P * 4294967296 * (r' + c') := by
  have e := Nat.mod_add_div (c + q * y) 4294967296
  have : P * (d + q * y + r + c) = P * x + P * 4294967296 * (r' + c') := by
    rw [Nat.mul_assoc P, ← Nat.mul_add]
    congr 1
    rw [hc', Nat.mul_add]; omega
  simp only [Nat.mul_add] at this h ⊢
  omega
theorem take_carry {P c T q y c' : Nat} (h : P * c ≤ T) (hc' : c' = (c + q * y) / 4294967296) : P * 4294967296 * c' ≤ T + P * (q * y) := by
  have e := Nat.mod_add_div (c + q * y) 4294967296
  rw [Nat.mul_assoc]
  have : P * (4294967296 * c') ≤ P * (c + q * y) := Nat.mul_le_mul_left _ (by rw [hc']; omega)
  rw [Nat.mul_add] at this; omega
theorem take_end {P c T : Nat} (h : P * c ≤ T) (hT : T < P) : c = 0 := by
  cases c with
  | zero => rfl
  | succ c =>
    have := Nat.le_mul_of_pos_right P (show 0 < c + 1 by omega)
    omega
end Go.Proofs.YthhgfhdmfhnklaaGreatDoor
/-
  Plain numbers: long division, round by round.
  Conditions: each theorem's own.
-/
namespace Go.Proofs.YthhgfhdmfhnklaaGreatDoor
open Go.RowKit

theorem div_scaled {A Bv p U q : Nat} (hp : 0 < p) (h : U + Bv * p * q = A * p) (hU : U < Bv * p) : q = A / Bv ∧ U / p = A % Bv := by
  have h1 : A * p = q * (Bv * p) + U := by rw [Nat.mul_comm q]; omega
  obtain ⟨e1, e2⟩ := div_of_eq h1 hU
  rw [Nat.mul_div_mul_right _ _ hp] at e1
  rw [Nat.mul_mod_mul_right] at e2
  refine ⟨e1, ?_⟩
  rw [e2, Nat.mul_div_cancel _ hp]
/-- the divisor, moved up till its highest bit is set -/
theorem norm_top {Bv nb x s : Nat} (hB : Bv ≠ 0) (hb : blen Bv = 32 * (nb - 1) + blen x) (hx : x ≠ 0) (hxl : x < 4294967296) (hnb : 0 < nb) (hs : s = 32 - blen x) :
    Bv * 2 ^ s < 4294967296 ^ nb ∧ 2147483648 * 4294967296 ^ (nb - 1) ≤ Bv * 2 ^ s ∧ s < 32 := by
  have h1 : blen x ≤ 32 := blen_le hxl
  have h2 := two_blen_le hx
  have h3 := lt_two_blen Bv
  have h4 := two_blen_le hB
  have e : blen Bv + s = 32 * nb := by omega
  refine ⟨?_, ?_, by omega⟩
  · rw [pow32, ← e, Nat.pow_add]; exact Nat.mul_lt_mul_of_pos_right h3 (Nat.two_pow_pos _)
  · have e2 : 2147483648 * 4294967296 ^ (nb - 1) = 2 ^ (blen Bv - 1) * 2 ^ s := by
      rw [pow32, ← Nat.pow_add, show (2147483648 : Nat) = 2 ^ 31 from rfl, ← Nat.pow_add]; congr 1; omega
    rw [e2]; exact Nat.mul_le_mul_right _ h4.1
/-- words of a number below a power, cut -/
theorem take_all {l : List Nat} (h : U32 l) {n : Nat} (hv : val l < 4294967296 ^ n) : val (l.take n) = val l := by
  rw [val_take h, Nat.mod_eq_of_lt hv]
theorem winv_all {l : List Nat} (h : U32 l) {j m : Nat} (hv : val (l.drop j) < 4294967296 ^ m) : winv l j m = val (l.drop j) := take_all (h.drop j) hv
/-- the divisor's two highest words -/
theorem div_two {lv : List Nat} (h : U32 lv) {nb : Nat} (hl : lv.length = nb) (h2 : 2 ≤ nb) (hlo : 2147483648 * 4294967296 ^ (nb - 1) ≤ val lv) :
    2147483648 ≤ gd lv (nb - 1) ∧ val lv = (gd lv (nb - 1) * 4294967296 + gd lv (nb - 2)) * 4294967296 ^ (nb - 2) + winv lv 0 (nb - 2) := by
  obtain ⟨d, rfl⟩ : ∃ d, nb = d + 2 := ⟨nb - 2, by omega⟩
  have hlt := val_lt h
  rw [hl] at hlt
  rw [show d + 2 - 1 = d + 1 from rfl, show d + 2 - 2 = d from rfl] at *
  have e : val lv = winv lv 0 (d + 1 + 1) := by rw [winv_all h (by rw [List.drop_zero]; exact hlt), List.drop_zero]
  constructor
  · rw [val_gd h]
    have h3 : val lv / 4294967296 ^ (d + 1) < 4294967296 := by
      rw [Nat.div_lt_iff_lt_mul (Nat.pow_pos (by decide)), Nat.mul_comm, ← Nat.pow_succ]; exact hlt
    rw [Nat.mod_eq_of_lt h3, Nat.le_div_iff_mul_le (Nat.pow_pos (by decide))]
    exact hlo
  · rw [e, winv_succ, winv_succ, Nat.zero_add, Nat.zero_add]
    simp only [Nat.pow_succ, Nat.add_mul]
    generalize gd lv d = x
    generalize gd lv (d + 1) = t
    generalize 4294967296 ^ d = P
    have e1 : P * 4294967296 * t = t * 4294967296 * P := by ac_rfl
    have e2 : P * x = x * P := by ac_rfl
    omega
/-- the dividend's three highest words in the window -/
theorem div_three (lu : List Nat) (j : Nat) {nb : Nat} (h2 : 2 ≤ nb) :
    winv lu j (nb + 1) = ((gd lu (j + nb) * 4294967296 + gd lu (j + nb - 1)) * 4294967296 + gd lu (j + nb - 2)) * 4294967296 ^ (nb - 2) + winv lu j (nb - 2) := by
  obtain ⟨d, rfl⟩ : ∃ d, nb = d + 2 := ⟨nb - 2, by omega⟩
  rw [show j + (d + 2) - 1 = j + (d + 1) from rfl, show j + (d + 2) - 2 = j + d from rfl, show d + 2 - 2 = d from rfl]
  rw [winv_succ, winv_succ, winv_succ]
  generalize gd lu (j + (d + 2)) = a
  generalize gd lu (j + (d + 1)) = b
  generalize gd lu (j + d) = c
  generalize winv lu j d = w
  simp only [Nat.pow_succ, Nat.add_mul]
  generalize 4294967296 ^ d = P
  have e1 : P * 4294967296 * 4294967296 * a = a * 4294967296 * 4294967296 * P := by ac_rfl
  have e2 : P * 4294967296 * b = b * 4294967296 * P := by ac_rfl
  have e3 : P * c = c * P := by ac_rfl
  omega
/-- the estimate of one round -/
theorem div_round {lu lv : List Nat} (hu : U32 lu) (hv : U32 lv) {j nb : Nat} (hl : lv.length = nb) (h2 : 2 ≤ nb) (hlo : 2147483648 * 4294967296 ^ (nb - 1) ≤ val lv) (hW : winv lu j (nb + 1) < 4294967296 * val lv) :
    gd lu (j + nb) ≤ gd lv (nb - 1) ∧
    winv lu j (nb + 1) / val lv ≤ fit ((gd lu (j + nb) * 4294967296 + gd lu (j + nb - 1)) * 4294967296 + gd lu (j + nb - 2)) (gd lv (nb - 1) * 4294967296 + gd lv (nb - 2)) ∧
    fit ((gd lu (j + nb) * 4294967296 + gd lu (j + nb - 1)) * 4294967296 + gd lu (j + nb - 2)) (gd lv (nb - 1) * 4294967296 + gd lv (nb - 2)) ≤ winv lu j (nb + 1) / val lv + 1 := by
  obtain ⟨t1, t2⟩ := div_two hv hl h2 hlo
  have t3 := div_three lu j h2
  have hD : 0 < 4294967296 ^ (nb - 2) := Nat.pow_pos (by decide)
  have hn := fit_near hD t3 (winv_lt hu j (nb - 2)) t2 (winv_lt hv 0 (nb - 2)) (by omega) hW
  refine ⟨?_, hn.1, hn.2⟩
  have hvl := winv_lt hv 0 (nb - 2)
  have hnx := hv (nb - 2)
  rw [t3, t2] at hW
  generalize gd lu (j + nb) = a at *
  generalize gd lu (j + nb - 1) = b at *
  generalize gd lu (j + nb - 2) = c at *
  generalize gd lv (nb - 1) = top at *
  generalize gd lv (nb - 2) = next at *
  generalize winv lv 0 (nb - 2) = vl at *
  generalize 4294967296 ^ (nb - 2) = D at *
  generalize winv lu j (nb - 2) = ul at *
  clear hn t1 t2 t3 hlo
  rcases Nat.lt_or_ge top a with h | h
  · exfalso
    have h4 : (top * 4294967296 + next) * D + vl < (top * 4294967296 + 4294967296) * D := by
      have h6 : (top * 4294967296 + next + 1) * D ≤ (top * 4294967296 + 4294967296) * D := Nat.mul_le_mul (show top * 4294967296 + next + 1 ≤ top * 4294967296 + 4294967296 from by omega) (Nat.le_refl D)
      rw [Nat.add_mul (top * 4294967296 + next) 1 D, Nat.one_mul] at h6
      exact Nat.lt_of_lt_of_le (Nat.add_lt_add_left hvl _) h6
    have h5 : (4294967296 * (top * 4294967296 + 4294967296)) * D ≤ ((a * 4294967296 + b) * 4294967296 + c) * D :=
      Nat.mul_le_mul (show 4294967296 * (top * 4294967296 + 4294967296) ≤ (a * 4294967296 + b) * 4294967296 + c from by omega) (Nat.le_refl D)
    rw [Nat.mul_assoc] at h5
    exact absurd (Nat.lt_of_lt_of_le (Nat.lt_of_le_of_lt (Nat.le_trans h5 (Nat.le_add_right _ ul)) hW) (Nat.mul_le_mul_left _ (Nat.le_of_lt h4))) (Nat.lt_irrefl _)
  · exact h
/-- the estimate was right -/
theorem round_right {W V g l' : Nat} (hV : 0 < V) (h1 : W / V ≤ g) (h2 : l' + g * V = W) : g = W / V ∧ l' = W % V := by
  have : g ≤ W / V := by rw [Nat.le_div_iff_mul_le hV]; omega
  have e : g = W / V := by omega
  refine ⟨e, ?_⟩
  have := Nat.div_add_mod W V
  rw [← e, Nat.mul_comm] at this; omega
/-- the estimate was one too great -/
theorem round_over {W V g P l' l'' r' : Nat} (hV : 0 < V) (hVP : V < P) (h1 : g ≤ W / V + 1) (h2 : l' + g * V = W + P) (hl' : l' < P) (h3 : l'' + P * r' = l' + V) (hl'' : l'' < P) : g - 1 = W / V ∧ l'' = W % V ∧ 0 < g := by
  have hg : W < g * V := by omega
  have h4 : W / V < g := by rw [Nat.div_lt_iff_lt_mul hV]; exact hg
  have e : g = W / V + 1 := by omega
  have h5 := Nat.div_add_mod W V
  have h6 := Nat.mod_lt W hV
  have e2 : g * V = V * (W / V) + V := by rw [e, Nat.add_mul, Nat.mul_comm]; omega
  have h7 : l'' + P * r' = W % V + P := by omega
  refine ⟨by rw [e]; rfl, ?_, by rw [e]; exact Nat.succ_pos _⟩
  clear h1 h2 h3 h4 h5 e2 e
  match r' with
  | 0 => omega
  | 1 => omega
  | r + 2 =>
    exfalso
    have : P * 2 ≤ P * (r + 2) := Nat.mul_le_mul_left _ (by omega)
    omega
/-- the invariant, over one round -/
theorem round_inv {lu lu' lq : List Nat} {j m W qd V S : Nat} (hW : winv lu j m = W) (hW' : winv lu' j m = W % V) (hqd : qd = W / V) (hz : val (lu.drop (j + m)) = 0) (hsame : ∀ i, i < j ∨ j + m ≤ i → gd lu' i = gd lu i)
    (hj : j < lq.length) (hq0 : gd lq j = 0) (h : val lu + V * val lq = S) : val lu' + V * val (lq.set j qd) = S ∧ val (lu'.drop (j + m)) = 0 ∧ val (lu'.drop j) = W % V := by
  have e1 := val_window lu j m
  have e2 := val_window lu' j m
  have hz' : val (lu'.drop (j + m)) = 0 := by
    rw [← hz]; exact val_ext fun i => by rw [gd_drop, gd_drop]; exact hsame _ (.inr (by omega))
  have hlow : winv lu' 0 j = winv lu 0 j := winv_congr 0 j fun i _ h2 => hsame i (.inl (by omega))
  have hs := val_set lq j qd hj
  rw [hq0, Nat.mul_zero, Nat.add_zero] at hs
  rw [hz, hW, Nat.mul_zero, Nat.add_zero] at e1
  rw [hz', hW', hlow, Nat.mul_zero, Nat.add_zero] at e2
  have h5 := Nat.div_add_mod W V
  refine ⟨?_, hz', ?_⟩
  · rw [hs, e2, ← h, e1, Nat.mul_add, hqd]
    have : 4294967296 ^ j * W = V * (4294967296 ^ j * (W / V)) + 4294967296 ^ j * (W % V) := by
      rw [Nat.mul_left_comm, ← Nat.mul_add, h5]
    omega
  · have e3 := val_window (lu'.drop j) 0 m
    rw [List.drop_drop, Nat.zero_add, hz', Nat.mul_zero, Nat.add_zero, Nat.pow_zero, Nat.one_mul, winv_zero, Nat.zero_add] at e3
    rw [e3, ← hW']; rfl
theorem wd_top {n : Nat} (h : n ≠ 0) : 0 < (wd n).length ∧ gd (wd n) ((wd n).length - 1) ≠ 0 ∧ blen n = 32 * ((wd n).length - 1) + blen (gd (wd n) ((wd n).length - 1)) := by
  have h1 : 0 < (wd n).length := by rw [wd_pos h]; simp
  have h2 : gd (wd n) ((wd n).length - 1) ≠ 0 := by
    rcases clean_wd n with hc | hc
    · rw [hc] at h1; cases h1
    · exact hc
  refine ⟨h1, h2, ?_⟩
  have e := val_take_succ (wd n) ((wd n).length - 1)
  rw [show (wd n).length - 1 + 1 = (wd n).length from by omega, List.take_of_length_le (Nat.le_refl _), val_wd] at e
  have := blen_top (val_take_lt (u32_wd n) ((wd n).length - 1)) h2
  rw [← e] at this; exact this
theorem wd_two {n : Nat} (h : 4294967296 ≤ n) : 2 ≤ (wd n).length := by
  rcases Nat.lt_or_ge 1 (wd n).length with h1 | h1
  · exact h1
  · have h2 := val_lt (u32_wd n)
    rw [val_wd] at h2
    have h3 : 4294967296 ^ (wd n).length ≤ 4294967296 ^ 1 := Nat.pow_le_pow_right (by decide) h1
    rw [Nat.pow_one] at h3
    omega
theorem guess_down {g top r hd : Nat} (h : g * top + r = hd) (hg : 0 < g) : (g - 1) * top + (r + top) = hd := by
  obtain ⟨k, rfl⟩ : ∃ k, g = k + 1 := ⟨g - 1, by omega⟩
  rw [Nat.add_sub_cancel]; rw [Nat.add_mul, Nat.one_mul] at h; omega
/-- what the head of a round gives -/
theorem round_head {lu : List Nat} (hu : U32 lu) {j nb V : Nat} (hV : V < 4294967296 ^ nb) (h : val (lu.drop (j + 1)) < V) :
    winv lu j (nb + 1) = val (lu.drop j) ∧ winv lu j (nb + 1) < 4294967296 * V ∧ val (lu.drop (j + (nb + 1))) = 0 := by
  have h1 : val (lu.drop j) < 4294967296 * V := by
    rw [val_drop_at]
    have := hu j
    omega
  have h2 : val (lu.drop j) < 4294967296 ^ (nb + 1) := by
    rw [Nat.pow_succ, Nat.mul_comm]
    exact Nat.lt_of_lt_of_le h1 (Nat.mul_le_mul_left _ (Nat.le_of_lt hV))
  have h3 := winv_all hu h2
  refine ⟨h3, by rw [h3]; exact h1, ?_⟩
  rw [← List.drop_drop, val_drop (hu.drop j), Nat.div_eq_of_lt h2]
/-- the dividend is short enough for the first round -/
theorem first_round {lu : List Nat} (hu : U32 lu) {A s na nb V k : Nat} (hA : A < 4294967296 ^ na) (hl : val lu = A * 2 ^ s) (hs : s < 32) (hk : k + nb = na + 1) (hnb : 0 < nb) (hlo : 2147483648 * 4294967296 ^ (nb - 1) ≤ V) : val (lu.drop k) < V := by
  rw [val_drop hu, hl]
  refine Nat.lt_of_lt_of_le ?_ hlo
  rw [Nat.div_lt_iff_lt_mul (Nat.pow_pos (by decide)), Nat.mul_assoc, ← Nat.pow_add, show nb - 1 + k = na from by omega]
  have h1 : 2 ^ s ≤ 2147483648 := by rw [show (2147483648 : Nat) = 2 ^ 31 from rfl]; exact Nat.pow_le_pow_right (by decide) (by omega)
  have h2 : A * 2 ^ s < 4294967296 ^ na * 2 ^ s := Nat.mul_lt_mul_of_pos_right hA (Nat.two_pow_pos s)
  have h3 : 4294967296 ^ na * 2 ^ s ≤ 2147483648 * 4294967296 ^ na := by rw [Nat.mul_comm]; exact Nat.mul_le_mul_right _ h1
  exact Nat.lt_of_lt_of_le h2 h3
end Go.Proofs.YthhgfhdmfhnklaaGreatDoor
/-
  Plain numbers: square roots by Newton's steps.
  Conditions: each theorem's own.
-/
namespace Go.Proofs.YthhgfhdmfhnklaaGreatDoor
open Go.RowKit

/-- s is the square root of n, rounded down -/
def IsRoot (n s : Nat) : Prop := s * s ≤ n ∧ n < (s + 1) * (s + 1)
theorem IsRoot.unique {n s t : Nat} (h : IsRoot n s) (k : IsRoot n t) : s = t := by
  rcases Nat.lt_trichotomy s t with g | g | g
  · have g' : s + 1 ≤ t := g
    have := Nat.mul_le_mul g' g'
    have h1 := h.2; have h2 := k.1; omega
  · exact g
  · have g' : t + 1 ≤ s := g
    have := Nat.mul_le_mul g' g'
    have h1 := k.2; have h2 := h.1; omega
theorem wd_add_len (m n : Nat) : (wd (m + n)).length ≤ max (wd m).length (wd n).length + 1 := by
  apply wd_length_of_lt
  have h1 := val_lt (u32_wd m)
  have h2 := val_lt (u32_wd n)
  rw [val_wd] at h1 h2
  obtain ⟨k, hk⟩ : ∃ k, k = max (wd m).length (wd n).length := ⟨_, rfl⟩
  have e1 : 4294967296 ^ (wd m).length ≤ 4294967296 ^ k := Nat.pow_le_pow_right (by decide) (by omega)
  have e2 : 4294967296 ^ (wd n).length ≤ 4294967296 ^ k := Nat.pow_le_pow_right (by decide) (by omega)
  rw [← hk, Nat.pow_succ]
  omega
theorem wd_mul_len (m n : Nat) : (wd (m * n)).length ≤ (wd m).length + (wd n).length := by
  apply wd_length_of_lt
  have h1 := val_lt (u32_wd m)
  have h2 := val_lt (u32_wd n)
  rw [val_wd] at h1 h2
  rw [Nat.pow_add]
  exact Nat.mul_lt_mul_of_lt_of_le h1 (Nat.le_of_lt h2) (Nat.pow_pos (by decide))
theorem wd_one {n : Nat} (h : n < 4294967296) (h0 : n ≠ 0) : wd n = [n] := by rw [wd_pos h0, Nat.mod_eq_of_lt h, Nat.div_eq_of_lt h, wd_zero]
end Go.Proofs.YthhgfhdmfhnklaaGreatDoor
/-
  Fractions as rational numbers of Lean's core: sign, numerator, denominator, and what the operations on them give.
  Conditions: none.
-/
namespace Go.Proofs.YthhgfhdmfhnklaaGreatDoor

/-- plus or minus n -/
def sgn (s : Bool) (n : Nat) : Int := if s then -(n : Int) else n
/-- plus or minus n / d -/
def qm (s : Bool) (n d : Nat) : Rat := mkRat (sgn s n) d
/-- the fields of the valid form of a number -/
def ng (q : Rat) : Bool := decide (q < 0)
def nn (q : Rat) : Nat := q.num.natAbs
def dn (q : Rat) : Nat := if q = 0 then 0 else q.den
/-- how two numbers compare -/
def cq (p q : Rat) : Int := if p < q then -1 else if p = q then 0 else 1

theorem sgn_natAbs (s : Bool) (n : Nat) : (sgn s n).natAbs = n := by unfold sgn; split <;> simp
theorem sgn_zero (s : Bool) : sgn s 0 = 0 := by unfold sgn; split <;> rfl
theorem qm_zero (s : Bool) (d : Nat) : qm s 0 d = 0 := by unfold qm; rw [sgn_zero, Rat.zero_mkRat]
theorem ng_zero : ng 0 = false := rfl
theorem nn_zero : nn 0 = 0 := rfl
theorem dn_zero : dn 0 = 0 := rfl
theorem dn_pos {q : Rat} (h : q ≠ 0) : dn q = q.den := by unfold dn; rw [if_neg h]
theorem nn_eq_zero {q : Rat} : nn q = 0 ↔ q = 0 := by
  unfold nn; rw [Int.natAbs_eq_zero, Rat.num_eq_zero]
theorem num_sgn (q : Rat) : q.num = sgn (ng q) (nn q) := by
  unfold sgn ng nn
  by_cases h : q < 0
  · have : ¬ 0 ≤ q := by grind
    rw [← Rat.num_nonneg] at this
    rw [if_pos (decide_eq_true h)]; omega
  · have : 0 ≤ q := by grind
    rw [← Rat.num_nonneg] at this
    rw [if_neg (by simp [h])]; omega
theorem qm_self (q : Rat) : qm (ng q) (nn q) q.den = q := by
  unfold qm; rw [← num_sgn, Rat.mkRat_self]
theorem qm_neg_iff {s : Bool} {n d : Nat} (hd : d ≠ 0) : qm s n d < 0 ↔ s = true ∧ n ≠ 0 := by
  have hd' : (0 : Rat) < (d : Rat) := Rat.natCast_pos.2 (by omega)
  unfold qm
  rw [Rat.mkRat_eq_div, Rat.div_lt_iff hd', Rat.zero_mul]
  rw [show (0 : Rat) = ((0 : Int) : Rat) from rfl, Rat.intCast_lt_intCast]
  unfold sgn
  cases s
  · simp
  · simp; omega
theorem ng_qm {s : Bool} {n d : Nat} (hd : d ≠ 0) (hn : n ≠ 0) : ng (qm s n d) = s := by
  unfold ng
  cases s
  · exact decide_eq_false (fun h => by have := (qm_neg_iff hd).1 h; simp at this)
  · exact decide_eq_true ((qm_neg_iff hd).2 ⟨rfl, hn⟩)
theorem qm_ne_zero {s : Bool} {n d : Nat} (hd : d ≠ 0) (hn : n ≠ 0) : qm s n d ≠ 0 := by
  unfold qm
  rw [Rat.mkRat_ne_zero hd]
  unfold sgn; split <;> omega
theorem nn_qm {s : Bool} {n d : Nat} (hd : d ≠ 0) : nn (qm s n d) = n / Nat.gcd n d := by
  unfold nn qm
  rw [Rat.num_mkRat, if_neg hd, sgn_natAbs, Nat.gcd_comm d n, Int.natAbs_ediv_of_dvd, sgn_natAbs, Int.natAbs_natCast]
  rw [← Int.dvd_natAbs, sgn_natAbs, Int.ofNat_dvd]
  exact Nat.gcd_dvd_left n d
theorem den_qm {s : Bool} {n d : Nat} (hd : d ≠ 0) : (qm s n d).den = d / Nat.gcd n d := by
  unfold qm
  rw [Rat.den_mkRat, if_neg hd, sgn_natAbs, Nat.gcd_comm d n]
theorem dn_qm {s : Bool} {n d : Nat} (hd : d ≠ 0) (hn : n ≠ 0) : dn (qm s n d) = d / Nat.gcd n d := by
  rw [dn_pos (qm_ne_zero hd hn), den_qm hd]
theorem nn_gcd (q : Rat) : Nat.gcd (nn q) q.den = 1 := q.reduced
/-- a fraction in lowest terms has these fields -/
theorem fields_qm {s : Bool} {n d : Nat} (hd : d ≠ 0) (hn : n ≠ 0) (hg : Nat.gcd n d = 1) : ng (qm s n d) = s ∧ nn (qm s n d) = n ∧ dn (qm s n d) = d := by
  refine ⟨ng_qm hd hn, ?_, ?_⟩
  · rw [nn_qm hd, hg, Nat.div_one]
  · rw [dn_qm hd hn, hg, Nat.div_one]
theorem qm_eq_div (s : Bool) (n d : Nat) : qm s n d = ((sgn s n : Int) : Rat) / (d : Rat) := by unfold qm; rw [Rat.mkRat_eq_div]
theorem den_ne (q : Rat) : (q.den : Rat) ≠ 0 := fun h => q.den_nz (Rat.natCast_eq_zero_iff.1 h)
theorem self_div (q : Rat) : q = ((sgn (ng q) (nn q) : Int) : Rat) / (q.den : Rat) := by rw [← qm_eq_div, qm_self]
theorem sgn_not (s : Bool) (n : Nat) : sgn (!s) n = -sgn s n := by unfold sgn; cases s <;> simp
theorem sgn_mul (s t : Bool) (m n : Nat) : sgn (s != t) (m * n) = sgn s m * sgn t n := by
  unfold sgn; cases s <;> cases t <;> simp [Int.neg_mul, Int.mul_neg]
theorem sgn_mulN (s : Bool) (m n : Nat) : sgn s (m * n) = sgn s m * (n : Int) := by
  unfold sgn; cases s <;> simp [Int.neg_mul]
theorem sgn_add (s : Bool) (m n : Nat) : sgn s (m + n) = sgn s m + sgn s n := by
  unfold sgn; cases s <;> simp; omega
theorem sgn_sub (s : Bool) {m n : Nat} (h : n ≤ m) : sgn s (m - n) = sgn s m + sgn (!s) n := by
  unfold sgn; cases s <;> simp <;> omega
theorem q_neg (p : Rat) : qm (!ng p) (nn p) p.den = -p := by
  have h := self_div p
  rw [qm_eq_div, sgn_not, Rat.intCast_neg]
  have hd := den_ne p
  grind
theorem den_mul_nz {a b : Nat} (ha : a ≠ 0) (hb : b ≠ 0) : a * b ≠ 0 := Nat.mul_ne_zero ha hb
theorem q_mul (p q : Rat) : qm (ng p != ng q) (nn p * nn q) (p.den * q.den) = p * q := by
  have h1 := self_div p
  have h2 := self_div q
  have d1 := den_ne p
  have d2 := den_ne q
  rw [qm_eq_div, sgn_mul, Rat.intCast_mul, Rat.natCast_mul]
  grind
theorem q_add_same (p q : Rat) (h : ng p = ng q) : qm (ng p) (nn p * q.den + nn q * p.den) (p.den * q.den) = p + q := by
  have h1 := self_div p
  have h2 := self_div q
  have d1 := den_ne p
  have d2 := den_ne q
  rw [← h] at h2
  rw [qm_eq_div, sgn_add, sgn_mulN, sgn_mulN,
    Rat.intCast_add, Rat.intCast_mul, Rat.intCast_mul, Rat.natCast_mul, Rat.intCast_natCast, Rat.intCast_natCast]
  grind
theorem q_add_diff (p q : Rat) (h : ng p ≠ ng q) (hle : nn q * p.den ≤ nn p * q.den) : qm (ng p) (nn p * q.den - nn q * p.den) (p.den * q.den) = p + q := by
  have h1 := self_div p
  have h2 := self_div q
  have d1 := den_ne p
  have d2 := den_ne q
  have e : ng q = !ng p := by revert h; cases ng p <;> cases ng q <;> simp
  rw [e] at h2
  rw [qm_eq_div, sgn_sub _ hle, sgn_mulN, sgn_mulN,
    Rat.intCast_add, Rat.intCast_mul, Rat.intCast_mul, Rat.natCast_mul, Rat.intCast_natCast, Rat.intCast_natCast]
  grind
theorem q_add_diff' (p q : Rat) (h : ng p ≠ ng q) (hle : nn p * q.den ≤ nn q * p.den) : qm (ng q) (nn q * p.den - nn p * q.den) (p.den * q.den) = p + q := by
  have := q_add_diff q p (fun e => h e.symm) hle
  rw [Nat.mul_comm q.den p.den, Rat.add_comm] at this; exact this
theorem cq_le (p q : Rat) : cq p q ≤ 0 ↔ p ≤ q := by
  unfold cq; split
  · grind
  · split <;> grind
/-- how many words the fields of a number have -/
def rl (q : Rat) : Nat := max (wd (nn q)).length (wd q.den).length
theorem rl_n (q : Rat) : (wd (nn q)).length ≤ rl q := Nat.le_max_left _ _
theorem rl_d (q : Rat) : (wd q.den).length ≤ rl q := Nat.le_max_right _ _
theorem rl_qm {s : Bool} {n d L : Nat} (hd : d ≠ 0) (h1 : (wd n).length ≤ L) (h2 : (wd d).length ≤ L) : rl (qm s n d) ≤ L := by
  unfold rl
  rw [nn_qm hd, den_qm hd]
  exact Nat.max_le.2 ⟨Nat.le_trans (wd_length_mono (Nat.div_le_self _ _)) h1, Nat.le_trans (wd_length_mono (Nat.div_le_self _ _)) h2⟩
theorem rl_mul (p q : Rat) : rl (p * q) ≤ rl p + rl q := by
  rw [← q_mul]
  refine rl_qm (den_mul_nz p.den_nz q.den_nz) ?_ ?_
  · exact Nat.le_trans (wd_mul_len _ _) (Nat.add_le_add (rl_n p) (rl_n q))
  · exact Nat.le_trans (wd_mul_len _ _) (Nat.add_le_add (rl_d p) (rl_d q))
theorem rl_neg (p : Rat) : rl (-p) = rl p := by
  unfold rl nn; rw [Rat.neg_num, Rat.neg_den, Int.natAbs_neg]
theorem rl_add (p q : Rat) : rl (p + q) ≤ rl p + rl q + 1 := by
  have a1 : (wd (nn p * q.den)).length ≤ rl p + rl q := Nat.le_trans (wd_mul_len _ _) (Nat.add_le_add (rl_n p) (rl_d q))
  have a2 : (wd (nn q * p.den)).length ≤ rl p + rl q := by rw [Nat.mul_comm]; exact Nat.le_trans (wd_mul_len _ _) (Nat.add_le_add (rl_d p) (rl_n q))
  have a3 : (wd (p.den * q.den)).length ≤ rl p + rl q := Nat.le_trans (wd_mul_len _ _) (Nat.add_le_add (rl_d p) (rl_d q))
  have nz := den_mul_nz p.den_nz q.den_nz
  by_cases h : ng p = ng q
  · rw [← q_add_same p q h]
    refine rl_qm nz ?_ (by omega)
    have := wd_add_len (nn p * q.den) (nn q * p.den); omega
  · rcases Nat.le_total (nn q * p.den) (nn p * q.den) with h2 | h2
    · rw [← q_add_diff p q h h2]
      exact rl_qm nz (Nat.le_trans (wd_length_mono (Nat.sub_le _ _)) (by omega)) (by omega)
    · rw [← q_add_diff' p q h h2]
      exact rl_qm nz (Nat.le_trans (wd_length_mono (Nat.sub_le _ _)) (by omega)) (by omega)
theorem rl_sub (p q : Rat) : rl (p - q) ≤ rl p + rl q + 1 := by
  rw [Rat.sub_eq_add_neg]; have := rl_add p (-q); rwa [rl_neg] at this
theorem rl_int (n : Int) : rl (n : Rat) = max (wd n.natAbs).length 1 := by
  unfold rl nn
  rw [Rat.num_intCast, Rat.den_intCast, show wd 1 = [1] from wd_one (by decide) (by decide)]; rfl
theorem rl_zero : rl 0 = 1 := by
  have := rl_int 0
  rw [show (0 : Int).natAbs = 0 from rfl, wd_zero] at this; exact this
end Go.Proofs.YthhgfhdmfhnklaaGreatDoor
/-
  Fractions: whole parts, powers, ints, what is valid.
  Conditions: none.
-/
namespace Go.Proofs.YthhgfhdmfhnklaaGreatDoor

theorem qm_one (s : Bool) (n : Nat) : qm s n 1 = ((sgn s n : Int) : Rat) := by
  rw [qm_eq_div]
  have : ((1 : Nat) : Rat) = 1 := rfl
  rw [this]; grind
/-- the whole part of a number, as a number -/
def fl (p : Rat) : Rat := ((p.floor : Int) : Rat)
theorem rl_one : rl 1 = 1 := by
  have := rl_int 1
  rw [show (1 : Int).natAbs = 1 from rfl, show wd 1 = [1] from wd_one (by decide) (by decide)] at this; exact this
/-- whether fields are those of a valid form -/
def Vld (s : Bool) (a b : List Nat) : Prop := (a = [] ∧ b = [] ∧ s = false) ∨ (a ≠ [] ∧ b ≠ [] ∧ Clean a ∧ Clean b ∧ Nat.gcd (val a) (val b) = 1)
instance (l : List Nat) : Decidable (Clean l) := by unfold Clean; exact inferInstance
instance (s : Bool) (a b : List Nat) : Decidable (Vld s a b) := by unfold Vld; exact inferInstance
/-- the number as which fields count -/
def rq (s : Bool) (a b : List Nat) : Rat := if Vld s a b then qm s (val a) (val b) else 0
theorem val_ne {l : List Nat} (hu : U32 l) (hc : Clean l) (h : l ≠ []) : val l ≠ 0 := by
  intro h0
  have := clean_eq hu hc
  rw [h0, wd_zero] at this; exact h this
theorem wd_ne {n : Nat} (h : n ≠ 0) : wd n ≠ [] := by rw [wd_pos h]; simp
theorem vld_zero : Vld false [] [] := .inl ⟨rfl, rfl, rfl⟩
theorem rq_zero : rq false [] [] = 0 := by
  unfold rq; rw [if_pos vld_zero]; exact qm_zero _ _
/-- valid fields are those of the number -/
theorem vld_fields {s : Bool} {a b : List Nat} (ha : U32 a) (hb : U32 b) (h : Vld s a b) : s = ng (rq s a b) ∧ a = wd (nn (rq s a b)) ∧ b = wd (dn (rq s a b)) := by
  have hr : rq s a b = qm s (val a) (val b) := by unfold rq; rw [if_pos h]
  rcases h with ⟨rfl, rfl, rfl⟩ | ⟨h1, h2, h3, h4, h5⟩
  · rw [rq_zero, ng_zero, nn_zero, dn_zero, wd_zero]; exact ⟨rfl, rfl, rfl⟩
  · have v1 := val_ne ha h3 h1
    have v2 := val_ne hb h4 h2
    obtain ⟨e1, e2, e3⟩ := fields_qm (s := s) v2 v1 h5
    rw [hr, e1, e2, e3]
    exact ⟨rfl, clean_eq ha h3, clean_eq hb h4⟩
/-- a number's own fields are valid and count as it -/
theorem vld_self (q : Rat) : Vld (ng q) (wd (nn q)) (wd (dn q)) ∧ rq (ng q) (wd (nn q)) (wd (dn q)) = q := by
  by_cases h : q = 0
  · subst h
    rw [ng_zero, nn_zero, dn_zero, wd_zero]; exact ⟨vld_zero, rq_zero⟩
  · have h1 : nn q ≠ 0 := fun e => h (nn_eq_zero.1 e)
    have hv : Vld (ng q) (wd (nn q)) (wd (dn q)) := by
      right
      rw [dn_pos h]
      refine ⟨wd_ne h1, wd_ne q.den_nz, clean_wd _, clean_wd _, ?_⟩
      rw [val_wd, val_wd]; exact nn_gcd q
    refine ⟨hv, ?_⟩
    unfold rq
    rw [if_pos hv, val_wd, val_wd, dn_pos h, qm_self]
theorem rq_invalid {s : Bool} {a b : List Nat} (h : ¬ Vld s a b) : rq s a b = 0 := by unfold rq; rw [if_neg h]
theorem rl_rq {s : Bool} {a b : List Nat} {L : Nat} (ha : U32 a) (hb : U32 b) (h1 : a.length ≤ L) (h2 : b.length ≤ L) (hL : 1 ≤ L) : rl (rq s a b) ≤ L := by
  by_cases h : Vld s a b
  · by_cases h0 : rq s a b = 0
    · rw [h0, rl_zero]; exact hL
    · obtain ⟨_, e2, e3⟩ := vld_fields ha hb h
      unfold rl
      rw [dn_pos h0] at e3
      rw [← e2, ← e3]; omega
  · rw [rq_invalid h, rl_zero]; exact hL
/-- whether fields are a probability -/
theorem prob_iff (p : Rat) : (ng p = false ∧ nn p ≤ dn p) ↔ 0 ≤ p ∧ p ≤ 1 := by
  by_cases h0 : p = 0
  · subst h0; decide
  rw [dn_pos h0]
  have hs := num_sgn p
  have e1 : ng p = false ↔ 0 ≤ p := by unfold ng; rw [decide_eq_false_iff_not]; grind
  rw [e1]
  constructor
  · rintro ⟨h1, h2⟩
    refine ⟨h1, ?_⟩
    rw [e1.2 h1] at hs
    rw [Rat.le_iff]; unfold sgn at hs; simp at hs ⊢; omega
  · rintro ⟨h1, h2⟩
    refine ⟨h1, ?_⟩
    rw [e1.2 h1] at hs
    rw [Rat.le_iff] at h2; unfold sgn at hs; simp at hs h2; omega
end Go.Proofs.YthhgfhdmfhnklaaGreatDoor
/-
  natural.Mul and the reference's: what they hand back.
  Conditions: each theorem's own.
-/
namespace Go.Proofs.YthhgfhdmfhnklaaGreatDoor
open Go.RowKit Go.ChangeShapes Go.WideShapes

set_option maxRecDepth 100000 in
set_option maxHeartbeats 1600000 in
theorem mul_any (va vb : Value) (a b : List Nat) (w : World) (ha : Num w va a) (hb : Num w vb b) (hla : a.length ≤ 450000) (hlb : b.length ≤ 450000) :
    Calls Tryz.prog 104 #[va, vb] w (RetNum w fun r => r = wd (val a * val b)) := by
  obtain ⟨ao, ca, rfl, hca, hca2, _⟩ := ha.shape
  obtain ⟨bo, cb, rfl, hcb, hcb2, _⟩ := hb.shape
  obtain ⟨n, hn⟩ : ∃ n, n = a.length + b.length := ⟨_, rfl⟩
  have hnb : n ≤ 900000 := by omega
  have hnb' : n ≤ 70368744177664 := by omega
  have hna : a.length + b.length ≤ n := by omega
  have HN := Lib.hid hn
  have HA := Lib.hid ha; have HB := Lib.hid hb
  clear hn ha hb
  go_enter Tryz.func104, Tryz.ntmps104
  go_wp2_with (at_make; refine wpList_makeN Tryz.wordsTy rfl _ _ rfl _ _ _ _ n rfl rfl ?c1 ?c2 hnb' ?_)
  case c1 => rw [HN.out]; rfl
  case c2 => rw [HN.out]; rfl
  intro w1 hO hB hsz
  go_wp2_with fail
  go_loopw [19] (fun iv wr => ∃ (i : Nat) (l : List Nat), i ≤ a.length ∧ iv = .int .i64 i ∧ OwnW 156 wr w.heap.size (.slice (some ⟨w.heap.size, 0, none⟩) n n) l ∧ Hid (l.length = n) ∧ Below w.heap.size w wr ∧
      Hid (val l = val (a.take i) * val b)) (fun i _ => a.length - (intOf i).toNat)
  case atStart => exact ⟨0, _, Nat.zero_le _, rfl, hO, Lib.hid (by simp), hB, Lib.hid (by simp [val, val_zeros])⟩
  case round =>
    obtain ⟨i, l, hi, rfl, hOr, hll, hBr, hinv⟩ := hrel
    obtain ⟨wo, rfl⟩ : ∃ wo : World, wo = wr := ⟨_, rfl⟩
    by_cases hin : i < a.length
    · have har := HA.out.below hBr
      obtain ⟨ba, oa, rfl, _, hca⟩ := har.at (by omega)
      have hx := hca i hin
      have hxl := HA.out.lt i
      obtain ⟨x, hxe⟩ : ∃ x, x = gd a i := ⟨_, rfl⟩
      rw [← hxe] at hx hxl
      have hz := gd_zero_of_lt hOr.lt (n := i + b.length) (by rw [hinv.out]; exact mul_lt HA.out.lt HB.out.lt i)
      have HZ := Lib.hid hz
      have HX := Lib.hid hxe; have HO := Lib.hid hOr; have HAR := Lib.hid har
      clear hxe hOr har hca hz
      go_wp2_with fail
      go_loopw [8, 26] (fun cv kv wr => ∃ (k c : Nat) (m : List Nat), k ≤ b.length ∧ kv = .int .i64 k ∧ cv = .int .u64 c ∧ c < 4294967296 ∧ OwnW 156 wr w.heap.size (.slice (some ⟨w.heap.size, 0, none⟩) n n) m ∧ Hid (m.length = n) ∧ Below w.heap.size w wr ∧
          Hid (val m + 4294967296 ^ (i + k) * c = val (a.take i) * val b + 4294967296 ^ i * (x * val (b.take k))) ∧ Hid (∀ j, i + b.length ≤ j → gd m j = 0)) (fun _ k _ => b.length - (intOf k).toNat)
      case atStart => exact ⟨0, 0, l, Nat.zero_le _, rfl, rfl, by omega, HO.out, hll, hBr, Lib.hid (by rw [hinv.out]; simp [val]), HZ⟩
      case round =>
        obtain ⟨k, c, m, hk, rfl, rfl, hc, hOm, hml, hBm, hinm, hzm⟩ := hrel
        by_cases hkn : k < b.length
        · have hbr := HB.out.below hBm
          obtain ⟨bb, ob, rfl, _, hcb⟩ := hbr.at (by omega)
          have hy := hcb k hkn
          have hyl := HB.out.lt k
          obtain ⟨y, hye⟩ : ∃ y, y = gd b k := ⟨_, rfl⟩
          rw [← hye] at hy hyl
          have hik : i + k < n := by omega
          have hcell := hOm.cell hml.out (i + k) hik
          have hfr := hOm.frozen hml.out (i + k)
          have hol := hOm.lt (i + k)
          obtain ⟨o, hoe⟩ : ∃ o, o = gd m (i + k) := ⟨_, rfl⟩
          rw [← hoe] at hcell hol
          obtain ⟨p, hpe⟩ : ∃ p, p = x * y := ⟨_, rfl⟩
          have hpi : (x : Int) * (y : Int) = (p : Int) := by rw [hpe]; rfl
          have hpl := word_mul hxl hyl
          rw [← hpe] at hpl
          obtain ⟨s1, s2⟩ := mul_bounds hc hpl hol
          have HY := Lib.hid hye; have HO := Lib.hid hOm; have HOE := Lib.hid hoe; have HPE := Lib.hid hpe; have S1 := Lib.hid s1; have S2 := Lib.hid s2
          clear hye hOm hoe hpe hbr hcb s1 s2
          go_wp2_with fail
          go_roundw
          case rel =>
            have hst := HO.out.stored hml.out (i + k) ((c + (p + o)) % 4294967296) S2.out
            have hvs := val_set m (i + k) ((c + (p + o)) % 4294967296) (by rw [hml.out]; exact hik)
            rw [← HOE.out] at hvs
            refine ⟨k + 1, (c + (p + o)) / 4294967296, m.set (i + k) ((c + (p + o)) % 4294967296), by omega, by go_num, rfl, S1.out, hst, Lib.hid (by rw [List.length_set]; exact hml.out), hBm.setCell (Nat.le_refl _) _, Lib.hid ?_, Lib.hid ?_⟩
            · have h3 := mul_step hinm.out rfl hvs
              have e5 : i + (k + 1) = (i + k) + 1 := rfl
              rw [e5, Nat.pow_succ, h3, Nat.pow_add, HPE.out]
              exact mul_row _ _ _ _ _ _ HY.out
            · intro j hj
              rw [gd_set, if_neg (by omega)]; exact hzm.out j hj
          case measure => simp [intOf]; omega
        · obtain rfl : k = b.length := by omega
          have hik : i + b.length < n := by omega
          have hcell := hOm.cell hml.out (i + b.length) hik
          have hfr := hOm.frozen hml.out (i + b.length)
          have HO := Lib.hid hOm
          have hcm : c % 4294967296 = c := Nat.mod_eq_of_lt hc
          have hci : (c : Int) % 4294967296 = (c : Int) := by omega
          have HCM := Lib.hid hcm
          clear hOm hcm
          go_wp2_with fail
          go_roundw
          case rel =>
            have hst := HO.out.stored hml.out (i + b.length) c hc
            have hvs := val_set m (i + b.length) c (by rw [hml.out]; exact hik)
            rw [hzm.out _ (Nat.le_refl _)] at hvs
            refine ⟨i + 1, m.set (i + b.length) c, by omega, by go_num, hst, Lib.hid (by rw [List.length_set]; exact hml.out), hBm.setCell (Nat.le_refl _) _, Lib.hid ?_⟩
            have h3 := hinm.out
            rw [List.take_of_length_le (Nat.le_refl _), mul_rows _ _ _ _ HX.out] at h3
            omega
          case measure => simp [intOf]; omega
    · obtain rfl : i = a.length := by omega
      have hnum := hOr.num
      have htr := trim_any _ _ _ hnum (by rw [hll.out]; omega)
      rw [hinv.out, List.take_of_length_le (Nat.le_refl _)] at htr
      have HT := Lib.hid htr; clear hnum htr
      have HL := hll.out
      go_wp2_with (go_at_call 112; (with_reducible refine HT.out.mono ?_); rintro e w' ⟨v', l', rfl, hB', hN', hl'⟩)
      go_ret
      exact ⟨_, _, rfl, hBr.trans (hB'.mono hBr.size), hN', hl'⟩
set_option maxRecDepth 100000 in
set_option maxHeartbeats 1600000 in
theorem rmul_any (va vb : Value) (a b : List Nat) (w : World) (ha : Num w va a) (hb : Num w vb b) (hla : a.length ≤ 450000) (hlb : b.length ≤ 450000) :
    Calls Tryz.prog 133 #[va, vb] w (RetNum w fun r => r = wd (val a * val b)) := by
  obtain ⟨ao, ca, rfl, hca, hca2, _⟩ := ha.shape
  obtain ⟨bo, cb, rfl, hcb, hcb2, _⟩ := hb.shape
  obtain ⟨n, hn⟩ : ∃ n, n = a.length + b.length + 1 := ⟨_, rfl⟩
  have hnb : n ≤ 900001 := by omega
  have hnb' : n ≤ 70368744177664 := by omega
  have hna : a.length + b.length < n := by omega
  have HN := Lib.hid hn
  have HA := Lib.hid ha; have HB := Lib.hid hb
  clear hn ha hb
  go_enter Tryz.func133, Tryz.ntmps133
  go_wp2_with (at_make; refine wpList_makeN Tryz.wordsTy rfl _ _ rfl _ _ _ _ n rfl rfl ?c1 ?c2 hnb' ?_)
  case c1 => rw [HN.out]; rfl
  case c2 => rw [HN.out]; rfl
  intro w1 hO hB hsz
  go_wp2_with fail
  go_loopw [20] (fun iv wr => ∃ (i : Nat) (l : List Nat), i ≤ a.length ∧ iv = .int .i64 i ∧ OwnW 156 wr w.heap.size (.slice (some ⟨w.heap.size, 0, none⟩) n n) l ∧ Hid (l.length = n) ∧ Below w.heap.size w wr ∧
      Hid (val l = val (a.take i) * val b)) (fun i _ => a.length - (intOf i).toNat)
  case atStart => exact ⟨0, _, Nat.zero_le _, rfl, hO, Lib.hid (by simp), hB, Lib.hid (by simp [val, val_zeros])⟩
  case round =>
    obtain ⟨i, l, hi, rfl, hOr, hll, hBr, hinv⟩ := hrel
    obtain ⟨wo, rfl⟩ : ∃ wo : World, wo = wr := ⟨_, rfl⟩
    by_cases hin : i < a.length
    · have har := HA.out.below hBr
      obtain ⟨ba, oa, rfl, _, hca⟩ := har.at (by omega)
      have hx := hca i hin
      have hxl := HA.out.lt i
      obtain ⟨x, hxe⟩ : ∃ x, x = gd a i := ⟨_, rfl⟩
      rw [← hxe] at hx hxl
      have HX := Lib.hid hxe; have HO := Lib.hid hOr; have HAR := Lib.hid har
      clear hxe hOr har hca
      go_wp2_with fail
      go_loopw [8, 28] (fun cv kv wr => ∃ (k c : Nat) (m : List Nat), k ≤ b.length + 1 ∧ kv = .int .i64 k ∧ cv = .int .u64 c ∧ c < 4294967296 ∧ OwnW 156 wr w.heap.size (.slice (some ⟨w.heap.size, 0, none⟩) n n) m ∧ Hid (m.length = n) ∧ Below w.heap.size w wr ∧
          Hid (val m + 4294967296 ^ (i + k) * c = val (a.take i) * val b + 4294967296 ^ i * (x * val (b.take k)))) (fun _ k _ => b.length + 1 - (intOf k).toNat)
      case atStart => exact ⟨0, 0, l, Nat.zero_le _, rfl, rfl, by omega, HO.out, hll, hBr, Lib.hid (by rw [hinv.out]; simp [val])⟩
      case round =>
        obtain ⟨k, c, m, hk, rfl, rfl, hc, hOm, hml, hBm, hinm⟩ := hrel
        by_cases hkn : k < b.length + 1
        · have hbr := Lib.hid (HB.out.below hBm)
          have hyl := HB.out.lt k
          obtain ⟨y, hye⟩ : ∃ y, y = gd b k := ⟨_, rfl⟩
          have hwb : ∀ nq, Calls Tryz.prog 159 #[.slice bo b.length cb, .int .i64 k] (wr.drewN nq) (RetS (wr.drewN nq) (.int .u64 (y : Nat))) := fun nq => by
            have h := rword_any _ b k (wr.drewN nq) (hbr.out.below (below_drewN (Below.refl _ _) nq)) (by omega) (by omega)
            rw [Int.toNat_natCast, ← hye] at h; exact h
          have HWB := Lib.hid hwb
          rw [← hye] at hyl
          have hik : i + k < n := by omega
          have hcell := hOm.cell hml.out (i + k) hik
          have hfr := hOm.frozen hml.out (i + k)
          have hol := hOm.lt (i + k)
          obtain ⟨o, hoe⟩ : ∃ o, o = gd m (i + k) := ⟨_, rfl⟩
          rw [← hoe] at hcell hol
          obtain ⟨p, hpe⟩ : ∃ p, p = x * y := ⟨_, rfl⟩
          have hpi : (x : Int) * (y : Int) = (p : Int) := by rw [hpe]; rfl
          have hpl := word_mul hxl hyl
          rw [← hpe] at hpl
          obtain ⟨s1, s2⟩ := mul_bounds hc hpl hol
          have e1 : c + (p + o) = p + o + c := by omega
          have E1 := Lib.hid e1
          rw [e1] at s1 s2
          clear e1
          have HY := Lib.hid hye; have HO := Lib.hid hOm; have HOE := Lib.hid hoe; have HPE := Lib.hid hpe; have S1 := Lib.hid s1; have S2 := Lib.hid s2
          clear hye hOm hoe hpe hwb s1 s2
          go_wp2_with fail
          go_quiet ((go_at_call 159; exact Calls.quiet_of_same (ret_quiet (HWB.out _))))
          go_wp2_with fail
          go_roundw
          case rel =>
            have hst := (HO.out.below (below_drewN (Below.refl _ _) nq)).stored hml.out (i + k) ((p + o + c) % 4294967296) S2.out
            have hvs := val_set m (i + k) ((p + o + c) % 4294967296) (by rw [hml.out]; exact hik)
            rw [← HOE.out] at hvs
            refine ⟨k + 1, (p + o + c) / 4294967296, m.set (i + k) ((p + o + c) % 4294967296), by omega, by go_num, rfl, S1.out, hst, Lib.hid (by rw [List.length_set]; exact hml.out), (below_drewN hBm nq).setCell (Nat.le_refl _) _, Lib.hid ?_⟩
            · have h3 := mul_step hinm.out E1.out.symm hvs
              have e5 : i + (k + 1) = (i + k) + 1 := rfl
              rw [e5, Nat.pow_succ, h3, Nat.pow_add, HPE.out]
              exact mul_row _ _ _ _ _ _ HY.out
          case measure => simp [intOf]; omega
        · obtain rfl : k = b.length + 1 := by omega
          go_wp2_with fail
          go_roundw
          case rel =>
            refine ⟨i + 1, m, by omega, by go_num, hOm, hml, hBm, Lib.hid ?_⟩
            have h3 := hinm.out
            rw [List.take_of_length_le (Nat.le_succ _), mul_rows _ _ _ _ HX.out] at h3
            have h4 := mul_lt HA.out.lt HB.out.lt (i + 1)
            rw [show i + 1 + b.length = i + (b.length + 1) from by omega] at h4
            exact mul_spent h3 h4
          case measure => simp [intOf]; omega
    · obtain rfl : i = a.length := by omega
      have hnum := hOr.num
      have htr := rtrim_any _ _ _ hnum (by rw [hll.out]; omega)
      rw [hinv.out, List.take_of_length_le (Nat.le_refl _)] at htr
      have HT := Lib.hid htr; clear hnum htr
      have HL := hll.out
      go_wp2_with (go_at_call 160; (with_reducible refine HT.out.mono ?_); rintro e w' ⟨v', l', rfl, hB', hN', hl'⟩)
      go_ret
      exact ⟨_, _, rfl, hBr.trans (hB'.mono hBr.size), hN', hl'⟩
end Go.Proofs.YthhgfhdmfhnklaaGreatDoor
