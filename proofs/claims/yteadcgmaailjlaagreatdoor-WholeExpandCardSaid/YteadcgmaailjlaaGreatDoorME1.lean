/-
  What the law leans on, one text behind the other (the base).
  Conditions: each theorem's own.
-/
import Derived.WalkKit
import Derived.ProofKit
import Derived.WalkSpells
import Derived.WalkLawsBesides
import Derived.WalkSmall
import Derived.Lib.Hide
import Derived.Test.YteadcgmaailjlaaGreatDoorProg
import Derived.Deep.QuietTactic
import Derived.BigQuiet
import Derived.Laws.BitsLemmas
import Derived.Lib.BitFns
import Derived.Shelf.Strings.Builder1
import Derived.Shelf.Strings.Builder2
import Derived.Shelf.Strings.Trim
import Derived.Shelf.Small.Utf8
import Derived.Shelf.Small.Bits
import Derived.Shelf.Small.Strs
import Derived.Shelf.Strings.BuilderF
import Derived.Shelf.Strings.BuilderK
import Derived.Shelf.Strings.Builder2Cap
import Derived.Shelf.Strconv.Itoa0
import Derived.Shelf.Strings.Search1
import Derived.Shelf.Strings.Search2
import Derived.Shelf.Strings.Cut
import Derived.Shelf.LaysM
import Derived.Shelf.Strings.Shaped
import Derived.Shelf.Unicode.Decode
import Derived.Shelf.Strings.Runes
import Derived.Shelf.Strings.AsciiSet
import Derived.Shelf.Unicode.DecodeSlow
import Derived.Shelf.Strings.BuilderCap
import Derived.Deep.RegionHeld3
import Derived.Deep.DeepCutAuto
import Derived.IntWalk
import Derived.LoopN
import Derived.Handy
import Derived.Lib.TrimByte
import Derived.StillTailTactics
import Derived.Deep.MidRow
import Derived.Laws.AppendOwn
import Derived.Deep.Slices
import Derived.Deep.Strs
import Derived.Laws.OwnMore
set_option maxRecDepth 100000
set_option maxHeartbeats 16000000
namespace Go.Proofs.YteadcgmaailjlaaGreatDoor
open Go.RowKit Go.ChangeShapes Go.WideShapes
theorem qHd {p : Prop} (h : p) : Hid p := h
theorem qBA (w : World) (o : Obj) : Below w.heap.size w (w.alloc o) := (Below.refl _ _).alloc (Nat.le_refl _) _
theorem qBx3 (w : World) (o : Obj) : ∃ w', w' = w.alloc o ∧ Below w.heap.size w w' ∧ w'.heap[w.heap.size]? = some o := ⟨_, rfl, qBA w o, heap_alloc_new w o⟩
theorem qBx5 (w : World) (o : Obj) : ∃ w', w' = w.alloc o ∧ Below w.heap.size w w' ∧ ∃ g, g = w.heap.size ∧ w'.heap[g]? = some o := ⟨_, rfl, qBA w o, _, rfl, heap_alloc_new w o⟩
theorem qBx2 (w : World) (o p : Obj) : ∃ w', w' = (w.alloc o).alloc p ∧ Below w.heap.size w w' ∧ w'.heap[w.heap.size]? = some o ∧ w'.heap[w.heap.size + 1]? = some p := ⟨_, rfl, (qBA w o).alloc (by simp) _, heap_alloc2_old w o p, heap_alloc2_new w o p⟩
def gd (l : List Nat) (j : Nat) : Nat := l.getD j 0
theorem gd_over (l : List Nat) (j : Nat) (h : l.length ≤ j) : gd l j = 0 := by simp [gd, h]
theorem gd_lt (l : List Nat) (j : Nat) (h : j < l.length) : gd l j = l[j] := by simp [gd, h]
theorem gd_append (a b : List Nat) (j : Nat) : gd (a ++ b) j = if j < a.length then gd a j else gd b (j - a.length) := by
 unfold gd
 simp only [List.getD_eq_getElem?_getD, List.getElem?_append]; split <;> rfl
theorem gd_ext {a b : List Nat} (hl : a.length = b.length) (h : ∀ j, j < a.length → gd a j = gd b j) : a = b := by
 apply List.ext_getElem hl
 intro i h1 h2
 have := h i h1
 rwa [gd_lt _ _ h1, gd_lt _ _ h2] at this
def qcc (w : World) (v : Value) (e : Ending) (w' : World) : Prop := e = .returned v ∧ Below w.heap.size w w'

def RetS (w : World) (v : Value) (e : Ending) (w' : World) : Prop := e = .returned v ∧ w = w'
theorem qcj {a b : Bool} (h : a = b) : Ending.returned (.bool a) = .returned (.bool b) := by rw [h]
theorem ret_int {k : IntKind} {a b : Int} (h : a = b) : Ending.returned (.int k a) = .returned (.int k b) := by rw [h]
section
variable {e : TypeId} {w : World} {B : Nat} {v : Value} {l : List Nat}
end

structure qdj (P : Program) (t e : TypeId) (z : Value) (size bytes : Nat) : Prop where
 under : P.underlying t = some (.slice e)
 info : ∃ i, P.info? e = some i ∧ i.zero = some z ∧ i.size = size ∧ i.bytes = bytes

theorem qdj.mk' {P : Program} {t e : TypeId} {z : Value} {size bytes : Nat} (h1 : P.underlying t = some (.slice e))
  (h2 : (P.info? e).map (fun i => (i.zero, i.size, i.bytes)) = some (some z, size, bytes)) : qdj P t e z size bytes := ⟨h1, info_parts h2⟩

section
variable {P : Program} {w : World} {ops : Array Oper} {rest : List Oper} {o : Oper} {a : Act} {Q : Exit → Act → World → Prop} {t e : TypeId}
end

section
variable {P : Program} (w : World)
@[go_sem 2000] theorem run_max_int2' (ts : Array TypeId) (t : TypeId) (k k' : IntKind) (x y : Int) : (Builtin.max_ ts t #[.int k x, .int k' y]).run P w = .ok (.int k (max x y)) w := by
  rw [run_max_int2]; congr 2; rw [Int.max_def]; split <;> split <;> omega
@[go_sem 2000] theorem run_min_int2' (ts : Array TypeId) (t : TypeId) (k k' : IntKind) (x y : Int) : (Builtin.min_ ts t #[.int k x, .int k' y]).run P w = .ok (.int k (min x y)) w := by
  simp only [Builtin.min_, Builtin.min2, List.foldlM]
  simp only [Sem.run_bind, Sem.run_pure, Result.andThen_ok]
  congr 2; rw [Int.min_def]; split <;> split <;> omega
end
end Go.Proofs.YteadcgmaailjlaaGreatDoor
namespace Go.Proofs.YteadcgmaailjlaaGreatDoor
structure Nd where
 kind : Int
 K : Int
 args : List Int
structure Fm where
 vars : Int
 nodes : List Nd
 top : Int
def I64 (x : Int) : Prop := -9223372036854775808 ≤ x ∧ x ≤ 9223372036854775807
def qbq (k : Int) (n : Nat) : Bool := if k = 0 then decide (n = 0) else if k = 1 then decide (n = 1) else decide (1 ≤ n ∧ n ≤ 16)
def qdo (vars : Int) (i : Nat) (a : Int) : Bool := decide (a < 0 ∨ vars + i ≤ a)
def qbe (vars : Int) (i : Nat) (x : Nd) : Nat :=
 if x.kind < 0 ∨ 5 < x.kind then 7
 else if qbq x.kind x.args.length = false then 11
 else if x.args.any (qdo vars i) then 10
 else if x.kind = 0 then (if x.K ≠ 0 ∧ x.K ≠ 1 then 3 else 0)
 else if x.kind = 4 then (if x.K < 1 ∨ (x.args.length : Int) < x.K then 3 else 0)
 else if x.K ≠ 0 then 2 else 0
def qbc (vars : Int) : Nat → List Nd → Nat
 | _, [] => 0
 | i, x :: xs => if qbe vars i x = 0 then qbc vars (i + 1) xs else qbe vars i x
theorem ndsErr_cons {vars : Int} {i : Nat} {x : Nd} {xs : List Nd} (h : qbe vars i x = 0) : qbc vars i (x :: xs) = qbc vars (i + 1) xs := by
 simp only [qbc]; rw [if_pos h]
theorem ndsErr_bad {vars : Int} {i : Nat} {x : Nd} {xs : List Nd} (h : qbe vars i x ≠ 0) : qbc vars i (x :: xs) = qbe vars i x := by
 simp only [qbc]; rw [if_neg h]
def argOK (f : Fm) (a : Int) : Bool := decide (0 ≤ f.vars ∧ 0 ≤ a ∧ (a < f.vars ∨ a - f.vars < f.nodes.length))
def qcr (f : Fm) : Nat :=
 if f.vars < 0 ∨ 24 < f.vars then 3 else if 128 < f.nodes.length then 4
 else if qbc f.vars 0 f.nodes ≠ 0 then qbc f.vars 0 f.nodes else if argOK f f.top then 0 else 10
def ev3 (yes no i : Nat) : Nat := if yes.testBit i then 1 else if no.testBit i then 0 else 2
def qcb (vs : List Nat) (args : List Int) (k : Nat) : Nat := (args.filter fun a => decide (gd vs a.toNat = k)).length
def lev (yes no : Bool) : Nat := if yes then 1 else if no then 0 else 2
def ndVal (x : Nd) (c0 c1 c2 : Nat) : Nat :=
 if x.kind = 0 then x.K.toNat
 else if x.kind = 1 then lev (decide (c0 = 1)) (decide (c1 = 1))
 else if x.kind = 2 then lev (decide (c1 = x.args.length)) (decide (0 < c0))
 else if x.kind = 3 then lev (decide (0 < c1)) (decide (c0 = x.args.length))
 else if x.kind = 4 then lev (decide (x.K ≤ c1)) (decide ((c1 : Int) + c2 < x.K))
 else lev (decide (c2 = 0 ∧ c1 % 2 = 1)) (decide (c2 = 0 ∧ c1 % 2 = 0))
def valsE (vars yes no : Nat) : List Nat := (List.range vars).map (ev3 yes no)
def qaj (vs : List Nat) : List Nd → List Nat
 | [] => vs
 | x :: xs => qaj (vs ++ [ndVal x (qcb vs x.args 0) (qcb vs x.args 1) (qcb vs x.args 2)]) xs
def valsF (f : Fm) (yes no : Nat) : List Nat := qaj (valsE f.vars.toNat yes no) f.nodes
def fmVal (f : Fm) (yes no : Nat) : Nat := gd (valsF f yes no) f.top.toNat
theorem qdt (l : List Nd) : ∀ vs, (qaj vs l).length = vs.length + l.length := by
 induction l with
 | nil => intro vs; simp [qaj]
 | cons x xs ih => intro vs; simp only [qaj, ih, List.length_append, List.length_cons, List.length_nil]; omega
theorem valsN_pre (l : List Nd) : ∀ vs j, j < vs.length → gd (qaj vs l) j = gd vs j := by
 induction l with
 | nil => intro vs j _; rfl
 | cons x xs ih =>
  intro vs j hj
  simp only [qaj]
  rw [ih _ j (by rw [List.length_append]; omega), gd_append, if_pos hj]
end Go.Proofs.YteadcgmaailjlaaGreatDoor
namespace Go.Proofs.YteadcgmaailjlaaGreatDoor
open Go.RowKit Go.ChangeShapes Go.WideShapes
def qbi (w : World) (v : Value) (l : List Int) : Prop :=
 ∃ ao c, v = .slice ao l.length c ∧ l.length ≤ c ∧ c ≤ 9223372036854775807 ∧ (ao = none → c = 0) ∧
  (∀ b off s, ao = some ⟨b, off, s⟩ → (0 < l.length → b < w.heap.size ∧ s = none) ∧ ∀ (j : Nat) x, l[j]? = some x → w.cell? ⟨b, off + j, none⟩ = some (.int .i64 x)) ∧
  ∀ x ∈ l, I64 x
theorem getElem?_pos {α : Type} {l : List α} {j : Nat} {x : α} (h : l[j]? = some x) : 0 < l.length := by
 rcases Nat.eq_zero_or_pos l.length with k | k
 ·rw [List.length_eq_zero_iff] at k; rw [k] at h; cases h
 ·exact k
theorem qbi.mono {w w' : World} {v : Value} {l : List Int} {B : Nat} (h : qbi w v l) (hb : Below B w w') (hB : w.heap.size ≤ B) : qbi w' v l := by
 obtain ⟨ao, c, rfl, h1, h2, h3, h4, h5⟩ := h
 refine ⟨ao, c, rfl, h1, h2, h3, ?_, h5⟩
 intro b off s hs
 obtain ⟨k1, k3⟩ := h4 b off s hs
 refine ⟨fun h0 => ⟨Nat.lt_of_lt_of_le (k1 h0).1 hb.size, (k1 h0).2⟩, fun j x hj => ?_⟩
 rw [hb.cell (p := ⟨b, off + j, none⟩) (Nat.lt_of_lt_of_le (k1 (getElem?_pos hj)).1 hB)]
 exact k3 j x hj
theorem qbi.below {w w' : World} {v : Value} {l : List Int} (h : qbi w v l) (hb : Below w.heap.size w w') : qbi w' v l := h.mono hb (Nat.le_refl _)
theorem qbi.shape {w : World} {v : Value} {l : List Int} (h : qbi w v l) : ∃ ao c, v = .slice ao l.length c ∧ l.length ≤ c ∧ c ≤ 9223372036854775807 ∧ (ao = none → c = 0) := by
 obtain ⟨ao', c', e, h1, h2, h3, h4, h5⟩ := h
 exact ⟨ao', c', e, h1, h2, h3⟩
theorem qbi.at {w : World} {ao : Option Addr} {n c : Nat} {l : List Int} (h : qbi w (.slice ao n c) l) (hn : 0 < n) :
  ∃ b off, ao = some ⟨b, off, none⟩ ∧ b < w.heap.size ∧ n = l.length ∧ ∀ (j : Nat) x, l[j]? = some x → w.cell? ⟨b, off + j, none⟩ = some (.int .i64 x) := by
 obtain ⟨ao', c', e, h1, h2, h3, h4, h5⟩ := h
 cases e
 cases hao : ao with
 | none => have := h3 hao; omega
 | some a =>
  obtain ⟨b, off, s⟩ := a
  obtain ⟨k1, k2⟩ := h4 b off s hao
  obtain ⟨k3, rfl⟩ := k1 hn
  exact ⟨b, off, rfl, k3, rfl, k2⟩
theorem qbi.lt {w : World} {v : Value} {l : List Int} (h : qbi w v l) : ∀ x ∈ l, I64 x := by
 obtain ⟨ao', c', e, h1, h2, h3, h4, h5⟩ := h
 exact h5
def NdAt (w : World) (b off : Nat) (n : Nd) : Prop :=
 w.cell? ⟨b, off, none⟩ = some (.int .i64 n.kind) ∧ w.cell? ⟨b, off + 1, none⟩ = some (.int .i64 n.K) ∧ (∃ av, w.cell? ⟨b, off + 2, none⟩ = some av ∧ qbi w av n.args) ∧ I64 n.kind ∧ I64 n.K
def NdsV (w : World) (v : Value) (l : List Nd) : Prop :=
 ∃ ao c, v = .slice ao l.length c ∧ l.length ≤ c ∧ c ≤ 9223372036854775807 ∧ (ao = none → c = 0) ∧
  (∀ b off s, ao = some ⟨b, off, s⟩ → (0 < l.length → b < w.heap.size ∧ s = none) ∧ ∀ (j : Nat) x, l[j]? = some x → NdAt w b (off + j * 3) x)
theorem NdAt.mono {w w' : World} {b off : Nat} {n : Nd} {B : Nat} (h : NdAt w b off n) (hb : Below B w w') (hB : w.heap.size ≤ B) (hlt : b < B) : NdAt w' b off n := by
 obtain ⟨h1, h2, ⟨av, h3, h4⟩, h5, h6⟩ := h
 refine ⟨?_, ?_, ⟨av, ?_, h4.mono hb hB⟩, h5, h6⟩
 ·rw [hb.cell (p := ⟨b, _, none⟩) hlt]; exact h1
 ·rw [hb.cell (p := ⟨b, _, none⟩) hlt]; exact h2
 ·rw [hb.cell (p := ⟨b, _, none⟩) hlt]; exact h3
theorem NdsV.mono {w w' : World} {v : Value} {l : List Nd} {B : Nat} (h : NdsV w v l) (hb : Below B w w') (hB : w.heap.size ≤ B) : NdsV w' v l := by
 obtain ⟨ao, c, rfl, h1, h2, h3, h4⟩ := h
 refine ⟨ao, c, rfl, h1, h2, h3, ?_⟩
 intro b off s hs
 obtain ⟨k1, k3⟩ := h4 b off s hs
 refine ⟨fun h0 => ⟨Nat.lt_of_lt_of_le (k1 h0).1 hb.size, (k1 h0).2⟩, fun j x hj => ?_⟩
 exact (k3 j x hj).mono hb hB (Nat.lt_of_lt_of_le (k1 (getElem?_pos hj)).1 hB)
theorem NdsV.below {w w' : World} {v : Value} {l : List Nd} (h : NdsV w v l) (hb : Below w.heap.size w w') : NdsV w' v l := h.mono hb (Nat.le_refl _)
theorem NdsV.shape {w : World} {v : Value} {l : List Nd} (h : NdsV w v l) : ∃ ao c, v = .slice ao l.length c ∧ l.length ≤ c ∧ c ≤ 9223372036854775807 ∧ (ao = none → c = 0) := by
 obtain ⟨ao', c', e, h1, h2, h3, h4⟩ := h
 exact ⟨ao', c', e, h1, h2, h3⟩
theorem NdsV.at {w : World} {ao : Option Addr} {n c : Nat} {l : List Nd} (h : NdsV w (.slice ao n c) l) (hn : 0 < n) :
  ∃ b off, ao = some ⟨b, off, none⟩ ∧ b < w.heap.size ∧ n = l.length ∧ ∀ (j : Nat) x, l[j]? = some x → NdAt w b (off + j * 3) x := by
 obtain ⟨ao', c', e, h1, h2, h3, h4⟩ := h
 cases e
 cases hao : ao with
 | none => have := h3 hao; omega
 | some a =>
  obtain ⟨b, off, s⟩ := a
  obtain ⟨k1, k2⟩ := h4 b off s hao
  obtain ⟨k3, rfl⟩ := k1 hn
  exact ⟨b, off, rfl, k3, rfl, k2⟩
def FmV (w : World) (v : Value) (f : Fm) : Prop := ∃ nv, v = .agg #[.int .i64 f.vars, nv, .int .i64 f.top] ∧ NdsV w nv f.nodes ∧ I64 f.vars ∧ I64 f.top
theorem FmV.below {w w' : World} {v : Value} {f : Fm} (h : FmV w v f) (hb : Below w.heap.size w w') : FmV w' v f := by
 obtain ⟨nv, h1, h2, h3, h4⟩ := h
 exact ⟨nv, h1, h2.below hb, h3, h4⟩
theorem arguments_any (k : Int) (n : Nat) (w : World) (hn : n ≤ 9223372036854775807) : Calls Tryz.prog 90 #[.int .i64 k, .int .i64 (n : Nat)] w (RetS w (.bool (qbq k n))) := by
 by_cases h0 : k = 0
 ·subst h0
  go_enter Tryz.func90, Tryz.ntmps90
  go_wp2
  go_ret
  exact ⟨qcj (by rw [Bool.eq_iff_iff]; simp [qbq] <;> omega), rfl⟩
 by_cases h1 : k = 1
 ·subst h1
  go_enter Tryz.func90, Tryz.ntmps90
  go_wp2
  go_ret
  exact ⟨qcj (by rw [Bool.eq_iff_iff]; simp [qbq] <;> omega), rfl⟩
 by_cases h2 : 1 ≤ (n : Int)
 ·go_enter Tryz.func90, Tryz.ntmps90
  go_wp2
  go_ret
  exact ⟨qcj (by rw [Bool.eq_iff_iff]; simp [qbq, h0, h1] <;> omega), rfl⟩
 ·go_enter Tryz.func90, Tryz.ntmps90
  go_wp2
  go_ret
  exact ⟨qcj (by rw [Bool.eq_iff_iff]; simp [qbq, h0, h1] <;> omega), rfl⟩

theorem fvalid_any (vf : Value) (f : Fm) (a : Int) (w : World) (hf : FmV w vf f) (ha : I64 a) : Calls Tryz.prog 57 #[vf, .int .i64 a] w (qcc w (.bool (argOK f a))) := by
 obtain ⟨nv, rfl, hn, hv, _⟩ := hf
 obtain ⟨ao, c, rfl, hc, hc2, _⟩ := hn.shape
 clear hn
 obtain ⟨v, ns, top⟩ := f
 simp only at hv hc ⊢
 unfold I64 at ha hv
 have key : ∀ b : Bool, (b = true ↔ 0 ≤ v ∧ 0 ≤ a ∧ (a < v ∨ a - v < ns.length)) → b = argOK ⟨v, ns, top⟩ a := fun b hb => by rw [Bool.eq_iff_iff, hb]; simp [argOK]
 have KEY := qHd key; clear key
 by_cases c1 : 0 ≤ v
 ·by_cases c2 : 0 ≤ a
  ·by_cases c3 : a < v
   ·go_enter Tryz.func57, Tryz.ntmps57
    go_wp2
    go_ret
    exact ⟨qcj (KEY.out _ (by simp; omega)), (Below.refl _ _).alloc (Nat.le_refl _) _⟩
   ·go_enter Tryz.func57, Tryz.ntmps57
    go_wp2
    go_ret
    exact ⟨qcj (KEY.out _ (by simp; omega)), (Below.refl _ _).alloc (Nat.le_refl _) _⟩
  ·go_enter Tryz.func57, Tryz.ntmps57
   go_wp2
   go_ret
   exact ⟨qcj (KEY.out _ (by simp; omega)), (Below.refl _ _).alloc (Nat.le_refl _) _⟩
 ·go_enter Tryz.func57, Tryz.ntmps57
  go_wp2
  go_ret
  exact ⟨qcj (KEY.out _ (by simp; omega)), (Below.refl _ _).alloc (Nat.le_refl _) _⟩

theorem rfvalid_any (vf : Value) (f : Fm) (a : Int) (w : World) (hf : FmV w vf f) (ha : I64 a) : Calls Tryz.prog 51 #[vf, .int .i64 a] w (qcc w (.bool (argOK f a))) := by
 obtain ⟨nv, rfl, hn, hv, _⟩ := hf
 obtain ⟨ao, c, rfl, hc, hc2, _⟩ := hn.shape
 clear hn
 obtain ⟨v, ns, top⟩ := f
 simp only at hv hc ⊢
 unfold I64 at ha hv
 have key : ∀ b : Bool, (b = true ↔ 0 ≤ v ∧ 0 ≤ a ∧ (a < v ∨ a - v < ns.length)) → b = argOK ⟨v, ns, top⟩ a := fun b hb => by rw [Bool.eq_iff_iff, hb]; simp [argOK]
 have KEY := qHd key; clear key
 by_cases c1 : 0 ≤ v
 ·by_cases c2 : 0 ≤ a
  ·by_cases c3 : a < v
   ·go_enter Tryz.func51, Tryz.ntmps51
    go_wp2
    go_ret
    exact ⟨qcj (KEY.out _ (by simp; omega)), (Below.refl _ _).alloc (Nat.le_refl _) _⟩
   ·go_enter Tryz.func51, Tryz.ntmps51
    go_wp2
    go_ret
    exact ⟨qcj (KEY.out _ (by simp; omega)), (Below.refl _ _).alloc (Nat.le_refl _) _⟩
  ·go_enter Tryz.func51, Tryz.ntmps51
   go_wp2
   go_ret
   exact ⟨qcj (KEY.out _ (by simp; omega)), (Below.refl _ _).alloc (Nat.le_refl _) _⟩
 ·go_enter Tryz.func51, Tryz.ntmps51
  go_wp2
  go_ret
  exact ⟨qcj (KEY.out _ (by simp; omega)), (Below.refl _ _).alloc (Nat.le_refl _) _⟩
end Go.Proofs.YteadcgmaailjlaaGreatDoor
namespace Go.Proofs.YteadcgmaailjlaaGreatDoor
open Go.RowKit
def val : List Nat → Nat
 | [] => 0
 | x :: l => x + 4294967296 * val l
def wd (n : Nat) : List Nat := if h : n = 0 then [] else n % 4294967296 :: wd (n / 4294967296)
termination_by n
decreasing_by exact Nat.div_lt_self (by omega) (by decide)
end Go.Proofs.YteadcgmaailjlaaGreatDoor
namespace Go.Proofs.YteadcgmaailjlaaGreatDoor
open Go.RowKit Go.ChangeShapes Go.WideShapes
theorem qcp {B : Nat} {a w : World} (h : Below B a w) (n : Nat) : Below B a (w.drewN n) := h.trans ⟨rfl, rfl, rfl, Nat.le_refl _, fun _ _ => rfl⟩
def qdi (c : Nat) : Value := if c = 0 then .nilIface else .iface 34 (.int .i64 c)
theorem qce : qdi 0 = .nilIface := rfl
theorem errV_pos {c : Nat} (h : c ≠ 0) : qdi c = .iface 34 (.int .i64 c) := by simp [qdi, h]
def ndK (kind K : Int) (n : Nat) : Nat :=
 if kind = 0 then (if K ≠ 0 ∧ K ≠ 1 then 3 else 0) else if kind = 4 then (if K < 1 ∨ (n : Int) < K then 3 else 0) else if K ≠ 0 then 2 else 0
theorem ndErr_type {v K kind : Int} {i : Nat} {args : List Int} (h : kind < 0 ∨ 5 < kind) : qbe v i ⟨kind, K, args⟩ = 7 := by unfold qbe; rw [if_pos h]
theorem ndErr_shape {v K kind : Int} {i : Nat} {args : List Int} (h : ¬ (kind < 0 ∨ 5 < kind)) (h2 : qbq kind args.length = false) : qbe v i ⟨kind, K, args⟩ = 11 := by unfold qbe; rw [if_neg h]; simp only; rw [if_pos h2]
theorem ndErr_index {v K kind : Int} {i : Nat} {args : List Int} (h : ¬ (kind < 0 ∨ 5 < kind)) (h2 : qbq kind args.length = true) (q : Nat) (a : Int) (ha : args[q]? = some a) (hb : qdo v i a = true) : qbe v i ⟨kind, K, args⟩ = 10 := by
 unfold qbe; rw [if_neg h]; simp only; rw [if_neg (by simp [h2]), if_pos (List.any_eq_true.2 ⟨a, List.mem_of_getElem? ha, hb⟩)]
theorem ndErr_kp {v K kind : Int} {i : Nat} {args : List Int} (h : ¬ (kind < 0 ∨ 5 < kind)) (h2 : qbq kind args.length = true) (h3 : ∀ a ∈ args.take args.length, qdo v i a = false) : qbe v i ⟨kind, K, args⟩ = ndK kind K args.length := by
 unfold qbe ndK
 rw [if_neg h]; simp only
 rw [if_neg (by simp [h2]), if_neg]
 intro hh
 obtain ⟨a, ha, hb⟩ := List.any_eq_true.1 hh
 rw [List.take_length] at h3
 rw [h3 a ha] at hb; cases hb
theorem bad_take {args : List Int} {p : Int → Bool} {q : Nat} {a : Int} (h : ∀ a ∈ args.take q, p a = false) (hq : args[q]? = some a) (ha : p a = false) : ∀ a ∈ args.take (q + 1), p a = false := by
 intro x hx
 rw [List.take_add_one, hq] at hx
 simp only [Option.toList_some, List.mem_append, List.mem_singleton] at hx
 rcases hx with hx | rfl
 ·exact h x hx
 ·exact ha

theorem checkNode_any (vf : Value) (f : Fm) (i : Nat) (x : Nd) (w : World) (hf : FmV w vf f) (hx : f.nodes[i]? = some x) (hv : 0 ≤ f.vars ∧ f.vars ≤ 24) (hi : i ≤ 128) :
  Calls Tryz.prog 56 #[vf, .int .i64 (i : Nat)] w (qcc w (qdi (qbe f.vars i x))) := by
 obtain ⟨nv, rfl, hn, _, _⟩ := hf
 obtain ⟨ao, c, rfl, hc, hc2, _⟩ := hn.shape
 have hlt : i < f.nodes.length := (List.getElem?_eq_some_iff.1 hx).1
 obtain ⟨b, off, rfl, hb, _, hat⟩ := hn.at (by omega)
 obtain ⟨c0, c1, ⟨av, c2, hI⟩, hk, hK⟩ := hat i x hx
 clear hn hat
 obtain ⟨v, ns, top⟩ := f
 obtain ⟨kind, K, args⟩ := x
 simp only at hv hc hlt c0 c1 c2 hI hk hK ⊢
 obtain ⟨ao', c', rfl, hc', hc2', _⟩ := hI.shape
 have HI := qHd hI; clear hI
 have hlt' : (i : Int) < (ns.length : Int) := by omega
 unfold I64 at hk hK
 have hbW : Below w.heap.size w ((w.alloc (.cells #[.int .i64 v, .slice (some ⟨b, off, none⟩) ns.length c, .int .i64 top] 24)).alloc (.cells #[.int .i64 kind, .int .i64 K, .slice ao' args.length c'] 56)) := ((Below.refl _ _).alloc (Nat.le_refl _) _).alloc (by simp) _
 clear hx
 by_cases e1 : kind < 0
 ·have R := qHd (ndErr_type (v := v) (K := K) (i := i) (args := args) (.inl e1))
  go_enter Tryz.func56, Tryz.ntmps56
  go_wp2
  go_ret
  exact ⟨by rw [R.out]; rfl, by first | exact hbW | exact ((Below.refl _ _).alloc (Nat.le_refl _) _).alloc (by simp) _⟩
 by_cases e2 : 5 < kind
 ·have R := qHd (ndErr_type (v := v) (K := K) (i := i) (args := args) (.inr e2))
  go_enter Tryz.func56, Tryz.ntmps56
  go_wp2
  go_ret
  exact ⟨by rw [R.out]; rfl, by first | exact hbW | exact ((Below.refl _ _).alloc (Nat.le_refl _) _).alloc (by simp) _⟩
 have E12 := qHd (show ¬ (kind < 0 ∨ 5 < kind) by omega)
 by_cases ha : qbq kind args.length = false
 ·have R := qHd (ndErr_shape (v := v) (K := K) (i := i) E12.out ha)
  go_enter Tryz.func56, Tryz.ntmps56
  go_wp2_with fail
  (with_reducible refine (arguments_any _ _ _ (by omega)).mono ?_); rintro e w1 ⟨rfl, rfl⟩
  rw [ha]
  go_wp2
  go_ret
  exact ⟨by rw [R.out]; rfl, by first | exact hbW | exact ((Below.refl _ _).alloc (Nat.le_refl _) _).alloc (by simp) _⟩
 have ha : qbq kind args.length = true := by simpa using ha
 have HA := qHd ha
 have R10 := qHd (ndErr_index (v := v) (K := K) (i := i) E12.out ha)
 have RK := qHd (ndErr_kp (v := v) (K := K) (i := i) E12.out ha)
 have hkk : kind = 0 ∨ kind = 4 ∨ (kind ≠ 0 ∧ kind ≠ 4) := by omega
 rcases hkk with rfl | rfl | ⟨n0, n4⟩
 ·go_enter Tryz.func56, Tryz.ntmps56
  go_wp2_with fail
  (with_reducible refine (arguments_any _ _ _ (by omega)).mono ?_); rintro e w1 ⟨rfl, rfl⟩
  rw [HA.out]
  go_wp2_with fail
  go_loopw [33] (fun i' wx => ∃ q : Nat, q ≤ args.length ∧ i' = .int .i64 q ∧ wx = ((w.alloc (.cells #[.int .i64 v, .slice (some ⟨b, off, none⟩) ns.length c, .int .i64 top] 24)).alloc (.cells #[.int .i64 0, .int .i64 K, .slice ao' args.length c'] 56)) ∧ Hid (∀ a ∈ args.take q, qdo v i a = false)) (fun i' _ => args.length - (intOf i').toNat)
  case atStart => exact ⟨0, Nat.zero_le _, rfl, by first | rfl | trivial, qHd (by simp)⟩
  case round =>
   obtain ⟨q, hq, rfl, rfl, G⟩ := hrel
   by_cases hlt2 : q < args.length
   ·obtain ⟨b', off', rfl, hb', _, hat'⟩ := HI.out.at (by omega)
    obtain ⟨a, hqa⟩ : ∃ a, args[q]? = some a := ⟨args[q], List.getElem?_eq_getElem hlt2⟩
    have ca := hat' q a hqa
    have hla := HI.out.lt a (List.mem_of_getElem? hqa)
    unfold I64 at hla
    clear hat'
    have HQ := qHd hqa; clear hqa
    have hlt3 : (q : Int) < (args.length : Int) := by omega
    by_cases a1 : a < 0
    ·go_wp2
     all_goals (go_ret; exact ⟨by rw [R10.out q a HQ.out (decide_eq_true (Or.inl a1))]; rfl, by first | exact hbW | exact ((Below.refl _ _).alloc (Nat.le_refl _) _).alloc (by simp) _⟩)
    by_cases a2 : v + i ≤ a
    ·go_wp2
     all_goals (go_ret; exact ⟨by rw [R10.out q a HQ.out (decide_eq_true (Or.inr a2))]; rfl, by first | exact hbW | exact ((Below.refl _ _).alloc (Nat.le_refl _) _).alloc (by simp) _⟩)
    ·go_wp2
     go_roundw
     case rel => exact ⟨q + 1, by omega, by go_num, by first | rfl | trivial, qHd (bad_take G.out HQ.out (decide_eq_false (by omega)))⟩
     case measure => simp [intOf]; omega
   ·have hq' : q = args.length := by omega
    subst hq'
    have R := qHd (RK.out G.out); clear G RK R10
    by_cases h0 : K = 0
    ·have hR : ndK 0 K args.length = 0 := by unfold ndK; first | (simp <;> omega) | (rw [if_neg n0, if_neg n4]; simp <;> omega)
     rw [hR] at R
     go_wp2
     all_goals first | (exfalso; omega) | (go_ret; exact ⟨by rw [R.out]; rfl, by first | exact hbW | exact ((Below.refl _ _).alloc (Nat.le_refl _) _).alloc (by simp) _⟩) | (exfalso; simp_all; done)
    by_cases h1 : K = 1
    ·have hR : ndK 0 K args.length = 0 := by unfold ndK; first | (simp <;> omega) | (rw [if_neg n0, if_neg n4]; simp <;> omega)
     rw [hR] at R
     go_wp2
     all_goals first | (exfalso; omega) | (go_ret; exact ⟨by rw [R.out]; rfl, by first | exact hbW | exact ((Below.refl _ _).alloc (Nat.le_refl _) _).alloc (by simp) _⟩) | (exfalso; simp_all; done)
    have hR : ndK 0 K args.length = 3 := by unfold ndK; first | (simp <;> omega) | (rw [if_neg n0, if_neg n4]; simp <;> omega)
    rw [hR] at R
    go_wp2
    all_goals first | (exfalso; omega) | (go_ret; exact ⟨by rw [R.out]; rfl, by first | exact hbW | exact ((Below.refl _ _).alloc (Nat.le_refl _) _).alloc (by simp) _⟩) | (exfalso; simp_all; done)
 ·go_enter Tryz.func56, Tryz.ntmps56
  go_wp2_with fail
  (with_reducible refine (arguments_any _ _ _ (by omega)).mono ?_); rintro e w1 ⟨rfl, rfl⟩
  rw [HA.out]
  go_wp2_with fail
  go_loopw [33] (fun i' wx => ∃ q : Nat, q ≤ args.length ∧ i' = .int .i64 q ∧ wx = ((w.alloc (.cells #[.int .i64 v, .slice (some ⟨b, off, none⟩) ns.length c, .int .i64 top] 24)).alloc (.cells #[.int .i64 4, .int .i64 K, .slice ao' args.length c'] 56)) ∧ Hid (∀ a ∈ args.take q, qdo v i a = false)) (fun i' _ => args.length - (intOf i').toNat)
  case atStart => exact ⟨0, Nat.zero_le _, rfl, by first | rfl | trivial, qHd (by simp)⟩
  case round =>
   obtain ⟨q, hq, rfl, rfl, G⟩ := hrel
   by_cases hlt2 : q < args.length
   ·obtain ⟨b', off', rfl, hb', _, hat'⟩ := HI.out.at (by omega)
    obtain ⟨a, hqa⟩ : ∃ a, args[q]? = some a := ⟨args[q], List.getElem?_eq_getElem hlt2⟩
    have ca := hat' q a hqa
    have hla := HI.out.lt a (List.mem_of_getElem? hqa)
    unfold I64 at hla
    clear hat'
    have HQ := qHd hqa; clear hqa
    have hlt3 : (q : Int) < (args.length : Int) := by omega
    by_cases a1 : a < 0
    ·go_wp2
     all_goals (go_ret; exact ⟨by rw [R10.out q a HQ.out (decide_eq_true (Or.inl a1))]; rfl, by first | exact hbW | exact ((Below.refl _ _).alloc (Nat.le_refl _) _).alloc (by simp) _⟩)
    by_cases a2 : v + i ≤ a
    ·go_wp2
     all_goals (go_ret; exact ⟨by rw [R10.out q a HQ.out (decide_eq_true (Or.inr a2))]; rfl, by first | exact hbW | exact ((Below.refl _ _).alloc (Nat.le_refl _) _).alloc (by simp) _⟩)
    ·go_wp2
     go_roundw
     case rel => exact ⟨q + 1, by omega, by go_num, by first | rfl | trivial, qHd (bad_take G.out HQ.out (decide_eq_false (by omega)))⟩
     case measure => simp [intOf]; omega
   ·have hq' : q = args.length := by omega
    subst hq'
    have R := qHd (RK.out G.out); clear G RK R10
    by_cases h0 : K < 1
    ·have hR : ndK 4 K args.length = 3 := by unfold ndK; first | (simp <;> omega) | (rw [if_neg n0, if_neg n4]; simp <;> omega)
     rw [hR] at R
     go_wp2
     all_goals first | (exfalso; omega) | (go_ret; exact ⟨by rw [R.out]; rfl, by first | exact hbW | exact ((Below.refl _ _).alloc (Nat.le_refl _) _).alloc (by simp) _⟩) | (exfalso; simp_all; done)
    by_cases h1 : (args.length : Int) < K
    ·have hR : ndK 4 K args.length = 3 := by unfold ndK; first | (simp <;> omega) | (rw [if_neg n0, if_neg n4]; simp <;> omega)
     rw [hR] at R
     go_wp2
     all_goals first | (exfalso; omega) | (go_ret; exact ⟨by rw [R.out]; rfl, by first | exact hbW | exact ((Below.refl _ _).alloc (Nat.le_refl _) _).alloc (by simp) _⟩) | (exfalso; simp_all; done)
    have hR : ndK 4 K args.length = 0 := by unfold ndK; first | (simp <;> omega) | (rw [if_neg n0, if_neg n4]; simp <;> omega)
    rw [hR] at R
    go_wp2
    all_goals first | (exfalso; omega) | (go_ret; exact ⟨by rw [R.out]; rfl, by first | exact hbW | exact ((Below.refl _ _).alloc (Nat.le_refl _) _).alloc (by simp) _⟩) | (exfalso; simp_all; done)
 ·go_enter Tryz.func56, Tryz.ntmps56
  go_wp2_with fail
  (with_reducible refine (arguments_any _ _ _ (by omega)).mono ?_); rintro e w1 ⟨rfl, rfl⟩
  rw [HA.out]
  go_wp2_with fail
  go_loopw [33] (fun i' wx => ∃ q : Nat, q ≤ args.length ∧ i' = .int .i64 q ∧ wx = ((w.alloc (.cells #[.int .i64 v, .slice (some ⟨b, off, none⟩) ns.length c, .int .i64 top] 24)).alloc (.cells #[.int .i64 kind, .int .i64 K, .slice ao' args.length c'] 56)) ∧ Hid (∀ a ∈ args.take q, qdo v i a = false)) (fun i' _ => args.length - (intOf i').toNat)
  case atStart => exact ⟨0, Nat.zero_le _, rfl, by first | rfl | trivial, qHd (by simp)⟩
  case round =>
   obtain ⟨q, hq, rfl, rfl, G⟩ := hrel
   by_cases hlt2 : q < args.length
   ·obtain ⟨b', off', rfl, hb', _, hat'⟩ := HI.out.at (by omega)
    obtain ⟨a, hqa⟩ : ∃ a, args[q]? = some a := ⟨args[q], List.getElem?_eq_getElem hlt2⟩
    have ca := hat' q a hqa
    have hla := HI.out.lt a (List.mem_of_getElem? hqa)
    unfold I64 at hla
    clear hat'
    have HQ := qHd hqa; clear hqa
    have hlt3 : (q : Int) < (args.length : Int) := by omega
    by_cases a1 : a < 0
    ·go_wp2
     all_goals (go_ret; exact ⟨by rw [R10.out q a HQ.out (decide_eq_true (Or.inl a1))]; rfl, by first | exact hbW | exact ((Below.refl _ _).alloc (Nat.le_refl _) _).alloc (by simp) _⟩)
    by_cases a2 : v + i ≤ a
    ·go_wp2
     all_goals (go_ret; exact ⟨by rw [R10.out q a HQ.out (decide_eq_true (Or.inr a2))]; rfl, by first | exact hbW | exact ((Below.refl _ _).alloc (Nat.le_refl _) _).alloc (by simp) _⟩)
    ·go_wp2
     go_roundw
     case rel => exact ⟨q + 1, by omega, by go_num, by first | rfl | trivial, qHd (bad_take G.out HQ.out (decide_eq_false (by omega)))⟩
     case measure => simp [intOf]; omega
   ·have hq' : q = args.length := by omega
    subst hq'
    have R := qHd (RK.out G.out); clear G RK R10
    by_cases h0 : K = 0
    ·have hR : ndK kind K args.length = 0 := by unfold ndK; first | (simp <;> omega) | (rw [if_neg n0, if_neg n4]; simp <;> omega)
     rw [hR] at R
     go_wp2
     all_goals first | (exfalso; omega) | (go_ret; exact ⟨by rw [R.out]; rfl, by first | exact hbW | exact ((Below.refl _ _).alloc (Nat.le_refl _) _).alloc (by simp) _⟩) | (exfalso; simp_all; done)
    have hR : ndK kind K args.length = 2 := by unfold ndK; first | (simp <;> omega) | (rw [if_neg n0, if_neg n4]; simp <;> omega)
    rw [hR] at R
    go_wp2
    all_goals first | (exfalso; omega) | (go_ret; exact ⟨by rw [R.out]; rfl, by first | exact hbW | exact ((Below.refl _ _).alloc (Nat.le_refl _) _).alloc (by simp) _⟩) | (exfalso; simp_all; done)
theorem rnode_any (vf : Value) (f : Fm) (i : Nat) (x : Nd) (w : World) (hf : FmV w vf f) (hx : f.nodes[i]? = some x) (hv : 0 ≤ f.vars ∧ f.vars ≤ 24) (hi : i ≤ 128) :
  Calls Tryz.prog 50 #[vf, .int .i64 (i : Nat)] w (qcc w (.int .i64 (qbe f.vars i x : Nat))) := by
 obtain ⟨nv, rfl, hn, _, _⟩ := hf
 obtain ⟨ao, c, rfl, hc, hc2, _⟩ := hn.shape
 have hlt : i < f.nodes.length := (List.getElem?_eq_some_iff.1 hx).1
 obtain ⟨b, off, rfl, hb, _, hat⟩ := hn.at (by omega)
 obtain ⟨c0, c1, ⟨av, c2, hI⟩, hk, hK⟩ := hat i x hx
 clear hn hat
 obtain ⟨v, ns, top⟩ := f
 obtain ⟨kind, K, args⟩ := x
 simp only at hv hc hlt c0 c1 c2 hI hk hK ⊢
 obtain ⟨ao', c', rfl, hc', hc2', _⟩ := hI.shape
 have HI := qHd hI; clear hI
 have hlt' : (i : Int) < (ns.length : Int) := by omega
 unfold I64 at hk hK
 have hbW : Below w.heap.size w ((w.alloc (.cells #[.int .i64 v, .slice (some ⟨b, off, none⟩) ns.length c, .int .i64 top] 24)).alloc (.cells #[.int .i64 kind, .int .i64 K, .slice ao' args.length c'] 56)) := ((Below.refl _ _).alloc (Nat.le_refl _) _).alloc (by simp) _
 clear hx
 by_cases e1 : kind < 0
 ·have R := qHd (ndErr_type (v := v) (K := K) (i := i) (args := args) (.inl e1))
  go_enter Tryz.func50, Tryz.ntmps50
  go_wp2
  go_ret
  exact ⟨by rw [R.out]; rfl, by first | exact hbW | exact ((Below.refl _ _).alloc (Nat.le_refl _) _).alloc (by simp) _⟩
 by_cases e2 : 5 < kind
 ·have R := qHd (ndErr_type (v := v) (K := K) (i := i) (args := args) (.inr e2))
  go_enter Tryz.func50, Tryz.ntmps50
  go_wp2
  go_ret
  exact ⟨by rw [R.out]; rfl, by first | exact hbW | exact ((Below.refl _ _).alloc (Nat.le_refl _) _).alloc (by simp) _⟩
 have E12 := qHd (show ¬ (kind < 0 ∨ 5 < kind) by omega)
 by_cases ha : qbq kind args.length = false
 ·have R := qHd (ndErr_shape (v := v) (K := K) (i := i) E12.out ha)
  have hkk : kind = 0 ∨ kind = 1 ∨ kind = 2 ∨ kind = 3 ∨ kind = 4 ∨ kind = 5 := by omega
  rcases hkk with rfl | rfl | rfl | rfl | rfl | rfl
  ·have hl : 0 < args.length := by simp [qbq] at ha; exact List.length_pos_iff.2 ha
   go_enter Tryz.func50, Tryz.ntmps50
   go_wp2
   go_ret
   exact ⟨by rw [R.out]; rfl, by first | exact hbW | exact ((Below.refl _ _).alloc (Nat.le_refl _) _).alloc (by simp) _⟩
  ·have hl : args.length ≠ 1 := by simpa [qbq] using ha
   by_cases hl1 : args.length < 1
   ·go_enter Tryz.func50, Tryz.ntmps50
    go_wp2
    go_ret
    exact ⟨by rw [R.out]; rfl, by first | exact hbW | exact ((Below.refl _ _).alloc (Nat.le_refl _) _).alloc (by simp) _⟩
   ·go_enter Tryz.func50, Tryz.ntmps50
    go_wp2
    go_ret
    exact ⟨by rw [R.out]; rfl, by first | exact hbW | exact ((Below.refl _ _).alloc (Nat.le_refl _) _).alloc (by simp) _⟩
  ·have hl : ¬ (1 ≤ args.length ∧ args.length ≤ 16) := by simpa [qbq] using ha
   by_cases hl1 : args.length < 1
   ·go_enter Tryz.func50, Tryz.ntmps50
    go_wp2
    go_ret
    exact ⟨by rw [R.out]; rfl, by first | exact hbW | exact ((Below.refl _ _).alloc (Nat.le_refl _) _).alloc (by simp) _⟩
   ·go_enter Tryz.func50, Tryz.ntmps50
    go_wp2
    go_ret
    exact ⟨by rw [R.out]; rfl, by first | exact hbW | exact ((Below.refl _ _).alloc (Nat.le_refl _) _).alloc (by simp) _⟩
  ·have hl : ¬ (1 ≤ args.length ∧ args.length ≤ 16) := by simpa [qbq] using ha
   by_cases hl1 : args.length < 1
   ·go_enter Tryz.func50, Tryz.ntmps50
    go_wp2
    go_ret
    exact ⟨by rw [R.out]; rfl, by first | exact hbW | exact ((Below.refl _ _).alloc (Nat.le_refl _) _).alloc (by simp) _⟩
   ·go_enter Tryz.func50, Tryz.ntmps50
    go_wp2
    go_ret
    exact ⟨by rw [R.out]; rfl, by first | exact hbW | exact ((Below.refl _ _).alloc (Nat.le_refl _) _).alloc (by simp) _⟩
  ·have hl : ¬ (1 ≤ args.length ∧ args.length ≤ 16) := by simpa [qbq] using ha
   by_cases hl1 : args.length < 1
   ·go_enter Tryz.func50, Tryz.ntmps50
    go_wp2
    go_ret
    exact ⟨by rw [R.out]; rfl, by first | exact hbW | exact ((Below.refl _ _).alloc (Nat.le_refl _) _).alloc (by simp) _⟩
   ·go_enter Tryz.func50, Tryz.ntmps50
    go_wp2
    go_ret
    exact ⟨by rw [R.out]; rfl, by first | exact hbW | exact ((Below.refl _ _).alloc (Nat.le_refl _) _).alloc (by simp) _⟩
  ·have hl : ¬ (1 ≤ args.length ∧ args.length ≤ 16) := by simpa [qbq] using ha
   by_cases hl1 : args.length < 1
   ·go_enter Tryz.func50, Tryz.ntmps50
    go_wp2
    go_ret
    exact ⟨by rw [R.out]; rfl, by first | exact hbW | exact ((Below.refl _ _).alloc (Nat.le_refl _) _).alloc (by simp) _⟩
   ·go_enter Tryz.func50, Tryz.ntmps50
    go_wp2
    go_ret
    exact ⟨by rw [R.out]; rfl, by first | exact hbW | exact ((Below.refl _ _).alloc (Nat.le_refl _) _).alloc (by simp) _⟩
 have ha : qbq kind args.length = true := by simpa using ha
 have HA := qHd ha
 have R10 := qHd (ndErr_index (v := v) (K := K) (i := i) E12.out ha)
 have RK := qHd (ndErr_kp (v := v) (K := K) (i := i) E12.out ha)
 have hkk : kind = 0 ∨ kind = 4 ∨ kind = 1 ∨ kind = 2 ∨ kind = 3 ∨ kind = 5 := by omega
 rcases hkk with rfl | rfl | rfl | rfl | rfl | rfl
 ·have hl : args.length = 0 := by simpa [qbq] using ha
  clear ha
  go_enter Tryz.func50, Tryz.ntmps50
  go_wp2_with fail
  go_loopw [41] (fun i' wx => ∃ q : Nat, q ≤ args.length ∧ i' = .int .i64 q ∧ wx = ((w.alloc (.cells #[.int .i64 v, .slice (some ⟨b, off, none⟩) ns.length c, .int .i64 top] 24)).alloc (.cells #[.int .i64 0, .int .i64 K, .slice ao' 0 c'] 56)) ∧ Hid (∀ a ∈ args.take q, qdo v i a = false)) (fun i' _ => args.length - (intOf i').toNat)
  case atStart => exact ⟨0, Nat.zero_le _, rfl, by first | rfl | trivial, qHd (by simp)⟩
  case round =>
   obtain ⟨q, hq, rfl, rfl, G⟩ := hrel
   by_cases hlt2 : q < args.length
   ·exfalso; omega
   ·have hq' : q = args.length := by omega
    subst hq'
    have R := qHd (RK.out G.out); clear G RK R10
    by_cases h0 : K = 0
    ·have hR : ndK 0 K args.length = 0 := by unfold ndK; first | (simp <;> omega) | (rw [if_neg n0, if_neg n4]; simp <;> omega)
     rw [hR] at R
     go_wp2
     all_goals first | (exfalso; omega) | (go_ret; exact ⟨by rw [R.out]; rfl, by first | exact hbW | exact ((Below.refl _ _).alloc (Nat.le_refl _) _).alloc (by simp) _⟩) | (exfalso; simp_all; done)
    by_cases h1 : K = 1
    ·have hR : ndK 0 K args.length = 0 := by unfold ndK; first | (simp <;> omega) | (rw [if_neg n0, if_neg n4]; simp <;> omega)
     rw [hR] at R
     go_wp2
     all_goals first | (exfalso; omega) | (go_ret; exact ⟨by rw [R.out]; rfl, by first | exact hbW | exact ((Below.refl _ _).alloc (Nat.le_refl _) _).alloc (by simp) _⟩) | (exfalso; simp_all; done)
    have hR : ndK 0 K args.length = 3 := by unfold ndK; first | (simp <;> omega) | (rw [if_neg n0, if_neg n4]; simp <;> omega)
    rw [hR] at R
    go_wp2
    all_goals first | (exfalso; omega) | (go_ret; exact ⟨by rw [R.out]; rfl, by first | exact hbW | exact ((Below.refl _ _).alloc (Nat.le_refl _) _).alloc (by simp) _⟩) | (exfalso; simp_all; done)
 ·have hl : 1 ≤ args.length ∧ args.length ≤ 16 := by simpa [qbq] using ha
  clear ha
  go_enter Tryz.func50, Tryz.ntmps50
  go_wp2_with fail
  go_loopw [41] (fun i' wx => ∃ q : Nat, q ≤ args.length ∧ i' = .int .i64 q ∧ wx = ((w.alloc (.cells #[.int .i64 v, .slice (some ⟨b, off, none⟩) ns.length c, .int .i64 top] 24)).alloc (.cells #[.int .i64 4, .int .i64 K, .slice ao' args.length c'] 56)) ∧ Hid (∀ a ∈ args.take q, qdo v i a = false)) (fun i' _ => args.length - (intOf i').toNat)
  case atStart => exact ⟨0, Nat.zero_le _, rfl, by first | rfl | trivial, qHd (by simp)⟩
  case round =>
   obtain ⟨q, hq, rfl, rfl, G⟩ := hrel
   by_cases hlt2 : q < args.length
   ·obtain ⟨b', off', rfl, hb', _, hat'⟩ := HI.out.at (by omega)
    obtain ⟨a, hqa⟩ : ∃ a, args[q]? = some a := ⟨args[q], List.getElem?_eq_getElem hlt2⟩
    have ca := hat' q a hqa
    have hla := HI.out.lt a (List.mem_of_getElem? hqa)
    unfold I64 at hla
    clear hat'
    have HQ := qHd hqa; clear hqa
    have hlt3 : (q : Int) < (args.length : Int) := by omega
    by_cases a1 : a < 0
    ·go_wp2
     all_goals (go_ret; exact ⟨by rw [R10.out q a HQ.out (decide_eq_true (Or.inl a1))]; rfl, by first | exact hbW | exact ((Below.refl _ _).alloc (Nat.le_refl _) _).alloc (by simp) _⟩)
    by_cases a2 : v + i ≤ a
    ·go_wp2
     all_goals (go_ret; exact ⟨by rw [R10.out q a HQ.out (decide_eq_true (Or.inr a2))]; rfl, by first | exact hbW | exact ((Below.refl _ _).alloc (Nat.le_refl _) _).alloc (by simp) _⟩)
    ·go_wp2
     go_roundw
     case rel => exact ⟨q + 1, by omega, by go_num, by first | rfl | trivial, qHd (bad_take G.out HQ.out (decide_eq_false (by omega)))⟩
     case measure => simp [intOf]; omega
   ·have hq' : q = args.length := by omega
    subst hq'
    have R := qHd (RK.out G.out); clear G RK R10
    by_cases h0 : K < 1
    ·have hR : ndK 4 K args.length = 3 := by unfold ndK; first | (simp <;> omega) | (rw [if_neg n0, if_neg n4]; simp <;> omega)
     rw [hR] at R
     go_wp2
     all_goals first | (exfalso; omega) | (go_ret; exact ⟨by rw [R.out]; rfl, by first | exact hbW | exact ((Below.refl _ _).alloc (Nat.le_refl _) _).alloc (by simp) _⟩) | (exfalso; simp_all; done)
    by_cases h1 : (args.length : Int) < K
    ·have hR : ndK 4 K args.length = 3 := by unfold ndK; first | (simp <;> omega) | (rw [if_neg n0, if_neg n4]; simp <;> omega)
     rw [hR] at R
     go_wp2
     all_goals first | (exfalso; omega) | (go_ret; exact ⟨by rw [R.out]; rfl, by first | exact hbW | exact ((Below.refl _ _).alloc (Nat.le_refl _) _).alloc (by simp) _⟩) | (exfalso; simp_all; done)
    have hR : ndK 4 K args.length = 0 := by unfold ndK; first | (simp <;> omega) | (rw [if_neg n0, if_neg n4]; simp <;> omega)
    rw [hR] at R
    go_wp2
    all_goals first | (exfalso; omega) | (go_ret; exact ⟨by rw [R.out]; rfl, by first | exact hbW | exact ((Below.refl _ _).alloc (Nat.le_refl _) _).alloc (by simp) _⟩) | (exfalso; simp_all; done)
 ·have hl : args.length = 1 := by simpa [qbq] using ha
  clear ha
  go_enter Tryz.func50, Tryz.ntmps50
  go_wp2_with fail
  go_loopw [41] (fun i' wx => ∃ q : Nat, q ≤ args.length ∧ i' = .int .i64 q ∧ wx = ((w.alloc (.cells #[.int .i64 v, .slice (some ⟨b, off, none⟩) ns.length c, .int .i64 top] 24)).alloc (.cells #[.int .i64 1, .int .i64 K, .slice ao' 1 c'] 56)) ∧ Hid (∀ a ∈ args.take q, qdo v i a = false)) (fun i' _ => args.length - (intOf i').toNat)
  case atStart => exact ⟨0, Nat.zero_le _, rfl, by first | rfl | trivial, qHd (by simp)⟩
  case round =>
   obtain ⟨q, hq, rfl, rfl, G⟩ := hrel
   by_cases hlt2 : q < args.length
   ·obtain ⟨b', off', rfl, hb', _, hat'⟩ := HI.out.at (by omega)
    obtain ⟨a, hqa⟩ : ∃ a, args[q]? = some a := ⟨args[q], List.getElem?_eq_getElem hlt2⟩
    have ca := hat' q a hqa
    have hla := HI.out.lt a (List.mem_of_getElem? hqa)
    unfold I64 at hla
    clear hat'
    have HQ := qHd hqa; clear hqa
    have hlt3 : (q : Int) < (args.length : Int) := by omega
    by_cases a1 : a < 0
    ·go_wp2
     all_goals (go_ret; exact ⟨by rw [R10.out q a HQ.out (decide_eq_true (Or.inl a1))]; rfl, by first | exact hbW | exact ((Below.refl _ _).alloc (Nat.le_refl _) _).alloc (by simp) _⟩)
    by_cases a2 : v + i ≤ a
    ·go_wp2
     all_goals (go_ret; exact ⟨by rw [R10.out q a HQ.out (decide_eq_true (Or.inr a2))]; rfl, by first | exact hbW | exact ((Below.refl _ _).alloc (Nat.le_refl _) _).alloc (by simp) _⟩)
    ·go_wp2
     go_roundw
     case rel => exact ⟨q + 1, by omega, by go_num, by first | rfl | trivial, qHd (bad_take G.out HQ.out (decide_eq_false (by omega)))⟩
     case measure => simp [intOf]; omega
   ·have hq' : q = args.length := by omega
    subst hq'
    have R := qHd (RK.out G.out); clear G RK R10
    by_cases h0 : K = 0
    ·have hR : ndK 1 K args.length = 0 := by unfold ndK; first | (simp <;> omega) | (rw [if_neg n0, if_neg n4]; simp <;> omega)
     rw [hR] at R
     go_wp2
     all_goals first | (exfalso; omega) | (go_ret; exact ⟨by rw [R.out]; rfl, by first | exact hbW | exact ((Below.refl _ _).alloc (Nat.le_refl _) _).alloc (by simp) _⟩) | (exfalso; simp_all; done)
    have hR : ndK 1 K args.length = 2 := by unfold ndK; first | (simp <;> omega) | (rw [if_neg n0, if_neg n4]; simp <;> omega)
    rw [hR] at R
    go_wp2
    all_goals first | (exfalso; omega) | (go_ret; exact ⟨by rw [R.out]; rfl, by first | exact hbW | exact ((Below.refl _ _).alloc (Nat.le_refl _) _).alloc (by simp) _⟩) | (exfalso; simp_all; done)
 ·have hl : 1 ≤ args.length ∧ args.length ≤ 16 := by simpa [qbq] using ha
  clear ha
  go_enter Tryz.func50, Tryz.ntmps50
  go_wp2_with fail
  go_loopw [41] (fun i' wx => ∃ q : Nat, q ≤ args.length ∧ i' = .int .i64 q ∧ wx = ((w.alloc (.cells #[.int .i64 v, .slice (some ⟨b, off, none⟩) ns.length c, .int .i64 top] 24)).alloc (.cells #[.int .i64 2, .int .i64 K, .slice ao' args.length c'] 56)) ∧ Hid (∀ a ∈ args.take q, qdo v i a = false)) (fun i' _ => args.length - (intOf i').toNat)
  case atStart => exact ⟨0, Nat.zero_le _, rfl, by first | rfl | trivial, qHd (by simp)⟩
  case round =>
   obtain ⟨q, hq, rfl, rfl, G⟩ := hrel
   by_cases hlt2 : q < args.length
   ·obtain ⟨b', off', rfl, hb', _, hat'⟩ := HI.out.at (by omega)
    obtain ⟨a, hqa⟩ : ∃ a, args[q]? = some a := ⟨args[q], List.getElem?_eq_getElem hlt2⟩
    have ca := hat' q a hqa
    have hla := HI.out.lt a (List.mem_of_getElem? hqa)
    unfold I64 at hla
    clear hat'
    have HQ := qHd hqa; clear hqa
    have hlt3 : (q : Int) < (args.length : Int) := by omega
    by_cases a1 : a < 0
    ·go_wp2
     all_goals (go_ret; exact ⟨by rw [R10.out q a HQ.out (decide_eq_true (Or.inl a1))]; rfl, by first | exact hbW | exact ((Below.refl _ _).alloc (Nat.le_refl _) _).alloc (by simp) _⟩)
    by_cases a2 : v + i ≤ a
    ·go_wp2
     all_goals (go_ret; exact ⟨by rw [R10.out q a HQ.out (decide_eq_true (Or.inr a2))]; rfl, by first | exact hbW | exact ((Below.refl _ _).alloc (Nat.le_refl _) _).alloc (by simp) _⟩)
    ·go_wp2
     go_roundw
     case rel => exact ⟨q + 1, by omega, by go_num, by first | rfl | trivial, qHd (bad_take G.out HQ.out (decide_eq_false (by omega)))⟩
     case measure => simp [intOf]; omega
   ·have hq' : q = args.length := by omega
    subst hq'
    have R := qHd (RK.out G.out); clear G RK R10
    by_cases h0 : K = 0
    ·have hR : ndK 2 K args.length = 0 := by unfold ndK; first | (simp <;> omega) | (rw [if_neg n0, if_neg n4]; simp <;> omega)
     rw [hR] at R
     go_wp2
     all_goals first | (exfalso; omega) | (go_ret; exact ⟨by rw [R.out]; rfl, by first | exact hbW | exact ((Below.refl _ _).alloc (Nat.le_refl _) _).alloc (by simp) _⟩) | (exfalso; simp_all; done)
    have hR : ndK 2 K args.length = 2 := by unfold ndK; first | (simp <;> omega) | (rw [if_neg n0, if_neg n4]; simp <;> omega)
    rw [hR] at R
    go_wp2
    all_goals first | (exfalso; omega) | (go_ret; exact ⟨by rw [R.out]; rfl, by first | exact hbW | exact ((Below.refl _ _).alloc (Nat.le_refl _) _).alloc (by simp) _⟩) | (exfalso; simp_all; done)
 ·have hl : 1 ≤ args.length ∧ args.length ≤ 16 := by simpa [qbq] using ha
  clear ha
  go_enter Tryz.func50, Tryz.ntmps50
  go_wp2_with fail
  go_loopw [41] (fun i' wx => ∃ q : Nat, q ≤ args.length ∧ i' = .int .i64 q ∧ wx = ((w.alloc (.cells #[.int .i64 v, .slice (some ⟨b, off, none⟩) ns.length c, .int .i64 top] 24)).alloc (.cells #[.int .i64 3, .int .i64 K, .slice ao' args.length c'] 56)) ∧ Hid (∀ a ∈ args.take q, qdo v i a = false)) (fun i' _ => args.length - (intOf i').toNat)
  case atStart => exact ⟨0, Nat.zero_le _, rfl, by first | rfl | trivial, qHd (by simp)⟩
  case round =>
   obtain ⟨q, hq, rfl, rfl, G⟩ := hrel
   by_cases hlt2 : q < args.length
   ·obtain ⟨b', off', rfl, hb', _, hat'⟩ := HI.out.at (by omega)
    obtain ⟨a, hqa⟩ : ∃ a, args[q]? = some a := ⟨args[q], List.getElem?_eq_getElem hlt2⟩
    have ca := hat' q a hqa
    have hla := HI.out.lt a (List.mem_of_getElem? hqa)
    unfold I64 at hla
    clear hat'
    have HQ := qHd hqa; clear hqa
    have hlt3 : (q : Int) < (args.length : Int) := by omega
    by_cases a1 : a < 0
    ·go_wp2
     all_goals (go_ret; exact ⟨by rw [R10.out q a HQ.out (decide_eq_true (Or.inl a1))]; rfl, by first | exact hbW | exact ((Below.refl _ _).alloc (Nat.le_refl _) _).alloc (by simp) _⟩)
    by_cases a2 : v + i ≤ a
    ·go_wp2
     all_goals (go_ret; exact ⟨by rw [R10.out q a HQ.out (decide_eq_true (Or.inr a2))]; rfl, by first | exact hbW | exact ((Below.refl _ _).alloc (Nat.le_refl _) _).alloc (by simp) _⟩)
    ·go_wp2
     go_roundw
     case rel => exact ⟨q + 1, by omega, by go_num, by first | rfl | trivial, qHd (bad_take G.out HQ.out (decide_eq_false (by omega)))⟩
     case measure => simp [intOf]; omega
   ·have hq' : q = args.length := by omega
    subst hq'
    have R := qHd (RK.out G.out); clear G RK R10
    by_cases h0 : K = 0
    ·have hR : ndK 3 K args.length = 0 := by unfold ndK; first | (simp <;> omega) | (rw [if_neg n0, if_neg n4]; simp <;> omega)
     rw [hR] at R
     go_wp2
     all_goals first | (exfalso; omega) | (go_ret; exact ⟨by rw [R.out]; rfl, by first | exact hbW | exact ((Below.refl _ _).alloc (Nat.le_refl _) _).alloc (by simp) _⟩) | (exfalso; simp_all; done)
    have hR : ndK 3 K args.length = 2 := by unfold ndK; first | (simp <;> omega) | (rw [if_neg n0, if_neg n4]; simp <;> omega)
    rw [hR] at R
    go_wp2
    all_goals first | (exfalso; omega) | (go_ret; exact ⟨by rw [R.out]; rfl, by first | exact hbW | exact ((Below.refl _ _).alloc (Nat.le_refl _) _).alloc (by simp) _⟩) | (exfalso; simp_all; done)
 ·have hl : 1 ≤ args.length ∧ args.length ≤ 16 := by simpa [qbq] using ha
  clear ha
  go_enter Tryz.func50, Tryz.ntmps50
  go_wp2_with fail
  go_loopw [41] (fun i' wx => ∃ q : Nat, q ≤ args.length ∧ i' = .int .i64 q ∧ wx = ((w.alloc (.cells #[.int .i64 v, .slice (some ⟨b, off, none⟩) ns.length c, .int .i64 top] 24)).alloc (.cells #[.int .i64 5, .int .i64 K, .slice ao' args.length c'] 56)) ∧ Hid (∀ a ∈ args.take q, qdo v i a = false)) (fun i' _ => args.length - (intOf i').toNat)
  case atStart => exact ⟨0, Nat.zero_le _, rfl, by first | rfl | trivial, qHd (by simp)⟩
  case round =>
   obtain ⟨q, hq, rfl, rfl, G⟩ := hrel
   by_cases hlt2 : q < args.length
   ·obtain ⟨b', off', rfl, hb', _, hat'⟩ := HI.out.at (by omega)
    obtain ⟨a, hqa⟩ : ∃ a, args[q]? = some a := ⟨args[q], List.getElem?_eq_getElem hlt2⟩
    have ca := hat' q a hqa
    have hla := HI.out.lt a (List.mem_of_getElem? hqa)
    unfold I64 at hla
    clear hat'
    have HQ := qHd hqa; clear hqa
    have hlt3 : (q : Int) < (args.length : Int) := by omega
    by_cases a1 : a < 0
    ·go_wp2
     all_goals (go_ret; exact ⟨by rw [R10.out q a HQ.out (decide_eq_true (Or.inl a1))]; rfl, by first | exact hbW | exact ((Below.refl _ _).alloc (Nat.le_refl _) _).alloc (by simp) _⟩)
    by_cases a2 : v + i ≤ a
    ·go_wp2
     all_goals (go_ret; exact ⟨by rw [R10.out q a HQ.out (decide_eq_true (Or.inr a2))]; rfl, by first | exact hbW | exact ((Below.refl _ _).alloc (Nat.le_refl _) _).alloc (by simp) _⟩)
    ·go_wp2
     go_roundw
     case rel => exact ⟨q + 1, by omega, by go_num, by first | rfl | trivial, qHd (bad_take G.out HQ.out (decide_eq_false (by omega)))⟩
     case measure => simp [intOf]; omega
   ·have hq' : q = args.length := by omega
    subst hq'
    have R := qHd (RK.out G.out); clear G RK R10
    by_cases h0 : K = 0
    ·have hR : ndK 5 K args.length = 0 := by unfold ndK; first | (simp <;> omega) | (rw [if_neg n0, if_neg n4]; simp <;> omega)
     rw [hR] at R
     go_wp2
     all_goals first | (exfalso; omega) | (go_ret; exact ⟨by rw [R.out]; rfl, by first | exact hbW | exact ((Below.refl _ _).alloc (Nat.le_refl _) _).alloc (by simp) _⟩) | (exfalso; simp_all; done)
    have hR : ndK 5 K args.length = 2 := by unfold ndK; first | (simp <;> omega) | (rw [if_neg n0, if_neg n4]; simp <;> omega)
    rw [hR] at R
    go_wp2
    all_goals first | (exfalso; omega) | (go_ret; exact ⟨by rw [R.out]; rfl, by first | exact hbW | exact ((Below.refl _ _).alloc (Nat.le_refl _) _).alloc (by simp) _⟩) | (exfalso; simp_all; done)
end Go.Proofs.YteadcgmaailjlaaGreatDoor
namespace Go.Proofs.YteadcgmaailjlaaGreatDoor
def ng (q : Rat) : Bool := decide (q < 0)
def nn (q : Rat) : Nat := q.num.natAbs
def cq (p q : Rat) : Int := if p < q then -1 else if p = q then 0 else 1

def rl (q : Rat) : Nat := max (wd (nn q)).length (wd q.den).length
def fl (p : Rat) : Rat := ((p.floor : Int) : Rat)
end Go.Proofs.YteadcgmaailjlaaGreatDoor
namespace Go.Proofs.YteadcgmaailjlaaGreatDoor
open Go.RowKit Go.ChangeShapes Go.WideShapes
theorem Tryz.sizeBuilder : (Tryz.prog.info? 93).map (·.size) = some 2 := by kernel_rfl
theorem Tryz.infoByte : (Tryz.prog.info? 5).map (fun i => (i.zero, i.size, i.bytes)) = some (some (.int .u8 0), 1, 1) := by kernel_rfl

theorem copyCheck_used (b : Nat) (w : World) (h0 : w.cell? ⟨b, 0, none⟩ = some (.pointer (some ⟨b, 0, none⟩))) :
  Calls Tryz.prog 126 #[.pointer (some ⟨b, 0, none⟩)] w fun e w' => e = .returned (.tuple #[]) ∧ w' = w := by
 obtain ⟨j, hj, _⟩ := Option.map_eq_some_iff.1 Tryz.sizeBuilder
 go_enter Tryz.func126, Tryz.ntmps126
 go_wp2
 rw [Lib.run_neq_ptr_same w _ Tryz.underlying90 hj]
 go_wp2
 go_end0
 exact ⟨rfl, rfl⟩
theorem _root_.Go.RowKit.Below.step {w w1 w2 : World} (h : Below w.heap.size w w1) (h2 : Below w1.heap.size w1 w2) : Below w.heap.size w w2 := h.trans (h2.mono h.size)
theorem qaa {w w1 : World} {g : Nat} {o : Obj} (h : w.heap[g]? = some o) (hb : Below w.heap.size w w1) : w1.heap[g]? = some o := by
 rw [hb.block _ (Array.getElem?_eq_some_iff.1 h).1]; exact h
theorem row3 {w : World} {g : Nat} {x y z : Value} {T : TypeId} (h : w.heap[g]? = some (.cells #[x, y, z] T)) :
  w.cell? ⟨g, 0, none⟩ = some x ∧ w.cell? ⟨g, 1, none⟩ = some y ∧ w.cell? ⟨g, 2, none⟩ = some z :=
 ⟨cell_of_row _ _ _ _ _ _ h, cell_of_row _ _ _ _ _ _ h, cell_of_row _ _ _ _ _ _ h⟩
section
variable {u v : Value} {m n : Nat} {w : World}
end
theorem ndsErr_dropC {v : Int} {l : List Nd} {q : Nat} {x : Nd} (hq : l[q]? = some x) : qbc v q (l.drop q) = if qbe v q x = 0 then qbc v (q + 1) (l.drop (q + 1)) else qbe v q x := by
 obtain ⟨h1, h2⟩ := List.getElem?_eq_some_iff.1 hq
 rw [List.drop_eq_getElem_cons h1, h2]; simp only [qbc]
theorem fm_range {f : Fm} (h : f.vars < 0 ∨ 24 < f.vars) : qcr f = 3 := by unfold qcr; rw [if_pos h]
theorem fm_large {f : Fm} (h : ¬ (f.vars < 0 ∨ 24 < f.vars)) (h2 : 128 < f.nodes.length) : qcr f = 4 := by unfold qcr; rw [if_neg h, if_pos h2]
theorem fm_node {f : Fm} (h : ¬ (f.vars < 0 ∨ 24 < f.vars)) (h2 : ¬ 128 < f.nodes.length) (h3 : qbc f.vars 0 f.nodes ≠ 0) : qcr f = qbc f.vars 0 f.nodes := by unfold qcr; rw [if_neg h, if_neg h2, if_pos h3]
theorem fm_top {f : Fm} (h : ¬ (f.vars < 0 ∨ 24 < f.vars)) (h2 : ¬ 128 < f.nodes.length) (h3 : qbc f.vars 0 f.nodes = 0) : qcr f = if argOK f f.top then 0 else 10 := by unfold qcr; rw [if_neg h, if_neg h2, if_neg (by rw [h3]; exact fun h => h rfl)]

theorem qdh (vf : Value) (f : Fm) (w : World) (hf : FmV w vf f) :
  Calls Tryz.prog 25 #[vf] w (qcc w (qdi (qcr f))) := by
 obtain ⟨nv, rfl, hn, hv, ht⟩ := hf
 obtain ⟨ao, c, rfl, hc, hc2, _⟩ := hn.shape
 have HF := qHd (show FmV w _ f from ⟨_, rfl, hn, hv, ht⟩)
 obtain ⟨v, ns, top⟩ := f
 simp only at hv hc ht hn ⊢
 unfold I64 at hv
 have hbW : Below w.heap.size w (w.alloc (.cells #[.int .i64 v, .slice ao ns.length c, .int .i64 top] 24)) := (Below.refl _ _).alloc (Nat.le_refl _) _
 by_cases e1 : v < 0
 ·have R := qHd (fm_range (f := ⟨v, ns, top⟩) (.inl e1))
  go_enter Tryz.func25, Tryz.ntmps25
  go_wp2
  go_ret
  exact ⟨by rw [R.out]; rfl, hbW⟩
 by_cases e2 : 24 < v
 ·have R := qHd (fm_range (f := ⟨v, ns, top⟩) (.inr e2))
  go_enter Tryz.func25, Tryz.ntmps25
  go_wp2
  go_ret
  exact ⟨by rw [R.out]; rfl, hbW⟩
 have E12 := qHd (show ¬ (v < 0 ∨ 24 < v) by omega)
 by_cases e3 : 128 < ns.length
 ·have R := qHd (fm_large (f := ⟨v, ns, top⟩) E12.out e3)
  have e3' : (128 : Int) < (ns.length : Int) := by omega
  go_enter Tryz.func25, Tryz.ntmps25
  go_wp2
  go_ret
  exact ⟨by rw [R.out]; rfl, hbW⟩
 have E3 := qHd e3
 have e3' : (ns.length : Int) ≤ 128 := by omega
 have RN := qHd (fm_node (f := ⟨v, ns, top⟩) E12.out e3)
 have RT := qHd (fm_top (f := ⟨v, ns, top⟩) E12.out e3)
 have HN := qHd hn; clear hn
 obtain ⟨w0, hw0⟩ : ∃ w0, w0 = (w.alloc (.cells #[.int .i64 v, .slice ao ns.length c, .int .i64 top] 24)) := ⟨_, rfl⟩
 rw [← hw0] at hbW
 have hg : w0.heap[w.heap.size]? = some (.cells #[.int .i64 v, .slice ao ns.length c, .int .i64 top] 24) := by rw [hw0]; exact heap_alloc_new w _
 have HG := qHd hg; clear hg
 have hlt : w.heap.size < w0.heap.size := by rw [hw0]; simp
 go_enter Tryz.func25, Tryz.ntmps25
 go_wp2_with fail
 rw [← hw0]; clear hw0
 go_loopw [22] (fun i' wx => ∃ q : Nat, q ≤ ns.length ∧ i' = .int .i64 q ∧ Below w0.heap.size w0 wx ∧ Hid (qbc v 0 ns = qbc v q (ns.drop q))) (fun i' _ => ns.length - (intOf i').toNat)
 case atStart => exact ⟨0, Nat.zero_le _, rfl, Below.refl _ _, qHd rfl⟩
 case round =>
  obtain ⟨q, hq, rfl, hbx, G⟩ := hrel
  obtain ⟨wo, rfl⟩ : ∃ wo : World, wo = wr := ⟨_, rfl⟩
  obtain ⟨x0, x1, x2⟩ := row3 (qaa HG.out hbx)
  have hb1 := hbW.trans (hbx.mono hbW.size)
  by_cases hlt2 : q < ns.length
  ·obtain ⟨x, hx⟩ : ∃ x, ns[q]? = some x := ⟨ns[q], List.getElem?_eq_getElem hlt2⟩
   have hlt3 : (q : Int) < (ns.length : Int) := by omega
   have hk := checkNode_any _ ⟨v, ns, top⟩ q x wo (HF.out.below hb1) hx (by simp only; omega) (by omega)
   simp only at hk
   have HK := qHd hk; clear hk
   have D := qHd (ndsErr_dropC (v := v) hx); clear hx
   have HBX := qHd hbx; have HB1 := qHd hb1; clear hbx hb1
   go_wp2_with fail
   (with_reducible refine HK.out.mono ?_); rintro e w1 ⟨rfl, hb2⟩
   have hb3 := HBX.out.trans (hb2.mono HBX.out.size)
   have hb4 := HB1.out.trans (hb2.mono HB1.out.size)
   clear x0 x1 x2 hb2
   by_cases E : qbe v q x = 0
   ·rw [E, qce]
    go_wp2_with fail
    go_roundw
    case rel => exact ⟨q + 1, by omega, by go_num, hb3, qHd (by rw [G.out, D.out, if_pos E])⟩
    case measure => simp [intOf]; omega
   ·have E' : ¬ ((qbe v q x : Nat) : Int) = 0 := by omega
    have R : qbc v 0 ns = qbe v q x := by rw [G.out, D.out, if_neg E]
    have RR := qHd (RN.out (by rw [R]; exact E))
    have R := qHd R
    rw [errV_pos E]
    go_wp2_with fail
    go_ret
    exact ⟨by rw [RR.out, R.out]; rw [errV_pos E]; rfl, hb4⟩
  ·have hq' : q = ns.length := by omega
   subst hq'
   have R : qbc v 0 ns = 0 := by rw [G.out, List.drop_length]; rfl
   have RR := qHd (RT.out R)
   clear R
   have hk := fvalid_any _ ⟨v, ns, top⟩ top wo (HF.out.below hb1) ht
   have HK := qHd hk; clear hk
   skip
   obtain ⟨ok, hok⟩ : ∃ ok, ok = argOK ⟨v, ns, top⟩ top := ⟨_, rfl⟩
   rw [← hok] at HK RR; clear hok
   have HB1 := qHd hb1; clear hb1 hbx
   go_wp2_with fail
   (with_reducible refine HK.out.mono ?_); rintro e w1 ⟨rfl, hb2⟩
   have hb4 := HB1.out.trans (hb2.mono HB1.out.size)
   clear x0 x1 x2 hb2
   cases ok with
   | true =>
    go_wp2_with fail
    go_ret
    exact ⟨by rw [RR.out]; rfl, hb4⟩
   | false =>
    go_wp2_with fail
    go_ret
    exact ⟨by rw [RR.out]; rfl, hb4⟩

theorem rfcheck_any (vf : Value) (f : Fm) (w : World) (hf : FmV w vf f) :
  Calls Tryz.prog 19 #[vf] w (qcc w (.int .i64 (qcr f : Nat))) := by
 obtain ⟨nv, rfl, hn, hv, ht⟩ := hf
 obtain ⟨ao, c, rfl, hc, hc2, _⟩ := hn.shape
 have HF := qHd (show FmV w _ f from ⟨_, rfl, hn, hv, ht⟩)
 obtain ⟨v, ns, top⟩ := f
 simp only at hv hc ht hn ⊢
 unfold I64 at hv
 have hbW : Below w.heap.size w (w.alloc (.cells #[.int .i64 v, .slice ao ns.length c, .int .i64 top] 24)) := (Below.refl _ _).alloc (Nat.le_refl _) _
 by_cases e1 : v < 0
 ·have R := qHd (fm_range (f := ⟨v, ns, top⟩) (.inl e1))
  go_enter Tryz.func19, Tryz.ntmps19
  go_wp2
  go_ret
  exact ⟨by rw [R.out]; rfl, hbW⟩
 by_cases e2 : 24 < v
 ·have R := qHd (fm_range (f := ⟨v, ns, top⟩) (.inr e2))
  go_enter Tryz.func19, Tryz.ntmps19
  go_wp2
  go_ret
  exact ⟨by rw [R.out]; rfl, hbW⟩
 have E12 := qHd (show ¬ (v < 0 ∨ 24 < v) by omega)
 by_cases e3 : 128 < ns.length
 ·have R := qHd (fm_large (f := ⟨v, ns, top⟩) E12.out e3)
  have e3' : (128 : Int) < (ns.length : Int) := by omega
  go_enter Tryz.func19, Tryz.ntmps19
  go_wp2
  go_ret
  exact ⟨by rw [R.out]; rfl, hbW⟩
 have E3 := qHd e3
 have e3' : (ns.length : Int) ≤ 128 := by omega
 have RN := qHd (fm_node (f := ⟨v, ns, top⟩) E12.out e3)
 have RT := qHd (fm_top (f := ⟨v, ns, top⟩) E12.out e3)
 have HN := qHd hn; clear hn
 obtain ⟨w0, hw0⟩ : ∃ w0, w0 = (w.alloc (.cells #[.int .i64 v, .slice ao ns.length c, .int .i64 top] 24)) := ⟨_, rfl⟩
 rw [← hw0] at hbW
 have hg : w0.heap[w.heap.size]? = some (.cells #[.int .i64 v, .slice ao ns.length c, .int .i64 top] 24) := by rw [hw0]; exact heap_alloc_new w _
 have HG := qHd hg; clear hg
 have hlt : w.heap.size < w0.heap.size := by rw [hw0]; simp
 go_enter Tryz.func19, Tryz.ntmps19
 go_wp2_with fail
 rw [← hw0]; clear hw0
 go_loopw [20] (fun i' wx => ∃ q : Nat, q ≤ ns.length ∧ i' = .int .i64 q ∧ Below w0.heap.size w0 wx ∧ Hid (qbc v 0 ns = qbc v q (ns.drop q))) (fun i' _ => ns.length - (intOf i').toNat)
 case atStart => exact ⟨0, Nat.zero_le _, rfl, Below.refl _ _, qHd rfl⟩
 case round =>
  obtain ⟨q, hq, rfl, hbx, G⟩ := hrel
  obtain ⟨wo, rfl⟩ : ∃ wo : World, wo = wr := ⟨_, rfl⟩
  obtain ⟨x0, x1, x2⟩ := row3 (qaa HG.out hbx)
  have hb1 := hbW.trans (hbx.mono hbW.size)
  by_cases hlt2 : q < ns.length
  ·obtain ⟨x, hx⟩ : ∃ x, ns[q]? = some x := ⟨ns[q], List.getElem?_eq_getElem hlt2⟩
   have hlt3 : (q : Int) < (ns.length : Int) := by omega
   have hk := rnode_any _ ⟨v, ns, top⟩ q x wo (HF.out.below hb1) hx (by simp only; omega) (by omega)
   simp only at hk
   have HK := qHd hk; clear hk
   have D := qHd (ndsErr_dropC (v := v) hx); clear hx
   have HBX := qHd hbx; have HB1 := qHd hb1; clear hbx hb1
   go_wp2_with fail
   (with_reducible refine HK.out.mono ?_); rintro e w1 ⟨rfl, hb2⟩
   have hb3 := HBX.out.trans (hb2.mono HBX.out.size)
   have hb4 := HB1.out.trans (hb2.mono HB1.out.size)
   clear x0 x1 x2 hb2
   by_cases E : qbe v q x = 0
   ·rw [show ((qbe v q x : Nat) : Int) = 0 from by omega]
    go_wp2_with fail
    go_roundw
    case rel => exact ⟨q + 1, by omega, by go_num, hb3, qHd (by rw [G.out, D.out, if_pos E])⟩
    case measure => simp [intOf]; omega
   ·have E' : ¬ ((qbe v q x : Nat) : Int) = 0 := by omega
    have R : qbc v 0 ns = qbe v q x := by rw [G.out, D.out, if_neg E]
    have RR := qHd (RN.out (by rw [R]; exact E))
    have R := qHd R
    
    go_wp2_with fail
    go_ret
    exact ⟨by rw [RR.out, R.out]; rfl, hb4⟩
  ·have hq' : q = ns.length := by omega
   subst hq'
   have R : qbc v 0 ns = 0 := by rw [G.out, List.drop_length]; rfl
   have RR := qHd (RT.out R)
   clear R
   have hk := rfvalid_any _ ⟨v, ns, top⟩ top wo (HF.out.below hb1) ht
   have HK := qHd hk; clear hk
   skip
   obtain ⟨ok, hok⟩ : ∃ ok, ok = argOK ⟨v, ns, top⟩ top := ⟨_, rfl⟩
   rw [← hok] at HK RR; clear hok
   have HB1 := qHd hb1; clear hb1 hbx
   go_wp2_with fail
   (with_reducible refine HK.out.mono ?_); rintro e w1 ⟨rfl, hb2⟩
   have hb4 := HB1.out.trans (hb2.mono HB1.out.size)
   clear x0 x1 x2 hb2
   cases ok with
   | true =>
    go_wp2_with fail
    go_ret
    exact ⟨by rw [RR.out]; rfl, hb4⟩
   | false =>
    go_wp2_with fail
    go_ret
    exact ⟨by rw [RR.out]; rfl, hb4⟩
end Go.Proofs.YteadcgmaailjlaaGreatDoor
namespace Go.Proofs.YteadcgmaailjlaaGreatDoor
def mn (p q : Rat) : Rat := if p ≤ q then p else q
def mx (p q : Rat) : Rat := if q ≤ p then p else q
end Go.Proofs.YteadcgmaailjlaaGreatDoor
namespace Go.Proofs.YteadcgmaailjlaaGreatDoor
open Go.RowKit Go.ChangeShapes Go.WideShapes
section
variable {P : Program} {ops : Array Oper} {md : Region.Mode}

def qcf (ops : Array Oper) (j : Nat) : Option Tmp := (ops[j]?).bind (·.dst)
def qat (ops : Array Oper) (listed : Nat → Bool) (vals : Nat → Value) (a : Act) : Nat → Act
 | 0 => a
 | n + 1 => if listed n then (qat ops listed vals a n).put (qcf ops n) (vals n) else qat ops listed vals a n
theorem qdc {l l' : Nat → Bool} {v v' : Nat → Value} {a : Act} {n : Nat} (h : ∀ j, j < n → l j = l' j ∧ (l j = true → v j = v' j)) : qat ops l v a n = qat ops l' v' a n := by
 induction n with
 | zero => rfl
 | succ n ih =>
  obtain ⟨h1, h2⟩ := h n (by omega)
  unfold qat
  rw [ih (fun j hj => h j (by omega)), ← h1]
  by_cases hl : l n = true
  ·rw [if_pos hl, if_pos hl, h2 hl]
  ·rw [if_neg hl, if_neg hl]
theorem putsTo_set {l : Nat → Bool} {vals : Nat → Value} {a : Act} {i : Nat} {v : Value} (hi : l i = false) :
  ∀ n, i < n → (∀ j, j < n → j ≠ i → ∀ d, qcf ops i = some d → qcf ops j ≠ some d) →
  qat ops (fun j => if j = i then true else l j) (fun j => if j = i then v else vals j) a n = (qat ops l vals a n).put (qcf ops i) v := by
 intro n
 induction n with
 | zero => intro h; omega
 | succ n ih =>
  intro hin hd
  unfold qat
  by_cases hn : n = i
  ·subst hn
   have e := qdc (ops := ops) (l := fun j => if j = n then true else l j) (l' := l) (v := fun j => if j = n then v else vals j) (v' := vals) (a := a) (n := n) (fun j hj => by
    have : j ≠ n := by omega
    exact ⟨by show (if j = n then true else l j) = l j; rw [if_neg this], fun _ => by show (if j = n then v else vals j) = vals j; rw [if_neg this]⟩)
   rw [e]
   simp only [if_true, hi, Bool.false_eq_true, if_false]
  ·rw [if_neg hn, if_neg hn, ih (by omega) (fun j hj => hd j (by omega))]
   by_cases hl : l n = true
   ·rw [if_pos hl, if_pos hl, Act.put_comm _ v (vals n) (hd n (by omega) hn)]
   ·rw [if_neg hl, if_neg hl]
theorem getD_set_self (t : Array Value) (d : Nat) (v u : Value) : (t.setIfInBounds d v).getD d u = if d < t.size then v else u := by
 by_cases h : d < t.size <;> simp [h]
theorem putsTo_eval {l : Nat → Bool} {vals : Nat → Value} {a : Act} {x : Operand} : ∀ n, (∀ t, x = .tmp t → ∀ j, j < n → qcf ops j = some t → l j = true) →
  (qat ops l vals a n).eval x = (qat ops (fun _ => true) vals a n).eval x ∧ (qat ops l vals a n).tmps.size = (qat ops (fun _ => true) vals a n).tmps.size := by
 have hsz : ∀ (a : Act) (d : Option Tmp) (v : Value), (a.put d v).tmps.size = a.tmps.size := fun a d v => by cases d <;> simp [Act.put]
 intro n
 induction n with
 | zero => intro _; exact ⟨rfl, rfl⟩
 | succ n ih =>
  intro h
  obtain ⟨h1, h2⟩ := ih (fun t ht j hj => h t ht j (by omega))
  unfold qat
  rw [if_pos rfl]
  by_cases hl : l n = true
  ·rw [if_pos hl, hsz, hsz]
   refine ⟨?_, h2⟩
   cases hd : qcf ops n with
   | none => exact h1
   | some d =>
    cases x with
    | tmp t =>
     by_cases htd : d = t
     ·subst htd
      show ((qat ops l vals a n).tmps.setIfInBounds d (vals n)).getD d undef = ((qat ops (fun _ => true) vals a n).tmps.setIfInBounds d (vals n)).getD d undef
      rw [getD_set_self, getD_set_self, h2]
     ·rw [Act.eval_put (fun e he hx => htd (by cases he; cases hx; rfl)), Act.eval_put (fun e he hx => htd (by cases he; cases hx; rfl))]; exact h1
    | _ => exact h1
  ·rw [if_neg hl, hsz]
   refine ⟨?_, h2⟩
   rw [Act.eval_put (fun d hd hx => hl (h d hx n (by omega) hd))]; exact h1

def StepOK (P : Program) (o : Oper) (a : Act) (w : World) (R : Value → World → Prop) : Prop :=
 match (execOp a.eval o).run P w with
 | .ok (.value v) w' => R v w'
 | .ok (.enter f args) w' => Calls P f args w' fun e w'' => ∃ v, e = .returned v ∧ R v w''
 | _ => False
def StepG (P : Program) (ops : Array Oper) (o : Oper) (a : Act) (w : World) (R : Value → World → Prop) : Prop :=
 if Region.wanted o (yielded ops a.tmps) = true then StepOK P o a w R else R undef w
theorem wpOp_of_stepG {o : Oper} {a a' : Act} {w : World} {i : Nat} {R : Value → World → Prop} {Q : Exit → Act → World → Prop} {K : Act → World → Prop} (hi : ops[i]? = some o)
  (hg : Region.wanted o (yielded ops a.tmps) = Region.wanted o (yielded ops a'.tmps))
  (he : execOp a.eval o = execOp a'.eval o) (h : StepG P ops o a' w R) (hK : ∀ v w', R v w' → K (a.put o.dst v) w') : wpOp P ops Q i K a w := by
 unfold wpOp
 simp only [hi]
 unfold StepG at h
 rw [hg]
 by_cases hw : Region.wanted o (yielded ops a'.tmps) = true
 ·rw [if_pos hw] at h ⊢
  left
  unfold StepOK at h
  unfold Oper.wp
  rw [he]
  generalize (execOp a'.eval o).run P w = r at h
  cases r with
  | ok n w' =>
   cases n <;> simp only [Oper.upon] at h ⊢
   case value v => exact hK _ _ h
   case enter f args => exact h.mono fun e w'' ⟨v, hv, hr⟩ => by subst hv; exact hK _ _ hr
   all_goals exact h.elim
  | halt x w' => simp at h
 ·rw [if_neg hw] at h ⊢
  exact hK _ _ h
theorem putsTo_wanted {l : Nat → Bool} {vals : Nat → Value} {a : Act} {o : Oper} (n : Nat) (h : ∀ g b, o.guard = some (g, b) → ∀ t, qcf ops g = some t → ∀ j, j < n → qcf ops j = some t → l j = true) :
  Region.wanted o (yielded ops (qat ops l vals a n).tmps) = Region.wanted o (yielded ops (qat ops (fun _ => true) vals a n).tmps) := by
 unfold Region.wanted
 cases hg : o.guard with
 | none => rfl
 | some gw =>
  obtain ⟨g, want⟩ := gw
  have hy : yielded ops (qat ops l vals a n).tmps g = yielded ops (qat ops (fun _ => true) vals a n).tmps g := by
   unfold yielded
   cases ht : (ops[g]?).bind (·.dst) with
   | none => rfl
   | some t =>
    obtain ⟨h1, h2⟩ := putsTo_eval (ops := ops) (l := l) (vals := vals) (a := a) (x := .tmp t) n (fun t' ht' j hj hd => h g want hg t ht j hj (by rw [hd]; cases ht'; rfl))
    have h3 : (qat ops l vals a n).tmps[t]? = (qat ops (fun _ => true) vals a n).tmps[t]? := by
     have h4 : (qat ops l vals a n).tmps.getD t undef = (qat ops (fun _ => true) vals a n).tmps.getD t undef := h1
     rcases Nat.lt_or_ge t (qat ops l vals a n).tmps.size with hl | hl
     ·have hl2 : t < (qat ops (fun _ => true) vals a n).tmps.size := by rw [← h2]; exact hl
      rw [Array.getElem?_eq_getElem hl, Array.getElem?_eq_getElem hl2]
      simp [hl, hl2] at h4
      rw [h4]
     ·rw [Array.getElem?_eq_none hl, Array.getElem?_eq_none (by omega)]
    show (match (some t).bind ((qat ops l vals a n).tmps[·]?) with | some (.bool b) => some b | _ => none) = (match (some t).bind ((qat ops (fun _ => true) vals a n).tmps[·]?) with | some (.bool b) => some b | _ => none)
    simp only [Option.bind_some, h3]
  simp only [hy]

def sinkF (md : Region.Mode) (ops : Array Oper) (fl : List Nat) (n : Nat) : Bool :=
 (List.range n).all fun i => fl.contains i || (List.range (n + 1)).any fun j => decide (i < j) && !fl.contains j && Region.waitsFor md ops j i
def floatB (md : Region.Mode) (ops : Array Oper) (fl : List Nat) : Bool :=
 fl.all fun i => match ops[i]? with
  | none => false
  | some oi => oi.guard.isNone && (List.range ops.size).all fun j => j == i || Region.waitsFor md ops j i || Region.waitsFor md ops i j || match ops[j]? with
   | some oj => oi.apart ops oj
   | none => true
def headB (md : Region.Mode) (ops : Array Oper) (fl : List Nat) (n : Nat) : Bool :=
 Region.noSelect ops && decide (n < ops.size) && (sinkF md ops fl n && floatB md ops fl && fl.all (fun i => decide (i < n))) && Region.chainB md ops n &&
 ((List.range n).all fun k => match ops[k]? with
  | none => false
  | some o => (match o.guard with | none => true | some (g, _) => decide (g < n) && Region.waitsFor md ops k g) && (o.after.all fun e => !Region.binds md e || decide (e.on < k)) &&
   ((List.range n).all fun j => (j == k || o.dst.isNone || decide (qcf ops j ≠ o.dst)) &&
    (o.op.operands.all fun x => match x with
     | .tmp t => decide (qcf ops j ≠ some t) || Region.waitsFor md ops k j
     | _ => true))) &&
 Region.seqB md ops (ops.size - n) n ((Array.range ops.size).map fun i => decide (i < n))
theorem tail_waitsF {n : Nat} {fl : List Nat} {listed : Array Bool} (hs : sinkF md ops fl n = true) (hc : Region.chainB md ops n = true) (hn : n < ops.size) (inv : HeadInv md ops n listed) :
  ∀ (d i : Nat), n - i = d → i < n → fl.contains i = false → listed.getD i true = false → ∀ t, n ≤ t → t ∉ Region.ready md ops listed := by
 intro d
 induction d using Nat.strongRecOn with
 | _ d ih =>
  intro i hd hi hfi hun t ht hr
  obtain ⟨_, ot, hot, hall⟩ := mem_ready.1 hr
  have htlt : t < ops.size := (Array.getElem?_eq_some_iff.1 hot).1
  by_cases htn : t = n
  ·subst htn
   have h1 := List.all_eq_true.1 hs i (List.mem_range.2 hi)
   rw [hfi, Bool.false_or] at h1
   obtain ⟨j, hj, hj2⟩ := List.any_eq_true.1 h1
   simp only [Bool.and_eq_true, decide_eq_true_eq, Bool.not_eq_true'] at hj2
   obtain ⟨oj, hoj, e, he, hb, hon⟩ := Region.waitsFor_spec hj2.2
   have hjle : j ≤ t := by have := List.mem_range.1 hj; omega
   by_cases hjt : j = t
   ·subst hjt
    have : oj = ot := Option.some.inj (hoj.symm.trans hot)
    subst this
    have h2 := hall e he hb
    rw [hon, getD_both hun] at h2
    cases h2
   ·cases hl : listed.getD j false with
    | true =>
     have h2 := inv.closed j oj hoj hl e he hb
     rw [hon, getD_both hun] at h2
     cases h2
    | false =>
     have hjs : j < listed.size := by rw [inv.size]; omega
     exact ih (t - j) (by omega) j rfl (by omega) hj2.1.2 (getD_in hjs hl) t (Nat.le_refl _) hr
  ·have h1 := List.all_eq_true.1 hc t (List.mem_range.2 htlt)
   simp only [Bool.or_eq_true, decide_eq_true_eq] at h1
   rcases h1 with h1 | h1
   ·omega
   ·obtain ⟨o', ho', e, he, hb, hon⟩ := Region.waitsFor_spec h1
    have : o' = ot := Option.some.inj (ho'.symm.trans hot)
    subst this
    have h2 := hall e he hb
    rw [hon, getD_both (inv.tail (t - 1) (by omega) (by omega))] at h2
    cases h2

structure HeadOK (md : Region.Mode) (ops : Array Oper) (n k : Nat) (o : Oper) : Prop where
 guard : ∀ g b, o.guard = some (g, b) → g < n ∧ Region.waitsFor md ops k g = true
 early : ∀ e ∈ o.after, Region.binds md e = true → e.on < k
 dst : ∀ j, j < n → j ≠ k → ∀ d, o.dst = some d → qcf ops j ≠ some d
 reads : ∀ x ∈ o.op.operands, ∀ t, x = .tmp t → ∀ j, j < n → qcf ops j = some t → Region.waitsFor md ops k j = true
theorem headB_ok {n k : Nat} {fl : List Nat} {o : Oper} (h : headB md ops fl n = true) (hk : k < n) (ho : ops[k]? = some o) : HeadOK md ops n k o := by
 unfold headB at h
 simp only [Bool.and_eq_true] at h
 have h1 := List.all_eq_true.1 h.1.2 k (List.mem_range.2 hk)
 rw [ho] at h1
 simp only [Bool.and_eq_true, List.all_eq_true, List.mem_range] at h1
 obtain ⟨⟨g1, g2⟩, g3⟩ := h1
 refine ⟨fun g b hg => by
  rw [hg] at g1
  simpa using g1, fun e he hb => ?_, fun j hj hjk d hd => ?_, fun x hx t ht j hj hd => ?_⟩
 ·have := Array.all_eq_true_iff_forall_mem.1 g2 e he
  rw [hb] at this; simpa using this
 ·have := (g3 j hj).1
  rw [hd] at this
  simp only [Bool.or_eq_true, beq_iff_eq, Option.isNone_some, Bool.false_eq_true, or_false, decide_eq_true_eq] at this
  rcases this with h | h
  ·exact absurd h hjk
  ·exact h
 ·have := Array.all_eq_true_iff_forall_mem.1 (g3 j hj).2 x hx
  subst ht
  simp only [Bool.or_eq_true, decide_eq_true_eq] at this
  rcases this with h | h
  ·exact absurd hd h
  ·exact h

structure DrawInv (md : Region.Mode) (ops : Array Oper) (n : Nat) (F : Nat → Value → World → Prop) (AL : Nat → Bool) (w0 : World) (a0 : Act) (listed : Array Bool) (a : Act) (w : World) : Prop where
 head : HeadInv md ops n listed
 below : Below w0.heap.size w0 w
 vals : ∃ vals : Nat → Value, a = qat ops (fun j => listed.getD j false) vals a0 n ∧ (∀ j, j < n → listed.getD j false = true → F j (vals j) w) ∧
  (∀ j, j < n → listed.getD j false = true → AL j = true → ∃ g, vals j = .pointer (some ⟨g, 0, none⟩) ∧ g < w.heap.size) ∧
  (∀ j k, j < n → k < n → j ≠ k → listed.getD j false = true → listed.getD k false = true → AL j = true → AL k = true → vals j ≠ vals k)

def unl (listed : Array Bool) : Nat → Nat
 | 0 => 0
 | n + 1 => unl listed n + if listed.getD n false then 0 else 1
theorem unl_zero {listed : Array Bool} : ∀ n, unl listed n = 0 → ∀ j, j < n → listed.getD j false = true
 | 0, _, j, hj => by omega
 | n + 1, h, j, hj => by
  unfold unl at h
  by_cases hn : listed.getD n false = true
  ·rw [if_pos hn] at h
   by_cases hjn : j = n
   ·subst hjn; exact hn
   ·exact unl_zero n (by omega) j (by omega)
  ·rw [if_neg hn] at h; omega
theorem unl_first {listed : Array Bool} : ∀ n, unl listed n ≠ 0 → ∃ k, k < n ∧ listed.getD k false = false ∧ ∀ j, j < k → listed.getD j false = true
 | 0, h => absurd rfl h
 | n + 1, h => by
  by_cases hz : unl listed n = 0
  ·unfold unl at h
   refine ⟨n, by omega, ?_, unl_zero n hz⟩
   cases hn : listed.getD n false with
   | false => rfl
   | true => rw [hz, hn] at h; simp at h
  ·obtain ⟨k, h1, h2⟩ := unl_first n hz
   exact ⟨k, by omega, h2⟩
theorem unl_congr {l l' : Array Bool} : ∀ n, (∀ j, j < n → l.getD j false = l'.getD j false) → unl l n = unl l' n
 | 0, _ => rfl
 | n + 1, h => by
  unfold unl
  rw [unl_congr n (fun j hj => h j (by omega)), h n (by omega)]
theorem unl_set {listed : Array Bool} {i : Nat} (hs : i < listed.size) (hi : listed.getD i false = false) : ∀ n, i < n → unl (listed.setIfInBounds i true) n + 1 = unl listed n
 | 0, h => by omega
 | n + 1, h => by
  unfold unl
  by_cases hn : n = i
  ·subst hn
   rw [unl_congr (l' := listed) n (fun j hj => getD_set_ne false (by omega)), hi]
   have : (listed.setIfInBounds n true).getD n false = true := by simp [hs]
   rw [this]; simp
  ·have ih := unl_set hs hi n (by omega)
   rw [getD_set_ne false (Ne.symm hn)]; omega

def StepPure (P : Program) (o : Oper) (a : Act) (R : Value → Prop) : Prop := ∃ v, (∀ w, (execOp a.eval o).run P w = .ok (.value v) w) ∧ R v
def Leaves (F : Nat → Value → World → Prop) (AL : Nat → Bool) (i : Nat) (w1 : World) (v : Value) (w2 : World) : Prop :=
 Below w1.heap.size w1 w2 ∧ F i v w2 ∧ (AL i = true → v = .pointer (some ⟨w1.heap.size, 0, none⟩) ∧ w1.heap.size < w2.heap.size)
theorem qba {F : Nat → Value → World → Prop} {AL : Nat → Bool} {i : Nat} {w1 w2 : World} {v : Value} (hb : Below w1.heap.size w1 w2) (hf : F i v w2) (hal : AL i = true → v = .pointer (some ⟨w1.heap.size, 0, none⟩) ∧ w1.heap.size < w2.heap.size) : Leaves F AL i w1 v w2 := ⟨hb, hf, hal⟩
theorem qLk {F : Nat → Value → World → Prop} {AL : Nat → Bool} {i : Nat} {w : World} {v : Value} (hf : F i v w) (h : AL i = false) : Leaves F AL i w v w := qba (Below.refl _ _) hf (fun k => by rw [h] at k; cases k)
theorem DrawInv.next {n i : Nat} {oi : Oper} {fl : List Nat} {F : Nat → Value → World → Prop} {AL : Nat → Bool} {w0 w w' : World} {a0 a : Act} {listed : Array Bool} {v : Value} (hB : headB md ops fl n = true)
  (hF : ∀ i v w1 w2, F i v w1 → Below w1.heap.size w1 w2 → F i v w2) (inv : DrawInv md ops n F AL w0 a0 listed a w) (hi : i ∈ Region.ready md ops listed) (hin : i < n) (hoi : ops[i]? = some oi)
  (h : Leaves F AL i w v w') : DrawInv md ops n F AL w0 a0 (listed.setIfInBounds i true) (a.put oi.dst v) w' := by
 obtain ⟨hiu, oi', hoi', hdeps⟩ := mem_ready.1 hi
 have : oi' = oi := Option.some.inj (hoi'.symm.trans hoi)
 subst this
 have hiu' := getD_both hiu
 have ok := headB_ok hB hin hoi
 have his : i < listed.size := by rw [inv.head.size]; exact (Array.getElem?_eq_some_iff.1 hoi).1
 have hdst : qcf ops i = oi'.dst := by unfold qcf; rw [hoi]; rfl
 obtain ⟨vals, rfl, hv, hg, hd⟩ := inv.vals
 obtain ⟨hb, hf, hal⟩ := h
 refine ⟨inv.head.set hi hin, inv.below.trans (hb.mono inv.below.size), fun j => if j = i then v else vals j, ?_, ?_, ?_, ?_⟩
 ·rw [← hdst, ← putsTo_set hiu' n hin (fun j hj hji => by rw [hdst]; exact ok.dst j hj hji)]
  refine qdc fun j hj => ⟨?_, fun _ => rfl⟩
  by_cases hji : j = i
  ·subst hji; rw [if_pos rfl]; simp [his]
  ·rw [if_neg hji, getD_set_ne false (Ne.symm hji)]
 ·intro j hj hl
  show F j (if j = i then v else vals j) w'
  by_cases hji : j = i
  ·subst hji; rw [if_pos rfl]; exact hf
  ·rw [if_neg hji]
   rw [getD_set_ne false (Ne.symm hji)] at hl
   exact hF _ _ _ _ (hv j hj hl) hb
 ·intro j hj hl aj
  show ∃ g, (if j = i then v else vals j) = _ ∧ _
  by_cases hji : j = i
  ·subst hji; rw [if_pos rfl]
   obtain ⟨e1, e2⟩ := hal aj
   exact ⟨_, e1, e2⟩
  ·rw [if_neg hji]
   rw [getD_set_ne false (Ne.symm hji)] at hl
   obtain ⟨g, e1, e2⟩ := hg j hj hl aj
   exact ⟨g, e1, Nat.lt_of_lt_of_le e2 hb.size⟩
 ·intro j k' hj hk' hjk hl hl' aj ak
  show (if j = i then v else vals j) ≠ (if k' = i then v else vals k')
  by_cases hji : j = i
  ·subst hji
   have hki : k' ≠ j := fun e => hjk e.symm
   rw [if_pos rfl, if_neg hki]
   rw [getD_set_ne false (Ne.symm hki)] at hl'
   obtain ⟨e1, e2⟩ := hal aj
   obtain ⟨g, e3, e4⟩ := hg k' hk' hl' ak
   rw [e1, e3]
   intro h
   cases h; omega
  ·rw [if_neg hji]
   rw [getD_set_ne false (Ne.symm hji)] at hl
   by_cases hki : k' = i
   ·subst hki
    rw [if_pos rfl]
    obtain ⟨e1, e2⟩ := hal ak
    obtain ⟨g, e3, e4⟩ := hg j hj hl aj
    rw [e1, e3]
    intro h
    cases h; omega
   ·rw [if_neg hki]
    rw [getD_set_ne false (Ne.symm hki)] at hl'
    exact hd j k' hj hk' hjk hl hl' aj ak

theorem wpAny_of_facts {n : Nat} {fl : List Nat} {Q : Exit → Act → World → Prop} {F : Nat → Value → World → Prop} {AL : Nat → Bool} {w0 : World} {a0 : Act} (hB : headB md ops fl n = true)
  (hQ : ∀ c (a : Act) (d : Tmp) v w, Q (.panic c) (a.put (some d) v) w → Q (.panic c) a w)
  (hF : ∀ i v w1 w2, F i v w1 → Below w1.heap.size w1 w2 → F i v w2)
  (hstep : ∀ i o, i < n → ops[i]? = some o → ∀ (vals : Nat → Value) (w1 : World), Below w0.heap.size w0 w1 → (∀ j, Region.waitsFor md ops i j = true → F j (vals j) w1) →
   if fl.contains i then StepPure P o (qat ops (fun _ => true) vals a0 n) (fun v => Leaves F AL i w1 v w1) else StepG P ops o (qat ops (fun _ => true) vals a0 n) w1 (Leaves F AL i w1))
  (hend : ∀ (vals : Nat → Value) (w1 : World), Below w0.heap.size w0 w1 → (∀ i, i < n → F i (vals i) w1) → (∀ i j, i < n → j < n → i ≠ j → AL i = true → AL j = true → vals i ≠ vals j) →
   wpList P ops Q (ops.toList.drop n) (qat ops (fun _ => true) vals a0 n) w1) :
  ∀ (m : Nat) (listed : Array Bool) (a : Act) (w : World), unl listed n = m → DrawInv md ops n F AL w0 a0 listed a w → wpAny P md ops Q (m + (ops.size - n)) listed a w := by
 have hB' := hB
 unfold headB at hB'
 simp only [Bool.and_eq_true, decide_eq_true_eq] at hB'
 obtain ⟨⟨⟨⟨⟨hsel, hn⟩, ⟨hs, hfb⟩, hfn⟩, hc⟩, _⟩, hseq⟩ := hB'
 intro m
 induction m with
 | zero =>
  intro listed a w hm inv
  have hall := unl_zero n hm
  obtain ⟨vals, rfl, hv, _, hd⟩ := inv.vals
  have hl : listed = (Array.range ops.size).map fun i => decide (i < n) := by
   apply Array.ext
   ·simp [inv.head.size]
   ·intro j h1 h2
    simp only [Array.getElem_map, Array.getElem_range]
    by_cases hj : j < n
    ·have := hall j hj
     simp [h1] at this; rw [this, decide_eq_true hj]
    ·have hjs : j < ops.size := by rw [← inv.head.size]; exact h1
     have := inv.head.tail j (by omega) hjs
     simp [h1] at this; rw [this, decide_eq_false hj]
  have hend' := hend vals w inv.below (fun i hi => hv i hi (hall i hi)) (fun i j hi hj hij ai aj => hd i j hi hj hij (hall i hi) (hall j hj) ai aj)
  rw [qdc (l' := fun _ => true) (v' := vals) (fun j hj => ⟨hall j hj, fun _ => rfl⟩)]
  rw [Nat.zero_add]
  have hlen : (ops.toList.drop n).length = ops.size - n := by simp
  have := wpAny_of_seq (P := P) (md := md) (Q' := Q) (ops.toList.drop n) n listed (qat ops (fun _ => true) vals a0 n) w (fun j => by simp [List.getElem?_drop]) (by rw [hlen, hl]; exact hseq) hend'
  rwa [hlen] at this
 | succ m ih =>
  intro listed a w hm inv
  have step : ∀ i oi, i ∈ Region.ready md ops listed → i < n → ops[i]? = some oi →
    (execOp a.eval oi = execOp (qat ops (fun _ => true) (Classical.choose inv.vals) a0 n).eval oi ∧ Region.wanted oi (yielded ops a.tmps) = Region.wanted oi (yielded ops (qat ops (fun _ => true) (Classical.choose inv.vals) a0 n).tmps)) ∧ (∀ j, Region.waitsFor md ops i j = true → F j (Classical.choose inv.vals j) w) ∧ unl (listed.setIfInBounds i true) n = m := by
   intro i oi hi hin hoi
   obtain ⟨ha, hv, _, _⟩ := Classical.choose_spec inv.vals
   obtain ⟨hiu, oi', hoi', hdeps⟩ := mem_ready.1 hi
   have : oi' = oi := Option.some.inj (hoi'.symm.trans hoi)
   subst this
   have ok := headB_ok hB hin hoi
   have his : i < listed.size := by rw [inv.head.size]; exact (Array.getElem?_eq_some_iff.1 hoi).1
   have hwl : ∀ j, Region.waitsFor md ops i j = true → listed.getD j false = true := fun j hj => by
    obtain ⟨o', ho', e, he, hb, hon⟩ := Region.waitsFor_spec hj
    have : o' = oi' := Option.some.inj (ho'.symm.trans hoi)
    subst this
    rw [← hon]; exact hdeps e he hb
   have hwn : ∀ j, Region.waitsFor md ops i j = true → j < n := fun j hj => by
    obtain ⟨o', ho', e, he, hb, hon⟩ := Region.waitsFor_spec hj
    have : o' = oi' := Option.some.inj (ho'.symm.trans hoi)
    subst this
    have := ok.early e he hb; omega
   refine ⟨?_, fun j hj => hv j (hwn j hj) (hwl j hj), by have := unl_set his (getD_both hiu) n hin; omega⟩
   have e := execOp_congr oi' (ρ := (qat ops (fun j => listed.getD j false) (Classical.choose inv.vals) a0 n).eval) (ρ' := (qat ops (fun _ => true) (Classical.choose inv.vals) a0 n).eval) (fun cs b => Region.noSelect_spec hsel i oi' cs b hoi)
    fun x hx => (putsTo_eval n (fun t ht j hj hdj => hwl j (ok.reads x hx t ht j hj hdj))).1
   have e2 := putsTo_wanted (ops := ops) (l := fun j => listed.getD j false) (vals := Classical.choose inv.vals) (a := a0) (o := oi') n (fun g b hg t ht j hj hdj => by
    obtain ⟨hgn, hw⟩ := ok.guard g b hg
    by_cases hjg : j = g
    ·subst hjg; exact hwl _ hw
    ·exfalso
     have hgs : g < ops.size := by omega
     have okg := headB_ok hB hgn (Array.getElem?_eq_getElem hgs)
     refine okg.dst j hj hjg t ?_ hdj
     unfold qcf at ht
     rw [Array.getElem?_eq_getElem hgs] at ht; exact ht)
   rw [← ha] at e e2; exact ⟨e, e2⟩
  obtain ⟨k, hk, hku, hkl⟩ := unl_first (listed := listed) n (by omega)
  have hks : k < listed.size := by rw [inv.head.size]; omega
  have hkt := getD_in hks hku
  have hready : k ∈ Region.ready md ops listed := by
   rw [mem_ready]
   refine ⟨hkt, ops[k]'(by omega), by rw [Array.getElem?_eq_getElem], fun e he hb => ?_⟩
   exact hkl _ ((headB_ok hB hk (Array.getElem?_eq_getElem (by omega))).early e he hb)
  rw [show m + 1 + (ops.size - n) = (m + (ops.size - n)) + 1 by omega]
  by_cases hfl : ∃ i, i < n ∧ i ∈ Region.ready md ops listed ∧ fl.contains i = true
  ·obtain ⟨i, hin, hi, hif⟩ := hfl
   obtain ⟨_, oi, hoi, _⟩ := mem_ready.1 hi
   obtain ⟨he, hdp, hu⟩ := step i oi hi hin hoi
   have st := hstep i oi hin hoi (Classical.choose inv.vals) w inv.below hdp
   rw [if_pos hif] at st
   obtain ⟨v, hv, hL⟩ := st
   have hfi := List.all_eq_true.1 hfb i (by simpa using hif)
   rw [hoi] at hfi
   simp only [Bool.and_eq_true] at hfi
   obtain ⟨hgn, hfi⟩ := hfi
   have hgn : oi.guard = none := by simpa using hgn
   refine wpAny_first hoi (Region.noSelect_spec hsel) (fun c a w h => by
    cases hd : oi.dst with
    | none => rw [hd] at h; exact h
    | some d => rw [hd] at h; exact hQ c a d v w h) _ listed a w ?_ hi (.inl ⟨by simp [Region.wanted, hgn], fun w' => by rw [he.1]; exact hv w'⟩) (ih _ _ _ hu (inv.next hB hF hi hin hoi hL))
   intro j oj hj hji hun hno
   have h1 := List.all_eq_true.1 hfi j (List.mem_range.2 (Array.getElem?_eq_some_iff.1 hj).1)
   rw [hj] at h1
   simp only [Bool.or_eq_true, beq_iff_eq, hji, false_or] at h1
   rcases h1 with (h1 | h1) | h1
   ·obtain ⟨o', ho', e, he, hb, hon⟩ := Region.waitsFor_spec h1
    have : o' = oj := Option.some.inj (ho'.symm.trans hj)
    subst this
    exact absurd hon (hno e he hb)
   ·obtain ⟨o', ho', e, he, hb, hon⟩ := Region.waitsFor_spec h1
    obtain ⟨_, o2, ho2, hall⟩ := mem_ready.1 hi
    have : o' = o2 := Option.some.inj (ho'.symm.trans ho2)
    subst this
    have := hall e he hb
    rw [hon, getD_both hun] at this; cases this
   ·exact h1
  ·have hkf : fl.contains k = false := by
    cases h : fl.contains k with
    | false => rfl
    | true => exact absurd ⟨k, hk, hready, h⟩ hfl
   refine ⟨fun h0 => (by rw [h0] at hready; cases hready), fun i hi => ?_⟩
   have hin : i < n := by
    rcases Nat.lt_or_ge i n with h | h
    ·exact h
    ·exact absurd hi (tail_waitsF hs hc hn inv.head _ k rfl hk hkf hkt i h)
   obtain ⟨_, oi, hoi, _⟩ := mem_ready.1 hi
   obtain ⟨he, hdp, hu⟩ := step i oi hi hin hoi
   have st := hstep i oi hin hoi (Classical.choose inv.vals) w inv.below hdp
   rw [if_neg (fun h => hfl ⟨i, hin, hi, h⟩)] at st
   refine wpOp_of_stepG hoi he.2 he.1 st ?_
   intro v w' hL
   exact ih _ _ _ hu (inv.next hB hF hi hin hoi hL)

def stepsOK (P : Program) (md : Region.Mode) (ops : Array Oper) (fl : List Nat) (F : Nat → Value → World → Prop) (AL : Nat → Bool) (w0 : World) (A : (Nat → Value) → Act) : List Oper → Nat → Prop
 | [], _ => True
 | o :: l, i => (∀ (vals : Nat → Value) (w1 : World), Below w0.heap.size w0 w1 → (∀ j, Region.waitsFor md ops i j = true → F j (vals j) w1) →
   if fl.contains i then StepPure P o (A vals) (fun v => Leaves F AL i w1 v w1) else StepG P ops o (A vals) w1 (Leaves F AL i w1)) ∧
  stepsOK P md ops fl F AL w0 A l (i + 1)
theorem stepsOK_at {fl : List Nat} {F : Nat → Value → World → Prop} {AL : Nat → Bool} {w0 : World} {A : (Nat → Value) → Act} : ∀ (l : List Oper) (i : Nat), stepsOK P md ops fl F AL w0 A l i → ∀ k o, l[k]? = some o →
  ∀ (vals : Nat → Value) (w1 : World), Below w0.heap.size w0 w1 → (∀ j, Region.waitsFor md ops (i + k) j = true → F j (vals j) w1) →
   if fl.contains (i + k) then StepPure P o (A vals) (fun v => Leaves F AL (i + k) w1 v w1) else StepG P ops o (A vals) w1 (Leaves F AL (i + k) w1)
 | [], _, _, k, o, h => by simp at h
 | x :: l, i, hs, 0, o, h => by
  simp at h; subst h
  exact hs.1
 | x :: l, i, hs, k + 1, o, h => by
  have := stepsOK_at l (i + 1) hs.2 k o (by simpa using h)
  rw [show i + 1 + k = i + (k + 1) by omega] at this
  exact this
theorem qay {id : Nat} {Q : Exit → Act → World → Prop} {a : Act} {w : World} {l : List Oper} {A : (Nat → Value) → Act} (n : Nat) (fl : List Nat) (hm : P.follows .mixedOrders = true) (F : Nat → Value → World → Prop) (AL : Nat → Bool)
  (hB : headB .any l.toArray fl n = true)
  (hQ : ∀ c (a : Act) (d : Tmp) v w, Q (.panic c) (a.put (some d) v) w → Q (.panic c) a w)
  (hF : ∀ i v w1 w2, F i v w1 → Below w1.heap.size w1 w2 → F i v w2)
  (hA : ∀ vals : Nat → Value, qat l.toArray (fun _ => true) vals a n = A vals)
  (hstep : stepsOK P .any l.toArray fl F AL w A (l.take n) 0)
  (hend : ∀ (vals : Nat → Value) (w1 : World), Below w.heap.size w w1 → (∀ i, i < n → F i (vals i) w1) → (∀ i j, i < n → j < n → i ≠ j → AL i = true → AL j = true → vals i ≠ vals j) →
   wpList P l.toArray Q (l.drop n) (A vals) w1) : (Code.region id l.toArray true).wp P Q a w := by
 refine wp_region_any hm ?_
 have hB' := hB
 unfold headB at hB'
 simp only [Bool.and_eq_true, decide_eq_true_eq] at hB'
 have hn : n < l.toArray.size := hB'.1.1.1.1.2
 have hu : ∀ k, unl (Array.replicate l.toArray.size false) k = k := fun k => by
  induction k with
  | zero => rfl
  | succ k ih => unfold unl; rw [ih, getD_replicate_false]; rfl
 have key := wpAny_of_facts (P := P) (Q := Q) (F := F) (AL := AL) (w0 := w) (a0 := a) hB hQ hF (fun i o hi ho vals w1 hb hd => by
   have := stepsOK_at (l.take n) 0 hstep i o (by
    rw [List.getElem?_take, if_pos hi]; simpa using ho)
   rw [Nat.zero_add] at this; rw [hA]; exact this vals w1 hb hd) (fun vals w1 hb hf hd => by rw [hA]; simpa using hend vals w1 hb hf hd) n (Array.replicate l.toArray.size false) a { w with drawn := w.drawn + 1 } (hu n)
  ⟨⟨by simp, fun j oj _ hl => (by rw [getD_replicate_false] at hl; cases hl), fun t _ ht => getD_in (by simpa using ht) (getD_replicate_false _ _)⟩,
   (Below.refl w.heap.size w).drew, fun _ => undef, by
    have : ∀ k, qat l.toArray (fun j => (Array.replicate l.toArray.size false).getD j false) (fun _ => undef) a k = a := fun k => by
     induction k with
     | zero => rfl
     | succ k ih => unfold qat; rw [if_neg (by rw [getD_replicate_false]; decide), ih]
    exact (this n).symm, fun j _ hl => (by rw [getD_replicate_false] at hl; cases hl), fun j _ hl => (by rw [getD_replicate_false] at hl; cases hl), fun j _ _ _ _ hl => (by rw [getD_replicate_false] at hl; cases hl)⟩
 rw [show n + (l.toArray.size - n) = l.toArray.size by omega] at key
 exact key
section
variable {fl : List Nat} {F : Nat → Value → World → Prop} {AL : Nat → Bool} {w0 : World} {A : (Nat → Value) → Act} {i : Nat} {o : Oper} {l : List Oper}
theorem qbb : stepsOK P md ops fl F AL w0 A [] i := trivial
theorem qab (hi : fl.contains i = false) (hg : o.guard = none)
  (h : ∀ (vals : Nat → Value) (w1 : World), Below w0.heap.size w0 w1 → (∀ j, Region.waitsFor md ops i j = true → F j (vals j) w1) → StepOK P o (A vals) w1 (Leaves F AL i w1))
  (hl : stepsOK P md ops fl F AL w0 A l (i + 1)) : stepsOK P md ops fl F AL w0 A (o :: l) i := ⟨fun vals w1 hb hd => by rw [if_neg (by rw [hi]; decide)]; unfold StepG; rw [if_pos (by simp [Region.wanted, hg])]; exact h vals w1 hb hd, hl⟩
theorem stepsOK_pure (hi : fl.contains i = true)
  (h : ∀ (vals : Nat → Value) (w1 : World), Below w0.heap.size w0 w1 → (∀ j, Region.waitsFor md ops i j = true → F j (vals j) w1) → StepPure P o (A vals) (fun v => Leaves F AL i w1 v w1))
  (hl : stepsOK P md ops fl F AL w0 A l (i + 1)) : stepsOK P md ops fl F AL w0 A (o :: l) i := ⟨fun vals w1 hb hd => by rw [if_pos hi]; exact h vals w1 hb hd, hl⟩
end
theorem qcn {o : Oper} {a : Act} {v : Value} {R : Value → Prop} (h : ∀ w, (execOp a.eval o).run P w = .ok (.value v) w) (hR : R v) : StepPure P o a R := ⟨v, h, hR⟩
theorem qak {o : Oper} {a : Act} {w w' : World} {v : Value} {R : Value → World → Prop} (h : (execOp a.eval o).run P w = .ok (.value v) w') (hR : R v w') : StepOK P o a w R := by
 unfold StepOK; rw [h]; exact hR
theorem qSv {o : Oper} {a : Act} {w : World} (v : Value) {R : Value → World → Prop} (h : (execOp a.eval o).run P w = .ok (.value v) w) (hR : R v w) : StepOK P o a w R := qak h hR
theorem qbh {o : Oper} {a : Act} {w w' : World} {f : FuncId} {args : Array Value} {R : Value → World → Prop} (h : (execOp a.eval o).run P w = .ok (.enter f args) w')
  (hR : Calls P f args w' fun e w'' => ∃ v, e = .returned v ∧ R v w'') : StepOK P o a w R := by
 unfold StepOK; rw [h]; exact hR
end
def MonoF (p : Value → World → Prop) : Prop := ∀ v w1 w2, p v w1 → Below w1.heap.size w1 w2 → p v w2
def Fl (l : List (Value → World → Prop)) (i : Nat) : Value → World → Prop := l.getD i fun _ _ => True
theorem qdx {l : List (Value → World → Prop)} (h : ∀ p ∈ l, MonoF p) (i : Nat) (v : Value) (w1 w2 : World) (h1 : Fl l i v w1) (hb : Below w1.heap.size w1 w2) : Fl l i v w2 := by
 unfold Fl at *
 rw [List.getD_eq_getElem?_getD] at *
 cases hi : l[i]? with
 | none => trivial
 | some p =>
  rw [hi] at h1
  exact h p (List.mem_of_getElem? hi) v w1 w2 h1 hb
theorem qdw : ∀ p ∈ ([] : List (Value → World → Prop)), MonoF p := fun _ h => by cases h
theorem qai {p : Value → World → Prop} {l : List (Value → World → Prop)} (hp : MonoF p) (h : ∀ p ∈ l, MonoF p) : ∀ q ∈ p :: l, MonoF q := fun q hq => by
 rcases List.mem_cons.1 hq with rfl | hq
 ·exact hp
 ·exact h q hq
def KEq (c : Value) : Value → World → Prop := fun v _ => v = c
theorem kEq (c : Value) : MonoF (KEq c) := fun _ _ _ h _ => h
theorem qao {w1 : World} {g : Nat} {o : Obj} (h : w1.heap[g]? = some o) : g < w1.heap.size := (Array.getElem?_eq_some_iff.1 h).1
/-! what a store of a fraction into a variable keeps -/
section
variable {w w' : World} {g : Nat} {x y z v : Value} {s s' : Bool} {o p : Option Addr} {n c m d : Nat} {T : TypeId} {q : Rat} {a b : List Nat}
end
/-! six cells -/
def putL (w : World) (g : Nat) : Nat → List Value → World
 | _, [] => w
 | off, x :: l => putL (w.setCell ⟨g, off, none⟩ x) g (off + 1) l
theorem putL_ne {g p : Nat} (h : p ≠ g) : ∀ (l : List Value) (w : World) (off : Nat), (putL w g off l).heap[p]? = w.heap[p]?
 | [], _, _ => rfl
 | x :: l, w, off => by
  unfold putL; rw [putL_ne h l, Below.heap_setCell _ _ _ _ h]
theorem putL_size : ∀ (l : List Value) (w : World) (g off : Nat), (putL w g off l).heap.size = w.heap.size
 | [], _, _, _ => rfl
 | x :: l, w, g, off => by
  unfold putL; rw [putL_size l]; simp [World.setCell]
theorem putL_below {w0 : World} {B g : Nat} (hg : B ≤ g) : ∀ (l : List Value) (w : World) (off : Nat), Below B w0 w → Below B w0 (putL w g off l)
 | [], _, _, h => h
 | x :: l, w, off, h => by
  unfold putL; exact putL_below hg l _ _ (h.setCell hg x)
def noW (cs : Array Value) : Prop := ∀ (j : Nat) (n : Int), cs[j]? ≠ some (.int .u32 n)
section
variable {w w' : World} {g off : Nat} {l : List Value} {cs : Array Value} {T : TypeId} {v : Value} {q : Rat} {s t : Bool} {a b c d : List Nat} {S : Rat × Rat}
end
theorem putLx {w w' : World} {g p off : Nat} {l : List Value} {o : Obj} (hw : w' = putL w g off l) (h : w.heap[p]? = some o) (hp : p ≠ g) : w'.heap[p]? = some o := by
 rw [hw, putL_ne hp]; exact h
theorem qdl {w0 w w' : World} {B g off : Nat} {l : List Value} (hw : w' = putL w g off l) (h : Below B w0 w) (hg : B ≤ g) : Below B w0 w' := by
 rw [hw]; exact putL_below hg _ _ _ h
def KNew (B : Nat) (cs : Array Value) (T : TypeId) : Value → World → Prop := fun v w => ∃ g, B ≤ g ∧ v = .pointer (some ⟨g, 0, none⟩) ∧ w.heap[g]? = some (.cells cs T)
theorem kNew (B : Nat) (cs : Array Value) (T : TypeId) : MonoF (KNew B cs T) := fun _ _ _ ⟨g, h1, h2, h3⟩ hb => ⟨g, h1, h2, qaa h3 hb⟩
def KLst (B n : Nat) (cs : Array Value) (T : TypeId) : Value → World → Prop := fun v w => ∃ g, B ≤ g ∧ v = .slice (some ⟨g, 0, none⟩) n n ∧ w.heap[g]? = some (.cells cs T)
theorem kLst (B n : Nat) (cs : Array Value) (T : TypeId) : MonoF (KLst B n cs T) := fun _ _ _ ⟨g, h1, h2, h3⟩ hb => ⟨g, h1, h2, qaa h3 hb⟩
def qad (p : Prop) : Prop := p
theorem qad.mk {p : Prop} (h : p) : qad p := h
theorem qbr {P : Program} {ops : Array Oper} {rest : List Oper} {a : Act} {w : World} {Q : Exit → Act → World → Prop} {d : Option Tmp} {ty tt : TypeId} {x y : Operand} {pos : String} {af : Array Edge}
  (h : qad (wpList P ops Q (⟨d, .store ty x y, tt, pos, af, none⟩ :: rest) a w)) : wpList P ops Q (⟨d, .store ty x y, tt, pos, af, none⟩ :: rest) a w := h
theorem putL_eq : ∀ (l : List Value) (w : World) (g off : Nat), w.setCells g off l = putL w g off l
 | [], _, _, _ => rfl
 | x :: l, w, g, off => by unfold putL World.setCells; exact putL_eq l _ _ _
theorem there_row {w : World} {g : Nat} {cs : Array Value} {T : TypeId} (h : w.heap[g]? = some (.cells cs T)) {off n : Nat} (hn : off + n ≤ cs.size) : w.there g off n := by
 intro j hj
 refine ⟨?_, ?_⟩
 ·rw [cell_of_row w g (off + j) cs T (0, 0) h, Array.getElem?_eq_getElem (show off + j < cs.size by omega)]; rfl
 ·simp [World.frozen?, h]
theorem qbj {P : Program} {ops : Array Oper} {rest : List Oper} {a : Act} {w : World} {Q : Exit → Act → World → Prop} {ty tt : TypeId} {x y : Operand} {pos : String} {af : Array Edge}
  (g off : Nat) (l : List Value) {cs : Array Value} {T : TypeId} (hg : w.heap[g]? = some (.cells cs T)) (hx : a.eval x = .pointer (some ⟨g, off, none⟩)) (hy : a.eval y = .agg l.toArray)
  (hle : off + l.length ≤ cs.size) (hi : (P.info? ty).map (·.size) = some l.length) (h1 : l.all (fun v => v.oneCell') = true) (hK : ∀ w', w' = putL w g off l → wpList P ops Q rest a w') :
  qad (wpList P ops Q (⟨none, .store ty x y, tt, pos, af, none⟩ :: rest) a w) := by
 refine wpList_store_mid rfl ty x y rfl g off l.toArray hx hy (there_row hg (by simpa using hle)) (by simpa using hi) (all_oneCell_toArray (fun v hv => List.all_eq_true.1 h1 v hv)) ?_
 exact hK _ (putL_eq _ _ _ _)
theorem qac {P : Program} {f : FuncId} {args : Array Value} {w : World} {R : Ending → World → Prop} (h : qad (Calls P f args w R)) : Calls P f args w R := h
theorem qah {P : Program} {b : Code} {Q : Exit → Act → World → Prop} {a : Act} {w : World} (h : qad (Code.wp P (.loop b) Q a w)) : Code.wp P (.loop b) Q a w := h
theorem qax {P : Program} {n : Nat} {ops : Array Oper} {Q : Exit → Act → World → Prop} {a : Act} {w : World} (h : qad (Code.wp P (.region n ops true) Q a w)) : Code.wp P (.region n ops true) Q a w := h
theorem pauseBody {P : Program} {fn : Func} {R : Ending → World → Prop} {x : Exit} {a : Act} {w : World} (h : qad (bodyPost P fn R x a w)) : bodyPost P fn R x a w := h
theorem qae {P : Program} {b : Code} {Q : Exit → Act → World → Prop} {n : Nat} {a : Act} {w : World} (h : qad (Code.rounds P b Q n a w)) : Code.rounds P b Q n a w := h
def noU (l : List Value) : Prop := ∀ u ∈ l, ∀ n, u ≠ .int .u32 n
theorem noW_noU {cs : Array Value} (h : noU cs.toList) : noW cs := by
 intro j n hj
 have hm : Value.int .u32 n ∈ cs.toList := by
  obtain ⟨hlt, e⟩ := Array.getElem?_eq_some_iff.1 hj
  rw [← e]; simp
 exact h _ hm n rfl
theorem noU_app {a b : List Value} (h1 : noU a) (h2 : noU b) : noU (a ++ b) := by
 intro u hu
 rcases List.mem_append.1 hu with h | h
 ·exact h1 u h
 ·exact h2 u h
theorem noU_take {a : List Value} (h : noU a) (n : Nat) : noU (a.take n) := fun u hu => h u (List.mem_of_mem_take hu)
theorem noU_drop {a : List Value} (h : noU a) (n : Nat) : noU (a.drop n) := fun u hu => h u (List.mem_of_mem_drop hu)
theorem noU_zeros {z : Array Value} (h : noU z.toList) (n : Nat) : noU (Builtin.zeroCells z n).toList := by
 intro u hu k
 unfold Builtin.zeroCells at hu
 simp only [Array.toList_map, List.mem_map] at hu
 obtain ⟨i, _, rfl⟩ := hu
 by_cases hi : i % z.size < z.size
 ·rw [getElem!_pos z (i % z.size) hi]; exact h _ (by simp) k
 ·rw [getElem!_neg z (i % z.size) hi]; exact fun e => by cases e
def qbx (w : World) (B : Nat) (e : TypeId) (size : Nat) (v : Value) (n : Nat) (xs : List Value) : Prop :=
 w.ownsRow B e size v n xs ∧ ∀ g cur, v.ownBlock = some g → w.heap[g]? = some (.cells cur e) → noU cur.toList
theorem qbx.nil (w : World) (B : Nat) (e : TypeId) (size : Nat) : qbx w B e size (.slice none 0 0) 0 [] := ⟨World.ownsRow_nil _ _ _ _, fun g _ h => by cases h⟩
theorem qbx.below {w w' : World} {B : Nat} {e : TypeId} {size : Nat} {v : Value} {n : Nat} {xs : List Value} (h : qbx w B e size v n xs) (hb : Below w.heap.size w w') : qbx w' B e size v n xs := by
 refine ⟨World.ownsRow.kept (row := none) h.1 ⟨hb.os, hb.tape, hb.output, hb.size, fun k hk _ => hb.block k hk⟩ (by cases hv : v.ownBlock <;> simp), fun g cur hg hc => ?_⟩
 have hlt := (World.ownsRow.lt h.1 g hg).2
 rw [hb.block g hlt] at hc
 exact h.2 g cur hg hc
theorem putL_os : ∀ (l : List Value) (w : World) (g off : Nat), (putL w g off l).os = w.os ∧ (putL w g off l).tape = w.tape ∧ (putL w g off l).output = w.output
 | [], _, _, _ => ⟨rfl, rfl, rfl⟩
 | x :: l, w, g, off => by unfold putL; obtain ⟨h1, h2, h3⟩ := putL_os l (w.setCell ⟨g, off, none⟩ x) g (off + 1); exact ⟨h1, h2, h3⟩
theorem run_append_L {P : Program} (w : World) (base : Nat) (t ty e : TypeId) (i : TypeInfo) (z : Value) (size bytes : Nat) (ht : P.underlying t = some (.slice e)) (hi : P.info? e = some i) (hz : i.zero = some z)
  (hsize : i.size = size) (hby : i.bytes = bytes) (hzs : z.cells.size = size) (hsz : 0 < size) (hzu : noU z.cells.toList)
  (v : Value) (n : Nat) (xs : List Value) (hown : qbx w base e size v n xs)
  (a : Addr) (c : Nat) (news : List Value) (hl : news.length = size) (hnews : ∀ j u, news[j]? = some u → w.cell? (a.add j) = some u) (h1 : ∀ u ∈ news, u.oneCell' = true) (hnu : noU news) (hxu : noU xs)
  (h63 : n + 1 ≤ maxLen) (hbytes : (n + 1) * bytes ≤ 140737488355328) (hbase : base ≤ w.heap.size) :
  ∃ v' w', (Builtin.append_ #[t, t] ty #[v, .slice (some a) 1 c]).run P w = .ok v' w' ∧ qbx w' base e size v' (n + 1) (xs ++ news) ∧ w.grownBy w' v.ownBlock ∧
   (∀ g, g < w.heap.size → v.ownBlock ≠ some g → v'.ownBlock ≠ some g) := by
 subst hsize
 subst hby
 have hl' : news.length = 1 * i.size := by omega
 obtain ⟨v', w', hr, h2, h3, _⟩ := run_append_own (P := P) w base t ty e i z i.size i.bytes ht hi hz rfl rfl hzs hsz v n xs hown.1 a 1 c news hl' hnews h1 h63 hbytes hbase
 refine ⟨v', w', hr, ⟨h2, ?_⟩, h3, ?_⟩
 ·intro g cur hg hc
  rcases hown.1.2 with ⟨rfl, rfl⟩ | ⟨g', cap, old, rfl, hbg, hgg, hnc, hcm, hcs, htake⟩
  ·have hr' := run_append_nil (P := P) w t ty e i z ht hi hz a 1 c news hl' hnews (by omega) (by decide) (by omega)
   rw [hr] at hr'
   simp only [Result.ok.injEq] at hr'
   obtain ⟨rfl, rfl⟩ := hr'
   simp only [Value.ownBlock, Option.some.injEq] at hg
   subst hg
   have hn := heap_alloc_new w.drew (.cells (news.toArray ++ Builtin.zeroCells z.cells (grownCap w 1 0 e - 1)) e)
   rw [show w.drew.heap.size = w.heap.size from rfl] at hn
   rw [hn] at hc
   simp only [Option.some.injEq, Obj.cells.injEq] at hc
   rw [← hc.1, Array.toList_append]
   exact noU_app hnu (noU_zeros hzu _)
  ·by_cases hroom : n + 1 ≤ cap
   ·have hfit : n * i.size + news.length ≤ old.size := by rw [hl', hcs, ← Nat.add_mul]; exact Nat.mul_le_mul_right _ hroom
    have hr' := run_append_room (P := P) w t ty e i ht hi g' n cap old hgg a 1 c news hl' hnews h1 hroom hfit
    rw [hr] at hr'
    simp only [Result.ok.injEq] at hr'
    obtain ⟨rfl, rfl⟩ := hr'
    simp only [Value.ownBlock, Option.some.injEq] at hg
    subst hg
    rw [setRow_heap w g' old _ e _ hgg] at hc
    simp only [Option.some.injEq, Obj.cells.injEq] at hc
    have ho := hown.2 g' old rfl hgg
    rw [← hc.1]
    exact noU_app (noU_app (noU_take ho _) hnu) (noU_drop ho _)
   ·have holds : ∀ j u, xs[j]? = some u → w.cell? ((⟨g', 0, none⟩ : Addr).add j) = some u := World.ownsRow.cells hown.1 (g := g') rfl
    have hr' := run_append_grow (P := P) w t ty e i z ht hi hz ⟨g', 0, none⟩ n cap xs hown.1.1 holds a 1 c news hl' hnews (by omega) (by unfold maxLen at h63; omega) (growslice_fits (by omega) hbytes)
    rw [hr] at hr'
    simp only [Result.ok.injEq] at hr'
    obtain ⟨rfl, rfl⟩ := hr'
    simp only [Value.ownBlock, Option.some.injEq] at hg
    subst hg
    have hn := heap_alloc_new w.drew (.cells (xs.toArray ++ news.toArray ++ Builtin.zeroCells z.cells (grownCap w (n + 1) cap e - (n + 1))) e)
    rw [show w.drew.heap.size = w.heap.size from rfl] at hn
    rw [hn] at hc
    simp only [Option.some.injEq, Obj.cells.injEq] at hc
    rw [← hc.1, Array.toList_append, Array.toList_append]
    exact noU_app (noU_app hxu hnu) (noU_zeros hzu _)
 ·intro g hglt hgne hg'
  rcases hown.1.2 with ⟨rfl, rfl⟩ | ⟨g', cap, old, rfl, hbg, hgg, hnc, hcm, hcs, htake⟩
  ·have hr' := run_append_nil (P := P) w t ty e i z ht hi hz a 1 c news hl' hnews (by omega) (by decide) (by omega)
   rw [hr] at hr'
   simp only [Result.ok.injEq] at hr'
   obtain ⟨rfl, rfl⟩ := hr'
   simp only [Value.ownBlock, Option.some.injEq] at hg'
   omega
  ·by_cases hroom : n + 1 ≤ cap
   ·have hfit : n * i.size + news.length ≤ old.size := by rw [hl', hcs, ← Nat.add_mul]; exact Nat.mul_le_mul_right _ hroom
    have hr' := run_append_room (P := P) w t ty e i ht hi g' n cap old hgg a 1 c news hl' hnews h1 hroom hfit
    rw [hr] at hr'
    simp only [Result.ok.injEq] at hr'
    obtain ⟨rfl, rfl⟩ := hr'
    exact hgne hg'
   ·have holds : ∀ j u, xs[j]? = some u → w.cell? ((⟨g', 0, none⟩ : Addr).add j) = some u := World.ownsRow.cells hown.1 (g := g') rfl
    have hr' := run_append_grow (P := P) w t ty e i z ht hi hz ⟨g', 0, none⟩ n cap xs hown.1.1 holds a 1 c news hl' hnews (by omega) (by unfold maxLen at h63; omega) (growslice_fits (by omega) hbytes)
    rw [hr] at hr'
    simp only [Result.ok.injEq] at hr'
    obtain ⟨rfl, rfl⟩ := hr'
    simp only [Value.ownBlock, Option.some.injEq] at hg'
    omega
theorem qam {P : Program} {ops : Array Oper} {rest : List Oper} {a : Act} {w : World} {Q : Exit → Act → World → Prop} {d : Option Tmp} {tt : TypeId} {args : Array Operand} {tys : Array TypeId} {pos : String} {af : Array Edge}
  (h : qad (wpList P ops Q (⟨d, .call { callee := .builtin .append, args := args, argTypes := tys }, tt, pos, af, none⟩ :: rest) a w)) : wpList P ops Q (⟨d, .call { callee := .builtin .append, args := args, argTypes := tys }, tt, pos, af, none⟩ :: rest) a w := h
theorem qar {P : Program} {ops : Array Oper} {rest : List Oper} {a : Act} {w : World} {Q : Exit → Act → World → Prop} {d : Option Tmp} {tt : TypeId} {s x : Operand} {t e : TypeId} {pos : String} {af : Array Edge}
  (base : Nat) {z : Value} {size bytes : Nat} (T : qdj P t e z size bytes) (hzs : z.cells.size = size) (hzu : noU z.cells.toList) (hsz : 0 < size)
  (v : Value) (n : Nat) (xs news : List Value) (g0 : Nat) (T0 : TypeId) (hs : a.eval s = v) (hx : a.eval x = .slice (some ⟨g0, 0, none⟩) 1 1) (hown : qbx w base e size v n xs) (hg0 : w.heap[g0]? = some (.cells news.toArray T0)) (hl : news.length = size)
  (h1 : news.all (fun u => u.oneCell') = true) (hnu : noU news) (hxu : noU xs) (hn : n ≤ 1000000) (hby : bytes ≤ 1000) (hbase : base ≤ w.heap.size)
  (hK : ∀ v' w', qbx w' base e size v' (n + 1) (xs ++ news) → w.grownBy w' v.ownBlock → (∀ g, g < w.heap.size → v.ownBlock ≠ some g → v'.ownBlock ≠ some g) → wpList P ops Q rest (a.put d v') w') :
  qad (wpList P ops Q (⟨d, .call { callee := .builtin .append, args := #[s, x], argTypes := #[t, t] }, tt, pos, af, none⟩ :: rest) a w) := by
 obtain ⟨i0, hi, hz0, hz1, hz2⟩ := T.info
 have hbb : (n + 1) * bytes ≤ 140737488355328 := Nat.le_trans (Nat.mul_le_mul (show n + 1 ≤ 1000001 by omega) hby) (by decide)
 obtain ⟨v', w', hr, k1, k2, k3⟩ := run_append_L (P := P) w base t tt e i0 z size bytes T.under hi hz0 hz1 hz2 hzs hsz hzu v n xs hown ⟨g0, 0, none⟩ 1 news hl
  (fun j u hu => by
   have e2 : (⟨g0, 0, none⟩ : Addr).add j = ⟨g0, j, none⟩ := by unfold Addr.add; split <;> simp_all
   rw [e2, cell_of_row w g0 j news.toArray T0 (0, 0) hg0]; simpa using hu) (fun u hu => List.all_eq_true.1 h1 u hu) hnu hxu (by unfold maxLen; omega) hbb hbase
 refine wpList_plain rfl fun _ hK' => ?_
 unfold Oper.wp execOp
 simp only [resolve, invoke, builtin, Sem.run_bind, Sem.run_pure, Result.andThen_ok, List.map_toArray, List.map_cons, List.map_nil, hs, hx, hr]
 exact hK' _ _ (hK v' w' k1 k2 k3)
section
variable {w w' : World} {v0 v : Value} {B n size : Nat} {e : TypeId} {xs : List Value} {q : Rat} {s t : Bool} {a b c d : List Nat} {S : Rat × Rat}
end
theorem noU0 : noU [] := fun u hu => by cases hu
end Go.Proofs.YteadcgmaailjlaaGreatDoor
namespace Go.Proofs.YteadcgmaailjlaaGreatDoor
theorem cnt_all (vs : List Nat) (hv : ∀ j, gd vs j ≤ 2) (args : List Int) : qcb vs args 0 + qcb vs args 1 + qcb vs args 2 = args.length := by
 unfold qcb
 induction args with
 | nil => rfl
 | cons a xs ih =>
  have h := hv a.toNat
  rcases (by omega : gd vs a.toNat = 0 ∨ gd vs a.toNat = 1 ∨ gd vs a.toNat = 2) with k | k | k <;>
   ·simp only [List.filter_cons, k, List.length_cons]
    simp
    omega
theorem lev_le (a b : Bool) : lev a b ≤ 2 := by unfold lev; split <;> (try split) <;> decide
def ndsOK (vars : Int) (i : Nat) (l : List Nd) : Prop := qbc vars i l = 0
theorem ndErr_args {vars : Int} {i : Nat} {x : Nd} (h : qbe vars i x = 0) : qbq x.kind x.args.length = true := by
 unfold qbe at h
 split at h
 ·cases h
 split at h
 ·cases h
 ·rename_i k; simpa using k
theorem ndErr_K {vars : Int} {i : Nat} {x : Nd} (h : qbe vars i x = 0) (h0 : x.kind = 0) : x.K = 0 ∨ x.K = 1 := by
 unfold qbe at h
 split at h
 ·cases h
 split at h
 ·cases h
 split at h
 ·cases h
 first | rw [if_pos h0] at h | skip
 split at h
 ·cases h
 ·omega
theorem ndVal_le {vars : Int} {i : Nat} {x : Nd} (h : qbe vars i x = 0) (a b c : Nat) : ndVal x a b c ≤ 2 := by
 unfold ndVal
 split
 ·rename_i k; rcases ndErr_K h k with e | e <;> rw [e] <;> decide
 repeat' split
 all_goals exact lev_le _ _
theorem ndsOK_cons {vars : Int} {i : Nat} {x : Nd} {xs : List Nd} (h : ndsOK vars i (x :: xs)) : qbe vars i x = 0 ∧ ndsOK vars (i + 1) xs := by
 unfold ndsOK at h ⊢
 by_cases k : qbe vars i x = 0
 ·rw [ndsErr_cons k] at h; exact ⟨k, h⟩
 ·rw [ndsErr_bad k] at h; exact absurd h k
theorem gd_snoc (vs : List Nat) (x j : Nat) : gd (vs ++ [x]) j = if j < vs.length then gd vs j else if j = vs.length then x else 0 := by
 rw [gd_append]
 split
 ·rfl
 split
 ·rename_i e; rw [e, Nat.sub_self]; rfl
 ·rw [gd_over]; simp; omega
theorem ev3_le (yes no i : Nat) : ev3 yes no i ≤ 2 := by unfold ev3; split <;> (try split) <;> decide
theorem valsE_gd (vars yes no j : Nat) : gd (valsE vars yes no) j = if j < vars then ev3 yes no j else 0 := by
 unfold valsE gd
 rw [List.getD_eq_getElem?_getD, List.getElem?_map]
 split
 ·rename_i h; rw [List.getElem?_range h]; rfl
 ·rename_i h; rw [List.getElem?_eq_none (by simp; omega)]; rfl
theorem qdu (vars yes no : Nat) : (valsE vars yes no).length = vars := by simp [valsE]
theorem cnt_none {vs : List Nat} {args : List Int} (h : ∀ a ∈ args, gd vs a.toNat ≠ 2) : qcb vs args 2 = 0 := by
 unfold qcb
 rw [List.length_eq_zero_iff, List.filter_eq_nil_iff]
 intro a ha; simpa using h a ha
theorem nd_known {x : Nd} {c0 c1 : Nat} (hn : qbq x.kind x.args.length = true) (hK : x.kind = 0 → x.K = 0 ∨ x.K = 1) (hc : c0 + c1 = x.args.length) : ndVal x c0 c1 0 ≠ 2 := by
 obtain ⟨n, hx⟩ : ∃ n, n = x.args.length := ⟨_, rfl⟩
 rw [← hx] at hn hc
 unfold ndVal lev
 unfold qbq at hn
 rw [← hx]
 by_cases k0 : x.kind = 0
 ·rw [if_pos k0]; rcases hK k0 with e | e <;> rw [e] <;> decide
 by_cases k1 : x.kind = 1
 ·simp only [k1] at hn ⊢
  simp at hn ⊢
  rcases (by omega : c0 = 1 ∨ c1 = 1) with e | e
  ·rw [if_pos e]; decide
  ·rw [if_neg (by omega), if_pos e]; decide
 by_cases k2 : x.kind = 2
 ·simp only [k2]
  simp
  rcases (by omega : c1 = n ∨ 0 < c0) with e | e
  ·rw [if_pos e]; decide
  ·rw [if_neg (by omega), if_pos e]; decide
 by_cases k3 : x.kind = 3
 ·simp only [k3]
  simp
  rcases (by omega : 0 < c1 ∨ c0 = n) with e | e
  ·rw [if_pos e]; decide
  ·rw [if_neg (by omega), if_pos e]; decide
 by_cases k4 : x.kind = 4
 ·simp only [k4]
  simp
  rcases (by omega : x.K ≤ c1 ∨ (c1 : Int) < x.K) with e | e
  ·rw [if_pos e]; decide
  ·rw [if_neg (by omega), if_pos e]; decide
 ·simp only [k0, k1, k2, k3, k4, if_false]
  simp
  rcases (by omega : c1 % 2 = 1 ∨ c1 % 2 = 0) with e | e
  ·rw [if_pos e]; decide
  ·rw [if_neg (by omega), if_pos e]; decide
theorem nd_known' {vars : Int} {i : Nat} {x : Nd} {vs : List Nat} (h : qbe vars i x = 0) (hv : ∀ j, gd vs j ≤ 2) (hk : ∀ a ∈ x.args, gd vs a.toNat ≠ 2) :
  ndVal x (qcb vs x.args 0) (qcb vs x.args 1) (qcb vs x.args 2) ≠ 2 := by
 have h2 := cnt_none hk
 have ha := cnt_all vs hv x.args
 rw [h2] at ha ⊢
 exact nd_known (ndErr_args h) (ndErr_K h) (by omega)
theorem valsN_known {vars : Int} : ∀ (l : List Nd) (i : Nat) (vs : List Nat), ndsOK vars i l → (∀ j, gd vs j ≤ 2) → (∀ j, gd vs j ≠ 2) → ∀ j, gd (qaj vs l) j ≠ 2
 | [], _, _, _, _, h => h
 | x :: xs, i, vs, ok, h1, h2 => by
  obtain ⟨hx, hxs⟩ := ndsOK_cons ok
  simp only [qaj]
  refine valsN_known xs (i + 1) _ hxs ?_ ?_
  ·intro j; rw [gd_snoc]; split
   ·exact h1 j
   split
   ·exact ndVal_le hx _ _ _
   ·decide
  ·intro j; rw [gd_snoc]; split
   ·exact h2 j
   split
   ·exact nd_known' hx h1 (fun a _ => h2 _)
   ·decide
theorem ndErr_arg {vars : Int} {i : Nat} {x : Nd} (h : qbe vars i x = 0) : ∀ a ∈ x.args, 0 ≤ a ∧ a < vars + i := by
 unfold qbe at h
 split at h
 ·cases h
 split at h
 ·cases h
 split at h
 ·cases h
 rename_i _ _ k
 intro a ha
 have : qdo vars i a = false := by
  cases e : qdo vars i a with
  | false => rfl
  | true => exact absurd (List.any_eq_true.2 ⟨a, ha, e⟩) k
 unfold qdo at this
 simp at this
 omega
theorem cnt_congr {vs ws : List Nat} {args : List Int} (h : ∀ a ∈ args, gd vs a.toNat = gd ws a.toNat) (k : Nat) : qcb vs args k = qcb ws args k := by
 unfold qcb
 congr 1
 apply List.filter_congr
 intro a ha; rw [h a ha]
theorem valsN_at {vars : Int} (hv : 0 ≤ vars) : ∀ (l : List Nd) (i : Nat) (vs : List Nat), ndsOK vars i l → vs.length = vars.toNat + i → ∀ j (x : Nd), l[j]? = some x →
  gd (qaj vs l) (vs.length + j) = ndVal x (qcb (qaj vs l) x.args 0) (qcb (qaj vs l) x.args 1) (qcb (qaj vs l) x.args 2) ∧ qbe vars (i + j) x = 0
 | [], _, _, _, _, j, x, h => by simp at h
 | y :: ys, i, vs, ok, hl, j, x, h => by
  obtain ⟨hx, hxs⟩ := ndsOK_cons ok
  cases j with
  | zero =>
   have e : y = x := by simpa using h
   subst e
   simp only [qaj, Nat.add_zero]
   refine ⟨?_, hx⟩
   rw [valsN_pre _ _ _ (by simp), gd_snoc, if_neg (by omega), if_pos rfl]
   have hc : ∀ k, qcb vs y.args k = qcb (qaj (vs ++ [ndVal y (qcb vs y.args 0) (qcb vs y.args 1) (qcb vs y.args 2)]) ys) y.args k := fun k => by
    apply cnt_congr
    intro a ha
    have := ndErr_arg hx a ha
    rw [valsN_pre _ _ _ (by simp; omega), gd_snoc, if_pos (by omega)]
   rw [← hc, ← hc, ← hc]
  | succ j =>
   simp only [List.getElem?_cons_succ] at h
   have ih := valsN_at hv ys (i + 1) (vs ++ [ndVal y (qcb vs y.args 0) (qcb vs y.args 1) (qcb vs y.args 2)]) hxs (by simp; omega) j x h
   simp only [qaj]
   rw [show vs.length + (j + 1) = (vs ++ [ndVal y (qcb vs y.args 0) (qcb vs y.args 1) (qcb vs y.args 2)]).length + j from by simp; omega, show i + (j + 1) = i + 1 + j from by omega]
   exact ih
end Go.Proofs.YteadcgmaailjlaaGreatDoor
namespace Go.Proofs.YteadcgmaailjlaaGreatDoor
open Go.RowKit Go.ChangeShapes Go.WideShapes Go.Deep
theorem i64_wf {n : Int} (h : (Lit.int .i64 n).wf = true) : I64 n := by
 simp only [Lit.wf, Bool.and_eq_true, decide_eq_true_eq] at h
 have h1 : IntKind.i64.min = -9223372036854775808 := by decide
 have h2 : IntKind.i64.max = 9223372036854775807 := by decide
 rw [h1, h2] at h
 exact h
theorem addr_add (b off j : Nat) : (⟨b, off, none⟩ : Addr).add j = ⟨b, off + j, none⟩ := by unfold Addr.add; split <;> simp_all
theorem cell_none {W : World} {b off j : Nat} {s : Option Nat} {x : Value} (h : W.cell? ((⟨b, off, s⟩ : Addr).add j) = some x) (hj : j = 0) : b < W.heap.size ∧ s = none := by
 subst hj
 have e0 : (⟨b, off, s⟩ : Addr).add 0 = ⟨b, off, s⟩ := by simp [Addr.add]
 rw [e0] at h
 refine ⟨World.block_lt_of_cell? W _ h, ?_⟩
 cases s with
 | none => rfl
 | some x =>
  unfold World.cell? at h
  split at h <;> simp at h
instance : Inhabited (Nd × Value) := ⟨(⟨0, 0, []⟩, .nilIface)⟩
section
variable {H : Type} {enc : TypeId × Value → H} {P : Program} {W : World}
theorem open_ints_cell {t e : TypeId} {v : Value} {x : DataW H × List MemPlace} {fuel : Nat} (ht : P.underlying t = some (.slice e)) (he : P.underlying e = some (.int .i64)) (hc : P.cellsOf e = 1)
  (hf : DataW.trod enc P W 0 (fun _ => true) true fuel t [v] = some x) : ∃ l : List Int, qbi W v l := by
 rcases open_ints ht he hc hf with ⟨hcs, hx⟩ | ⟨a, len', cap', zs, hcs, _, hl, hm, hz, hx, hcell, hwz⟩
 ·have hcs' : v = .slice none 0 0 := by simpa using hcs
  rw [hcs']; exact ⟨[], none, 0, rfl, Nat.le_refl _, by omega, fun _ => rfl, (fun b off s h => by cases h), (fun x hx => by cases hx)⟩
 ·have hcs' : v = .slice (some a) len' cap' := by simpa using hcs
  rw [hcs']
  have hz' : len' ≤ zs.length := by rw [hz]; simp; exact hl
  have hlen : (zs.take len').length = len' := by rw [List.length_take]; omega
  refine ⟨zs.take len', some a, cap', by rw [hlen], by omega, by unfold maxLen at hm; omega, by simp, ?_, fun x hx => i64_wf (hwz x (List.mem_of_mem_take hx))⟩
  intro b off s hs
  obtain rfl : a = ⟨b, off, s⟩ := Option.some.inj hs
  have h0 : 0 < len' → b < W.heap.size ∧ s = none := fun h0 => cell_none (hcell 0 (by omega)) rfl
  refine ⟨fun hh => h0 (by omega), fun j x hj => ?_⟩
  have hjl : j < len' := by
   have := getElem?_pos hj
   rcases Nat.lt_or_ge j (zs.take len').length with q | q
   ·omega
   ·rw [List.getElem?_eq_none q] at hj; cases hj
  obtain ⟨_, rfl⟩ := h0 (by omega)
  have := hcell j (by omega)
  rw [addr_add] at this
  rw [this]
  congr 2
  rw [List.getElem?_take, if_pos hjl] at hj
  rw [List.getD_eq_getElem?_getD, hj]; rfl
structure NodeTys (P : Program) (ti tis tn : TypeId) : Prop where
 hi : P.underlying ti = some (.int .i64)
 ci : P.cellsOf ti = 1
 his : P.underlying tis = some (.slice ti)
 cis : P.cellsOf tis = 1
 cn : P.cellsOf tn = 3
 hn : ∃ f0 f1 f2 : Field, P.underlying tn = some (.struct #[f0, f1, f2]) ∧ f0.type = ti ∧ f1.type = ti ∧ f2.type = tis ∧ f0.offset = 0 ∧ f1.offset = 1 ∧ f2.offset = 2
theorem open_node {ti tis tn : TypeId} (T : NodeTys P ti tis tn) {cs : List Value} {x : DataW H × List MemPlace} {fuel : Nat} (h : DataW.trod enc P W 0 (fun _ => true) true fuel tn cs = some x) :
  ∃ (n : Nd) (av : Value), cs = [.int .i64 n.kind, .int .i64 n.K, av] ∧ qbi W av n.args ∧ I64 n.kind ∧ I64 n.K := by
 obtain ⟨f0, f1, f2, hu, t0, t1, t2, o0, o1, o2⟩ := T.hn
 obtain ⟨y0, y1, y2, m, _, hl, h0, h1, h2⟩ := trod_struct3 hu h
 rw [T.cn] at hl
 rw [t0, o0, T.ci] at h0; rw [t1, o1, T.ci] at h1; rw [t2, o2, T.cis] at h2
 match cs, hl with
 | [c0, c1, c2], _ =>
  simp only [List.drop, List.take] at h0 h1 h2
  obtain ⟨k0, e0, _, w0⟩ := DataW.trod_int T.hi h0
  obtain ⟨k1, e1, _, w1⟩ := DataW.trod_int T.hi h1
  obtain ⟨l, hL⟩ := open_ints_cell T.his T.hi T.ci h2
  simp only [List.cons.injEq, and_true] at e0 e1
  exact ⟨⟨k0, k1, l⟩, c2, by rw [e0, e1], hL, i64_wf w0, i64_wf w1⟩
theorem open_nodes {ti tis tn tns : TypeId} (T : NodeTys P ti tis tn) (hns : P.underlying tns = some (.slice tn)) {v : Value} {x : DataW H × List MemPlace} {fuel : Nat}
  (h : DataW.trod enc P W 0 (fun _ => true) true fuel tns [v] = some x) : ∃ l : List Nd, NdsV W v l := by
 rcases open_slice hns h with ⟨hcs, _⟩ | ⟨a, len, cap, m, n, D, Pl, hcs, _, hl, hm, hmm, _, hel⟩
 ·have hcs' : v = .slice none 0 0 := by simpa using hcs
  rw [hcs']; exact ⟨[], none, 0, rfl, Nat.le_refl _, by omega, fun _ => rfl, fun b off s h => by cases h⟩
 ·have hcs' : v = .slice (some a) len cap := by simpa using hcs
  rw [hcs']
  simp only [if_true] at hmm
  subst hmm
  rw [T.cn] at hel
  obtain ⟨F, hF⟩ := choose_lt (α := Nd × Value) (n := len) (p := fun i q => W.cell? (a.add (i * 3)) = some (.int .i64 q.1.kind) ∧ W.cell? ((a.add (i * 3)).add 1) = some (.int .i64 q.1.K) ∧ W.cell? ((a.add (i * 3)).add 2) = some q.2 ∧ qbi W q.2 q.1.args ∧ I64 q.1.kind ∧ I64 q.1.K) (fun i hi => by
   obtain ⟨cs', h1, h2⟩ := hel i (by omega)
   obtain ⟨nd, av, rfl, k1, k2, k3⟩ := open_node T h2
   obtain ⟨_, _, hc⟩ := World.cells?_some h1
   refine ⟨(nd, av), ?_, hc 1 (by omega), hc 2 (by omega), k1, k2, k3⟩
   have := hc 0 (by omega)
   rw [show (a.add (i * 3)).add 0 = a.add (i * 3) from by simp [Addr.add]] at this
   exact this)
  refine ⟨(List.range len).map fun i => (F i).1, some a, m, by simp, by simp; omega, by unfold maxLen at hm; omega, by simp, ?_⟩
  intro b off s hs
  obtain rfl : a = ⟨b, off, s⟩ := Option.some.inj hs
  have h0 : 0 < len → b < W.heap.size ∧ s = none := fun h0 => by
   have := (hF 0 h0).1
   rw [Nat.zero_mul] at this
   exact cell_none this rfl
  refine ⟨fun hh => h0 (by simpa using hh), fun j z hj => ?_⟩
  have hjl : j < len := by
   rcases Nat.lt_or_ge j len with q | q
   ·exact q
   ·rw [List.getElem?_eq_none (by simpa using q)] at hj; cases hj
  rw [List.getElem?_map, List.getElem?_range hjl] at hj
  have hz : (F j).1 = z := by simpa using hj
  subst hz
  obtain ⟨_, rfl⟩ := h0 (by omega)
  obtain ⟨k1, k2, k3, k4, k5, k6⟩ := hF j hjl
  rw [addr_add] at k1 k2 k3
  rw [addr_add] at k2 k3
  exact ⟨k1, k2, ⟨_, k3, k4⟩, k5, k6⟩
end
end Go.Proofs.YteadcgmaailjlaaGreatDoor
namespace Go.Proofs.YteadcgmaailjlaaGreatDoor
open Go.RowKit Go.ChangeShapes Go.WideShapes
def qbm (l : List Int) : List Value := l.map fun x => Value.int .i64 x
theorem ivals_length (l : List Int) : (qbm l).length = l.length := by simp [qbm]
theorem ivals_at {l : List Int} {j : Nat} {x : Int} (h : l[j]? = some x) : (qbm l)[j]? = some (.int .i64 x) := by simp [qbm, h]
theorem qbf (a b : List Int) : qbm (a ++ b) = qbm a ++ qbm b := by simp [qbm]
theorem qbt {w : World} {B : Nat} {e : TypeId} {size n : Nat} {v : Value} {xs : List Value} (h : w.ownsRow B e size v n xs) {ao : Option Addr} {m c : Nat} (hv : v = .slice ao m c) (hn : 0 < n) :
  ∃ g, ao = some ⟨g, 0, none⟩ ∧ B ≤ g ∧ g < w.heap.size ∧ m = n ∧ n ≤ c ∧ ∀ j u, xs[j]? = some u → w.cell? ⟨g, j, none⟩ = some u := by
 have hc := fun g hg => World.ownsRow.cells (g := g) h hg
 have hlt := World.ownsRow.lt h
 rcases h.2 with ⟨h1, h2⟩ | ⟨g, cap, cur, h1, hb, hh, hcap, hm, hs, ht⟩
 ·omega
 ·rw [h1] at hv
  cases hv
  subst h1
  refine ⟨g, rfl, hb, (hlt g rfl).2, rfl, hcap, fun j u hj => ?_⟩
  have := hc g rfl j u hj
  rw [addr_add] at this
  simpa using this
theorem qaz {w : World} {B : Nat} {e : TypeId} {size n : Nat} {v : Value} {xs : List Value} (h : w.ownsRow B e size v n xs) : ∃ ao c, v = .slice ao n c ∧ n ≤ c ∧ c ≤ 9223372036854775807 ∧ (ao = none → c = 0) := by
 rcases h.2 with ⟨h1, h2⟩ | ⟨g, cap, cur, h1, hb, hh, hcap, hm, hs, ht⟩
 ·subst h2; exact ⟨none, 0, h1, by omega, by omega, fun _ => rfl⟩
 ·exact ⟨some ⟨g, 0, none⟩, cap, h1, hcap, by unfold maxLen at hm; omega, fun h => by cases h⟩
theorem own_low {w w' w0 : World} {B n size : Nat} {e : TypeId} {v0 : Value} {xs : List Value} (ho : w.ownsRow B e size v0 n xs) (hg : w.grownBy w' v0.ownBlock) (hb : Below B w0 w) (hB : B ≤ w.heap.size) : Below B w0 w' := by
 refine hb.grown hg hB ?_
 intro k hk
 exact (World.ownsRow.lt ho k hk).1
theorem qci {w w' : World} {B : Nat} {e : TypeId} {size n : Nat} {v : Value} {xs : List Value} (h : w.ownsRow B e size v n xs) (hb : Below w.heap.size w w') : w'.ownsRow B e size v n xs :=
 World.ownsRow.kept (row := none) h ⟨hb.os, hb.tape, hb.output, hb.size, fun k hk _ => hb.block k hk⟩ (by cases hv : v.ownBlock <;> simp)
theorem own_base {w : World} {B B' : Nat} {e : TypeId} {size n : Nat} {v : Value} {xs : List Value} (h : w.ownsRow B e size v n xs) (hB : B' ≤ B) : w.ownsRow B' e size v n xs := by
 obtain ⟨h1, h2⟩ := h
 refine ⟨h1, ?_⟩
 rcases h2 with h2 | ⟨g, cap, cur, hv, hb, r⟩
 ·exact .inl h2
 ·exact .inr ⟨g, cap, cur, hv, Nat.le_trans hB hb, r⟩
theorem qbl {w : World} {B : Nat} {e : TypeId} {v : Value} {l : List Int} (h : w.ownsRow B e 1 v l.length (qbm l)) (hl : ∀ x ∈ l, I64 x) : qbi w v l := by
 obtain ⟨ao, c, rfl, h1, h2, h3⟩ := qaz h
 refine ⟨ao, c, rfl, h1, h2, h3, ?_, hl⟩
 intro b off s hs
 subst hs
 by_cases h0 : 0 < l.length
 ·obtain ⟨g, e1, e2, e3, e4, e5, e6⟩ := qbt h rfl h0
  cases e1
  exact ⟨fun _ => ⟨e3, rfl⟩, fun j x hj => by rw [Nat.zero_add]; exact e6 j _ (ivals_at hj)⟩
 ·have : l = [] := List.eq_nil_of_length_eq_zero (by omega)
  subst this
  exact ⟨fun h => absurd h (Nat.lt_irrefl _), fun j x hj => by simp at hj⟩
section
variable {P : Program} {w : World} {ops : Array Oper} {rest : List Oper} {a : Act} {Q : Exit → Act → World → Prop}
theorem qcu {d : Option Tmp} {tt : TypeId} {args : Array Operand} {tys : Array TypeId} {pos : String} {af : Array Edge}
  (h : qad (wpList P ops Q (⟨d, .call { callee := .builtin .append, args := args, argTypes := tys }, tt, pos, af, none⟩ :: rest) a w)) : wpList P ops Q (⟨d, .call { callee := .builtin .append, args := args, argTypes := tys }, tt, pos, af, none⟩ :: rest) a w := h
theorem wpList_app1 {d : Option Tmp} {tt : TypeId} {s x : Operand} {t e : TypeId} {pos : String} {af : Array Edge}
  (base : Nat) {z : Value} {size bytes : Nat} (T : qdj P t e z size bytes) (hzs : z.cells.size = size) (hsz : 0 < size)
  (v : Value) (n : Nat) (xs news : List Value) (g0 : Nat) (T0 : TypeId) (hs : a.eval s = v) (hx : a.eval x = .slice (some ⟨g0, 0, none⟩) 1 1) (hown : w.ownsRow base e size v n xs) (hg0 : w.heap[g0]? = some (.cells news.toArray T0)) (hl : news.length = size)
  (h1 : news.all (fun u => u.oneCell') = true) (hn : n ≤ 1000000) (hby : bytes ≤ 1000) (hbase : base ≤ w.heap.size)
  (hK : ∀ v' w', w'.ownsRow base e size v' (n + 1) (xs ++ news) → w.grownBy w' v.ownBlock → wpList P ops Q rest (a.put d v') w') :
  qad (wpList P ops Q (⟨d, .call { callee := .builtin .append, args := #[s, x], argTypes := #[t, t] }, tt, pos, af, none⟩ :: rest) a w) := by
 obtain ⟨i0, hi, hz0, hz1, hz2⟩ := T.info
 have hbb : (n + 1) * bytes ≤ 140737488355328 := Nat.le_trans (Nat.mul_le_mul (show n + 1 ≤ 1000001 by omega) hby) (by decide)
 refine wpList_append_own w rfl s x t rfl base e i0 z size bytes T.under hi hz0 hz1 hz2 hzs hsz v n xs hs hown ⟨g0, 0, none⟩ 1 1 news hx (by omega) (fun j u hu => ?_) (fun u hu => List.all_eq_true.1 h1 u hu) (by unfold maxLen; omega) hbb hbase (fun v' w' k1 k2 _ => hK v' w' k1 k2)
 rw [addr_add, Nat.zero_add, cell_of_row w g0 j news.toArray T0 (0, 0) hg0]
 simpa using hu
end
structure Stp (w w' : World) (r : Option Nat) : Prop where
 gr : w.grownBy w' r
 word : ∀ b i n, w.cell? ⟨b, i, none⟩ = some (.int .u32 n) → w'.cell? ⟨b, i, none⟩ = some (.int .u32 n)
theorem qbx.noU {w : World} {B : Nat} {e : TypeId} {size n : Nat} {v : Value} {xs : List Value} (h : qbx w B e size v n xs) : Go.Proofs.YteadcgmaailjlaaGreatDoor.noU xs := by
 rcases h.1.2 with ⟨rfl, rfl⟩ | ⟨g, cap, cur, rfl, hb, hg, _, _, _, ht⟩
 ·have : xs = [] := List.eq_nil_of_length_eq_zero (by have := h.1.1; omega)
  rw [this]; exact noU0
 ·rw [← ht]; exact noU_take (h.2 g cur rfl hg) _
theorem stp_own {w w' : World} {B : Nat} {e : TypeId} {size n : Nat} {v : Value} {xs : List Value} (ho : qbx w B e size v n xs) (hg : w.grownBy w' v.ownBlock) : Stp w w' v.ownBlock := by
 refine ⟨hg, fun b i k h => ?_⟩
 by_cases hb : v.ownBlock = some b
 ·exfalso
  rcases ho.1.2 with ⟨rfl, _⟩ | ⟨g, cap, cur, rfl, _, hgg, _⟩
  ·cases hb
  ·simp only [Value.ownBlock, Option.some.injEq] at hb
   subst hb
   have hn := noW_noU (ho.2 g cur rfl hgg)
   rw [cell_of_row w g i cur e (0, 0) hgg] at h
   exact hn _ _ h
 ·have hlt : b < w.heap.size := World.block_lt_of_cell? w _ h
  rw [← h]
  unfold World.cell?
  rw [hg.block b hlt (fun e => hb e.symm)]
/-! writing -/
def spl (xs : List Value) (off : Nat) (l : List Value) : List Value := xs.take off ++ l ++ xs.drop (off + l.length)
theorem spl_at {xs l : List Value} {off : Nat} (h : off + l.length ≤ xs.length) (i : Nat) : (spl xs off l)[i]? = if i < off then xs[i]? else if i < off + l.length then l[i - off]? else xs[i]? := by
 unfold spl
 have h1 : (xs.take off).length = off := by rw [List.length_take]; omega
 by_cases a : i < off
 ·rw [if_pos a, List.append_assoc, List.getElem?_append_left (by omega), List.getElem?_take, if_pos a]
 ·rw [if_neg a]
  by_cases b : i < off + l.length
  ·rw [if_pos b, List.getElem?_append_left (by rw [List.length_append]; omega), List.getElem?_append_right (by omega), h1]
  ·rw [if_neg b, List.getElem?_append_right (by rw [List.length_append]; omega), List.length_append, h1, List.getElem?_drop]
   congr 1; omega
theorem spl_length {xs l : List Value} {off : Nat} (h : off + l.length ≤ xs.length) : (spl xs off l).length = xs.length := by
 unfold spl
 rw [List.length_append, List.length_append, List.length_take, List.length_drop]; omega
theorem putL_heap : ∀ (l : List Value) (w : World) (g off : Nat) (cs : Array Value) (T : TypeId), w.heap[g]? = some (.cells cs T) → off + l.length ≤ cs.size → (putL w g off l).heap[g]? = some (.cells (spl cs.toList off l).toArray T)
 | [], w, g, off, cs, T, h, _ => by
  unfold putL spl
  rw [List.append_nil, List.length_nil, Nat.add_zero, List.take_append_drop, Array.toArray_toList]; exact h
 | x :: l, w, g, off, cs, T, h, hle => by
  rw [List.length_cons] at hle
  unfold putL
  rw [putL_heap l _ g (off + 1) (cs.setIfInBounds off x) T (heap_setCell_same w g off cs T x h) (by simp; omega)]
  congr 2
  refine congrArg List.toArray (List.ext_getElem? fun i => ?_)
  rw [spl_at (by simp; omega), spl_at (by simp; omega)]
  simp only [Array.toList_setIfInBounds, List.getElem?_set, List.length_cons, Array.length_toList]
  by_cases a : i < off
  ·rw [if_pos (by omega), if_pos a, if_neg (by omega)]
  ·rw [if_neg a]
   by_cases b : i = off
   ·subst b
    rw [if_pos (by omega), if_pos rfl, if_pos (by omega), if_pos (by omega), Nat.sub_self]; rfl
   ·rw [if_neg (by omega)]
    by_cases d : i < off + 1 + l.length
    ·rw [if_pos d, if_pos (by omega), show i - off = (i - (off + 1)) + 1 by omega, List.getElem?_cons_succ]
    ·rw [if_neg d, if_neg (fun e => b e.symm), if_neg (by omega)]
theorem noU_spl {xs l : List Value} {off : Nat} (h : noU xs) (k : noU l) : noU (spl xs off l) := noU_app (noU_app (noU_take h _) k) (noU_drop h _)
theorem qbx.write {w w' : World} {B : Nat} {e : TypeId} {size n cap g off : Nat} {xs l : List Value} (h : qbx w B e size (.slice (some ⟨g, 0, none⟩) n cap) n xs) (hw : w' = putL w g off l) (hle : off + l.length ≤ n * size) (hl : Go.Proofs.YteadcgmaailjlaaGreatDoor.noU l) :
  qbx w' B e size (.slice (some ⟨g, 0, none⟩) n cap) n (spl xs off l) ∧ Stp w w' (some g) := by
 have hlen := h.1.1
 obtain ⟨h1, h2⟩ := h.1
 have hgr : w.grownBy w' (some g) := by
  refine ⟨by rw [hw]; exact (putL_os _ _ _ _).1, by rw [hw]; exact (putL_os _ _ _ _).2.1, by rw [hw]; exact (putL_os _ _ _ _).2.2, by rw [hw, putL_size]; exact Nat.le_refl _, fun k _ hk => by rw [hw, putL_ne (fun e => hk (by rw [e]))]⟩
 have hst : Stp w w' (some g) := stp_own h hgr
 refine ⟨?_, hst⟩
 rcases h2 with ⟨h0, _⟩ | ⟨g', cap', cur, hv, hb, hg, hnc, hcm, hcs, ht⟩
 ·cases h0
 ·simp only [Value.slice.injEq, Option.some.injEq, Addr.mk.injEq, and_true, true_and] at hv
  obtain ⟨rfl, rfl⟩ := hv
  have hnn : n * size ≤ cap * size := Nat.mul_le_mul hnc (Nat.le_refl _)
  have hcl : cur.toList.length = cur.size := Array.length_toList
  have hfit : off + l.length ≤ cur.toList.length := by omega
  have hfit2 : off + l.length ≤ (cur.toList.take (n * size)).length := by rw [List.length_take]; omega
  have hg' : w'.heap[g]? = some (.cells (spl cur.toList off l).toArray e) := by rw [hw]; exact putL_heap l w g off cur e hg (by omega)
  refine ⟨⟨by rw [spl_length (by omega)]; exact h1, .inr ⟨g, cap, _, rfl, hb, hg', hnc, hcm, by rw [List.size_toArray, spl_length hfit, hcl]; exact hcs, ?_⟩⟩, fun g' cur' hv hc => ?_⟩
  ·rw [← ht]
   apply List.ext_getElem?
   intro i
   rw [List.getElem?_take, spl_at hfit, spl_at hfit2, List.getElem?_take]
   by_cases a : i < n * size
   ·rw [if_pos a, if_pos a]
   ·rw [if_neg a, if_neg a, if_neg (by omega), if_neg (by omega)]
  ·simp only [Value.ownBlock, Option.some.injEq] at hv
   subst hv
   rw [hg'] at hc
   simp only [Option.some.injEq, Obj.cells.injEq] at hc
   rw [← hc.1]
   exact noU_spl (h.2 g cur rfl hg) hl
/-! lists of fractions -/
/-! matrices -/
section
variable {w w' : World} {B m : Nat} {v0 : Value} {V : Nat → Value} {n : Nat → Nat} {M : Nat → Nat → Rat}
end
/-! stores of one cell -/
section
variable {P : Program} {w : World} {ops : Array Oper} {rest : List Oper} {a : Act} {Q : Exit → Act → World → Prop}
theorem run_store1 (ty : TypeId) (g j : Nat) (v : Value) {cs : Array Value} {T : TypeId} (hg : w.heap[g]? = some (.cells cs T)) (hj : j < cs.size) (hi : (P.info? ty).map (·.size) = some 1) (h1 : v.oneCell' = true) (hc : v.cells = #[v]) :
  (storeVar ty ⟨g, j, none⟩ v).run P w = .ok () (putL w g j [v]) := by
 have h := run_storeVar_mid (P := P) w g j ty #[v] (there_row hg (by simp; omega)) (by simpa using hi) (by simp [h1])
 have e : storeVar ty ⟨g, j, none⟩ (.agg #[v]) = storeVar ty ⟨g, j, none⟩ v := by unfold storeVar; rw [hc]; rfl
 rw [← e, h, putL_eq]
theorem qct {ty tt : TypeId} {x y : Operand} {pos : String} {af : Array Edge} (g j : Nat) (v : Value) {cs : Array Value} {T : TypeId} (hg : w.heap[g]? = some (.cells cs T)) (hx : a.eval x = .pointer (some ⟨g, j, none⟩)) (hy : a.eval y = v)
  (hj : j < cs.size) (hi : (P.info? ty).map (·.size) = some 1) (h1 : v.oneCell' = true) (hc : v.cells = #[v]) (hK : ∀ w', w' = putL w g j [v] → wpList P ops Q rest a w') :
  qad (wpList P ops Q (⟨none, .store ty x y, tt, pos, af, none⟩ :: rest) a w) := by
 refine wpList_plain rfl fun _ hK' => ?_
 unfold Oper.wp execOp
 simp only [hx, hy, Instr.storeAt, Instr.sureAddr, Sem.run_bind, Sem.run_pure, Result.andThen_ok, run_store1 ty g j v hg hj hi h1 hc]
 exact hK' _ _ (hK _ rfl)
theorem qdr {ty tt : TypeId} {x y : Operand} {pos : String} {af : Array Edge} (g j : Nat) {o : Option Addr} {k c : Nat} {cs : Array Value} {T : TypeId} (hg : w.heap[g]? = some (.cells cs T)) (hx : a.eval x = .pointer (some ⟨g, j, none⟩)) (hy : a.eval y = .slice o k c)
  (hj : j < cs.size) (hi : (P.info? ty).map (·.size) = some 1) (hK : ∀ w', w' = putL w g j [.slice o k c] → wpList P ops Q rest a w') :
  qad (wpList P ops Q (⟨none, .store ty x y, tt, pos, af, none⟩ :: rest) a w) := qct g j _ hg hx hy hj hi rfl rfl hK
theorem qds {ty tt : TypeId} {x y : Operand} {pos : String} {af : Array Edge} (g j : Nat) {k : Int} {cs : Array Value} {T : TypeId} (hg : w.heap[g]? = some (.cells cs T)) (hx : a.eval x = .pointer (some ⟨g, j, none⟩)) (hy : a.eval y = .int .i64 k)
  (hj : j < cs.size) (hi : (P.info? ty).map (·.size) = some 1) (hK : ∀ w', w' = putL w g j [.int .i64 k] → wpList P ops Q rest a w') :
  qad (wpList P ops Q (⟨none, .store ty x y, tt, pos, af, none⟩ :: rest) a w) := qct g j _ hg hx hy hj hi rfl rfl hK
theorem wpList_stB {ty tt : TypeId} {x y : Operand} {pos : String} {af : Array Edge} (g j : Nat) {b : Bool} {cs : Array Value} {T : TypeId} (hg : w.heap[g]? = some (.cells cs T)) (hx : a.eval x = .pointer (some ⟨g, j, none⟩)) (hy : a.eval y = .bool b)
  (hj : j < cs.size) (hi : (P.info? ty).map (·.size) = some 1) (hK : ∀ w', w' = putL w g j [.bool b] → wpList P ops Q rest a w') :
  qad (wpList P ops Q (⟨none, .store ty x y, tt, pos, af, none⟩ :: rest) a w) := qct g j _ hg hx hy hj hi rfl rfl hK
end
end Go.Proofs.YteadcgmaailjlaaGreatDoor
namespace Go.Proofs.YteadcgmaailjlaaGreatDoor
def ndV (vs : List Nat) (x : Nd) : Nat := ndVal x (qcb vs x.args 0) (qcb vs x.args 1) (qcb vs x.args 2)
theorem valsN_app : ∀ (a b : List Nd) (vs : List Nat), qaj vs (a ++ b) = qaj (qaj vs a) b
 | [], _, _ => rfl
 | x :: a, b, vs => by
  simp only [List.cons_append, qaj]
  exact valsN_app a b _
theorem valsN_snocX (l : List Nd) (x : Nd) (vs : List Nat) : qaj vs (l ++ [x]) = qaj vs l ++ [ndV (qaj vs l) x] := by
 rw [valsN_app]; rfl
theorem ndsErr_app {vars : Int} : ∀ (a b : List Nd) (i : Nat), qbc vars i a = 0 → qbc vars i (a ++ b) = qbc vars (i + a.length) b
 | [], b, i, _ => rfl
 | x :: a, b, i, h => by
  have h0 : qbe vars i x = 0 := by
   by_cases q : qbe vars i x = 0
   ·exact q
   ·rw [ndsErr_bad q] at h; exact absurd h q
  rw [ndsErr_cons h0] at h
  rw [List.cons_append, ndsErr_cons h0, ndsErr_app a b (i + 1) h, List.length_cons, show i + 1 + a.length = i + (a.length + 1) by omega]
theorem ndsErr_snoc {vars : Int} {l : List Nd} {x : Nd} (h : qbc vars 0 l = 0) (hx : qbe vars l.length x = 0) : qbc vars 0 (l ++ [x]) = 0 := by
 rw [ndsErr_app l [x] 0 h, Nat.zero_add, ndsErr_cons hx]; rfl
def Two (vs : List Nat) : Prop := ∀ j, gd vs j ≤ 1
theorem cnt_sum {vs : List Nat} (h : Two vs) : ∀ args : List Int, qcb vs args 0 + qcb vs args 1 = args.length ∧ qcb vs args 2 = 0
 | [] => ⟨rfl, rfl⟩
 | a :: l => by
  obtain ⟨h1, h2⟩ := cnt_sum h l
  have ha := h a.toNat
  unfold qcb at h1 h2 ⊢
  simp only [List.filter_cons]
  have h01 : gd vs a.toNat = 0 ∨ gd vs a.toNat = 1 := by omega
  rcases h01 with e | e
  ·simp only [e, decide_true, show decide ((0 : Nat) = 1) = false from rfl, show decide ((0 : Nat) = 2) = false from rfl, if_true, Bool.false_eq_true, if_false, List.length_cons]
   omega
  ·simp only [e, show decide ((1 : Nat) = 0) = false from rfl, decide_true, show decide ((1 : Nat) = 2) = false from rfl, if_true, Bool.false_eq_true, if_false, List.length_cons]
   omega
def nT (x : Nd) (c : Nat) : Bool :=
 if x.kind = 0 then decide (x.K = 1)
 else if x.kind = 1 then decide (c = 0)
 else if x.kind = 2 then decide (c = x.args.length)
 else if x.kind = 3 then decide (0 < c)
 else if x.kind = 4 then decide (x.K ≤ c)
 else decide (c % 2 = 1)
theorem ndV_two {vars : Int} {i : Nat} {x : Nd} {vs : List Nat} (hx : qbe vars i x = 0) (h : Two vs) : ndV vs x = if nT x (qcb vs x.args 1) then 1 else 0 := by
 obtain ⟨h1, h2⟩ := cnt_sum h x.args
 have hn := ndErr_args hx
 have hK := ndErr_K hx
 unfold ndV ndVal nT
 rw [h2]
 generalize qcb vs x.args 0 = c0 at *
 generalize qcb vs x.args 1 = c1 at *
 by_cases k0 : x.kind = 0
 ·rw [if_pos k0, if_pos k0]
  rcases hK k0 with e | e <;> rw [e] <;> rfl
 rw [if_neg k0, if_neg k0]
 by_cases k1 : x.kind = 1
 ·rw [if_pos k1, if_pos k1]
  unfold qbq at hn
  rw [if_neg k0, if_pos k1] at hn
  have hl : x.args.length = 1 := by simpa using hn
  unfold lev
  have : c1 = 0 ∨ c1 = 1 := by omega
  rcases this with e | e
  ·have : c0 = 1 := by omega
   rw [e, this]; rfl
  ·have : c0 = 0 := by omega
   rw [e, this]; rfl
 rw [if_neg k1, if_neg k1]
 unfold qbq at hn
 rw [if_neg k0, if_neg k1] at hn
 have hl : 1 ≤ x.args.length ∧ x.args.length ≤ 16 := by simpa using hn
 by_cases k2 : x.kind = 2
 ·rw [if_pos k2, if_pos k2]
  unfold lev
  by_cases e : c1 = x.args.length
  ·simp [e]
  ·have : 0 < c0 := by omega
   simp [e, this]
 rw [if_neg k2, if_neg k2]
 by_cases k3 : x.kind = 3
 ·rw [if_pos k3, if_pos k3]
  unfold lev
  by_cases e : 0 < c1
  ·simp [e]
  ·have : c0 = x.args.length := by omega
   simp [e, this]
 rw [if_neg k3, if_neg k3]
 by_cases k4 : x.kind = 4
 ·rw [if_pos k4, if_pos k4]
  unfold lev
  by_cases e : x.K ≤ c1
  ·simp [e]
  ·simp [e]
 rw [if_neg k4, if_neg k4]
 unfold lev
 have : c1 % 2 = 0 ∨ c1 % 2 = 1 := by omega
 rcases this with e | e <;> simp [e]
theorem two_snoc {vs : List Nat} (h : Two vs) {x : Nat} (hx : x ≤ 1) : Two (vs ++ [x]) := by
 intro j
 rw [gd_snoc]
 split
 ·exact h j
 ·split
  ·exact hx
  ·omega
theorem two_vals {vars : Int} : ∀ (l : List Nd) (i : Nat) (vs : List Nat), qbc vars i l = 0 → Two vs → Two (qaj vs l)
 | [], _, _, _, h => h
 | x :: l, i, vs, ho, h => by
  obtain ⟨h1, h2⟩ := ndsOK_cons (vars := vars) ho
  simp only [qaj]
  refine two_vals l (i + 1) _ h2 (two_snoc h ?_)
  have := ndV_two h1 h
  unfold ndV at this
  rw [this]
  split <;> omega
theorem vals_old (out more : List Nd) (e0 : List Nat) {j : Nat} (h : j < e0.length + out.length) : gd (qaj e0 (out ++ more)) j = gd (qaj e0 out) j := by
 rw [valsN_app]
 exact valsN_pre more _ j (by rw [qdt]; exact h)
theorem vals_new (out : List Nd) (x : Nd) (e0 : List Nat) : gd (qaj e0 (out ++ [x])) (e0.length + out.length) = ndV (qaj e0 out) x := by
 rw [valsN_snocX, gd_snoc, if_neg (by rw [qdt]; omega), if_pos (by rw [qdt])]
theorem qcv {l : List Int} {x : Int} {j : Nat} (h : j < l.length) : (l ++ [x]).getD j 0 = l.getD j 0 := by
 rw [List.getD_eq_getElem?_getD, List.getD_eq_getElem?_getD, List.getElem?_append_left h]
theorem qcw {l : List Int} {x : Int} : (l ++ [x]).getD l.length 0 = x := by
 rw [List.getD_eq_getElem?_getD, List.getElem?_append_right (Nat.le_refl _), Nat.sub_self]; rfl
def tA (vs : List Nat) (a : Int) : Bool := decide (gd vs a.toNat = 1)
def lv (b : Bool) : Nat := if b then 1 else 0
theorem lv_t (b : Bool) : decide (lv b = 1) = b := by cases b <;> rfl
theorem cnt_tA (vs : List Nat) (args : List Int) : qcb vs args 1 = (args.filter (tA vs)).length := rfl
theorem cnt_le_len (vs : List Nat) (args : List Int) : qcb vs args 1 ≤ args.length := List.length_filter_le _ _
theorem cnt_full (vs : List Nat) (args : List Int) : decide (qcb vs args 1 = args.length) = args.all (tA vs) := by
 rw [cnt_tA]
 induction args with
 | nil => rfl
 | cons a l ih =>
  have hl := List.length_filter_le (tA vs) l
  rw [List.filter_cons, List.all_cons]
  cases h : tA vs a
  ·simp only [Bool.false_eq_true, if_false, Bool.false_and, List.length_cons, decide_eq_false_iff_not]
   omega
  ·simp only [if_true, Bool.true_and, List.length_cons]
   rw [← ih]
   congr 1
   exact propext ⟨fun h => by omega, fun h => by omega⟩
theorem cnt_pos (vs : List Nat) (args : List Int) : decide (0 < qcb vs args 1) = args.any (tA vs) := by
 rw [cnt_tA]
 induction args with
 | nil => rfl
 | cons a l ih =>
  rw [List.filter_cons, List.any_cons]
  cases h : tA vs a
  ·simp only [Bool.false_eq_true, if_false, Bool.false_or]; exact ih
  ·simp
theorem and_val {vs : List Nat} {V : Int} {i : Nat} {args : List Int} (h : Two vs) (hx : qbe V i ⟨2, 0, args⟩ = 0) : ndV vs ⟨2, 0, args⟩ = lv (args.all (tA vs)) := by
 rw [ndV_two hx h]
 have : nT ⟨2, 0, args⟩ (qcb vs args 1) = args.all (tA vs) := by rw [← cnt_full]; rfl
 show (if nT ⟨2, 0, args⟩ (qcb vs args 1) then 1 else 0) = _
 rw [this]; rfl
theorem or_val {vs : List Nat} {V : Int} {i : Nat} {args : List Int} (h : Two vs) (hx : qbe V i ⟨3, 0, args⟩ = 0) : ndV vs ⟨3, 0, args⟩ = lv (args.any (tA vs)) := by
 rw [ndV_two hx h]
 have : nT ⟨3, 0, args⟩ (qcb vs args 1) = args.any (tA vs) := by rw [← cnt_pos]; rfl
 show (if nT ⟨3, 0, args⟩ (qcb vs args 1) then 1 else 0) = _
 rw [this]; rfl
theorem not_val {vs : List Nat} {V : Int} {i : Nat} {a : Int} (h : Two vs) (hx : qbe V i ⟨1, 0, [a]⟩ = 0) : ndV vs ⟨1, 0, [a]⟩ = lv (!tA vs a) := by
 rw [ndV_two hx h]
 show (if nT ⟨1, 0, [a]⟩ (qcb vs [a] 1) then 1 else 0) = _
 rw [cnt_tA]
 unfold nT
 cases e : tA vs a <;> simp [e, lv]
def Arg (V n : Nat) (a : Int) : Prop := 0 ≤ a ∧ a < ((V + n : Nat) : Int)
theorem Arg.up {V n m : Nat} {a : Int} (h : Arg V n a) (hm : n ≤ m) : Arg V m a := ⟨h.1, by have := h.2; omega⟩
theorem Arg.new (V n : Nat) : Arg V (n + 1) ((V + n : Nat) : Int) := ⟨by omega, by omega⟩
theorem gate_ok {V n : Nat} {k : Int} {args : List Int} (hk : k = 2 ∨ k = 3) (h1 : 1 ≤ args.length) (h2 : args.length ≤ 16) (ha : ∀ a ∈ args, Arg V n a) : qbe (V : Nat) n ⟨k, 0, args⟩ = 0 := by
 have hb : args.any (qdo (V : Nat) n) = false := by
  rw [List.any_eq_false]
  intro a h
  have := ha a h
  unfold qdo Arg at *
  simp only [decide_eq_true_eq]
  omega
 have hn : qbq k args.length = true := by
  unfold qbq
  rcases hk with rfl | rfl <;> simp <;> omega
 unfold qbe
 simp only [hb, hn]
 rcases hk with rfl | rfl <;> simp
theorem not_ok {V n : Nat} {a : Int} (ha : Arg V n a) : qbe (V : Nat) n ⟨1, 0, [a]⟩ = 0 := by
 have hb : [a].any (qdo (V : Nat) n) = false := by
  rw [List.any_eq_false]
  intro b h
  rw [List.mem_singleton] at h
  subst h
  unfold qdo Arg at *
  simp only [decide_eq_true_eq]
  omega
 unfold qbe
 simp only [hb]
 rfl
theorem tA_old {out more : List Nd} {e0 : List Nat} {a : Int} {V : Nat} (hV : e0.length = V) (h : Arg V out.length a) : tA (qaj e0 (out ++ more)) a = tA (qaj e0 out) a := by
 unfold tA
 have := h.1; have := h.2
 rw [vals_old out more e0 (by omega)]
theorem tA_new {out : List Nd} {e0 : List Nat} {x : Nd} {V : Nat} {b : Bool} (hV : e0.length = V) (h : ndV (qaj e0 out) x = lv b) : tA (qaj e0 (out ++ [x])) ((V + out.length : Nat) : Int) = b := by
 unfold tA
 rw [Int.toNat_natCast, ← hV, vals_new, h, lv_t]
structure Grw (V : Nat) (out out' : List Nd) (r : Int) (val : List Nat → Bool) : Prop where
 ext : ∃ more, out' = out ++ more
 ok : qbc (V : Nat) 0 out' = 0
 arg : Arg V out'.length r
 v : ∀ e0 : List Nat, e0.length = V → Two e0 → tA (qaj e0 out') r = val e0
theorem Grw.le {V : Nat} {out out' : List Nd} {r : Int} {val : List Nat → Bool} (h : Grw V out out' r val) : out.length ≤ out'.length := by
 obtain ⟨more, rfl⟩ := h.ext
 rw [List.length_append]; omega
theorem Grw.old {V : Nat} {out out' : List Nd} {r : Int} {val : List Nat → Bool} (h : Grw V out out' r val) {a : Int} (ha : Arg V out.length a) {e0 : List Nat} (he : e0.length = V) : tA (qaj e0 out') a = tA (qaj e0 out) a := by
 obtain ⟨more, rfl⟩ := h.ext
 exact tA_old he ha
theorem Grw.refl {V : Nat} {out : List Nd} {r : Int} (ho : qbc (V : Nat) 0 out = 0) (hr : Arg V out.length r) : Grw V out out r (fun e0 => tA (qaj e0 out) r) := ⟨⟨[], by simp⟩, ho, hr, fun _ _ _ => rfl⟩
theorem Grw.trans {V : Nat} {a b c : List Nd} {r s : Int} {f g : List Nat → Bool} (h : Grw V a b r f) (k : Grw V b c s g) : Grw V a c s g := by
 obtain ⟨m, rfl⟩ := h.ext
 obtain ⟨m2, rfl⟩ := k.ext
 exact ⟨⟨m ++ m2, by rw [List.append_assoc]⟩, k.ok, k.arg, k.v⟩
theorem Grw.congr {V : Nat} {a b : List Nd} {r : Int} {f g : List Nat → Bool} (h : Grw V a b r f) (e : ∀ e0 : List Nat, e0.length = V → Two e0 → f e0 = g e0) : Grw V a b r g := ⟨h.ext, h.ok, h.arg, fun e0 h1 h2 => by rw [h.v e0 h1 h2, e e0 h1 h2]⟩
theorem qea {V : Nat} {out : List Nd} {k : Int} {args : List Int} (ho : qbc (V : Nat) 0 out = 0) (hk : k = 2 ∨ k = 3) (h1 : 1 ≤ args.length) (h2 : args.length ≤ 16) (ha : ∀ a ∈ args, Arg V out.length a) :
  Grw V out (out ++ [⟨k, 0, args⟩]) ((V + out.length : Nat) : Int) (fun e0 => if k = 2 then args.all (tA (qaj e0 out)) else args.any (tA (qaj e0 out))) := by
 have hx := gate_ok hk h1 h2 ha
 refine ⟨⟨_, rfl⟩, ndsErr_snoc ho hx, by rw [List.length_append]; exact Arg.new V out.length, fun e0 he ht => ?_⟩
 have ht2 := two_vals out 0 e0 ho ht
 rcases hk with rfl | rfl
 ·exact tA_new he (and_val ht2 hx)
 ·exact tA_new he (or_val ht2 hx)
theorem grw_not {V : Nat} {out : List Nd} {a : Int} (ho : qbc (V : Nat) 0 out = 0) (ha : Arg V out.length a) : Grw V out (out ++ [⟨1, 0, [a]⟩]) ((V + out.length : Nat) : Int) (fun e0 => !tA (qaj e0 out) a) := by
 have hx := not_ok ha
 exact ⟨⟨_, rfl⟩, ndsErr_snoc ho hx, by rw [List.length_append]; exact Arg.new V out.length, fun e0 he ht => tA_new he (not_val (two_vals out 0 e0 ho ht) hx)⟩
def xor1 (V : Nat) (out : List Nd) (x y : Int) : List Nd :=
 out ++ [⟨1, 0, [y]⟩] ++ [⟨2, 0, [x, ((V + out.length : Nat) : Int)]⟩] ++ [⟨1, 0, [x]⟩] ++ [⟨2, 0, [((V + out.length + 2 : Nat) : Int), y]⟩] ++ [⟨3, 0, [((V + out.length + 1 : Nat) : Int), ((V + out.length + 3 : Nat) : Int)]⟩]
theorem mem2 {a b c : Int} {p : Int → Prop} (ha : p a) (hb : p b) (h : c ∈ [a, b]) : p c := by
 simp only [List.mem_cons, List.not_mem_nil, or_false] at h
 rcases h with rfl | rfl
 ·exact ha
 ·exact hb
theorem xor1_grw {V : Nat} {out : List Nd} {x y : Int} (ho : qbc (V : Nat) 0 out = 0) (hx : Arg V out.length x) (hy : Arg V out.length y) :
  Grw V out (xor1 V out x y) ((V + out.length + 4 : Nat) : Int) (fun e0 => Bool.xor (tA (qaj e0 out) x) (tA (qaj e0 out) y)) := by
 have g1 := grw_not ho hy
 have g2 := qea (k := 2) (args := [x, ((V + out.length : Nat) : Int)]) g1.ok (.inl rfl) (by simp) (by simp) (fun c hc => mem2 (hx.up g1.le) g1.arg hc)
 have g12 := g1.trans g2
 have g3 := grw_not (a := x) g2.ok (hx.up g12.le)
 have g13 := g12.trans g3
 have e1 : ((V + (out ++ [Nd.mk 1 0 [y]]).length : Nat) : Int) = ((V + out.length + 1 : Nat) : Int) := by rw [List.length_append]; rfl
 have e2 : ((V + (out ++ [Nd.mk 1 0 [y]] ++ [Nd.mk 2 0 [x, ((V + out.length : Nat) : Int)]]).length : Nat) : Int) = ((V + out.length + 2 : Nat) : Int) := by rw [List.length_append, List.length_append]; rfl
 rw [e2] at g3 g13
 rw [e1] at g2 g12
 have g4 := qea (k := 2) (args := [((V + out.length + 2 : Nat) : Int), y]) g3.ok (.inl rfl) (by simp) (by simp) (fun c hc => mem2 g3.arg (hy.up g13.le) hc)
 have g14 := g13.trans g4
 have e3 : ((V + (out ++ [Nd.mk 1 0 [y]] ++ [Nd.mk 2 0 [x, ((V + out.length : Nat) : Int)]] ++ [Nd.mk 1 0 [x]]).length : Nat) : Int) = ((V + out.length + 3 : Nat) : Int) := by rw [List.length_append, List.length_append, List.length_append]; rfl
 rw [e3] at g4 g14
 have g34 := g3.trans g4
 have g5 := qea (k := 3) (args := [((V + out.length + 1 : Nat) : Int), ((V + out.length + 3 : Nat) : Int)]) g4.ok (.inr rfl) (by simp) (by simp) (fun c hc => mem2 (g2.arg.up g34.le) g4.arg hc)
 have g15 := g14.trans g5
 have e4 : ((V + (out ++ [Nd.mk 1 0 [y]] ++ [Nd.mk 2 0 [x, ((V + out.length : Nat) : Int)]] ++ [Nd.mk 1 0 [x]] ++ [Nd.mk 2 0 [((V + out.length + 2 : Nat) : Int), y]]).length : Nat) : Int) = ((V + out.length + 4 : Nat) : Int) := by rw [List.length_append, List.length_append, List.length_append, List.length_append]; rfl
 rw [e4] at g15
 refine g15.congr (fun e0 he ht => ?_)
 have v1 := g1.v e0 he ht
 have v2 := g2.v e0 he ht
 have v3 := g3.v e0 he ht
 have v4 := g4.v e0 he ht
 have o1 := g1.old hx he
 have o2 := g12.old hx he
 have o3 := g13.old hy he
 have o4 := g34.old g2.arg he
 simp only [if_true, List.all_cons, List.all_nil, Bool.and_true] at v2 v4
 rw [if_neg (by decide)]
 simp only [List.any_cons, List.any_nil, Bool.or_false]
 rw [v4, o4, v2, v3, v1, o1, o2, o3]
 cases tA (qaj e0 out) x <;> cases tA (qaj e0 out) y <;> rfl
def xorL (f : Int → Bool) : Bool → List Int → Bool
 | b, [] => b
 | b, y :: ys => xorL f (Bool.xor b (f y)) ys
theorem xorL_cnt (f : Int → Bool) : ∀ (ys : List Int) (b : Bool), xorL f b ys = decide (((ys.filter f).length + (if b then 1 else 0)) % 2 = 1)
 | [], b => by cases b <;> rfl
 | y :: ys, b => by
  simp only [xorL]
  rw [xorL_cnt f ys, List.filter_cons]
  cases h : f y
  ·cases b <;> simp
  ·cases b
   ·simp
   ·simp only [Bool.xor_self, Bool.false_eq_true, if_false, if_true, List.length_cons]
    congr 1
    exact propext ⟨fun h => by omega, fun h => by omega⟩
def thr (f : Int → Bool) (args : List Int) (k : Int) : Bool := decide (k ≤ ((args.filter f).length : Nat))
theorem thr_cons (f : Int → Bool) (a : Int) (r : List Int) (k : Int) : thr f (a :: r) k = (f a && thr f r (k - 1) || thr f r k) := by
 unfold thr
 rw [List.filter_cons]
 cases h : f a
 ·simp
 ·simp only [if_true, List.length_cons, Bool.true_and]
  rw [Bool.eq_iff_iff, Bool.or_eq_true, decide_eq_true_eq, decide_eq_true_eq, decide_eq_true_eq]
  omega
theorem thr_one (f : Int → Bool) (args : List Int) : thr f args 1 = args.any f := by
 unfold thr
 rw [Bool.eq_iff_iff, decide_eq_true_eq, List.any_eq_true]
 constructor
 ·intro h
  have h0 : 0 < (args.filter f).length := by omega
  obtain ⟨x, hx⟩ := List.exists_mem_of_length_pos h0
  rw [List.mem_filter] at hx
  exact ⟨x, hx.1, hx.2⟩
 ·rintro ⟨x, hx, hf⟩
  have : x ∈ args.filter f := List.mem_filter.2 ⟨hx, hf⟩
  have := List.length_pos_of_mem this
  omega
theorem thr_len (f : Int → Bool) (args : List Int) : thr f args (args.length : Nat) = args.all f := by
 unfold thr
 have h := List.length_filter_le f args
 rw [Bool.eq_iff_iff, decide_eq_true_eq, List.all_eq_true]
 constructor
 ·intro h1
  have h2 : (args.filter f).length = args.length := by omega
  exact fun x hx => (List.length_filter_eq_length_iff.1 h2) x hx
 ·intro h1
  have : args.filter f = args := List.filter_eq_self.2 h1
  rw [this]; omega
theorem thr_congr {f g : Int → Bool} {args : List Int} (h : ∀ a ∈ args, f a = g a) (k : Int) : thr f args k = thr g args k := by
 unfold thr
 rw [List.filter_congr h]
def gateL (k : Int) (out : List Nd) (args : List Int) : List Nd := if args.length = 1 then out else out ++ [⟨k, 0, args⟩]
def gateA (V : Nat) (out : List Nd) (args : List Int) : Int := if args.length = 1 then args.getD 0 0 else ((V + out.length : Nat) : Int)
theorem grw_gateG {V : Nat} {out : List Nd} {k : Int} {args : List Int} (ho : qbc (V : Nat) 0 out = 0) (hk : k = 2 ∨ k = 3) (h1 : 1 ≤ args.length) (h2 : args.length ≤ 16) (ha : ∀ a ∈ args, Arg V out.length a) :
  Grw V out (gateL k out args) (gateA V out args) (fun e0 => if k = 2 then args.all (tA (qaj e0 out)) else args.any (tA (qaj e0 out))) := by
 unfold gateL gateA
 by_cases e : args.length = 1
 ·rw [if_pos e, if_pos e]
  match args, e with
  | [a], _ =>
   have : Arg V out.length a := ha a (by simp)
   exact (Grw.refl ho this).congr (fun e0 _ _ => by simp)
 ·rw [if_neg e, if_neg e]
  exact qea ho hk h1 h2 ha
theorem Grw.base {V : Nat} {o0 out out' : List Nd} {r : Int} {f : List Nat → Bool} {args : List Int} {k : Int} (hb : ∃ m, out = o0 ++ m) (ha : ∀ a ∈ args, Arg V o0.length a) (h : Grw V out out' r f) (hf : ∀ e0 : List Nat, e0.length = V → Two e0 → f e0 = thr (tA (qaj e0 out)) args k) :
  Grw V out out' r (fun e0 => thr (tA (qaj e0 o0)) args k) := h.congr (fun e0 he ht => by
 rw [hf e0 he ht]
 obtain ⟨m, rfl⟩ := hb
 exact thr_congr (fun a h => tA_old he (ha a h)) k)
theorem vote_mid {V : Nat} {o0 out o1 o3 : List Nd} {a : Int} {r : List Int} {k r1 r3 : Int} (hb : ∃ m, out = o0 ++ m) (haa : Arg V o0.length a) (h1 : Grw V out o1 r1 (fun e0 => thr (tA (qaj e0 o0)) r (k - 1)))
  (h3 : Grw V (o1 ++ [⟨2, 0, [a, r1]⟩]) o3 r3 (fun e0 => thr (tA (qaj e0 o0)) r k)) : Grw V out (o3 ++ [⟨3, 0, [((V + o1.length : Nat) : Int), r3]⟩]) ((V + o3.length : Nat) : Int) (fun e0 => thr (tA (qaj e0 o0)) (a :: r) k) := by
 have hle : o0.length ≤ out.length := by obtain ⟨m, rfl⟩ := hb; rw [List.length_append]; omega
 have ha1 : Arg V o1.length a := (haa.up hle).up h1.le
 have g2 := qea (k := 2) (args := [a, r1]) h1.ok (.inl rfl) (by simp) (by simp) (fun c hc => mem2 ha1 h1.arg hc)
 have g5 := qea (k := 3) (args := [((V + o1.length : Nat) : Int), r3]) h3.ok (.inr rfl) (by simp) (by simp) (fun c hc => mem2 (g2.arg.up h3.le) h3.arg hc)
 have gg := ((h1.trans g2).trans h3).trans g5
 refine gg.congr (fun e0 he ht => ?_)
 have v1 := h1.v e0 he ht
 have v2 := g2.v e0 he ht
 have v3 := h3.v e0 he ht
 have o2 := h3.old g2.arg he
 have oa := h1.old (haa.up hle) he
 have ob : tA (qaj e0 out) a = tA (qaj e0 o0) a := by obtain ⟨m, rfl⟩ := hb; exact tA_old he haa
 simp only [if_true, List.all_cons, List.all_nil, Bool.and_true] at v2
 rw [if_neg (by decide), thr_cons]
 simp only [List.any_cons, List.any_nil, Bool.or_false]
 rw [o2, v2, v3, v1, oa, ob]
theorem cnt_turn {vs ws : List Nat} {f : Int → Int} : ∀ {args : List Int}, (∀ a ∈ args, tA ws (f a) = !tA vs a) → qcb ws (args.map f) 1 + qcb vs args 1 = args.length
 | [], _ => rfl
 | a :: l, h => by
  have ih := cnt_turn (args := l) (fun b hb => h b (List.mem_cons_of_mem _ hb))
  have ha := h a (List.mem_cons_self ..)
  rw [cnt_tA, cnt_tA] at ih ⊢
  rw [List.map_cons, List.filter_cons, List.filter_cons, ha]
  cases tA vs a <;> simp at * <;> omega
theorem dual_and {c n : Nat} {K K2 : Int} {args args2 : List Int} (hl : args.length = n) (hc : c ≤ n) : nT ⟨3, K2, args2⟩ (n - c) = !nT ⟨2, K, args⟩ c := by
 show decide (0 < n - c) = !decide (c = args.length)
 rw [hl, Bool.eq_iff_iff]; simp; omega
theorem dual_or {c n : Nat} {K K2 : Int} {args args2 : List Int} (hl : args2.length = n) (hc : c ≤ n) : nT ⟨2, K2, args2⟩ (n - c) = !nT ⟨3, K, args⟩ c := by
 show decide (n - c = args2.length) = !decide (0 < c)
 rw [hl, Bool.eq_iff_iff]; simp; omega
theorem dual_vote {c n : Nat} {K : Int} {args args2 : List Int} (hc : c ≤ n) : nT ⟨4, (n : Int) - K + 1, args2⟩ (n - c) = !nT ⟨4, K, args⟩ c := by
 show decide ((n : Int) - K + 1 ≤ ((n - c : Nat) : Int)) = !decide (K ≤ (c : Int))
 rw [Bool.eq_iff_iff]; simp; omega
theorem dual_not {c : Nat} {K K2 : Int} {args args2 : List Int} (hc : c ≤ 1) : nT ⟨1, K2, args2⟩ (1 - c) = !nT ⟨1, K, args⟩ c := by
 show decide (1 - c = 0) = !decide (c = 0)
 rw [Bool.eq_iff_iff]; simp; omega
theorem dual_const {c c2 : Nat} {K : Int} {args args2 : List Int} (hK : K = 0 ∨ K = 1) : nT ⟨0, 1 - K, args2⟩ c2 = !nT ⟨0, K, args⟩ c := by
 show decide (1 - K = 1) = !decide (K = 1)
 rcases hK with rfl | rfl <;> rfl
theorem dual_xor_odd {c n : Nat} {K K2 : Int} {args args2 : List Int} (hn : n % 2 = 1) (hc : c ≤ n) : nT ⟨5, K2, args2⟩ (n - c) = !nT ⟨5, K, args⟩ c := by
 show decide ((n - c) % 2 = 1) = !decide (c % 2 = 1)
 rw [Bool.eq_iff_iff]; simp; omega
theorem dual_xor_even {c n : Nat} {K K2 : Int} {args args2 : List Int} (hn : n % 2 = 0) (hc : c ≤ n) : nT ⟨5, K2, args2⟩ (n - c) = nT ⟨5, K, args⟩ c := by
 show decide ((n - c) % 2 = 1) = decide (c % 2 = 1)
 rw [Bool.eq_iff_iff]; simp; omega
def nv (vs : List Nat) (x : Nd) : Bool := nT x (qcb vs x.args 1)
theorem nv_gd {vars : Int} {i : Nat} {x : Nd} {vs : List Nat} (hx : qbe vars i x = 0) (h : Two vs) : decide (ndV vs x = 1) = nv vs x := by
 rw [ndV_two hx h]; unfold nv; cases nT x _ <;> rfl
theorem tA_next {V : Nat} {nodes : List Nd} {x : Nd} {e0 : List Nat} (hV : e0.length = V) (ho : qbc (V : Nat) 0 nodes = 0) (hx : qbe (V : Nat) nodes.length x = 0) (ht : Two e0) :
  tA (qaj e0 (nodes ++ [x])) ((V + nodes.length : Nat) : Int) = nv (qaj e0 nodes) x := by
 unfold tA
 rw [Int.toNat_natCast, ← hV, vals_new]
 exact nv_gd hx (two_vals nodes 0 e0 ho ht)
theorem grw_node {V : Nat} {out : List Nd} {x : Nd} (ho : qbc (V : Nat) 0 out = 0) (hx : qbe (V : Nat) out.length x = 0) :
  Grw V out (out ++ [x]) ((V + out.length : Nat) : Int) (fun e0 => nv (qaj e0 out) x) :=
 ⟨⟨_, rfl⟩, ndsErr_snoc ho hx, by rw [List.length_append]; exact Arg.new V out.length, fun _ he ht => tA_next he ho hx ht⟩
def kOK (k K : Int) (n : Nat) : Prop := if k = 0 then K = 0 ∨ K = 1 else if k = 4 then 1 ≤ K ∧ K ≤ n else K = 0
theorem node_ok {V n : Nat} {k K : Int} {args : List Int} (hk : 0 ≤ k ∧ k ≤ 5) (hn : qbq k args.length = true) (ha : ∀ a ∈ args, Arg V n a) (hK : kOK k K args.length) : qbe (V : Nat) n ⟨k, K, args⟩ = 0 := by
 have hb : args.any (qdo (V : Nat) n) = false := by
  rw [List.any_eq_false]
  intro a h
  have := ha a h
  unfold qdo Arg at *
  simp only [decide_eq_true_eq]
  omega
 unfold qbe
 simp only [hb, hn]
 rw [if_neg (by omega)]
 unfold kOK at hK
 simp only [Bool.true_eq_false, Bool.false_eq_true, if_false]
 by_cases k0 : k = 0
 ·rw [if_pos k0] at hK ⊢
  rw [if_neg (by omega)]
 rw [if_neg k0] at hK ⊢
 by_cases k4 : k = 4
 ·rw [if_pos k4] at hK ⊢
  rw [if_neg (by omega)]
 rw [if_neg k4] at hK ⊢
 rw [if_neg (by omega)]
theorem qav {V n : Nat} {x : Nd} (h : qbe (V : Nat) n x = 0) : (0 ≤ x.kind ∧ x.kind ≤ 5) ∧ qbq x.kind x.args.length = true ∧ (∀ a ∈ x.args, Arg V n a) ∧ kOK x.kind x.K x.args.length := by
 have h1 := ndErr_args h
 have h2 := ndErr_arg h
 refine ⟨?_, h1, fun a ha => ?_, ?_⟩
 ·unfold qbe at h
  split at h
  ·cases h
  ·omega
 ·have := h2 a ha
  exact ⟨by omega, by omega⟩
 ·unfold qbe at h
  split at h
  ·cases h
  split at h
  ·cases h
  split at h
  ·cases h
  unfold kOK
  by_cases k0 : x.kind = 0
  ·rw [if_pos k0] at h ⊢
   split at h
   ·cases h
   ·omega
  rw [if_neg k0] at h ⊢
  by_cases k4 : x.kind = 4
  ·rw [if_pos k4] at h ⊢
   split at h
   ·cases h
   ·omega
  rw [if_neg k4] at h ⊢
  split at h
  ·cases h
  ·omega
theorem cnt_rel {vs ws : List Nat} {f : Int → Int} : ∀ {args : List Int}, (∀ a ∈ args, tA ws (f a) = tA vs a) → qcb ws (args.map f) 1 = qcb vs args 1
 | [], _ => rfl
 | a :: l, h => by
  have ih := cnt_rel (args := l) (fun b hb => h b (List.mem_cons_of_mem _ hb))
  have ha := h a (List.mem_cons_self ..)
  rw [cnt_tA, cnt_tA] at ih ⊢
  rw [List.map_cons, List.filter_cons, List.filter_cons, ha]
  split
  ·rw [List.length_cons, List.length_cons, ih]
  ·exact ih
theorem nT_len {k K : Int} {a b : List Int} (h : a.length = b.length) (c : Nat) : nT ⟨k, K, a⟩ c = nT ⟨k, K, b⟩ c := by
 unfold nT; simp only [h]
def top0 (e0 : List Nat) (f : Fm) : Bool := tA (qaj e0 f.nodes) f.top
structure FEq (f g : Fm) : Prop where
 vars : g.vars = f.vars
 ok : qcr g = 0
 v : ∀ e0 : List Nat, e0.length = f.vars.toNat → Two e0 → top0 e0 g = top0 e0 f
theorem FEq.trans {f g h : Fm} (a : FEq f g) (b : FEq g h) : FEq f h := ⟨by rw [b.vars, a.vars], b.ok, fun e0 he ht => by rw [b.v e0 (by rw [a.vars]; exact he) ht, a.v e0 he ht]⟩
theorem fm_ok {V : Nat} {out : List Nd} {top : Int} (hV : V ≤ 24) (hl : out.length ≤ 128) (ho : qbc (V : Nat) 0 out = 0) (ht : Arg V out.length top) : qcr ⟨(V : Nat), out, top⟩ = 0 := by
 unfold qcr
 simp only
 rw [if_neg (by omega), if_neg (by omega), if_neg (by omega)]
 have : argOK ⟨(V : Nat), out, top⟩ top = true := by
  unfold argOK
  obtain ⟨h1, h2⟩ := ht
  simp only [decide_eq_true_eq]
  omega
 rw [if_pos this]
theorem qdp {f : Fm} (h : qcr f = 0) : ∃ V : Nat, f.vars = V ∧ V ≤ 24 ∧ f.nodes.length ≤ 128 ∧ qbc (V : Nat) 0 f.nodes = 0 ∧ Arg V f.nodes.length f.top := by
 unfold qcr at h
 split at h
 ·cases h
 split at h
 ·cases h
 split at h
 ·rename_i k; exact absurd h k
 rename_i k1 k2 k3
 split at h
 ·rename_i k4
  unfold argOK at k4
  simp only [decide_eq_true_eq] at k4
  refine ⟨f.vars.toNat, by omega, by omega, by omega, ?_, ?_⟩
  ·rw [Int.toNat_of_nonneg (by omega)]; omega
  ·exact ⟨by omega, by omega⟩
 ·cases h
structure Img (V : Nat) (D : Nat → Prop) (nodes out : List Nd) (im : Nat → Int) : Prop where
 ok : qbc (V : Nat) 0 out = 0
 arg : ∀ j, j < V + nodes.length → D j → Arg V out.length (im j)
 v : ∀ e0 : List Nat, e0.length = V → Two e0 → ∀ j : Nat, j < V + nodes.length → D j → tA (qaj e0 out) (im j) = tA (qaj e0 nodes) (j : Nat)
def iA (im : Nat → Int) (a : Int) : Int := im a.toNat
section
variable {V : Nat} {D : Nat → Prop} {nodes out out' : List Nd} {im im' : Nat → Int} {x : Nd} {r : Int}
theorem Img.start (him : ∀ j, j < V → im j = (j : Nat)) : Img V D [] [] im :=
 ⟨rfl, fun j hj _ => by simp at hj; rw [him j hj]; exact ⟨by omega, by omega⟩, fun e0 _ _ j hj _ => by simp at hj; rw [him j hj]⟩
theorem Img.next (h : Img V D nodes out im) (hno : qbc (V : Nat) 0 nodes = 0) (hx : qbe (V : Nat) nodes.length x = 0) (g : Grw V out out' r (fun e0 => nv (qaj e0 nodes) x)) (hold : ∀ j, j < V + nodes.length → im' j = im j) (hnew : im' (V + nodes.length) = r) :
  Img V D (nodes ++ [x]) out' im' := by
 refine ⟨g.ok, fun j hj hd => ?_, fun e0 he ht j hj hd => ?_⟩
 ·rw [List.length_append, List.length_singleton] at hj
  by_cases e : j < V + nodes.length
  ·rw [hold j e]; exact (h.arg j e hd).up g.le
  ·rw [show j = V + nodes.length by omega, hnew]; exact g.arg
 ·rw [List.length_append, List.length_singleton] at hj
  by_cases e : j < V + nodes.length
  ·rw [hold j e, g.old (h.arg j e hd) he, h.v e0 he ht j e hd, tA_old he ⟨by omega, by omega⟩]
  ·rw [show j = V + nodes.length by omega, hnew, g.v e0 he ht, tA_next he hno hx ht]
theorem Img.skip (h : Img V D nodes out im) (hd : ¬ D (V + nodes.length)) : Img V D (nodes ++ [x]) out im := by
 refine ⟨h.ok, fun j hj hd' => ?_, fun e0 he ht j hj hd' => ?_⟩
 ·rw [List.length_append, List.length_singleton] at hj
  by_cases e : j < V + nodes.length
  ·exact h.arg j e hd'
  ·exact absurd (show D (V + nodes.length) by rw [← show j = V + nodes.length by omega]; exact hd') hd
 ·rw [List.length_append, List.length_singleton] at hj
  by_cases e : j < V + nodes.length
  ·rw [h.v e0 he ht j e hd', tA_old he ⟨by omega, by omega⟩]
  ·exact absurd (show D (V + nodes.length) by rw [← show j = V + nodes.length by omega]; exact hd') hd
theorem Img.one (h : Img V D nodes out im) {a : Int} (ha : Arg V nodes.length a) (hd : D a.toNat) : Arg V out.length (iA im a) ∧ ∀ e0 : List Nat, e0.length = V → Two e0 → tA (qaj e0 out) (iA im a) = tA (qaj e0 nodes) a := by
 obtain ⟨h1, h2⟩ := ha
 have hlt : a.toNat < V + nodes.length := by omega
 refine ⟨h.arg _ hlt hd, fun e0 he ht => ?_⟩
 have := h.v e0 he ht _ hlt hd
 rw [Int.toNat_of_nonneg h1] at this
 exact this
theorem Img.cnt (h : Img V D nodes out im) {args : List Int} (ha : ∀ a ∈ args, Arg V nodes.length a) (hd : ∀ a ∈ args, D a.toNat) {e0 : List Nat} (he : e0.length = V) (ht : Two e0) : qcb (qaj e0 out) (args.map (iA im)) 1 = qcb (qaj e0 nodes) args 1 :=
 cnt_rel (fun a h1 => (h.one (ha a h1) (hd a h1)).2 e0 he ht)
theorem Img.copy (h : Img V D nodes out im) (hx : qbe (V : Nat) nodes.length x = 0) (hd : ∀ a ∈ x.args, D a.toNat) : Grw V out (out ++ [⟨x.kind, x.K, x.args.map (iA im)⟩]) ((V + out.length : Nat) : Int) (fun e0 => nv (qaj e0 nodes) x) := by
 obtain ⟨p1, p2, p3, p4⟩ := qav hx
 have hok : qbe (V : Nat) out.length ⟨x.kind, x.K, x.args.map (iA im)⟩ = 0 := by
  refine node_ok p1 (by rw [List.length_map]; exact p2) (fun a ha => ?_) (by rw [List.length_map]; exact p4)
  obtain ⟨b, hb, rfl⟩ := List.mem_map.1 ha
  exact (h.one (p3 b hb) (hd b hb)).1
 refine (grw_node h.ok hok).congr (fun e0 he ht => ?_)
 show nT ⟨x.kind, x.K, x.args.map (iA im)⟩ (qcb (qaj e0 out) (x.args.map (iA im)) 1) = nT x (qcb (qaj e0 nodes) x.args 1)
 rw [h.cnt p3 hd he ht, nT_len (b := x.args) (by rw [List.length_map])]
theorem Img.done {top : Int} (h : Img V D nodes out im) (hV : V ≤ 24) (hl : out.length ≤ 128) (ht : Arg V nodes.length top) (hd : D top.toNat) : FEq ⟨(V : Nat), nodes, top⟩ ⟨(V : Nat), out, iA im top⟩ := by
 obtain ⟨h1, h2⟩ := h.one ht hd
 refine ⟨rfl, fm_ok hV hl h.ok h1, fun e0 he ht' => ?_⟩
 exact h2 e0 (by simpa using he) ht'
theorem Img.nv_im (h : Img V D nodes out im) (hx : qbe (V : Nat) nodes.length x = 0) (hd : ∀ a ∈ x.args, D a.toNat) {e0 : List Nat} (he : e0.length = V) (ht : Two e0) : nv (qaj e0 nodes) x = nT x (qcb (qaj e0 out) (x.args.map (iA im)) 1) := by
 unfold nv
 rw [h.cnt (qav hx).2.2.1 hd he ht]
theorem nT_vote {k K : Int} {a : List Int} {vs : List Nat} {args : List Int} (hk : k = 4) : nT ⟨k, K, a⟩ (qcb vs args 1) = thr (tA vs) args K := by subst hk; rfl
theorem nT_and {k K : Int} {a : List Int} {vs : List Nat} {args : List Int} (hk : k = 2) (hl : a.length = args.length) : nT ⟨k, K, a⟩ (qcb vs args 1) = args.all (tA vs) := by
 subst hk
 rw [← cnt_full]
 show decide (_ = a.length) = _
 rw [hl]
theorem nT_or {k K : Int} {a : List Int} {vs : List Nat} {args : List Int} (hk : k = 3) : nT ⟨k, K, a⟩ (qcb vs args 1) = args.any (tA vs) := by
 subst hk
 rw [← cnt_pos]; rfl
theorem nT_xor {k K : Int} {b : List Int} {vs : List Nat} {a : Int} {args : List Int} (hk : k = 5) : nT ⟨k, K, b⟩ (qcb vs (a :: args) 1) = xorL (tA vs) (tA vs a) args := by
 subst hk
 rw [xorL_cnt, cnt_tA, List.filter_cons]
 show decide (_ % 2 = 1) = _
 cases tA vs a <;> simp
theorem nT_not {k K : Int} {b : List Int} {vs : List Nat} {a : Int} (hk : k = 1) : nT ⟨k, K, b⟩ (qcb vs [a] 1) = !tA vs a := by
 subst hk
 rw [cnt_tA]
 unfold nT
 cases h : tA vs a <;> simp [h]
end
end Go.Proofs.YteadcgmaailjlaaGreatDoor
