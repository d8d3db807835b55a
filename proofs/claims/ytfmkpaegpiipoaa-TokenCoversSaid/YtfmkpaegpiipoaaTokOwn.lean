/-
  A slice of tokens of the call's own; a slice of tokens that is only read.
  Conditions: each theorem's own.
-/
import Derived.Test.YtfmkpaegpiipoaaTok2
import Derived.Test.YtfmkpaegpiipoaaTokMath2
namespace Go.Proofs.Ytfmkpaegpiipoaa
open Go.RowKit Go.ChangeShapes Go.WideShapes

/-- what a token holds -/
structure TokV where
  kind : Int
  text : ByteArray
  at_ : Int
  line : Int
  col : Int
def TokV.cells (t : TokV) : List Value := [.int .i64 t.kind, .string t.text, .int .i64 t.at_, .int .i64 t.line, .int .i64 t.col]
theorem TokV.cells_length (t : TokV) : t.cells.length = 5 := rfl
/-- the token of a text that stands at a place -/
def mkTok (s : ByteArray) (t : Tk) : TokV := ⟨t.kind, s.extract t.at_ t.fin, t.at_, lineOf (bs s) t.at_, colOf (bs s) t.at_⟩

def tokCells (ts : List TokV) : List Value := ts.flatMap TokV.cells
theorem tokCells_length (ts : List TokV) : (tokCells ts).length = ts.length * 5 := by
  induction ts with
  | nil => rfl
  | cons t ts ih => simp only [tokCells, List.flatMap_cons, List.length_append, List.length_cons, TokV.cells_length] at ih ⊢; omega
theorem tokCells_append (a b : List TokV) : tokCells (a ++ b) = tokCells a ++ tokCells b := by simp [tokCells]
theorem tokCells_one (t : TokV) : tokCells [t] = t.cells := by simp [tokCells]
/-- cell k of token i -/
theorem tokCells_at (ts : List TokV) : ∀ (i k : Nat) (t : TokV), ts[i]? = some t → k < 5 → (tokCells ts)[i * 5 + k]? = t.cells[k]? := by
  induction ts with
  | nil => intro i k t h; simp at h
  | cons x ts ih =>
    intro i k t h hk
    cases i with
    | zero =>
      simp at h; subst h
      rw [show tokCells (x :: ts) = x.cells ++ tokCells ts from rfl, List.getElem?_append_left (by rw [TokV.cells_length]; omega)]
      simp
    | succ i =>
      simp only [List.getElem?_cons_succ] at h
      rw [show tokCells (x :: ts) = x.cells ++ tokCells ts from rfl, List.getElem?_append_right (by rw [TokV.cells_length]; omega), TokV.cells_length]
      rw [show (i + 1) * 5 + k - 5 = i * 5 + k by omega]
      exact ih i k t h hk

/-- a slice of tokens of the call's own, in blocks from B on -/
def OwnT (w : World) (B : Nat) (v : Value) (ts : List TokV) : Prop := w.ownsRow B 35 5 v ts.length (tokCells ts)
theorem OwnT.nil (w : World) (B : Nat) : OwnT w B (.slice none 0 0) [] := World.ownsRow_nil _ _ _ _
theorem OwnT.below {w w' : World} {B : Nat} {v : Value} {ts : List TokV} (h : OwnT w B v ts) (hb : Below w.heap.size w w') : OwnT w' B v ts := by
  refine World.ownsRow.kept (row := none) h ⟨hb.os, hb.tape, hb.output, hb.size, fun k hk _ => hb.block k hk⟩ ?_
  cases hv : v.ownBlock <;> simp
theorem OwnT.alloc {w : World} {B : Nat} {v : Value} {ts : List TokV} (h : OwnT w B v ts) (o : Obj) : OwnT (w.alloc o) B v ts := World.ownsRow.alloc h o
theorem OwnT.base {w : World} {B B' : Nat} {v : Value} {ts : List TokV} (h : OwnT w B v ts) (hB : B' ≤ B) : OwnT w B' v ts := by
  obtain ⟨h1, h2⟩ := h
  refine ⟨h1, ?_⟩
  rcases h2 with h2 | ⟨g, cap, cur, hv, hb, r⟩
  · exact .inl h2
  · exact .inr ⟨g, cap, cur, hv, Nat.le_trans hB hb, r⟩
/-- the slice value v reads as the tokens ts -/
def Toks (w : World) (v : Value) (ts : List TokV) : Prop :=
  ∃ ao c, v = .slice ao ts.length c ∧ ts.length ≤ c ∧ c ≤ 9223372036854775807 ∧ (ao = none → c = 0) ∧
    ∀ b off s, ao = some ⟨b, off, s⟩ → b < w.heap.size ∧ (0 < ts.length → s = none) ∧ ∀ i t k, ts[i]? = some t → k < 5 → w.cell? ⟨b, off + (i * 5 + k), none⟩ = t.cells[k]?
theorem Toks.mono {w w' : World} {v : Value} {ts : List TokV} {B : Nat} (h : Toks w v ts) (hb : Below B w w') (hB : w.heap.size ≤ B) : Toks w' v ts := by
  obtain ⟨ao, c, rfl, h1, h2, h3, h4⟩ := h
  refine ⟨ao, c, rfl, h1, h2, h3, ?_⟩
  intro b off s hs
  obtain ⟨k1, k2, k3⟩ := h4 b off s hs
  refine ⟨Nat.lt_of_lt_of_le k1 hb.size, k2, fun i t k hi hk => ?_⟩
  rw [hb.cell (p := ⟨b, _, none⟩) (Nat.lt_of_lt_of_le k1 hB)]
  exact k3 i t k hi hk
theorem Toks.below {w w' : World} {v : Value} {ts : List TokV} (h : Toks w v ts) (hb : Below w.heap.size w w') : Toks w' v ts := h.mono hb (Nat.le_refl _)
theorem Toks.shape {w : World} {v : Value} {ts : List TokV} (h : Toks w v ts) : ∃ ao c, v = .slice ao ts.length c ∧ ts.length ≤ c ∧ c ≤ 9223372036854775807 ∧ (ao = none → c = 0) := by
  obtain ⟨ao', c', e, h1, h2, h3, h4⟩ := h
  exact ⟨ao', c', e, h1, h2, h3⟩
theorem Toks.at {w : World} {ao : Option Addr} {n c : Nat} {ts : List TokV} (h : Toks w (.slice ao n c) ts) (hn : 0 < n) :
    ∃ b off, ao = some ⟨b, off, none⟩ ∧ b < w.heap.size ∧ ∀ i t k, ts[i]? = some t → k < 5 → w.cell? ⟨b, off + (i * 5 + k), none⟩ = t.cells[k]? := by
  obtain ⟨ao', c', e, h1, h2, h3, h4⟩ := h
  cases e
  cases hao : ao with
  | none => have := h3 hao; omega
  | some a =>
    obtain ⟨b, off, s⟩ := a
    obtain ⟨k1, k2, k3⟩ := h4 b off s hao
    have := k2 hn; subst this
    exact ⟨b, off, rfl, k1, k3⟩
theorem OwnT.toks {w : World} {B : Nat} {v : Value} {ts : List TokV} (h : OwnT w B v ts) : Toks w v ts := by
  have hc := fun g hg => World.ownsRow.cells (g := g) h hg
  have hlt := World.ownsRow.lt h
  rcases h.2 with ⟨rfl, hn⟩ | ⟨g, cap, cur, rfl, hb, hh, hcap, hm, hs, ht⟩
  · have : ts = [] := List.eq_nil_of_length_eq_zero hn
    subst this; exact ⟨none, 0, rfl, Nat.le_refl _, by omega, by simp, by simp⟩
  · refine ⟨some ⟨g, 0, none⟩, cap, rfl, hcap, by unfold maxLen at hm; omega, by simp, ?_⟩
    intro b off s hs'
    simp only [Option.some.injEq, Addr.mk.injEq] at hs'
    obtain ⟨rfl, rfl, rfl⟩ := hs'
    refine ⟨(hlt g rfl).2, fun _ => rfl, fun i t k hi hk => ?_⟩
    have e1 := tokCells_at ts i k t hi hk
    have : k < t.cells.length := by rw [TokV.cells_length]; exact hk
    rw [List.getElem?_eq_getElem this] at e1 ⊢
    have := hc g rfl (i * 5 + k) _ e1
    have e2 : (⟨g, 0, none⟩ : Addr).add (i * 5 + k) = ⟨g, 0 + (i * 5 + k), none⟩ := by unfold Addr.add; split <;> simp_all
    rw [e2] at this; exact this

theorem Try.tokenTy : SliceTy Try.prog 23 35 (.agg #[.int .i64 0, .string ⟨#[]⟩, .int .i64 0, .int .i64 0, .int .i64 0]) 5 48 :=
  .mk' Try.underlying23 (by kernel_rfl)

section
variable {w : World} {ops : Array Oper} {rest : List Oper} {o : Oper} {a : Act} {Q : Exit → Act → World → Prop}
/-- 'append(s, t)': one token, behind the block that holds it -/
theorem wpList_appendT (hg : o.guard = none) (s x : Operand) (hop : o.op = Op.call { callee := Callee.builtin Builtin.append, args := #[s, x], argTypes := #[23, 23] })
    (B : Nat) (v : Value) (ts : List TokV) (tv : TokV) (c0 c1 c2 c3 c4 : Value) (hs : a.eval s = v) (hx : a.eval x = .slice (some ⟨w.heap.size, 0, none⟩) 1 1) (hcells : tv.cells = [c0, c1, c2, c3, c4])
    (hown : OwnT w B v ts) (hlen : ts.length ≤ 1099511627776) (hB : B ≤ w.heap.size)
    (hK : ∀ v' w', OwnT w' B v' (ts ++ [tv]) → (∀ w0, Below B w0 w → Below B w0 w') → w.heap.size ≤ w'.heap.size →
      wpList Try.prog ops Q rest (a.put o.dst v') w') :
    wpList Try.prog ops Q (o :: rest) a (w.alloc (.cells #[c0, c1, c2, c3, c4] 35)) := by
  obtain ⟨i0, hi, hz0, hz1, hz2⟩ := Try.tokenTy.info
  refine wpList_append_own _ hg s x 23 hop B 35 i0 _ 5 48 Try.tokenTy.under hi hz0 hz1 hz2 rfl (by decide) v ts.length (tokCells ts) hs (World.ownsRow.alloc hown _) ⟨w.heap.size, 0, none⟩ 1 1 tv.cells hx (TokV.cells_length tv) ?_ ?_ (by unfold maxLen; omega) (by omega) (by simp; omega) ?_
  · intro j u hu
    have hj : j < 5 := by have := (List.getElem?_eq_some_iff.1 hu).1; rw [TokV.cells_length] at this; exact this
    have e2 : (⟨w.heap.size, 0, none⟩ : Addr).add j = ⟨w.heap.size, j, none⟩ := by unfold Addr.add; split <;> simp_all
    rw [e2, cell_of_row (w.alloc (.cells #[c0, c1, c2, c3, c4] 35)) w.heap.size j #[c0, c1, c2, c3, c4] 35 (0, 0) (heap_alloc_new w _)]
    rw [hcells] at hu
    rw [← hu]; simp
  · intro u hu
    simp only [TokV.cells, List.mem_cons, List.not_mem_nil, or_false] at hu
    rcases hu with rfl | rfl | rfl | rfl | rfl <;> rfl
  · intro v' w' h1 h2 _
    refine hK v' w' ?_ (fun w0 h0 => ?_) ?_
    · unfold OwnT; rw [tokCells_append, tokCells_one, List.length_append]; exact h1
    · have hb : Below B w0 (w.alloc (.cells #[c0, c1, c2, c3, c4] 35)) := h0.alloc hB _
      refine hb.grown h2 (by simp; omega) ?_
      intro k hk
      exact (World.ownsRow.lt hown k hk).1
    · have := h2.size; simp at this; omega
end
end Go.Proofs.Ytfmkpaegpiipoaa
