/-
  Words and laws that every walk of this seat uses: slices that read as lists of words, arrays of the call's own, what a call hands back.
  Conditions: none beyond each theorem's own.
-/
import Derived.WalkKit
import Derived.ProofKit
import Derived.WalkSpells
import Derived.WalkLawsBesides
import Derived.WalkSmall
import Derived.Lib.Hide
namespace Go.Proofs.YtdepoikifneggaaDoor
open Go.RowKit Go.ChangeShapes Go.WideShapes

/-- element j of a list of numbers, 0 behind its end -/
def gd (l : List Nat) (j : Nat) : Nat := l.getD j 0
theorem gd_over (l : List Nat) (j : Nat) (h : l.length ≤ j) : gd l j = 0 := by simp [gd, h]
theorem gd_lt (l : List Nat) (j : Nat) (h : j < l.length) : gd l j = l[j] := by simp [gd, h]
theorem gd_set (l : List Nat) (k x j : Nat) : gd (l.set k x) j = if j = k ∧ k < l.length then x else gd l j := by
  unfold gd
  rw [List.getD_eq_getElem?_getD, List.getD_eq_getElem?_getD, List.getElem?_set]
  by_cases h : k = j
  · subst h
    by_cases h2 : k < l.length <;> simp [h2]
  · rw [if_neg h, if_neg (by omega)]
theorem gd_replicate (n x j : Nat) : gd (List.replicate n x) j = if j < n then x else 0 := by
  unfold gd
  rw [List.getD_eq_getElem?_getD, List.getElem?_replicate]; split <;> simp
theorem gd_append (a b : List Nat) (j : Nat) : gd (a ++ b) j = if j < a.length then gd a j else gd b (j - a.length) := by
  unfold gd
  simp only [List.getD_eq_getElem?_getD, List.getElem?_append]; split <;> rfl
theorem gd_take (a : List Nat) (n j : Nat) : gd (a.take n) j = if j < n then gd a j else 0 := by
  unfold gd
  simp only [List.getD_eq_getElem?_getD, List.getElem?_take]; split <;> simp
theorem gd_drop (a : List Nat) (n j : Nat) : gd (a.drop n) j = gd a (n + j) := by
  unfold gd
  simp only [List.getD_eq_getElem?_getD, List.getElem?_drop]
theorem gd_ext {a b : List Nat} (hl : a.length = b.length) (h : ∀ j, j < a.length → gd a j = gd b j) : a = b := by
  apply List.ext_getElem hl
  intro i h1 h2
  have := h i h1
  rwa [gd_lt _ _ h1, gd_lt _ _ h2] at this
theorem gd_cons_zero (x : Nat) (l : List Nat) : gd (x :: l) 0 = x := rfl
theorem gd_cons_succ (x : Nat) (l : List Nat) (j : Nat) : gd (x :: l) (j + 1) = gd l j := rfl

/-- all words of a list fit 32 bits -/
def U32 (l : List Nat) : Prop := ∀ j, gd l j < 4294967296

/-- the slice value v reads as the words l in w -/
def Num (w : World) (v : Value) (l : List Nat) : Prop :=
  ∃ ao c, v = .slice ao l.length c ∧ l.length ≤ c ∧ c ≤ 9223372036854775807 ∧ (ao = none → c = 0) ∧
    (∀ b off s, ao = some ⟨b, off, s⟩ → (0 < l.length → b < w.heap.size ∧ s = none) ∧ ∀ j, j < l.length → w.cell? ⟨b, off + j, none⟩ = some (.int .u32 (gd l j : Nat))) ∧
    U32 l
theorem Num.mono {w w' : World} {v : Value} {l : List Nat} {B : Nat} (h : Num w v l) (hb : Below B w w') (hB : w.heap.size ≤ B) : Num w' v l := by
  obtain ⟨ao, c, rfl, h1, h2, h3, h4, h5⟩ := h
  refine ⟨ao, c, rfl, h1, h2, h3, ?_, h5⟩
  intro b off s hs
  obtain ⟨k1, k3⟩ := h4 b off s hs
  refine ⟨fun h0 => ⟨Nat.lt_of_lt_of_le (k1 h0).1 hb.size, (k1 h0).2⟩, fun j hj => ?_⟩
  rw [hb.cell (p := ⟨b, off + j, none⟩) (Nat.lt_of_lt_of_le (k1 (by omega)).1 hB)]
  exact k3 j hj
theorem Num.below {w w' : World} {v : Value} {l : List Nat} (h : Num w v l) (hb : Below w.heap.size w w') : Num w' v l := h.mono hb (Nat.le_refl _)
theorem Num.shape {w : World} {v : Value} {l : List Nat} (h : Num w v l) : ∃ ao c, v = .slice ao l.length c ∧ l.length ≤ c ∧ c ≤ 9223372036854775807 ∧ (ao = none → c = 0) := by
  obtain ⟨ao', c', e, h1, h2, h3, h4, h5⟩ := h
  exact ⟨ao', c', e, h1, h2, h3⟩
theorem Num.at {w : World} {ao : Option Addr} {n c : Nat} {l : List Nat} (h : Num w (.slice ao n c) l) (hn : 0 < n) :
    ∃ b off, ao = some ⟨b, off, none⟩ ∧ b < w.heap.size ∧ ∀ j, j < n → w.cell? ⟨b, off + j, none⟩ = some (.int .u32 (gd l j : Nat)) := by
  obtain ⟨ao', c', e, h1, h2, h3, h4, h5⟩ := h
  cases e
  cases hao : ao with
  | none => have := h3 hao; omega
  | some a =>
    obtain ⟨b, off, s⟩ := a
    obtain ⟨k1, k3⟩ := h4 b off s hao
    obtain ⟨k0, rfl⟩ := k1 hn
    exact ⟨b, off, rfl, k0, k3⟩
theorem Num.lt {w : World} {v : Value} {l : List Nat} (h : Num w v l) : U32 l := by
  obtain ⟨ao', c', e, h1, h2, h3, h4, h5⟩ := h
  exact h5
theorem Num.nil (w : World) : Num w (.slice none 0 0) [] := ⟨none, 0, rfl, Nat.le_refl _, by omega, by simp, by simp, fun j => by simp [gd]⟩

/-- what a function that hands back words leaves -/
def RetNum (w : World) (R : List Nat → Prop) (e : Ending) (w' : World) : Prop := ∃ v l, e = .returned v ∧ Below w.heap.size w w' ∧ Num w' v l ∧ R l
/-- what a function that hands back a value and leaves old memory alone leaves -/
def RetV (w : World) (v : Value) (e : Ending) (w' : World) : Prop := e = .returned v ∧ Below w.heap.size w w'

/-- hands back a value, the world as it was -/
def RetS (w : World) (v : Value) (e : Ending) (w' : World) : Prop := e = .returned v ∧ w = w'
theorem ret_quiet {P : Program} {f : FuncId} {args : Array Value} {w : World} {v : Value} (h : Calls P f args w (RetS w v)) : Calls P f args w fun e w' => e = .returned v ∧ w' = w :=
  h.mono fun _ _ ⟨h1, h2⟩ => ⟨h1, h2.symm⟩
theorem ret_bool {a b : Bool} (h : a = b) : Ending.returned (.bool a) = .returned (.bool b) := by rw [h]
theorem ret_int {k : IntKind} {a b : Int} (h : a = b) : Ending.returned (.int k a) = .returned (.int k b) := by rw [h]
theorem ret_eq {a b : Value} (h : a = b) : Ending.returned a = .returned b := by rw [h]

theorem map_gd (l : List Nat) (j : Nat) : (l.map fun x : Nat => Value.int .u32 x)[j]? = if j < l.length then some (.int .u32 (gd l j : Nat)) else none := by
  by_cases h : j < l.length <;> simp [gd, h]

/-- a slice of words of the call's own, in blocks from B on: v is nil and empty, or v lies at the head of its block; room for c words -/
def OwnW (e : TypeId) (w : World) (B : Nat) (v : Value) (l : List Nat) : Prop :=
  w.ownsRow B e 1 v l.length (l.map fun x : Nat => Value.int .u32 x) ∧ U32 l

section
variable {e : TypeId} {w : World} {B : Nat} {v : Value} {l : List Nat}
theorem OwnW.lt (h : OwnW e w B v l) : U32 l := h.2
theorem OwnW.nil (e : TypeId) (w : World) (B : Nat) : OwnW e w B (.slice none 0 0) [] := ⟨World.ownsRow_nil _ _ _ _, fun j => by simp [gd]⟩
theorem OwnW.cell {g n c : Nat} (h : OwnW e w B (.slice (some ⟨g, 0, none⟩) n c) l) (hn : l.length = n) : ∀ j, j < n → w.cell? ⟨g, j, none⟩ = some (.int .u32 (gd l j : Nat)) := by
  intro j hj
  subst hn
  have := h.1.cellAt j (by omega)
  rw [this, map_gd, if_pos hj]
theorem OwnW.frozen {g n c : Nat} (h : OwnW e w B (.slice (some ⟨g, 0, none⟩) n c) l) (hn : l.length = n) : ∀ j, w.frozen? ⟨g, j, none⟩ = false := fun j => by subst hn; exact h.1.frozenAt j
theorem OwnW.stored {g n c : Nat} (h : OwnW e w B (.slice (some ⟨g, 0, none⟩) n c) l) (hn : l.length = n) (k x : Nat) (hx : x < 4294967296) :
    OwnW e (w.setCell ⟨g, k, none⟩ (.int .u32 x)) B (.slice (some ⟨g, 0, none⟩) n c) (l.set k x) := by
  subst hn
  obtain ⟨h1, h3⟩ := h
  obtain ⟨r1, r2⟩ := h1.stored k (.int .u32 x)
  refine ⟨?_, ?_⟩
  · rw [List.map_set, List.length_set]; exact r1
  · intro j
    rw [gd_set]; split
    · exact hx
    · exact h3 j
theorem OwnW.num (h : OwnW e w B v l) : Num w v l := by
  obtain ⟨h1, h2⟩ := h
  have hc := fun g hg => h1.cells (g := g) hg
  have hlt := h1.lt
  rcases h1.2 with ⟨rfl, hn⟩ | ⟨g, cap, cur, rfl, hb, hh, hcap, hm, hs, ht⟩
  · have : l = [] := List.eq_nil_of_length_eq_zero hn
    subst this; exact Num.nil w
  · refine ⟨some ⟨g, 0, none⟩, cap, rfl, hcap, by unfold maxLen at hm; omega, by simp, ?_, h2⟩
    intro b off s hs'
    simp only [Option.some.injEq, Addr.mk.injEq] at hs'
    obtain ⟨rfl, rfl, rfl⟩ := hs'
    refine ⟨fun _ => ⟨(hlt g rfl).2, rfl⟩, fun j hj => ?_⟩
    have := hc g rfl j (.int .u32 (gd l j : Nat)) (by rw [map_gd, if_pos hj])
    have e2 : (⟨g, 0, none⟩ : Addr).add j = ⟨g, 0 + j, none⟩ := by unfold Addr.add; split <;> simp_all
    rw [e2] at this; exact this
theorem OwnW.head (h : OwnW e w B v l) (hn : 0 < l.length) : ∃ g c, v = .slice (some ⟨g, 0, none⟩) l.length c ∧ B ≤ g := by
  rcases h.1.2 with ⟨rfl, h0⟩ | ⟨g, cap, cur, rfl, hb, hh, hcap, hm, hs, ht⟩
  · omega
  · exact ⟨g, cap, rfl, hb⟩
theorem OwnW.block {g n c : Nat} (h : OwnW e w B (.slice (some ⟨g, 0, none⟩) n c) l) : B ≤ g ∧ g < w.heap.size := h.1.lt g rfl
theorem OwnW.alloc (h : OwnW e w B v l) (o : Obj) : OwnW e (w.alloc o) B v l := ⟨h.1.alloc o, h.2⟩
theorem OwnW.drew (h : OwnW e w B v l) : OwnW e w.drew B v l := ⟨h.1.drew, h.2⟩
/-- what is owned stays owned behind a call that leaves all blocks that were there alone -/
theorem OwnW.below {w' : World} (h : OwnW e w B v l) (hb : Below w.heap.size w w') : OwnW e w' B v l := by
  refine ⟨h.1.kept (row := none) ⟨hb.os, hb.tape, hb.output, hb.size, fun k hk _ => hb.block k hk⟩ ?_, h.2⟩
  cases hv : v.ownBlock <;> simp
theorem OwnW.base {B' : Nat} (h : OwnW e w B v l) (hB : B' ≤ B) : OwnW e w B' v l := by
  obtain ⟨⟨h1, h2⟩, h3⟩ := h
  refine ⟨⟨h1, ?_⟩, h3⟩
  rcases h2 with h2 | ⟨g, cap, cur, hv, hb, r⟩
  · exact .inl h2
  · exact .inr ⟨g, cap, cur, hv, Nat.le_trans hB hb, r⟩
end

/-- a slice literal of words -/
theorem num_lit (w : World) (e : TypeId) (cs : Array Value) (l : List Nat) (n : Nat) (hU : U32 l) (hn : l.length = n) (hs : l.length ≤ 1000000) (hcs : cs = (l.map fun x : Nat => Value.int .u32 x).toArray) :
    Num (w.alloc (.cells cs e)) (.slice (some ⟨w.heap.size, 0, none⟩) n n) l := by
  subst hcs hn
  refine ⟨some ⟨w.heap.size, 0, none⟩, l.length, rfl, Nat.le_refl _, by omega, by simp, ?_, hU⟩
  intro b off s hs'
  simp only [Option.some.injEq, Addr.mk.injEq] at hs'
  obtain ⟨rfl, rfl, rfl⟩ := hs'
  refine ⟨fun _ => ⟨by simp, rfl⟩, fun j hj => ?_⟩
  rw [Nat.zero_add, cell_of_row (w.alloc (.cells (l.map fun x : Nat => Value.int .u32 x).toArray e)) w.heap.size j _ e (0, 0) (heap_alloc_new w _)]
  have := map_gd l j
  rw [if_pos hj] at this
  simpa using this

/-- an argument that is a slice of words -/
theorem open_words {H : Type} {enc : TypeId × Value → H} {P : Program} {W : World} {t e : TypeId} {v : Value} {d : DataW H} {p : List MemPlace} {base : Nat} (ht : P.underlying t = some (.slice e)) (he : P.underlying e = some (.int .u32)) (hc : P.cellsOf e = 1)
    (hv : Value.okWide P W .any base t v) (h : DataW.Trod enc P W 0 (fun _ => true) true t v d p) : ∃ l : List Nat, Num W v l := by
  obtain ⟨a0, len, cap, rfl⟩ := okWide_slice ht hv
  obtain ⟨fuel, hf⟩ := h
  rcases open_ints ht he hc hf with ⟨hcs, hx⟩ | ⟨a, len', cap', zs, hcs, _, hl, hm, hz, hx, hcell, hwz⟩
  · have hcs' : Value.slice a0 len cap = .slice none 0 0 := by simpa [Value.cells] using hcs
    rw [hcs']; exact ⟨[], Num.nil W⟩
  · have hcs' : Value.slice a0 len cap = .slice (some a) len' cap' := by simpa [Value.cells] using hcs
    rw [hcs']
    have hz' : len' ≤ zs.length := by rw [hz]; simp; exact hl
    have hgd : ∀ j, j < len' → gd ((zs.take len').map Int.toNat) j = (zs.getD j 0).toNat := fun j hj => by
      simp [gd, List.getD_eq_getElem?_getD, hj, show j < zs.length by omega]
    have hwf : ∀ j, j < zs.length → 0 ≤ zs.getD j 0 ∧ zs.getD j 0 < 4294967296 := fun j hj => by
      have hmem : zs.getD j 0 ∈ zs := by rw [List.getD_eq_getElem?_getD, List.getElem?_eq_getElem hj]; exact List.getElem_mem hj
      have := hwz _ hmem
      simp only [Lit.wf, Bool.and_eq_true, decide_eq_true_eq] at this
      have h1 : IntKind.u32.min = 0 := by decide
      have h2 : IntKind.u32.max = 4294967296 - 1 := by decide
      rw [h1, h2] at this; omega
    have hlen : ((zs.take len').map Int.toNat).length = len' := by rw [List.length_map, List.length_take]; omega
    refine ⟨(zs.take len').map Int.toNat, some a, cap', by rw [hlen], by omega, by unfold maxLen at hm; omega, by simp, ?_, ?_⟩
    · intro b off s hs
      obtain rfl : a = ⟨b, off, s⟩ := Option.some.inj hs
      have h0 : 0 < len' → b < W.heap.size ∧ s = none := fun h0 => by
        have := hcell 0 (by omega)
        have e0 : (⟨b, off, s⟩ : Addr).add 0 = ⟨b, off, s⟩ := by simp [Addr.add]
        rw [e0] at this
        refine ⟨World.block_lt_of_cell? W _ this, ?_⟩
        cases s with
        | none => rfl
        | some x =>
          unfold World.cell? at this
          split at this <;> simp at this
      refine ⟨fun hh => h0 (by omega), fun j hj => ?_⟩
      rw [hlen] at hj
      obtain ⟨_, rfl⟩ := h0 (by omega)
      have := hcell j (by omega)
      have e2 : (⟨b, off, none⟩ : Addr).add j = ⟨b, off + j, none⟩ := by unfold Addr.add; split <;> simp_all
      rw [e2] at this
      rw [this, hgd j hj]
      have := hwf j (by omega)
      congr 2; omega
    · intro j
      by_cases hj : j < len'
      · rw [hgd j hj]; have := hwf j (by omega); omega
      · rw [gd_over _ _ (by omega)]; omega

/-- the facts on a slice type and its element type -/
structure SliceTy (P : Program) (t e : TypeId) (z : Value) (size bytes : Nat) : Prop where
  under : P.underlying t = some (.slice e)
  info : ∃ i, P.info? e = some i ∧ i.zero = some z ∧ i.size = size ∧ i.bytes = bytes

theorem SliceTy.mk' {P : Program} {t e : TypeId} {z : Value} {size bytes : Nat} (h1 : P.underlying t = some (.slice e))
    (h2 : (P.info? e).map (fun i => (i.zero, i.size, i.bytes)) = some (some z, size, bytes)) : SliceTy P t e z size bytes := ⟨h1, info_parts h2⟩

section
variable {P : Program} {w : World} {ops : Array Oper} {rest : List Oper} {o : Oper} {a : Act} {Q : Exit → Act → World → Prop} {t e : TypeId}
/-- 'make([]uint32, n)' -/
theorem wpList_makeN (T : SliceTy P t e (.int .u32 0) 1 4)
    (hg : o.guard = none) (l c : Operand) (hop : o.op = Op.makeSlice t l c)
    (kl kc : IntKind) (L C : Int) (n : Nat) (hl : a.eval l = .int kl L) (hc : a.eval c = .int kc C) (hL : L = (n : Int)) (hC : C = (n : Int)) (hn : n ≤ 70368744177664)
    (hK : ∀ w', OwnW e w' w.heap.size (.slice (some ⟨w.heap.size, 0, none⟩) n n) (List.replicate n 0) → Below w.heap.size w w' → w.heap.size < w'.heap.size →
      wpList P ops Q rest (a.put o.dst (.slice (some ⟨w.heap.size, 0, none⟩) n n)) w') :
    wpList P ops Q (o :: rest) a w := by
  obtain ⟨i0, hi, hz0, hz1, hz2⟩ := T.info
  refine wpList_make_full w hg l c t hop w.heap.size e i0 (.int .u32 0) 1 T.under hi hz0 hz1 kl kc L C n hl hc hL hC (by rw [hz2]; omega) (by unfold maxLen; omega) (Nat.le_refl _) ?_
  intro w1 h1 h2
  refine hK w1 ⟨?_, ?_⟩ ((Below.refl _ _).grown h2 (Nat.le_refl _) (by simp)) (h1.lt _ rfl).2
  · have e1 : (Value.int IntKind.u32 0).cells = #[.int .u32 0] := rfl
    rw [e1, Nat.mul_one, toList_madeCells_one] at h1
    rw [List.map_replicate, List.length_replicate]; exact h1
  · intro j; rw [gd_replicate]; split <;> omega

theorem run_appendN (T : SliceTy P t e (.int .u32 0) 1 4) (ty : TypeId) (B : Nat) (v xv : Value) (l m : List Nat) (hown : OwnW e w B v l) (hm : Num w xv m)
    (hlen : l.length + m.length ≤ 17592186044416) (hB : B ≤ w.heap.size) :
    ∃ v' w', (Builtin.append_ #[t, t] ty #[v, xv]).run P w = .ok v' w' ∧ OwnW e w' B v' (l ++ m) ∧ w.grownBy w' v.ownBlock := by
  obtain ⟨i0, hi, hz0, hz1, hz2⟩ := T.info
  obtain ⟨ao, c, rfl, h1, h2, h3, h4, h5⟩ := hm
  have hU : U32 (l ++ m) := by
    intro j; rw [gd_append]; split
    · exact hown.2 j
    · exact h5 _
  cases hao : ao with
  | none =>
    have hc0 := h3 hao
    have hm0 : m = [] := List.eq_nil_of_length_eq_zero (by omega)
    subst hm0 hc0
    have hrun := run_append_owned_none (P := P) w B t ty e i0 1 T.under hi v _ _ hown.1
    refine ⟨v, w, hrun, ?_, World.grownBy.refl _ _⟩
    rw [List.append_nil]; exact hown
  | some ad =>
    obtain ⟨b, off, sp⟩ := ad
    obtain ⟨k1, k3⟩ := h4 b off sp hao
    have hnews : ∀ j u, (m.map fun x : Nat => Value.int .u32 x)[j]? = some u → w.cell? ((⟨b, off, sp⟩ : Addr).add j) = some u := by
      intro j u hu
      rw [map_gd] at hu
      split at hu
      · rename_i hj
        have := (k1 (by omega)).2; subst this
        have e2 : (⟨b, off, none⟩ : Addr).add j = ⟨b, off + j, none⟩ := by unfold Addr.add; split <;> simp_all
        rw [e2, k3 j hj]; exact hu
      · cases hu
    obtain ⟨v', w', r1, r2, r3, _⟩ := run_append_own (P := P) w B t ty e i0 (.int .u32 0) 1 4 T.under hi hz0 hz1 hz2 rfl (by decide) v _ _ hown.1 ⟨b, off, sp⟩ m.length c (m.map fun x : Nat => Value.int .u32 x) (by simp) hnews
      (by intro u hu; obtain ⟨x, _, rfl⟩ := List.mem_map.1 hu; rfl) (by unfold maxLen; omega) (by omega) hB
    refine ⟨v', w', r1, ⟨?_, hU⟩, r3⟩
    rw [List.map_append, List.length_append]; exact r2
/-- 'append(s, x...)': s the call's own, x any slice of words -/
theorem wpList_appendN (T : SliceTy P t e (.int .u32 0) 1 4)
    (hg : o.guard = none) (s x : Operand) (hop : o.op = Op.call { callee := Callee.builtin Builtin.append, args := #[s, x], argTypes := #[t, t] })
    (B : Nat) (v xv : Value) (l m : List Nat) (hs : a.eval s = v) (hx : a.eval x = xv) (hown : OwnW e w B v l) (hm : Num w xv m)
    (hlen : l.length + m.length ≤ 17592186044416) (hB : B ≤ w.heap.size)
    (hK : ∀ v' w', OwnW e w' B v' (l ++ m) → (∀ w0, Below B w0 w → Below B w0 w') → w.heap.size ≤ w'.heap.size →
      wpList P ops Q rest (a.put o.dst v') w') :
    wpList P ops Q (o :: rest) a w := by
  refine wpList_plain hg fun K hK' => ?_
  have key := run_appendN T o.type B v xv l m hown hm hlen hB
  obtain ⟨v', w', hrun, r1, r2⟩ := key
  unfold Oper.wp
  simp [execOp, hop, resolve, invoke, builtin, hs, hx, hrun, Result.andThen]
  refine hK' _ _ (hK v' w' r1 (fun w0 h0 => h0.grown r2 hB ?_) r2.size)
  intro k hk
  exact (hown.1.lt k hk).1
end

section
variable {P : Program} (w : World)
@[go_sem 2000] theorem run_max_int2' (ts : Array TypeId) (t : TypeId) (k k' : IntKind) (x y : Int) : (Builtin.max_ ts t #[.int k x, .int k' y]).run P w = .ok (.int k (max x y)) w := by
  rw [run_max_int2]; congr 2; rw [Int.max_def]; split <;> split <;> omega
@[go_sem 2000] theorem run_min_int2' (ts : Array TypeId) (t : TypeId) (k k' : IntKind) (x y : Int) : (Builtin.min_ ts t #[.int k x, .int k' y]).run P w = .ok (.int k (min x y)) w := by
  simp only [Builtin.min_, Builtin.min2, List.foldlM]
  simp only [Sem.run_bind, Sem.run_pure, Result.andThen_ok]
  congr 2; rw [Int.min_def]; split <;> split <;> omega
end
end Go.Proofs.YtdepoikifneggaaDoor
