/-
  Slices of bytes: the laws on slices of words, turned to bytes.
  Conditions: each theorem's own.
-/
import Derived.Test.YtfmkpaegpiipoaaLib
namespace Go.Proofs.Ytfmkpaegpiipoaa
open Go.RowKit Go.ChangeShapes Go.WideShapes

/-- all bytes of a list fit 8 bits -/
def U8 (l : List Nat) : Prop := ∀ j, gd l j < 256

/-- the slice value v reads as the bytes l in w -/
def Byt (w : World) (v : Value) (l : List Nat) : Prop :=
  ∃ ao c, v = .slice ao l.length c ∧ l.length ≤ c ∧ c ≤ 9223372036854775807 ∧ (ao = none → c = 0) ∧
    (∀ b off s, ao = some ⟨b, off, s⟩ → (0 < l.length → b < w.heap.size ∧ s = none) ∧ ∀ j, j < l.length → w.cell? ⟨b, off + j, none⟩ = some (.int .u8 (gd l j : Nat))) ∧
    U8 l
theorem Byt.mono {w w' : World} {v : Value} {l : List Nat} {B : Nat} (h : Byt w v l) (hb : Below B w w') (hB : w.heap.size ≤ B) : Byt w' v l := by
  obtain ⟨ao, c, rfl, h1, h2, h3, h4, h5⟩ := h
  refine ⟨ao, c, rfl, h1, h2, h3, ?_, h5⟩
  intro b off s hs
  obtain ⟨k1, k3⟩ := h4 b off s hs
  refine ⟨fun h0 => ⟨Nat.lt_of_lt_of_le (k1 h0).1 hb.size, (k1 h0).2⟩, fun j hj => ?_⟩
  rw [hb.cell (p := ⟨b, off + j, none⟩) (Nat.lt_of_lt_of_le (k1 (by omega)).1 hB)]
  exact k3 j hj
theorem Byt.below {w w' : World} {v : Value} {l : List Nat} (h : Byt w v l) (hb : Below w.heap.size w w') : Byt w' v l := h.mono hb (Nat.le_refl _)
theorem Byt.shape {w : World} {v : Value} {l : List Nat} (h : Byt w v l) : ∃ ao c, v = .slice ao l.length c ∧ l.length ≤ c ∧ c ≤ 9223372036854775807 ∧ (ao = none → c = 0) := by
  obtain ⟨ao', c', e, h1, h2, h3, h4, h5⟩ := h
  exact ⟨ao', c', e, h1, h2, h3⟩
theorem Byt.at {w : World} {ao : Option Addr} {n c : Nat} {l : List Nat} (h : Byt w (.slice ao n c) l) (hn : 0 < n) :
    ∃ b off, ao = some ⟨b, off, none⟩ ∧ b < w.heap.size ∧ ∀ j, j < n → w.cell? ⟨b, off + j, none⟩ = some (.int .u8 (gd l j : Nat)) := by
  obtain ⟨ao', c', e, h1, h2, h3, h4, h5⟩ := h
  cases e
  cases hao : ao with
  | none => have := h3 hao; omega
  | some a =>
    obtain ⟨b, off, s⟩ := a
    obtain ⟨k1, k3⟩ := h4 b off s hao
    obtain ⟨k0, rfl⟩ := k1 hn
    exact ⟨b, off, rfl, k0, k3⟩
theorem Byt.lt {w : World} {v : Value} {l : List Nat} (h : Byt w v l) : U8 l := by
  obtain ⟨ao', c', e, h1, h2, h3, h4, h5⟩ := h
  exact h5
theorem Byt.nil (w : World) : Byt w (.slice none 0 0) [] := ⟨none, 0, rfl, Nat.le_refl _, by omega, by simp, by simp, fun j => by simp [gd]⟩

theorem map_gb (l : List Nat) (j : Nat) : (l.map fun x : Nat => Value.int .u8 x)[j]? = if j < l.length then some (.int .u8 (gd l j : Nat)) else none := by
  by_cases h : j < l.length <;> simp [gd, h]

/-- a slice of bytes of the call's own, in blocks from B on: v is nil and empty, or v lies at the head of its block; room for c bytes -/
def OwnB (e : TypeId) (w : World) (B : Nat) (v : Value) (l : List Nat) : Prop :=
  w.ownsRow B e 1 v l.length (l.map fun x : Nat => Value.int .u8 x) ∧ U8 l

section
variable {e : TypeId} {w : World} {B : Nat} {v : Value} {l : List Nat}
theorem OwnB.lt (h : OwnB e w B v l) : U8 l := h.2
theorem OwnB.nil (e : TypeId) (w : World) (B : Nat) : OwnB e w B (.slice none 0 0) [] := ⟨World.ownsRow_nil _ _ _ _, fun j => by simp [gd]⟩
theorem OwnB.cell {g n c : Nat} (h : OwnB e w B (.slice (some ⟨g, 0, none⟩) n c) l) (hn : l.length = n) : ∀ j, j < n → w.cell? ⟨g, j, none⟩ = some (.int .u8 (gd l j : Nat)) := by
  intro j hj
  subst hn
  have := h.1.cellAt j (by omega)
  rw [this, map_gb, if_pos hj]
theorem OwnB.frozen {g n c : Nat} (h : OwnB e w B (.slice (some ⟨g, 0, none⟩) n c) l) (hn : l.length = n) : ∀ j, w.frozen? ⟨g, j, none⟩ = false := fun j => by subst hn; exact h.1.frozenAt j
theorem OwnB.stored {g n c : Nat} (h : OwnB e w B (.slice (some ⟨g, 0, none⟩) n c) l) (hn : l.length = n) (k x : Nat) (hx : x < 256) :
    OwnB e (w.setCell ⟨g, k, none⟩ (.int .u8 x)) B (.slice (some ⟨g, 0, none⟩) n c) (l.set k x) := by
  subst hn
  obtain ⟨h1, h3⟩ := h
  obtain ⟨r1, r2⟩ := h1.stored k (.int .u8 x)
  refine ⟨?_, ?_⟩
  · rw [List.map_set, List.length_set]; exact r1
  · intro j
    rw [gd_set]; split
    · exact hx
    · exact h3 j
theorem OwnB.num (h : OwnB e w B v l) : Byt w v l := by
  obtain ⟨h1, h2⟩ := h
  have hc := fun g hg => h1.cells (g := g) hg
  have hlt := h1.lt
  rcases h1.2 with ⟨rfl, hn⟩ | ⟨g, cap, cur, rfl, hb, hh, hcap, hm, hs, ht⟩
  · have : l = [] := List.eq_nil_of_length_eq_zero hn
    subst this; exact Byt.nil w
  · refine ⟨some ⟨g, 0, none⟩, cap, rfl, hcap, by unfold maxLen at hm; omega, by simp, ?_, h2⟩
    intro b off s hs'
    simp only [Option.some.injEq, Addr.mk.injEq] at hs'
    obtain ⟨rfl, rfl, rfl⟩ := hs'
    refine ⟨fun _ => ⟨(hlt g rfl).2, rfl⟩, fun j hj => ?_⟩
    have := hc g rfl j (.int .u8 (gd l j : Nat)) (by rw [map_gb, if_pos hj])
    have e2 : (⟨g, 0, none⟩ : Addr).add j = ⟨g, 0 + j, none⟩ := by unfold Addr.add; split <;> simp_all
    rw [e2] at this; exact this
theorem OwnB.head (h : OwnB e w B v l) (hn : 0 < l.length) : ∃ g c, v = .slice (some ⟨g, 0, none⟩) l.length c ∧ B ≤ g := by
  rcases h.1.2 with ⟨rfl, h0⟩ | ⟨g, cap, cur, rfl, hb, hh, hcap, hm, hs, ht⟩
  · omega
  · exact ⟨g, cap, rfl, hb⟩
theorem OwnB.block {g n c : Nat} (h : OwnB e w B (.slice (some ⟨g, 0, none⟩) n c) l) : B ≤ g ∧ g < w.heap.size := h.1.lt g rfl
theorem OwnB.alloc (h : OwnB e w B v l) (o : Obj) : OwnB e (w.alloc o) B v l := ⟨h.1.alloc o, h.2⟩
theorem OwnB.drew (h : OwnB e w B v l) : OwnB e w.drew B v l := ⟨h.1.drew, h.2⟩
/-- what is owned stays owned behind a call that leaves all blocks that were there alone -/
theorem OwnB.below {w' : World} (h : OwnB e w B v l) (hb : Below w.heap.size w w') : OwnB e w' B v l := by
  refine ⟨h.1.kept (row := none) ⟨hb.os, hb.tape, hb.output, hb.size, fun k hk _ => hb.block k hk⟩ ?_, h.2⟩
  cases hv : v.ownBlock <;> simp
theorem OwnB.base {B' : Nat} (h : OwnB e w B v l) (hB : B' ≤ B) : OwnB e w B' v l := by
  obtain ⟨⟨h1, h2⟩, h3⟩ := h
  refine ⟨⟨h1, ?_⟩, h3⟩
  rcases h2 with h2 | ⟨g, cap, cur, hv, hb, r⟩
  · exact .inl h2
  · exact .inr ⟨g, cap, cur, hv, Nat.le_trans hB hb, r⟩
end

/-- a slice literal of bytes -/
theorem byt_lit (w : World) (e : TypeId) (cs : Array Value) (l : List Nat) (n : Nat) (hU : U8 l) (hn : l.length = n) (hs : l.length ≤ 1000000) (hcs : cs = (l.map fun x : Nat => Value.int .u8 x).toArray) :
    Byt (w.alloc (.cells cs e)) (.slice (some ⟨w.heap.size, 0, none⟩) n n) l := by
  subst hcs hn
  refine ⟨some ⟨w.heap.size, 0, none⟩, l.length, rfl, Nat.le_refl _, by omega, by simp, ?_, hU⟩
  intro b off s hs'
  simp only [Option.some.injEq, Addr.mk.injEq] at hs'
  obtain ⟨rfl, rfl, rfl⟩ := hs'
  refine ⟨fun _ => ⟨by simp, rfl⟩, fun j hj => ?_⟩
  rw [Nat.zero_add, cell_of_row (w.alloc (.cells (l.map fun x : Nat => Value.int .u8 x).toArray e)) w.heap.size j _ e (0, 0) (heap_alloc_new w _)]
  have := map_gb l j
  rw [if_pos hj] at this
  simpa using this

/-- an argument that is a slice of bytes -/
theorem open_bytes {H : Type} {enc : TypeId × Value → H} {P : Program} {W : World} {t e : TypeId} {v : Value} {d : DataW H} {p : List MemPlace} {base : Nat} (ht : P.underlying t = some (.slice e)) (he : P.underlying e = some (.int .u8)) (hc : P.cellsOf e = 1)
    (hv : Value.okWide P W .any base t v) (h : DataW.Trod enc P W 0 (fun _ => true) true t v d p) : ∃ l : List Nat, Byt W v l := by
  obtain ⟨a0, len, cap, rfl⟩ := okWide_slice ht hv
  obtain ⟨fuel, hf⟩ := h
  rcases open_ints ht he hc hf with ⟨hcs, hx⟩ | ⟨a, len', cap', zs, hcs, _, hl, hm, hz, hx, hcell, hwz⟩
  · have hcs' : Value.slice a0 len cap = .slice none 0 0 := by simpa [Value.cells] using hcs
    rw [hcs']; exact ⟨[], Byt.nil W⟩
  · have hcs' : Value.slice a0 len cap = .slice (some a) len' cap' := by simpa [Value.cells] using hcs
    rw [hcs']
    have hz' : len' ≤ zs.length := by rw [hz]; simp; exact hl
    have hgd : ∀ j, j < len' → gd ((zs.take len').map Int.toNat) j = (zs.getD j 0).toNat := fun j hj => by
      simp [gd, List.getD_eq_getElem?_getD, hj, show j < zs.length by omega]
    have hwf : ∀ j, j < zs.length → 0 ≤ zs.getD j 0 ∧ zs.getD j 0 < 256 := fun j hj => by
      have hmem : zs.getD j 0 ∈ zs := by rw [List.getD_eq_getElem?_getD, List.getElem?_eq_getElem hj]; exact List.getElem_mem hj
      have := hwz _ hmem
      simp only [Lit.wf, Bool.and_eq_true, decide_eq_true_eq] at this
      have h1 : IntKind.u8.min = 0 := by decide
      have h2 : IntKind.u8.max = 256 - 1 := by decide
      rw [h1, h2] at this; omega
    have hlen : ((zs.take len').map Int.toNat).length = len' := by rw [List.length_map, List.length_take]; omega
    refine ⟨(zs.take len').map Int.toNat, some a, cap', by rw [hlen], by omega, by unfold maxLen at hm; omega, by simp, ?_, ?_⟩
    · intro b off s hs
      obtain rfl : a = ⟨b, off, s⟩ := Option.some.inj hs
      have h0 : 0 < len' → b < W.heap.size ∧ s = none := fun h0 => by
        have := hcell 0 (by omega)
        have e0 : (⟨b, off, s⟩ : Addr).add 0 = ⟨b, off, s⟩ := by simp [Addr.add]
        rw [e0] at this
        refine ⟨World.block_lt_of_cell? W _ this, ?_⟩
        cases s with
        | none => rfl
        | some x =>
          unfold World.cell? at this
          split at this <;> simp at this
      refine ⟨fun hh => h0 (by omega), fun j hj => ?_⟩
      rw [hlen] at hj
      obtain ⟨_, rfl⟩ := h0 (by omega)
      have := hcell j (by omega)
      have e2 : (⟨b, off, none⟩ : Addr).add j = ⟨b, off + j, none⟩ := by unfold Addr.add; split <;> simp_all
      rw [e2] at this
      rw [this, hgd j hj]
      have := hwf j (by omega)
      congr 2; omega
    · intro j
      by_cases hj : j < len'
      · rw [hgd j hj]; have := hwf j (by omega); omega
      · rw [gd_over _ _ (by omega)]; omega

section
variable {P : Program} {w : World} {ops : Array Oper} {rest : List Oper} {o : Oper} {a : Act} {Q : Exit → Act → World → Prop} {t e : TypeId}
/-- 'make([]uint8, n)' -/
theorem wpList_makeB (T : SliceTy P t e (.int .u8 0) 1 1)
    (hg : o.guard = none) (l c : Operand) (hop : o.op = Op.makeSlice t l c)
    (kl kc : IntKind) (L C : Int) (n : Nat) (hl : a.eval l = .int kl L) (hc : a.eval c = .int kc C) (hL : L = (n : Int)) (hC : C = (n : Int)) (hn : n ≤ 70368744177664)
    (hK : ∀ w', OwnB e w' w.heap.size (.slice (some ⟨w.heap.size, 0, none⟩) n n) (List.replicate n 0) → Below w.heap.size w w' → w.heap.size < w'.heap.size →
      wpList P ops Q rest (a.put o.dst (.slice (some ⟨w.heap.size, 0, none⟩) n n)) w') :
    wpList P ops Q (o :: rest) a w := by
  obtain ⟨i0, hi, hz0, hz1, hz2⟩ := T.info
  refine wpList_make_full w hg l c t hop w.heap.size e i0 (.int .u8 0) 1 T.under hi hz0 hz1 kl kc L C n hl hc hL hC (by rw [hz2]; omega) (by unfold maxLen; omega) (Nat.le_refl _) ?_
  intro w1 h1 h2
  refine hK w1 ⟨?_, ?_⟩ ((Below.refl _ _).grown h2 (Nat.le_refl _) (by simp)) (h1.lt _ rfl).2
  · have e1 : (Value.int IntKind.u8 0).cells = #[.int .u8 0] := rfl
    rw [e1, Nat.mul_one, toList_madeCells_one] at h1
    rw [List.map_replicate, List.length_replicate]; exact h1
  · intro j; rw [gd_replicate]; split <;> omega

/-- 'append(s, x...)': s the call's own, x any slice of bytes -/
theorem wpList_appendB (T : SliceTy P t e (.int .u8 0) 1 1)
    (hg : o.guard = none) (s x : Operand) (hop : o.op = Op.call { callee := Callee.builtin Builtin.append, args := #[s, x], argTypes := #[t, t] })
    (B : Nat) (v xv : Value) (l m : List Nat) (hs : a.eval s = v) (hx : a.eval x = xv) (hown : OwnB e w B v l) (hm : Byt w xv m)
    (hlen : l.length + m.length ≤ 17592186044416) (hB : B ≤ w.heap.size)
    (hK : ∀ v' w', OwnB e w' B v' (l ++ m) → (∀ w0, Below B w0 w → Below B w0 w') → w.heap.size ≤ w'.heap.size →
      wpList P ops Q rest (a.put o.dst v') w') :
    wpList P ops Q (o :: rest) a w := by
  obtain ⟨i0, hi, hz0, hz1, hz2⟩ := T.info
  refine wpList_plain hg fun K hK' => ?_
  have key : ∃ v' w', (Builtin.append_ #[t, t] o.type #[v, xv]).run P w = .ok v' w' ∧ OwnB e w' B v' (l ++ m) ∧ w.grownBy w' v.ownBlock := by
    obtain ⟨ao, c, rfl, h1, h2, h3, h4, h5⟩ := hm
    have hU : U8 (l ++ m) := by
      intro j; rw [gd_append]; split
      · exact hown.2 j
      · exact h5 _
    cases hao : ao with
    | none =>
      have hc0 := h3 hao
      have hm0 : m = [] := List.eq_nil_of_length_eq_zero (by omega)
      subst hm0 hc0
      have hrun := run_append_owned_none (P := P) w B t o.type e i0 1 T.under hi v _ _ hown.1
      refine ⟨v, w, hrun, ?_, World.grownBy.refl _ _⟩
      rw [List.append_nil]; exact hown
    | some ad =>
      obtain ⟨b, off, sp⟩ := ad
      obtain ⟨k1, k3⟩ := h4 b off sp hao
      have hnews : ∀ j u, (m.map fun x : Nat => Value.int .u8 x)[j]? = some u → w.cell? ((⟨b, off, sp⟩ : Addr).add j) = some u := by
        intro j u hu
        rw [map_gb] at hu
        split at hu
        · rename_i hj
          have := (k1 (by omega)).2; subst this
          have e2 : (⟨b, off, none⟩ : Addr).add j = ⟨b, off + j, none⟩ := by unfold Addr.add; split <;> simp_all
          rw [e2, k3 j hj]; exact hu
        · cases hu
      obtain ⟨v', w', r1, r2, r3, _⟩ := run_append_own (P := P) w B t o.type e i0 (.int .u8 0) 1 1 T.under hi hz0 hz1 hz2 rfl (by decide) v _ _ hown.1 ⟨b, off, sp⟩ m.length c (m.map fun x : Nat => Value.int .u8 x) (by simp) hnews
        (by intro u hu; obtain ⟨x, _, rfl⟩ := List.mem_map.1 hu; rfl) (by unfold maxLen; omega) (by omega) hB
      refine ⟨v', w', r1, ⟨?_, hU⟩, r3⟩
      rw [List.map_append, List.length_append]; exact r2
  obtain ⟨v', w', hrun, r1, r2⟩ := key
  unfold Oper.wp
  simp [execOp, hop, resolve, invoke, builtin, hs, hx, hrun, Result.andThen]
  refine hK' _ _ (hK v' w' r1 (fun w0 h0 => h0.grown r2 hB ?_) r2.size)
  intro k hk
  exact (hown.1.lt k hk).1
end


/-- the text of a list of bytes -/
def strOf (l : List Nat) : ByteArray := ⟨(l.map UInt8.ofNat).toArray⟩
theorem strOf_size (l : List Nat) : (strOf l).size = l.length := by simp [strOf, ByteArray.size]
theorem strOf_nums (l : List Nat) : strOfNums (l.map fun x : Nat => (x : Int)) = strOf l := by
  simp [strOf, strOfNums]
/-- 'string(b)' of a slice of bytes that is not nil -/
theorem run_bytes_to_string {P : Program} {w : World} {b off len cap : Nat} {l : List Nat} (src e dst : TypeId) (hs : P.underlying src = some (.slice e)) (he : P.underlying e = some (.int .u8)) (hd : P.underlying dst = some .string)
    (hlen : l.length = len) (hc : ∀ i, i < len → w.cell? ⟨b, off + i, none⟩ = some (.int .u8 (gd l i : Nat))) :
    (convert src dst (.slice (some ⟨b, off, none⟩) len cap)).run P w = .ok (.string (strOf l)) w := by
  rw [← strOf_nums]
  refine run_convert_bytes_arg w src e hs he b off len cap _ (by simpa using hlen) (fun i hi => ?_) dst hd
  rw [hc i hi]
  simp [gd, List.getD_eq_getElem?_getD, show i < l.length by omega]
end Go.Proofs.Ytfmkpaegpiipoaa
