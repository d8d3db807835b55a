/-
  Laws for statements that make slices of words and append to them in an order that Go leaves open.
  Conditions: each theorem's own.
-/
import Derived.Test.YtdepoikifneggaaDoorNat12
import Derived.Deep.RegionHeld3
import Derived.Deep.DeepCutAuto
namespace Go.Proofs.YtdepoikifneggaaDoor
open Go.RowKit Go.ChangeShapes Go.WideShapes

/-- the cells of a fresh slice of n words -/
def freshW (n : Nat) : Array Value := madeCells #[.int .u32 0] n
theorem run_makeW (wx : World) (n : Nat) (hn : n ≤ 70368744177664) :
    (Instr.makeSlice 22 (.int .i64 (n : Int)) (.int .i64 (n : Int))).run Tryd.prog wx = .ok (.slice (some ⟨wx.heap.size, 0, none⟩) n n) (wx.alloc (.cells (freshW n) 38)) := by
  obtain ⟨i0, hi, hz0, hz1, hz2⟩ := Tryd.wordsTy.info
  have h := run_make (P := Tryd.prog) wx 22 38 i0 (.int .u32 0) Tryd.wordsTy.under hi hz0 .i64 .i64 (n : Int) (n : Int) (by omega) (Int.le_refl _) (by rw [hz2]; omega) (by omega)
  rw [h, Int.toNat_natCast, hz1, Nat.mul_one]; rfl
theorem own_made (w : World) (B n : Nat) (hB : B ≤ w.heap.size) (hn : n ≤ 70368744177664) :
    OwnW 38 (w.alloc (.cells (freshW n) 38)) B (.slice (some ⟨w.heap.size, 0, none⟩) n n) (List.replicate n 0) := by
  have e : (freshW n).toList = List.replicate n (.int .u32 0) := by unfold freshW; rw [toList_madeCells_one]
  have hs : (freshW n).size = n := by rw [← Array.length_toList, e, List.length_replicate]
  refine ⟨⟨by simp, .inr ⟨w.heap.size, n, _, ?_, hB, heap_alloc_new w _, ?_, ?_, ?_, ?_⟩⟩, U32.replicate n (by decide)⟩
  · rw [List.length_replicate]
  · rw [List.length_replicate]; exact Nat.le_refl _
  · unfold maxLen; omega
  · rw [Nat.mul_one]; exact hs
  · rw [e, List.map_replicate, List.length_replicate, Nat.mul_one, List.take_of_length_le (by simp)]; rfl

section
variable {P : Program} {w : World} {ops : Array Oper} {o : Oper} {a : Act} {K : Act → World → Prop} {Q : Exit → Act → World → Prop} {E : Prop} {t e : TypeId}
/-- 'append(s, x...)' as one step of a region that draws: s the call's own, x any slice of words -/
theorem step_appendN (T : SliceTy P t e (.int .u32 0) 1 4)
    (hg : o.guard = none) (s x : Operand) (hop : o.op = Op.call { callee := Callee.builtin Builtin.append, args := #[s, x], argTypes := #[t, t] })
    (B : Nat) (v xv : Value) (l m : List Nat) (hs : a.eval s = v) (hx : a.eval x = xv) (hown : OwnW e w B v l) (hm : Num w xv m)
    (hlen : l.length + m.length ≤ 17592186044416) (hB : B ≤ w.heap.size)
    (hK : ∀ v' w', OwnW e w' B v' (l ++ m) → (∀ w0, Below B w0 w → Below B w0 w') → w.heap.size ≤ w'.heap.size → K (a.put o.dst v') w') :
    if Region.wanted o (yielded ops a.tmps) = true then Oper.wp P o a w K Q else E := by
  have hw : Region.wanted o (yielded ops a.tmps) = true := by simp [Region.wanted, hg]
  rw [if_pos hw]
  have key : ∃ v' w', (Builtin.append_ #[t, t] o.type #[v, xv]).run P w = .ok v' w' ∧ OwnW e w' B v' (l ++ m) ∧ w.grownBy w' v.ownBlock := run_appendN T o.type B v xv l m hown hm hlen hB
  obtain ⟨v', w', hrun, r1, r2⟩ := key
  unfold Oper.wp
  simp [execOp, hop, resolve, invoke, builtin, hs, hx, hrun, Result.andThen]
  refine hK v' w' r1 (fun w0 h0 => h0.grown r2 hB ?_) r2.size
  intro k hk
  exact (hown.1.lt k hk).1
/-- 'append(s, x...)' as one step of a region that draws, and what else stays: s the call's own, x any slice of words -/
theorem step_appendN2 (T : SliceTy P t e (.int .u32 0) 1 4)
    (hg : o.guard = none) (s x : Operand) (hop : o.op = Op.call { callee := Callee.builtin Builtin.append, args := #[s, x], argTypes := #[t, t] })
    (B : Nat) (v xv : Value) (l m : List Nat) (hs : a.eval s = v) (hx : a.eval x = xv) (hown : OwnW e w B v l) (hm : Num w xv m)
    (hlen : l.length + m.length ≤ 17592186044416) (hB : B ≤ w.heap.size)
    (hK : ∀ v' w', OwnW e w' B v' (l ++ m) → (∀ w0, Below B w0 w → Below B w0 w') → w.heap.size ≤ w'.heap.size → w.grownBy w' v.ownBlock → K (a.put o.dst v') w') :
    if Region.wanted o (yielded ops a.tmps) = true then Oper.wp P o a w K Q else E := by
  have hw : Region.wanted o (yielded ops a.tmps) = true := by simp [Region.wanted, hg]
  rw [if_pos hw]
  have key : ∃ v' w', (Builtin.append_ #[t, t] o.type #[v, xv]).run P w = .ok v' w' ∧ OwnW e w' B v' (l ++ m) ∧ w.grownBy w' v.ownBlock := run_appendN T o.type B v xv l m hown hm hlen hB
  obtain ⟨v', w', hrun, r1, r2⟩ := key
  unfold Oper.wp
  simp [execOp, hop, resolve, invoke, builtin, hs, hx, hrun, Result.andThen]
  refine hK v' w' r1 (fun w0 h0 => h0.grown r2 hB ?_) r2.size r2
  intro k hk
  exact (hown.1.lt k hk).1
end
end Go.Proofs.YtdepoikifneggaaDoor
