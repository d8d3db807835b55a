/-
  The texts OwnL, Span7, OpenR, OpenS, Close, one behind the other (what the law leans on).
  Conditions: each theorem's own.
-/
import Derived.Laws.AppendOwn
import Derived.Lib.SmallJoins
import Derived.Carry
import Derived.ShutString
import Derived.OpenShut
import Derived.Test.YtaefimegiobkmaaGreatDoorMB5
/-
  A list of the call's own whose cells hold no words: append, and what an append leaves as it was.
  Conditions: each theorem's own.
-/
namespace Go.Proofs.YtaefimegiobkmaaGreatDoor
open Go.RowKit Go.ChangeShapes Go.WideShapes

/-- no word among the values -/
def noU (l : List Value) : Prop := ∀ u ∈ l, ∀ n, u ≠ .int .u32 n
theorem noW_noU {cs : Array Value} (h : noU cs.toList) : noW cs := by
  intro j n hj
  have hm : Value.int .u32 n ∈ cs.toList := by
    obtain ⟨hlt, e⟩ := Array.getElem?_eq_some_iff.1 hj
    rw [← e]; simp
  exact h _ hm n rfl
theorem noU_app {a b : List Value} (h1 : noU a) (h2 : noU b) : noU (a ++ b) := by
  intro u hu
  rcases List.mem_append.1 hu with h | h
  · exact h1 u h
  · exact h2 u h
theorem noU_take {a : List Value} (h : noU a) (n : Nat) : noU (a.take n) := fun u hu => h u (List.mem_of_mem_take hu)
theorem noU_drop {a : List Value} (h : noU a) (n : Nat) : noU (a.drop n) := fun u hu => h u (List.mem_of_mem_drop hu)
theorem noU_zeros {z : Array Value} (h : noU z.toList) (n : Nat) : noU (Builtin.zeroCells z n).toList := by
  intro u hu k
  unfold Builtin.zeroCells at hu
  simp only [Array.toList_map, List.mem_map] at hu
  obtain ⟨i, _, rfl⟩ := hu
  by_cases hi : i % z.size < z.size
  · rw [getElem!_pos z (i % z.size) hi]; exact h _ (by simp) k
  · rw [getElem!_neg z (i % z.size) hi]; exact fun e => by cases e
/-- a list of the call's own, in blocks from B on, its cells no words -/
def OwnL (w : World) (B : Nat) (e : TypeId) (size : Nat) (v : Value) (n : Nat) (xs : List Value) : Prop :=
  w.ownsRow B e size v n xs ∧ ∀ g cur, v.ownBlock = some g → w.heap[g]? = some (.cells cur e) → noU cur.toList
theorem OwnL.nil (w : World) (B : Nat) (e : TypeId) (size : Nat) : OwnL w B e size (.slice none 0 0) 0 [] := ⟨World.ownsRow_nil _ _ _ _, fun g _ h => by cases h⟩
theorem OwnL.below {w w' : World} {B : Nat} {e : TypeId} {size : Nat} {v : Value} {n : Nat} {xs : List Value} (h : OwnL w B e size v n xs) (hb : Below w.heap.size w w') : OwnL w' B e size v n xs := by
  refine ⟨World.ownsRow.kept (row := none) h.1 ⟨hb.os, hb.tape, hb.output, hb.size, fun k hk _ => hb.block k hk⟩ (by cases hv : v.ownBlock <;> simp), fun g cur hg hc => ?_⟩
  have hlt := (World.ownsRow.lt h.1 g hg).2
  rw [hb.block g hlt] at hc
  exact h.2 g cur hg hc
theorem OwnL.lt {w : World} {B : Nat} {e : TypeId} {size : Nat} {v : Value} {n : Nat} {xs : List Value} (h : OwnL w B e size v n xs) {g : Nat} (hg : w.heap.size ≤ g) : v.ownBlock ≠ some g := fun e => by
  have := (World.ownsRow.lt h.1 g e).2; omega
/-- writing into another block leaves it -/
theorem OwnL.put {w w' : World} {B g off : Nat} {l : List Value} {e : TypeId} {size : Nat} {v : Value} {n : Nat} {xs : List Value} (h : OwnL w B e size v n xs) (hw : w' = putL w g off l) (hg : v.ownBlock ≠ some g) (hos : w'.os = w.os ∧ w'.tape = w.tape ∧ w'.output = w.output) : OwnL w' B e size v n xs := by
  have hbl : ∀ k, k ≠ g → w'.heap[k]? = w.heap[k]? := fun k hk => by rw [hw, putL_ne hk]
  refine ⟨World.ownsRow.kept (row := some g) h.1 ⟨hos.1, hos.2.1, hos.2.2, by rw [hw, putL_size]; exact Nat.le_refl _, fun k _ hk => hbl k (fun e => hk (by rw [e]))⟩ ?_, fun k cur hk hc => ?_⟩
  · cases hv : v.ownBlock with
    | none => simp
    | some k => right; intro e; exact hg (by rw [hv]; exact e)
  · rw [hbl k (fun e => hg (by rw [← e]; exact hk))] at hc
    exact h.2 k cur hk hc
/-- what an append into an own list does: the list grows, no other block is touched, the list's block is the old one or a new one -/
theorem run_append_L {P : Program} (w : World) (base : Nat) (t ty e : TypeId) (i : TypeInfo) (z : Value) (size bytes : Nat) (ht : P.underlying t = some (.slice e)) (hi : P.info? e = some i) (hz : i.zero = some z)
    (hsize : i.size = size) (hby : i.bytes = bytes) (hzs : z.cells.size = size) (hsz : 0 < size) (hzu : noU z.cells.toList)
    (v : Value) (n : Nat) (xs : List Value) (hown : OwnL w base e size v n xs)
    (a : Addr) (c : Nat) (news : List Value) (hl : news.length = size) (hnews : ∀ j u, news[j]? = some u → w.cell? (a.add j) = some u) (h1 : ∀ u ∈ news, u.oneCell' = true) (hnu : noU news) (hxu : noU xs)
    (h63 : n + 1 ≤ maxLen) (hbytes : (n + 1) * bytes ≤ 140737488355328) (hbase : base ≤ w.heap.size) :
    ∃ v' w', (Builtin.append_ #[t, t] ty #[v, .slice (some a) 1 c]).run P w = .ok v' w' ∧ OwnL w' base e size v' (n + 1) (xs ++ news) ∧ w.grownBy w' v.ownBlock ∧
      (∀ g, g < w.heap.size → v.ownBlock ≠ some g → v'.ownBlock ≠ some g) := by
  subst hsize
  subst hby
  have hl' : news.length = 1 * i.size := by omega
  obtain ⟨v', w', hr, h2, h3, _⟩ := run_append_own (P := P) w base t ty e i z i.size i.bytes ht hi hz rfl rfl hzs hsz v n xs hown.1 a 1 c news hl' hnews h1 h63 hbytes hbase
  refine ⟨v', w', hr, ⟨h2, ?_⟩, h3, ?_⟩
  · intro g cur hg hc
    rcases hown.1.2 with ⟨rfl, rfl⟩ | ⟨g', cap, old, rfl, hbg, hgg, hnc, hcm, hcs, htake⟩
    · have hr' := run_append_nil (P := P) w t ty e i z ht hi hz a 1 c news hl' hnews (by omega) (by decide) (by omega)
      rw [hr] at hr'
      simp only [Result.ok.injEq] at hr'
      obtain ⟨rfl, rfl⟩ := hr'
      simp only [Value.ownBlock, Option.some.injEq] at hg
      subst hg
      have hn := heap_alloc_new w.drew (.cells (news.toArray ++ Builtin.zeroCells z.cells (grownCap w 1 0 e - 1)) e)
      rw [show w.drew.heap.size = w.heap.size from rfl] at hn
      rw [hn] at hc
      simp only [Option.some.injEq, Obj.cells.injEq] at hc
      rw [← hc.1, Array.toList_append]
      exact noU_app hnu (noU_zeros hzu _)
    · by_cases hroom : n + 1 ≤ cap
      · have hfit : n * i.size + news.length ≤ old.size := by rw [hl', hcs, ← Nat.add_mul]; exact Nat.mul_le_mul_right _ hroom
        have hr' := run_append_room (P := P) w t ty e i ht hi g' n cap old hgg a 1 c news hl' hnews h1 hroom hfit
        rw [hr] at hr'
        simp only [Result.ok.injEq] at hr'
        obtain ⟨rfl, rfl⟩ := hr'
        simp only [Value.ownBlock, Option.some.injEq] at hg
        subst hg
        rw [setRow_heap w g' old _ e _ hgg] at hc
        simp only [Option.some.injEq, Obj.cells.injEq] at hc
        have ho := hown.2 g' old rfl hgg
        rw [← hc.1]
        exact noU_app (noU_app (noU_take ho _) hnu) (noU_drop ho _)
      · have holds : ∀ j u, xs[j]? = some u → w.cell? ((⟨g', 0, none⟩ : Addr).add j) = some u := World.ownsRow.cells hown.1 (g := g') rfl
        have hr' := run_append_grow (P := P) w t ty e i z ht hi hz ⟨g', 0, none⟩ n cap xs hown.1.1 holds a 1 c news hl' hnews (by omega) (by unfold maxLen at h63; omega) (growslice_fits (by omega) hbytes)
        rw [hr] at hr'
        simp only [Result.ok.injEq] at hr'
        obtain ⟨rfl, rfl⟩ := hr'
        simp only [Value.ownBlock, Option.some.injEq] at hg
        subst hg
        have hn := heap_alloc_new w.drew (.cells (xs.toArray ++ news.toArray ++ Builtin.zeroCells z.cells (grownCap w (n + 1) cap e - (n + 1))) e)
        rw [show w.drew.heap.size = w.heap.size from rfl] at hn
        rw [hn] at hc
        simp only [Option.some.injEq, Obj.cells.injEq] at hc
        rw [← hc.1, Array.toList_append, Array.toList_append]
        exact noU_app (noU_app hxu hnu) (noU_zeros hzu _)
  · intro g hglt hgne hg'
    rcases hown.1.2 with ⟨rfl, rfl⟩ | ⟨g', cap, old, rfl, hbg, hgg, hnc, hcm, hcs, htake⟩
    · have hr' := run_append_nil (P := P) w t ty e i z ht hi hz a 1 c news hl' hnews (by omega) (by decide) (by omega)
      rw [hr] at hr'
      simp only [Result.ok.injEq] at hr'
      obtain ⟨rfl, rfl⟩ := hr'
      simp only [Value.ownBlock, Option.some.injEq] at hg'
      omega
    · by_cases hroom : n + 1 ≤ cap
      · have hfit : n * i.size + news.length ≤ old.size := by rw [hl', hcs, ← Nat.add_mul]; exact Nat.mul_le_mul_right _ hroom
        have hr' := run_append_room (P := P) w t ty e i ht hi g' n cap old hgg a 1 c news hl' hnews h1 hroom hfit
        rw [hr] at hr'
        simp only [Result.ok.injEq] at hr'
        obtain ⟨rfl, rfl⟩ := hr'
        exact hgne hg'
      · have holds : ∀ j u, xs[j]? = some u → w.cell? ((⟨g', 0, none⟩ : Addr).add j) = some u := World.ownsRow.cells hown.1 (g := g') rfl
        have hr' := run_append_grow (P := P) w t ty e i z ht hi hz ⟨g', 0, none⟩ n cap xs hown.1.1 holds a 1 c news hl' hnews (by omega) (by unfold maxLen at h63; omega) (growslice_fits (by omega) hbytes)
        rw [hr] at hr'
        simp only [Result.ok.injEq] at hr'
        obtain ⟨rfl, rfl⟩ := hr'
        simp only [Value.ownBlock, Option.some.injEq] at hg'
        omega
/-- the walk stands before an append -/
theorem wpList_pauseB {P : Program} {ops : Array Oper} {rest : List Oper} {a : Act} {w : World} {Q : Exit → Act → World → Prop} {d : Option Tmp} {tt : TypeId} {args : Array Operand} {tys : Array TypeId} {pos : String} {af : Array Edge}
    (h : Pause (wpList P ops Q (⟨d, .call { callee := .builtin .append, args := args, argTypes := tys }, tt, pos, af, none⟩ :: rest) a w)) : wpList P ops Q (⟨d, .call { callee := .builtin .append, args := args, argTypes := tys }, tt, pos, af, none⟩ :: rest) a w := h
theorem wpList_appL {P : Program} {ops : Array Oper} {rest : List Oper} {a : Act} {w : World} {Q : Exit → Act → World → Prop} {d : Option Tmp} {tt : TypeId} {s x : Operand} {t e : TypeId} {pos : String} {af : Array Edge}
    (base : Nat) {z : Value} {size bytes : Nat} (T : SliceTy P t e z size bytes) (hzs : z.cells.size = size) (hzu : noU z.cells.toList) (hsz : 0 < size)
    (v : Value) (n : Nat) (xs news : List Value) (g0 : Nat) (T0 : TypeId) (hs : a.eval s = v) (hx : a.eval x = .slice (some ⟨g0, 0, none⟩) 1 1) (hown : OwnL w base e size v n xs) (hg0 : w.heap[g0]? = some (.cells news.toArray T0)) (hl : news.length = size)
    (h1 : news.all (fun u => u.oneCell') = true) (hnu : noU news) (hxu : noU xs) (hn : n ≤ 1000000) (hby : bytes ≤ 1000) (hbase : base ≤ w.heap.size)
    (hK : ∀ v' w', OwnL w' base e size v' (n + 1) (xs ++ news) → w.grownBy w' v.ownBlock → (∀ g, g < w.heap.size → v.ownBlock ≠ some g → v'.ownBlock ≠ some g) → wpList P ops Q rest (a.put d v') w') :
    Pause (wpList P ops Q (⟨d, .call { callee := .builtin .append, args := #[s, x], argTypes := #[t, t] }, tt, pos, af, none⟩ :: rest) a w) := by
  obtain ⟨i0, hi, hz0, hz1, hz2⟩ := T.info
  have hbb : (n + 1) * bytes ≤ 140737488355328 := Nat.le_trans (Nat.mul_le_mul (show n + 1 ≤ 1000001 by omega) hby) (by decide)
  obtain ⟨v', w', hr, k1, k2, k3⟩ := run_append_L (P := P) w base t tt e i0 z size bytes T.under hi hz0 hz1 hz2 hzs hsz hzu v n xs hown ⟨g0, 0, none⟩ 1 news hl
    (fun j u hu => by
      have e2 : (⟨g0, 0, none⟩ : Addr).add j = ⟨g0, j, none⟩ := by unfold Addr.add; split <;> simp_all
      rw [e2, cell_of_row w g0 j news.toArray T0 (0, 0) hg0]; simpa using hu) (fun u hu => List.all_eq_true.1 h1 u hu) hnu hxu (by unfold maxLen; omega) hbb hbase
  refine wpList_plain rfl fun _ hK' => ?_
  unfold Oper.wp execOp
  simp only [resolve, invoke, builtin, Sem.run_bind, Sem.run_pure, Result.andThen_ok, List.map_toArray, List.map_cons, List.map_nil, hs, hx, hr]
  exact hK' _ _ (hK v' w' k1 k2 k3)
/-- what an append leaves: numbers, other blocks -/
theorem grown_num {w w' : World} {v0 v : Value} {k : List Nat} {B n size : Nat} {e : TypeId} {xs : List Value} (hg : w.grownBy w' v0.ownBlock) (ho : OwnL w B e size v0 n xs) (h : Num w v k) : Num w' v k := by
  obtain ⟨ao, c, rfl, h1, h2, h3, h4, h5⟩ := h
  refine ⟨ao, c, rfl, h1, h2, h3, ?_, h5⟩
  intro b' o s hs
  obtain ⟨k1, k2⟩ := h4 b' o s hs
  have hsz := hg.size
  refine ⟨fun h0 => by obtain ⟨q1, q2⟩ := k1 h0; exact ⟨by omega, q2⟩, fun j hj => ?_⟩
  have hc := k2 j hj
  by_cases hb : v0.ownBlock = some b'
  · exfalso
    have hh := ho.2
    rcases ho.1.2 with ⟨rfl, _⟩ | ⟨g', cap, old, rfl, _, hgg, _⟩
    · cases hb
    · simp only [Value.ownBlock, Option.some.injEq] at hb
      subst hb
      have hn := noW_noU (hh g' old rfl hgg)
      rw [cell_of_row w g' (o + j) old e (0, 0) hgg] at hc
      exact hn _ _ hc
  · have hlt : b' < w.heap.size := World.block_lt_of_cell? w _ hc
    rw [← hc]
    unfold World.cell?
    rw [hg.block b' hlt (fun e => hb e.symm)]
theorem OwnL.low {w w' w0 : World} {B n size : Nat} {e : TypeId} {v0 : Value} {xs : List Value} (ho : OwnL w B e size v0 n xs) (hg : w.grownBy w' v0.ownBlock) (hb : Below B w0 w) (hB : B ≤ w.heap.size) : Below B w0 w' := by
  refine hb.grown hg hB ?_
  intro k hk
  exact (World.ownsRow.lt ho.1 k hk).1
theorem grown_heap {w w' : World} {v0 : Value} {g : Nat} {o : Obj} (hg : w.grownBy w' v0.ownBlock) (h : w.heap[g]? = some o) (hn : v0.ownBlock ≠ some g) : w'.heap[g]? = some o := by
  rw [hg.block g (Array.getElem?_eq_some_iff.1 h).1 (fun e => hn e.symm)]; exact h
section
variable {w w' : World} {v0 v : Value} {B n size : Nat} {e : TypeId} {xs : List Value} {q : Rat} {s t : Bool} {a b c d : List Nat} {S : Rat × Rat}
theorem grown_V (hg : w.grownBy w' v0.ownBlock) (ho : OwnL w B e size v0 n xs) (h : RatV w v s a b) : RatV w' v s a b := by
  obtain ⟨va, vb, e, h1, h2⟩ := h
  exact ⟨va, vb, e, grown_num hg ho h1, grown_num hg ho h2⟩
theorem grown_I (hg : w.grownBy w' v0.ownBlock) (ho : OwnL w B e size v0 n xs) (h : IsR w v q) : IsR w' v q := grown_V hg ho h
theorem grown_SV (hg : w.grownBy w' v0.ownBlock) (ho : OwnL w B e size v0 n xs) (h : SpV w v s a b t c d) : SpV w' v s a b t c d := by
  obtain ⟨x0, x1, x2, x3, x4, x5, e, h1, h2⟩ := h
  exact ⟨x0, x1, x2, x3, x4, x5, e, grown_V hg ho h1, grown_V hg ho h2⟩
theorem grown_SI (hg : w.grownBy w' v0.ownBlock) (ho : OwnL w B e size v0 n xs) (h : IsSp w v S) : IsSp w' v S := by
  obtain ⟨x0, x1, x2, x3, x4, x5, e, h1, h2⟩ := h
  exact ⟨x0, x1, x2, x3, x4, x5, e, grown_I hg ho h1, grown_I hg ho h2⟩
theorem grown_SS (hg : w.grownBy w' v0.ownBlock) (ho : OwnL w B e size v0 n xs) (h : SpIs w v S) : SpIs w' v S := by
  obtain ⟨s, a, b, t, c, d, h1, h2⟩ := h
  exact ⟨s, a, b, t, c, d, grown_SV hg ho h1, h2⟩
end
theorem noU3 {s : Bool} {o p : Option Addr} {n c m d : Nat} : noU [.bool s, .slice o n c, .slice p m d] := by
  intro u hu k
  simp only [List.mem_cons, List.not_mem_nil, or_false] at hu
  rcases hu with rfl | rfl | rfl <;> exact fun e => by cases e
theorem noU0 : noU [] := fun u hu => by cases hu
theorem Tryz.ratTy : SliceTy Tryz.prog 57 24 (.agg #[.bool false, .slice none 0 0, .slice none 0 0]) 3 56 :=
  .mk' Tryz.underlying57 (by kernel_rfl)
end Go.Proofs.YtaefimegiobkmaaGreatDoor
/-
  The reference's products and quotients of intervals: what they hand back.
  Conditions: each theorem's own.
-/
namespace Go.Proofs.YtaefimegiobkmaaGreatDoor
open Go.RowKit Go.ChangeShapes Go.WideShapes

theorem raround4o {v : Value} {B : Nat} {s0 : Bool} {o0 a0 : Option Addr} {n0 c0 m0 d0 : Nat} {q0 : Rat} {s1 : Bool} {o1 a1 : Option Addr} {n1 c1 m1 d1 : Nat} {q1 : Rat} {s2 : Bool} {o2 a2 : Option Addr} {n2 c2 m2 d2 : Nat} {q2 : Rat} {s3 : Bool} {o3 a3 : Option Addr} {n3 c3 m3 d3 : Nat} {q3 : Rat} (w : World) (ho : OwnL w B 24 3 v 4 [.bool s0, .slice o0 n0 c0, .slice a0 m0 d0, .bool s1, .slice o1 n1 c1, .slice a1 m1 d1, .bool s2, .slice o2 n2 c2, .slice a2 m2 d2, .bool s3, .slice o3 n3 c3, .slice a3 m3 d3]) (h0 : RatIs w (.agg #[.bool s0, .slice o0 n0 c0, .slice a0 m0 d0]) q0) (l0 : rl q0 ≤ 39000) (h1 : RatIs w (.agg #[.bool s1, .slice o1 n1 c1, .slice a1 m1 d1]) q1) (l1 : rl q1 ≤ 39000) (h2 : RatIs w (.agg #[.bool s2, .slice o2 n2 c2, .slice a2 m2 d2]) q2) (l2 : rl q2 ≤ 39000) (h3 : RatIs w (.agg #[.bool s3, .slice o3 n3 c3, .slice a3 m3 d3]) q3) (l3 : rl q3 ≤ 39000) :
    Calls Tryz.prog 50 #[v] w (RetSp w (around4 q0 q1 q2 q3)) := by
  have hcells := fun g hg => World.ownsRow.cells (g := g) ho.1 hg
  rcases ho.1.2 with ⟨_, h⟩ | ⟨g, cap, cur, rfl, hb, hh, hcap, hm, hs, ht⟩
  · cases h
  have hV : RatsAt w g 4 39000 (fun j => if j = 0 then q0 else if j = 1 then q1 else if j = 2 then q2 else q3) := by
    intro j hj
    have key : ∀ i x, [.bool s0, .slice o0 n0 c0, .slice a0 m0 d0, .bool s1, .slice o1 n1 c1, .slice a1 m1 d1, .bool s2, .slice o2 n2 c2, .slice a2 m2 d2, .bool s3, .slice o3 n3 c3, .slice a3 m3 d3][i]? = some x → w.cell? ⟨g, i, none⟩ = some x := fun i x hx => by
      have := hcells g rfl i x hx
      have e2 : (⟨g, 0, none⟩ : Addr).add i = ⟨g, 0 + i, none⟩ := by unfold Addr.add; split <;> simp_all
      rw [e2, Nat.zero_add] at this; exact this
    match j, hj with
    | 0, _ => exact ⟨_, _, _, _, _, _, _, ⟨key 0 _ rfl, key 1 _ rfl, key 2 _ rfl⟩, h0, l0⟩
    | 1, _ => exact ⟨_, _, _, _, _, _, _, ⟨key 3 _ rfl, key 4 _ rfl, key 5 _ rfl⟩, h1, l1⟩
    | 2, _ => exact ⟨_, _, _, _, _, _, _, ⟨key 6 _ rfl, key 7 _ rfl, key 8 _ rfl⟩, h2, l2⟩
    | 3, _ => exact ⟨_, _, _, _, _, _, _, ⟨key 9 _ rfl, key 10 _ rfl, key 11 _ rfl⟩, h3, l3⟩
  have h := listAround_any (cp := cap) _ w (by decide) (by decide) hcap (Array.getElem?_eq_some_iff.1 hh).1 hV
  replace h : Calls Tryz.prog 50 #[.slice (some ⟨g, 0, none⟩) 4 cap] w (RetSp w (mn (mn (mn (mn q0 q0) q1) q2) q3, mx (mx (mx (mx q0 q0) q1) q2) q3)) := h
  rw [mn_self, mx_self] at h; exact h
set_option maxRecDepth 100000 in
set_option maxHeartbeats 12800000 in
theorem rsmul_raw (va : Value) (a : Rat × Rat) (vb : Value) (b : Rat × Rat) (w : World) (ha : SpIs w va a) (hb : SpIs w vb b) (la1 : rl a.1 ≤ 19000) (la2 : rl a.2 ≤ 19000) (lb1 : rl b.1 ≤ 19000) (lb2 : rl b.2 ≤ 19000) :
    Calls Tryz.prog 13 #[va, vb] w (RetSp w (around4 (((a).1) * ((b).1)) (((a).1) * ((b).2)) (((a).2) * ((b).1)) (((a).2) * ((b).2)))) := by
  have HBW := Lib.hid (Below.refl w.heap.size w)
  have kz0 : rl 0 ≤ 1 := by rw [rl_zero]; exact Nat.le_refl _
  obtain ⟨qa, oa, na, ka, pa, ma, ra, qax, oax, nax, kax, pax, max, rax, rfl⟩ := ha.shape
  have hla := ha.rl; have hoa := ha.ok; obtain ⟨hlaa, hlab⟩ := hla
  have hoa := Lib.hid hoa
  obtain ⟨qb, ob, nb, kb, pb, mb, rb, qbx, obx, nbx, kbx, pbx, mbx, rbx, rfl⟩ := hb.shape
  have hlb := hb.rl; have hob := hb.ok; obtain ⟨hlba, hlbb⟩ := hlb
  have hob := Lib.hid hob
  have Fa := Lib.hid ha; clear ha
  have Fb := Lib.hid hb; clear hb
  obtain ⟨w1, hw1⟩ : ∃ w1, w1 = w.alloc (.cells #[.bool qa, .slice oa na ka, .slice pa ma ra, .bool qax, .slice oax nax kax, .slice pax max rax] 26) := ⟨_, rfl⟩
  have hb1 : Below w.heap.size w w1 := by rw [hw1]; exact (Below.refl _ _).alloc (Nat.le_refl _) _
  have hx1 := heap_alloc_new w (.cells #[.bool qa, .slice oa na ka, .slice pa ma ra, .bool qax, .slice oax nax kax, .slice pax max rax] 26)
  obtain ⟨g1, hg1⟩ : ∃ g, g = w.heap.size := ⟨_, rfl⟩
  rw [← hw1, ← hg1] at hx1
  have lw1 : w.heap.size ≤ g1 := by rw [hg1]; exact HBW.out.size
  have HW1 := Lib.hid hw1; have HG1 := Lib.hid hg1; clear hw1 hg1
  have HB1 := Lib.hid (HBW.out.step hb1)
  have Fa := Lib.hid (Fa.out.below hb1)
  have Fb := Lib.hid (Fb.out.below hb1)
  have BX1 := Lib.hid hx1; clear hb1 hx1
  obtain ⟨w2, hw2⟩ : ∃ w2, w2 = w1.alloc (.cells #[.bool qb, .slice ob nb kb, .slice pb mb rb, .bool qbx, .slice obx nbx kbx, .slice pbx mbx rbx] 26) := ⟨_, rfl⟩
  have hb2 : Below w1.heap.size w1 w2 := by rw [hw2]; exact (Below.refl _ _).alloc (Nat.le_refl _) _
  have hx2 := heap_alloc_new w1 (.cells #[.bool qb, .slice ob nb kb, .slice pb mb rb, .bool qbx, .slice obx nbx kbx, .slice pbx mbx rbx] 26)
  obtain ⟨g2, hg2⟩ : ∃ g, g = w1.heap.size := ⟨_, rfl⟩
  rw [← hw2, ← hg2] at hx2
  have lw2 : w.heap.size ≤ g2 := by rw [hg2]; exact HB1.out.size
  have ltBX12 : g1 < g2 := by rw [hg2]; exact below_lt BX1.out
  have hs2 : g2 = w.heap.size + 1 := by rw [hg2, HW1.out]; simp
  have HS2 := Lib.hid hs2; clear hs2
  have HW2 := Lib.hid hw2; have HG2 := Lib.hid hg2; clear hw2 hg2
  have HB2 := Lib.hid (HB1.out.step hb2)
  have Fa := Lib.hid (Fa.out.below hb2)
  have Fb := Lib.hid (Fb.out.below hb2)
  have BX1 := Lib.hid (heap_below BX1.out hb2)
  have BX2 := Lib.hid hx2; clear hb2 hx2
  obtain ⟨w3, hw3⟩ : ∃ w3, w3 = w2.alloc (.cells #[.bool false, .slice none 0 0, .slice none 0 0, .bool false, .slice none 0 0, .slice none 0 0] 26) := ⟨_, rfl⟩
  have hb3 : Below w2.heap.size w2 w3 := by rw [hw3]; exact (Below.refl _ _).alloc (Nat.le_refl _) _
  have hx3 := heap_alloc_new w2 (.cells #[.bool false, .slice none 0 0, .slice none 0 0, .bool false, .slice none 0 0, .slice none 0 0] 26)
  obtain ⟨g3, hg3⟩ : ∃ g, g = w2.heap.size := ⟨_, rfl⟩
  rw [← hw3, ← hg3] at hx3
  have lw3 : w.heap.size ≤ g3 := by rw [hg3]; exact HB2.out.size
  have ltBX13 : g1 < g3 := by rw [hg3]; exact below_lt BX1.out
  have ltBX23 : g2 < g3 := by rw [hg3]; exact below_lt BX2.out
  have hs3 : g3 = w.heap.size + 2 := by rw [hg3, HW2.out, HW1.out]; simp
  have HS3 := Lib.hid hs3; clear hs3
  have HW3 := Lib.hid hw3; have HG3 := Lib.hid hg3; clear hw3 hg3
  have HB3 := Lib.hid (HB2.out.step hb3)
  have Fa := Lib.hid (Fa.out.below hb3)
  have Fb := Lib.hid (Fb.out.below hb3)
  have BX1 := Lib.hid (heap_below BX1.out hb3)
  have BX2 := Lib.hid (heap_below BX2.out hb3)
  have BX3 := Lib.hid hx3; clear hb3 hx3
  go_enter Tryz.func13, Tryz.ntmps13
  go_wp2_with (with_reducible first | refine pauseCall ?_ | refine pauseLoop ?_ | refine pauseDraw ?_ | refine pauseBody ?_ | refine pauseRounds ?_)
  try rw [← HW1.out]
  try rw [← HW2.out]
  try rw [← HW3.out]
  try rw [← HS3.out]
  try rw [← HS2.out]
  try rw [← HG1.out]
  try rw [← HG2.out]
  try rw [← HG3.out]
  refine Pause.mk ?_
  refine wp_region_facts (A := ?aa1) (w := w3) 3 [] (by kernel_rfl) (Fl [KEq (.agg #[.bool qa, .slice oa na ka, .slice pa ma ra, .bool qax, .slice oax nax kax, .slice pax max rax]), KSp (a), KEq (.agg #[.bool qb, .slice ob nb kb, .slice pb mb rb, .bool qbx, .slice obx nbx kbx, .slice pbx mbx rbx])]) (fun i => false) (by kernel_rfl) ?hq1 (monoL (monoC (kEq _) (monoC (kSp _) (monoC (kEq _) monoN)))) ?ha1 ?st1 ?tl1
  case hq1 =>
    intro c a d v w h
    first | (simp only [Exit.then] at h ⊢; exact h) | (simp only [Exit.inBlock, Exit.then] at h ⊢; exact h) | exact h
  case ha1 =>
    intro vals
    simp only [putsTo, dstOf, if_true, Act.put, List.setIfInBounds_toArray, List.set_cons_zero, List.set_cons_succ, List.getElem?_toArray, List.getElem?_cons_zero, List.getElem?_cons_succ, Option.bind_some]
    exact rfl
  case st1 =>
    simp only [List.take_succ_cons, List.take_zero]
    refine stepsOK_cons rfl rfl ?_ (stepsOK_cons rfl rfl ?_ (stepsOK_cons rfl rfl ?_ (stepsOK_nil)))
    · intro vals w1 hb hd
      obtain ⟨e0, e1, e2, e3, e4, e5⟩ := row6 (heap_below BX1.out hb)
      refine stepOK_value (v := .agg #[.bool qa, .slice oa na ka, .slice pa ma ra, .bool qax, .slice oax nax kax, .slice pax max rax]) (w' := w1) (by go_simp) (leaves_mk (Below.refl _ _) rfl (fun h => by cases h))
    · intro vals w1 hb hd
      have d0 : KEq (.agg #[.bool qa, .slice oa na ka, .slice pa ma ra, .bool qax, .slice oax nax kax, .slice pax max rax]) (vals 0) w1 := hd 0 (by kernel_rfl)
      have z0 : vals 0 = _ := d0
      have hs := arg_any _ (a) w1 (Fa.out.below hb)
      have HS := Lib.hid hs; clear hs
      rw [z0]; clear z0
      clear d0 hd
      refine stepOK_call (by go_simp; first | done | exact ⟨⟨rfl, rfl⟩, rfl⟩) ?_
      (with_reducible refine HS.out.mono ?_); rintro e w2 ⟨v, rfl, hb2, hn⟩
      exact ⟨v, rfl, leaves_mk hb2 hn (fun h => by cases h)⟩
    · intro vals w1 hb hd
      obtain ⟨e0, e1, e2, e3, e4, e5⟩ := row6 (heap_below BX2.out hb)
      refine stepOK_value (v := .agg #[.bool qb, .slice ob nb kb, .slice pb mb rb, .bool qbx, .slice obx nbx kbx, .slice pbx mbx rbx]) (w' := w1) (by go_simp) (leaves_mk (Below.refl _ _) rfl (fun h => by cases h))
  case tl1 =>
    intro vals w4 hb4 hf hdis
    simp only [List.drop_succ_cons, List.drop_zero]
    obtain ⟨u1_1, hu1⟩ : ∃ u, u = vals 1 := ⟨_, rfl⟩
    have hn1_1 : IsSp w4 (vals 1) (a) := hf 1 (by decide)
    rw [← hu1] at hn1_1 ⊢; clear hu1
    have z2 : vals 2 = _ := hf 2 (by decide)
    try rw [z2]
    clear z2
    clear hf hdis
    have HB4 := Lib.hid (HB3.out.step hb4)
    have Fa := Lib.hid (Fa.out.below hb4)
    have Fb := Lib.hid (Fb.out.below hb4)
    have BX1 := Lib.hid (heap_below BX1.out hb4)
    have BX2 := Lib.hid (heap_below BX2.out hb4)
    have BX3 := Lib.hid (heap_below BX3.out hb4)
    clear hb4
    have N1_1 := Lib.hid hn1_1; clear hn1_1
    obtain ⟨s2, o2, n2, c2, a2, m2, d2, s2x, o2x, n2x, c2x, a2x, m2x, d2x, rfl⟩ := N1_1.out.shape
    have N1_1l := Lib.hid (isSp_ends N1_1.out).1; have N1_1h := Lib.hid (isSp_ends N1_1.out).2
    skip
    have hs := arg_any _ (b) w4 Fb.out
    have HS := Lib.hid hs; clear hs
    go_wp2_with (with_reducible first | refine pauseCall ?_ | refine pauseLoop ?_ | refine pauseDraw ?_ | refine pauseBody ?_ | refine pauseRounds ?_)
    refine Pause.mk ?_
    (with_reducible refine HS.out.mono ?_); rintro e w5 ⟨v5, rfl, hb5, hn5⟩
    clear HS
    have HB5 := Lib.hid (HB4.out.step hb5)
    have Fa := Lib.hid (Fa.out.below hb5)
    have Fb := Lib.hid (Fb.out.below hb5)
    have N1_1 := Lib.hid (N1_1.out.below hb5)
    have N1_1l := Lib.hid (N1_1l.out.below hb5)
    have N1_1h := Lib.hid (N1_1h.out.below hb5)
    have BX1 := Lib.hid (heap_below BX1.out hb5)
    have BX2 := Lib.hid (heap_below BX2.out hb5)
    have BX3 := Lib.hid (heap_below BX3.out hb5)
    have N5 := Lib.hid hn5; clear hn5
    obtain ⟨s3, o3, n3, c3, a3, m3, d3, s3x, o3x, n3x, c3x, a3x, m3x, d3x, rfl⟩ := N5.out.shape
    have N5l := Lib.hid (isSp_ends N5.out).1; have N5h := Lib.hid (isSp_ends N5.out).2
    clear hb5
    go_wp2_with (with_reducible refine wpList_pauseS ?_)
    refine wpList_stL g1 0 [.bool s2, .slice o2 n2 c2, .slice a2 m2 d2, .bool s2x, .slice o2x n2x c2x, .slice a2x m2x d2x] BX1.out rfl rfl (Nat.le_of_ble_eq_true rfl) (by kernel_rfl) rfl ?_
    intro w6 hp6
    have Fa := Lib.hid (putL_SS hp6 Fa.out BX1.out noW6)
    have Fb := Lib.hid (putL_SS hp6 Fb.out BX1.out noW6)
    have N1_1 := Lib.hid (putL_SI hp6 N1_1.out BX1.out noW6)
    have N1_1l := Lib.hid (putL_I hp6 N1_1l.out BX1.out noW6)
    have N1_1h := Lib.hid (putL_I hp6 N1_1h.out BX1.out noW6)
    have N5 := Lib.hid (putL_SI hp6 N5.out BX1.out noW6)
    have N5l := Lib.hid (putL_I hp6 N5l.out BX1.out noW6)
    have N5h := Lib.hid (putL_I hp6 N5h.out BX1.out noW6)
    have BX2 := Lib.hid (putLx hp6 BX2.out (by omega))
    have BX3 := Lib.hid (putLx hp6 BX3.out (by omega))
    have nx6 : w6.heap[g1]? = some (.cells #[.bool s2, .slice o2 n2 c2, .slice a2 m2 d2, .bool s2x, .slice o2x n2x c2x, .slice a2x m2x d2x] 26) := by rw [hp6]; exact putL_6 BX1.out
    have BX1 := Lib.hid nx6; clear nx6
    have HB6 := Lib.hid (putLb hp6 HB5.out (by omega))
    clear hp6
    go_wp2_with (with_reducible refine wpList_pauseS ?_)
    refine wpList_stL g2 0 [.bool s3, .slice o3 n3 c3, .slice a3 m3 d3, .bool s3x, .slice o3x n3x c3x, .slice a3x m3x d3x] BX2.out rfl rfl (Nat.le_of_ble_eq_true rfl) (by kernel_rfl) rfl ?_
    intro w7 hp7
    have Fa := Lib.hid (putL_SS hp7 Fa.out BX2.out noW6)
    have Fb := Lib.hid (putL_SS hp7 Fb.out BX2.out noW6)
    have N1_1 := Lib.hid (putL_SI hp7 N1_1.out BX2.out noW6)
    have N1_1l := Lib.hid (putL_I hp7 N1_1l.out BX2.out noW6)
    have N1_1h := Lib.hid (putL_I hp7 N1_1h.out BX2.out noW6)
    have N5 := Lib.hid (putL_SI hp7 N5.out BX2.out noW6)
    have N5l := Lib.hid (putL_I hp7 N5l.out BX2.out noW6)
    have N5h := Lib.hid (putL_I hp7 N5h.out BX2.out noW6)
    have BX1 := Lib.hid (putLx hp7 BX1.out (by omega))
    have BX3 := Lib.hid (putLx hp7 BX3.out (by omega))
    have nx7 : w7.heap[g2]? = some (.cells #[.bool s3, .slice o3 n3 c3, .slice a3 m3 d3, .bool s3x, .slice o3x n3x c3x, .slice a3x m3x d3x] 26) := by rw [hp7]; exact putL_6 BX2.out
    have BX2 := Lib.hid nx7; clear nx7
    have HB7 := Lib.hid (putLb hp7 HB6.out (by omega))
    clear hp7
    obtain ⟨x4_0, x4_1, x4_2, x4_3, x4_4, x4_5⟩ := row6 BX1.out
    obtain ⟨x5_0, x5_1, x5_2, x5_3, x5_4, x5_5⟩ := row6 BX1.out
    obtain ⟨w8, hw8⟩ : ∃ w8, w8 = w7.alloc (.cells #[.bool s2, .slice o2 n2 c2, .slice a2 m2 d2, .bool s2x, .slice o2x n2x c2x, .slice a2x m2x d2x] 24) := ⟨_, rfl⟩
    have hb8 : Below w7.heap.size w7 w8 := by rw [hw8]; exact (Below.refl _ _).alloc (Nat.le_refl _) _
    have hx8 := heap_alloc_new w7 (.cells #[.bool s2, .slice o2 n2 c2, .slice a2 m2 d2, .bool s2x, .slice o2x n2x c2x, .slice a2x m2x d2x] 24)
    obtain ⟨g8, hg8⟩ : ∃ g, g = w7.heap.size := ⟨_, rfl⟩
    rw [← hw8, ← hg8] at hx8
    have lw8 : w.heap.size ≤ g8 := by rw [hg8]; exact HB7.out.size
    have ltBX18 : g1 < g8 := by rw [hg8]; exact below_lt BX1.out
    have ltBX28 : g2 < g8 := by rw [hg8]; exact below_lt BX2.out
    have ltBX38 : g3 < g8 := by rw [hg8]; exact below_lt BX3.out
    have HW8 := Lib.hid hw8; have HG8 := Lib.hid hg8; clear hw8 hg8
    have HB8 := Lib.hid (HB7.out.step hb8)
    have Fa := Lib.hid (Fa.out.below hb8)
    have Fb := Lib.hid (Fb.out.below hb8)
    have N1_1 := Lib.hid (N1_1.out.below hb8)
    have N1_1l := Lib.hid (N1_1l.out.below hb8)
    have N1_1h := Lib.hid (N1_1h.out.below hb8)
    have N5 := Lib.hid (N5.out.below hb8)
    have N5l := Lib.hid (N5l.out.below hb8)
    have N5h := Lib.hid (N5h.out.below hb8)
    have BX1 := Lib.hid (heap_below BX1.out hb8)
    have BX2 := Lib.hid (heap_below BX2.out hb8)
    have BX3 := Lib.hid (heap_below BX3.out hb8)
    have BX8 := Lib.hid hx8; clear hb8 hx8
    try rw [HG8.out] at x4_0
    try rw [HG8.out] at x4_1
    try rw [HG8.out] at x4_2
    try rw [HG8.out] at x4_3
    try rw [HG8.out] at x4_4
    try rw [HG8.out] at x4_5
    try rw [HG8.out] at x5_0
    try rw [HG8.out] at x5_1
    try rw [HG8.out] at x5_2
    try rw [HG8.out] at x5_3
    try rw [HG8.out] at x5_4
    try rw [HG8.out] at x5_5
    go_wp2_with (with_reducible first | refine pauseCall ?_ | refine pauseLoop ?_ | refine pauseDraw ?_ | refine pauseBody ?_ | refine pauseRounds ?_)
    try rw [← HW8.out]
    try rw [← HG8.out]
    clear x4_0 x4_1 x4_2 x4_3 x4_4 x4_5 x5_0 x5_1 x5_2 x5_3 x5_4 x5_5
    refine Pause.mk ?_
    refine wp_loop_rounds 3 ?_
    rw [rounds_succ]
    obtain ⟨x6_0, x6_1, x6_2, x6_3, x6_4, x6_5⟩ := row6 BX8.out
    obtain ⟨w9, hw9⟩ : ∃ w9, w9 = w8.alloc (.cells #[.bool s2, .slice o2 n2 c2, .slice a2 m2 d2] 24) := ⟨_, rfl⟩
    have hb9 : Below w8.heap.size w8 w9 := by rw [hw9]; exact (Below.refl _ _).alloc (Nat.le_refl _) _
    have hx9 := heap_alloc_new w8 (.cells #[.bool s2, .slice o2 n2 c2, .slice a2 m2 d2] 24)
    obtain ⟨g9, hg9⟩ : ∃ g, g = w8.heap.size := ⟨_, rfl⟩
    rw [← hw9, ← hg9] at hx9
    have lw9 : w.heap.size ≤ g9 := by rw [hg9]; exact HB8.out.size
    have ltBX19 : g1 < g9 := by rw [hg9]; exact below_lt BX1.out
    have ltBX29 : g2 < g9 := by rw [hg9]; exact below_lt BX2.out
    have ltBX39 : g3 < g9 := by rw [hg9]; exact below_lt BX3.out
    have ltBX89 : g8 < g9 := by rw [hg9]; exact below_lt BX8.out
    have HW9 := Lib.hid hw9; have HG9 := Lib.hid hg9; clear hw9 hg9
    have HB9 := Lib.hid (HB8.out.step hb9)
    have Fa := Lib.hid (Fa.out.below hb9)
    have Fb := Lib.hid (Fb.out.below hb9)
    have N1_1 := Lib.hid (N1_1.out.below hb9)
    have N1_1l := Lib.hid (N1_1l.out.below hb9)
    have N1_1h := Lib.hid (N1_1h.out.below hb9)
    have N5 := Lib.hid (N5.out.below hb9)
    have N5l := Lib.hid (N5l.out.below hb9)
    have N5h := Lib.hid (N5h.out.below hb9)
    have BX1 := Lib.hid (heap_below BX1.out hb9)
    have BX2 := Lib.hid (heap_below BX2.out hb9)
    have BX3 := Lib.hid (heap_below BX3.out hb9)
    have BX8 := Lib.hid (heap_below BX8.out hb9)
    have BX9 := Lib.hid hx9; clear hb9 hx9
    obtain ⟨x7_0, x7_1, x7_2, x7_3, x7_4, x7_5⟩ := row6 BX2.out
    obtain ⟨x8_0, x8_1, x8_2, x8_3, x8_4, x8_5⟩ := row6 BX2.out
    obtain ⟨w10, hw10⟩ : ∃ w10, w10 = w9.alloc (.cells #[.bool s3, .slice o3 n3 c3, .slice a3 m3 d3, .bool s3x, .slice o3x n3x c3x, .slice a3x m3x d3x] 24) := ⟨_, rfl⟩
    have hb10 : Below w9.heap.size w9 w10 := by rw [hw10]; exact (Below.refl _ _).alloc (Nat.le_refl _) _
    have hx10 := heap_alloc_new w9 (.cells #[.bool s3, .slice o3 n3 c3, .slice a3 m3 d3, .bool s3x, .slice o3x n3x c3x, .slice a3x m3x d3x] 24)
    obtain ⟨g10, hg10⟩ : ∃ g, g = w9.heap.size := ⟨_, rfl⟩
    rw [← hw10, ← hg10] at hx10
    have lw10 : w.heap.size ≤ g10 := by rw [hg10]; exact HB9.out.size
    have ltBX110 : g1 < g10 := by rw [hg10]; exact below_lt BX1.out
    have ltBX210 : g2 < g10 := by rw [hg10]; exact below_lt BX2.out
    have ltBX310 : g3 < g10 := by rw [hg10]; exact below_lt BX3.out
    have ltBX810 : g8 < g10 := by rw [hg10]; exact below_lt BX8.out
    have ltBX910 : g9 < g10 := by rw [hg10]; exact below_lt BX9.out
    have hs10 : g10 = w8.heap.size + 1 := by rw [hg10, HW9.out]; simp
    have HS10 := Lib.hid hs10; clear hs10
    have HW10 := Lib.hid hw10; have HG10 := Lib.hid hg10; clear hw10 hg10
    have HB10 := Lib.hid (HB9.out.step hb10)
    have Fa := Lib.hid (Fa.out.below hb10)
    have Fb := Lib.hid (Fb.out.below hb10)
    have N1_1 := Lib.hid (N1_1.out.below hb10)
    have N1_1l := Lib.hid (N1_1l.out.below hb10)
    have N1_1h := Lib.hid (N1_1h.out.below hb10)
    have N5 := Lib.hid (N5.out.below hb10)
    have N5l := Lib.hid (N5l.out.below hb10)
    have N5h := Lib.hid (N5h.out.below hb10)
    have BX1 := Lib.hid (heap_below BX1.out hb10)
    have BX2 := Lib.hid (heap_below BX2.out hb10)
    have BX3 := Lib.hid (heap_below BX3.out hb10)
    have BX8 := Lib.hid (heap_below BX8.out hb10)
    have BX9 := Lib.hid (heap_below BX9.out hb10)
    have BX10 := Lib.hid hx10; clear hb10 hx10
    try rw [HG10.out] at x6_0
    try rw [HG9.out] at x6_0
    try rw [HG10.out] at x6_1
    try rw [HG9.out] at x6_1
    try rw [HG10.out] at x6_2
    try rw [HG9.out] at x6_2
    try rw [HG10.out] at x6_3
    try rw [HG9.out] at x6_3
    try rw [HG10.out] at x6_4
    try rw [HG9.out] at x6_4
    try rw [HG10.out] at x6_5
    try rw [HG9.out] at x6_5
    try rw [HG10.out] at x7_0
    try rw [HW9.out] at x7_0
    try rw [HG9.out] at x7_0
    try rw [HG10.out] at x7_1
    try rw [HW9.out] at x7_1
    try rw [HG9.out] at x7_1
    try rw [HG10.out] at x7_2
    try rw [HW9.out] at x7_2
    try rw [HG9.out] at x7_2
    try rw [HG10.out] at x7_3
    try rw [HW9.out] at x7_3
    try rw [HG9.out] at x7_3
    try rw [HG10.out] at x7_4
    try rw [HW9.out] at x7_4
    try rw [HG9.out] at x7_4
    try rw [HG10.out] at x7_5
    try rw [HW9.out] at x7_5
    try rw [HG9.out] at x7_5
    try rw [HG10.out] at x8_0
    try rw [HW9.out] at x8_0
    try rw [HG9.out] at x8_0
    try rw [HG10.out] at x8_1
    try rw [HW9.out] at x8_1
    try rw [HG9.out] at x8_1
    try rw [HG10.out] at x8_2
    try rw [HW9.out] at x8_2
    try rw [HG9.out] at x8_2
    try rw [HG10.out] at x8_3
    try rw [HW9.out] at x8_3
    try rw [HG9.out] at x8_3
    try rw [HG10.out] at x8_4
    try rw [HW9.out] at x8_4
    try rw [HG9.out] at x8_4
    try rw [HG10.out] at x8_5
    try rw [HW9.out] at x8_5
    try rw [HG9.out] at x8_5
    go_wp2_with (with_reducible first | refine pauseCall ?_ | refine pauseLoop ?_ | refine pauseDraw ?_ | refine pauseBody ?_ | refine pauseRounds ?_)
    try rw [← HW9.out]
    try rw [← HW10.out]
    try rw [← HS10.out]
    try rw [← HG9.out]
    try rw [← HG10.out]
    clear x6_0 x6_1 x6_2 x6_3 x6_4 x6_5 x7_0 x7_1 x7_2 x7_3 x7_4 x7_5 x8_0 x8_1 x8_2 x8_3 x8_4 x8_5
    refine Pause.mk ?_
    refine wp_loop_rounds 3 ?_
    rw [rounds_succ]
    obtain ⟨x9_0, x9_1, x9_2, x9_3, x9_4, x9_5⟩ := row6 BX10.out
    obtain ⟨w11, hw11⟩ : ∃ w11, w11 = w10.alloc (.cells #[.bool s3, .slice o3 n3 c3, .slice a3 m3 d3] 24) := ⟨_, rfl⟩
    have hb11 : Below w10.heap.size w10 w11 := by rw [hw11]; exact (Below.refl _ _).alloc (Nat.le_refl _) _
    have hx11 := heap_alloc_new w10 (.cells #[.bool s3, .slice o3 n3 c3, .slice a3 m3 d3] 24)
    obtain ⟨g11, hg11⟩ : ∃ g, g = w10.heap.size := ⟨_, rfl⟩
    rw [← hw11, ← hg11] at hx11
    have lw11 : w.heap.size ≤ g11 := by rw [hg11]; exact HB10.out.size
    have ltBX111 : g1 < g11 := by rw [hg11]; exact below_lt BX1.out
    have ltBX211 : g2 < g11 := by rw [hg11]; exact below_lt BX2.out
    have ltBX311 : g3 < g11 := by rw [hg11]; exact below_lt BX3.out
    have ltBX811 : g8 < g11 := by rw [hg11]; exact below_lt BX8.out
    have ltBX911 : g9 < g11 := by rw [hg11]; exact below_lt BX9.out
    have ltBX1011 : g10 < g11 := by rw [hg11]; exact below_lt BX10.out
    have HW11 := Lib.hid hw11; have HG11 := Lib.hid hg11; clear hw11 hg11
    have HB11 := Lib.hid (HB10.out.step hb11)
    have Fa := Lib.hid (Fa.out.below hb11)
    have Fb := Lib.hid (Fb.out.below hb11)
    have N1_1 := Lib.hid (N1_1.out.below hb11)
    have N1_1l := Lib.hid (N1_1l.out.below hb11)
    have N1_1h := Lib.hid (N1_1h.out.below hb11)
    have N5 := Lib.hid (N5.out.below hb11)
    have N5l := Lib.hid (N5l.out.below hb11)
    have N5h := Lib.hid (N5h.out.below hb11)
    have BX1 := Lib.hid (heap_below BX1.out hb11)
    have BX2 := Lib.hid (heap_below BX2.out hb11)
    have BX3 := Lib.hid (heap_below BX3.out hb11)
    have BX8 := Lib.hid (heap_below BX8.out hb11)
    have BX9 := Lib.hid (heap_below BX9.out hb11)
    have BX10 := Lib.hid (heap_below BX10.out hb11)
    have BX11 := Lib.hid hx11; clear hb11 hx11
    obtain ⟨x10_0, x10_1, x10_2⟩ := row3 BX9.out
    obtain ⟨x11_0, x11_1, x11_2⟩ := row3 BX11.out
    have k12 := rl_mul ((a).1) ((b).1)
    have hs := rmulq_any _ ((a).1) _ ((b).1) w11 (N1_1l.out.is (by omega)) (N5l.out.is (by omega))
    have HS := Lib.hid hs; clear hs
    try rw [HG11.out] at x9_0
    try rw [HG11.out] at x9_1
    try rw [HG11.out] at x9_2
    try rw [HG11.out] at x9_3
    try rw [HG11.out] at x9_4
    try rw [HG11.out] at x9_5
    try rw [HW11.out] at x10_0
    try rw [HG11.out] at x10_0
    try rw [HW11.out] at x10_1
    try rw [HG11.out] at x10_1
    try rw [HW11.out] at x10_2
    try rw [HG11.out] at x10_2
    try rw [HW11.out] at x11_0
    try rw [HG11.out] at x11_0
    try rw [HW11.out] at x11_1
    try rw [HG11.out] at x11_1
    try rw [HW11.out] at x11_2
    try rw [HG11.out] at x11_2
    go_wp2_with (with_reducible first | refine pauseCall ?_ | refine pauseLoop ?_ | refine pauseDraw ?_ | refine pauseBody ?_ | refine pauseRounds ?_)
    try rw [← HW11.out]
    try rw [← HG11.out]
    clear x9_0 x9_1 x9_2 x9_3 x9_4 x9_5 x10_0 x10_1 x10_2 x11_0 x11_1 x11_2
    refine Pause.mk ?_
    (with_reducible refine HS.out.mono ?_); rintro e w12 ⟨v12, rfl, hb12, hn12⟩
    clear HS
    have HB12 := Lib.hid (HB11.out.step hb12)
    have Fa := Lib.hid (Fa.out.below hb12)
    have Fb := Lib.hid (Fb.out.below hb12)
    have N1_1 := Lib.hid (N1_1.out.below hb12)
    have N1_1l := Lib.hid (N1_1l.out.below hb12)
    have N1_1h := Lib.hid (N1_1h.out.below hb12)
    have N5 := Lib.hid (N5.out.below hb12)
    have N5l := Lib.hid (N5l.out.below hb12)
    have N5h := Lib.hid (N5h.out.below hb12)
    have BX1 := Lib.hid (heap_below BX1.out hb12)
    have BX2 := Lib.hid (heap_below BX2.out hb12)
    have BX3 := Lib.hid (heap_below BX3.out hb12)
    have BX8 := Lib.hid (heap_below BX8.out hb12)
    have BX9 := Lib.hid (heap_below BX9.out hb12)
    have BX10 := Lib.hid (heap_below BX10.out hb12)
    have BX11 := Lib.hid (heap_below BX11.out hb12)
    have N12 := Lib.hid hn12; clear hn12
    obtain ⟨s13, o13, n13, c13, a13, m13, d13, rfl⟩ := N12.out.shape
    clear hb12
    obtain ⟨w13, hw13⟩ : ∃ w13, w13 = w12.alloc (.cells #[.bool s13, .slice o13 n13 c13, .slice a13 m13 d13] 24) := ⟨_, rfl⟩
    have hb13 : Below w12.heap.size w12 w13 := by rw [hw13]; exact (Below.refl _ _).alloc (Nat.le_refl _) _
    have hx13 := heap_alloc_new w12 (.cells #[.bool s13, .slice o13 n13 c13, .slice a13 m13 d13] 24)
    obtain ⟨g13, hg13⟩ : ∃ g, g = w12.heap.size := ⟨_, rfl⟩
    rw [← hw13, ← hg13] at hx13
    have lw13 : w.heap.size ≤ g13 := by rw [hg13]; exact HB12.out.size
    have ltBX113 : g1 < g13 := by rw [hg13]; exact below_lt BX1.out
    have ltBX213 : g2 < g13 := by rw [hg13]; exact below_lt BX2.out
    have ltBX313 : g3 < g13 := by rw [hg13]; exact below_lt BX3.out
    have ltBX813 : g8 < g13 := by rw [hg13]; exact below_lt BX8.out
    have ltBX913 : g9 < g13 := by rw [hg13]; exact below_lt BX9.out
    have ltBX1013 : g10 < g13 := by rw [hg13]; exact below_lt BX10.out
    have ltBX1113 : g11 < g13 := by rw [hg13]; exact below_lt BX11.out
    have HW13 := Lib.hid hw13; have HG13 := Lib.hid hg13; clear hw13 hg13
    have HB13 := Lib.hid (HB12.out.step hb13)
    have Fa := Lib.hid (Fa.out.below hb13)
    have Fb := Lib.hid (Fb.out.below hb13)
    have N1_1 := Lib.hid (N1_1.out.below hb13)
    have N1_1l := Lib.hid (N1_1l.out.below hb13)
    have N1_1h := Lib.hid (N1_1h.out.below hb13)
    have N5 := Lib.hid (N5.out.below hb13)
    have N5l := Lib.hid (N5l.out.below hb13)
    have N5h := Lib.hid (N5h.out.below hb13)
    have N12 := Lib.hid (N12.out.below hb13)
    have BX1 := Lib.hid (heap_below BX1.out hb13)
    have BX2 := Lib.hid (heap_below BX2.out hb13)
    have BX3 := Lib.hid (heap_below BX3.out hb13)
    have BX8 := Lib.hid (heap_below BX8.out hb13)
    have BX9 := Lib.hid (heap_below BX9.out hb13)
    have BX10 := Lib.hid (heap_below BX10.out hb13)
    have BX11 := Lib.hid (heap_below BX11.out hb13)
    have BX13 := Lib.hid hx13; clear hb13 hx13
    go_wp2_with (with_reducible refine wpList_pauseB ?_)
    try rw [← HW13.out]
    try rw [← HG13.out]
    have O14 := Lib.hid (OwnL.nil w13 w.heap.size 24 3)
    have NEO14BX1 : Value.ownBlock (.slice none 0 0) ≠ some g1 := fun e => by cases e
    have NEO14BX2 : Value.ownBlock (.slice none 0 0) ≠ some g2 := fun e => by cases e
    have NEO14BX3 : Value.ownBlock (.slice none 0 0) ≠ some g3 := fun e => by cases e
    have NEO14BX8 : Value.ownBlock (.slice none 0 0) ≠ some g8 := fun e => by cases e
    have NEO14BX9 : Value.ownBlock (.slice none 0 0) ≠ some g9 := fun e => by cases e
    have NEO14BX10 : Value.ownBlock (.slice none 0 0) ≠ some g10 := fun e => by cases e
    have NEO14BX11 : Value.ownBlock (.slice none 0 0) ≠ some g11 := fun e => by cases e
    have NEO14BX13 : Value.ownBlock (.slice none 0 0) ≠ some g13 := fun e => by cases e
    refine wpList_appL w.heap.size Tryz.ratTy rfl noU3 (by decide) (.slice none 0 0) 0 [] [.bool s13, .slice o13 n13 c13, .slice a13 m13 d13] g13 24 rfl rfl O14.out BX13.out rfl rfl noU3 noU0 (by decide) (by decide) HB13.out.size ?_
    intro v15 w15 ho15 hgr15 hne15
    have Fa := Lib.hid (grown_SS hgr15 O14.out Fa.out)
    have Fb := Lib.hid (grown_SS hgr15 O14.out Fb.out)
    have N1_1 := Lib.hid (grown_SI hgr15 O14.out N1_1.out)
    have N1_1l := Lib.hid (grown_I hgr15 O14.out N1_1l.out)
    have N1_1h := Lib.hid (grown_I hgr15 O14.out N1_1h.out)
    have N5 := Lib.hid (grown_SI hgr15 O14.out N5.out)
    have N5l := Lib.hid (grown_I hgr15 O14.out N5l.out)
    have N5h := Lib.hid (grown_I hgr15 O14.out N5h.out)
    have N12 := Lib.hid (grown_I hgr15 O14.out N12.out)
    have NE15BX1 := hne15 g1 (below_lt BX1.out) NEO14BX1
    have BX1 := Lib.hid (grown_heap hgr15 BX1.out NEO14BX1)
    have NE15BX2 := hne15 g2 (below_lt BX2.out) NEO14BX2
    have BX2 := Lib.hid (grown_heap hgr15 BX2.out NEO14BX2)
    have NE15BX3 := hne15 g3 (below_lt BX3.out) NEO14BX3
    have BX3 := Lib.hid (grown_heap hgr15 BX3.out NEO14BX3)
    have NE15BX8 := hne15 g8 (below_lt BX8.out) NEO14BX8
    have BX8 := Lib.hid (grown_heap hgr15 BX8.out NEO14BX8)
    have NE15BX9 := hne15 g9 (below_lt BX9.out) NEO14BX9
    have BX9 := Lib.hid (grown_heap hgr15 BX9.out NEO14BX9)
    have NE15BX10 := hne15 g10 (below_lt BX10.out) NEO14BX10
    have BX10 := Lib.hid (grown_heap hgr15 BX10.out NEO14BX10)
    have NE15BX11 := hne15 g11 (below_lt BX11.out) NEO14BX11
    have BX11 := Lib.hid (grown_heap hgr15 BX11.out NEO14BX11)
    have HB15 := Lib.hid (O14.out.low hgr15 HB13.out HB13.out.size)
    clear BX13 NEO14BX1 NEO14BX2 NEO14BX3 NEO14BX8 NEO14BX9 NEO14BX10 NEO14BX11 NEO14BX13
    have O15 := Lib.hid ho15; clear ho15 hgr15 hne15
    go_wp2_with (with_reducible first | refine pauseCall ?_ | refine pauseLoop ?_ | refine pauseDraw ?_ | refine pauseBody ?_ | refine pauseRounds ?_)
    refine Pause.mk ?_
    rw [rounds_succ]
    obtain ⟨x14_0, x14_1, x14_2, x14_3, x14_4, x14_5⟩ := row6 BX10.out
    obtain ⟨w16, hw16⟩ : ∃ w16, w16 = w15.alloc (.cells #[.bool s3x, .slice o3x n3x c3x, .slice a3x m3x d3x] 24) := ⟨_, rfl⟩
    have hb16 : Below w15.heap.size w15 w16 := by rw [hw16]; exact (Below.refl _ _).alloc (Nat.le_refl _) _
    have hx16 := heap_alloc_new w15 (.cells #[.bool s3x, .slice o3x n3x c3x, .slice a3x m3x d3x] 24)
    obtain ⟨g16, hg16⟩ : ∃ g, g = w15.heap.size := ⟨_, rfl⟩
    rw [← hw16, ← hg16] at hx16
    have lw16 : w.heap.size ≤ g16 := by rw [hg16]; exact HB15.out.size
    have ltBX116 : g1 < g16 := by rw [hg16]; exact below_lt BX1.out
    have ltBX216 : g2 < g16 := by rw [hg16]; exact below_lt BX2.out
    have ltBX316 : g3 < g16 := by rw [hg16]; exact below_lt BX3.out
    have ltBX816 : g8 < g16 := by rw [hg16]; exact below_lt BX8.out
    have ltBX916 : g9 < g16 := by rw [hg16]; exact below_lt BX9.out
    have ltBX1016 : g10 < g16 := by rw [hg16]; exact below_lt BX10.out
    have ltBX1116 : g11 < g16 := by rw [hg16]; exact below_lt BX11.out
    have NEO15BX16 := O15.out.lt (show w15.heap.size ≤ g16 by rw [hg16]; exact Nat.le_refl _)
    have HW16 := Lib.hid hw16; have HG16 := Lib.hid hg16; clear hw16 hg16
    have HB16 := Lib.hid (HB15.out.step hb16)
    have Fa := Lib.hid (Fa.out.below hb16)
    have Fb := Lib.hid (Fb.out.below hb16)
    have N1_1 := Lib.hid (N1_1.out.below hb16)
    have N1_1l := Lib.hid (N1_1l.out.below hb16)
    have N1_1h := Lib.hid (N1_1h.out.below hb16)
    have N5 := Lib.hid (N5.out.below hb16)
    have N5l := Lib.hid (N5l.out.below hb16)
    have N5h := Lib.hid (N5h.out.below hb16)
    have N12 := Lib.hid (N12.out.below hb16)
    have O15 := Lib.hid (O15.out.below hb16)
    have BX1 := Lib.hid (heap_below BX1.out hb16)
    have BX2 := Lib.hid (heap_below BX2.out hb16)
    have BX3 := Lib.hid (heap_below BX3.out hb16)
    have BX8 := Lib.hid (heap_below BX8.out hb16)
    have BX9 := Lib.hid (heap_below BX9.out hb16)
    have BX10 := Lib.hid (heap_below BX10.out hb16)
    have BX11 := Lib.hid (heap_below BX11.out hb16)
    have BX16 := Lib.hid hx16; clear hb16 hx16
    obtain ⟨x15_0, x15_1, x15_2⟩ := row3 BX9.out
    obtain ⟨x16_0, x16_1, x16_2⟩ := row3 BX16.out
    have k17 := rl_mul ((a).1) ((b).2)
    have hs := rmulq_any _ ((a).1) _ ((b).2) w16 (N1_1l.out.is (by omega)) (N5h.out.is (by omega))
    have HS := Lib.hid hs; clear hs
    try rw [HG16.out] at x14_0
    try rw [HG16.out] at x14_1
    try rw [HG16.out] at x14_2
    try rw [HG16.out] at x14_3
    try rw [HG16.out] at x14_4
    try rw [HG16.out] at x14_5
    try rw [HW16.out] at x15_0
    try rw [HG16.out] at x15_0
    try rw [HW16.out] at x15_1
    try rw [HG16.out] at x15_1
    try rw [HW16.out] at x15_2
    try rw [HG16.out] at x15_2
    try rw [HW16.out] at x16_0
    try rw [HG16.out] at x16_0
    try rw [HW16.out] at x16_1
    try rw [HG16.out] at x16_1
    try rw [HW16.out] at x16_2
    try rw [HG16.out] at x16_2
    go_wp2_with (with_reducible first | refine pauseCall ?_ | refine pauseLoop ?_ | refine pauseDraw ?_ | refine pauseBody ?_ | refine pauseRounds ?_)
    try rw [← HW16.out]
    try rw [← HG16.out]
    clear x14_0 x14_1 x14_2 x14_3 x14_4 x14_5 x15_0 x15_1 x15_2 x16_0 x16_1 x16_2
    refine Pause.mk ?_
    (with_reducible refine HS.out.mono ?_); rintro e w17 ⟨v17, rfl, hb17, hn17⟩
    clear HS
    have HB17 := Lib.hid (HB16.out.step hb17)
    have Fa := Lib.hid (Fa.out.below hb17)
    have Fb := Lib.hid (Fb.out.below hb17)
    have N1_1 := Lib.hid (N1_1.out.below hb17)
    have N1_1l := Lib.hid (N1_1l.out.below hb17)
    have N1_1h := Lib.hid (N1_1h.out.below hb17)
    have N5 := Lib.hid (N5.out.below hb17)
    have N5l := Lib.hid (N5l.out.below hb17)
    have N5h := Lib.hid (N5h.out.below hb17)
    have N12 := Lib.hid (N12.out.below hb17)
    have O15 := Lib.hid (O15.out.below hb17)
    have BX1 := Lib.hid (heap_below BX1.out hb17)
    have BX2 := Lib.hid (heap_below BX2.out hb17)
    have BX3 := Lib.hid (heap_below BX3.out hb17)
    have BX8 := Lib.hid (heap_below BX8.out hb17)
    have BX9 := Lib.hid (heap_below BX9.out hb17)
    have BX10 := Lib.hid (heap_below BX10.out hb17)
    have BX16 := Lib.hid (heap_below BX16.out hb17)
    have N17 := Lib.hid hn17; clear hn17
    obtain ⟨s18, o18, n18, c18, a18, m18, d18, rfl⟩ := N17.out.shape
    clear hb17
    obtain ⟨w18, hw18⟩ : ∃ w18, w18 = w17.alloc (.cells #[.bool s18, .slice o18 n18 c18, .slice a18 m18 d18] 24) := ⟨_, rfl⟩
    have hb18 : Below w17.heap.size w17 w18 := by rw [hw18]; exact (Below.refl _ _).alloc (Nat.le_refl _) _
    have hx18 := heap_alloc_new w17 (.cells #[.bool s18, .slice o18 n18 c18, .slice a18 m18 d18] 24)
    obtain ⟨g18, hg18⟩ : ∃ g, g = w17.heap.size := ⟨_, rfl⟩
    rw [← hw18, ← hg18] at hx18
    have lw18 : w.heap.size ≤ g18 := by rw [hg18]; exact HB17.out.size
    have ltBX118 : g1 < g18 := by rw [hg18]; exact below_lt BX1.out
    have ltBX218 : g2 < g18 := by rw [hg18]; exact below_lt BX2.out
    have ltBX318 : g3 < g18 := by rw [hg18]; exact below_lt BX3.out
    have ltBX818 : g8 < g18 := by rw [hg18]; exact below_lt BX8.out
    have ltBX918 : g9 < g18 := by rw [hg18]; exact below_lt BX9.out
    have ltBX1018 : g10 < g18 := by rw [hg18]; exact below_lt BX10.out
    have ltBX1618 : g16 < g18 := by rw [hg18]; exact below_lt BX16.out
    have NEO15BX18 := O15.out.lt (show w17.heap.size ≤ g18 by rw [hg18]; exact Nat.le_refl _)
    have HW18 := Lib.hid hw18; have HG18 := Lib.hid hg18; clear hw18 hg18
    have HB18 := Lib.hid (HB17.out.step hb18)
    have Fa := Lib.hid (Fa.out.below hb18)
    have Fb := Lib.hid (Fb.out.below hb18)
    have N1_1 := Lib.hid (N1_1.out.below hb18)
    have N1_1l := Lib.hid (N1_1l.out.below hb18)
    have N1_1h := Lib.hid (N1_1h.out.below hb18)
    have N5 := Lib.hid (N5.out.below hb18)
    have N5l := Lib.hid (N5l.out.below hb18)
    have N5h := Lib.hid (N5h.out.below hb18)
    have N12 := Lib.hid (N12.out.below hb18)
    have O15 := Lib.hid (O15.out.below hb18)
    have N17 := Lib.hid (N17.out.below hb18)
    have BX1 := Lib.hid (heap_below BX1.out hb18)
    have BX2 := Lib.hid (heap_below BX2.out hb18)
    have BX3 := Lib.hid (heap_below BX3.out hb18)
    have BX8 := Lib.hid (heap_below BX8.out hb18)
    have BX9 := Lib.hid (heap_below BX9.out hb18)
    have BX10 := Lib.hid (heap_below BX10.out hb18)
    have BX16 := Lib.hid (heap_below BX16.out hb18)
    have BX18 := Lib.hid hx18; clear hb18 hx18
    go_wp2_with (with_reducible refine wpList_pauseB ?_)
    try rw [← HW18.out]
    try rw [← HG18.out]
    refine wpList_appL w.heap.size Tryz.ratTy rfl noU3 (by decide) (v15) 1 [.bool s13, .slice o13 n13 c13, .slice a13 m13 d13] [.bool s18, .slice o18 n18 c18, .slice a18 m18 d18] g18 24 rfl rfl O15.out BX18.out rfl rfl noU3 noU3 (by decide) (by decide) HB18.out.size ?_
    intro v19 w19 ho19 hgr19 hne19
    have Fa := Lib.hid (grown_SS hgr19 O15.out Fa.out)
    have Fb := Lib.hid (grown_SS hgr19 O15.out Fb.out)
    have N1_1 := Lib.hid (grown_SI hgr19 O15.out N1_1.out)
    have N1_1l := Lib.hid (grown_I hgr19 O15.out N1_1l.out)
    have N1_1h := Lib.hid (grown_I hgr19 O15.out N1_1h.out)
    have N5 := Lib.hid (grown_SI hgr19 O15.out N5.out)
    have N5l := Lib.hid (grown_I hgr19 O15.out N5l.out)
    have N5h := Lib.hid (grown_I hgr19 O15.out N5h.out)
    have N12 := Lib.hid (grown_I hgr19 O15.out N12.out)
    have N17 := Lib.hid (grown_I hgr19 O15.out N17.out)
    have NE19BX1 := hne19 g1 (below_lt BX1.out) NE15BX1
    have BX1 := Lib.hid (grown_heap hgr19 BX1.out NE15BX1)
    have NE19BX2 := hne19 g2 (below_lt BX2.out) NE15BX2
    have BX2 := Lib.hid (grown_heap hgr19 BX2.out NE15BX2)
    have NE19BX3 := hne19 g3 (below_lt BX3.out) NE15BX3
    have BX3 := Lib.hid (grown_heap hgr19 BX3.out NE15BX3)
    have NE19BX8 := hne19 g8 (below_lt BX8.out) NE15BX8
    have BX8 := Lib.hid (grown_heap hgr19 BX8.out NE15BX8)
    have NE19BX9 := hne19 g9 (below_lt BX9.out) NE15BX9
    have BX9 := Lib.hid (grown_heap hgr19 BX9.out NE15BX9)
    have NE19BX10 := hne19 g10 (below_lt BX10.out) NE15BX10
    have BX10 := Lib.hid (grown_heap hgr19 BX10.out NE15BX10)
    have NE19BX16 := hne19 g16 (below_lt BX16.out) NEO15BX16
    have BX16 := Lib.hid (grown_heap hgr19 BX16.out NEO15BX16)
    have HB19 := Lib.hid (O15.out.low hgr19 HB18.out HB18.out.size)
    clear BX18 NE15BX1 NE15BX2 NE15BX3 NE15BX8 NE15BX9 NE15BX10 NEO15BX16 NEO15BX18
    have O19 := Lib.hid ho19; clear ho19 hgr19 hne19
    go_wp2_with (with_reducible first | refine pauseCall ?_ | refine pauseLoop ?_ | refine pauseDraw ?_ | refine pauseBody ?_ | refine pauseRounds ?_)
    refine Pause.mk ?_
    rw [rounds_succ]
    go_wp2_with (with_reducible first | refine pauseCall ?_ | refine pauseLoop ?_ | refine pauseDraw ?_ | refine pauseBody ?_ | refine pauseRounds ?_)
    refine Pause.mk ?_
    rw [rounds_succ]
    obtain ⟨x19_0, x19_1, x19_2, x19_3, x19_4, x19_5⟩ := row6 BX8.out
    obtain ⟨w20, hw20⟩ : ∃ w20, w20 = w19.alloc (.cells #[.bool s2x, .slice o2x n2x c2x, .slice a2x m2x d2x] 24) := ⟨_, rfl⟩
    have hb20 : Below w19.heap.size w19 w20 := by rw [hw20]; exact (Below.refl _ _).alloc (Nat.le_refl _) _
    have hx20 := heap_alloc_new w19 (.cells #[.bool s2x, .slice o2x n2x c2x, .slice a2x m2x d2x] 24)
    obtain ⟨g20, hg20⟩ : ∃ g, g = w19.heap.size := ⟨_, rfl⟩
    rw [← hw20, ← hg20] at hx20
    have lw20 : w.heap.size ≤ g20 := by rw [hg20]; exact HB19.out.size
    have ltBX120 : g1 < g20 := by rw [hg20]; exact below_lt BX1.out
    have ltBX220 : g2 < g20 := by rw [hg20]; exact below_lt BX2.out
    have ltBX320 : g3 < g20 := by rw [hg20]; exact below_lt BX3.out
    have ltBX820 : g8 < g20 := by rw [hg20]; exact below_lt BX8.out
    have ltBX920 : g9 < g20 := by rw [hg20]; exact below_lt BX9.out
    have ltBX1020 : g10 < g20 := by rw [hg20]; exact below_lt BX10.out
    have ltBX1620 : g16 < g20 := by rw [hg20]; exact below_lt BX16.out
    have NEO19BX20 := O19.out.lt (show w19.heap.size ≤ g20 by rw [hg20]; exact Nat.le_refl _)
    have HW20 := Lib.hid hw20; have HG20 := Lib.hid hg20; clear hw20 hg20
    have HB20 := Lib.hid (HB19.out.step hb20)
    have Fa := Lib.hid (Fa.out.below hb20)
    have Fb := Lib.hid (Fb.out.below hb20)
    have N1_1 := Lib.hid (N1_1.out.below hb20)
    have N1_1l := Lib.hid (N1_1l.out.below hb20)
    have N1_1h := Lib.hid (N1_1h.out.below hb20)
    have N5 := Lib.hid (N5.out.below hb20)
    have N5l := Lib.hid (N5l.out.below hb20)
    have N5h := Lib.hid (N5h.out.below hb20)
    have N12 := Lib.hid (N12.out.below hb20)
    have N17 := Lib.hid (N17.out.below hb20)
    have O19 := Lib.hid (O19.out.below hb20)
    have BX1 := Lib.hid (heap_below BX1.out hb20)
    have BX2 := Lib.hid (heap_below BX2.out hb20)
    have BX3 := Lib.hid (heap_below BX3.out hb20)
    have BX8 := Lib.hid (heap_below BX8.out hb20)
    have BX9 := Lib.hid (heap_below BX9.out hb20)
    have BX10 := Lib.hid (heap_below BX10.out hb20)
    have BX16 := Lib.hid (heap_below BX16.out hb20)
    have BX20 := Lib.hid hx20; clear hb20 hx20
    obtain ⟨x20_0, x20_1, x20_2, x20_3, x20_4, x20_5⟩ := row6 BX2.out
    obtain ⟨x21_0, x21_1, x21_2, x21_3, x21_4, x21_5⟩ := row6 BX2.out
    obtain ⟨w21, hw21⟩ : ∃ w21, w21 = w20.alloc (.cells #[.bool s3, .slice o3 n3 c3, .slice a3 m3 d3, .bool s3x, .slice o3x n3x c3x, .slice a3x m3x d3x] 24) := ⟨_, rfl⟩
    have hb21 : Below w20.heap.size w20 w21 := by rw [hw21]; exact (Below.refl _ _).alloc (Nat.le_refl _) _
    have hx21 := heap_alloc_new w20 (.cells #[.bool s3, .slice o3 n3 c3, .slice a3 m3 d3, .bool s3x, .slice o3x n3x c3x, .slice a3x m3x d3x] 24)
    obtain ⟨g21, hg21⟩ : ∃ g, g = w20.heap.size := ⟨_, rfl⟩
    rw [← hw21, ← hg21] at hx21
    have lw21 : w.heap.size ≤ g21 := by rw [hg21]; exact HB20.out.size
    have ltBX121 : g1 < g21 := by rw [hg21]; exact below_lt BX1.out
    have ltBX221 : g2 < g21 := by rw [hg21]; exact below_lt BX2.out
    have ltBX321 : g3 < g21 := by rw [hg21]; exact below_lt BX3.out
    have ltBX821 : g8 < g21 := by rw [hg21]; exact below_lt BX8.out
    have ltBX2021 : g20 < g21 := by rw [hg21]; exact below_lt BX20.out
    have ltBX1021 : g10 < g21 := by rw [hg21]; exact below_lt BX10.out
    have ltBX1621 : g16 < g21 := by rw [hg21]; exact below_lt BX16.out
    have NEO19BX21 := O19.out.lt (show w20.heap.size ≤ g21 by rw [hg21]; exact Nat.le_refl _)
    have hs21 : g21 = w19.heap.size + 1 := by rw [hg21, HW20.out]; simp
    have HS21 := Lib.hid hs21; clear hs21
    have HW21 := Lib.hid hw21; have HG21 := Lib.hid hg21; clear hw21 hg21
    have HB21 := Lib.hid (HB20.out.step hb21)
    have Fa := Lib.hid (Fa.out.below hb21)
    have Fb := Lib.hid (Fb.out.below hb21)
    have N1_1 := Lib.hid (N1_1.out.below hb21)
    have N1_1l := Lib.hid (N1_1l.out.below hb21)
    have N1_1h := Lib.hid (N1_1h.out.below hb21)
    have N5 := Lib.hid (N5.out.below hb21)
    have N5l := Lib.hid (N5l.out.below hb21)
    have N5h := Lib.hid (N5h.out.below hb21)
    have N12 := Lib.hid (N12.out.below hb21)
    have N17 := Lib.hid (N17.out.below hb21)
    have O19 := Lib.hid (O19.out.below hb21)
    have BX1 := Lib.hid (heap_below BX1.out hb21)
    have BX2 := Lib.hid (heap_below BX2.out hb21)
    have BX3 := Lib.hid (heap_below BX3.out hb21)
    have BX8 := Lib.hid (heap_below BX8.out hb21)
    have BX20 := Lib.hid (heap_below BX20.out hb21)
    have BX10 := Lib.hid (heap_below BX10.out hb21)
    have BX16 := Lib.hid (heap_below BX16.out hb21)
    have BX21 := Lib.hid hx21; clear hb21 hx21
    try rw [HG21.out] at x19_0
    try rw [HG20.out] at x19_0
    try rw [HG21.out] at x19_1
    try rw [HG20.out] at x19_1
    try rw [HG21.out] at x19_2
    try rw [HG20.out] at x19_2
    try rw [HG21.out] at x19_3
    try rw [HG20.out] at x19_3
    try rw [HG21.out] at x19_4
    try rw [HG20.out] at x19_4
    try rw [HG21.out] at x19_5
    try rw [HG20.out] at x19_5
    try rw [HG21.out] at x20_0
    try rw [HW20.out] at x20_0
    try rw [HG20.out] at x20_0
    try rw [HG21.out] at x20_1
    try rw [HW20.out] at x20_1
    try rw [HG20.out] at x20_1
    try rw [HG21.out] at x20_2
    try rw [HW20.out] at x20_2
    try rw [HG20.out] at x20_2
    try rw [HG21.out] at x20_3
    try rw [HW20.out] at x20_3
    try rw [HG20.out] at x20_3
    try rw [HG21.out] at x20_4
    try rw [HW20.out] at x20_4
    try rw [HG20.out] at x20_4
    try rw [HG21.out] at x20_5
    try rw [HW20.out] at x20_5
    try rw [HG20.out] at x20_5
    try rw [HG21.out] at x21_0
    try rw [HW20.out] at x21_0
    try rw [HG20.out] at x21_0
    try rw [HG21.out] at x21_1
    try rw [HW20.out] at x21_1
    try rw [HG20.out] at x21_1
    try rw [HG21.out] at x21_2
    try rw [HW20.out] at x21_2
    try rw [HG20.out] at x21_2
    try rw [HG21.out] at x21_3
    try rw [HW20.out] at x21_3
    try rw [HG20.out] at x21_3
    try rw [HG21.out] at x21_4
    try rw [HW20.out] at x21_4
    try rw [HG20.out] at x21_4
    try rw [HG21.out] at x21_5
    try rw [HW20.out] at x21_5
    try rw [HG20.out] at x21_5
    go_wp2_with (with_reducible first | refine pauseCall ?_ | refine pauseLoop ?_ | refine pauseDraw ?_ | refine pauseBody ?_ | refine pauseRounds ?_)
    try rw [← HW20.out]
    try rw [← HW21.out]
    try rw [← HS21.out]
    try rw [← HG20.out]
    try rw [← HG21.out]
    clear x19_0 x19_1 x19_2 x19_3 x19_4 x19_5 x20_0 x20_1 x20_2 x20_3 x20_4 x20_5 x21_0 x21_1 x21_2 x21_3 x21_4 x21_5
    refine Pause.mk ?_
    refine wp_loop_rounds 3 ?_
    rw [rounds_succ]
    obtain ⟨x22_0, x22_1, x22_2, x22_3, x22_4, x22_5⟩ := row6 BX21.out
    obtain ⟨w22, hw22⟩ : ∃ w22, w22 = w21.alloc (.cells #[.bool s3, .slice o3 n3 c3, .slice a3 m3 d3] 24) := ⟨_, rfl⟩
    have hb22 : Below w21.heap.size w21 w22 := by rw [hw22]; exact (Below.refl _ _).alloc (Nat.le_refl _) _
    have hx22 := heap_alloc_new w21 (.cells #[.bool s3, .slice o3 n3 c3, .slice a3 m3 d3] 24)
    obtain ⟨g22, hg22⟩ : ∃ g, g = w21.heap.size := ⟨_, rfl⟩
    rw [← hw22, ← hg22] at hx22
    have lw22 : w.heap.size ≤ g22 := by rw [hg22]; exact HB21.out.size
    have ltBX122 : g1 < g22 := by rw [hg22]; exact below_lt BX1.out
    have ltBX222 : g2 < g22 := by rw [hg22]; exact below_lt BX2.out
    have ltBX322 : g3 < g22 := by rw [hg22]; exact below_lt BX3.out
    have ltBX822 : g8 < g22 := by rw [hg22]; exact below_lt BX8.out
    have ltBX2022 : g20 < g22 := by rw [hg22]; exact below_lt BX20.out
    have ltBX1022 : g10 < g22 := by rw [hg22]; exact below_lt BX10.out
    have ltBX1622 : g16 < g22 := by rw [hg22]; exact below_lt BX16.out
    have ltBX2122 : g21 < g22 := by rw [hg22]; exact below_lt BX21.out
    have NEO19BX22 := O19.out.lt (show w21.heap.size ≤ g22 by rw [hg22]; exact Nat.le_refl _)
    have HW22 := Lib.hid hw22; have HG22 := Lib.hid hg22; clear hw22 hg22
    have HB22 := Lib.hid (HB21.out.step hb22)
    have Fa := Lib.hid (Fa.out.below hb22)
    have Fb := Lib.hid (Fb.out.below hb22)
    have N1_1 := Lib.hid (N1_1.out.below hb22)
    have N1_1l := Lib.hid (N1_1l.out.below hb22)
    have N1_1h := Lib.hid (N1_1h.out.below hb22)
    have N5 := Lib.hid (N5.out.below hb22)
    have N5l := Lib.hid (N5l.out.below hb22)
    have N5h := Lib.hid (N5h.out.below hb22)
    have N12 := Lib.hid (N12.out.below hb22)
    have N17 := Lib.hid (N17.out.below hb22)
    have O19 := Lib.hid (O19.out.below hb22)
    have BX1 := Lib.hid (heap_below BX1.out hb22)
    have BX2 := Lib.hid (heap_below BX2.out hb22)
    have BX3 := Lib.hid (heap_below BX3.out hb22)
    have BX8 := Lib.hid (heap_below BX8.out hb22)
    have BX20 := Lib.hid (heap_below BX20.out hb22)
    have BX10 := Lib.hid (heap_below BX10.out hb22)
    have BX16 := Lib.hid (heap_below BX16.out hb22)
    have BX21 := Lib.hid (heap_below BX21.out hb22)
    have BX22 := Lib.hid hx22; clear hb22 hx22
    obtain ⟨x23_0, x23_1, x23_2⟩ := row3 BX20.out
    obtain ⟨x24_0, x24_1, x24_2⟩ := row3 BX22.out
    have k25 := rl_mul ((a).2) ((b).1)
    have hs := rmulq_any _ ((a).2) _ ((b).1) w22 (N1_1h.out.is (by omega)) (N5l.out.is (by omega))
    have HS := Lib.hid hs; clear hs
    try rw [HG22.out] at x22_0
    try rw [HG22.out] at x22_1
    try rw [HG22.out] at x22_2
    try rw [HG22.out] at x22_3
    try rw [HG22.out] at x22_4
    try rw [HG22.out] at x22_5
    try rw [HW22.out] at x23_0
    try rw [HG22.out] at x23_0
    try rw [HW22.out] at x23_1
    try rw [HG22.out] at x23_1
    try rw [HW22.out] at x23_2
    try rw [HG22.out] at x23_2
    try rw [HW22.out] at x24_0
    try rw [HG22.out] at x24_0
    try rw [HW22.out] at x24_1
    try rw [HG22.out] at x24_1
    try rw [HW22.out] at x24_2
    try rw [HG22.out] at x24_2
    go_wp2_with (with_reducible first | refine pauseCall ?_ | refine pauseLoop ?_ | refine pauseDraw ?_ | refine pauseBody ?_ | refine pauseRounds ?_)
    try rw [← HW22.out]
    try rw [← HG22.out]
    clear x22_0 x22_1 x22_2 x22_3 x22_4 x22_5 x23_0 x23_1 x23_2 x24_0 x24_1 x24_2
    refine Pause.mk ?_
    (with_reducible refine HS.out.mono ?_); rintro e w23 ⟨v23, rfl, hb23, hn23⟩
    clear HS
    have HB23 := Lib.hid (HB22.out.step hb23)
    have Fa := Lib.hid (Fa.out.below hb23)
    have Fb := Lib.hid (Fb.out.below hb23)
    have N1_1 := Lib.hid (N1_1.out.below hb23)
    have N1_1l := Lib.hid (N1_1l.out.below hb23)
    have N1_1h := Lib.hid (N1_1h.out.below hb23)
    have N5 := Lib.hid (N5.out.below hb23)
    have N5l := Lib.hid (N5l.out.below hb23)
    have N5h := Lib.hid (N5h.out.below hb23)
    have N12 := Lib.hid (N12.out.below hb23)
    have N17 := Lib.hid (N17.out.below hb23)
    have O19 := Lib.hid (O19.out.below hb23)
    have BX1 := Lib.hid (heap_below BX1.out hb23)
    have BX2 := Lib.hid (heap_below BX2.out hb23)
    have BX3 := Lib.hid (heap_below BX3.out hb23)
    have BX8 := Lib.hid (heap_below BX8.out hb23)
    have BX20 := Lib.hid (heap_below BX20.out hb23)
    have BX10 := Lib.hid (heap_below BX10.out hb23)
    have BX22 := Lib.hid (heap_below BX22.out hb23)
    have BX21 := Lib.hid (heap_below BX21.out hb23)
    have N23 := Lib.hid hn23; clear hn23
    obtain ⟨s26, o26, n26, c26, a26, m26, d26, rfl⟩ := N23.out.shape
    clear hb23
    obtain ⟨w24, hw24⟩ : ∃ w24, w24 = w23.alloc (.cells #[.bool s26, .slice o26 n26 c26, .slice a26 m26 d26] 24) := ⟨_, rfl⟩
    have hb24 : Below w23.heap.size w23 w24 := by rw [hw24]; exact (Below.refl _ _).alloc (Nat.le_refl _) _
    have hx24 := heap_alloc_new w23 (.cells #[.bool s26, .slice o26 n26 c26, .slice a26 m26 d26] 24)
    obtain ⟨g24, hg24⟩ : ∃ g, g = w23.heap.size := ⟨_, rfl⟩
    rw [← hw24, ← hg24] at hx24
    have lw24 : w.heap.size ≤ g24 := by rw [hg24]; exact HB23.out.size
    have ltBX124 : g1 < g24 := by rw [hg24]; exact below_lt BX1.out
    have ltBX224 : g2 < g24 := by rw [hg24]; exact below_lt BX2.out
    have ltBX324 : g3 < g24 := by rw [hg24]; exact below_lt BX3.out
    have ltBX824 : g8 < g24 := by rw [hg24]; exact below_lt BX8.out
    have ltBX2024 : g20 < g24 := by rw [hg24]; exact below_lt BX20.out
    have ltBX1024 : g10 < g24 := by rw [hg24]; exact below_lt BX10.out
    have ltBX2224 : g22 < g24 := by rw [hg24]; exact below_lt BX22.out
    have ltBX2124 : g21 < g24 := by rw [hg24]; exact below_lt BX21.out
    have NEO19BX24 := O19.out.lt (show w23.heap.size ≤ g24 by rw [hg24]; exact Nat.le_refl _)
    have HW24 := Lib.hid hw24; have HG24 := Lib.hid hg24; clear hw24 hg24
    have HB24 := Lib.hid (HB23.out.step hb24)
    have Fa := Lib.hid (Fa.out.below hb24)
    have Fb := Lib.hid (Fb.out.below hb24)
    have N1_1 := Lib.hid (N1_1.out.below hb24)
    have N1_1l := Lib.hid (N1_1l.out.below hb24)
    have N1_1h := Lib.hid (N1_1h.out.below hb24)
    have N5 := Lib.hid (N5.out.below hb24)
    have N5l := Lib.hid (N5l.out.below hb24)
    have N5h := Lib.hid (N5h.out.below hb24)
    have N12 := Lib.hid (N12.out.below hb24)
    have N17 := Lib.hid (N17.out.below hb24)
    have O19 := Lib.hid (O19.out.below hb24)
    have N23 := Lib.hid (N23.out.below hb24)
    have BX1 := Lib.hid (heap_below BX1.out hb24)
    have BX2 := Lib.hid (heap_below BX2.out hb24)
    have BX3 := Lib.hid (heap_below BX3.out hb24)
    have BX8 := Lib.hid (heap_below BX8.out hb24)
    have BX20 := Lib.hid (heap_below BX20.out hb24)
    have BX10 := Lib.hid (heap_below BX10.out hb24)
    have BX22 := Lib.hid (heap_below BX22.out hb24)
    have BX21 := Lib.hid (heap_below BX21.out hb24)
    have BX24 := Lib.hid hx24; clear hb24 hx24
    go_wp2_with (with_reducible refine wpList_pauseB ?_)
    try rw [← HW24.out]
    try rw [← HG24.out]
    refine wpList_appL w.heap.size Tryz.ratTy rfl noU3 (by decide) (v19) 2 [.bool s13, .slice o13 n13 c13, .slice a13 m13 d13, .bool s18, .slice o18 n18 c18, .slice a18 m18 d18] [.bool s26, .slice o26 n26 c26, .slice a26 m26 d26] g24 24 rfl rfl O19.out BX24.out rfl rfl noU3 (noU_app noU3 noU3) (by decide) (by decide) HB24.out.size ?_
    intro v25 w25 ho25 hgr25 hne25
    have Fa := Lib.hid (grown_SS hgr25 O19.out Fa.out)
    have Fb := Lib.hid (grown_SS hgr25 O19.out Fb.out)
    have N1_1 := Lib.hid (grown_SI hgr25 O19.out N1_1.out)
    have N1_1l := Lib.hid (grown_I hgr25 O19.out N1_1l.out)
    have N1_1h := Lib.hid (grown_I hgr25 O19.out N1_1h.out)
    have N5 := Lib.hid (grown_SI hgr25 O19.out N5.out)
    have N5l := Lib.hid (grown_I hgr25 O19.out N5l.out)
    have N5h := Lib.hid (grown_I hgr25 O19.out N5h.out)
    have N12 := Lib.hid (grown_I hgr25 O19.out N12.out)
    have N17 := Lib.hid (grown_I hgr25 O19.out N17.out)
    have N23 := Lib.hid (grown_I hgr25 O19.out N23.out)
    have NE25BX1 := hne25 g1 (below_lt BX1.out) NE19BX1
    have BX1 := Lib.hid (grown_heap hgr25 BX1.out NE19BX1)
    have NE25BX2 := hne25 g2 (below_lt BX2.out) NE19BX2
    have BX2 := Lib.hid (grown_heap hgr25 BX2.out NE19BX2)
    have NE25BX3 := hne25 g3 (below_lt BX3.out) NE19BX3
    have BX3 := Lib.hid (grown_heap hgr25 BX3.out NE19BX3)
    have NE25BX8 := hne25 g8 (below_lt BX8.out) NE19BX8
    have BX8 := Lib.hid (grown_heap hgr25 BX8.out NE19BX8)
    have NE25BX20 := hne25 g20 (below_lt BX20.out) NEO19BX20
    have BX20 := Lib.hid (grown_heap hgr25 BX20.out NEO19BX20)
    have NE25BX10 := hne25 g10 (below_lt BX10.out) NE19BX10
    have BX10 := Lib.hid (grown_heap hgr25 BX10.out NE19BX10)
    have NE25BX22 := hne25 g22 (below_lt BX22.out) NEO19BX22
    have BX22 := Lib.hid (grown_heap hgr25 BX22.out NEO19BX22)
    have NE25BX21 := hne25 g21 (below_lt BX21.out) NEO19BX21
    have BX21 := Lib.hid (grown_heap hgr25 BX21.out NEO19BX21)
    have HB25 := Lib.hid (O19.out.low hgr25 HB24.out HB24.out.size)
    clear BX24 NE19BX1 NE19BX2 NE19BX3 NE19BX8 NEO19BX20 NE19BX10 NEO19BX22 NEO19BX21 NEO19BX24
    have O25 := Lib.hid ho25; clear ho25 hgr25 hne25
    go_wp2_with (with_reducible first | refine pauseCall ?_ | refine pauseLoop ?_ | refine pauseDraw ?_ | refine pauseBody ?_ | refine pauseRounds ?_)
    refine Pause.mk ?_
    rw [rounds_succ]
    obtain ⟨x27_0, x27_1, x27_2, x27_3, x27_4, x27_5⟩ := row6 BX21.out
    obtain ⟨w26, hw26⟩ : ∃ w26, w26 = w25.alloc (.cells #[.bool s3x, .slice o3x n3x c3x, .slice a3x m3x d3x] 24) := ⟨_, rfl⟩
    have hb26 : Below w25.heap.size w25 w26 := by rw [hw26]; exact (Below.refl _ _).alloc (Nat.le_refl _) _
    have hx26 := heap_alloc_new w25 (.cells #[.bool s3x, .slice o3x n3x c3x, .slice a3x m3x d3x] 24)
    obtain ⟨g26, hg26⟩ : ∃ g, g = w25.heap.size := ⟨_, rfl⟩
    rw [← hw26, ← hg26] at hx26
    have lw26 : w.heap.size ≤ g26 := by rw [hg26]; exact HB25.out.size
    have ltBX126 : g1 < g26 := by rw [hg26]; exact below_lt BX1.out
    have ltBX226 : g2 < g26 := by rw [hg26]; exact below_lt BX2.out
    have ltBX326 : g3 < g26 := by rw [hg26]; exact below_lt BX3.out
    have ltBX826 : g8 < g26 := by rw [hg26]; exact below_lt BX8.out
    have ltBX2026 : g20 < g26 := by rw [hg26]; exact below_lt BX20.out
    have ltBX1026 : g10 < g26 := by rw [hg26]; exact below_lt BX10.out
    have ltBX2226 : g22 < g26 := by rw [hg26]; exact below_lt BX22.out
    have ltBX2126 : g21 < g26 := by rw [hg26]; exact below_lt BX21.out
    have NEO25BX26 := O25.out.lt (show w25.heap.size ≤ g26 by rw [hg26]; exact Nat.le_refl _)
    have HW26 := Lib.hid hw26; have HG26 := Lib.hid hg26; clear hw26 hg26
    have HB26 := Lib.hid (HB25.out.step hb26)
    have Fa := Lib.hid (Fa.out.below hb26)
    have Fb := Lib.hid (Fb.out.below hb26)
    have N1_1 := Lib.hid (N1_1.out.below hb26)
    have N1_1l := Lib.hid (N1_1l.out.below hb26)
    have N1_1h := Lib.hid (N1_1h.out.below hb26)
    have N5 := Lib.hid (N5.out.below hb26)
    have N5l := Lib.hid (N5l.out.below hb26)
    have N5h := Lib.hid (N5h.out.below hb26)
    have N12 := Lib.hid (N12.out.below hb26)
    have N17 := Lib.hid (N17.out.below hb26)
    have N23 := Lib.hid (N23.out.below hb26)
    have O25 := Lib.hid (O25.out.below hb26)
    have BX1 := Lib.hid (heap_below BX1.out hb26)
    have BX2 := Lib.hid (heap_below BX2.out hb26)
    have BX3 := Lib.hid (heap_below BX3.out hb26)
    have BX8 := Lib.hid (heap_below BX8.out hb26)
    have BX20 := Lib.hid (heap_below BX20.out hb26)
    have BX10 := Lib.hid (heap_below BX10.out hb26)
    have BX22 := Lib.hid (heap_below BX22.out hb26)
    have BX21 := Lib.hid (heap_below BX21.out hb26)
    have BX26 := Lib.hid hx26; clear hb26 hx26
    obtain ⟨x28_0, x28_1, x28_2⟩ := row3 BX20.out
    obtain ⟨x29_0, x29_1, x29_2⟩ := row3 BX26.out
    have k30 := rl_mul ((a).2) ((b).2)
    have hs := rmulq_any _ ((a).2) _ ((b).2) w26 (N1_1h.out.is (by omega)) (N5h.out.is (by omega))
    have HS := Lib.hid hs; clear hs
    try rw [HG26.out] at x27_0
    try rw [HG26.out] at x27_1
    try rw [HG26.out] at x27_2
    try rw [HG26.out] at x27_3
    try rw [HG26.out] at x27_4
    try rw [HG26.out] at x27_5
    try rw [HW26.out] at x28_0
    try rw [HG26.out] at x28_0
    try rw [HW26.out] at x28_1
    try rw [HG26.out] at x28_1
    try rw [HW26.out] at x28_2
    try rw [HG26.out] at x28_2
    try rw [HW26.out] at x29_0
    try rw [HG26.out] at x29_0
    try rw [HW26.out] at x29_1
    try rw [HG26.out] at x29_1
    try rw [HW26.out] at x29_2
    try rw [HG26.out] at x29_2
    go_wp2_with (with_reducible first | refine pauseCall ?_ | refine pauseLoop ?_ | refine pauseDraw ?_ | refine pauseBody ?_ | refine pauseRounds ?_)
    try rw [← HW26.out]
    try rw [← HG26.out]
    clear x27_0 x27_1 x27_2 x27_3 x27_4 x27_5 x28_0 x28_1 x28_2 x29_0 x29_1 x29_2
    refine Pause.mk ?_
    (with_reducible refine HS.out.mono ?_); rintro e w27 ⟨v27, rfl, hb27, hn27⟩
    clear HS
    have HB27 := Lib.hid (HB26.out.step hb27)
    have Fa := Lib.hid (Fa.out.below hb27)
    have Fb := Lib.hid (Fb.out.below hb27)
    have N1_1 := Lib.hid (N1_1.out.below hb27)
    have N1_1l := Lib.hid (N1_1l.out.below hb27)
    have N1_1h := Lib.hid (N1_1h.out.below hb27)
    have N5 := Lib.hid (N5.out.below hb27)
    have N5l := Lib.hid (N5l.out.below hb27)
    have N5h := Lib.hid (N5h.out.below hb27)
    have N12 := Lib.hid (N12.out.below hb27)
    have N17 := Lib.hid (N17.out.below hb27)
    have N23 := Lib.hid (N23.out.below hb27)
    have O25 := Lib.hid (O25.out.below hb27)
    have BX1 := Lib.hid (heap_below BX1.out hb27)
    have BX2 := Lib.hid (heap_below BX2.out hb27)
    have BX3 := Lib.hid (heap_below BX3.out hb27)
    have BX8 := Lib.hid (heap_below BX8.out hb27)
    have BX20 := Lib.hid (heap_below BX20.out hb27)
    have BX10 := Lib.hid (heap_below BX10.out hb27)
    have BX26 := Lib.hid (heap_below BX26.out hb27)
    have BX21 := Lib.hid (heap_below BX21.out hb27)
    have N27 := Lib.hid hn27; clear hn27
    obtain ⟨s31, o31, n31, c31, a31, m31, d31, rfl⟩ := N27.out.shape
    clear hb27
    obtain ⟨w28, hw28⟩ : ∃ w28, w28 = w27.alloc (.cells #[.bool s31, .slice o31 n31 c31, .slice a31 m31 d31] 24) := ⟨_, rfl⟩
    have hb28 : Below w27.heap.size w27 w28 := by rw [hw28]; exact (Below.refl _ _).alloc (Nat.le_refl _) _
    have hx28 := heap_alloc_new w27 (.cells #[.bool s31, .slice o31 n31 c31, .slice a31 m31 d31] 24)
    obtain ⟨g28, hg28⟩ : ∃ g, g = w27.heap.size := ⟨_, rfl⟩
    rw [← hw28, ← hg28] at hx28
    have lw28 : w.heap.size ≤ g28 := by rw [hg28]; exact HB27.out.size
    have ltBX128 : g1 < g28 := by rw [hg28]; exact below_lt BX1.out
    have ltBX228 : g2 < g28 := by rw [hg28]; exact below_lt BX2.out
    have ltBX328 : g3 < g28 := by rw [hg28]; exact below_lt BX3.out
    have ltBX828 : g8 < g28 := by rw [hg28]; exact below_lt BX8.out
    have ltBX2028 : g20 < g28 := by rw [hg28]; exact below_lt BX20.out
    have ltBX1028 : g10 < g28 := by rw [hg28]; exact below_lt BX10.out
    have ltBX2628 : g26 < g28 := by rw [hg28]; exact below_lt BX26.out
    have ltBX2128 : g21 < g28 := by rw [hg28]; exact below_lt BX21.out
    have NEO25BX28 := O25.out.lt (show w27.heap.size ≤ g28 by rw [hg28]; exact Nat.le_refl _)
    have HW28 := Lib.hid hw28; have HG28 := Lib.hid hg28; clear hw28 hg28
    have HB28 := Lib.hid (HB27.out.step hb28)
    have Fa := Lib.hid (Fa.out.below hb28)
    have Fb := Lib.hid (Fb.out.below hb28)
    have N1_1 := Lib.hid (N1_1.out.below hb28)
    have N1_1l := Lib.hid (N1_1l.out.below hb28)
    have N1_1h := Lib.hid (N1_1h.out.below hb28)
    have N5 := Lib.hid (N5.out.below hb28)
    have N5l := Lib.hid (N5l.out.below hb28)
    have N5h := Lib.hid (N5h.out.below hb28)
    have N12 := Lib.hid (N12.out.below hb28)
    have N17 := Lib.hid (N17.out.below hb28)
    have N23 := Lib.hid (N23.out.below hb28)
    have O25 := Lib.hid (O25.out.below hb28)
    have N27 := Lib.hid (N27.out.below hb28)
    have BX1 := Lib.hid (heap_below BX1.out hb28)
    have BX2 := Lib.hid (heap_below BX2.out hb28)
    have BX3 := Lib.hid (heap_below BX3.out hb28)
    have BX8 := Lib.hid (heap_below BX8.out hb28)
    have BX20 := Lib.hid (heap_below BX20.out hb28)
    have BX10 := Lib.hid (heap_below BX10.out hb28)
    have BX26 := Lib.hid (heap_below BX26.out hb28)
    have BX21 := Lib.hid (heap_below BX21.out hb28)
    have BX28 := Lib.hid hx28; clear hb28 hx28
    go_wp2_with (with_reducible refine wpList_pauseB ?_)
    try rw [← HW28.out]
    try rw [← HG28.out]
    refine wpList_appL w.heap.size Tryz.ratTy rfl noU3 (by decide) (v25) 3 [.bool s13, .slice o13 n13 c13, .slice a13 m13 d13, .bool s18, .slice o18 n18 c18, .slice a18 m18 d18, .bool s26, .slice o26 n26 c26, .slice a26 m26 d26] [.bool s31, .slice o31 n31 c31, .slice a31 m31 d31] g28 24 rfl rfl O25.out BX28.out rfl rfl noU3 (noU_app (noU_app noU3 noU3) noU3) (by decide) (by decide) HB28.out.size ?_
    intro v29 w29 ho29 hgr29 hne29
    have Fa := Lib.hid (grown_SS hgr29 O25.out Fa.out)
    have Fb := Lib.hid (grown_SS hgr29 O25.out Fb.out)
    have N1_1 := Lib.hid (grown_SI hgr29 O25.out N1_1.out)
    have N1_1l := Lib.hid (grown_I hgr29 O25.out N1_1l.out)
    have N1_1h := Lib.hid (grown_I hgr29 O25.out N1_1h.out)
    have N5 := Lib.hid (grown_SI hgr29 O25.out N5.out)
    have N5l := Lib.hid (grown_I hgr29 O25.out N5l.out)
    have N5h := Lib.hid (grown_I hgr29 O25.out N5h.out)
    have N12 := Lib.hid (grown_I hgr29 O25.out N12.out)
    have N17 := Lib.hid (grown_I hgr29 O25.out N17.out)
    have N23 := Lib.hid (grown_I hgr29 O25.out N23.out)
    have N27 := Lib.hid (grown_I hgr29 O25.out N27.out)
    have NE29BX1 := hne29 g1 (below_lt BX1.out) NE25BX1
    have BX1 := Lib.hid (grown_heap hgr29 BX1.out NE25BX1)
    have NE29BX2 := hne29 g2 (below_lt BX2.out) NE25BX2
    have BX2 := Lib.hid (grown_heap hgr29 BX2.out NE25BX2)
    have NE29BX3 := hne29 g3 (below_lt BX3.out) NE25BX3
    have BX3 := Lib.hid (grown_heap hgr29 BX3.out NE25BX3)
    have NE29BX8 := hne29 g8 (below_lt BX8.out) NE25BX8
    have BX8 := Lib.hid (grown_heap hgr29 BX8.out NE25BX8)
    have NE29BX20 := hne29 g20 (below_lt BX20.out) NE25BX20
    have BX20 := Lib.hid (grown_heap hgr29 BX20.out NE25BX20)
    have NE29BX10 := hne29 g10 (below_lt BX10.out) NE25BX10
    have BX10 := Lib.hid (grown_heap hgr29 BX10.out NE25BX10)
    have NE29BX26 := hne29 g26 (below_lt BX26.out) NEO25BX26
    have BX26 := Lib.hid (grown_heap hgr29 BX26.out NEO25BX26)
    have NE29BX21 := hne29 g21 (below_lt BX21.out) NE25BX21
    have BX21 := Lib.hid (grown_heap hgr29 BX21.out NE25BX21)
    have HB29 := Lib.hid (O25.out.low hgr29 HB28.out HB28.out.size)
    clear BX28 NE25BX1 NE25BX2 NE25BX3 NE25BX8 NE25BX20 NE25BX10 NEO25BX26 NE25BX21 NEO25BX28
    have O29 := Lib.hid ho29; clear ho29 hgr29 hne29
    go_wp2_with (with_reducible first | refine pauseCall ?_ | refine pauseLoop ?_ | refine pauseDraw ?_ | refine pauseBody ?_ | refine pauseRounds ?_)
    refine Pause.mk ?_
    rw [rounds_succ]
    go_wp2_with (with_reducible first | refine pauseCall ?_ | refine pauseLoop ?_ | refine pauseDraw ?_ | refine pauseBody ?_ | refine pauseRounds ?_)
    refine Pause.mk ?_
    rw [rounds_succ]
    obtain ⟨k32, k33⟩ := rl_around4 (((a).1) * ((b).1)) (((a).1) * ((b).2)) (((a).2) * ((b).1)) (((a).2) * ((b).2))
    have hs := raround4o w29 O29.out (N12.out.is (by omega)) (by omega) (N17.out.is (by omega)) (by omega) (N23.out.is (by omega)) (by omega) (N27.out.is (by omega)) (by omega)
    have HS := Lib.hid hs; clear hs
    go_wp2_with (with_reducible first | refine pauseCall ?_ | refine pauseLoop ?_ | refine pauseDraw ?_ | refine pauseBody ?_ | refine pauseRounds ?_)
    refine Pause.mk ?_
    (with_reducible refine HS.out.mono ?_); rintro e w30 ⟨v30, rfl, hb30, hn30⟩
    clear HS
    have HB30 := Lib.hid (HB29.out.step hb30)
    have Fa := Lib.hid (Fa.out.below hb30)
    have Fb := Lib.hid (Fb.out.below hb30)
    have N1_1 := Lib.hid (N1_1.out.below hb30)
    have N1_1l := Lib.hid (N1_1l.out.below hb30)
    have N1_1h := Lib.hid (N1_1h.out.below hb30)
    have N5 := Lib.hid (N5.out.below hb30)
    have N5l := Lib.hid (N5l.out.below hb30)
    have N5h := Lib.hid (N5h.out.below hb30)
    have N12 := Lib.hid (N12.out.below hb30)
    have N17 := Lib.hid (N17.out.below hb30)
    have N23 := Lib.hid (N23.out.below hb30)
    have N27 := Lib.hid (N27.out.below hb30)
    have O29 := Lib.hid (O29.out.below hb30)
    have BX1 := Lib.hid (heap_below BX1.out hb30)
    have BX2 := Lib.hid (heap_below BX2.out hb30)
    have BX3 := Lib.hid (heap_below BX3.out hb30)
    have BX8 := Lib.hid (heap_below BX8.out hb30)
    have BX20 := Lib.hid (heap_below BX20.out hb30)
    have BX10 := Lib.hid (heap_below BX10.out hb30)
    have BX26 := Lib.hid (heap_below BX26.out hb30)
    have BX21 := Lib.hid (heap_below BX21.out hb30)
    clear O29 NE29BX1 NE29BX2 NE29BX3 NE29BX8 NE29BX20 NE29BX10 NE29BX26 NE29BX21
    have N30 := Lib.hid hn30; clear hn30
    obtain ⟨s34, o34, n34, c34, a34, m34, d34, s34x, o34x, n34x, c34x, a34x, m34x, d34x, rfl⟩ := N30.out.shape
    have N30l := Lib.hid (isSp_ends N30.out).1; have N30h := Lib.hid (isSp_ends N30.out).2
    clear hb30
    go_wp2_with (with_reducible refine wpList_pauseS ?_)
    refine wpList_stL g3 0 [.bool s34, .slice o34 n34 c34, .slice a34 m34 d34, .bool s34x, .slice o34x n34x c34x, .slice a34x m34x d34x] BX3.out rfl rfl (Nat.le_of_ble_eq_true rfl) (by kernel_rfl) rfl ?_
    intro w31 hp31
    have Fa := Lib.hid (putL_SS hp31 Fa.out BX3.out noW6)
    have Fb := Lib.hid (putL_SS hp31 Fb.out BX3.out noW6)
    have N1_1 := Lib.hid (putL_SI hp31 N1_1.out BX3.out noW6)
    have N1_1l := Lib.hid (putL_I hp31 N1_1l.out BX3.out noW6)
    have N1_1h := Lib.hid (putL_I hp31 N1_1h.out BX3.out noW6)
    have N5 := Lib.hid (putL_SI hp31 N5.out BX3.out noW6)
    have N5l := Lib.hid (putL_I hp31 N5l.out BX3.out noW6)
    have N5h := Lib.hid (putL_I hp31 N5h.out BX3.out noW6)
    have N12 := Lib.hid (putL_I hp31 N12.out BX3.out noW6)
    have N17 := Lib.hid (putL_I hp31 N17.out BX3.out noW6)
    have N23 := Lib.hid (putL_I hp31 N23.out BX3.out noW6)
    have N27 := Lib.hid (putL_I hp31 N27.out BX3.out noW6)
    have N30 := Lib.hid (putL_SI hp31 N30.out BX3.out noW6)
    have N30l := Lib.hid (putL_I hp31 N30l.out BX3.out noW6)
    have N30h := Lib.hid (putL_I hp31 N30h.out BX3.out noW6)
    have BX1 := Lib.hid (putLx hp31 BX1.out (by omega))
    have BX2 := Lib.hid (putLx hp31 BX2.out (by omega))
    have BX8 := Lib.hid (putLx hp31 BX8.out (by omega))
    have BX20 := Lib.hid (putLx hp31 BX20.out (by omega))
    have BX10 := Lib.hid (putLx hp31 BX10.out (by omega))
    have BX26 := Lib.hid (putLx hp31 BX26.out (by omega))
    have BX21 := Lib.hid (putLx hp31 BX21.out (by omega))
    have nx31 : w31.heap[g3]? = some (.cells #[.bool s34, .slice o34 n34 c34, .slice a34 m34 d34, .bool s34x, .slice o34x n34x c34x, .slice a34x m34x d34x] 26) := by rw [hp31]; exact putL_6 BX3.out
    have BX3 := Lib.hid nx31; clear nx31
    have HB31 := Lib.hid (putLb hp31 HB30.out (by omega))
    clear hp31
    obtain ⟨x35_0, x35_1, x35_2, x35_3, x35_4, x35_5⟩ := row6 BX3.out
    go_wp2_with (with_reducible first | refine pauseCall ?_ | refine pauseLoop ?_ | refine pauseDraw ?_ | refine pauseBody ?_ | refine pauseRounds ?_)
    clear x35_0 x35_1 x35_2 x35_3 x35_4 x35_5
    refine Pause.mk ?_
    refine ret_span rfl g3 _ _ _ _ _ _ (by first | rfl | exact rfl) BX3.out rfl ?_
    exact ⟨_, rfl, HB31.out, N30.out⟩
theorem rsmul_any (va : Value) (a : Rat × Rat) (vb : Value) (b : Rat × Rat) (w : World) (ha : SpIs w va a) (hb : SpIs w vb b) (la1 : rl a.1 ≤ 19000) (la2 : rl a.2 ≤ 19000) (lb1 : rl b.1 ≤ 19000) (lb2 : rl b.2 ≤ 19000) :
    Calls Tryz.prog 13 #[va, vb] w (RetSp w (sMul a b)) := rsmul_raw va a vb b w ha hb la1 la2 lb1 lb2
theorem spV_is {w : World} {v : Value} {s t : Bool} {a b c d : List Nat} (h : SpV w v s a b t c d) (hv : Vld s a b ∧ Vld t c d ∧ rq s a b ≤ rq t c d) (l1 : a.length ≤ 40000) (l2 : b.length ≤ 40000) (l3 : c.length ≤ 40000) (l4 : d.length ≤ 40000) : SpIs w v (rq s a b, rq t c d) :=
  ⟨s, a, b, t, c, d, h, if_pos hv, l1, l2, l3, l4⟩
set_option maxRecDepth 100000 in
set_option maxHeartbeats 3200000 in
theorem rsdiv_1 (va : Value) (a : Rat × Rat) (vb : Value) (b : Rat × Rat) (w : World) (ha : SpIs w va a) (hb : SpIs w vb b) (la1 : rl a.1 ≤ 9000) (la2 : rl a.2 ≤ 9000) (lb1 : rl b.1 ≤ 9000) (lb2 : rl b.2 ≤ 9000) (h : inS b 0) :
    Calls Tryz.prog 10 #[va, vb] w (RetSpE w (0, 0) (.int .i64 8)) := by
  have HBW := Lib.hid (Below.refl w.heap.size w)
  have kz0 : rl 0 ≤ 1 := by rw [rl_zero]; exact Nat.le_refl _
  obtain ⟨qa, oa, na, ka, pa, ma, ra, qax, oax, nax, kax, pax, max, rax, rfl⟩ := ha.shape
  have hla := ha.rl; have hoa := ha.ok; obtain ⟨hlaa, hlab⟩ := hla
  have hoa := Lib.hid hoa
  obtain ⟨qb, ob, nb, kb, pb, mb, rb, qbx, obx, nbx, kbx, pbx, mbx, rbx, rfl⟩ := hb.shape
  have hlb := hb.rl; have hob := hb.ok; obtain ⟨hlba, hlbb⟩ := hlb
  have hob := Lib.hid hob
  have HI := Lib.hid (decide_eq_true h); clear h
  have Fa := Lib.hid ha; clear ha
  have Fb := Lib.hid hb; clear hb
  obtain ⟨w1, hw1⟩ : ∃ w1, w1 = w.alloc (.cells #[.bool qa, .slice oa na ka, .slice pa ma ra, .bool qax, .slice oax nax kax, .slice pax max rax] 26) := ⟨_, rfl⟩
  have hb1 : Below w.heap.size w w1 := by rw [hw1]; exact (Below.refl _ _).alloc (Nat.le_refl _) _
  have hx1 := heap_alloc_new w (.cells #[.bool qa, .slice oa na ka, .slice pa ma ra, .bool qax, .slice oax nax kax, .slice pax max rax] 26)
  obtain ⟨g1, hg1⟩ : ∃ g, g = w.heap.size := ⟨_, rfl⟩
  rw [← hw1, ← hg1] at hx1
  have lw1 : w.heap.size ≤ g1 := by rw [hg1]; exact HBW.out.size
  have HW1 := Lib.hid hw1; have HG1 := Lib.hid hg1; clear hw1 hg1
  have HB1 := Lib.hid (HBW.out.step hb1)
  have Fa := Lib.hid (Fa.out.below hb1)
  have Fb := Lib.hid (Fb.out.below hb1)
  have BX1 := Lib.hid hx1; clear hb1 hx1
  obtain ⟨w2, hw2⟩ : ∃ w2, w2 = w1.alloc (.cells #[.bool qb, .slice ob nb kb, .slice pb mb rb, .bool qbx, .slice obx nbx kbx, .slice pbx mbx rbx] 26) := ⟨_, rfl⟩
  have hb2 : Below w1.heap.size w1 w2 := by rw [hw2]; exact (Below.refl _ _).alloc (Nat.le_refl _) _
  have hx2 := heap_alloc_new w1 (.cells #[.bool qb, .slice ob nb kb, .slice pb mb rb, .bool qbx, .slice obx nbx kbx, .slice pbx mbx rbx] 26)
  obtain ⟨g2, hg2⟩ : ∃ g, g = w1.heap.size := ⟨_, rfl⟩
  rw [← hw2, ← hg2] at hx2
  have lw2 : w.heap.size ≤ g2 := by rw [hg2]; exact HB1.out.size
  have ltBX12 : g1 < g2 := by rw [hg2]; exact below_lt BX1.out
  have hs2 : g2 = w.heap.size + 1 := by rw [hg2, HW1.out]; simp
  have HS2 := Lib.hid hs2; clear hs2
  have HW2 := Lib.hid hw2; have HG2 := Lib.hid hg2; clear hw2 hg2
  have HB2 := Lib.hid (HB1.out.step hb2)
  have Fa := Lib.hid (Fa.out.below hb2)
  have Fb := Lib.hid (Fb.out.below hb2)
  have BX1 := Lib.hid (heap_below BX1.out hb2)
  have BX2 := Lib.hid hx2; clear hb2 hx2
  obtain ⟨w3, hw3⟩ : ∃ w3, w3 = w2.alloc (.cells #[.bool false, .slice none 0 0, .slice none 0 0, .bool false, .slice none 0 0, .slice none 0 0] 26) := ⟨_, rfl⟩
  have hb3 : Below w2.heap.size w2 w3 := by rw [hw3]; exact (Below.refl _ _).alloc (Nat.le_refl _) _
  have hx3 := heap_alloc_new w2 (.cells #[.bool false, .slice none 0 0, .slice none 0 0, .bool false, .slice none 0 0, .slice none 0 0] 26)
  obtain ⟨g3, hg3⟩ : ∃ g, g = w2.heap.size := ⟨_, rfl⟩
  rw [← hw3, ← hg3] at hx3
  have lw3 : w.heap.size ≤ g3 := by rw [hg3]; exact HB2.out.size
  have ltBX13 : g1 < g3 := by rw [hg3]; exact below_lt BX1.out
  have ltBX23 : g2 < g3 := by rw [hg3]; exact below_lt BX2.out
  have hs3 : g3 = w.heap.size + 2 := by rw [hg3, HW2.out, HW1.out]; simp
  have HS3 := Lib.hid hs3; clear hs3
  have HW3 := Lib.hid hw3; have HG3 := Lib.hid hg3; clear hw3 hg3
  have HB3 := Lib.hid (HB2.out.step hb3)
  have Fa := Lib.hid (Fa.out.below hb3)
  have Fb := Lib.hid (Fb.out.below hb3)
  have BX1 := Lib.hid (heap_below BX1.out hb3)
  have BX2 := Lib.hid (heap_below BX2.out hb3)
  have BX3 := Lib.hid hx3; clear hb3 hx3
  go_enter Tryz.func10, Tryz.ntmps10
  obtain ⟨x1_0, x1_1, x1_2, x1_3, x1_4, x1_5⟩ := row6 BX2.out
  have hs := rcontains_any _ (b) _ (0) w3 Fb.out ((isR_zero _).is (by rw [rl_zero]; decide)) (by omega) (by omega) (by omega)
  rw [HI.out] at hs
  have HS := Lib.hid hs; clear hs
  try rw [HW3.out] at x1_0
  try rw [HG3.out] at x1_0
  try rw [HW2.out] at x1_0
  try rw [HG2.out] at x1_0
  try rw [HW1.out] at x1_0
  try rw [HG1.out] at x1_0
  try rw [HW3.out] at x1_1
  try rw [HG3.out] at x1_1
  try rw [HW2.out] at x1_1
  try rw [HG2.out] at x1_1
  try rw [HW1.out] at x1_1
  try rw [HG1.out] at x1_1
  try rw [HW3.out] at x1_2
  try rw [HG3.out] at x1_2
  try rw [HW2.out] at x1_2
  try rw [HG2.out] at x1_2
  try rw [HW1.out] at x1_2
  try rw [HG1.out] at x1_2
  try rw [HW3.out] at x1_3
  try rw [HG3.out] at x1_3
  try rw [HW2.out] at x1_3
  try rw [HG2.out] at x1_3
  try rw [HW1.out] at x1_3
  try rw [HG1.out] at x1_3
  try rw [HW3.out] at x1_4
  try rw [HG3.out] at x1_4
  try rw [HW2.out] at x1_4
  try rw [HG2.out] at x1_4
  try rw [HW1.out] at x1_4
  try rw [HG1.out] at x1_4
  try rw [HW3.out] at x1_5
  try rw [HG3.out] at x1_5
  try rw [HW2.out] at x1_5
  try rw [HG2.out] at x1_5
  try rw [HW1.out] at x1_5
  try rw [HG1.out] at x1_5
  go_wp2_with (with_reducible first | refine pauseCall ?_ | refine pauseLoop ?_ | refine pauseDraw ?_ | refine pauseBody ?_ | refine pauseRounds ?_)
  try rw [← HW1.out]
  try rw [← HW2.out]
  try rw [← HW3.out]
  try rw [← HS3.out]
  try rw [← HS2.out]
  try rw [← HG1.out]
  try rw [← HG2.out]
  try rw [← HG3.out]
  clear x1_0 x1_1 x1_2 x1_3 x1_4 x1_5
  refine Pause.mk ?_
  (with_reducible refine HS.out.mono ?_); rintro e w4 ⟨rfl, hb4⟩
  clear HS
  have HB4 := Lib.hid (HB3.out.step hb4)
  have Fa := Lib.hid (Fa.out.below hb4)
  have Fb := Lib.hid (Fb.out.below hb4)
  have BX1 := Lib.hid (heap_below BX1.out hb4)
  have BX2 := Lib.hid (heap_below BX2.out hb4)
  have BX3 := Lib.hid (heap_below BX3.out hb4)
  clear hb4
  go_wp2_with (with_reducible refine wpList_pauseS ?_)
  refine wpList_stL g3 0 [.bool false, .slice none 0 0, .slice none 0 0, .bool false, .slice none 0 0, .slice none 0 0] BX3.out rfl rfl (Nat.le_of_ble_eq_true rfl) (by kernel_rfl) rfl ?_
  intro w5 hp5
  have Fa := Lib.hid (putL_SS hp5 Fa.out BX3.out noW6)
  have Fb := Lib.hid (putL_SS hp5 Fb.out BX3.out noW6)
  have BX1 := Lib.hid (putLx hp5 BX1.out (by omega))
  have BX2 := Lib.hid (putLx hp5 BX2.out (by omega))
  have nx5 : w5.heap[g3]? = some (.cells #[.bool false, .slice none 0 0, .slice none 0 0, .bool false, .slice none 0 0, .slice none 0 0] 26) := by rw [hp5]; exact putL_6 BX3.out
  have BX3 := Lib.hid nx5; clear nx5
  have HB5 := Lib.hid (putLb hp5 HB4.out (by omega))
  clear hp5
  obtain ⟨x2_0, x2_1, x2_2, x2_3, x2_4, x2_5⟩ := row6 BX3.out
  go_wp2_with (with_reducible first | refine pauseCall ?_ | refine pauseLoop ?_ | refine pauseDraw ?_ | refine pauseBody ?_ | refine pauseRounds ?_)
  clear x2_0 x2_1 x2_2 x2_3 x2_4 x2_5
  refine Pause.mk ?_
  refine ret_span2 rfl g3 _ _ _ _ _ _ (by first | rfl | exact rfl) BX3.out rfl ?_
  exact ⟨_, rfl, HB5.out, (isSp_zero _)⟩
set_option maxRecDepth 100000 in
set_option maxHeartbeats 6400000 in
theorem rsdiv_2 (va : Value) (a : Rat × Rat) (vb : Value) (sb : Bool) (ab bb : List Nat) (tb : Bool) (cb db : List Nat) (w : World) (ha : SpIs w va a) (hb : SpV w vb sb ab bb tb cb db) (la1 : rl a.1 ≤ 9000) (la2 : rl a.2 ≤ 9000) (hv : Vld sb ab bb ∧ Vld tb cb db ∧ rq sb ab bb ≤ rq tb cb db) (n1 : ab.length ≤ 40000) (n2 : bb.length ≤ 40000) (n3 : cb.length ≤ 40000) (n4 : db.length ≤ 40000) (lb1 : rl (rq sb ab bb) ≤ 9000) (lb2 : rl (rq tb cb db) ≤ 9000) (h : ¬ inS (rq sb ab bb, rq tb cb db) 0) :
    Calls Tryz.prog 10 #[va, vb] w (RetSpE w (sDiv a (rq sb ab bb, rq tb cb db)) (.int .i64 0)) := by
  have HBW := Lib.hid (Below.refl w.heap.size w)
  have kz0 : rl 0 ≤ 1 := by rw [rl_zero]; exact Nat.le_refl _
  obtain ⟨qa, oa, na, ka, pa, ma, ra, qax, oax, nax, kax, pax, max, rax, rfl⟩ := ha.shape
  have hla := ha.rl; have hoa := ha.ok; obtain ⟨hlaa, hlab⟩ := hla
  have hoa := Lib.hid hoa
  obtain ⟨qb, ob, nb, kb, pb, mb, rb, qbx, obx, nbx, kbx, pbx, mbx, rbx, rfl⟩ := hb.shape
  obtain ⟨z1, z2⟩ := inS_zero_ends (b := (rq sb ab bb, rq tb cb db)) hv.2.2 h
  have HD1 := Lib.hid (show dc (rq sb ab bb) = 0 from if_neg z1); have HD2 := Lib.hid (show dc (rq tb cb db) = 0 from if_neg z2)
  obtain ⟨kq1, kq2⟩ : rl ((rq sb ab bb, rq tb cb db) : Rat × Rat).1 ≤ 9000 ∧ rl ((rq sb ab bb, rq tb cb db) : Rat × Rat).2 ≤ 9000 := ⟨lb1, lb2⟩
  have HI := Lib.hid (decide_eq_false h); have HVV := Lib.hid hv; clear h z1 z2 hv
  have Fa := Lib.hid ha; clear ha
  have Fb := Lib.hid hb; clear hb
  have Fbl := Lib.hid (spV_ends Fb.out).1; have Fbh := Lib.hid (spV_ends Fb.out).2
  obtain ⟨w1, hw1⟩ : ∃ w1, w1 = w.alloc (.cells #[.bool qa, .slice oa na ka, .slice pa ma ra, .bool qax, .slice oax nax kax, .slice pax max rax] 26) := ⟨_, rfl⟩
  have hb1 : Below w.heap.size w w1 := by rw [hw1]; exact (Below.refl _ _).alloc (Nat.le_refl _) _
  have hx1 := heap_alloc_new w (.cells #[.bool qa, .slice oa na ka, .slice pa ma ra, .bool qax, .slice oax nax kax, .slice pax max rax] 26)
  obtain ⟨g1, hg1⟩ : ∃ g, g = w.heap.size := ⟨_, rfl⟩
  rw [← hw1, ← hg1] at hx1
  have lw1 : w.heap.size ≤ g1 := by rw [hg1]; exact HBW.out.size
  have HW1 := Lib.hid hw1; have HG1 := Lib.hid hg1; clear hw1 hg1
  have HB1 := Lib.hid (HBW.out.step hb1)
  have Fa := Lib.hid (Fa.out.below hb1)
  have Fb := Lib.hid (Fb.out.below hb1)
  have Fbl := Lib.hid (Fbl.out.below hb1)
  have Fbh := Lib.hid (Fbh.out.below hb1)
  have BX1 := Lib.hid hx1; clear hb1 hx1
  obtain ⟨w2, hw2⟩ : ∃ w2, w2 = w1.alloc (.cells #[.bool qb, .slice ob nb kb, .slice pb mb rb, .bool qbx, .slice obx nbx kbx, .slice pbx mbx rbx] 26) := ⟨_, rfl⟩
  have hb2 : Below w1.heap.size w1 w2 := by rw [hw2]; exact (Below.refl _ _).alloc (Nat.le_refl _) _
  have hx2 := heap_alloc_new w1 (.cells #[.bool qb, .slice ob nb kb, .slice pb mb rb, .bool qbx, .slice obx nbx kbx, .slice pbx mbx rbx] 26)
  obtain ⟨g2, hg2⟩ : ∃ g, g = w1.heap.size := ⟨_, rfl⟩
  rw [← hw2, ← hg2] at hx2
  have lw2 : w.heap.size ≤ g2 := by rw [hg2]; exact HB1.out.size
  have ltBX12 : g1 < g2 := by rw [hg2]; exact below_lt BX1.out
  have hs2 : g2 = w.heap.size + 1 := by rw [hg2, HW1.out]; simp
  have HS2 := Lib.hid hs2; clear hs2
  have HW2 := Lib.hid hw2; have HG2 := Lib.hid hg2; clear hw2 hg2
  have HB2 := Lib.hid (HB1.out.step hb2)
  have Fa := Lib.hid (Fa.out.below hb2)
  have Fb := Lib.hid (Fb.out.below hb2)
  have Fbl := Lib.hid (Fbl.out.below hb2)
  have Fbh := Lib.hid (Fbh.out.below hb2)
  have BX1 := Lib.hid (heap_below BX1.out hb2)
  have BX2 := Lib.hid hx2; clear hb2 hx2
  obtain ⟨w3, hw3⟩ : ∃ w3, w3 = w2.alloc (.cells #[.bool false, .slice none 0 0, .slice none 0 0, .bool false, .slice none 0 0, .slice none 0 0] 26) := ⟨_, rfl⟩
  have hb3 : Below w2.heap.size w2 w3 := by rw [hw3]; exact (Below.refl _ _).alloc (Nat.le_refl _) _
  have hx3 := heap_alloc_new w2 (.cells #[.bool false, .slice none 0 0, .slice none 0 0, .bool false, .slice none 0 0, .slice none 0 0] 26)
  obtain ⟨g3, hg3⟩ : ∃ g, g = w2.heap.size := ⟨_, rfl⟩
  rw [← hw3, ← hg3] at hx3
  have lw3 : w.heap.size ≤ g3 := by rw [hg3]; exact HB2.out.size
  have ltBX13 : g1 < g3 := by rw [hg3]; exact below_lt BX1.out
  have ltBX23 : g2 < g3 := by rw [hg3]; exact below_lt BX2.out
  have hs3 : g3 = w.heap.size + 2 := by rw [hg3, HW2.out, HW1.out]; simp
  have HS3 := Lib.hid hs3; clear hs3
  have HW3 := Lib.hid hw3; have HG3 := Lib.hid hg3; clear hw3 hg3
  have HB3 := Lib.hid (HB2.out.step hb3)
  have Fa := Lib.hid (Fa.out.below hb3)
  have Fb := Lib.hid (Fb.out.below hb3)
  have Fbl := Lib.hid (Fbl.out.below hb3)
  have Fbh := Lib.hid (Fbh.out.below hb3)
  have BX1 := Lib.hid (heap_below BX1.out hb3)
  have BX2 := Lib.hid (heap_below BX2.out hb3)
  have BX3 := Lib.hid hx3; clear hb3 hx3
  go_enter Tryz.func10, Tryz.ntmps10
  obtain ⟨x1_0, x1_1, x1_2, x1_3, x1_4, x1_5⟩ := row6 BX2.out
  have hs := rcontains_any _ ((rq sb ab bb, rq tb cb db)) _ (0) w3 (spV_is Fb.out HVV.out (by omega) (by omega) (by omega) (by omega)) ((isR_zero _).is (by rw [rl_zero]; decide)) (by omega) (by omega) (by omega)
  rw [HI.out] at hs
  have HS := Lib.hid hs; clear hs
  try rw [HW3.out] at x1_0
  try rw [HG3.out] at x1_0
  try rw [HW2.out] at x1_0
  try rw [HG2.out] at x1_0
  try rw [HW1.out] at x1_0
  try rw [HG1.out] at x1_0
  try rw [HW3.out] at x1_1
  try rw [HG3.out] at x1_1
  try rw [HW2.out] at x1_1
  try rw [HG2.out] at x1_1
  try rw [HW1.out] at x1_1
  try rw [HG1.out] at x1_1
  try rw [HW3.out] at x1_2
  try rw [HG3.out] at x1_2
  try rw [HW2.out] at x1_2
  try rw [HG2.out] at x1_2
  try rw [HW1.out] at x1_2
  try rw [HG1.out] at x1_2
  try rw [HW3.out] at x1_3
  try rw [HG3.out] at x1_3
  try rw [HW2.out] at x1_3
  try rw [HG2.out] at x1_3
  try rw [HW1.out] at x1_3
  try rw [HG1.out] at x1_3
  try rw [HW3.out] at x1_4
  try rw [HG3.out] at x1_4
  try rw [HW2.out] at x1_4
  try rw [HG2.out] at x1_4
  try rw [HW1.out] at x1_4
  try rw [HG1.out] at x1_4
  try rw [HW3.out] at x1_5
  try rw [HG3.out] at x1_5
  try rw [HW2.out] at x1_5
  try rw [HG2.out] at x1_5
  try rw [HW1.out] at x1_5
  try rw [HG1.out] at x1_5
  go_wp2_with (with_reducible first | refine pauseCall ?_ | refine pauseLoop ?_ | refine pauseDraw ?_ | refine pauseBody ?_ | refine pauseRounds ?_)
  try rw [← HW1.out]
  try rw [← HW2.out]
  try rw [← HW3.out]
  try rw [← HS3.out]
  try rw [← HS2.out]
  try rw [← HG1.out]
  try rw [← HG2.out]
  try rw [← HG3.out]
  clear x1_0 x1_1 x1_2 x1_3 x1_4 x1_5
  refine Pause.mk ?_
  (with_reducible refine HS.out.mono ?_); rintro e w4 ⟨rfl, hb4⟩
  clear HS
  have HB4 := Lib.hid (HB3.out.step hb4)
  have Fa := Lib.hid (Fa.out.below hb4)
  have Fb := Lib.hid (Fb.out.below hb4)
  have Fbl := Lib.hid (Fbl.out.below hb4)
  have Fbh := Lib.hid (Fbh.out.below hb4)
  have BX1 := Lib.hid (heap_below BX1.out hb4)
  have BX2 := Lib.hid (heap_below BX2.out hb4)
  have BX3 := Lib.hid (heap_below BX3.out hb4)
  clear hb4
  go_wp2_with (with_reducible first | refine pauseCall ?_ | refine pauseLoop ?_ | refine pauseDraw ?_ | refine pauseBody ?_ | refine pauseRounds ?_)
  refine Pause.mk ?_
  have k2 : rl ((1 : Int) : Rat) ≤ 2 := rl_small (by decide) (by decide)
  have k3 := rl_div' (((1 : Int) : Rat)) (rq sb ab bb)
  refine wp_region_facts (A := ?aa4) (w := w4) 8 [6] (by kernel_rfl) (Fl [KIs (((1 : Int) : Rat)), KEq (.pointer (some ⟨g2, 0, none⟩)), KEq (.agg #[.bool qb, .slice ob nb kb, .slice pb mb rb]), KRE ((((1 : Int) : Rat)) / (rq sb ab bb)) (.int .i64 0), KRE ((((1 : Int) : Rat)) / (rq sb ab bb)) (.int .i64 0), KIs ((((1 : Int) : Rat)) / (rq sb ab bb)), KEq (.int .i64 0), KNew w4.heap.size #[.bool false, .slice none 0 0, .slice none 0 0] 24]) (fun i => i == 7) (by kernel_rfl) ?hq4 (monoL (monoC (kIs _) (monoC (kEq _) (monoC (kEq _) (monoC (kRE _ _) (monoC (kRE _ _) (monoC (kIs _) (monoC (kEq _) (monoC (kNew _ _ _) monoN))))))))) ?ha4 ?st4 ?tl4
  case hq4 =>
    intro c a d v w h
    first | (simp only [Exit.then] at h ⊢; exact h) | (simp only [Exit.inBlock, Exit.then] at h ⊢; exact h) | exact h
  case ha4 =>
    intro vals
    simp only [putsTo, dstOf, if_true, Act.put, List.setIfInBounds_toArray, List.set_cons_zero, List.set_cons_succ, List.getElem?_toArray, List.getElem?_cons_zero, List.getElem?_cons_succ, Option.bind_some]
    exact rfl
  case st4 =>
    simp only [List.take_succ_cons, List.take_zero]
    refine stepsOK_cons rfl rfl ?_ (stepsOK_cons rfl rfl ?_ (stepsOK_cons rfl rfl ?_ (stepsOK_cons rfl rfl ?_ (stepsOK_cons rfl rfl ?_ (stepsOK_cons rfl rfl ?_ (stepsOK_pure rfl ?_ (stepsOK_cons rfl rfl ?_ (stepsOK_nil))))))))
    · intro vals w1 hb hd
      have hs := rofq_any 1 w1 (by decide) (by decide)
      have HS := Lib.hid hs; clear hs
      clear hd
      refine stepOK_call (by go_simp; first | done | exact ⟨⟨rfl, rfl⟩, rfl⟩) ?_
      (with_reducible refine HS.out.mono ?_); rintro e w2 ⟨v, rfl, hb2, hn⟩
      exact ⟨v, rfl, leaves_mk hb2 hn (fun h => by cases h)⟩
    · intro vals w1 hb hd
      refine stepOK_value (v := (.pointer (some ⟨g2, 0, none⟩))) (w' := w1) (by go_simp) (leaves_mk (Below.refl _ _) rfl (fun h => by cases h))
    · intro vals w1 hb hd
      have d1 : KEq (.pointer (some ⟨g2, 0, none⟩)) (vals 1) w1 := hd 1 (by kernel_rfl)
      rw [show vals 1 = _ from d1]
      obtain ⟨e0, e1, e2, e3, e4, e5⟩ := row6 (heap_below BX2.out hb)
      refine stepOK_value (v := .agg #[.bool qb, .slice ob nb kb, .slice pb mb rb]) (w' := w1) (by go_simp) (leaves_mk (Below.refl _ _) rfl (fun h => by cases h))
    · intro vals w1 hb hd
      have d0 : KIs (((1 : Int) : Rat)) (vals 0) w1 := hd 0 (by kernel_rfl)
      have R0 : Hid (IsR w1 (vals 0) (((1 : Int) : Rat))) := Lib.hid d0
      have d2 : KEq (.agg #[.bool qb, .slice ob nb kb, .slice pb mb rb]) (vals 2) w1 := hd 2 (by kernel_rfl)
      have z2 : vals 2 = _ := d2
      have hs := rdivq_any _ (((1 : Int) : Rat)) _ (rq sb ab bb) w1 (R0.out.is (by omega)) ((Fbl.out.below hb).is (by omega) (by omega))
      rw [HD1.out] at hs
      have HS := Lib.hid hs; clear hs
      rw [z2]; clear z2
      clear d0 d2 hd
      refine stepOK_call (by go_simp; first | done | exact ⟨⟨rfl, rfl⟩, rfl⟩) ?_
      (with_reducible refine HS.out.mono ?_); rintro e w2 ⟨v, rfl, hb2, hn⟩
      exact ⟨_, rfl, leaves_mk hb2 ⟨v, rfl, hn⟩ (fun h => by cases h)⟩
    · intro vals w1 hb hd
      have d3 : KRE ((((1 : Int) : Rat)) / (rq sb ab bb)) (.int .i64 0) (vals 3) w1 := hd 3 (by kernel_rfl)
      obtain ⟨b, eb, hq⟩ := d3
      rw [eb]
      refine stepOK_value (v := (.tuple #[b, .int .i64 0])) (w' := w1) (by go_simp) (leaves_mk (Below.refl _ _) ⟨b, rfl, hq⟩ (fun h => by cases h))
    · intro vals w1 hb hd
      have d4 : KRE ((((1 : Int) : Rat)) / (rq sb ab bb)) (.int .i64 0) (vals 4) w1 := hd 4 (by kernel_rfl)
      obtain ⟨b, eb, hq⟩ := d4
      rw [eb]
      refine stepOK_value (v := b) (w' := w1) (by go_simp) (leaves_mk (Below.refl _ _) hq (fun h => by cases h))
    · intro vals w1 hb hd
      have d4 : KRE ((((1 : Int) : Rat)) / (rq sb ab bb)) (.int .i64 0) (vals 4) w1 := hd 4 (by kernel_rfl)
      obtain ⟨b, eb, hq⟩ := d4
      rw [eb]
      refine stepPure_value (v := (.int .i64 0)) (fun w => by go_simp) (leaves_mk (Below.refl _ _) rfl (fun h => by cases h))
    · intro vals w1 hb hd
      refine stepOK_value (v := .pointer (some ⟨w1.heap.size, 0, none⟩)) (w' := w1.alloc (.cells #[.bool false, .slice none 0 0, .slice none 0 0] 24)) (by go_simp) (leaves_mk ((Below.refl _ _).alloc (Nat.le_refl _) _) ⟨_, hb.size, rfl, heap_alloc_new _ _⟩ (fun _ => ⟨rfl, by simp⟩))
  case tl4 =>
    intro vals w5 hb5 hf hdis
    simp only [List.drop_succ_cons, List.drop_zero]
    obtain ⟨u4_5, hu5⟩ : ∃ u, u = vals 5 := ⟨_, rfl⟩
    have hn4_5 : IsR w5 (vals 5) ((((1 : Int) : Rat)) / (rq sb ab bb)) := hf 5 (by decide)
    rw [← hu5] at hn4_5 ⊢; clear hu5
    have z6 : vals 6 = _ := hf 6 (by decide)
    try rw [z6]
    clear z6
    obtain ⟨g4_7, hg4_7, ev7, hz4_7⟩ : KNew w4.heap.size #[.bool false, .slice none 0 0, .slice none 0 0] 24 (vals 7) w5 := hf 7 (by decide)
    have eq7 := ev7
    rw [ev7]; clear ev7
    have lw4_7 : w.heap.size ≤ g4_7 := Nat.le_trans HB4.out.size hg4_7
    have ltBX14_7 : g1 < g4_7 := Nat.lt_of_lt_of_le (below_lt BX1.out) hg4_7
    have ltBX24_7 : g2 < g4_7 := Nat.lt_of_lt_of_le (below_lt BX2.out) hg4_7
    have ltBX34_7 : g3 < g4_7 := Nat.lt_of_lt_of_le (below_lt BX3.out) hg4_7
    clear hf hdis eq7
    have HB5 := Lib.hid (HB4.out.step hb5)
    have Fa := Lib.hid (Fa.out.below hb5)
    have Fb := Lib.hid (Fb.out.below hb5)
    have Fbl := Lib.hid (Fbl.out.below hb5)
    have Fbh := Lib.hid (Fbh.out.below hb5)
    have BX1 := Lib.hid (heap_below BX1.out hb5)
    have BX2 := Lib.hid (heap_below BX2.out hb5)
    have BX3 := Lib.hid (heap_below BX3.out hb5)
    clear hb5
    have BX4_7 := Lib.hid hz4_7; clear hz4_7 hg4_7
    have N4_5 := Lib.hid hn4_5; clear hn4_5
    obtain ⟨s5, o5, n5, c5, a5, m5, d5, rfl⟩ := N4_5.out.shape
    skip
    go_wp2_with (with_reducible refine wpList_pauseS ?_)
    refine wpList_stL g4_7 0 [.bool s5, .slice o5 n5 c5, .slice a5 m5 d5] BX4_7.out rfl rfl (Nat.le_of_ble_eq_true rfl) (by kernel_rfl) rfl ?_
    intro w6 hp6
    have Fa := Lib.hid (putL_SS hp6 Fa.out BX4_7.out noW3)
    have Fb := Lib.hid (putL_SV hp6 Fb.out BX4_7.out noW3)
    have Fbl := Lib.hid (putL_V hp6 Fbl.out BX4_7.out noW3)
    have Fbh := Lib.hid (putL_V hp6 Fbh.out BX4_7.out noW3)
    have N4_5 := Lib.hid (putL_I hp6 N4_5.out BX4_7.out noW3)
    have BX1 := Lib.hid (putLx hp6 BX1.out (by omega))
    have BX2 := Lib.hid (putLx hp6 BX2.out (by omega))
    have BX3 := Lib.hid (putLx hp6 BX3.out (by omega))
    have nx6 : w6.heap[g4_7]? = some (.cells #[.bool s5, .slice o5 n5 c5, .slice a5 m5 d5] 24) := by rw [hp6]; exact putL_r BX4_7.out
    have BX4_7 := Lib.hid nx6; clear nx6
    have HB6 := Lib.hid (putLb hp6 HB5.out (by omega))
    clear hp6
    go_wp2_with (with_reducible first | refine pauseCall ?_ | refine pauseLoop ?_ | refine pauseDraw ?_ | refine pauseBody ?_ | refine pauseRounds ?_)
    refine Pause.mk ?_
    have k6 : rl ((1 : Int) : Rat) ≤ 2 := rl_small (by decide) (by decide)
    have k7 := rl_div' (((1 : Int) : Rat)) (rq tb cb db)
    refine wp_region_facts (A := ?aa8) (w := w6) 8 [6] (by kernel_rfl) (Fl [KIs (((1 : Int) : Rat)), KEq (.pointer (some ⟨g2, 3, none⟩)), KEq (.agg #[.bool qbx, .slice obx nbx kbx, .slice pbx mbx rbx]), KRE ((((1 : Int) : Rat)) / (rq tb cb db)) (.int .i64 0), KRE ((((1 : Int) : Rat)) / (rq tb cb db)) (.int .i64 0), KIs ((((1 : Int) : Rat)) / (rq tb cb db)), KEq (.int .i64 0), KNew w6.heap.size #[.bool false, .slice none 0 0, .slice none 0 0] 24]) (fun i => i == 7) (by kernel_rfl) ?hq8 (monoL (monoC (kIs _) (monoC (kEq _) (monoC (kEq _) (monoC (kRE _ _) (monoC (kRE _ _) (monoC (kIs _) (monoC (kEq _) (monoC (kNew _ _ _) monoN))))))))) ?ha8 ?st8 ?tl8
    case hq8 =>
      intro c a d v w h
      first | (simp only [Exit.then] at h ⊢; exact h) | (simp only [Exit.inBlock, Exit.then] at h ⊢; exact h) | exact h
    case ha8 =>
      intro vals
      simp only [putsTo, dstOf, if_true, Act.put, List.setIfInBounds_toArray, List.set_cons_zero, List.set_cons_succ, List.getElem?_toArray, List.getElem?_cons_zero, List.getElem?_cons_succ, Option.bind_some]
      exact rfl
    case st8 =>
      simp only [List.take_succ_cons, List.take_zero]
      refine stepsOK_cons rfl rfl ?_ (stepsOK_cons rfl rfl ?_ (stepsOK_cons rfl rfl ?_ (stepsOK_cons rfl rfl ?_ (stepsOK_cons rfl rfl ?_ (stepsOK_cons rfl rfl ?_ (stepsOK_pure rfl ?_ (stepsOK_cons rfl rfl ?_ (stepsOK_nil))))))))
      · intro vals w1 hb hd
        have hs := rofq_any 1 w1 (by decide) (by decide)
        have HS := Lib.hid hs; clear hs
        clear hd
        refine stepOK_call (by go_simp; first | done | exact ⟨⟨rfl, rfl⟩, rfl⟩) ?_
        (with_reducible refine HS.out.mono ?_); rintro e w2 ⟨v, rfl, hb2, hn⟩
        exact ⟨v, rfl, leaves_mk hb2 hn (fun h => by cases h)⟩
      · intro vals w1 hb hd
        refine stepOK_value (v := (.pointer (some ⟨g2, 3, none⟩))) (w' := w1) (by go_simp) (leaves_mk (Below.refl _ _) rfl (fun h => by cases h))
      · intro vals w1 hb hd
        have d1 : KEq (.pointer (some ⟨g2, 3, none⟩)) (vals 1) w1 := hd 1 (by kernel_rfl)
        rw [show vals 1 = _ from d1]
        obtain ⟨e0, e1, e2, e3, e4, e5⟩ := row6 (heap_below BX2.out hb)
        refine stepOK_value (v := .agg #[.bool qbx, .slice obx nbx kbx, .slice pbx mbx rbx]) (w' := w1) (by go_simp) (leaves_mk (Below.refl _ _) rfl (fun h => by cases h))
      · intro vals w1 hb hd
        have d0 : KIs (((1 : Int) : Rat)) (vals 0) w1 := hd 0 (by kernel_rfl)
        have R0 : Hid (IsR w1 (vals 0) (((1 : Int) : Rat))) := Lib.hid d0
        have d2 : KEq (.agg #[.bool qbx, .slice obx nbx kbx, .slice pbx mbx rbx]) (vals 2) w1 := hd 2 (by kernel_rfl)
        have z2 : vals 2 = _ := d2
        have hs := rdivq_any _ (((1 : Int) : Rat)) _ (rq tb cb db) w1 (R0.out.is (by omega)) ((Fbh.out.below hb).is (by omega) (by omega))
        rw [HD2.out] at hs
        have HS := Lib.hid hs; clear hs
        rw [z2]; clear z2
        clear d0 d2 hd
        refine stepOK_call (by go_simp; first | done | exact ⟨⟨rfl, rfl⟩, rfl⟩) ?_
        (with_reducible refine HS.out.mono ?_); rintro e w2 ⟨v, rfl, hb2, hn⟩
        exact ⟨_, rfl, leaves_mk hb2 ⟨v, rfl, hn⟩ (fun h => by cases h)⟩
      · intro vals w1 hb hd
        have d3 : KRE ((((1 : Int) : Rat)) / (rq tb cb db)) (.int .i64 0) (vals 3) w1 := hd 3 (by kernel_rfl)
        obtain ⟨b, eb, hq⟩ := d3
        rw [eb]
        refine stepOK_value (v := (.tuple #[b, .int .i64 0])) (w' := w1) (by go_simp) (leaves_mk (Below.refl _ _) ⟨b, rfl, hq⟩ (fun h => by cases h))
      · intro vals w1 hb hd
        have d4 : KRE ((((1 : Int) : Rat)) / (rq tb cb db)) (.int .i64 0) (vals 4) w1 := hd 4 (by kernel_rfl)
        obtain ⟨b, eb, hq⟩ := d4
        rw [eb]
        refine stepOK_value (v := b) (w' := w1) (by go_simp) (leaves_mk (Below.refl _ _) hq (fun h => by cases h))
      · intro vals w1 hb hd
        have d4 : KRE ((((1 : Int) : Rat)) / (rq tb cb db)) (.int .i64 0) (vals 4) w1 := hd 4 (by kernel_rfl)
        obtain ⟨b, eb, hq⟩ := d4
        rw [eb]
        refine stepPure_value (v := (.int .i64 0)) (fun w => by go_simp) (leaves_mk (Below.refl _ _) rfl (fun h => by cases h))
      · intro vals w1 hb hd
        refine stepOK_value (v := .pointer (some ⟨w1.heap.size, 0, none⟩)) (w' := w1.alloc (.cells #[.bool false, .slice none 0 0, .slice none 0 0] 24)) (by go_simp) (leaves_mk ((Below.refl _ _).alloc (Nat.le_refl _) _) ⟨_, hb.size, rfl, heap_alloc_new _ _⟩ (fun _ => ⟨rfl, by simp⟩))
    case tl8 =>
      intro vals w7 hb7 hf hdis
      simp only [List.drop_succ_cons, List.drop_zero]
      obtain ⟨u8_5, hu5⟩ : ∃ u, u = vals 5 := ⟨_, rfl⟩
      have hn8_5 : IsR w7 (vals 5) ((((1 : Int) : Rat)) / (rq tb cb db)) := hf 5 (by decide)
      rw [← hu5] at hn8_5 ⊢; clear hu5
      have z6 : vals 6 = _ := hf 6 (by decide)
      try rw [z6]
      clear z6
      obtain ⟨g8_7, hg8_7, ev7, hz8_7⟩ : KNew w6.heap.size #[.bool false, .slice none 0 0, .slice none 0 0] 24 (vals 7) w7 := hf 7 (by decide)
      have eq7 := ev7
      rw [ev7]; clear ev7
      have lw8_7 : w.heap.size ≤ g8_7 := Nat.le_trans HB6.out.size hg8_7
      have ltBX18_7 : g1 < g8_7 := Nat.lt_of_lt_of_le (below_lt BX1.out) hg8_7
      have ltBX28_7 : g2 < g8_7 := Nat.lt_of_lt_of_le (below_lt BX2.out) hg8_7
      have ltBX38_7 : g3 < g8_7 := Nat.lt_of_lt_of_le (below_lt BX3.out) hg8_7
      have ltBX4_78_7 : g4_7 < g8_7 := Nat.lt_of_lt_of_le (below_lt BX4_7.out) hg8_7
      clear hf hdis eq7
      have HB7 := Lib.hid (HB6.out.step hb7)
      have Fa := Lib.hid (Fa.out.below hb7)
      have Fb := Lib.hid (Fb.out.below hb7)
      have Fbl := Lib.hid (Fbl.out.below hb7)
      have Fbh := Lib.hid (Fbh.out.below hb7)
      have N4_5 := Lib.hid (N4_5.out.below hb7)
      have BX1 := Lib.hid (heap_below BX1.out hb7)
      have BX2 := Lib.hid (heap_below BX2.out hb7)
      have BX3 := Lib.hid (heap_below BX3.out hb7)
      have BX4_7 := Lib.hid (heap_below BX4_7.out hb7)
      clear hb7
      have BX8_7 := Lib.hid hz8_7; clear hz8_7 hg8_7
      have N8_5 := Lib.hid hn8_5; clear hn8_5
      obtain ⟨s9, o9, n9, c9, a9, m9, d9, rfl⟩ := N8_5.out.shape
      skip
      go_wp2_with (with_reducible refine wpList_pauseS ?_)
      refine wpList_stL g8_7 0 [.bool s9, .slice o9 n9 c9, .slice a9 m9 d9] BX8_7.out rfl rfl (Nat.le_of_ble_eq_true rfl) (by kernel_rfl) rfl ?_
      intro w8 hp8
      have Fa := Lib.hid (putL_SS hp8 Fa.out BX8_7.out noW3)
      have Fb := Lib.hid (putL_SV hp8 Fb.out BX8_7.out noW3)
      have Fbl := Lib.hid (putL_V hp8 Fbl.out BX8_7.out noW3)
      have Fbh := Lib.hid (putL_V hp8 Fbh.out BX8_7.out noW3)
      have N4_5 := Lib.hid (putL_I hp8 N4_5.out BX8_7.out noW3)
      have N8_5 := Lib.hid (putL_I hp8 N8_5.out BX8_7.out noW3)
      have BX1 := Lib.hid (putLx hp8 BX1.out (by omega))
      have BX2 := Lib.hid (putLx hp8 BX2.out (by omega))
      have BX3 := Lib.hid (putLx hp8 BX3.out (by omega))
      have BX4_7 := Lib.hid (putLx hp8 BX4_7.out (by omega))
      have nx8 : w8.heap[g8_7]? = some (.cells #[.bool s9, .slice o9 n9 c9, .slice a9 m9 d9] 24) := by rw [hp8]; exact putL_r BX8_7.out
      have BX8_7 := Lib.hid nx8; clear nx8
      have HB8 := Lib.hid (putLb hp8 HB7.out (by omega))
      clear hp8
      go_wp2_with (with_reducible first | refine pauseCall ?_ | refine pauseLoop ?_ | refine pauseDraw ?_ | refine pauseBody ?_ | refine pauseRounds ?_)
      refine Pause.mk ?_
      obtain ⟨k10, k11⟩ := rl_around2 ((((1 : Int) : Rat)) / (rq sb ab bb)) ((((1 : Int) : Rat)) / (rq tb cb db))
      refine wp_region_facts (A := ?aa12) (w := w8) 5 [] (by kernel_rfl) (Fl [KEq (.agg #[.bool qa, .slice oa na ka, .slice pa ma ra, .bool qax, .slice oax nax kax, .slice pax max rax]), KEq (.agg #[.bool s5, .slice o5 n5 c5, .slice a5 m5 d5]), KEq (.agg #[.bool s9, .slice o9 n9 c9, .slice a9 m9 d9]), KLst w8.heap.size 2 #[.bool s5, .slice o5 n5 c5, .slice a5 m5 d5, .bool s9, .slice o9 n9 c9, .slice a9 m9 d9] 24, KSp (around2 ((((1 : Int) : Rat)) / (rq sb ab bb)) ((((1 : Int) : Rat)) / (rq tb cb db)))]) (fun i => false) (by kernel_rfl) ?hq12 (monoL (monoC (kEq _) (monoC (kEq _) (monoC (kEq _) (monoC (kLst _ _ _ _) (monoC (kSp _) monoN)))))) ?ha12 ?st12 ?tl12
      case hq12 =>
        intro c a d v w h
        first | (simp only [Exit.then] at h ⊢; exact h) | (simp only [Exit.inBlock, Exit.then] at h ⊢; exact h) | exact h
      case ha12 =>
        intro vals
        simp only [putsTo, dstOf, if_true, Act.put, List.setIfInBounds_toArray, List.set_cons_zero, List.set_cons_succ, List.getElem?_toArray, List.getElem?_cons_zero, List.getElem?_cons_succ, Option.bind_some]
        exact rfl
      case st12 =>
        simp only [List.take_succ_cons, List.take_zero]
        refine stepsOK_cons rfl rfl ?_ (stepsOK_cons rfl rfl ?_ (stepsOK_cons rfl rfl ?_ (stepsOK_cons rfl rfl ?_ (stepsOK_cons rfl rfl ?_ (stepsOK_nil)))))
        · intro vals w1 hb hd
          obtain ⟨e0, e1, e2, e3, e4, e5⟩ := row6 (heap_below BX1.out hb)
          refine stepOK_value (v := .agg #[.bool qa, .slice oa na ka, .slice pa ma ra, .bool qax, .slice oax nax kax, .slice pax max rax]) (w' := w1) (by go_simp) (leaves_mk (Below.refl _ _) rfl (fun h => by cases h))
        · intro vals w1 hb hd
          obtain ⟨e0, e1, e2⟩ := row3 (heap_below BX4_7.out hb)
          refine stepOK_value (v := .agg #[.bool s5, .slice o5 n5 c5, .slice a5 m5 d5]) (w' := w1) (by go_simp) (leaves_mk (Below.refl _ _) rfl (fun h => by cases h))
        · intro vals w1 hb hd
          obtain ⟨e0, e1, e2⟩ := row3 (heap_below BX8_7.out hb)
          refine stepOK_value (v := .agg #[.bool s9, .slice o9 n9 c9, .slice a9 m9 d9]) (w' := w1) (by go_simp) (leaves_mk (Below.refl _ _) rfl (fun h => by cases h))
        · intro vals w1 hb hd
          have d1 : KEq (.agg #[.bool s5, .slice o5 n5 c5, .slice a5 m5 d5]) (vals 1) w1 := hd 1 (by kernel_rfl)
          have d2 : KEq (.agg #[.bool s9, .slice o9 n9 c9, .slice a9 m9 d9]) (vals 2) w1 := hd 2 (by kernel_rfl)
          rw [show vals 1 = _ from d1]
          rw [show vals 2 = _ from d2]
          refine stepOK_value (v := .slice (some ⟨w1.heap.size, 0, none⟩) 2 2) (w' := w1.alloc (.cells #[.bool s5, .slice o5 n5 c5, .slice a5 m5 d5, .bool s9, .slice o9 n9 c9, .slice a9 m9 d9] 24)) (by go_simp) (leaves_mk ((Below.refl _ _).alloc (Nat.le_refl _) _) ⟨_, hb.size, rfl, heap_alloc_new _ _⟩ (fun h => by cases h))
        · intro vals w1 hb hd
          have d3 : KLst w8.heap.size 2 #[.bool s5, .slice o5 n5 c5, .slice a5 m5 d5, .bool s9, .slice o9 n9 c9, .slice a9 m9 d9] 24 (vals 3) w1 := hd 3 (by kernel_rfl)
          obtain ⟨gL3, _, hvL3, hzL3⟩ := d3
          rw [hvL3]; clear hvL3
          have hs := raround2 w1 hzL3 ((N4_5.out.below hb).is (by omega)) (by omega) ((N8_5.out.below hb).is (by omega)) (by omega)
          have HS := Lib.hid hs; clear hs
          clear hd
          refine stepOK_call (by go_simp; first | done | exact ⟨⟨rfl, rfl⟩, rfl⟩) ?_
          (with_reducible refine HS.out.mono ?_); rintro e w2 ⟨v, rfl, hb2, hn⟩
          exact ⟨v, rfl, leaves_mk hb2 hn (fun h => by cases h)⟩
      case tl12 =>
        intro vals w9 hb9 hf hdis
        simp only [List.drop_succ_cons, List.drop_zero]
        have z0 : vals 0 = _ := hf 0 (by decide)
        try rw [z0]
        clear z0
        obtain ⟨u12_4, hu4⟩ : ∃ u, u = vals 4 := ⟨_, rfl⟩
        have hn12_4 : IsSp w9 (vals 4) (around2 ((((1 : Int) : Rat)) / (rq sb ab bb)) ((((1 : Int) : Rat)) / (rq tb cb db))) := hf 4 (by decide)
        rw [← hu4] at hn12_4 ⊢; clear hu4
        clear hf hdis
        have HB9 := Lib.hid (HB8.out.step hb9)
        have Fa := Lib.hid (Fa.out.below hb9)
        have Fb := Lib.hid (Fb.out.below hb9)
        have Fbl := Lib.hid (Fbl.out.below hb9)
        have Fbh := Lib.hid (Fbh.out.below hb9)
        have N4_5 := Lib.hid (N4_5.out.below hb9)
        have N8_5 := Lib.hid (N8_5.out.below hb9)
        have BX1 := Lib.hid (heap_below BX1.out hb9)
        have BX2 := Lib.hid (heap_below BX2.out hb9)
        have BX3 := Lib.hid (heap_below BX3.out hb9)
        have BX4_7 := Lib.hid (heap_below BX4_7.out hb9)
        have BX8_7 := Lib.hid (heap_below BX8_7.out hb9)
        clear hb9
        have N12_4 := Lib.hid hn12_4; clear hn12_4
        obtain ⟨s13, o13, n13, c13, a13, m13, d13, s13x, o13x, n13x, c13x, a13x, m13x, d13x, rfl⟩ := N12_4.out.shape
        have N12_4l := Lib.hid (isSp_ends N12_4.out).1; have N12_4h := Lib.hid (isSp_ends N12_4.out).2
        skip
        obtain ⟨k14, k15⟩ := rl_sMul (a) (around2 ((((1 : Int) : Rat)) / (rq sb ab bb)) ((((1 : Int) : Rat)) / (rq tb cb db)))
        have hs := rsmul_any _ (a) _ (around2 ((((1 : Int) : Rat)) / (rq sb ab bb)) ((((1 : Int) : Rat)) / (rq tb cb db))) w9 Fa.out (N12_4.out.is (around2_ok _ _) (by omega) (by omega)) (by omega) (by omega) (by omega) (by omega)
        have HS := Lib.hid hs; clear hs
        go_wp2_with (with_reducible first | refine pauseCall ?_ | refine pauseLoop ?_ | refine pauseDraw ?_ | refine pauseBody ?_ | refine pauseRounds ?_)
        refine Pause.mk ?_
        (with_reducible refine HS.out.mono ?_); rintro e w10 ⟨v10, rfl, hb10, hn10⟩
        clear HS
        have HB10 := Lib.hid (HB9.out.step hb10)
        have Fa := Lib.hid (Fa.out.below hb10)
        have Fb := Lib.hid (Fb.out.below hb10)
        have Fbl := Lib.hid (Fbl.out.below hb10)
        have Fbh := Lib.hid (Fbh.out.below hb10)
        have N4_5 := Lib.hid (N4_5.out.below hb10)
        have N8_5 := Lib.hid (N8_5.out.below hb10)
        have N12_4 := Lib.hid (N12_4.out.below hb10)
        have N12_4l := Lib.hid (N12_4l.out.below hb10)
        have N12_4h := Lib.hid (N12_4h.out.below hb10)
        have BX1 := Lib.hid (heap_below BX1.out hb10)
        have BX2 := Lib.hid (heap_below BX2.out hb10)
        have BX3 := Lib.hid (heap_below BX3.out hb10)
        have BX4_7 := Lib.hid (heap_below BX4_7.out hb10)
        have BX8_7 := Lib.hid (heap_below BX8_7.out hb10)
        have N10 := Lib.hid hn10; clear hn10
        obtain ⟨s16, o16, n16, c16, a16, m16, d16, s16x, o16x, n16x, c16x, a16x, m16x, d16x, rfl⟩ := N10.out.shape
        have N10l := Lib.hid (isSp_ends N10.out).1; have N10h := Lib.hid (isSp_ends N10.out).2
        clear hb10
        go_wp2_with (with_reducible refine wpList_pauseS ?_)
        refine wpList_stL g3 0 [.bool s16, .slice o16 n16 c16, .slice a16 m16 d16, .bool s16x, .slice o16x n16x c16x, .slice a16x m16x d16x] BX3.out rfl rfl (Nat.le_of_ble_eq_true rfl) (by kernel_rfl) rfl ?_
        intro w11 hp11
        have Fa := Lib.hid (putL_SS hp11 Fa.out BX3.out noW6)
        have Fb := Lib.hid (putL_SV hp11 Fb.out BX3.out noW6)
        have Fbl := Lib.hid (putL_V hp11 Fbl.out BX3.out noW6)
        have Fbh := Lib.hid (putL_V hp11 Fbh.out BX3.out noW6)
        have N4_5 := Lib.hid (putL_I hp11 N4_5.out BX3.out noW6)
        have N8_5 := Lib.hid (putL_I hp11 N8_5.out BX3.out noW6)
        have N12_4 := Lib.hid (putL_SI hp11 N12_4.out BX3.out noW6)
        have N12_4l := Lib.hid (putL_I hp11 N12_4l.out BX3.out noW6)
        have N12_4h := Lib.hid (putL_I hp11 N12_4h.out BX3.out noW6)
        have N10 := Lib.hid (putL_SI hp11 N10.out BX3.out noW6)
        have N10l := Lib.hid (putL_I hp11 N10l.out BX3.out noW6)
        have N10h := Lib.hid (putL_I hp11 N10h.out BX3.out noW6)
        have BX1 := Lib.hid (putLx hp11 BX1.out (by omega))
        have BX2 := Lib.hid (putLx hp11 BX2.out (by omega))
        have BX4_7 := Lib.hid (putLx hp11 BX4_7.out (by omega))
        have BX8_7 := Lib.hid (putLx hp11 BX8_7.out (by omega))
        have nx11 : w11.heap[g3]? = some (.cells #[.bool s16, .slice o16 n16 c16, .slice a16 m16 d16, .bool s16x, .slice o16x n16x c16x, .slice a16x m16x d16x] 26) := by rw [hp11]; exact putL_6 BX3.out
        have BX3 := Lib.hid nx11; clear nx11
        have HB11 := Lib.hid (putLb hp11 HB10.out (by omega))
        clear hp11
        obtain ⟨x17_0, x17_1, x17_2, x17_3, x17_4, x17_5⟩ := row6 BX3.out
        go_wp2_with (with_reducible first | refine pauseCall ?_ | refine pauseLoop ?_ | refine pauseDraw ?_ | refine pauseBody ?_ | refine pauseRounds ?_)
        clear x17_0 x17_1 x17_2 x17_3 x17_4 x17_5
        refine Pause.mk ?_
        refine ret_span2 rfl g3 _ _ _ _ _ _ (by first | rfl | exact rfl) BX3.out rfl ?_
        exact ⟨_, rfl, HB11.out, N10.out⟩
theorem rsdiv_any (va : Value) (a : Rat × Rat) (vb : Value) (b : Rat × Rat) (w : World) (ha : SpIs w va a) (hb : SpIs w vb b) (la1 : rl a.1 ≤ 9000) (la2 : rl a.2 ≤ 9000) (lb1 : rl b.1 ≤ 9000) (lb2 : rl b.2 ≤ 9000) :
    Calls Tryz.prog 10 #[va, vb] w (RetSpE w (sdV a b) (.int .i64 (sdC b))) := by
  unfold sdV sdC
  by_cases h : inS b 0
  · rw [if_pos h, if_pos h]; exact rsdiv_1 va a vb b w ha hb la1 la2 lb1 lb2 h
  · rw [if_neg h, if_neg h]
    obtain ⟨s, x, y, t, c, d, h0, rfl, n1, n2, n3, n4⟩ := hb
    by_cases hv : Vld s x y ∧ Vld t c d ∧ rq s x y ≤ rq t c d
    · have e : sq s x y t c d = (rq s x y, rq t c d) := if_pos hv
      rw [e] at lb1 lb2 h ⊢
      exact rsdiv_2 va a vb s x y t c d w ha h0 la1 la2 hv n1 n2 n3 n4 lb1 lb2 h
    · exfalso; apply h
      rw [show sq s x y t c d = (0, 0) from if_neg hv]
      exact ⟨Rat.le_refl, Rat.le_refl⟩
end Go.Proofs.YtaefimegiobkmaaGreatDoor
/-
  Arguments that are fractions.
  Conditions: none beyond each theorem's own.
-/
namespace Go.Proofs.YtaefimegiobkmaaGreatDoor
open Go.RowKit Go.ChangeShapes Go.WideShapes

/-- a field that is a slice of words -/
theorem open_words_cell {H : Type} {enc : TypeId × Value → H} {P : Program} {W : World} {t e : TypeId} {v : Value} {x : DataW H × List MemPlace} {fuel : Nat} (ht : P.underlying t = some (.slice e)) (he : P.underlying e = some (.int .u32)) (hc : P.cellsOf e = 1)
    (hf : DataW.trod enc P W 0 (fun _ => true) true fuel t [v] = some x) : ∃ l : List Nat, Num W v l := by
  rcases open_ints ht he hc hf with ⟨hcs, hx⟩ | ⟨a, len', cap', zs, hcs, _, hl, hm, hz, hx, hcell, hwz⟩
  · have hcs' : v = .slice none 0 0 := by simpa using hcs
    rw [hcs']; exact ⟨[], Num.nil W⟩
  · have hcs' : v = .slice (some a) len' cap' := by simpa using hcs
    rw [hcs']
    have hz' : len' ≤ zs.length := by rw [hz]; simp; exact hl
    have hgd : ∀ j, j < len' → gd ((zs.take len').map Int.toNat) j = (zs.getD j 0).toNat := fun j hj => by
      simp [gd, List.getD_eq_getElem?_getD, hj, show j < zs.length by omega]
    have hwf : ∀ j, j < zs.length → 0 ≤ zs.getD j 0 ∧ zs.getD j 0 < 4294967296 := fun j hj => by
      have hmem : zs.getD j 0 ∈ zs := by rw [List.getD_eq_getElem?_getD, List.getElem?_eq_getElem hj]; exact List.getElem_mem hj
      have := hwz _ hmem
      simp only [Lit.wf, Bool.and_eq_true, decide_eq_true_eq] at this
      have h1 : IntKind.u32.min = 0 := by decide
      have h2 : IntKind.u32.max = 4294967296 - 1 := by decide
      rw [h1, h2] at this; omega
    have hlen : ((zs.take len').map Int.toNat).length = len' := by rw [List.length_map, List.length_take]; omega
    refine ⟨(zs.take len').map Int.toNat, some a, cap', by rw [hlen], by omega, by unfold maxLen at hm; omega, by simp, ?_, ?_⟩
    · intro b off s hs
      obtain rfl : a = ⟨b, off, s⟩ := Option.some.inj hs
      have h0 : 0 < len' → b < W.heap.size ∧ s = none := fun h0 => by
        have := hcell 0 (by omega)
        have e0 : (⟨b, off, s⟩ : Addr).add 0 = ⟨b, off, s⟩ := by simp [Addr.add]
        rw [e0] at this
        refine ⟨World.block_lt_of_cell? W _ this, ?_⟩
        cases s with
        | none => rfl
        | some x =>
          unfold World.cell? at this
          split at this <;> simp at this
      refine ⟨fun hh => h0 (by omega), fun j hj => ?_⟩
      rw [hlen] at hj
      obtain ⟨_, rfl⟩ := h0 (by omega)
      have := hcell j (by omega)
      have e2 : (⟨b, off, none⟩ : Addr).add j = ⟨b, off + j, none⟩ := by unfold Addr.add; split <;> simp_all
      rw [e2] at this
      rw [this, hgd j hj]
      have := hwf j (by omega)
      congr 2; omega
    · intro j
      by_cases hj : j < len'
      · rw [hgd j hj]; have := hwf j (by omega); omega
      · rw [gd_over _ _ (by omega)]; omega

end Go.Proofs.YtaefimegiobkmaaGreatDoor
/-
  Arguments that are intervals.
  Conditions: none beyond each theorem's own.
-/
namespace Go.Proofs.YtaefimegiobkmaaGreatDoor
open Go.RowKit Go.ChangeShapes Go.WideShapes Go.Joins Go.Deep

theorem array6 {α : Type} {cs : Array α} (h : cs.size = 6) : ∃ c0 c1 c2 c3 c4 c5, cs = #[c0, c1, c2, c3, c4, c5] := by
  obtain ⟨l⟩ := cs
  match l, h with
  | [c0, c1, c2, c3, c4, c5], _ => exact ⟨c0, c1, c2, c3, c4, c5, rfl⟩
set_option maxRecDepth 100000 in
set_option maxHeartbeats 1600000 in
theorem open_ratc {H : Type} {enc : TypeId × Value → H} {W : World} {c0 c1 c2 : Value} {x : DataW H × List MemPlace} {fuel : Nat}
    (h : DataW.trod enc Tryz.prog W 0 (fun _ => true) true fuel 24 [c0, c1, c2] = some x) : ∃ s a b, RatV W (.agg #[c0, c1, c2]) s a b := by
  obtain ⟨y0, y1, y2, n, hx, _, h0, h1, h2⟩ := trod_struct3 Tryz.underlying24 h
  have h0' : DataW.trod enc Tryz.prog W 0 (fun _ => true) true n 4 [c0] = some y0 := h0
  have h1' : DataW.trod enc Tryz.prog W 0 (fun _ => true) true n 22 [c1] = some y1 := h1
  have h2' : DataW.trod enc Tryz.prog W 0 (fun _ => true) true n 22 [c2] = some y2 := h2
  obtain ⟨b', k0, _⟩ := DataW.trod_bool Tryz.underlying4 h0'
  have e0 : c0 = .bool b' := by simpa using k0
  obtain ⟨a, ha⟩ := open_words_cell Tryz.underlying22 Tryz.underlying76 (by kernel_rfl) h1'
  obtain ⟨b, hb⟩ := open_words_cell Tryz.underlying22 Tryz.underlying76 (by kernel_rfl) h2'
  exact ⟨b', a, b, c1, c2, by rw [e0], ha, hb⟩
set_option maxRecDepth 100000 in
set_option maxHeartbeats 1600000 in
theorem open_span {H : Type} {enc : TypeId × Value → H} {W : World} {v : Value} {d : DataW H} {p : List MemPlace} {base : Nat}
    (hv : Value.okWide Tryz.prog W .any base 26 v) (h : DataW.Trod enc Tryz.prog W 0 (fun _ => true) true 26 v d p) : ∃ s a b t c d, SpV W v s a b t c d := by
  obtain ⟨cs, rfl, hsz⟩ := okWide_struct Tryz.underlying26 hv
  obtain ⟨c0, c1, c2, c3, c4, c5, rfl⟩ := array6 (hsz.trans (by kernel_rfl))
  obtain ⟨fuel, hf⟩ := h
  obtain ⟨y0, y1, n, hx, _, h0, h1⟩ := trod_struct2 Tryz.underlying26 hf
  have h0' : DataW.trod enc Tryz.prog W 0 (fun _ => true) true n 24 [c0, c1, c2] = some y0 := h0
  have h1' : DataW.trod enc Tryz.prog W 0 (fun _ => true) true n 24 [c3, c4, c5] = some y1 := h1
  obtain ⟨s, a, b, k0⟩ := open_ratc h0'
  obtain ⟨t, c, d, k1⟩ := open_ratc h1'
  exact ⟨s, a, b, t, c, d, c0, c1, c2, c3, c4, c5, rfl, k0, k1⟩
end Go.Proofs.YtaefimegiobkmaaGreatDoor
/-
  The last step of a law's proof: true was handed back and nothing that was there has changed, so the row's claim holds.
  Conditions: each theorem's own.
-/
namespace Go.Proofs.YtaefimegiobkmaaGreatDoor
open Go.RowKit Go.ChangeShapes Go.WideShapes

theorem trodAll_below {H : Type} {enc : TypeId × Value → H} {P : Program} (hl : laidOutB P = true) {W W' : World} (hb : Below W.heap.size W W') :
    ∀ (ts : List TypeId) (vs : List Value) (ds : List (DataW H)) (ps : List MemPlace), (ts.all fun t => P.readableRec t && decide (t < P.types.size)) = true →
      DataW.TrodAll enc P W 0 (fun _ => true) true ts vs ds ps → (∀ x ∈ ps, x.block < W.heap.size) → DataW.TrodAll enc P W' 0 (fun b => decide (b < W.heap.size)) true ts vs ds ps := by
  intro ts
  induction ts with
  | nil =>
    intro vs ds ps hr h hlt
    cases vs <;> cases ds <;> first | exact h | exact h.elim
  | cons t ts ih =>
    intro vs ds ps hr h hlt
    simp only [List.all_cons, Bool.and_eq_true, decide_eq_true_eq] at hr
    cases vs with
    | nil => cases ds <;> exact h.elim
    | cons v vs =>
      cases ds with
      | nil => exact h.elim
      | cons d ds =>
        obtain ⟨p, q, h1, h2, rfl⟩ := h
        exact ⟨p, q, Below.trod hl hr.1.1 hr.1.2 h1 hb (fun x hx => hlt x (List.mem_append_left _ hx)),
          ih vs ds q hr.2 h2 (fun x hx => hlt x (List.mem_append_right _ hx)), rfl⟩

theorem law_close {H : Type} {enc : TypeId × Value → H} {P : Program} {f : Func} {s : ChangeSpec} {W W' : World} {args : Array Value} {ds gs : List (DataW H)} {before : List MemPlace} {tb : TypeId}
    (hl : laidOutB P = true) (hrd : (f.params.toList.all fun t => P.readableRec t && decide (t < P.types.size)) = true) (hvars : s.vars = []) (hr : f.resultTypes = #[tb]) (hbool : P.underlying tb = some .bool)
    (hres : (s.fn H (ds ++ gs)).results = [.lit (.bool true)]) (hargs : (s.fn H (ds ++ gs)).args = ds) (hvs : (s.fn H (ds ++ gs)).vars = [])
    (hW : DataW.Whole enc P f.params.toList s.vars false W args.toList ds gs before) (hb : Below W.heap.size W W') :
    s.post enc P f false true false false W args (.bool true) W' := by
  have hlt := hW.lt
  have hW' := hW
  obtain ⟨p, q, hA, hV, rfl, hz, hn⟩ := hW
  rw [hvars] at hV
  obtain ⟨rfl, rfl⟩ := trodVars_none hV
  refine ⟨ds, [], p ++ [], [], p, [], hW', ?_, ?_, ?_, hb.frame _, fun h => by cases h⟩
  · rw [hres, hr]
    exact ⟨[], [], shut_bool hbool true, rfl, rfl⟩
  · rw [hargs]
    exact trodAll_below hl hb _ _ _ _ hrd hA (fun x hx => by simpa using hlt x (List.mem_append_left _ hx))
  · rw [hvs, hvars]; rfl
end Go.Proofs.YtaefimegiobkmaaGreatDoor
