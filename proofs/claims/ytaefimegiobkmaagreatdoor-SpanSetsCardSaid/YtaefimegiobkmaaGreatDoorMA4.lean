/-
  The texts Span0, SpanMath2, Rat12, Span1, Rat14, Step, Span2, Span2r, one behind the other (what the law leans on).
  Conditions: each theorem's own.
-/
import Derived.Deep.MidRow
import Derived.Test.YtaefimegiobkmaaGreatDoorMA3
/-
  Intervals in memory: what a value reads as, what a call hands back; six cells side by side.
  Conditions: none beyond each theorem's own.
-/
namespace Go.Proofs.YtaefimegiobkmaaGreatDoor
open Go.RowKit Go.ChangeShapes Go.WideShapes

/-- the value reads as two fractions with these fields -/
def SpV (w : World) (v : Value) (s : Bool) (a b : List Nat) (t : Bool) (c d : List Nat) : Prop :=
  ∃ x0 x1 x2 x3 x4 x5, v = .agg #[x0, x1, x2, x3, x4, x5] ∧ RatV w (.agg #[x0, x1, x2]) s a b ∧ RatV w (.agg #[x3, x4, x5]) t c d
/-- the interval as which the fields count -/
def sq (s : Bool) (a b : List Nat) (t : Bool) (c d : List Nat) : Rat × Rat :=
  if Vld s a b ∧ Vld t c d ∧ rq s a b ≤ rq t c d then (rq s a b, rq t c d) else (0, 0)
/-- the value reads as the valid form of the interval -/
def IsSp (w : World) (v : Value) (S : Rat × Rat) : Prop :=
  ∃ x0 x1 x2 x3 x4 x5, v = .agg #[x0, x1, x2, x3, x4, x5] ∧ IsR w (.agg #[x0, x1, x2]) S.1 ∧ IsR w (.agg #[x3, x4, x5]) S.2
/-- the value reads as an interval of any fields that counts as S, its words not too many -/
def SpIs (w : World) (v : Value) (S : Rat × Rat) : Prop :=
  ∃ s a b t c d, SpV w v s a b t c d ∧ sq s a b t c d = S ∧ a.length ≤ 40000 ∧ b.length ≤ 40000 ∧ c.length ≤ 40000 ∧ d.length ≤ 40000
theorem SpV.below {w w' : World} {v : Value} {s t : Bool} {a b c d : List Nat} (h : SpV w v s a b t c d) (hb : Below w.heap.size w w') : SpV w' v s a b t c d := by
  obtain ⟨x0, x1, x2, x3, x4, x5, e, h1, h2⟩ := h
  exact ⟨x0, x1, x2, x3, x4, x5, e, h1.below hb, h2.below hb⟩
theorem IsSp.below {w w' : World} {v : Value} {S : Rat × Rat} (h : IsSp w v S) (hb : Below w.heap.size w w') : IsSp w' v S := by
  obtain ⟨x0, x1, x2, x3, x4, x5, e, h1, h2⟩ := h
  exact ⟨x0, x1, x2, x3, x4, x5, e, h1.below hb, h2.below hb⟩
theorem SpIs.below {w w' : World} {v : Value} {S : Rat × Rat} (h : SpIs w v S) (hb : Below w.heap.size w w') : SpIs w' v S := by
  obtain ⟨s, a, b, t, c, d, h1, h2⟩ := h
  exact ⟨s, a, b, t, c, d, h1.below hb, h2⟩
theorem sq_ok (s : Bool) (a b : List Nat) (t : Bool) (c d : List Nat) : (sq s a b t c d).1 ≤ (sq s a b t c d).2 := by
  unfold sq; split
  · rename_i h; exact h.2.2
  · exact Rat.le_refl
theorem SpIs.ok {w : World} {v : Value} {S : Rat × Rat} (h : SpIs w v S) : S.1 ≤ S.2 := by
  obtain ⟨s, a, b, t, c, d, h1, h2, _⟩ := h
  rw [← h2]; exact sq_ok _ _ _ _ _ _
theorem IsSp.is {w : World} {v : Value} {S : Rat × Rat} (h : IsSp w v S) (hle : S.1 ≤ S.2) (l1 : rl S.1 ≤ 40000) (l2 : rl S.2 ≤ 40000) : SpIs w v S := by
  obtain ⟨x0, x1, x2, x3, x4, x5, e, h1, h2⟩ := h
  refine ⟨_, _, _, _, _, _, ⟨x0, x1, x2, x3, x4, x5, e, h1, h2⟩, ?_, Nat.le_trans (rl_n _) l1, Nat.le_trans (dn_len _) l1, Nat.le_trans (rl_n _) l2, Nat.le_trans (dn_len _) l2⟩
  obtain ⟨v1, e1⟩ := vld_self S.1
  obtain ⟨v2, e2⟩ := vld_self S.2
  unfold sq
  rw [e1, e2, if_pos ⟨v1, v2, hle⟩]
theorem SpV.lt {w : World} {v : Value} {s t : Bool} {a b c d : List Nat} (h : SpV w v s a b t c d) : (U32 a ∧ U32 b) ∧ U32 c ∧ U32 d := by
  obtain ⟨x0, x1, x2, x3, x4, x5, e, h1, h2⟩ := h
  exact ⟨h1.lt, h2.lt⟩
theorem rl_sq {s t : Bool} {a b c d : List Nat} {L : Nat} (ha : U32 a) (hb : U32 b) (hc : U32 c) (hd : U32 d) (h1 : a.length ≤ L) (h2 : b.length ≤ L) (h3 : c.length ≤ L) (h4 : d.length ≤ L) (hL : 1 ≤ L) : rl (sq s a b t c d).1 ≤ L ∧ rl (sq s a b t c d).2 ≤ L := by
  unfold sq; split
  · exact ⟨rl_rq ha hb h1 h2 hL, rl_rq hc hd h3 h4 hL⟩
  · show rl 0 ≤ L ∧ rl 0 ≤ L
    rw [rl_zero]; exact ⟨hL, hL⟩
theorem SpIs.rl {w : World} {v : Value} {S : Rat × Rat} (h : SpIs w v S) : rl S.1 ≤ 40000 ∧ rl S.2 ≤ 40000 := by
  obtain ⟨s, a, b, t, c, d, h0, rfl, h1, h2, h3, h4⟩ := h
  obtain ⟨⟨u1, u2⟩, u3, u4⟩ := h0.lt
  exact rl_sq u1 u2 u3 u4 h1 h2 h3 h4 (by decide)
theorem isSp_zero (w : World) : IsSp w (.agg #[.bool false, .slice none 0 0, .slice none 0 0, .bool false, .slice none 0 0, .slice none 0 0]) (0, 0) :=
  ⟨_, _, _, _, _, _, rfl, isR_zero w, isR_zero w⟩
theorem SpV.shape {w : World} {v : Value} {s₀ t₀ : Bool} {a₀ b₀ c₀ d₀ : List Nat} (h : SpV w v s₀ a₀ b₀ t₀ c₀ d₀) : ∃ s ao n c bo m d s' ao' n' c' bo' m' d', v = .agg #[.bool s, .slice ao n c, .slice bo m d, .bool s', .slice ao' n' c', .slice bo' m' d'] := by
  obtain ⟨x0, x1, x2, x3, x4, x5, e, ⟨va, vb, e1, h1, h2⟩, ⟨vc, vd, e2, h3, h4⟩⟩ := h
  have e1' : x0 = .bool s₀ ∧ x1 = va ∧ x2 = vb := by simpa using e1
  have e2' : x3 = .bool t₀ ∧ x4 = vc ∧ x5 = vd := by simpa using e2
  obtain ⟨rfl, rfl, rfl⟩ := e1'
  obtain ⟨rfl, rfl, rfl⟩ := e2'
  obtain ⟨o1, c1, rfl, _⟩ := h1.shape
  obtain ⟨o2, c2, rfl, _⟩ := h2.shape
  obtain ⟨o3, c3, rfl, _⟩ := h3.shape
  obtain ⟨o4, c4, rfl, _⟩ := h4.shape
  exact ⟨_, _, _, _, _, _, _, _, _, _, _, _, _, _, e⟩
theorem SpIs.shape {w : World} {v : Value} {S : Rat × Rat} (h : SpIs w v S) : ∃ s ao n c bo m d s' ao' n' c' bo' m' d', v = .agg #[.bool s, .slice ao n c, .slice bo m d, .bool s', .slice ao' n' c', .slice bo' m' d'] := by
  obtain ⟨s, a, b, t, c, d, h1, _⟩ := h
  exact h1.shape
theorem IsSp.shape {w : World} {v : Value} {S : Rat × Rat} (h : IsSp w v S) : ∃ s ao n c bo m d s' ao' n' c' bo' m' d', v = .agg #[.bool s, .slice ao n c, .slice bo m d, .bool s', .slice ao' n' c', .slice bo' m' d'] := SpV.shape h
theorem isSp_ends {w : World} {x0 x1 x2 x3 x4 x5 : Value} {S : Rat × Rat} (h : IsSp w (.agg #[x0, x1, x2, x3, x4, x5]) S) : IsR w (.agg #[x0, x1, x2]) S.1 ∧ IsR w (.agg #[x3, x4, x5]) S.2 := by
  obtain ⟨y0, y1, y2, y3, y4, y5, e, h1, h2⟩ := h
  have e' : x0 = y0 ∧ x1 = y1 ∧ x2 = y2 ∧ x3 = y3 ∧ x4 = y4 ∧ x5 = y5 := by simpa using e
  obtain ⟨rfl, rfl, rfl, rfl, rfl, rfl⟩ := e'
  exact ⟨h1, h2⟩
theorem isSp_of {w : World} {x0 x1 x2 x3 x4 x5 : Value} {p q : Rat} (h1 : IsR w (.agg #[x0, x1, x2]) p) (h2 : IsR w (.agg #[x3, x4, x5]) q) : IsSp w (.agg #[x0, x1, x2, x3, x4, x5]) (p, q) :=
  ⟨_, _, _, _, _, _, rfl, h1, h2⟩
theorem spV_ends {w : World} {x0 x1 x2 x3 x4 x5 : Value} {s t : Bool} {a b c d : List Nat} (h : SpV w (.agg #[x0, x1, x2, x3, x4, x5]) s a b t c d) : RatV w (.agg #[x0, x1, x2]) s a b ∧ RatV w (.agg #[x3, x4, x5]) t c d := by
  obtain ⟨y0, y1, y2, y3, y4, y5, e, h1, h2⟩ := h
  have e' : x0 = y0 ∧ x1 = y1 ∧ x2 = y2 ∧ x3 = y3 ∧ x4 = y4 ∧ x5 = y5 := by simpa using e
  obtain ⟨rfl, rfl, rfl, rfl, rfl, rfl⟩ := e'
  exact ⟨h1, h2⟩
/-- hands back the valid form of the interval -/
def RetSp (w : World) (S : Rat × Rat) (e : Ending) (w' : World) : Prop := ∃ v, e = .returned v ∧ Below w.heap.size w w' ∧ IsSp w' v S
/-- .. with an error (or its number) -/
def RetSpE (w : World) (S : Rat × Rat) (er : Value) (e : Ending) (w' : World) : Prop := ∃ v, e = .returned (.tuple #[v, er]) ∧ Below w.heap.size w w' ∧ IsSp w' v S

/-! six cells -/
theorem row6 {w : World} {g : Nat} {x0 x1 x2 x3 x4 x5 : Value} {T : TypeId} (h : w.heap[g]? = some (.cells #[x0, x1, x2, x3, x4, x5] T)) :
    w.cell? ⟨g, 0, none⟩ = some x0 ∧ w.cell? ⟨g, 1, none⟩ = some x1 ∧ w.cell? ⟨g, 2, none⟩ = some x2 ∧ w.cell? ⟨g, 3, none⟩ = some x3 ∧ w.cell? ⟨g, 4, none⟩ = some x4 ∧ w.cell? ⟨g, 5, none⟩ = some x5 :=
  ⟨cell_of_row _ _ _ _ _ _ h, cell_of_row _ _ _ _ _ _ h, cell_of_row _ _ _ _ _ _ h, cell_of_row _ _ _ _ _ _ h, cell_of_row _ _ _ _ _ _ h, cell_of_row _ _ _ _ _ _ h⟩
/-- cells from a place on are written -/
def putL (w : World) (g : Nat) : Nat → List Value → World
  | _, [] => w
  | off, x :: l => putL (w.setCell ⟨g, off, none⟩ x) g (off + 1) l
theorem putL_ne {g p : Nat} (h : p ≠ g) : ∀ (l : List Value) (w : World) (off : Nat), (putL w g off l).heap[p]? = w.heap[p]?
  | [], _, _ => rfl
  | x :: l, w, off => by
    unfold putL; rw [putL_ne h l, Below.heap_setCell _ _ _ _ h]
theorem putL_size : ∀ (l : List Value) (w : World) (g off : Nat), (putL w g off l).heap.size = w.heap.size
  | [], _, _, _ => rfl
  | x :: l, w, g, off => by
    unfold putL; rw [putL_size l]; simp [World.setCell]
theorem putL_below {w0 : World} {B g : Nat} (hg : B ≤ g) : ∀ (l : List Value) (w : World) (off : Nat), Below B w0 w → Below B w0 (putL w g off l)
  | [], _, _, h => h
  | x :: l, w, off, h => by
    unfold putL; exact putL_below hg l _ _ (h.setCell hg x)
/-- cells that hold no words -/
def noW (cs : Array Value) : Prop := ∀ (j : Nat) (n : Int), cs[j]? ≠ some (.int .u32 n)
theorem putL_num {w w' : World} {g off : Nat} {l : List Value} {cs : Array Value} {T : TypeId} {v : Value} {k : List Nat} (hw : w' = putL w g off l) (hn : Num w v k) (h : w.heap[g]? = some (.cells cs T)) (hc : noW cs) : Num w' v k := by
  obtain ⟨ao, c, rfl, h1, h2, h3, h4, h5⟩ := hn
  refine ⟨ao, c, rfl, h1, h2, h3, ?_, h5⟩
  intro b' o s hs
  obtain ⟨k1, k2⟩ := h4 b' o s hs
  have hsz : w'.heap.size = w.heap.size := by rw [hw, putL_size]
  refine ⟨fun h0 => by rw [hsz]; exact k1 h0, fun j hj => ?_⟩
  by_cases he : b' = g
  · subst he
    have := k2 j hj
    have hx : w.cell? ⟨b', o + j, none⟩ = cs[o + j]? := by
      unfold World.cell?; simp only [h]; rfl
    rw [hx] at this
    exact absurd this (hc _ _)
  · rw [← k2 j hj]
    unfold World.cell?
    have e : w'.heap[b']? = w.heap[b']? := by rw [hw, putL_ne he]
    simp only [e]
section
variable {w w' : World} {g off : Nat} {l : List Value} {cs : Array Value} {T : TypeId} {v : Value} {q : Rat} {s t : Bool} {a b c d : List Nat} {S : Rat × Rat}
theorem putL_V (hw : w' = putL w g off l) (h : RatV w v s a b) (hg : w.heap[g]? = some (.cells cs T)) (hc : noW cs) : RatV w' v s a b := by
  obtain ⟨va, vb, e, h1, h2⟩ := h
  exact ⟨va, vb, e, putL_num hw h1 hg hc, putL_num hw h2 hg hc⟩
theorem putL_I (hw : w' = putL w g off l) (h : IsR w v q) (hg : w.heap[g]? = some (.cells cs T)) (hc : noW cs) : IsR w' v q := putL_V hw h hg hc
theorem putL_R (hw : w' = putL w g off l) (h : RatIs w v q) (hg : w.heap[g]? = some (.cells cs T)) (hc : noW cs) : RatIs w' v q := by
  obtain ⟨s, a, b, h1, h2⟩ := h
  exact ⟨s, a, b, putL_V hw h1 hg hc, h2⟩
theorem putL_SV (hw : w' = putL w g off l) (h : SpV w v s a b t c d) (hg : w.heap[g]? = some (.cells cs T)) (hc : noW cs) : SpV w' v s a b t c d := by
  obtain ⟨x0, x1, x2, x3, x4, x5, e, h1, h2⟩ := h
  exact ⟨x0, x1, x2, x3, x4, x5, e, putL_V hw h1 hg hc, putL_V hw h2 hg hc⟩
theorem putL_SI (hw : w' = putL w g off l) (h : IsSp w v S) (hg : w.heap[g]? = some (.cells cs T)) (hc : noW cs) : IsSp w' v S := by
  obtain ⟨x0, x1, x2, x3, x4, x5, e, h1, h2⟩ := h
  exact ⟨x0, x1, x2, x3, x4, x5, e, putL_I hw h1 hg hc, putL_I hw h2 hg hc⟩
theorem putL_SS (hw : w' = putL w g off l) (h : SpIs w v S) (hg : w.heap[g]? = some (.cells cs T)) (hc : noW cs) : SpIs w' v S := by
  obtain ⟨s, a, b, t, c, d, h1, h2⟩ := h
  exact ⟨s, a, b, t, c, d, putL_SV hw h1 hg hc, h2⟩
end
theorem noW3 {s : Bool} {o p : Option Addr} {n c m d : Nat} : noW #[.bool s, .slice o n c, .slice p m d] := by
  intro j n; match j with
  | 0 => simp
  | 1 => simp
  | 2 => simp
  | j + 3 => simp
theorem noW6 {s t : Bool} {o p o' p' : Option Addr} {n c m d n' c' m' d' : Nat} : noW #[.bool s, .slice o n c, .slice p m d, .bool t, .slice o' n' c', .slice p' m' d'] := by
  intro j n; match j with
  | 0 => simp
  | 1 => simp
  | 2 => simp
  | 3 => simp
  | 4 => simp
  | 5 => simp
  | j + 6 => simp
theorem putL_0 {w : World} {g : Nat} {x0 x1 x2 x3 x4 x5 y0 y1 y2 : Value} {T : TypeId} (h : w.heap[g]? = some (.cells #[x0, x1, x2, x3, x4, x5] T)) : (putL w g 0 [y0, y1, y2]).heap[g]? = some (.cells #[y0, y1, y2, x3, x4, x5] T) := by
  simp [putL, World.setCell, Array.getElem?_modify, h]
theorem putL_3 {w : World} {g : Nat} {x0 x1 x2 x3 x4 x5 y0 y1 y2 : Value} {T : TypeId} (h : w.heap[g]? = some (.cells #[x0, x1, x2, x3, x4, x5] T)) : (putL w g 3 [y0, y1, y2]).heap[g]? = some (.cells #[x0, x1, x2, y0, y1, y2] T) := by
  simp [putL, World.setCell, Array.getElem?_modify, h]
theorem putL_6 {w : World} {g : Nat} {x0 x1 x2 x3 x4 x5 y0 y1 y2 y3 y4 y5 : Value} {T : TypeId} (h : w.heap[g]? = some (.cells #[x0, x1, x2, x3, x4, x5] T)) : (putL w g 0 [y0, y1, y2, y3, y4, y5]).heap[g]? = some (.cells #[y0, y1, y2, y3, y4, y5] T) := by
  simp [putL, World.setCell, Array.getElem?_modify, h]
theorem putL_r {w : World} {g : Nat} {x0 x1 x2 y0 y1 y2 : Value} {T : TypeId} (h : w.heap[g]? = some (.cells #[x0, x1, x2] T)) : (putL w g 0 [y0, y1, y2]).heap[g]? = some (.cells #[y0, y1, y2] T) := by
  simp [putL, World.setCell, Array.getElem?_modify, h]
theorem putLx {w w' : World} {g p off : Nat} {l : List Value} {o : Obj} (hw : w' = putL w g off l) (h : w.heap[p]? = some o) (hp : p ≠ g) : w'.heap[p]? = some o := by
  rw [hw, putL_ne hp]; exact h
theorem putLb {w0 w w' : World} {B g off : Nat} {l : List Value} (hw : w' = putL w g off l) (h : Below B w0 w) (hg : B ≤ g) : Below B w0 w' := by
  rw [hw]; exact putL_below hg _ _ _ h
def KSp (S : Rat × Rat) : Value → World → Prop := fun v w => IsSp w v S
theorem kSp (S : Rat × Rat) : MonoF (KSp S) := fun _ _ _ h hb => IsSp.below h hb
def KSpE (S : Rat × Rat) (er : Value) : Value → World → Prop := fun v w => ∃ b, v = .tuple #[b, er] ∧ IsSp w b S
theorem kSpE (S : Rat × Rat) (er : Value) : MonoF (KSpE S er) := fun _ _ _ ⟨b, h1, h2⟩ hb => ⟨b, h1, h2.below hb⟩
/-- a new variable, in a block from B on -/
def KNew (B : Nat) (cs : Array Value) (T : TypeId) : Value → World → Prop := fun v w => ∃ g, B ≤ g ∧ v = .pointer (some ⟨g, 0, none⟩) ∧ w.heap[g]? = some (.cells cs T)
theorem kNew (B : Nat) (cs : Array Value) (T : TypeId) : MonoF (KNew B cs T) := fun _ _ _ ⟨g, h1, h2, h3⟩ hb => ⟨g, h1, h2, heap_below h3 hb⟩
/-- a new list -/
def KLst (B n : Nat) (cs : Array Value) (T : TypeId) : Value → World → Prop := fun v w => ∃ g, B ≤ g ∧ v = .slice (some ⟨g, 0, none⟩) n n ∧ w.heap[g]? = some (.cells cs T)
theorem kLst (B n : Nat) (cs : Array Value) (T : TypeId) : MonoF (KLst B n cs T) := fun _ _ _ ⟨g, h1, h2, h3⟩ hb => ⟨g, h1, h2, heap_below h3 hb⟩
theorem span_info : (Tryz.prog.info? 26).map (·.size) = some 6 := by kernel_rfl
/-- a function that hands back an interval in a variable of its own -/
theorem ret_span {fn : Func} {R : Ending → World → Prop} {a : Act} {w : World} {p : Tmp} (h : fn.results = #[.cell p 26]) (g : Nat) (x0 x1 x2 x3 x4 x5 : Value)
    (hp : a.tmps.getD p undef = .pointer (some ⟨g, 0, none⟩)) (hg : w.heap[g]? = some (.cells #[x0, x1, x2, x3, x4, x5] 26)) (hd : a.defers = []) (hR : R (.returned (.agg #[x0, x1, x2, x3, x4, x5])) w) : bodyPost Tryz.prog fn R .ret a w :=
  bodyPost_ret (results_cell_row h a.tmps w g 26 _ _ _ hp hg Tryz.underlying26 rfl span_info) hd hR
/-- .. and an error (or its number) -/
theorem ret_span2 {fn : Func} {R : Ending → World → Prop} {a : Act} {w : World} {p u : Tmp} (h : fn.results = #[.cell p 26, .tmp u]) (g : Nat) (x0 x1 x2 x3 x4 x5 : Value)
    (hp : a.tmps.getD p undef = .pointer (some ⟨g, 0, none⟩)) (hg : w.heap[g]? = some (.cells #[x0, x1, x2, x3, x4, x5] 26)) (hd : a.defers = []) (hR : R (.returned (.tuple #[.agg #[x0, x1, x2, x3, x4, x5], a.tmps.getD u undef])) w) : bodyPost Tryz.prog fn R .ret a w := by
  refine bodyPost_ret (v := .tuple #[.agg #[x0, x1, x2, x3, x4, x5], a.tmps.getD u undef]) ?_ hd hR
  rw [results_cell_tmp h, hp]
  simp only [asAddr, Sem.run_pure, Result.andThen, run_loadVar_row w g 26 26 _ _ _ hg Tryz.underlying26 rfl span_info]
end Go.Proofs.YtaefimegiobkmaaGreatDoor
/-
  Intervals: their ends' lengths, their order, what sums and products of ends come to.
  Conditions: none beyond each theorem's own.
-/
namespace Go.Proofs.YtaefimegiobkmaaGreatDoor

theorem div_zero_q (p : Rat) : p / 0 = 0 := by grind
theorem rl_div' (p q : Rat) : rl (p / q) ≤ rl p + rl q := by
  by_cases h : q = 0
  · subst h; rw [div_zero_q, rl_zero]; have := rl_pos p; omega
  · exact rl_div p q h
def sNot (a : Rat × Rat) : Rat × Rat := (1 - a.2, 1 - a.1)
theorem rl_around2 (p q : Rat) : rl (around2 p q).1 ≤ max (rl p) (rl q) ∧ rl (around2 p q).2 ≤ max (rl p) (rl q) := ⟨rl_mn _ _, rl_mx _ _⟩
theorem rl_around4 (p q r s : Rat) : rl (around4 p q r s).1 ≤ max (max (max (rl p) (rl q)) (rl r)) (rl s) ∧ rl (around4 p q r s).2 ≤ max (max (max (rl p) (rl q)) (rl r)) (rl s) := by
  unfold around4
  have h1 := rl_mn p q; have h2 := rl_mn (mn p q) r; have h3 := rl_mn (mn (mn p q) r) s
  have g1 := rl_mx p q; have g2 := rl_mx (mx p q) r; have g3 := rl_mx (mx (mx p q) r) s
  show rl (mn (mn (mn p q) r) s) ≤ _ ∧ rl (mx (mx (mx p q) r) s) ≤ _
  omega
theorem rl_sNeg (a : Rat × Rat) : rl (sNeg a).1 = rl a.2 ∧ rl (sNeg a).2 = rl a.1 := ⟨rl_neg _, rl_neg _⟩
theorem rl_sNot (a : Rat × Rat) : rl (sNot a).1 ≤ rl a.2 + 2 ∧ rl (sNot a).2 ≤ rl a.1 + 2 := by
  have h1 := rl_sub 1 a.2; have h2 := rl_sub 1 a.1
  rw [rl_one] at h1 h2
  show rl (1 - a.2) ≤ _ ∧ rl (1 - a.1) ≤ _
  omega
theorem rl_sAdd (a b : Rat × Rat) : rl (sAdd a b).1 ≤ rl a.1 + rl b.1 + 1 ∧ rl (sAdd a b).2 ≤ rl a.2 + rl b.2 + 1 := ⟨rl_add _ _, rl_add _ _⟩
theorem rl_sSub (a b : Rat × Rat) : rl (sSub a b).1 ≤ rl a.1 + rl b.2 + 1 ∧ rl (sSub a b).2 ≤ rl a.2 + rl b.1 + 1 := ⟨rl_sub _ _, rl_sub _ _⟩
theorem rl_sHull (a b : Rat × Rat) : rl (sHull a b).1 ≤ max (max (max (rl a.1) (rl a.2)) (rl b.1)) (rl b.2) ∧ rl (sHull a b).2 ≤ max (max (max (rl a.1) (rl a.2)) (rl b.1)) (rl b.2) := rl_around4 _ _ _ _
theorem rl_sMul (a b : Rat × Rat) : rl (sMul a b).1 ≤ max (rl a.1) (rl a.2) + max (rl b.1) (rl b.2) ∧ rl (sMul a b).2 ≤ max (rl a.1) (rl a.2) + max (rl b.1) (rl b.2) := by
  have h := rl_around4 (a.1 * b.1) (a.1 * b.2) (a.2 * b.1) (a.2 * b.2)
  have h1 := rl_mul a.1 b.1; have h2 := rl_mul a.1 b.2; have h3 := rl_mul a.2 b.1; have h4 := rl_mul a.2 b.2
  unfold sMul
  omega
theorem rl_inv (p : Rat) : rl (1 / p) ≤ rl p + 1 := by
  have := rl_div' 1 p; rw [rl_one] at this; omega
theorem rl_sDiv (a b : Rat × Rat) : rl (sDiv a b).1 ≤ max (rl a.1) (rl a.2) + max (rl b.1) (rl b.2) + 1 ∧ rl (sDiv a b).2 ≤ max (rl a.1) (rl a.2) + max (rl b.1) (rl b.2) + 1 := by
  have h := rl_sMul a (around2 (1 / b.1) (1 / b.2))
  have h1 := rl_around2 (1 / b.1) (1 / b.2)
  have h2 := rl_inv b.1; have h3 := rl_inv b.2
  unfold sDiv
  omega
theorem rl_clip (p : Rat) : rl (clip p) ≤ max (rl p) 1 := by
  have h1 := rl_mx 0 (mn p 1); have h2 := rl_mn p 1
  rw [rl_zero] at h1; rw [rl_one] at h2
  unfold clip; omega
theorem rl_sClip (a : Rat × Rat) : rl (sClip a).1 ≤ max (rl a.1) 1 ∧ rl (sClip a).2 ≤ max (rl a.2) 1 := ⟨rl_clip _, rl_clip _⟩
theorem sNeg_ok {a : Rat × Rat} (h : a.1 ≤ a.2) : (sNeg a).1 ≤ (sNeg a).2 := by show -a.2 ≤ -a.1; grind
theorem neg_around {a : Rat × Rat} (h : a.1 ≤ a.2) : around2 (-a.1) (-a.2) = sNeg a := around2_ge (by grind)
theorem add_around {a b : Rat × Rat} (h : a.1 ≤ a.2) (k : b.1 ≤ b.2) : around2 (a.1 + b.1) (a.2 + b.2) = sAdd a b := around2_le (by grind)
theorem add_neg {a b : Rat × Rat} : sAdd a (sNeg b) = sSub a b := by
  unfold sAdd sNeg sSub; rw [Rat.sub_eq_add_neg, Rat.sub_eq_add_neg]
theorem one_sub {a : Rat × Rat} : sSub ((((1 : Int) : Rat)), (((1 : Int) : Rat))) a = sNot a := rfl
theorem zero_sub {a : Rat × Rat} : sSub (0, 0) a = sNeg a := by
  unfold sSub sNeg; rw [Rat.sub_eq_add_neg, Rat.sub_eq_add_neg, Rat.zero_add, Rat.zero_add]
theorem clip_around {a : Rat × Rat} (h : a.1 ≤ a.2) : around2 (clip a.1) (clip a.2) = sClip a := around2_le (clip_mono h)
/-- an interval of given ends, the number of its error -/
def smV (p u : Rat) : Rat × Rat := if p ≤ u then (p, u) else (0, 0)
def smC (p u : Rat) : Nat := if p ≤ u then 0 else 3
theorem rl_smV (p u : Rat) : rl (smV p u).1 ≤ rl p ∧ rl (smV p u).2 ≤ rl u := by
  unfold smV; split
  · exact ⟨Nat.le_refl _, Nat.le_refl _⟩
  · show rl 0 ≤ _ ∧ rl 0 ≤ _
    rw [rl_zero]; exact ⟨rl_pos _, rl_pos _⟩
/-- quotients, the number of the error -/
def sdV (a b : Rat × Rat) : Rat × Rat := if inS b 0 then (0, 0) else sDiv a b
def sdC (b : Rat × Rat) : Nat := if inS b 0 then 8 else 0
theorem sdV_ok (a b : Rat × Rat) : (sdV a b).1 ≤ (sdV a b).2 := by
  unfold sdV; split
  · exact Rat.le_refl
  · exact around4_ok _ _ _ _
theorem rl_sdV (a b : Rat × Rat) : rl (sdV a b).1 ≤ max (rl a.1) (rl a.2) + max (rl b.1) (rl b.2) + 1 ∧ rl (sdV a b).2 ≤ max (rl a.1) (rl a.2) + max (rl b.1) (rl b.2) + 1 := by
  unfold sdV; split
  · show rl 0 ≤ _ ∧ rl 0 ≤ _
    rw [rl_zero]; omega
  · exact rl_sDiv a b
/-- the common part, the number of the error -/
def stV (a b : Rat × Rat) : Rat × Rat := if (sMeet a b).1 ≤ (sMeet a b).2 then sMeet a b else (0, 0)
def stC (a b : Rat × Rat) : Nat := if (sMeet a b).1 ≤ (sMeet a b).2 then 0 else 17
theorem rl_sMeet (a b : Rat × Rat) : rl (sMeet a b).1 ≤ max (rl a.1) (rl b.1) ∧ rl (sMeet a b).2 ≤ max (rl a.2) (rl b.2) := ⟨rl_mx _ _, rl_mn _ _⟩
theorem rl_stV (a b : Rat × Rat) : rl (stV a b).1 ≤ max (rl a.1) (rl b.1) ∧ rl (stV a b).2 ≤ max (rl a.2) (rl b.2) := by
  unfold stV; split
  · exact rl_sMeet a b
  · show rl 0 ≤ _ ∧ rl 0 ≤ _
    have := rl_pos a.1; have := rl_pos a.2
    rw [rl_zero]; omega
theorem inS_zero_ends {b : Rat × Rat} (ho : b.1 ≤ b.2) (h : ¬ inS b 0) : b.1 ≠ 0 ∧ b.2 ≠ 0 := by
  unfold inS at h; constructor <;> intro e <;> rw [e] at h <;> grind
end Go.Proofs.YtaefimegiobkmaaGreatDoor
/-
  The reference: size, Make, Of, Floor, Round: what they hand back.
  Conditions: each theorem's own.
-/
namespace Go.Proofs.YtaefimegiobkmaaGreatDoor
open Go.RowKit Go.ChangeShapes Go.WideShapes

/-- two words of a number -/
def RetTwo (w : World) (n : Nat) (e : Ending) (w' : World) : Prop := ∃ v l, e = .returned v ∧ Below w.heap.size w w' ∧ Num w' v l ∧ val l = n ∧ l.length = 2
theorem two_words (n : Nat) : val [n % 4294967296, n / 4294967296] = n := by
  simp only [val]; omega
set_option maxRecDepth 100000 in
set_option maxHeartbeats 800000 in
theorem rsize_any (n : Int) (w : World) (h0 : -9223372036854775808 ≤ n) (h1 : n < 9223372036854775808) :
    Calls Tryz.prog 96 #[.int .i64 n] w (RetTwo w n.natAbs) := by
  obtain ⟨m, hm⟩ : ∃ m, m = n.natAbs := ⟨_, rfl⟩
  rw [← hm]
  have hmb : m ≤ 9223372036854775808 := by omega
  have hlo := num_lit w 76 #[.int .u32 ((m % 4294967296 : Nat) : Int), .int .u32 ((m / 4294967296 : Nat) : Int)] [m % 4294967296, m / 4294967296] 2 (U32.cons (by omega) (U32.cons (by omega) U32.nil)) rfl (by simp) rfl
  have HLO := Lib.hid hlo
  have e0 : ((m % 4294967296 : Nat) : Int) = (m : Int) % 4294967296 := by omega
  have e1 : ((m / 4294967296 : Nat) : Int) = (m : Int) / 4294967296 := by omega
  rw [e0, e1] at HLO
  by_cases h : n < 0
  · have hn : n = -(m : Int) := by omega
    subst hn
    have f1 : decide (-(m : Int) < 0) = true := decide_eq_true h
    have f2 : decide (0 < m) = true := decide_eq_true (by omega)
    have hwr : IntKind.u64.wrap (-IntKind.u64.wrap (-(m : Int))) = (m : Int) := by
      have e : ∀ n : Int, IntKind.u64.wrap n = n % 18446744073709551616 := fun n => rfl
      rw [e, e]; omega
    clear hm hlo e0 e1
    go_enter Tryz.func96, Tryz.ntmps96
    go_wp2_with fail
    go_ret
    exact ⟨_, _, rfl, (Below.refl _ _).alloc (Nat.le_refl _) _, HLO.out, two_words m, rfl⟩
  · have hn : n = (m : Int) := by omega
    subst hn
    have f1 : decide ((m : Int) < 0) = false := decide_eq_false h
    clear hm hlo e0 e1
    go_enter Tryz.func96, Tryz.ntmps96
    go_wp2_with fail
    go_ret
    exact ⟨_, _, rfl, (Below.refl _ _).alloc (Nat.le_refl _) _, HLO.out, two_words m, rfl⟩
set_option maxRecDepth 100000 in
set_option maxHeartbeats 3200000 in
theorem rmake_any (n : Int) (d : Int) (w : World)  (h0 : -9223372036854775808 ≤ n) (h1 : n < 9223372036854775808) (g0 : -9223372036854775808 ≤ d) (g1 : d < 9223372036854775808) :
    Calls Tryz.prog 71 #[.int .i64 n, .int .i64 d] w (RetRE w ((n : Rat) / (d : Rat)) (.int .i64 (zc d.natAbs : Nat))) := by
  have hb0 := ((Below.refl w.heap.size w).alloc (by first | (simp; done) | (simp; omega)) (.cells #[.bool false, .slice none 0 0, .slice none 0 0] 24))
  have hxR := nest1_0 w (.cells #[.bool false, .slice none 0 0, .slice none 0 0] 24)
  obtain ⟨w0, hw0⟩ : ∃ w0, w0 = (w.alloc (.cells #[.bool false, .slice none 0 0, .slice none 0 0] 24)) := ⟨_, rfl⟩
  rw [← hw0] at hb0 hxR
  have HB0 := Lib.hid hb0; have HW0 := Lib.hid hw0
  have BXR := Lib.hid hxR
  clear hb0 hw0 hxR
  have BD := Lib.hid (And.intro h0 h1); have BG := Lib.hid (And.intro g0 g1)
  obtain ⟨z, hz⟩ : ∃ z, z = zc d.natAbs := ⟨_, rfl⟩
  rw [← hz]
  have HZ := Lib.hid hz; clear hz
  go_enter Tryz.func71, Tryz.ntmps71
  have hs := rsize_any n w0 BD.out.1 BD.out.2
  have HS := Lib.hid hs; clear hs
  go_wp2_with fail
  rw [← HW0.out]
  (with_reducible refine HS.out.mono ?_); rintro e w1 ⟨v1, l1, rfl, hb1, hn1, hv1, hl1⟩
  clear HS
  have HB1 := Lib.hid (HB0.out.step hb1)
  have BXR := Lib.hid (heap_below BXR.out hb1)
  have N := Lib.hid hn1; have VN := Lib.hid hv1; have LN := Lib.hid hl1; clear hn1 hb1 hv1 hl1
  have hs := rsize_any d w1 BG.out.1 BG.out.2
  have HS := Lib.hid hs; clear hs
  go_wp2_with fail
  (with_reducible refine HS.out.mono ?_); rintro e w2 ⟨v2, l2, rfl, hb2, hn2, hv2, hl2⟩
  clear HS
  have HB2 := Lib.hid (HB1.out.step hb2)
  have N := Lib.hid (N.out.below hb2)
  have BXR := Lib.hid (heap_below BXR.out hb2)
  have D := Lib.hid hn2; have VD := Lib.hid hv2; have LD := Lib.hid hl2; clear hn2 hb2 hv2 hl2
  have hs := rfrom_any (!(decide (n < 0) == decide (d < 0))) _ _ _ _ w2 N.out D.out (by rw [LN.out]; decide) (by rw [LD.out]; decide)
  rw [VN.out, VD.out, q_ints, ← HZ.out] at hs
  have HS := Lib.hid hs; clear hs
  go_wp2_with fail
  (with_reducible refine HS.out.mono ?_); rintro e w3 ⟨v3, rfl, hb3, hn3⟩
  clear HS
  have HB3 := Lib.hid (HB2.out.step hb3)
  have N := Lib.hid (N.out.below hb3)
  have D := Lib.hid (D.out.below hb3)
  have BXR := Lib.hid (heap_below BXR.out hb3)
  have Q := Lib.hid hn3; clear hn3
  clear hb3
  obtain ⟨sQ, oQ, nQ, cQ, aQ, mQ, dQ, rfl⟩ := Q.out.shape
  obtain ⟨eR0, eR1, eR2⟩ := row3 BXR.out
  obtain ⟨fR0, fR1, fR2⟩ := froz3 BXR.out
  go_wp2_with fail
  refine ret_rat2 rfl w.heap.size _ _ _ rfl (put3_heap BXR.out) rfl ?_
  exact ⟨_, rfl, put3_below HB3.out (by omega) _ _ _, isR_put Q.out BXR.out⟩
set_option maxRecDepth 100000 in
set_option maxHeartbeats 3200000 in
theorem rofq_any (n : Int) (w : World)  (h0 : -9223372036854775808 ≤ n) (h1 : n < 9223372036854775808) :
    Calls Tryz.prog 44 #[.int .i64 n] w (RetR w (n : Rat)) := by
  have hb0 := ((Below.refl w.heap.size w).alloc (by first | (simp; done) | (simp; omega)) (.cells #[.bool false, .slice none 0 0, .slice none 0 0] 24))
  have hxR := nest1_0 w (.cells #[.bool false, .slice none 0 0, .slice none 0 0] 24)
  obtain ⟨w0, hw0⟩ : ∃ w0, w0 = (w.alloc (.cells #[.bool false, .slice none 0 0, .slice none 0 0] 24)) := ⟨_, rfl⟩
  rw [← hw0] at hb0 hxR
  have HB0 := Lib.hid hb0; have HW0 := Lib.hid hw0
  have BXR := Lib.hid hxR
  clear hb0 hw0 hxR
  have BD := Lib.hid (And.intro h0 h1)
  have hq1 : (n : Rat) / ((1 : Int) : Rat) = (n : Rat) := by rw [show ((1 : Int) : Rat) = 1 from rfl]; grind
  have HQ1 := Lib.hid hq1; clear hq1
  go_enter Tryz.func44, Tryz.ntmps44
  have hs := rmake_any n 1 w0 BD.out.1 BD.out.2 (by decide) (by decide)
  rw [HQ1.out, show zc (1 : Int).natAbs = 0 from rfl] at hs
  have HS := Lib.hid hs; clear hs
  go_wp2_with fail
  rw [← HW0.out]
  (with_reducible refine HS.out.mono ?_); rintro e w1 ⟨v1, rfl, hb1, hn1⟩
  clear HS
  have HB1 := Lib.hid (HB0.out.step hb1)
  have BXR := Lib.hid (heap_below BXR.out hb1)
  have Q := Lib.hid hn1; clear hn1
  clear hb1
  obtain ⟨sQ, oQ, nQ, cQ, aQ, mQ, dQ, rfl⟩ := Q.out.shape
  have hal : Below w1.heap.size w1 (w1.alloc (.cells #[.bool sQ, .slice oQ nQ cQ, .slice aQ mQ dQ] 24)) := (Below.refl _ _).alloc (Nat.le_refl _) _
  have HXA := Lib.hid (heap_below BXR.out hal); have HAL := Lib.hid hal; clear hal
  obtain ⟨eR0, eR1, eR2⟩ := row3 HXA.out
  obtain ⟨fR0, fR1, fR2⟩ := froz3 HXA.out
  go_wp2_with fail
  refine ret_rat rfl w.heap.size _ _ _ rfl (put3_heap HXA.out) rfl ?_
  exact ⟨_, rfl, put3_below (HB1.out.step HAL.out) (by omega) _ _ _, isR_put (Q.out.below HAL.out) HXA.out⟩
end Go.Proofs.YtaefimegiobkmaaGreatDoor
/-
  span.Valid, span.norm and the reference's: what they hand back.
  Conditions: each theorem's own.
-/
namespace Go.Proofs.YtaefimegiobkmaaGreatDoor
open Go.RowKit Go.ChangeShapes Go.WideShapes

set_option maxRecDepth 100000 in
set_option maxHeartbeats 3200000 in
theorem svalid_1 (va : Value) (sa : Bool) (aa ba : List Nat) (ta : Bool) (ca da : List Nat) (w : World) (ha : SpV w va sa aa ba ta ca da) (la : aa.length ≤ 40000) (lb : ba.length ≤ 40000) (_lc : ca.length ≤ 40000) (_ld : da.length ≤ 40000) (hv : ¬ Vld sa aa ba) :
    Calls Tryz.prog 17 #[va] w (RetV w (.bool (decide (Vld sa aa ba ∧ Vld ta ca da ∧ rq sa aa ba ≤ rq ta ca da)))) := by
  have HBW := Lib.hid (Below.refl w.heap.size w)
  obtain ⟨qa, oa, na, ka, pa, ma, ra, qax, oax, nax, kax, pax, max, rax, rfl⟩ := ha.shape
  rw [show decide (Vld sa aa ba ∧ Vld ta ca da ∧ rq sa aa ba ≤ rq ta ca da) = false from decide_eq_false (fun k => hv k.1)]
  have HV1 := Lib.hid (decide_eq_false hv); clear hv
  have Fa := Lib.hid ha; clear ha
  have Fal := Lib.hid (spV_ends Fa.out).1; have Fah := Lib.hid (spV_ends Fa.out).2
  obtain ⟨w1, hw1⟩ : ∃ w1, w1 = w.alloc (.cells #[.bool qa, .slice oa na ka, .slice pa ma ra, .bool qax, .slice oax nax kax, .slice pax max rax] 26) := ⟨_, rfl⟩
  have hb1 : Below w.heap.size w w1 := by rw [hw1]; exact (Below.refl _ _).alloc (Nat.le_refl _) _
  have hx1 := heap_alloc_new w (.cells #[.bool qa, .slice oa na ka, .slice pa ma ra, .bool qax, .slice oax nax kax, .slice pax max rax] 26)
  obtain ⟨g1, hg1⟩ : ∃ g, g = w.heap.size := ⟨_, rfl⟩
  rw [← hw1, ← hg1] at hx1
  have lw1 : w.heap.size ≤ g1 := by rw [hg1]; exact HBW.out.size
  have HW1 := Lib.hid hw1; have HG1 := Lib.hid hg1; clear hw1 hg1
  have HB1 := Lib.hid (HBW.out.step hb1)
  have Fa := Lib.hid (Fa.out.below hb1)
  have Fal := Lib.hid (Fal.out.below hb1)
  have Fah := Lib.hid (Fah.out.below hb1)
  have BX1 := Lib.hid hx1; clear hb1 hx1
  go_enter Tryz.func17, Tryz.ntmps17
  obtain ⟨x1_0, x1_1, x1_2, x1_3, x1_4, x1_5⟩ := row6 BX1.out
  have hs := valid_any _ sa aa ba w1 Fal.out (by omega) (by omega)
  rw [HV1.out] at hs
  have HS := Lib.hid hs; clear hs
  try rw [HW1.out] at x1_0
  try rw [HG1.out] at x1_0
  try rw [HW1.out] at x1_1
  try rw [HG1.out] at x1_1
  try rw [HW1.out] at x1_2
  try rw [HG1.out] at x1_2
  try rw [HW1.out] at x1_3
  try rw [HG1.out] at x1_3
  try rw [HW1.out] at x1_4
  try rw [HG1.out] at x1_4
  try rw [HW1.out] at x1_5
  try rw [HG1.out] at x1_5
  go_wp2_with fail
  try rw [← HW1.out]
  try rw [← HG1.out]
  clear x1_0 x1_1 x1_2 x1_3 x1_4 x1_5
  (with_reducible refine HS.out.mono ?_); rintro e w2 ⟨rfl, hb2⟩
  clear HS
  have HB2 := Lib.hid (HB1.out.step hb2)
  have Fa := Lib.hid (Fa.out.below hb2)
  have Fal := Lib.hid (Fal.out.below hb2)
  have Fah := Lib.hid (Fah.out.below hb2)
  have BX1 := Lib.hid (heap_below BX1.out hb2)
  clear hb2
  go_wp2_with fail
  go_ret
  exact ⟨by first | rfl | (simp; done), HB2.out⟩
set_option maxRecDepth 100000 in
set_option maxHeartbeats 3200000 in
theorem svalid_2 (va : Value) (sa : Bool) (aa ba : List Nat) (ta : Bool) (ca da : List Nat) (w : World) (ha : SpV w va sa aa ba ta ca da) (la : aa.length ≤ 40000) (lb : ba.length ≤ 40000) (lc : ca.length ≤ 40000) (ld : da.length ≤ 40000) (hv : Vld sa aa ba) (hu : ¬ Vld ta ca da) :
    Calls Tryz.prog 17 #[va] w (RetV w (.bool (decide (Vld sa aa ba ∧ Vld ta ca da ∧ rq sa aa ba ≤ rq ta ca da)))) := by
  have HBW := Lib.hid (Below.refl w.heap.size w)
  obtain ⟨qa, oa, na, ka, pa, ma, ra, qax, oax, nax, kax, pax, max, rax, rfl⟩ := ha.shape
  rw [show decide (Vld sa aa ba ∧ Vld ta ca da ∧ rq sa aa ba ≤ rq ta ca da) = false from decide_eq_false (fun k => hu k.2.1)]
  have HV1 := Lib.hid (decide_eq_true hv); have HV2 := Lib.hid (decide_eq_false hu); clear hv hu
  have Fa := Lib.hid ha; clear ha
  have Fal := Lib.hid (spV_ends Fa.out).1; have Fah := Lib.hid (spV_ends Fa.out).2
  obtain ⟨w1, hw1⟩ : ∃ w1, w1 = w.alloc (.cells #[.bool qa, .slice oa na ka, .slice pa ma ra, .bool qax, .slice oax nax kax, .slice pax max rax] 26) := ⟨_, rfl⟩
  have hb1 : Below w.heap.size w w1 := by rw [hw1]; exact (Below.refl _ _).alloc (Nat.le_refl _) _
  have hx1 := heap_alloc_new w (.cells #[.bool qa, .slice oa na ka, .slice pa ma ra, .bool qax, .slice oax nax kax, .slice pax max rax] 26)
  obtain ⟨g1, hg1⟩ : ∃ g, g = w.heap.size := ⟨_, rfl⟩
  rw [← hw1, ← hg1] at hx1
  have lw1 : w.heap.size ≤ g1 := by rw [hg1]; exact HBW.out.size
  have HW1 := Lib.hid hw1; have HG1 := Lib.hid hg1; clear hw1 hg1
  have HB1 := Lib.hid (HBW.out.step hb1)
  have Fa := Lib.hid (Fa.out.below hb1)
  have Fal := Lib.hid (Fal.out.below hb1)
  have Fah := Lib.hid (Fah.out.below hb1)
  have BX1 := Lib.hid hx1; clear hb1 hx1
  go_enter Tryz.func17, Tryz.ntmps17
  obtain ⟨x1_0, x1_1, x1_2, x1_3, x1_4, x1_5⟩ := row6 BX1.out
  have hs := valid_any _ sa aa ba w1 Fal.out (by omega) (by omega)
  rw [HV1.out] at hs
  have HS := Lib.hid hs; clear hs
  try rw [HW1.out] at x1_0
  try rw [HG1.out] at x1_0
  try rw [HW1.out] at x1_1
  try rw [HG1.out] at x1_1
  try rw [HW1.out] at x1_2
  try rw [HG1.out] at x1_2
  try rw [HW1.out] at x1_3
  try rw [HG1.out] at x1_3
  try rw [HW1.out] at x1_4
  try rw [HG1.out] at x1_4
  try rw [HW1.out] at x1_5
  try rw [HG1.out] at x1_5
  go_wp2_with fail
  try rw [← HW1.out]
  try rw [← HG1.out]
  clear x1_0 x1_1 x1_2 x1_3 x1_4 x1_5
  (with_reducible refine HS.out.mono ?_); rintro e w2 ⟨rfl, hb2⟩
  clear HS
  have HB2 := Lib.hid (HB1.out.step hb2)
  have Fa := Lib.hid (Fa.out.below hb2)
  have Fal := Lib.hid (Fal.out.below hb2)
  have Fah := Lib.hid (Fah.out.below hb2)
  have BX1 := Lib.hid (heap_below BX1.out hb2)
  clear hb2
  obtain ⟨x2_0, x2_1, x2_2, x2_3, x2_4, x2_5⟩ := row6 BX1.out
  have hs := valid_any _ ta ca da w2 Fah.out (by omega) (by omega)
  rw [HV2.out] at hs
  have HS := Lib.hid hs; clear hs
  go_wp2_with fail
  clear x2_0 x2_1 x2_2 x2_3 x2_4 x2_5
  (with_reducible refine HS.out.mono ?_); rintro e w3 ⟨rfl, hb3⟩
  clear HS
  have HB3 := Lib.hid (HB2.out.step hb3)
  have Fa := Lib.hid (Fa.out.below hb3)
  have Fal := Lib.hid (Fal.out.below hb3)
  have Fah := Lib.hid (Fah.out.below hb3)
  have BX1 := Lib.hid (heap_below BX1.out hb3)
  clear hb3
  go_wp2_with fail
  go_ret
  exact ⟨by first | rfl | (simp; done), HB3.out⟩
set_option maxRecDepth 100000 in
set_option maxHeartbeats 3200000 in
theorem svalid_3 (va : Value) (sa : Bool) (aa ba : List Nat) (ta : Bool) (ca da : List Nat) (w : World) (ha : SpV w va sa aa ba ta ca da) (la : aa.length ≤ 40000) (lb : ba.length ≤ 40000) (lc : ca.length ≤ 40000) (ld : da.length ≤ 40000) (hv : Vld sa aa ba) (hu : Vld ta ca da) :
    Calls Tryz.prog 17 #[va] w (RetV w (.bool (decide (Vld sa aa ba ∧ Vld ta ca da ∧ rq sa aa ba ≤ rq ta ca da)))) := by
  have HBW := Lib.hid (Below.refl w.heap.size w)
  obtain ⟨qa, oa, na, ka, pa, ma, ra, qax, oax, nax, kax, pax, max, rax, rfl⟩ := ha.shape
  rw [show decide (Vld sa aa ba ∧ Vld ta ca da ∧ rq sa aa ba ≤ rq ta ca da) = decide (cq (rq sa aa ba) (rq ta ca da) ≤ 0) from by rw [decide_eq_decide, cq_le]; exact ⟨fun k => k.2.2, fun k => ⟨hv, hu, k⟩⟩]
  obtain ⟨n, hn⟩ : ∃ n, n = cq (rq sa aa ba) (rq ta ca da) := ⟨_, rfl⟩
  rw [← hn]; have HN := Lib.hid hn; clear hn
  have HV1 := Lib.hid (decide_eq_true hv); have HV2 := Lib.hid (decide_eq_true hu); clear hv hu
  have k1 : rl (rq sa aa ba) ≤ 40000 := rl_rq ha.lt.1.1 ha.lt.1.2 la lb (by decide); have k2 : rl (rq ta ca da) ≤ 40000 := rl_rq ha.lt.2.1 ha.lt.2.2 lc ld (by decide)
  have Fa := Lib.hid ha; clear ha
  have Fal := Lib.hid (spV_ends Fa.out).1; have Fah := Lib.hid (spV_ends Fa.out).2
  obtain ⟨w1, hw1⟩ : ∃ w1, w1 = w.alloc (.cells #[.bool qa, .slice oa na ka, .slice pa ma ra, .bool qax, .slice oax nax kax, .slice pax max rax] 26) := ⟨_, rfl⟩
  have hb1 : Below w.heap.size w w1 := by rw [hw1]; exact (Below.refl _ _).alloc (Nat.le_refl _) _
  have hx1 := heap_alloc_new w (.cells #[.bool qa, .slice oa na ka, .slice pa ma ra, .bool qax, .slice oax nax kax, .slice pax max rax] 26)
  obtain ⟨g1, hg1⟩ : ∃ g, g = w.heap.size := ⟨_, rfl⟩
  rw [← hw1, ← hg1] at hx1
  have lw1 : w.heap.size ≤ g1 := by rw [hg1]; exact HBW.out.size
  have HW1 := Lib.hid hw1; have HG1 := Lib.hid hg1; clear hw1 hg1
  have HB1 := Lib.hid (HBW.out.step hb1)
  have Fa := Lib.hid (Fa.out.below hb1)
  have Fal := Lib.hid (Fal.out.below hb1)
  have Fah := Lib.hid (Fah.out.below hb1)
  have BX1 := Lib.hid hx1; clear hb1 hx1
  go_enter Tryz.func17, Tryz.ntmps17
  obtain ⟨x1_0, x1_1, x1_2, x1_3, x1_4, x1_5⟩ := row6 BX1.out
  have hs := valid_any _ sa aa ba w1 Fal.out (by omega) (by omega)
  rw [HV1.out] at hs
  have HS := Lib.hid hs; clear hs
  try rw [HW1.out] at x1_0
  try rw [HG1.out] at x1_0
  try rw [HW1.out] at x1_1
  try rw [HG1.out] at x1_1
  try rw [HW1.out] at x1_2
  try rw [HG1.out] at x1_2
  try rw [HW1.out] at x1_3
  try rw [HG1.out] at x1_3
  try rw [HW1.out] at x1_4
  try rw [HG1.out] at x1_4
  try rw [HW1.out] at x1_5
  try rw [HG1.out] at x1_5
  go_wp2_with fail
  try rw [← HW1.out]
  try rw [← HG1.out]
  clear x1_0 x1_1 x1_2 x1_3 x1_4 x1_5
  (with_reducible refine HS.out.mono ?_); rintro e w2 ⟨rfl, hb2⟩
  clear HS
  have HB2 := Lib.hid (HB1.out.step hb2)
  have Fa := Lib.hid (Fa.out.below hb2)
  have Fal := Lib.hid (Fal.out.below hb2)
  have Fah := Lib.hid (Fah.out.below hb2)
  have BX1 := Lib.hid (heap_below BX1.out hb2)
  clear hb2
  obtain ⟨x2_0, x2_1, x2_2, x2_3, x2_4, x2_5⟩ := row6 BX1.out
  have hs := valid_any _ ta ca da w2 Fah.out (by omega) (by omega)
  rw [HV2.out] at hs
  have HS := Lib.hid hs; clear hs
  go_wp2_with fail
  clear x2_0 x2_1 x2_2 x2_3 x2_4 x2_5
  (with_reducible refine HS.out.mono ?_); rintro e w3 ⟨rfl, hb3⟩
  clear HS
  have HB3 := Lib.hid (HB2.out.step hb3)
  have Fa := Lib.hid (Fa.out.below hb3)
  have Fal := Lib.hid (Fal.out.below hb3)
  have Fah := Lib.hid (Fah.out.below hb3)
  have BX1 := Lib.hid (heap_below BX1.out hb3)
  clear hb3
  obtain ⟨x3_0, x3_1, x3_2, x3_3, x3_4, x3_5⟩ := row6 BX1.out
  obtain ⟨x4_0, x4_1, x4_2, x4_3, x4_4, x4_5⟩ := row6 BX1.out
  have hs := cmpq_any _ (rq sa aa ba) _ (rq ta ca da) w3 (Fal.out.is (by omega) (by omega)) (Fah.out.is (by omega) (by omega)) (by omega) (by omega)
  rw [← HN.out] at hs
  have HS := Lib.hid hs; clear hs
  go_wp2_with fail
  clear x3_0 x3_1 x3_2 x3_3 x3_4 x3_5 x4_0 x4_1 x4_2 x4_3 x4_4 x4_5
  (with_reducible refine HS.out.mono ?_); rintro e w4 ⟨rfl, hb4⟩
  clear HS
  have HB4 := Lib.hid (HB3.out.step hb4)
  have Fa := Lib.hid (Fa.out.below hb4)
  have Fal := Lib.hid (Fal.out.below hb4)
  have Fah := Lib.hid (Fah.out.below hb4)
  have BX1 := Lib.hid (heap_below BX1.out hb4)
  clear hb4
  go_wp2_with fail
  go_ret
  exact ⟨by first | rfl | (simp; done), HB4.out⟩
theorem svalid_any (va : Value) (sa : Bool) (aa ba : List Nat) (ta : Bool) (ca da : List Nat) (w : World) (ha : SpV w va sa aa ba ta ca da) (la : aa.length ≤ 40000) (lb : ba.length ≤ 40000) (lc : ca.length ≤ 40000) (ld : da.length ≤ 40000) :
    Calls Tryz.prog 17 #[va] w (RetV w (.bool (decide (Vld sa aa ba ∧ Vld ta ca da ∧ rq sa aa ba ≤ rq ta ca da)))) := by
  by_cases hv : Vld sa aa ba
  · by_cases hu : Vld ta ca da
    · exact svalid_3 va sa aa ba ta ca da w ha la lb lc ld hv hu
    · exact svalid_2 va sa aa ba ta ca da w ha la lb lc ld hv hu
  · exact svalid_1 va sa aa ba ta ca da w ha la lb lc ld hv
set_option maxRecDepth 100000 in
set_option maxHeartbeats 3200000 in
theorem rsvalid_1 (va : Value) (sa : Bool) (aa ba : List Nat) (ta : Bool) (ca da : List Nat) (w : World) (ha : SpV w va sa aa ba ta ca da) (la : aa.length ≤ 40000) (lb : ba.length ≤ 40000) (_lc : ca.length ≤ 40000) (_ld : da.length ≤ 40000) (hv : ¬ Vld sa aa ba) :
    Calls Tryz.prog 18 #[va] w (RetV w (.bool (decide (Vld sa aa ba ∧ Vld ta ca da ∧ rq sa aa ba ≤ rq ta ca da)))) := by
  have HBW := Lib.hid (Below.refl w.heap.size w)
  obtain ⟨qa, oa, na, ka, pa, ma, ra, qax, oax, nax, kax, pax, max, rax, rfl⟩ := ha.shape
  rw [show decide (Vld sa aa ba ∧ Vld ta ca da ∧ rq sa aa ba ≤ rq ta ca da) = false from decide_eq_false (fun k => hv k.1)]
  have HV1 := Lib.hid (decide_eq_false hv); clear hv
  have Fa := Lib.hid ha; clear ha
  have Fal := Lib.hid (spV_ends Fa.out).1; have Fah := Lib.hid (spV_ends Fa.out).2
  obtain ⟨w1, hw1⟩ : ∃ w1, w1 = w.alloc (.cells #[.bool qa, .slice oa na ka, .slice pa ma ra, .bool qax, .slice oax nax kax, .slice pax max rax] 26) := ⟨_, rfl⟩
  have hb1 : Below w.heap.size w w1 := by rw [hw1]; exact (Below.refl _ _).alloc (Nat.le_refl _) _
  have hx1 := heap_alloc_new w (.cells #[.bool qa, .slice oa na ka, .slice pa ma ra, .bool qax, .slice oax nax kax, .slice pax max rax] 26)
  obtain ⟨g1, hg1⟩ : ∃ g, g = w.heap.size := ⟨_, rfl⟩
  rw [← hw1, ← hg1] at hx1
  have lw1 : w.heap.size ≤ g1 := by rw [hg1]; exact HBW.out.size
  have HW1 := Lib.hid hw1; have HG1 := Lib.hid hg1; clear hw1 hg1
  have HB1 := Lib.hid (HBW.out.step hb1)
  have Fa := Lib.hid (Fa.out.below hb1)
  have Fal := Lib.hid (Fal.out.below hb1)
  have Fah := Lib.hid (Fah.out.below hb1)
  have BX1 := Lib.hid hx1; clear hb1 hx1
  go_enter Tryz.func18, Tryz.ntmps18
  obtain ⟨x1_0, x1_1, x1_2, x1_3, x1_4, x1_5⟩ := row6 BX1.out
  have hs := rvalid_any _ sa aa ba w1 Fal.out (by omega) (by omega)
  rw [HV1.out] at hs
  have HS := Lib.hid hs; clear hs
  try rw [HW1.out] at x1_0
  try rw [HG1.out] at x1_0
  try rw [HW1.out] at x1_1
  try rw [HG1.out] at x1_1
  try rw [HW1.out] at x1_2
  try rw [HG1.out] at x1_2
  try rw [HW1.out] at x1_3
  try rw [HG1.out] at x1_3
  try rw [HW1.out] at x1_4
  try rw [HG1.out] at x1_4
  try rw [HW1.out] at x1_5
  try rw [HG1.out] at x1_5
  go_wp2_with fail
  try rw [← HW1.out]
  try rw [← HG1.out]
  clear x1_0 x1_1 x1_2 x1_3 x1_4 x1_5
  (with_reducible refine HS.out.mono ?_); rintro e w2 ⟨rfl, hb2⟩
  clear HS
  have HB2 := Lib.hid (HB1.out.step hb2)
  have Fa := Lib.hid (Fa.out.below hb2)
  have Fal := Lib.hid (Fal.out.below hb2)
  have Fah := Lib.hid (Fah.out.below hb2)
  have BX1 := Lib.hid (heap_below BX1.out hb2)
  clear hb2
  go_wp2_with fail
  go_ret
  exact ⟨by first | rfl | (simp; done), HB2.out⟩
set_option maxRecDepth 100000 in
set_option maxHeartbeats 3200000 in
theorem rsvalid_2 (va : Value) (sa : Bool) (aa ba : List Nat) (ta : Bool) (ca da : List Nat) (w : World) (ha : SpV w va sa aa ba ta ca da) (la : aa.length ≤ 40000) (lb : ba.length ≤ 40000) (lc : ca.length ≤ 40000) (ld : da.length ≤ 40000) (hv : Vld sa aa ba) (hu : ¬ Vld ta ca da) :
    Calls Tryz.prog 18 #[va] w (RetV w (.bool (decide (Vld sa aa ba ∧ Vld ta ca da ∧ rq sa aa ba ≤ rq ta ca da)))) := by
  have HBW := Lib.hid (Below.refl w.heap.size w)
  obtain ⟨qa, oa, na, ka, pa, ma, ra, qax, oax, nax, kax, pax, max, rax, rfl⟩ := ha.shape
  rw [show decide (Vld sa aa ba ∧ Vld ta ca da ∧ rq sa aa ba ≤ rq ta ca da) = false from decide_eq_false (fun k => hu k.2.1)]
  have HV1 := Lib.hid (decide_eq_true hv); have HV2 := Lib.hid (decide_eq_false hu); clear hv hu
  have Fa := Lib.hid ha; clear ha
  have Fal := Lib.hid (spV_ends Fa.out).1; have Fah := Lib.hid (spV_ends Fa.out).2
  obtain ⟨w1, hw1⟩ : ∃ w1, w1 = w.alloc (.cells #[.bool qa, .slice oa na ka, .slice pa ma ra, .bool qax, .slice oax nax kax, .slice pax max rax] 26) := ⟨_, rfl⟩
  have hb1 : Below w.heap.size w w1 := by rw [hw1]; exact (Below.refl _ _).alloc (Nat.le_refl _) _
  have hx1 := heap_alloc_new w (.cells #[.bool qa, .slice oa na ka, .slice pa ma ra, .bool qax, .slice oax nax kax, .slice pax max rax] 26)
  obtain ⟨g1, hg1⟩ : ∃ g, g = w.heap.size := ⟨_, rfl⟩
  rw [← hw1, ← hg1] at hx1
  have lw1 : w.heap.size ≤ g1 := by rw [hg1]; exact HBW.out.size
  have HW1 := Lib.hid hw1; have HG1 := Lib.hid hg1; clear hw1 hg1
  have HB1 := Lib.hid (HBW.out.step hb1)
  have Fa := Lib.hid (Fa.out.below hb1)
  have Fal := Lib.hid (Fal.out.below hb1)
  have Fah := Lib.hid (Fah.out.below hb1)
  have BX1 := Lib.hid hx1; clear hb1 hx1
  go_enter Tryz.func18, Tryz.ntmps18
  obtain ⟨x1_0, x1_1, x1_2, x1_3, x1_4, x1_5⟩ := row6 BX1.out
  have hs := rvalid_any _ sa aa ba w1 Fal.out (by omega) (by omega)
  rw [HV1.out] at hs
  have HS := Lib.hid hs; clear hs
  try rw [HW1.out] at x1_0
  try rw [HG1.out] at x1_0
  try rw [HW1.out] at x1_1
  try rw [HG1.out] at x1_1
  try rw [HW1.out] at x1_2
  try rw [HG1.out] at x1_2
  try rw [HW1.out] at x1_3
  try rw [HG1.out] at x1_3
  try rw [HW1.out] at x1_4
  try rw [HG1.out] at x1_4
  try rw [HW1.out] at x1_5
  try rw [HG1.out] at x1_5
  go_wp2_with fail
  try rw [← HW1.out]
  try rw [← HG1.out]
  clear x1_0 x1_1 x1_2 x1_3 x1_4 x1_5
  (with_reducible refine HS.out.mono ?_); rintro e w2 ⟨rfl, hb2⟩
  clear HS
  have HB2 := Lib.hid (HB1.out.step hb2)
  have Fa := Lib.hid (Fa.out.below hb2)
  have Fal := Lib.hid (Fal.out.below hb2)
  have Fah := Lib.hid (Fah.out.below hb2)
  have BX1 := Lib.hid (heap_below BX1.out hb2)
  clear hb2
  obtain ⟨x2_0, x2_1, x2_2, x2_3, x2_4, x2_5⟩ := row6 BX1.out
  have hs := rvalid_any _ ta ca da w2 Fah.out (by omega) (by omega)
  rw [HV2.out] at hs
  have HS := Lib.hid hs; clear hs
  go_wp2_with fail
  clear x2_0 x2_1 x2_2 x2_3 x2_4 x2_5
  (with_reducible refine HS.out.mono ?_); rintro e w3 ⟨rfl, hb3⟩
  clear HS
  have HB3 := Lib.hid (HB2.out.step hb3)
  have Fa := Lib.hid (Fa.out.below hb3)
  have Fal := Lib.hid (Fal.out.below hb3)
  have Fah := Lib.hid (Fah.out.below hb3)
  have BX1 := Lib.hid (heap_below BX1.out hb3)
  clear hb3
  go_wp2_with fail
  go_ret
  exact ⟨by first | rfl | (simp; done), HB3.out⟩
set_option maxRecDepth 100000 in
set_option maxHeartbeats 3200000 in
theorem rsvalid_3 (va : Value) (sa : Bool) (aa ba : List Nat) (ta : Bool) (ca da : List Nat) (w : World) (ha : SpV w va sa aa ba ta ca da) (la : aa.length ≤ 40000) (lb : ba.length ≤ 40000) (lc : ca.length ≤ 40000) (ld : da.length ≤ 40000) (hv : Vld sa aa ba) (hu : Vld ta ca da) :
    Calls Tryz.prog 18 #[va] w (RetV w (.bool (decide (Vld sa aa ba ∧ Vld ta ca da ∧ rq sa aa ba ≤ rq ta ca da)))) := by
  have HBW := Lib.hid (Below.refl w.heap.size w)
  obtain ⟨qa, oa, na, ka, pa, ma, ra, qax, oax, nax, kax, pax, max, rax, rfl⟩ := ha.shape
  rw [show decide (Vld sa aa ba ∧ Vld ta ca da ∧ rq sa aa ba ≤ rq ta ca da) = decide (cq (rq sa aa ba) (rq ta ca da) ≤ 0) from by rw [decide_eq_decide, cq_le]; exact ⟨fun k => k.2.2, fun k => ⟨hv, hu, k⟩⟩]
  obtain ⟨n, hn⟩ : ∃ n, n = cq (rq sa aa ba) (rq ta ca da) := ⟨_, rfl⟩
  rw [← hn]; have HN := Lib.hid hn; clear hn
  have HV1 := Lib.hid (decide_eq_true hv); have HV2 := Lib.hid (decide_eq_true hu); clear hv hu
  have k1 : rl (rq sa aa ba) ≤ 40000 := rl_rq ha.lt.1.1 ha.lt.1.2 la lb (by decide); have k2 : rl (rq ta ca da) ≤ 40000 := rl_rq ha.lt.2.1 ha.lt.2.2 lc ld (by decide)
  have Fa := Lib.hid ha; clear ha
  have Fal := Lib.hid (spV_ends Fa.out).1; have Fah := Lib.hid (spV_ends Fa.out).2
  obtain ⟨w1, hw1⟩ : ∃ w1, w1 = w.alloc (.cells #[.bool qa, .slice oa na ka, .slice pa ma ra, .bool qax, .slice oax nax kax, .slice pax max rax] 26) := ⟨_, rfl⟩
  have hb1 : Below w.heap.size w w1 := by rw [hw1]; exact (Below.refl _ _).alloc (Nat.le_refl _) _
  have hx1 := heap_alloc_new w (.cells #[.bool qa, .slice oa na ka, .slice pa ma ra, .bool qax, .slice oax nax kax, .slice pax max rax] 26)
  obtain ⟨g1, hg1⟩ : ∃ g, g = w.heap.size := ⟨_, rfl⟩
  rw [← hw1, ← hg1] at hx1
  have lw1 : w.heap.size ≤ g1 := by rw [hg1]; exact HBW.out.size
  have HW1 := Lib.hid hw1; have HG1 := Lib.hid hg1; clear hw1 hg1
  have HB1 := Lib.hid (HBW.out.step hb1)
  have Fa := Lib.hid (Fa.out.below hb1)
  have Fal := Lib.hid (Fal.out.below hb1)
  have Fah := Lib.hid (Fah.out.below hb1)
  have BX1 := Lib.hid hx1; clear hb1 hx1
  go_enter Tryz.func18, Tryz.ntmps18
  obtain ⟨x1_0, x1_1, x1_2, x1_3, x1_4, x1_5⟩ := row6 BX1.out
  have hs := rvalid_any _ sa aa ba w1 Fal.out (by omega) (by omega)
  rw [HV1.out] at hs
  have HS := Lib.hid hs; clear hs
  try rw [HW1.out] at x1_0
  try rw [HG1.out] at x1_0
  try rw [HW1.out] at x1_1
  try rw [HG1.out] at x1_1
  try rw [HW1.out] at x1_2
  try rw [HG1.out] at x1_2
  try rw [HW1.out] at x1_3
  try rw [HG1.out] at x1_3
  try rw [HW1.out] at x1_4
  try rw [HG1.out] at x1_4
  try rw [HW1.out] at x1_5
  try rw [HG1.out] at x1_5
  go_wp2_with fail
  try rw [← HW1.out]
  try rw [← HG1.out]
  clear x1_0 x1_1 x1_2 x1_3 x1_4 x1_5
  (with_reducible refine HS.out.mono ?_); rintro e w2 ⟨rfl, hb2⟩
  clear HS
  have HB2 := Lib.hid (HB1.out.step hb2)
  have Fa := Lib.hid (Fa.out.below hb2)
  have Fal := Lib.hid (Fal.out.below hb2)
  have Fah := Lib.hid (Fah.out.below hb2)
  have BX1 := Lib.hid (heap_below BX1.out hb2)
  clear hb2
  obtain ⟨x2_0, x2_1, x2_2, x2_3, x2_4, x2_5⟩ := row6 BX1.out
  have hs := rvalid_any _ ta ca da w2 Fah.out (by omega) (by omega)
  rw [HV2.out] at hs
  have HS := Lib.hid hs; clear hs
  go_wp2_with fail
  clear x2_0 x2_1 x2_2 x2_3 x2_4 x2_5
  (with_reducible refine HS.out.mono ?_); rintro e w3 ⟨rfl, hb3⟩
  clear HS
  have HB3 := Lib.hid (HB2.out.step hb3)
  have Fa := Lib.hid (Fa.out.below hb3)
  have Fal := Lib.hid (Fal.out.below hb3)
  have Fah := Lib.hid (Fah.out.below hb3)
  have BX1 := Lib.hid (heap_below BX1.out hb3)
  clear hb3
  obtain ⟨x3_0, x3_1, x3_2, x3_3, x3_4, x3_5⟩ := row6 BX1.out
  obtain ⟨x4_0, x4_1, x4_2, x4_3, x4_4, x4_5⟩ := row6 BX1.out
  have hs := rcmpq_any _ (rq sa aa ba) _ (rq ta ca da) w3 (Fal.out.is (by omega) (by omega)) (Fah.out.is (by omega) (by omega)) (by omega) (by omega)
  rw [← HN.out] at hs
  have HS := Lib.hid hs; clear hs
  go_wp2_with fail
  clear x3_0 x3_1 x3_2 x3_3 x3_4 x3_5 x4_0 x4_1 x4_2 x4_3 x4_4 x4_5
  (with_reducible refine HS.out.mono ?_); rintro e w4 ⟨rfl, hb4⟩
  clear HS
  have HB4 := Lib.hid (HB3.out.step hb4)
  have Fa := Lib.hid (Fa.out.below hb4)
  have Fal := Lib.hid (Fal.out.below hb4)
  have Fah := Lib.hid (Fah.out.below hb4)
  have BX1 := Lib.hid (heap_below BX1.out hb4)
  clear hb4
  go_wp2_with fail
  go_ret
  exact ⟨by first | rfl | (simp; done), HB4.out⟩
theorem rsvalid_any (va : Value) (sa : Bool) (aa ba : List Nat) (ta : Bool) (ca da : List Nat) (w : World) (ha : SpV w va sa aa ba ta ca da) (la : aa.length ≤ 40000) (lb : ba.length ≤ 40000) (lc : ca.length ≤ 40000) (ld : da.length ≤ 40000) :
    Calls Tryz.prog 18 #[va] w (RetV w (.bool (decide (Vld sa aa ba ∧ Vld ta ca da ∧ rq sa aa ba ≤ rq ta ca da)))) := by
  by_cases hv : Vld sa aa ba
  · by_cases hu : Vld ta ca da
    · exact rsvalid_3 va sa aa ba ta ca da w ha la lb lc ld hv hu
    · exact rsvalid_2 va sa aa ba ta ca da w ha la lb lc ld hv hu
  · exact rsvalid_1 va sa aa ba ta ca da w ha la lb lc ld hv
end Go.Proofs.YtaefimegiobkmaaGreatDoor
/-
  Min, Max and the reference's: what they hand back.
  Conditions: each theorem's own.
-/
namespace Go.Proofs.YtaefimegiobkmaaGreatDoor
open Go.RowKit Go.ChangeShapes Go.WideShapes

theorem mx_neg (p q : Rat) : -(mn (-p) (-q)) = mx p q := by unfold mn mx; grind
set_option maxRecDepth 100000 in
set_option maxHeartbeats 3200000 in
theorem minq_a (vp : Value) (p : Rat) (vu : Value) (u : Rat) (w : World) (hp : RatIs w vp p) (hu : RatIs w vu u) (hp2 : rl p ≤ 40000) (hu2 : rl u ≤ 40000) (hc : p ≤ u) :
    Calls Tryz.prog 68 #[vp, vu] w (RetR w p) := by
  obtain ⟨sp, op, np, cp, ap, mp, dp, rfl⟩ := hp.shape
  have hlp := hp.rl
  obtain ⟨su, ou, nu, cu, au, mu, du, rfl⟩ := hu.shape
  have hlu := hu.rl
  have hb0 := ((((Below.refl w.heap.size w).alloc (by first | (simp; done) | (simp; omega)) (.cells #[.bool sp, .slice op np cp, .slice ap mp dp] 24)).alloc (by first | (simp; done) | (simp; omega)) (.cells #[.bool su, .slice ou nu cu, .slice au mu du] 24)).alloc (by first | (simp; done) | (simp; omega)) (.cells #[.bool false, .slice none 0 0, .slice none 0 0] 24))
  have hxp := nest3_0 w (.cells #[.bool sp, .slice op np cp, .slice ap mp dp] 24) (.cells #[.bool su, .slice ou nu cu, .slice au mu du] 24) (.cells #[.bool false, .slice none 0 0, .slice none 0 0] 24)
  have hxu := nest3_1 w (.cells #[.bool sp, .slice op np cp, .slice ap mp dp] 24) (.cells #[.bool su, .slice ou nu cu, .slice au mu du] 24) (.cells #[.bool false, .slice none 0 0, .slice none 0 0] 24)
  have hxR := nest3_2 w (.cells #[.bool sp, .slice op np cp, .slice ap mp dp] 24) (.cells #[.bool su, .slice ou nu cu, .slice au mu du] 24) (.cells #[.bool false, .slice none 0 0, .slice none 0 0] 24)
  have hpp := hp.below hb0
  have hpu := hu.below hb0
  obtain ⟨w0, hw0⟩ : ∃ w0, w0 = (((w.alloc (.cells #[.bool sp, .slice op np cp, .slice ap mp dp] 24)).alloc (.cells #[.bool su, .slice ou nu cu, .slice au mu du] 24)).alloc (.cells #[.bool false, .slice none 0 0, .slice none 0 0] 24)) := ⟨_, rfl⟩
  rw [← hw0] at hb0 hxp hxu hxR hpp hpu
  have HB0 := Lib.hid hb0; have HW0 := Lib.hid hw0
  have BXp := Lib.hid hxp
  have BXu := Lib.hid hxu
  have BXR := Lib.hid hxR
  have Fp := Lib.hid hpp
  have Fu := Lib.hid hpu
  clear hb0 hw0 hxp hxu hxR hpp hp hpu hu
  have hc2 : cq p u ≤ 0 := by rw [cq_le]; exact hc
  obtain ⟨n, hn⟩ : ∃ n, n = cq p u := ⟨_, rfl⟩
  rw [← hn] at hc2
  have f1 : decide (n ≤ 0) = true := decide_eq_true hc2
  have HN := Lib.hid hn; clear hn hc hc2
  go_enter Tryz.func68, Tryz.ntmps68
  have hs := cmpq_any _ p _ u w0 Fp.out Fu.out hp2 hu2
  rw [← HN.out] at hs
  have HS := Lib.hid hs; clear hs
  go_wp2_with fail
  rw [← HW0.out]
  (with_reducible refine HS.out.mono ?_); rintro e w1 ⟨rfl, hb1⟩
  clear HS
  have HB1 := Lib.hid (HB0.out.step hb1)
  have Fp := Lib.hid (Fp.out.below hb1)
  have Fu := Lib.hid (Fu.out.below hb1)
  have BXp := Lib.hid (heap_below BXp.out hb1)
  have BXu := Lib.hid (heap_below BXu.out hb1)
  have BXR := Lib.hid (heap_below BXR.out hb1)
  clear hb1
  have hs := same_any _ p w1 Fp.out
  have HS := Lib.hid hs; clear hs
  obtain ⟨ep0, ep1, ep2⟩ := row3 BXp.out
  go_wp2_with fail
  clear ep0 ep1 ep2
  (with_reducible refine HS.out.mono ?_); rintro e w2 ⟨v2, rfl, hb2, hn2⟩
  clear HS
  have HB2 := Lib.hid (HB1.out.step hb2)
  have Fp := Lib.hid (Fp.out.below hb2)
  have Fu := Lib.hid (Fu.out.below hb2)
  have BXp := Lib.hid (heap_below BXp.out hb2)
  have BXu := Lib.hid (heap_below BXu.out hb2)
  have BXR := Lib.hid (heap_below BXR.out hb2)
  have Q := Lib.hid hn2; clear hn2
  clear hb2
  obtain ⟨sQ, oQ, nQ, cQ, aQ, mQ, dQ, rfl⟩ := Q.out.shape
  obtain ⟨eR0, eR1, eR2⟩ := row3 BXR.out
  obtain ⟨fR0, fR1, fR2⟩ := froz3 BXR.out
  go_wp2_with fail
  clear eR0 eR1 eR2 fR0 fR1 fR2
  refine ret_rat rfl (w.heap.size + 2) _ _ _ rfl (put3_heap BXR.out) rfl ?_
  exact ⟨_, rfl, put3_below HB2.out (by omega) _ _ _, isR_put Q.out BXR.out⟩
set_option maxRecDepth 100000 in
set_option maxHeartbeats 3200000 in
theorem minq_b (vp : Value) (p : Rat) (vu : Value) (u : Rat) (w : World) (hp : RatIs w vp p) (hu : RatIs w vu u) (hp2 : rl p ≤ 40000) (hu2 : rl u ≤ 40000) (hc : ¬ p ≤ u) :
    Calls Tryz.prog 68 #[vp, vu] w (RetR w u) := by
  obtain ⟨sp, op, np, cp, ap, mp, dp, rfl⟩ := hp.shape
  have hlp := hp.rl
  obtain ⟨su, ou, nu, cu, au, mu, du, rfl⟩ := hu.shape
  have hlu := hu.rl
  have hb0 := ((((Below.refl w.heap.size w).alloc (by first | (simp; done) | (simp; omega)) (.cells #[.bool sp, .slice op np cp, .slice ap mp dp] 24)).alloc (by first | (simp; done) | (simp; omega)) (.cells #[.bool su, .slice ou nu cu, .slice au mu du] 24)).alloc (by first | (simp; done) | (simp; omega)) (.cells #[.bool false, .slice none 0 0, .slice none 0 0] 24))
  have hxp := nest3_0 w (.cells #[.bool sp, .slice op np cp, .slice ap mp dp] 24) (.cells #[.bool su, .slice ou nu cu, .slice au mu du] 24) (.cells #[.bool false, .slice none 0 0, .slice none 0 0] 24)
  have hxu := nest3_1 w (.cells #[.bool sp, .slice op np cp, .slice ap mp dp] 24) (.cells #[.bool su, .slice ou nu cu, .slice au mu du] 24) (.cells #[.bool false, .slice none 0 0, .slice none 0 0] 24)
  have hxR := nest3_2 w (.cells #[.bool sp, .slice op np cp, .slice ap mp dp] 24) (.cells #[.bool su, .slice ou nu cu, .slice au mu du] 24) (.cells #[.bool false, .slice none 0 0, .slice none 0 0] 24)
  have hpp := hp.below hb0
  have hpu := hu.below hb0
  obtain ⟨w0, hw0⟩ : ∃ w0, w0 = (((w.alloc (.cells #[.bool sp, .slice op np cp, .slice ap mp dp] 24)).alloc (.cells #[.bool su, .slice ou nu cu, .slice au mu du] 24)).alloc (.cells #[.bool false, .slice none 0 0, .slice none 0 0] 24)) := ⟨_, rfl⟩
  rw [← hw0] at hb0 hxp hxu hxR hpp hpu
  have HB0 := Lib.hid hb0; have HW0 := Lib.hid hw0
  have BXp := Lib.hid hxp
  have BXu := Lib.hid hxu
  have BXR := Lib.hid hxR
  have Fp := Lib.hid hpp
  have Fu := Lib.hid hpu
  clear hb0 hw0 hxp hxu hxR hpp hp hpu hu
  have hc2 : ¬ cq p u ≤ 0 := by rw [cq_le]; exact hc
  obtain ⟨n, hn⟩ : ∃ n, n = cq p u := ⟨_, rfl⟩
  rw [← hn] at hc2
  have f1 : decide (n ≤ 0) = false := decide_eq_false hc2
  have HN := Lib.hid hn; clear hn hc hc2
  go_enter Tryz.func68, Tryz.ntmps68
  have hs := cmpq_any _ p _ u w0 Fp.out Fu.out hp2 hu2
  rw [← HN.out] at hs
  have HS := Lib.hid hs; clear hs
  go_wp2_with fail
  rw [← HW0.out]
  (with_reducible refine HS.out.mono ?_); rintro e w1 ⟨rfl, hb1⟩
  clear HS
  have HB1 := Lib.hid (HB0.out.step hb1)
  have Fp := Lib.hid (Fp.out.below hb1)
  have Fu := Lib.hid (Fu.out.below hb1)
  have BXp := Lib.hid (heap_below BXp.out hb1)
  have BXu := Lib.hid (heap_below BXu.out hb1)
  have BXR := Lib.hid (heap_below BXR.out hb1)
  clear hb1
  have hs := same_any _ u w1 Fu.out
  have HS := Lib.hid hs; clear hs
  obtain ⟨eu0, eu1, eu2⟩ := row3 BXu.out
  go_wp2_with fail
  clear eu0 eu1 eu2
  (with_reducible refine HS.out.mono ?_); rintro e w2 ⟨v2, rfl, hb2, hn2⟩
  clear HS
  have HB2 := Lib.hid (HB1.out.step hb2)
  have Fp := Lib.hid (Fp.out.below hb2)
  have Fu := Lib.hid (Fu.out.below hb2)
  have BXp := Lib.hid (heap_below BXp.out hb2)
  have BXu := Lib.hid (heap_below BXu.out hb2)
  have BXR := Lib.hid (heap_below BXR.out hb2)
  have Q := Lib.hid hn2; clear hn2
  clear hb2
  obtain ⟨sQ, oQ, nQ, cQ, aQ, mQ, dQ, rfl⟩ := Q.out.shape
  obtain ⟨eR0, eR1, eR2⟩ := row3 BXR.out
  obtain ⟨fR0, fR1, fR2⟩ := froz3 BXR.out
  go_wp2_with fail
  clear eR0 eR1 eR2 fR0 fR1 fR2
  refine ret_rat rfl (w.heap.size + 2) _ _ _ rfl (put3_heap BXR.out) rfl ?_
  exact ⟨_, rfl, put3_below HB2.out (by omega) _ _ _, isR_put Q.out BXR.out⟩
theorem minq_any (vp : Value) (p : Rat) (vu : Value) (u : Rat) (w : World) (hp : RatIs w vp p) (hu : RatIs w vu u) (hlp2 : rl p ≤ 40000) (hlu2 : rl u ≤ 40000) :
    Calls Tryz.prog 68 #[vp, vu] w (RetR w (mn p u)) := by
  unfold mn
  by_cases h : p ≤ u
  · rw [if_pos h]; exact minq_a vp p vu u w hp hu hlp2 hlu2 h
  · rw [if_neg h]; exact minq_b vp p vu u w hp hu hlp2 hlu2 h
set_option maxRecDepth 100000 in
set_option maxHeartbeats 3200000 in
theorem maxq_a (vp : Value) (p : Rat) (vu : Value) (u : Rat) (w : World) (hp : RatIs w vp p) (hu : RatIs w vu u) (hp2 : rl p ≤ 40000) (hu2 : rl u ≤ 40000) (hc : u ≤ p) :
    Calls Tryz.prog 67 #[vp, vu] w (RetR w p) := by
  obtain ⟨sp, op, np, cp, ap, mp, dp, rfl⟩ := hp.shape
  have hlp := hp.rl
  obtain ⟨su, ou, nu, cu, au, mu, du, rfl⟩ := hu.shape
  have hlu := hu.rl
  have hb0 := ((((Below.refl w.heap.size w).alloc (by first | (simp; done) | (simp; omega)) (.cells #[.bool sp, .slice op np cp, .slice ap mp dp] 24)).alloc (by first | (simp; done) | (simp; omega)) (.cells #[.bool su, .slice ou nu cu, .slice au mu du] 24)).alloc (by first | (simp; done) | (simp; omega)) (.cells #[.bool false, .slice none 0 0, .slice none 0 0] 24))
  have hxp := nest3_0 w (.cells #[.bool sp, .slice op np cp, .slice ap mp dp] 24) (.cells #[.bool su, .slice ou nu cu, .slice au mu du] 24) (.cells #[.bool false, .slice none 0 0, .slice none 0 0] 24)
  have hxu := nest3_1 w (.cells #[.bool sp, .slice op np cp, .slice ap mp dp] 24) (.cells #[.bool su, .slice ou nu cu, .slice au mu du] 24) (.cells #[.bool false, .slice none 0 0, .slice none 0 0] 24)
  have hxR := nest3_2 w (.cells #[.bool sp, .slice op np cp, .slice ap mp dp] 24) (.cells #[.bool su, .slice ou nu cu, .slice au mu du] 24) (.cells #[.bool false, .slice none 0 0, .slice none 0 0] 24)
  have hpp := hp.below hb0
  have hpu := hu.below hb0
  obtain ⟨w0, hw0⟩ : ∃ w0, w0 = (((w.alloc (.cells #[.bool sp, .slice op np cp, .slice ap mp dp] 24)).alloc (.cells #[.bool su, .slice ou nu cu, .slice au mu du] 24)).alloc (.cells #[.bool false, .slice none 0 0, .slice none 0 0] 24)) := ⟨_, rfl⟩
  rw [← hw0] at hb0 hxp hxu hxR hpp hpu
  have HB0 := Lib.hid hb0; have HW0 := Lib.hid hw0
  have BXp := Lib.hid hxp
  have BXu := Lib.hid hxu
  have BXR := Lib.hid hxR
  have Fp := Lib.hid hpp
  have Fu := Lib.hid hpu
  clear hb0 hw0 hxp hxu hxR hpp hp hpu hu
  have hc2 : 0 ≤ cq p u := by rw [cq_ge]; exact hc
  obtain ⟨n, hn⟩ : ∃ n, n = cq p u := ⟨_, rfl⟩
  rw [← hn] at hc2
  have f1 : decide (0 ≤ n) = true := decide_eq_true hc2
  have HN := Lib.hid hn; clear hn hc hc2
  go_enter Tryz.func67, Tryz.ntmps67
  have hs := cmpq_any _ p _ u w0 Fp.out Fu.out hp2 hu2
  rw [← HN.out] at hs
  have HS := Lib.hid hs; clear hs
  go_wp2_with fail
  rw [← HW0.out]
  (with_reducible refine HS.out.mono ?_); rintro e w1 ⟨rfl, hb1⟩
  clear HS
  have HB1 := Lib.hid (HB0.out.step hb1)
  have Fp := Lib.hid (Fp.out.below hb1)
  have Fu := Lib.hid (Fu.out.below hb1)
  have BXp := Lib.hid (heap_below BXp.out hb1)
  have BXu := Lib.hid (heap_below BXu.out hb1)
  have BXR := Lib.hid (heap_below BXR.out hb1)
  clear hb1
  have hs := same_any _ p w1 Fp.out
  have HS := Lib.hid hs; clear hs
  obtain ⟨ep0, ep1, ep2⟩ := row3 BXp.out
  go_wp2_with fail
  clear ep0 ep1 ep2
  (with_reducible refine HS.out.mono ?_); rintro e w2 ⟨v2, rfl, hb2, hn2⟩
  clear HS
  have HB2 := Lib.hid (HB1.out.step hb2)
  have Fp := Lib.hid (Fp.out.below hb2)
  have Fu := Lib.hid (Fu.out.below hb2)
  have BXp := Lib.hid (heap_below BXp.out hb2)
  have BXu := Lib.hid (heap_below BXu.out hb2)
  have BXR := Lib.hid (heap_below BXR.out hb2)
  have Q := Lib.hid hn2; clear hn2
  clear hb2
  obtain ⟨sQ, oQ, nQ, cQ, aQ, mQ, dQ, rfl⟩ := Q.out.shape
  obtain ⟨eR0, eR1, eR2⟩ := row3 BXR.out
  obtain ⟨fR0, fR1, fR2⟩ := froz3 BXR.out
  go_wp2_with fail
  clear eR0 eR1 eR2 fR0 fR1 fR2
  refine ret_rat rfl (w.heap.size + 2) _ _ _ rfl (put3_heap BXR.out) rfl ?_
  exact ⟨_, rfl, put3_below HB2.out (by omega) _ _ _, isR_put Q.out BXR.out⟩
set_option maxRecDepth 100000 in
set_option maxHeartbeats 3200000 in
theorem maxq_b (vp : Value) (p : Rat) (vu : Value) (u : Rat) (w : World) (hp : RatIs w vp p) (hu : RatIs w vu u) (hp2 : rl p ≤ 40000) (hu2 : rl u ≤ 40000) (hc : ¬ u ≤ p) :
    Calls Tryz.prog 67 #[vp, vu] w (RetR w u) := by
  obtain ⟨sp, op, np, cp, ap, mp, dp, rfl⟩ := hp.shape
  have hlp := hp.rl
  obtain ⟨su, ou, nu, cu, au, mu, du, rfl⟩ := hu.shape
  have hlu := hu.rl
  have hb0 := ((((Below.refl w.heap.size w).alloc (by first | (simp; done) | (simp; omega)) (.cells #[.bool sp, .slice op np cp, .slice ap mp dp] 24)).alloc (by first | (simp; done) | (simp; omega)) (.cells #[.bool su, .slice ou nu cu, .slice au mu du] 24)).alloc (by first | (simp; done) | (simp; omega)) (.cells #[.bool false, .slice none 0 0, .slice none 0 0] 24))
  have hxp := nest3_0 w (.cells #[.bool sp, .slice op np cp, .slice ap mp dp] 24) (.cells #[.bool su, .slice ou nu cu, .slice au mu du] 24) (.cells #[.bool false, .slice none 0 0, .slice none 0 0] 24)
  have hxu := nest3_1 w (.cells #[.bool sp, .slice op np cp, .slice ap mp dp] 24) (.cells #[.bool su, .slice ou nu cu, .slice au mu du] 24) (.cells #[.bool false, .slice none 0 0, .slice none 0 0] 24)
  have hxR := nest3_2 w (.cells #[.bool sp, .slice op np cp, .slice ap mp dp] 24) (.cells #[.bool su, .slice ou nu cu, .slice au mu du] 24) (.cells #[.bool false, .slice none 0 0, .slice none 0 0] 24)
  have hpp := hp.below hb0
  have hpu := hu.below hb0
  obtain ⟨w0, hw0⟩ : ∃ w0, w0 = (((w.alloc (.cells #[.bool sp, .slice op np cp, .slice ap mp dp] 24)).alloc (.cells #[.bool su, .slice ou nu cu, .slice au mu du] 24)).alloc (.cells #[.bool false, .slice none 0 0, .slice none 0 0] 24)) := ⟨_, rfl⟩
  rw [← hw0] at hb0 hxp hxu hxR hpp hpu
  have HB0 := Lib.hid hb0; have HW0 := Lib.hid hw0
  have BXp := Lib.hid hxp
  have BXu := Lib.hid hxu
  have BXR := Lib.hid hxR
  have Fp := Lib.hid hpp
  have Fu := Lib.hid hpu
  clear hb0 hw0 hxp hxu hxR hpp hp hpu hu
  have hc2 : ¬ 0 ≤ cq p u := by rw [cq_ge]; exact hc
  obtain ⟨n, hn⟩ : ∃ n, n = cq p u := ⟨_, rfl⟩
  rw [← hn] at hc2
  have f1 : decide (0 ≤ n) = false := decide_eq_false hc2
  have HN := Lib.hid hn; clear hn hc hc2
  go_enter Tryz.func67, Tryz.ntmps67
  have hs := cmpq_any _ p _ u w0 Fp.out Fu.out hp2 hu2
  rw [← HN.out] at hs
  have HS := Lib.hid hs; clear hs
  go_wp2_with fail
  rw [← HW0.out]
  (with_reducible refine HS.out.mono ?_); rintro e w1 ⟨rfl, hb1⟩
  clear HS
  have HB1 := Lib.hid (HB0.out.step hb1)
  have Fp := Lib.hid (Fp.out.below hb1)
  have Fu := Lib.hid (Fu.out.below hb1)
  have BXp := Lib.hid (heap_below BXp.out hb1)
  have BXu := Lib.hid (heap_below BXu.out hb1)
  have BXR := Lib.hid (heap_below BXR.out hb1)
  clear hb1
  have hs := same_any _ u w1 Fu.out
  have HS := Lib.hid hs; clear hs
  obtain ⟨eu0, eu1, eu2⟩ := row3 BXu.out
  go_wp2_with fail
  clear eu0 eu1 eu2
  (with_reducible refine HS.out.mono ?_); rintro e w2 ⟨v2, rfl, hb2, hn2⟩
  clear HS
  have HB2 := Lib.hid (HB1.out.step hb2)
  have Fp := Lib.hid (Fp.out.below hb2)
  have Fu := Lib.hid (Fu.out.below hb2)
  have BXp := Lib.hid (heap_below BXp.out hb2)
  have BXu := Lib.hid (heap_below BXu.out hb2)
  have BXR := Lib.hid (heap_below BXR.out hb2)
  have Q := Lib.hid hn2; clear hn2
  clear hb2
  obtain ⟨sQ, oQ, nQ, cQ, aQ, mQ, dQ, rfl⟩ := Q.out.shape
  obtain ⟨eR0, eR1, eR2⟩ := row3 BXR.out
  obtain ⟨fR0, fR1, fR2⟩ := froz3 BXR.out
  go_wp2_with fail
  clear eR0 eR1 eR2 fR0 fR1 fR2
  refine ret_rat rfl (w.heap.size + 2) _ _ _ rfl (put3_heap BXR.out) rfl ?_
  exact ⟨_, rfl, put3_below HB2.out (by omega) _ _ _, isR_put Q.out BXR.out⟩
theorem maxq_any (vp : Value) (p : Rat) (vu : Value) (u : Rat) (w : World) (hp : RatIs w vp p) (hu : RatIs w vu u) (hlp2 : rl p ≤ 40000) (hlu2 : rl u ≤ 40000) :
    Calls Tryz.prog 67 #[vp, vu] w (RetR w (mx p u)) := by
  unfold mx
  by_cases h : u ≤ p
  · rw [if_pos h]; exact maxq_a vp p vu u w hp hu hlp2 hlu2 h
  · rw [if_neg h]; exact maxq_b vp p vu u w hp hu hlp2 hlu2 h
set_option maxRecDepth 100000 in
set_option maxHeartbeats 3200000 in
theorem rminq_a (vp : Value) (p : Rat) (vu : Value) (u : Rat) (w : World) (hp : RatIs w vp p) (hu : RatIs w vu u) (hp2 : rl p ≤ 40000) (hu2 : rl u ≤ 40000) (hc : p ≤ u) :
    Calls Tryz.prog 70 #[vp, vu] w (RetR w p) := by
  obtain ⟨sp, op, np, cp, ap, mp, dp, rfl⟩ := hp.shape
  have hlp := hp.rl
  obtain ⟨su, ou, nu, cu, au, mu, du, rfl⟩ := hu.shape
  have hlu := hu.rl
  have hb0 := ((((Below.refl w.heap.size w).alloc (by first | (simp; done) | (simp; omega)) (.cells #[.bool sp, .slice op np cp, .slice ap mp dp] 24)).alloc (by first | (simp; done) | (simp; omega)) (.cells #[.bool su, .slice ou nu cu, .slice au mu du] 24)).alloc (by first | (simp; done) | (simp; omega)) (.cells #[.bool false, .slice none 0 0, .slice none 0 0] 24))
  have hxp := nest3_0 w (.cells #[.bool sp, .slice op np cp, .slice ap mp dp] 24) (.cells #[.bool su, .slice ou nu cu, .slice au mu du] 24) (.cells #[.bool false, .slice none 0 0, .slice none 0 0] 24)
  have hxu := nest3_1 w (.cells #[.bool sp, .slice op np cp, .slice ap mp dp] 24) (.cells #[.bool su, .slice ou nu cu, .slice au mu du] 24) (.cells #[.bool false, .slice none 0 0, .slice none 0 0] 24)
  have hxR := nest3_2 w (.cells #[.bool sp, .slice op np cp, .slice ap mp dp] 24) (.cells #[.bool su, .slice ou nu cu, .slice au mu du] 24) (.cells #[.bool false, .slice none 0 0, .slice none 0 0] 24)
  have hpp := hp.below hb0
  have hpu := hu.below hb0
  obtain ⟨w0, hw0⟩ : ∃ w0, w0 = (((w.alloc (.cells #[.bool sp, .slice op np cp, .slice ap mp dp] 24)).alloc (.cells #[.bool su, .slice ou nu cu, .slice au mu du] 24)).alloc (.cells #[.bool false, .slice none 0 0, .slice none 0 0] 24)) := ⟨_, rfl⟩
  rw [← hw0] at hb0 hxp hxu hxR hpp hpu
  have HB0 := Lib.hid hb0; have HW0 := Lib.hid hw0
  have BXp := Lib.hid hxp
  have BXu := Lib.hid hxu
  have BXR := Lib.hid hxR
  have Fp := Lib.hid hpp
  have Fu := Lib.hid hpu
  clear hb0 hw0 hxp hxu hxR hpp hp hpu hu
  have hc2 : ¬ 0 < cq p u := by rw [cq_gt]; grind
  obtain ⟨n, hn⟩ : ∃ n, n = cq p u := ⟨_, rfl⟩
  rw [← hn] at hc2
  have f1 : decide (0 < n) = false := decide_eq_false hc2
  have HN := Lib.hid hn; clear hn hc hc2
  go_enter Tryz.func70, Tryz.ntmps70
  have hs := rcmpq_any _ p _ u w0 Fp.out Fu.out hp2 hu2
  rw [← HN.out] at hs
  have HS := Lib.hid hs; clear hs
  go_wp2_with fail
  rw [← HW0.out]
  (with_reducible refine HS.out.mono ?_); rintro e w1 ⟨rfl, hb1⟩
  clear HS
  have HB1 := Lib.hid (HB0.out.step hb1)
  have Fp := Lib.hid (Fp.out.below hb1)
  have Fu := Lib.hid (Fu.out.below hb1)
  have BXp := Lib.hid (heap_below BXp.out hb1)
  have BXu := Lib.hid (heap_below BXu.out hb1)
  have BXR := Lib.hid (heap_below BXR.out hb1)
  clear hb1
  have hs := raddq_any _ p _ 0 w1 Fp.out ((isR_zero w1).is (by rw [rl_zero]; decide))
  rw [Rat.add_zero] at hs
  have HS := Lib.hid hs; clear hs
  obtain ⟨ep0, ep1, ep2⟩ := row3 BXp.out
  go_wp2_with fail
  clear ep0 ep1 ep2
  (with_reducible refine HS.out.mono ?_); rintro e w2 ⟨v2, rfl, hb2, hn2⟩
  clear HS
  have HB2 := Lib.hid (HB1.out.step hb2)
  have Fp := Lib.hid (Fp.out.below hb2)
  have Fu := Lib.hid (Fu.out.below hb2)
  have BXp := Lib.hid (heap_below BXp.out hb2)
  have BXu := Lib.hid (heap_below BXu.out hb2)
  have BXR := Lib.hid (heap_below BXR.out hb2)
  have Q := Lib.hid hn2; clear hn2
  clear hb2
  obtain ⟨sQ, oQ, nQ, cQ, aQ, mQ, dQ, rfl⟩ := Q.out.shape
  obtain ⟨eR0, eR1, eR2⟩ := row3 BXR.out
  obtain ⟨fR0, fR1, fR2⟩ := froz3 BXR.out
  go_wp2_with fail
  clear eR0 eR1 eR2 fR0 fR1 fR2
  refine ret_rat rfl (w.heap.size + 2) _ _ _ rfl (put3_heap BXR.out) rfl ?_
  exact ⟨_, rfl, put3_below HB2.out (by omega) _ _ _, isR_put Q.out BXR.out⟩
set_option maxRecDepth 100000 in
set_option maxHeartbeats 3200000 in
theorem rminq_b (vp : Value) (p : Rat) (vu : Value) (u : Rat) (w : World) (hp : RatIs w vp p) (hu : RatIs w vu u) (hp2 : rl p ≤ 40000) (hu2 : rl u ≤ 40000) (hc : ¬ p ≤ u) :
    Calls Tryz.prog 70 #[vp, vu] w (RetR w u) := by
  obtain ⟨sp, op, np, cp, ap, mp, dp, rfl⟩ := hp.shape
  have hlp := hp.rl
  obtain ⟨su, ou, nu, cu, au, mu, du, rfl⟩ := hu.shape
  have hlu := hu.rl
  have hb0 := ((((Below.refl w.heap.size w).alloc (by first | (simp; done) | (simp; omega)) (.cells #[.bool sp, .slice op np cp, .slice ap mp dp] 24)).alloc (by first | (simp; done) | (simp; omega)) (.cells #[.bool su, .slice ou nu cu, .slice au mu du] 24)).alloc (by first | (simp; done) | (simp; omega)) (.cells #[.bool false, .slice none 0 0, .slice none 0 0] 24))
  have hxp := nest3_0 w (.cells #[.bool sp, .slice op np cp, .slice ap mp dp] 24) (.cells #[.bool su, .slice ou nu cu, .slice au mu du] 24) (.cells #[.bool false, .slice none 0 0, .slice none 0 0] 24)
  have hxu := nest3_1 w (.cells #[.bool sp, .slice op np cp, .slice ap mp dp] 24) (.cells #[.bool su, .slice ou nu cu, .slice au mu du] 24) (.cells #[.bool false, .slice none 0 0, .slice none 0 0] 24)
  have hxR := nest3_2 w (.cells #[.bool sp, .slice op np cp, .slice ap mp dp] 24) (.cells #[.bool su, .slice ou nu cu, .slice au mu du] 24) (.cells #[.bool false, .slice none 0 0, .slice none 0 0] 24)
  have hpp := hp.below hb0
  have hpu := hu.below hb0
  obtain ⟨w0, hw0⟩ : ∃ w0, w0 = (((w.alloc (.cells #[.bool sp, .slice op np cp, .slice ap mp dp] 24)).alloc (.cells #[.bool su, .slice ou nu cu, .slice au mu du] 24)).alloc (.cells #[.bool false, .slice none 0 0, .slice none 0 0] 24)) := ⟨_, rfl⟩
  rw [← hw0] at hb0 hxp hxu hxR hpp hpu
  have HB0 := Lib.hid hb0; have HW0 := Lib.hid hw0
  have BXp := Lib.hid hxp
  have BXu := Lib.hid hxu
  have BXR := Lib.hid hxR
  have Fp := Lib.hid hpp
  have Fu := Lib.hid hpu
  clear hb0 hw0 hxp hxu hxR hpp hp hpu hu
  have hc2 : 0 < cq p u := by rw [cq_gt]; grind
  obtain ⟨n, hn⟩ : ∃ n, n = cq p u := ⟨_, rfl⟩
  rw [← hn] at hc2
  have f1 : decide (0 < n) = true := decide_eq_true hc2
  have HN := Lib.hid hn; clear hn hc hc2
  go_enter Tryz.func70, Tryz.ntmps70
  have hs := rcmpq_any _ p _ u w0 Fp.out Fu.out hp2 hu2
  rw [← HN.out] at hs
  have HS := Lib.hid hs; clear hs
  go_wp2_with fail
  rw [← HW0.out]
  (with_reducible refine HS.out.mono ?_); rintro e w1 ⟨rfl, hb1⟩
  clear HS
  have HB1 := Lib.hid (HB0.out.step hb1)
  have Fp := Lib.hid (Fp.out.below hb1)
  have Fu := Lib.hid (Fu.out.below hb1)
  have BXp := Lib.hid (heap_below BXp.out hb1)
  have BXu := Lib.hid (heap_below BXu.out hb1)
  have BXR := Lib.hid (heap_below BXR.out hb1)
  clear hb1
  obtain ⟨eu0, eu1, eu2⟩ := row3 BXu.out
  have lwp := below_lt BXp.out; have lwu := below_lt BXu.out; have lwR := below_lt BXR.out
  obtain ⟨ep0, ep1, ep2⟩ := row3 BXp.out
  obtain ⟨fp0, fp1, fp2⟩ := froz3 BXp.out
  obtain ⟨w2, hw2⟩ : ∃ w2, w2 = ((w1.setCell ⟨w.heap.size, 0, none⟩ (.bool su)).setCell ⟨w.heap.size, 1, none⟩ (.slice ou nu cu)).setCell ⟨w.heap.size, 2, none⟩ (.slice au mu du) := ⟨_, rfl⟩
  have hp2 : w2 = put3 w1 (w.heap.size) (.bool su) (.slice ou nu cu) (.slice au mu du) := hw2
  first | have Fp := Lib.hid (putkI hp2 Fp.out BXp.out) | have Fp := Lib.hid (putkR hp2 Fp.out BXp.out) | have Fp := Lib.hid (putkV hp2 Fp.out BXp.out)
  first | have Fu := Lib.hid (putkI hp2 Fu.out BXp.out) | have Fu := Lib.hid (putkR hp2 Fu.out BXp.out) | have Fu := Lib.hid (putkV hp2 Fu.out BXp.out)
  have nxp : w2.heap[w.heap.size]? = some (.cells #[.bool su, .slice ou nu cu, .slice au mu du] 24) := by rw [hp2]; exact put3_heap BXp.out
  have BXu := Lib.hid (putx hp2 BXu.out (by first | omega | (have := below_lt BXu.out; omega)))
  have BXR := Lib.hid (putx hp2 BXR.out (by first | omega | (have := below_lt BXR.out; omega)))
  have BXp := Lib.hid nxp; clear nxp
  have HB2 := Lib.hid (putb hp2 HB1.out (by omega))
  have HW2 := Lib.hid hw2; clear hw2 hp2
  have hs := raddq_any _ u _ 0 w2 Fu.out ((isR_zero w2).is (by rw [rl_zero]; decide))
  rw [Rat.add_zero] at hs
  have HS := Lib.hid hs; clear hs
  go_wp2_with fail
  rw [← HW2.out]
  clear eu0 eu1 eu2 ep0 ep1 ep2 fp0 fp1 fp2
  (with_reducible refine HS.out.mono ?_); rintro e w3 ⟨v3, rfl, hb3, hn3⟩
  clear HS
  have HB3 := Lib.hid (HB2.out.step hb3)
  have Fp := Lib.hid (Fp.out.below hb3)
  have Fu := Lib.hid (Fu.out.below hb3)
  have BXp := Lib.hid (heap_below BXp.out hb3)
  have BXu := Lib.hid (heap_below BXu.out hb3)
  have BXR := Lib.hid (heap_below BXR.out hb3)
  have Q := Lib.hid hn3; clear hn3
  clear hb3
  obtain ⟨sQ, oQ, nQ, cQ, aQ, mQ, dQ, rfl⟩ := Q.out.shape
  obtain ⟨eR0, eR1, eR2⟩ := row3 BXR.out
  obtain ⟨fR0, fR1, fR2⟩ := froz3 BXR.out
  go_wp2_with fail
  clear eR0 eR1 eR2 fR0 fR1 fR2
  refine ret_rat rfl (w.heap.size + 2) _ _ _ rfl (put3_heap BXR.out) rfl ?_
  exact ⟨_, rfl, put3_below HB3.out (by omega) _ _ _, isR_put Q.out BXR.out⟩
theorem rminq_any (vp : Value) (p : Rat) (vu : Value) (u : Rat) (w : World) (hp : RatIs w vp p) (hu : RatIs w vu u) (hlp2 : rl p ≤ 40000) (hlu2 : rl u ≤ 40000) :
    Calls Tryz.prog 70 #[vp, vu] w (RetR w (mn p u)) := by
  unfold mn
  by_cases h : p ≤ u
  · rw [if_pos h]; exact rminq_a vp p vu u w hp hu hlp2 hlu2 h
  · rw [if_neg h]; exact rminq_b vp p vu u w hp hu hlp2 hlu2 h
set_option maxRecDepth 100000 in
set_option maxHeartbeats 3200000 in
theorem rmaxq_any (vp : Value) (p : Rat) (vu : Value) (u : Rat) (w : World) (hp : RatIs w vp p) (hu : RatIs w vu u) (hp2 : rl p ≤ 40000) (hu2 : rl u ≤ 40000) :
    Calls Tryz.prog 69 #[vp, vu] w (RetR w (mx p u)) := by
  obtain ⟨sp, op, np, cp, ap, mp, dp, rfl⟩ := hp.shape
  have hlp := hp.rl
  obtain ⟨su, ou, nu, cu, au, mu, du, rfl⟩ := hu.shape
  have hlu := hu.rl
  have hb0 := ((((Below.refl w.heap.size w).alloc (by first | (simp; done) | (simp; omega)) (.cells #[.bool sp, .slice op np cp, .slice ap mp dp] 24)).alloc (by first | (simp; done) | (simp; omega)) (.cells #[.bool su, .slice ou nu cu, .slice au mu du] 24)).alloc (by first | (simp; done) | (simp; omega)) (.cells #[.bool false, .slice none 0 0, .slice none 0 0] 24))
  have hxp := nest3_0 w (.cells #[.bool sp, .slice op np cp, .slice ap mp dp] 24) (.cells #[.bool su, .slice ou nu cu, .slice au mu du] 24) (.cells #[.bool false, .slice none 0 0, .slice none 0 0] 24)
  have hxu := nest3_1 w (.cells #[.bool sp, .slice op np cp, .slice ap mp dp] 24) (.cells #[.bool su, .slice ou nu cu, .slice au mu du] 24) (.cells #[.bool false, .slice none 0 0, .slice none 0 0] 24)
  have hxR := nest3_2 w (.cells #[.bool sp, .slice op np cp, .slice ap mp dp] 24) (.cells #[.bool su, .slice ou nu cu, .slice au mu du] 24) (.cells #[.bool false, .slice none 0 0, .slice none 0 0] 24)
  have hpp := hp.below hb0
  have hpu := hu.below hb0
  obtain ⟨w0, hw0⟩ : ∃ w0, w0 = (((w.alloc (.cells #[.bool sp, .slice op np cp, .slice ap mp dp] 24)).alloc (.cells #[.bool su, .slice ou nu cu, .slice au mu du] 24)).alloc (.cells #[.bool false, .slice none 0 0, .slice none 0 0] 24)) := ⟨_, rfl⟩
  rw [← hw0] at hb0 hxp hxu hxR hpp hpu
  have HB0 := Lib.hid hb0; have HW0 := Lib.hid hw0
  have BXp := Lib.hid hxp
  have BXu := Lib.hid hxu
  have BXR := Lib.hid hxR
  have Fp := Lib.hid hpp
  have Fu := Lib.hid hpu
  clear hb0 hw0 hxp hxu hxR hpp hp hpu hu
  have k1 := rl_neg p; have k2 := rl_neg u; have k3 := rl_mn (-p) (-u)
  have hm := mx_neg p u
  obtain ⟨M, hM⟩ : ∃ M, M = mx p u := ⟨_, rfl⟩
  rw [← hM] at hm ⊢; have HM := Lib.hid hm; clear hm hM
  go_enter Tryz.func69, Tryz.ntmps69
  go_wp2_with fail
  rw [← HW0.out]
  have lwp := below_lt BXp.out
  have lwu := below_lt BXu.out
  have lwR := below_lt BXR.out
  refine wp_region_facts (A := ?aa0) (w := w0) 6 [] (by kernel_rfl) (Fl [KEq (.agg #[.bool sp, .slice op np cp, .slice ap mp dp]), KIs (-p), KEq (.agg #[.bool su, .slice ou nu cu, .slice au mu du]), KIs (-u), KIs (mn (-p) (-u)), KIs (M)]) (fun i => false) (by kernel_rfl) (fun _ _ _ _ _ h => h) (monoL (monoC (kEq _) (monoC (kIs _) (monoC (kEq _) (monoC (kIs _) (monoC (kIs _) (monoC (kIs _) monoN))))))) ?ha0 ?st0 ?tl0
  case ha0 =>
    intro vals
    simp only [putsTo, dstOf, if_true, Act.put, List.setIfInBounds_toArray, List.set_cons_zero, List.set_cons_succ, List.getElem?_toArray, List.getElem?_cons_zero, List.getElem?_cons_succ, Option.bind_some]
    exact rfl
  case st0 =>
    simp only [List.take_succ_cons, List.take_zero]
    refine stepsOK_cons rfl rfl ?_ (stepsOK_cons rfl rfl ?_ (stepsOK_cons rfl rfl ?_ (stepsOK_cons rfl rfl ?_ (stepsOK_cons rfl rfl ?_ (stepsOK_cons rfl rfl ?_ (stepsOK_nil))))))
    · intro vals w1 hb hd
      obtain ⟨e0, e1, e2⟩ := row3 (heap_below BXp.out hb)
      refine stepOK_value (v := .agg #[.bool sp, .slice op np cp, .slice ap mp dp]) (w' := w1) (by go_simp) (leaves_mk (Below.refl _ _) rfl (fun h => by cases h))
    · intro vals w1 hb hd
      have d0 : KEq (.agg #[.bool sp, .slice op np cp, .slice ap mp dp]) (vals 0) w1 := hd 0 (by kernel_rfl)
      have r0 : RatIs w1 (vals 0) (p) := by rw [show vals 0 = _ from d0]; exact Fp.out.below hb
      have hs := rneg_any _ p w1 r0
      have HS := Lib.hid hs; clear hs
      clear d0 hd
      refine stepOK_call (by go_simp; first | done | exact ⟨⟨rfl, rfl⟩, rfl⟩) ?_
      (with_reducible refine HS.out.mono ?_); rintro e w2 ⟨v, rfl, hb2, hn⟩
      exact ⟨v, rfl, leaves_mk hb2 hn (fun h => by cases h)⟩
    · intro vals w1 hb hd
      obtain ⟨e0, e1, e2⟩ := row3 (heap_below BXu.out hb)
      refine stepOK_value (v := .agg #[.bool su, .slice ou nu cu, .slice au mu du]) (w' := w1) (by go_simp) (leaves_mk (Below.refl _ _) rfl (fun h => by cases h))
    · intro vals w1 hb hd
      have d2 : KEq (.agg #[.bool su, .slice ou nu cu, .slice au mu du]) (vals 2) w1 := hd 2 (by kernel_rfl)
      have r2 : RatIs w1 (vals 2) (u) := by rw [show vals 2 = _ from d2]; exact Fu.out.below hb
      have hs := rneg_any _ u w1 r2
      have HS := Lib.hid hs; clear hs
      clear d2 hd
      refine stepOK_call (by go_simp; first | done | exact ⟨⟨rfl, rfl⟩, rfl⟩) ?_
      (with_reducible refine HS.out.mono ?_); rintro e w2 ⟨v, rfl, hb2, hn⟩
      exact ⟨v, rfl, leaves_mk hb2 hn (fun h => by cases h)⟩
    · intro vals w1 hb hd
      have d1 : KIs (-p) (vals 1) w1 := hd 1 (by kernel_rfl)
      have r1 : RatIs w1 (vals 1) (-p) := IsR.is d1 (by omega)
      have d3 : KIs (-u) (vals 3) w1 := hd 3 (by kernel_rfl)
      have r3 : RatIs w1 (vals 3) (-u) := IsR.is d3 (by omega)
      have hs := rminq_any _ (-p) _ (-u) w1 r1 r3 (by omega) (by omega)
      have HS := Lib.hid hs; clear hs
      clear d1 d3 hd
      refine stepOK_call (by go_simp; first | done | exact ⟨⟨rfl, rfl⟩, rfl⟩) ?_
      (with_reducible refine HS.out.mono ?_); rintro e w2 ⟨v, rfl, hb2, hn⟩
      exact ⟨v, rfl, leaves_mk hb2 hn (fun h => by cases h)⟩
    · intro vals w1 hb hd
      have d4 : KIs (mn (-p) (-u)) (vals 4) w1 := hd 4 (by kernel_rfl)
      have r4 : RatIs w1 (vals 4) (mn (-p) (-u)) := IsR.is d4 (by omega)
      have hs := rneg_any _ (mn (-p) (-u)) w1 r4
      rw [HM.out] at hs
      have HS := Lib.hid hs; clear hs
      clear d4 hd
      refine stepOK_call (by go_simp; first | done | exact ⟨⟨rfl, rfl⟩, rfl⟩) ?_
      (with_reducible refine HS.out.mono ?_); rintro e w2 ⟨v, rfl, hb2, hn⟩
      exact ⟨v, rfl, leaves_mk hb2 hn (fun h => by cases h)⟩
  case tl0 =>
    intro vals w1 hb1 hf hdis
    simp only [List.drop_succ_cons, List.drop_zero]
    have hnQ : IsR w1 (vals 5) (M) := hf 5 (by decide)
    clear hf hdis
    have HB1 := Lib.hid (HB0.out.step hb1)
    have Fp := Lib.hid (Fp.out.below hb1)
    have Fu := Lib.hid (Fu.out.below hb1)
    have BXp := Lib.hid (heap_below BXp.out hb1)
    have BXu := Lib.hid (heap_below BXu.out hb1)
    have BXR := Lib.hid (heap_below BXR.out hb1)
    obtain ⟨uQ, huQ⟩ : ∃ u, u = vals 5 := ⟨_, rfl⟩
    rw [← huQ] at hnQ ⊢; clear huQ
    have Q := Lib.hid hnQ; clear hnQ
    obtain ⟨sQ, oQ, nQ, cQ, aQ, mQ, dQ, rfl⟩ := Q.out.shape
    clear hb1
    obtain ⟨eR0, eR1, eR2⟩ := row3 BXR.out
    obtain ⟨fR0, fR1, fR2⟩ := froz3 BXR.out
    obtain ⟨w2, hw2⟩ : ∃ w2, w2 = ((w1.setCell ⟨(w.heap.size + 2), 0, none⟩ (.bool sQ)).setCell ⟨(w.heap.size + 2), 1, none⟩ (.slice oQ nQ cQ)).setCell ⟨(w.heap.size + 2), 2, none⟩ (.slice aQ mQ dQ) := ⟨_, rfl⟩
    have hp2 : w2 = put3 w1 ((w.heap.size + 2)) (.bool sQ) (.slice oQ nQ cQ) (.slice aQ mQ dQ) := hw2
    first | have Fp := Lib.hid (putkI hp2 Fp.out BXR.out) | have Fp := Lib.hid (putkR hp2 Fp.out BXR.out) | have Fp := Lib.hid (putkV hp2 Fp.out BXR.out)
    first | have Fu := Lib.hid (putkI hp2 Fu.out BXR.out) | have Fu := Lib.hid (putkR hp2 Fu.out BXR.out) | have Fu := Lib.hid (putkV hp2 Fu.out BXR.out)
    first | have Q := Lib.hid (putkI hp2 Q.out BXR.out) | have Q := Lib.hid (putkR hp2 Q.out BXR.out) | have Q := Lib.hid (putkV hp2 Q.out BXR.out)
    have BXp := Lib.hid (putx hp2 BXp.out (by first | omega | (have := below_lt BXp.out; omega)))
    have BXu := Lib.hid (putx hp2 BXu.out (by first | omega | (have := below_lt BXu.out; omega)))
    have nxR : w2.heap[(w.heap.size + 2)]? = some (.cells #[.bool sQ, .slice oQ nQ cQ, .slice aQ mQ dQ] 24) := by rw [hp2]; exact put3_heap BXR.out
    have BXR := Lib.hid nxR; clear nxR
    have HB2 := Lib.hid (putb hp2 HB1.out (by omega))
    have HW2 := Lib.hid hw2; clear hw2 hp2
    go_wp2_with fail
    rw [← HW2.out]
    clear eR0 eR1 eR2 fR0 fR1 fR2
    refine ret_rat rfl (w.heap.size + 2) _ _ _ rfl BXR.out rfl ?_
    exact ⟨_, rfl, HB2.out, Q.out⟩
end Go.Proofs.YtaefimegiobkmaaGreatDoor
/-
  Stores of several cells, one operation at a time: the walk stands before a store, the store's law names the world behind it.
  Conditions: each theorem's own.
-/
namespace Go.Proofs.YtaefimegiobkmaaGreatDoor
open Go.RowKit Go.ChangeShapes Go.WideShapes

/-- the walk stands here -/
def Pause (p : Prop) : Prop := p
theorem Pause.mk {p : Prop} (h : p) : Pause p := h
theorem wpList_pauseS {P : Program} {ops : Array Oper} {rest : List Oper} {a : Act} {w : World} {Q : Exit → Act → World → Prop} {d : Option Tmp} {ty tt : TypeId} {x y : Operand} {pos : String} {af : Array Edge}
    (h : Pause (wpList P ops Q (⟨d, .store ty x y, tt, pos, af, none⟩ :: rest) a w)) : wpList P ops Q (⟨d, .store ty x y, tt, pos, af, none⟩ :: rest) a w := h
theorem putL_eq : ∀ (l : List Value) (w : World) (g off : Nat), w.setCells g off l = putL w g off l
  | [], _, _, _ => rfl
  | x :: l, w, g, off => by unfold putL World.setCells; exact putL_eq l _ _ _
theorem there_row {w : World} {g : Nat} {cs : Array Value} {T : TypeId} (h : w.heap[g]? = some (.cells cs T)) {off n : Nat} (hn : off + n ≤ cs.size) : w.there g off n := by
  intro j hj
  refine ⟨?_, ?_⟩
  · rw [cell_of_row w g (off + j) cs T (0, 0) h, Array.getElem?_eq_getElem (show off + j < cs.size by omega)]; rfl
  · simp [World.frozen?, h]
theorem wpList_stL {P : Program} {ops : Array Oper} {rest : List Oper} {a : Act} {w : World} {Q : Exit → Act → World → Prop} {ty tt : TypeId} {x y : Operand} {pos : String} {af : Array Edge}
    (g off : Nat) (l : List Value) {cs : Array Value} {T : TypeId} (hg : w.heap[g]? = some (.cells cs T)) (hx : a.eval x = .pointer (some ⟨g, off, none⟩)) (hy : a.eval y = .agg l.toArray)
    (hle : off + l.length ≤ cs.size) (hi : (P.info? ty).map (·.size) = some l.length) (h1 : l.all (fun v => v.oneCell') = true) (hK : ∀ w', w' = putL w g off l → wpList P ops Q rest a w') :
    Pause (wpList P ops Q (⟨none, .store ty x y, tt, pos, af, none⟩ :: rest) a w) := by
  refine wpList_store_mid rfl ty x y rfl g off l.toArray hx hy (there_row hg (by simpa using hle)) (by simpa using hi) (all_oneCell_toArray (fun v hv => List.all_eq_true.1 h1 v hv)) ?_
  exact hK _ (putL_eq _ _ _ _)
theorem pauseCall {P : Program} {f : FuncId} {args : Array Value} {w : World} {R : Ending → World → Prop} (h : Pause (Calls P f args w R)) : Calls P f args w R := h
theorem pauseLoop {P : Program} {b : Code} {Q : Exit → Act → World → Prop} {a : Act} {w : World} (h : Pause (Code.wp P (.loop b) Q a w)) : Code.wp P (.loop b) Q a w := h
theorem pauseDraw {P : Program} {n : Nat} {ops : Array Oper} {Q : Exit → Act → World → Prop} {a : Act} {w : World} (h : Pause (Code.wp P (.region n ops true) Q a w)) : Code.wp P (.region n ops true) Q a w := h
theorem pauseBody {P : Program} {fn : Func} {R : Ending → World → Prop} {x : Exit} {a : Act} {w : World} (h : Pause (bodyPost P fn R x a w)) : bodyPost P fn R x a w := h
theorem pauseRounds {P : Program} {b : Code} {Q : Exit → Act → World → Prop} {n : Nat} {a : Act} {w : World} (h : Pause (Code.rounds P b Q n a w)) : Code.rounds P b Q n a w := h
end Go.Proofs.YtaefimegiobkmaaGreatDoor
/-
  span.of: the least interval around some numbers.
  Conditions: each theorem's own.
-/
namespace Go.Proofs.YtaefimegiobkmaaGreatDoor
open Go.RowKit Go.ChangeShapes Go.WideShapes

/-- the least, the greatest of some numbers: the first one, then those from place s on -/
def amn (q : Nat → Rat) (s : Nat) : Nat → Rat
  | 0 => q 0
  | k + 1 => mn (amn q s k) (q (k + s))
def amx (q : Nat → Rat) (s : Nat) : Nat → Rat
  | 0 => q 0
  | k + 1 => mx (amx q s k) (q (k + s))
theorem rl_am {q : Nat → Rat} {s m b : Nat} (h0 : rl (q 0) ≤ b) (h : ∀ j, j < m → rl (q (j + s)) ≤ b) : ∀ k, k ≤ m → rl (amn q s k) ≤ b ∧ rl (amx q s k) ≤ b := by
  intro k
  induction k with
  | zero => intro _; exact ⟨h0, h0⟩
  | succ k ih =>
    intro hk
    obtain ⟨i1, i2⟩ := ih (by omega)
    have h1 := rl_mn (amn q s k) (q (k + s)); have h2 := rl_mx (amx q s k) (q (k + s)); have h3 := h k (by omega)
    simp only [amn, amx]; omega
theorem cells3 {w w' : World} {g a b c : Nat} {x y z : Value} (hb : Below w.heap.size w w') (hg : g < w.heap.size) (h : w.cell? ⟨g, a, none⟩ = some x ∧ w.cell? ⟨g, b, none⟩ = some y ∧ w.cell? ⟨g, c, none⟩ = some z) :
    w'.cell? ⟨g, a, none⟩ = some x ∧ w'.cell? ⟨g, b, none⟩ = some y ∧ w'.cell? ⟨g, c, none⟩ = some z :=
  ⟨(hb.cell (p := ⟨g, a, none⟩) hg).trans h.1, (hb.cell (p := ⟨g, b, none⟩) hg).trans h.2.1, (hb.cell (p := ⟨g, c, none⟩) hg).trans h.2.2⟩
/-- a list of n fractions in memory, each with at most b words -/
def RatsAt (w : World) (g n b : Nat) (q : Nat → Rat) : Prop := ∀ j, j < n → ∃ s o k c a p d, (w.cell? ⟨g, j * 3, none⟩ = some (.bool s) ∧ w.cell? ⟨g, j * 3 + 1, none⟩ = some (.slice o k c) ∧ w.cell? ⟨g, j * 3 + 2, none⟩ = some (.slice a p d)) ∧ RatIs w (.agg #[.bool s, .slice o k c, .slice a p d]) (q j) ∧ rl (q j) ≤ b
set_option maxRecDepth 100000 in
set_option maxHeartbeats 6400000 in
theorem listOf_any {g m : Nat} (q : Nat → Rat) (w : World) (hm : m ≤ 1000) (hm0 : 0 < m) (hg : g < w.heap.size) (hV : RatsAt w g (m + 1) 40000 q) :
    Calls Tryz.prog 48 #[.slice (some ⟨g, 0, none⟩) (m + 1) (m + 1)] w (RetSp w (amn q 1 m, amx q 1 m)) := by
  have HBW := Lib.hid (Below.refl w.heap.size w)
  obtain ⟨t0, o0, n0, c0, a0, p0, d0, hC0, hF0, hL0⟩ := hV 0 (by omega)
  have hAm := rl_am (q := q) (s := 1) (m := m) (b := 40000) hL0 (fun j hj => by obtain ⟨_, _, _, _, _, _, _, _, _, h⟩ := hV (j + 1) (by omega); exact h)
  have HAM := Lib.hid hAm; have HV := Lib.hid hV; clear hAm hV
  have C0 := Lib.hid (show w.cell? ⟨g, 0, none⟩ = _ ∧ w.cell? ⟨g, 1, none⟩ = _ ∧ w.cell? ⟨g, 2, none⟩ = _ from by simpa using hC0); clear hC0
  have F0 := Lib.hid hF0; clear hF0
  have fm0 : (m = 0) = False := eq_false (by omega)
  have fl0 : decide ((0 : Int) < (((m + 1) : Nat) : Int)) = true := decide_eq_true (by omega)
  obtain ⟨w1, hw1⟩ : ∃ w1, w1 = w.alloc (.cells #[.bool false, .slice none 0 0, .slice none 0 0, .bool false, .slice none 0 0, .slice none 0 0] 26) := ⟨_, rfl⟩
  have hb1 : Below w.heap.size w w1 := by rw [hw1]; exact (Below.refl _ _).alloc (Nat.le_refl _) _
  have hx1 := heap_alloc_new w (.cells #[.bool false, .slice none 0 0, .slice none 0 0, .bool false, .slice none 0 0, .slice none 0 0] 26)
  obtain ⟨g1, hg1⟩ : ∃ g, g = w.heap.size := ⟨_, rfl⟩
  rw [← hw1, ← hg1] at hx1
  have lw1 : w.heap.size ≤ g1 := by rw [hg1]; exact HBW.out.size
  have HW1 := Lib.hid hw1; have HG1 := Lib.hid hg1; clear hw1 hg1
  have HB1 := Lib.hid (HBW.out.step hb1)
  have F0 := Lib.hid (F0.out.below hb1)
  have BX1 := Lib.hid hx1; clear hb1 hx1
  go_enter Tryz.func48, Tryz.ntmps48
  go_wp2_with (with_reducible first | refine pauseCall ?_ | refine pauseLoop ?_ | refine pauseDraw ?_ | refine pauseBody ?_ | refine pauseRounds ?_)
  try rw [← HW1.out]
  try rw [← HG1.out]
  refine Pause.mk ?_
  have k1 := rl_mn (q 0) (q 0)
  have k2 := rl_mx (q 0) (q 0)
  refine wp_region_facts (A := ?aa3) (w := w1) 16 [] (by kernel_rfl) (Fl [KEq (.slice (some ⟨g, 0, none⟩) (m + 1) (m + 1)), KEq (.pointer (some ⟨g, 0, none⟩)), KEq (.agg #[.bool t0, .slice o0 n0 c0, .slice a0 p0 d0]), KEq (.slice (some ⟨g, 0, none⟩) (m + 1) (m + 1)), KEq (.pointer (some ⟨g, 0, none⟩)), KEq (.agg #[.bool t0, .slice o0 n0 c0, .slice a0 p0 d0]), KIs (mn (q 0) (q 0)), KEq (.slice (some ⟨g, 0, none⟩) (m + 1) (m + 1)), KEq (.pointer (some ⟨g, 0, none⟩)), KEq (.agg #[.bool t0, .slice o0 n0 c0, .slice a0 p0 d0]), KEq (.slice (some ⟨g, 0, none⟩) (m + 1) (m + 1)), KEq (.pointer (some ⟨g, 0, none⟩)), KEq (.agg #[.bool t0, .slice o0 n0 c0, .slice a0 p0 d0]), KIs (mx (q 0) (q 0)), KSp ((mn (q 0) (q 0), mx (q 0) (q 0))), KNew w1.heap.size #[.bool false, .slice none 0 0, .slice none 0 0, .bool false, .slice none 0 0, .slice none 0 0] 26]) (fun i => i == 15) (by kernel_rfl) ?hq3 (monoL (monoC (kEq _) (monoC (kEq _) (monoC (kEq _) (monoC (kEq _) (monoC (kEq _) (monoC (kEq _) (monoC (kIs _) (monoC (kEq _) (monoC (kEq _) (monoC (kEq _) (monoC (kEq _) (monoC (kEq _) (monoC (kEq _) (monoC (kIs _) (monoC (kSp _) (monoC (kNew _ _ _) monoN))))))))))))))))) ?ha3 ?st3 ?tl3
  case hq3 =>
    intro c a d v w h
    first | (simp only [Exit.then] at h ⊢; exact h) | (simp only [Exit.inBlock, Exit.then] at h ⊢; exact h) | exact h
  case ha3 =>
    intro vals
    simp only [putsTo, dstOf, if_true, Act.put, List.setIfInBounds_toArray, List.set_cons_zero, List.set_cons_succ, List.getElem?_toArray, List.getElem?_cons_zero, List.getElem?_cons_succ, Option.bind_some]
    exact rfl
  case st3 =>
    simp only [List.take_succ_cons, List.take_zero]
    refine stepsOK_cons rfl rfl ?_ (stepsOK_cons rfl rfl ?_ (stepsOK_cons rfl rfl ?_ (stepsOK_cons rfl rfl ?_ (stepsOK_cons rfl rfl ?_ (stepsOK_cons rfl rfl ?_ (stepsOK_cons rfl rfl ?_ (stepsOK_cons rfl rfl ?_ (stepsOK_cons rfl rfl ?_ (stepsOK_cons rfl rfl ?_ (stepsOK_cons rfl rfl ?_ (stepsOK_cons rfl rfl ?_ (stepsOK_cons rfl rfl ?_ (stepsOK_cons rfl rfl ?_ (stepsOK_cons rfl rfl ?_ (stepsOK_cons rfl rfl ?_ (stepsOK_nil))))))))))))))))
    · intro vals w1 hb hd
      refine stepOK_value (v := (.slice (some ⟨g, 0, none⟩) (m + 1) (m + 1))) (w' := w1) (by go_simp) (leaves_mk (Below.refl _ _) rfl (fun h => by cases h))
    · intro vals w1 hb hd
      have d0 : KEq (.slice (some ⟨g, 0, none⟩) (m + 1) (m + 1)) (vals 0) w1 := hd 0 (by kernel_rfl)
      rw [show vals 0 = _ from d0]
      refine stepOK_value (v := (.pointer (some ⟨g, 0, none⟩))) (w' := w1) (by go_simp) (leaves_mk (Below.refl _ _) rfl (fun h => by cases h))
    · intro vals w1 hb hd
      have d1 : KEq (.pointer (some ⟨g, 0, none⟩)) (vals 1) w1 := hd 1 (by kernel_rfl)
      rw [show vals 1 = _ from d1]
      obtain ⟨e0, e1, e2⟩ := cells3 (HB1.out.step hb) hg C0.out
      refine stepOK_value (v := .agg #[.bool t0, .slice o0 n0 c0, .slice a0 p0 d0]) (w' := w1) (by go_simp) (leaves_mk (Below.refl _ _) rfl (fun h => by cases h))
    · intro vals w1 hb hd
      refine stepOK_value (v := (.slice (some ⟨g, 0, none⟩) (m + 1) (m + 1))) (w' := w1) (by go_simp) (leaves_mk (Below.refl _ _) rfl (fun h => by cases h))
    · intro vals w1 hb hd
      have d3 : KEq (.slice (some ⟨g, 0, none⟩) (m + 1) (m + 1)) (vals 3) w1 := hd 3 (by kernel_rfl)
      rw [show vals 3 = _ from d3]
      refine stepOK_value (v := (.pointer (some ⟨g, 0, none⟩))) (w' := w1) (by go_simp) (leaves_mk (Below.refl _ _) rfl (fun h => by cases h))
    · intro vals w1 hb hd
      have d4 : KEq (.pointer (some ⟨g, 0, none⟩)) (vals 4) w1 := hd 4 (by kernel_rfl)
      rw [show vals 4 = _ from d4]
      obtain ⟨e0, e1, e2⟩ := cells3 (HB1.out.step hb) hg C0.out
      refine stepOK_value (v := .agg #[.bool t0, .slice o0 n0 c0, .slice a0 p0 d0]) (w' := w1) (by go_simp) (leaves_mk (Below.refl _ _) rfl (fun h => by cases h))
    · intro vals w1 hb hd
      have d2 : KEq (.agg #[.bool t0, .slice o0 n0 c0, .slice a0 p0 d0]) (vals 2) w1 := hd 2 (by kernel_rfl)
      have d5 : KEq (.agg #[.bool t0, .slice o0 n0 c0, .slice a0 p0 d0]) (vals 5) w1 := hd 5 (by kernel_rfl)
      have z2 : vals 2 = _ := d2
      have z5 : vals 5 = _ := d5
      have hs := minq_any _ (q 0) _ (q 0) w1 (F0.out.below hb) (F0.out.below hb) (by omega) (by omega)
      have HS := Lib.hid hs; clear hs
      rw [z2]; clear z2
      rw [z5]; clear z5
      clear d2 d5 hd
      refine stepOK_call (by go_simp; first | done | exact ⟨⟨rfl, rfl⟩, rfl⟩) ?_
      (with_reducible refine HS.out.mono ?_); rintro e w2 ⟨v, rfl, hb2, hn⟩
      exact ⟨v, rfl, leaves_mk hb2 hn (fun h => by cases h)⟩
    · intro vals w1 hb hd
      refine stepOK_value (v := (.slice (some ⟨g, 0, none⟩) (m + 1) (m + 1))) (w' := w1) (by go_simp) (leaves_mk (Below.refl _ _) rfl (fun h => by cases h))
    · intro vals w1 hb hd
      have d7 : KEq (.slice (some ⟨g, 0, none⟩) (m + 1) (m + 1)) (vals 7) w1 := hd 7 (by kernel_rfl)
      rw [show vals 7 = _ from d7]
      refine stepOK_value (v := (.pointer (some ⟨g, 0, none⟩))) (w' := w1) (by go_simp) (leaves_mk (Below.refl _ _) rfl (fun h => by cases h))
    · intro vals w1 hb hd
      have d8 : KEq (.pointer (some ⟨g, 0, none⟩)) (vals 8) w1 := hd 8 (by kernel_rfl)
      rw [show vals 8 = _ from d8]
      obtain ⟨e0, e1, e2⟩ := cells3 (HB1.out.step hb) hg C0.out
      refine stepOK_value (v := .agg #[.bool t0, .slice o0 n0 c0, .slice a0 p0 d0]) (w' := w1) (by go_simp) (leaves_mk (Below.refl _ _) rfl (fun h => by cases h))
    · intro vals w1 hb hd
      refine stepOK_value (v := (.slice (some ⟨g, 0, none⟩) (m + 1) (m + 1))) (w' := w1) (by go_simp) (leaves_mk (Below.refl _ _) rfl (fun h => by cases h))
    · intro vals w1 hb hd
      have d10 : KEq (.slice (some ⟨g, 0, none⟩) (m + 1) (m + 1)) (vals 10) w1 := hd 10 (by kernel_rfl)
      rw [show vals 10 = _ from d10]
      refine stepOK_value (v := (.pointer (some ⟨g, 0, none⟩))) (w' := w1) (by go_simp) (leaves_mk (Below.refl _ _) rfl (fun h => by cases h))
    · intro vals w1 hb hd
      have d11 : KEq (.pointer (some ⟨g, 0, none⟩)) (vals 11) w1 := hd 11 (by kernel_rfl)
      rw [show vals 11 = _ from d11]
      obtain ⟨e0, e1, e2⟩ := cells3 (HB1.out.step hb) hg C0.out
      refine stepOK_value (v := .agg #[.bool t0, .slice o0 n0 c0, .slice a0 p0 d0]) (w' := w1) (by go_simp) (leaves_mk (Below.refl _ _) rfl (fun h => by cases h))
    · intro vals w1 hb hd
      have d9 : KEq (.agg #[.bool t0, .slice o0 n0 c0, .slice a0 p0 d0]) (vals 9) w1 := hd 9 (by kernel_rfl)
      have d12 : KEq (.agg #[.bool t0, .slice o0 n0 c0, .slice a0 p0 d0]) (vals 12) w1 := hd 12 (by kernel_rfl)
      have z9 : vals 9 = _ := d9
      have z12 : vals 12 = _ := d12
      have hs := maxq_any _ (q 0) _ (q 0) w1 (F0.out.below hb) (F0.out.below hb) (by omega) (by omega)
      have HS := Lib.hid hs; clear hs
      rw [z9]; clear z9
      rw [z12]; clear z12
      clear d9 d12 hd
      refine stepOK_call (by go_simp; first | done | exact ⟨⟨rfl, rfl⟩, rfl⟩) ?_
      (with_reducible refine HS.out.mono ?_); rintro e w2 ⟨v, rfl, hb2, hn⟩
      exact ⟨v, rfl, leaves_mk hb2 hn (fun h => by cases h)⟩
    · intro vals w1 hb hd
      have d6 : KIs (mn (q 0) (q 0)) (vals 6) w1 := hd 6 (by kernel_rfl)
      have R6 : Hid (IsR w1 (vals 6) (mn (q 0) (q 0))) := Lib.hid d6
      have d13 : KIs (mx (q 0) (q 0)) (vals 13) w1 := hd 13 (by kernel_rfl)
      have R13 : Hid (IsR w1 (vals 13) (mx (q 0) (q 0))) := Lib.hid d13
      obtain ⟨sx, ox, nx, cx, ax, mx, ex, zx⟩ := R6.out.shape
      have qx := R6.out; rw [zx] at qx; rw [zx]
      obtain ⟨sy, oy, ny, cy, ay, my, ey, zy⟩ := R13.out.shape
      have qy := R13.out; rw [zy] at qy; rw [zy]
      refine stepOK_value (v := .agg #[.bool sx, .slice ox nx cx, .slice ax mx ex, .bool sy, .slice oy ny cy, .slice ay my ey]) (w' := w1) (by go_simp) (leaves_mk (Below.refl _ _) (isSp_of qx qy) (fun h => by cases h))
    · intro vals w1 hb hd
      refine stepOK_value (v := .pointer (some ⟨w1.heap.size, 0, none⟩)) (w' := w1.alloc (.cells #[.bool false, .slice none 0 0, .slice none 0 0, .bool false, .slice none 0 0, .slice none 0 0] 26)) (by go_simp) (leaves_mk ((Below.refl _ _).alloc (Nat.le_refl _) _) ⟨_, hb.size, rfl, heap_alloc_new _ _⟩ (fun _ => ⟨rfl, by simp⟩))
  case tl3 =>
    intro vals w2 hb2 hf hdis
    simp only [List.drop_succ_cons, List.drop_zero]
    obtain ⟨u3_14, hu14⟩ : ∃ u, u = vals 14 := ⟨_, rfl⟩
    have hn3_14 : IsSp w2 (vals 14) ((mn (q 0) (q 0), mx (q 0) (q 0))) := hf 14 (by decide)
    rw [← hu14] at hn3_14 ⊢; clear hu14
    obtain ⟨g3_15, hg3_15, ev15, hz3_15⟩ : KNew w1.heap.size #[.bool false, .slice none 0 0, .slice none 0 0, .bool false, .slice none 0 0, .slice none 0 0] 26 (vals 15) w2 := hf 15 (by decide)
    have eq15 := ev15
    rw [ev15]; clear ev15
    have lw3_15 : w.heap.size ≤ g3_15 := Nat.le_trans HB1.out.size hg3_15
    have ltBX13_15 : g1 < g3_15 := Nat.lt_of_lt_of_le (below_lt BX1.out) hg3_15
    clear hf hdis eq15
    have HB2 := Lib.hid (HB1.out.step hb2)
    have F0 := Lib.hid (F0.out.below hb2)
    have BX1 := Lib.hid (heap_below BX1.out hb2)
    clear hb2
    have BX3_15 := Lib.hid hz3_15; clear hz3_15 hg3_15
    have N3_14 := Lib.hid hn3_14; clear hn3_14
    obtain ⟨s4, o4, n4, c4, a4, m4, d4, s4x, o4x, n4x, c4x, a4x, m4x, d4x, rfl⟩ := N3_14.out.shape
    have N3_14l := Lib.hid (show IsR _ _ (mn (q 0) (q 0)) from (isSp_ends N3_14.out).1); have N3_14h := Lib.hid (show IsR _ _ (mx (q 0) (q 0)) from (isSp_ends N3_14.out).2)
    skip
    go_wp2_with (with_reducible refine wpList_pauseS ?_)
    refine wpList_stL g3_15 0 [.bool s4, .slice o4 n4 c4, .slice a4 m4 d4, .bool s4x, .slice o4x n4x c4x, .slice a4x m4x d4x] BX3_15.out rfl rfl (Nat.le_of_ble_eq_true rfl) (by kernel_rfl) rfl ?_
    intro w3 hp3
    have F0 := Lib.hid (putL_R hp3 F0.out BX3_15.out noW6)
    have N3_14 := Lib.hid (putL_SI hp3 N3_14.out BX3_15.out noW6)
    have N3_14l := Lib.hid (putL_I hp3 N3_14l.out BX3_15.out noW6)
    have N3_14h := Lib.hid (putL_I hp3 N3_14h.out BX3_15.out noW6)
    have BX1 := Lib.hid (putLx hp3 BX1.out (by omega))
    have nx3 : w3.heap[g3_15]? = some (.cells #[.bool s4, .slice o4 n4 c4, .slice a4 m4 d4, .bool s4x, .slice o4x n4x c4x, .slice a4x m4x d4x] 26) := by rw [hp3]; exact putL_6 BX3_15.out
    have BX3_15 := Lib.hid nx3; clear nx3
    have HB3 := Lib.hid (putLb hp3 HB2.out (by omega))
    clear hp3
    go_wp2_with (with_reducible first | refine pauseCall ?_ | refine pauseLoop ?_ | refine pauseDraw ?_ | refine pauseBody ?_ | refine pauseRounds ?_)
    refine Pause.mk ?_
    have hN := N3_14.out
    rw [mn_self, mx_self] at hN
    have HN := Lib.hid hN; clear hN
    go_loopw [24] (fun kv wr => ∃ (k : Nat) (s1 : Bool) (o1 : Option Addr) (n1 c1 : Nat) (a1 : Option Addr) (p1 d1 : Nat) (s2 : Bool) (o2 : Option Addr) (n2 c2 : Nat) (a2 : Option Addr) (p2 d2 : Nat), k ≤ m ∧ kv = .int .i64 k ∧ Hid (wr.heap[g3_15]? = some (.cells #[.bool s1, .slice o1 n1 c1, .slice a1 p1 d1, .bool s2, .slice o2 n2 c2, .slice a2 p2 d2] 26)) ∧ IsSp wr (.agg #[.bool s1, .slice o1 n1 c1, .slice a1 p1 d1, .bool s2, .slice o2 n2 c2, .slice a2 p2 d2]) (amn q 1 k, amx q 1 k) ∧
        Hid (wr.heap[g1]? = some (.cells #[.bool false, .slice none 0 0, .slice none 0 0, .bool false, .slice none 0 0, .slice none 0 0] 26)) ∧ Below w.heap.size w wr) (fun kv _ => m - (intOf kv).toNat)
    case atStart => exact ⟨0, s4, o4, n4, c4, a4, m4, d4, s4x, o4x, n4x, c4x, a4x, m4x, d4x, Nat.zero_le _, rfl, BX3_15, HN.out, BX1, HB3.out⟩
    case round =>
      obtain ⟨k, s1, o1, n1, c1, a1, p1, d1, s2, o2, n2, c2, a2, p2, d2, hk, rfl, hxA, hIS, hxR, hBr⟩ := hrel
      have HBR := Lib.hid hBr; have HIS := Lib.hid hIS; clear hBr hIS
      have BXA := hxA; have BXR := hxR
      obtain ⟨hrn, hrx⟩ := HAM.out k hk
      have HISl := Lib.hid (isSp_ends HIS.out).1; have HISh := Lib.hid (isSp_ends HIS.out).2
      skip
      by_cases hkm : k < m
      · skip
        obtain ⟨t9, u9, x9, y9, z9, r9, h9, hC1, hF1, hL1⟩ := HV.out (k + 1) (by omega)
        have CE := Lib.hid (show w.cell? ⟨g, 3 + k * 3, none⟩ = _ ∧ w.cell? ⟨g, 3 + k * 3 + 1, none⟩ = _ ∧ w.cell? ⟨g, 3 + k * 3 + 2, none⟩ = _ from by rw [show 3 + k * 3 = (k + 1) * 3 by omega]; exact hC1); clear hC1
        have FE := Lib.hid (hF1.below HBR.out); clear hF1
        have hf1 : decide ((k : Int) < (m : Int)) = true := decide_eq_true (by omega)
        obtain ⟨x5_0, x5_1, x5_2⟩ := cells3 HBR.out hg CE.out
        obtain ⟨w14, hw14⟩ : ∃ w14, w14 = wr.alloc (.cells #[.bool t9, .slice u9 x9 y9, .slice z9 r9 h9] 24) := ⟨_, rfl⟩
        have hb14 : Below wr.heap.size wr w14 := by rw [hw14]; exact (Below.refl _ _).alloc (Nat.le_refl _) _
        have hx14 := heap_alloc_new wr (.cells #[.bool t9, .slice u9 x9 y9, .slice z9 r9 h9] 24)
        obtain ⟨g14, hg14⟩ : ∃ g, g = wr.heap.size := ⟨_, rfl⟩
        rw [← hw14, ← hg14] at hx14
        have lw14 : w.heap.size ≤ g14 := by rw [hg14]; exact HBR.out.size
        have ltBXR14 : g1 < g14 := by rw [hg14]; exact below_lt BXR.out
        have ltBXA14 : g3_15 < g14 := by rw [hg14]; exact below_lt BXA.out
        have HW14 := Lib.hid hw14; have HG14 := Lib.hid hg14; clear hw14 hg14
        have HB14 := Lib.hid (HBR.out.step hb14)
        have HIS := Lib.hid (HIS.out.below hb14)
        have HISl := Lib.hid (HISl.out.below hb14)
        have HISh := Lib.hid (HISh.out.below hb14)
        have FE := Lib.hid (FE.out.below hb14)
        have BXR := Lib.hid (heap_below BXR.out hb14)
        have BXA := Lib.hid (heap_below BXA.out hb14)
        have BX14 := Lib.hid hx14; clear hb14 hx14
        try rw [HG14.out] at x5_0
        try rw [HG14.out] at x5_1
        try rw [HG14.out] at x5_2
        go_wp2_with (with_reducible first | refine pauseCall ?_ | refine pauseLoop ?_ | refine pauseDraw ?_ | refine pauseBody ?_ | refine pauseRounds ?_)
        try rw [← HW14.out]
        try rw [← HG14.out]
        clear x5_0 x5_1 x5_2
        refine Pause.mk ?_
        have k6 := rl_mn (amn q 1 k) (q (k + 1))
        have k7 := rl_mx (amx q 1 k) (q (k + 1))
        refine wp_region_facts (A := ?aa8) (w := w14) 9 [] (by kernel_rfl) (Fl [KEq (.pointer (some ⟨g3_15, 0, none⟩)), KEq (.agg #[.bool s1, .slice o1 n1 c1, .slice a1 p1 d1]), KEq (.agg #[.bool t9, .slice u9 x9 y9, .slice z9 r9 h9]), KIs (mn (amn q 1 k) (q (k + 1))), KEq (.pointer (some ⟨g3_15, 3, none⟩)), KEq (.agg #[.bool s2, .slice o2 n2 c2, .slice a2 p2 d2]), KEq (.agg #[.bool t9, .slice u9 x9 y9, .slice z9 r9 h9]), KIs (mx (amx q 1 k) (q (k + 1))), KEq (.pointer (some ⟨g3_15, 0, none⟩))]) (fun i => false) (by kernel_rfl) ?hq8 (monoL (monoC (kEq _) (monoC (kEq _) (monoC (kEq _) (monoC (kIs _) (monoC (kEq _) (monoC (kEq _) (monoC (kEq _) (monoC (kIs _) (monoC (kEq _) monoN)))))))))) ?ha8 ?st8 ?tl8
        case hq8 =>
          intro c a d v w h
          first | (simp only [Exit.then] at h ⊢; exact h) | (simp only [Exit.inBlock, Exit.then] at h ⊢; exact h) | exact h
        case ha8 =>
          intro vals
          simp only [putsTo, dstOf, if_true, Act.put, List.setIfInBounds_toArray, List.set_cons_zero, List.set_cons_succ, List.getElem?_toArray, List.getElem?_cons_zero, List.getElem?_cons_succ, Option.bind_some]
          exact rfl
        case st8 =>
          simp only [List.take_succ_cons, List.take_zero]
          refine stepsOK_cons rfl rfl ?_ (stepsOK_cons rfl rfl ?_ (stepsOK_cons rfl rfl ?_ (stepsOK_cons rfl rfl ?_ (stepsOK_cons rfl rfl ?_ (stepsOK_cons rfl rfl ?_ (stepsOK_cons rfl rfl ?_ (stepsOK_cons rfl rfl ?_ (stepsOK_cons rfl rfl ?_ (stepsOK_nil)))))))))
          · intro vals w1 hb hd
            refine stepOK_value (v := (.pointer (some ⟨g3_15, 0, none⟩))) (w' := w1) (by go_simp) (leaves_mk (Below.refl _ _) rfl (fun h => by cases h))
          · intro vals w1 hb hd
            have d0 : KEq (.pointer (some ⟨g3_15, 0, none⟩)) (vals 0) w1 := hd 0 (by kernel_rfl)
            rw [show vals 0 = _ from d0]
            obtain ⟨e0, e1, e2, e3, e4, e5⟩ := row6 (heap_below BXA.out hb)
            refine stepOK_value (v := .agg #[.bool s1, .slice o1 n1 c1, .slice a1 p1 d1]) (w' := w1) (by go_simp) (leaves_mk (Below.refl _ _) rfl (fun h => by cases h))
          · intro vals w1 hb hd
            obtain ⟨e0, e1, e2⟩ := row3 (heap_below BX14.out hb)
            refine stepOK_value (v := .agg #[.bool t9, .slice u9 x9 y9, .slice z9 r9 h9]) (w' := w1) (by go_simp) (leaves_mk (Below.refl _ _) rfl (fun h => by cases h))
          · intro vals w1 hb hd
            have d1 : KEq (.agg #[.bool s1, .slice o1 n1 c1, .slice a1 p1 d1]) (vals 1) w1 := hd 1 (by kernel_rfl)
            have d2 : KEq (.agg #[.bool t9, .slice u9 x9 y9, .slice z9 r9 h9]) (vals 2) w1 := hd 2 (by kernel_rfl)
            have z1 : vals 1 = _ := d1
            have z2 : vals 2 = _ := d2
            have hs := minq_any _ (amn q 1 k) _ (q (k + 1)) w1 ((HISl.out.below hb).is (by omega)) (FE.out.below hb) (by omega) (by omega)
            have HS := Lib.hid hs; clear hs
            rw [z1]; clear z1
            rw [z2]; clear z2
            clear d1 d2 hd
            refine stepOK_call (by go_simp; first | done | exact ⟨⟨rfl, rfl⟩, rfl⟩) ?_
            (with_reducible refine HS.out.mono ?_); rintro e w2 ⟨v, rfl, hb2, hn⟩
            exact ⟨v, rfl, leaves_mk hb2 hn (fun h => by cases h)⟩
          · intro vals w1 hb hd
            refine stepOK_value (v := (.pointer (some ⟨g3_15, 3, none⟩))) (w' := w1) (by go_simp) (leaves_mk (Below.refl _ _) rfl (fun h => by cases h))
          · intro vals w1 hb hd
            have d4 : KEq (.pointer (some ⟨g3_15, 3, none⟩)) (vals 4) w1 := hd 4 (by kernel_rfl)
            rw [show vals 4 = _ from d4]
            obtain ⟨e0, e1, e2, e3, e4, e5⟩ := row6 (heap_below BXA.out hb)
            refine stepOK_value (v := .agg #[.bool s2, .slice o2 n2 c2, .slice a2 p2 d2]) (w' := w1) (by go_simp) (leaves_mk (Below.refl _ _) rfl (fun h => by cases h))
          · intro vals w1 hb hd
            obtain ⟨e0, e1, e2⟩ := row3 (heap_below BX14.out hb)
            refine stepOK_value (v := .agg #[.bool t9, .slice u9 x9 y9, .slice z9 r9 h9]) (w' := w1) (by go_simp) (leaves_mk (Below.refl _ _) rfl (fun h => by cases h))
          · intro vals w1 hb hd
            have d5 : KEq (.agg #[.bool s2, .slice o2 n2 c2, .slice a2 p2 d2]) (vals 5) w1 := hd 5 (by kernel_rfl)
            have d6 : KEq (.agg #[.bool t9, .slice u9 x9 y9, .slice z9 r9 h9]) (vals 6) w1 := hd 6 (by kernel_rfl)
            have z5 : vals 5 = _ := d5
            have z6 : vals 6 = _ := d6
            have hs := maxq_any _ (amx q 1 k) _ (q (k + 1)) w1 ((HISh.out.below hb).is (by omega)) (FE.out.below hb) (by omega) (by omega)
            have HS := Lib.hid hs; clear hs
            rw [z5]; clear z5
            rw [z6]; clear z6
            clear d5 d6 hd
            refine stepOK_call (by go_simp; first | done | exact ⟨⟨rfl, rfl⟩, rfl⟩) ?_
            (with_reducible refine HS.out.mono ?_); rintro e w2 ⟨v, rfl, hb2, hn⟩
            exact ⟨v, rfl, leaves_mk hb2 hn (fun h => by cases h)⟩
          · intro vals w1 hb hd
            refine stepOK_value (v := (.pointer (some ⟨g3_15, 0, none⟩))) (w' := w1) (by go_simp) (leaves_mk (Below.refl _ _) rfl (fun h => by cases h))
        case tl8 =>
          intro vals w15 hb15 hf hdis
          simp only [List.drop_succ_cons, List.drop_zero]
          obtain ⟨u8_3, hu3⟩ : ∃ u, u = vals 3 := ⟨_, rfl⟩
          have hn8_3 : IsR w15 (vals 3) (mn (amn q 1 k) (q (k + 1))) := hf 3 (by decide)
          rw [← hu3] at hn8_3 ⊢; clear hu3
          obtain ⟨u8_7, hu7⟩ : ∃ u, u = vals 7 := ⟨_, rfl⟩
          have hn8_7 : IsR w15 (vals 7) (mx (amx q 1 k) (q (k + 1))) := hf 7 (by decide)
          rw [← hu7] at hn8_7 ⊢; clear hu7
          have z8 : vals 8 = _ := hf 8 (by decide)
          try rw [z8]
          clear z8
          clear hf hdis
          have HB15 := Lib.hid (HB14.out.step hb15)
          have HIS := Lib.hid (HIS.out.below hb15)
          have HISl := Lib.hid (HISl.out.below hb15)
          have HISh := Lib.hid (HISh.out.below hb15)
          have FE := Lib.hid (FE.out.below hb15)
          have BXR := Lib.hid (heap_below BXR.out hb15)
          have BXA := Lib.hid (heap_below BXA.out hb15)
          have BX14 := Lib.hid (heap_below BX14.out hb15)
          clear hb15
          have N8_3 := Lib.hid hn8_3; clear hn8_3
          obtain ⟨s9, o9, n9, c9, a9, m9, d9, rfl⟩ := N8_3.out.shape
          have N8_7 := Lib.hid hn8_7; clear hn8_7
          obtain ⟨s10, o10, n10, c10, a10, m10, d10, rfl⟩ := N8_7.out.shape
          skip
          go_wp2_with (with_reducible refine wpList_pauseS ?_)
          refine wpList_stL g3_15 0 [.bool s9, .slice o9 n9 c9, .slice a9 m9 d9] BXA.out rfl rfl (Nat.le_of_ble_eq_true rfl) (by kernel_rfl) rfl ?_
          intro w16 hp16
          have HIS := Lib.hid (putL_SI hp16 HIS.out BXA.out noW6)
          have HISl := Lib.hid (putL_I hp16 HISl.out BXA.out noW6)
          have HISh := Lib.hid (putL_I hp16 HISh.out BXA.out noW6)
          have FE := Lib.hid (putL_R hp16 FE.out BXA.out noW6)
          have N8_3 := Lib.hid (putL_I hp16 N8_3.out BXA.out noW6)
          have N8_7 := Lib.hid (putL_I hp16 N8_7.out BXA.out noW6)
          have BXR := Lib.hid (putLx hp16 BXR.out (by omega))
          have BX14 := Lib.hid (putLx hp16 BX14.out (by omega))
          have nx16 : w16.heap[g3_15]? = some (.cells #[.bool s9, .slice o9 n9 c9, .slice a9 m9 d9, .bool s2, .slice o2 n2 c2, .slice a2 p2 d2] 26) := by rw [hp16]; exact putL_0 BXA.out
          have BXA := Lib.hid nx16; clear nx16
          have HB16 := Lib.hid (putLb hp16 HB15.out (by omega))
          clear hp16
          go_wp2_with (with_reducible refine wpList_pauseS ?_)
          refine wpList_stL g3_15 3 [.bool s10, .slice o10 n10 c10, .slice a10 m10 d10] BXA.out rfl rfl (Nat.le_of_ble_eq_true rfl) (by kernel_rfl) rfl ?_
          intro w17 hp17
          have HIS := Lib.hid (putL_SI hp17 HIS.out BXA.out noW6)
          have HISl := Lib.hid (putL_I hp17 HISl.out BXA.out noW6)
          have HISh := Lib.hid (putL_I hp17 HISh.out BXA.out noW6)
          have FE := Lib.hid (putL_R hp17 FE.out BXA.out noW6)
          have N8_3 := Lib.hid (putL_I hp17 N8_3.out BXA.out noW6)
          have N8_7 := Lib.hid (putL_I hp17 N8_7.out BXA.out noW6)
          have BXR := Lib.hid (putLx hp17 BXR.out (by omega))
          have BX14 := Lib.hid (putLx hp17 BX14.out (by omega))
          have nx17 : w17.heap[g3_15]? = some (.cells #[.bool s9, .slice o9 n9 c9, .slice a9 m9 d9, .bool s10, .slice o10 n10 c10, .slice a10 m10 d10] 26) := by rw [hp17]; exact putL_3 BXA.out
          have BXA := Lib.hid nx17; clear nx17
          have HB17 := Lib.hid (putLb hp17 HB16.out (by omega))
          clear hp17
          go_wp2_with (with_reducible first | refine pauseCall ?_ | refine pauseLoop ?_ | refine pauseDraw ?_ | refine pauseBody ?_ | refine pauseRounds ?_)
          refine Pause.mk ?_
          go_roundw
          case rel => exact ⟨k + 1, s9, o9, n9, c9, a9, m9, d9, s10, o10, n10, c10, a10, m10, d10, hkm, by go_num, BXA, isSp_of N8_3.out N8_7.out, BXR, HB17.out⟩
          case measure => simp [intOf]; omega
      · skip
        obtain rfl : k = m := by omega
        have hf1 : decide ((k : Int) < (k : Int)) = false := decide_eq_false (by omega)
        obtain ⟨x55_0, x55_1, x55_2, x55_3, x55_4, x55_5⟩ := row6 BXA.out
        go_wp2_with (with_reducible refine wpList_pauseS ?_)
        clear x55_0 x55_1 x55_2 x55_3 x55_4 x55_5
        refine wpList_stL g1 0 [.bool s1, .slice o1 n1 c1, .slice a1 p1 d1, .bool s2, .slice o2 n2 c2, .slice a2 p2 d2] BXR.out rfl rfl (Nat.le_of_ble_eq_true rfl) (by kernel_rfl) rfl ?_
        intro w64 hp64
        have HIS := Lib.hid (putL_SI hp64 HIS.out BXR.out noW6)
        have HISl := Lib.hid (putL_I hp64 HISl.out BXR.out noW6)
        have HISh := Lib.hid (putL_I hp64 HISh.out BXR.out noW6)
        have BXA := Lib.hid (putLx hp64 BXA.out (by omega))
        have nx64 : w64.heap[g1]? = some (.cells #[.bool s1, .slice o1 n1 c1, .slice a1 p1 d1, .bool s2, .slice o2 n2 c2, .slice a2 p2 d2] 26) := by rw [hp64]; exact putL_6 BXR.out
        have BXR := Lib.hid nx64; clear nx64
        have HB64 := Lib.hid (putLb hp64 HBR.out (by omega))
        clear hp64
        obtain ⟨x56_0, x56_1, x56_2, x56_3, x56_4, x56_5⟩ := row6 BXR.out
        go_wp2_with (with_reducible first | refine pauseCall ?_ | refine pauseLoop ?_ | refine pauseDraw ?_ | refine pauseBody ?_ | refine pauseRounds ?_)
        clear x56_0 x56_1 x56_2 x56_3 x56_4 x56_5
        refine Pause.mk ?_
        refine ret_span rfl g1 _ _ _ _ _ _ (by first | rfl | exact rfl) BXR.out rfl ?_
        exact ⟨_, rfl, HB64.out, HIS.out⟩
set_option maxRecDepth 100000 in
set_option maxHeartbeats 3200000 in
theorem of1_raw {g : Nat} {sg0 : Bool} {og0 ag0 : Option Addr} {ng0 cg0 mg0 dg0 : Nat} {qg0 : Rat} (w : World) (hg : w.heap[g]? = some (.cells #[.bool sg0, .slice og0 ng0 cg0, .slice ag0 mg0 dg0] 24)) (hg0 : RatIs w (.agg #[.bool sg0, .slice og0 ng0 cg0, .slice ag0 mg0 dg0]) qg0) (lg0 : rl qg0 ≤ 40000)  :
    Calls Tryz.prog 48 #[.slice (some ⟨g, 0, none⟩) 1 1] w (RetSp w (mn (qg0) (qg0), mx (qg0) (qg0))) := by
  have HBW := Lib.hid (Below.refl w.heap.size w)
  have kz0 : rl 0 ≤ 1 := by rw [rl_zero]; exact Nat.le_refl _
  have Fg0 := Lib.hid hg0; clear hg0
  have BXg := Lib.hid hg; clear hg
  obtain ⟨w1, hw1⟩ : ∃ w1, w1 = w.alloc (.cells #[.bool false, .slice none 0 0, .slice none 0 0, .bool false, .slice none 0 0, .slice none 0 0] 26) := ⟨_, rfl⟩
  have hb1 : Below w.heap.size w w1 := by rw [hw1]; exact (Below.refl _ _).alloc (Nat.le_refl _) _
  have hx1 := heap_alloc_new w (.cells #[.bool false, .slice none 0 0, .slice none 0 0, .bool false, .slice none 0 0, .slice none 0 0] 26)
  obtain ⟨g1, hg1⟩ : ∃ g, g = w.heap.size := ⟨_, rfl⟩
  rw [← hw1, ← hg1] at hx1
  have lw1 : w.heap.size ≤ g1 := by rw [hg1]; exact HBW.out.size
  have ltBXg1 : g < g1 := by rw [hg1]; exact below_lt BXg.out
  have HW1 := Lib.hid hw1; have HG1 := Lib.hid hg1; clear hw1 hg1
  have HB1 := Lib.hid (HBW.out.step hb1)
  have Fg0 := Lib.hid (Fg0.out.below hb1)
  have BXg := Lib.hid (heap_below BXg.out hb1)
  have BX1 := Lib.hid hx1; clear hb1 hx1
  go_enter Tryz.func48, Tryz.ntmps48
  go_wp2_with (with_reducible first | refine pauseCall ?_ | refine pauseLoop ?_ | refine pauseDraw ?_ | refine pauseBody ?_ | refine pauseRounds ?_)
  try rw [← HW1.out]
  try rw [← HG1.out]
  refine Pause.mk ?_
  have k1 := rl_mn (qg0) (qg0)
  have k2 := rl_mx (qg0) (qg0)
  refine wp_region_facts (A := ?aa3) (w := w1) 16 [] (by kernel_rfl) (Fl [KEq (.slice (some ⟨g, 0, none⟩) 1 1), KEq (.pointer (some ⟨g, 0, none⟩)), KEq (.agg #[.bool sg0, .slice og0 ng0 cg0, .slice ag0 mg0 dg0]), KEq (.slice (some ⟨g, 0, none⟩) 1 1), KEq (.pointer (some ⟨g, 0, none⟩)), KEq (.agg #[.bool sg0, .slice og0 ng0 cg0, .slice ag0 mg0 dg0]), KIs (mn (qg0) (qg0)), KEq (.slice (some ⟨g, 0, none⟩) 1 1), KEq (.pointer (some ⟨g, 0, none⟩)), KEq (.agg #[.bool sg0, .slice og0 ng0 cg0, .slice ag0 mg0 dg0]), KEq (.slice (some ⟨g, 0, none⟩) 1 1), KEq (.pointer (some ⟨g, 0, none⟩)), KEq (.agg #[.bool sg0, .slice og0 ng0 cg0, .slice ag0 mg0 dg0]), KIs (mx (qg0) (qg0)), KSp ((mn (qg0) (qg0), mx (qg0) (qg0))), KNew w1.heap.size #[.bool false, .slice none 0 0, .slice none 0 0, .bool false, .slice none 0 0, .slice none 0 0] 26]) (fun i => i == 15) (by kernel_rfl) ?hq3 (monoL (monoC (kEq _) (monoC (kEq _) (monoC (kEq _) (monoC (kEq _) (monoC (kEq _) (monoC (kEq _) (monoC (kIs _) (monoC (kEq _) (monoC (kEq _) (monoC (kEq _) (monoC (kEq _) (monoC (kEq _) (monoC (kEq _) (monoC (kIs _) (monoC (kSp _) (monoC (kNew _ _ _) monoN))))))))))))))))) ?ha3 ?st3 ?tl3
  case hq3 =>
    intro c a d v w h
    first | (simp only [Exit.then] at h ⊢; exact h) | (simp only [Exit.inBlock, Exit.then] at h ⊢; exact h) | exact h
  case ha3 =>
    intro vals
    simp only [putsTo, dstOf, if_true, Act.put, List.setIfInBounds_toArray, List.set_cons_zero, List.set_cons_succ, List.getElem?_toArray, List.getElem?_cons_zero, List.getElem?_cons_succ, Option.bind_some]
    exact rfl
  case st3 =>
    simp only [List.take_succ_cons, List.take_zero]
    refine stepsOK_cons rfl rfl ?_ (stepsOK_cons rfl rfl ?_ (stepsOK_cons rfl rfl ?_ (stepsOK_cons rfl rfl ?_ (stepsOK_cons rfl rfl ?_ (stepsOK_cons rfl rfl ?_ (stepsOK_cons rfl rfl ?_ (stepsOK_cons rfl rfl ?_ (stepsOK_cons rfl rfl ?_ (stepsOK_cons rfl rfl ?_ (stepsOK_cons rfl rfl ?_ (stepsOK_cons rfl rfl ?_ (stepsOK_cons rfl rfl ?_ (stepsOK_cons rfl rfl ?_ (stepsOK_cons rfl rfl ?_ (stepsOK_cons rfl rfl ?_ (stepsOK_nil))))))))))))))))
    · intro vals w1 hb hd
      refine stepOK_value (v := (.slice (some ⟨g, 0, none⟩) 1 1)) (w' := w1) (by go_simp) (leaves_mk (Below.refl _ _) rfl (fun h => by cases h))
    · intro vals w1 hb hd
      have d0 : KEq (.slice (some ⟨g, 0, none⟩) 1 1) (vals 0) w1 := hd 0 (by kernel_rfl)
      rw [show vals 0 = _ from d0]
      refine stepOK_value (v := (.pointer (some ⟨g, 0, none⟩))) (w' := w1) (by go_simp) (leaves_mk (Below.refl _ _) rfl (fun h => by cases h))
    · intro vals w1 hb hd
      have d1 : KEq (.pointer (some ⟨g, 0, none⟩)) (vals 1) w1 := hd 1 (by kernel_rfl)
      rw [show vals 1 = _ from d1]
      obtain ⟨e0, e1, e2⟩ := row3 (heap_below BXg.out hb)
      refine stepOK_value (v := .agg #[.bool sg0, .slice og0 ng0 cg0, .slice ag0 mg0 dg0]) (w' := w1) (by go_simp) (leaves_mk (Below.refl _ _) rfl (fun h => by cases h))
    · intro vals w1 hb hd
      refine stepOK_value (v := (.slice (some ⟨g, 0, none⟩) 1 1)) (w' := w1) (by go_simp) (leaves_mk (Below.refl _ _) rfl (fun h => by cases h))
    · intro vals w1 hb hd
      have d3 : KEq (.slice (some ⟨g, 0, none⟩) 1 1) (vals 3) w1 := hd 3 (by kernel_rfl)
      rw [show vals 3 = _ from d3]
      refine stepOK_value (v := (.pointer (some ⟨g, 0, none⟩))) (w' := w1) (by go_simp) (leaves_mk (Below.refl _ _) rfl (fun h => by cases h))
    · intro vals w1 hb hd
      have d4 : KEq (.pointer (some ⟨g, 0, none⟩)) (vals 4) w1 := hd 4 (by kernel_rfl)
      rw [show vals 4 = _ from d4]
      obtain ⟨e0, e1, e2⟩ := row3 (heap_below BXg.out hb)
      refine stepOK_value (v := .agg #[.bool sg0, .slice og0 ng0 cg0, .slice ag0 mg0 dg0]) (w' := w1) (by go_simp) (leaves_mk (Below.refl _ _) rfl (fun h => by cases h))
    · intro vals w1 hb hd
      have d2 : KEq (.agg #[.bool sg0, .slice og0 ng0 cg0, .slice ag0 mg0 dg0]) (vals 2) w1 := hd 2 (by kernel_rfl)
      have d5 : KEq (.agg #[.bool sg0, .slice og0 ng0 cg0, .slice ag0 mg0 dg0]) (vals 5) w1 := hd 5 (by kernel_rfl)
      have z2 : vals 2 = _ := d2
      have z5 : vals 5 = _ := d5
      have hs := minq_any _ (qg0) _ (qg0) w1 (Fg0.out.below hb) (Fg0.out.below hb) (by omega) (by omega)
      have HS := Lib.hid hs; clear hs
      rw [z2]; clear z2
      rw [z5]; clear z5
      clear d2 d5 hd
      refine stepOK_call (by go_simp; first | done | exact ⟨⟨rfl, rfl⟩, rfl⟩) ?_
      (with_reducible refine HS.out.mono ?_); rintro e w2 ⟨v, rfl, hb2, hn⟩
      exact ⟨v, rfl, leaves_mk hb2 hn (fun h => by cases h)⟩
    · intro vals w1 hb hd
      refine stepOK_value (v := (.slice (some ⟨g, 0, none⟩) 1 1)) (w' := w1) (by go_simp) (leaves_mk (Below.refl _ _) rfl (fun h => by cases h))
    · intro vals w1 hb hd
      have d7 : KEq (.slice (some ⟨g, 0, none⟩) 1 1) (vals 7) w1 := hd 7 (by kernel_rfl)
      rw [show vals 7 = _ from d7]
      refine stepOK_value (v := (.pointer (some ⟨g, 0, none⟩))) (w' := w1) (by go_simp) (leaves_mk (Below.refl _ _) rfl (fun h => by cases h))
    · intro vals w1 hb hd
      have d8 : KEq (.pointer (some ⟨g, 0, none⟩)) (vals 8) w1 := hd 8 (by kernel_rfl)
      rw [show vals 8 = _ from d8]
      obtain ⟨e0, e1, e2⟩ := row3 (heap_below BXg.out hb)
      refine stepOK_value (v := .agg #[.bool sg0, .slice og0 ng0 cg0, .slice ag0 mg0 dg0]) (w' := w1) (by go_simp) (leaves_mk (Below.refl _ _) rfl (fun h => by cases h))
    · intro vals w1 hb hd
      refine stepOK_value (v := (.slice (some ⟨g, 0, none⟩) 1 1)) (w' := w1) (by go_simp) (leaves_mk (Below.refl _ _) rfl (fun h => by cases h))
    · intro vals w1 hb hd
      have d10 : KEq (.slice (some ⟨g, 0, none⟩) 1 1) (vals 10) w1 := hd 10 (by kernel_rfl)
      rw [show vals 10 = _ from d10]
      refine stepOK_value (v := (.pointer (some ⟨g, 0, none⟩))) (w' := w1) (by go_simp) (leaves_mk (Below.refl _ _) rfl (fun h => by cases h))
    · intro vals w1 hb hd
      have d11 : KEq (.pointer (some ⟨g, 0, none⟩)) (vals 11) w1 := hd 11 (by kernel_rfl)
      rw [show vals 11 = _ from d11]
      obtain ⟨e0, e1, e2⟩ := row3 (heap_below BXg.out hb)
      refine stepOK_value (v := .agg #[.bool sg0, .slice og0 ng0 cg0, .slice ag0 mg0 dg0]) (w' := w1) (by go_simp) (leaves_mk (Below.refl _ _) rfl (fun h => by cases h))
    · intro vals w1 hb hd
      have d9 : KEq (.agg #[.bool sg0, .slice og0 ng0 cg0, .slice ag0 mg0 dg0]) (vals 9) w1 := hd 9 (by kernel_rfl)
      have d12 : KEq (.agg #[.bool sg0, .slice og0 ng0 cg0, .slice ag0 mg0 dg0]) (vals 12) w1 := hd 12 (by kernel_rfl)
      have z9 : vals 9 = _ := d9
      have z12 : vals 12 = _ := d12
      have hs := maxq_any _ (qg0) _ (qg0) w1 (Fg0.out.below hb) (Fg0.out.below hb) (by omega) (by omega)
      have HS := Lib.hid hs; clear hs
      rw [z9]; clear z9
      rw [z12]; clear z12
      clear d9 d12 hd
      refine stepOK_call (by go_simp; first | done | exact ⟨⟨rfl, rfl⟩, rfl⟩) ?_
      (with_reducible refine HS.out.mono ?_); rintro e w2 ⟨v, rfl, hb2, hn⟩
      exact ⟨v, rfl, leaves_mk hb2 hn (fun h => by cases h)⟩
    · intro vals w1 hb hd
      have d6 : KIs (mn (qg0) (qg0)) (vals 6) w1 := hd 6 (by kernel_rfl)
      have R6 : Hid (IsR w1 (vals 6) (mn (qg0) (qg0))) := Lib.hid d6
      have d13 : KIs (mx (qg0) (qg0)) (vals 13) w1 := hd 13 (by kernel_rfl)
      have R13 : Hid (IsR w1 (vals 13) (mx (qg0) (qg0))) := Lib.hid d13
      obtain ⟨sx, ox, nx, cx, ax, mx, ex, zx⟩ := R6.out.shape
      have qx := R6.out; rw [zx] at qx; rw [zx]
      obtain ⟨sy, oy, ny, cy, ay, my, ey, zy⟩ := R13.out.shape
      have qy := R13.out; rw [zy] at qy; rw [zy]
      refine stepOK_value (v := .agg #[.bool sx, .slice ox nx cx, .slice ax mx ex, .bool sy, .slice oy ny cy, .slice ay my ey]) (w' := w1) (by go_simp) (leaves_mk (Below.refl _ _) (isSp_of qx qy) (fun h => by cases h))
    · intro vals w1 hb hd
      refine stepOK_value (v := .pointer (some ⟨w1.heap.size, 0, none⟩)) (w' := w1.alloc (.cells #[.bool false, .slice none 0 0, .slice none 0 0, .bool false, .slice none 0 0, .slice none 0 0] 26)) (by go_simp) (leaves_mk ((Below.refl _ _).alloc (Nat.le_refl _) _) ⟨_, hb.size, rfl, heap_alloc_new _ _⟩ (fun _ => ⟨rfl, by simp⟩))
  case tl3 =>
    intro vals w2 hb2 hf hdis
    simp only [List.drop_succ_cons, List.drop_zero]
    obtain ⟨u3_14, hu14⟩ : ∃ u, u = vals 14 := ⟨_, rfl⟩
    have hn3_14 : IsSp w2 (vals 14) ((mn (qg0) (qg0), mx (qg0) (qg0))) := hf 14 (by decide)
    rw [← hu14] at hn3_14 ⊢; clear hu14
    obtain ⟨g3_15, hg3_15, ev15, hz3_15⟩ : KNew w1.heap.size #[.bool false, .slice none 0 0, .slice none 0 0, .bool false, .slice none 0 0, .slice none 0 0] 26 (vals 15) w2 := hf 15 (by decide)
    have eq15 := ev15
    rw [ev15]; clear ev15
    have lw3_15 : w.heap.size ≤ g3_15 := Nat.le_trans HB1.out.size hg3_15
    have ltBXg3_15 : g < g3_15 := Nat.lt_of_lt_of_le (below_lt BXg.out) hg3_15
    have ltBX13_15 : g1 < g3_15 := Nat.lt_of_lt_of_le (below_lt BX1.out) hg3_15
    clear hf hdis eq15
    have HB2 := Lib.hid (HB1.out.step hb2)
    have Fg0 := Lib.hid (Fg0.out.below hb2)
    have BXg := Lib.hid (heap_below BXg.out hb2)
    have BX1 := Lib.hid (heap_below BX1.out hb2)
    clear hb2
    have BX3_15 := Lib.hid hz3_15; clear hz3_15 hg3_15
    have N3_14 := Lib.hid hn3_14; clear hn3_14
    obtain ⟨s4, o4, n4, c4, a4, m4, d4, s4x, o4x, n4x, c4x, a4x, m4x, d4x, rfl⟩ := N3_14.out.shape
    have N3_14l := Lib.hid (show IsR _ _ (mn (qg0) (qg0)) from (isSp_ends N3_14.out).1); have N3_14h := Lib.hid (show IsR _ _ (mx (qg0) (qg0)) from (isSp_ends N3_14.out).2)
    skip
    go_wp2_with (with_reducible refine wpList_pauseS ?_)
    refine wpList_stL g3_15 0 [.bool s4, .slice o4 n4 c4, .slice a4 m4 d4, .bool s4x, .slice o4x n4x c4x, .slice a4x m4x d4x] BX3_15.out rfl rfl (Nat.le_of_ble_eq_true rfl) (by kernel_rfl) rfl ?_
    intro w3 hp3
    have Fg0 := Lib.hid (putL_R hp3 Fg0.out BX3_15.out noW6)
    have N3_14 := Lib.hid (putL_SI hp3 N3_14.out BX3_15.out noW6)
    have N3_14l := Lib.hid (putL_I hp3 N3_14l.out BX3_15.out noW6)
    have N3_14h := Lib.hid (putL_I hp3 N3_14h.out BX3_15.out noW6)
    have BXg := Lib.hid (putLx hp3 BXg.out (by omega))
    have BX1 := Lib.hid (putLx hp3 BX1.out (by omega))
    have nx3 : w3.heap[g3_15]? = some (.cells #[.bool s4, .slice o4 n4 c4, .slice a4 m4 d4, .bool s4x, .slice o4x n4x c4x, .slice a4x m4x d4x] 26) := by rw [hp3]; exact putL_6 BX3_15.out
    have BX3_15 := Lib.hid nx3; clear nx3
    have HB3 := Lib.hid (putLb hp3 HB2.out (by omega))
    clear hp3
    go_wp2_with (with_reducible first | refine pauseCall ?_ | refine pauseLoop ?_ | refine pauseDraw ?_ | refine pauseBody ?_ | refine pauseRounds ?_)
    refine Pause.mk ?_
    refine wp_loop_rounds 1 ?_
    rw [rounds_succ]
    obtain ⟨x5_0, x5_1, x5_2, x5_3, x5_4, x5_5⟩ := row6 BX3_15.out
    go_wp2_with (with_reducible refine wpList_pauseS ?_)
    clear x5_0 x5_1 x5_2 x5_3 x5_4 x5_5
    refine wpList_stL g1 0 [.bool s4, .slice o4 n4 c4, .slice a4 m4 d4, .bool s4x, .slice o4x n4x c4x, .slice a4x m4x d4x] BX1.out rfl rfl (Nat.le_of_ble_eq_true rfl) (by kernel_rfl) rfl ?_
    intro w4 hp4
    have Fg0 := Lib.hid (putL_R hp4 Fg0.out BX1.out noW6)
    have N3_14 := Lib.hid (putL_SI hp4 N3_14.out BX1.out noW6)
    have N3_14l := Lib.hid (putL_I hp4 N3_14l.out BX1.out noW6)
    have N3_14h := Lib.hid (putL_I hp4 N3_14h.out BX1.out noW6)
    have BXg := Lib.hid (putLx hp4 BXg.out (by omega))
    have BX3_15 := Lib.hid (putLx hp4 BX3_15.out (by omega))
    have nx4 : w4.heap[g1]? = some (.cells #[.bool s4, .slice o4 n4 c4, .slice a4 m4 d4, .bool s4x, .slice o4x n4x c4x, .slice a4x m4x d4x] 26) := by rw [hp4]; exact putL_6 BX1.out
    have BX1 := Lib.hid nx4; clear nx4
    have HB4 := Lib.hid (putLb hp4 HB3.out (by omega))
    clear hp4
    obtain ⟨x6_0, x6_1, x6_2, x6_3, x6_4, x6_5⟩ := row6 BX1.out
    go_wp2_with (with_reducible first | refine pauseCall ?_ | refine pauseLoop ?_ | refine pauseDraw ?_ | refine pauseBody ?_ | refine pauseRounds ?_)
    clear x6_0 x6_1 x6_2 x6_3 x6_4 x6_5
    refine Pause.mk ?_
    refine ret_span rfl g1 _ _ _ _ _ _ (by first | rfl | exact rfl) BX1.out rfl ?_
    exact ⟨_, rfl, HB4.out, N3_14.out⟩
theorem of1 {g : Nat} {sg0 : Bool} {og0 ag0 : Option Addr} {ng0 cg0 mg0 dg0 : Nat} {qg0 : Rat} (w : World) (hg : w.heap[g]? = some (.cells #[.bool sg0, .slice og0 ng0 cg0, .slice ag0 mg0 dg0] 24)) (hg0 : RatIs w (.agg #[.bool sg0, .slice og0 ng0 cg0, .slice ag0 mg0 dg0]) qg0) (lg0 : rl qg0 ≤ 40000) :
    Calls Tryz.prog 48 #[.slice (some ⟨g, 0, none⟩) 1 1] w (RetSp w (qg0, qg0)) := by
  have h := of1_raw w hg hg0 lg0
  rw [mn_self, mx_self] at h; exact h
theorem of2 {g : Nat} {sg0 : Bool} {og0 ag0 : Option Addr} {ng0 cg0 mg0 dg0 : Nat} {qg0 : Rat} {sg1 : Bool} {og1 ag1 : Option Addr} {ng1 cg1 mg1 dg1 : Nat} {qg1 : Rat} (w : World) (hg : w.heap[g]? = some (.cells #[.bool sg0, .slice og0 ng0 cg0, .slice ag0 mg0 dg0, .bool sg1, .slice og1 ng1 cg1, .slice ag1 mg1 dg1] 24)) (hg0 : RatIs w (.agg #[.bool sg0, .slice og0 ng0 cg0, .slice ag0 mg0 dg0]) qg0) (lg0 : rl qg0 ≤ 40000) (hg1 : RatIs w (.agg #[.bool sg1, .slice og1 ng1 cg1, .slice ag1 mg1 dg1]) qg1) (lg1 : rl qg1 ≤ 40000) :
    Calls Tryz.prog 48 #[.slice (some ⟨g, 0, none⟩) 2 2] w (RetSp w (around2 qg0 qg1)) := by
  have hV : RatsAt w g 2 40000 (fun j => if j = 0 then qg0 else qg1) := by
    intro j hj
    rw [cell_of_row w g _ _ 24 (0, 0) hg, cell_of_row w g _ _ 24 (0, 0) hg, cell_of_row w g _ _ 24 (0, 0) hg]
    match j, hj with
    | 0, _ => exact ⟨_, _, _, _, _, _, _, ⟨rfl, rfl, rfl⟩, hg0, lg0⟩
    | 1, _ => exact ⟨_, _, _, _, _, _, _, ⟨rfl, rfl, rfl⟩, hg1, lg1⟩
  have h := listOf_any (fun j => if j = 0 then qg0 else qg1) w (m := 1) (by decide) (by decide) (Array.getElem?_eq_some_iff.1 hg).1 hV
  exact h
theorem of4 {g : Nat} {sg0 : Bool} {og0 ag0 : Option Addr} {ng0 cg0 mg0 dg0 : Nat} {qg0 : Rat} {sg1 : Bool} {og1 ag1 : Option Addr} {ng1 cg1 mg1 dg1 : Nat} {qg1 : Rat} {sg2 : Bool} {og2 ag2 : Option Addr} {ng2 cg2 mg2 dg2 : Nat} {qg2 : Rat} {sg3 : Bool} {og3 ag3 : Option Addr} {ng3 cg3 mg3 dg3 : Nat} {qg3 : Rat} (w : World) (hg : w.heap[g]? = some (.cells #[.bool sg0, .slice og0 ng0 cg0, .slice ag0 mg0 dg0, .bool sg1, .slice og1 ng1 cg1, .slice ag1 mg1 dg1, .bool sg2, .slice og2 ng2 cg2, .slice ag2 mg2 dg2, .bool sg3, .slice og3 ng3 cg3, .slice ag3 mg3 dg3] 24)) (hg0 : RatIs w (.agg #[.bool sg0, .slice og0 ng0 cg0, .slice ag0 mg0 dg0]) qg0) (lg0 : rl qg0 ≤ 40000) (hg1 : RatIs w (.agg #[.bool sg1, .slice og1 ng1 cg1, .slice ag1 mg1 dg1]) qg1) (lg1 : rl qg1 ≤ 40000) (hg2 : RatIs w (.agg #[.bool sg2, .slice og2 ng2 cg2, .slice ag2 mg2 dg2]) qg2) (lg2 : rl qg2 ≤ 40000) (hg3 : RatIs w (.agg #[.bool sg3, .slice og3 ng3 cg3, .slice ag3 mg3 dg3]) qg3) (lg3 : rl qg3 ≤ 40000) :
    Calls Tryz.prog 48 #[.slice (some ⟨g, 0, none⟩) 4 4] w (RetSp w (around4 qg0 qg1 qg2 qg3)) := by
  have hV : RatsAt w g 4 40000 (fun j => if j = 0 then qg0 else if j = 1 then qg1 else if j = 2 then qg2 else qg3) := by
    intro j hj
    rw [cell_of_row w g _ _ 24 (0, 0) hg, cell_of_row w g _ _ 24 (0, 0) hg, cell_of_row w g _ _ 24 (0, 0) hg]
    match j, hj with
    | 0, _ => exact ⟨_, _, _, _, _, _, _, ⟨rfl, rfl, rfl⟩, hg0, lg0⟩
    | 1, _ => exact ⟨_, _, _, _, _, _, _, ⟨rfl, rfl, rfl⟩, hg1, lg1⟩
    | 2, _ => exact ⟨_, _, _, _, _, _, _, ⟨rfl, rfl, rfl⟩, hg2, lg2⟩
    | 3, _ => exact ⟨_, _, _, _, _, _, _, ⟨rfl, rfl, rfl⟩, hg3, lg3⟩
  have h := listOf_any (fun j => if j = 0 then qg0 else if j = 1 then qg1 else if j = 2 then qg2 else qg3) w (m := 3) (by decide) (by decide) (Array.getElem?_eq_some_iff.1 hg).1 hV
  exact h
end Go.Proofs.YtaefimegiobkmaaGreatDoor
/-
  The reference's Point and Around: the least interval around some numbers.
  Conditions: each theorem's own.
-/
namespace Go.Proofs.YtaefimegiobkmaaGreatDoor
open Go.RowKit Go.ChangeShapes Go.WideShapes

set_option maxRecDepth 100000 in
set_option maxHeartbeats 3200000 in
theorem rpoint_raw (vx : Value) (x : Rat) (w : World) (hx : RatIs w vx x)  :
    Calls Tryz.prog 20 #[vx] w (RetSp w ((x) + (0), (x) + (0))) := by
  have HBW := Lib.hid (Below.refl w.heap.size w)
  have kz0 : rl 0 ≤ 1 := by rw [rl_zero]; exact Nat.le_refl _
  obtain ⟨sx, ox, nx, cx, ax, mx, dx, rfl⟩ := hx.shape
  have hlx := hx.rl
  have Fx := Lib.hid hx; clear hx
  obtain ⟨w1, hw1⟩ : ∃ w1, w1 = w.alloc (.cells #[.bool sx, .slice ox nx cx, .slice ax mx dx] 24) := ⟨_, rfl⟩
  have hb1 : Below w.heap.size w w1 := by rw [hw1]; exact (Below.refl _ _).alloc (Nat.le_refl _) _
  have hx1 := heap_alloc_new w (.cells #[.bool sx, .slice ox nx cx, .slice ax mx dx] 24)
  obtain ⟨g1, hg1⟩ : ∃ g, g = w.heap.size := ⟨_, rfl⟩
  rw [← hw1, ← hg1] at hx1
  have lw1 : w.heap.size ≤ g1 := by rw [hg1]; exact HBW.out.size
  have HW1 := Lib.hid hw1; have HG1 := Lib.hid hg1; clear hw1 hg1
  have HB1 := Lib.hid (HBW.out.step hb1)
  have Fx := Lib.hid (Fx.out.below hb1)
  have BX1 := Lib.hid hx1; clear hb1 hx1
  obtain ⟨w2, hw2⟩ : ∃ w2, w2 = w1.alloc (.cells #[.bool false, .slice none 0 0, .slice none 0 0, .bool false, .slice none 0 0, .slice none 0 0] 26) := ⟨_, rfl⟩
  have hb2 : Below w1.heap.size w1 w2 := by rw [hw2]; exact (Below.refl _ _).alloc (Nat.le_refl _) _
  have hx2 := heap_alloc_new w1 (.cells #[.bool false, .slice none 0 0, .slice none 0 0, .bool false, .slice none 0 0, .slice none 0 0] 26)
  obtain ⟨g2, hg2⟩ : ∃ g, g = w1.heap.size := ⟨_, rfl⟩
  rw [← hw2, ← hg2] at hx2
  have lw2 : w.heap.size ≤ g2 := by rw [hg2]; exact HB1.out.size
  have ltBX12 : g1 < g2 := by rw [hg2]; exact below_lt BX1.out
  have hs2 : g2 = w.heap.size + 1 := by rw [hg2, HW1.out]; simp
  have HS2 := Lib.hid hs2; clear hs2
  have HW2 := Lib.hid hw2; have HG2 := Lib.hid hg2; clear hw2 hg2
  have HB2 := Lib.hid (HB1.out.step hb2)
  have Fx := Lib.hid (Fx.out.below hb2)
  have BX1 := Lib.hid (heap_below BX1.out hb2)
  have BX2 := Lib.hid hx2; clear hb2 hx2
  go_enter Tryz.func20, Tryz.ntmps20
  obtain ⟨x1_0, x1_1, x1_2⟩ := row3 BX1.out
  have k2 := rl_add (x) (0)
  have hs := raddq_any _ (x) _ (0) w2 Fx.out ((isR_zero _).is (by rw [rl_zero]; decide))
  have HS := Lib.hid hs; clear hs
  try rw [HW2.out] at x1_0
  try rw [HG2.out] at x1_0
  try rw [HW1.out] at x1_0
  try rw [HG1.out] at x1_0
  try rw [HW2.out] at x1_1
  try rw [HG2.out] at x1_1
  try rw [HW1.out] at x1_1
  try rw [HG1.out] at x1_1
  try rw [HW2.out] at x1_2
  try rw [HG2.out] at x1_2
  try rw [HW1.out] at x1_2
  try rw [HG1.out] at x1_2
  go_wp2_with (with_reducible first | refine pauseCall ?_ | refine pauseLoop ?_ | refine pauseDraw ?_ | refine pauseBody ?_ | refine pauseRounds ?_)
  try rw [← HW1.out]
  try rw [← HW2.out]
  try rw [← HS2.out]
  try rw [← HG1.out]
  try rw [← HG2.out]
  clear x1_0 x1_1 x1_2
  refine Pause.mk ?_
  (with_reducible refine HS.out.mono ?_); rintro e w3 ⟨v3, rfl, hb3, hn3⟩
  clear HS
  have HB3 := Lib.hid (HB2.out.step hb3)
  have Fx := Lib.hid (Fx.out.below hb3)
  have BX1 := Lib.hid (heap_below BX1.out hb3)
  have BX2 := Lib.hid (heap_below BX2.out hb3)
  have N3 := Lib.hid hn3; clear hn3
  obtain ⟨s3, o3, n3, c3, a3, m3, d3, rfl⟩ := N3.out.shape
  clear hb3
  go_wp2_with (with_reducible refine wpList_pauseS ?_)
  refine wpList_stL g1 0 [.bool s3, .slice o3 n3 c3, .slice a3 m3 d3] BX1.out rfl rfl (Nat.le_of_ble_eq_true rfl) (by kernel_rfl) rfl ?_
  intro w4 hp4
  have Fx := Lib.hid (putL_R hp4 Fx.out BX1.out noW3)
  have N3 := Lib.hid (putL_I hp4 N3.out BX1.out noW3)
  have BX2 := Lib.hid (putLx hp4 BX2.out (by omega))
  have nx4 : w4.heap[g1]? = some (.cells #[.bool s3, .slice o3 n3 c3, .slice a3 m3 d3] 24) := by rw [hp4]; exact putL_r BX1.out
  have BX1 := Lib.hid nx4; clear nx4
  have HB4 := Lib.hid (putLb hp4 HB3.out (by omega))
  clear hp4
  obtain ⟨x4_0, x4_1, x4_2⟩ := row3 BX1.out
  obtain ⟨x5_0, x5_1, x5_2⟩ := row3 BX1.out
  go_wp2_with (with_reducible refine wpList_pauseS ?_)
  clear x4_0 x4_1 x4_2 x5_0 x5_1 x5_2
  refine wpList_stL g2 0 [.bool s3, .slice o3 n3 c3, .slice a3 m3 d3, .bool s3, .slice o3 n3 c3, .slice a3 m3 d3] BX2.out rfl rfl (Nat.le_of_ble_eq_true rfl) (by kernel_rfl) rfl ?_
  intro w5 hp5
  have Fx := Lib.hid (putL_R hp5 Fx.out BX2.out noW6)
  have N3 := Lib.hid (putL_I hp5 N3.out BX2.out noW6)
  have BX1 := Lib.hid (putLx hp5 BX1.out (by omega))
  have nx5 : w5.heap[g2]? = some (.cells #[.bool s3, .slice o3 n3 c3, .slice a3 m3 d3, .bool s3, .slice o3 n3 c3, .slice a3 m3 d3] 26) := by rw [hp5]; exact putL_6 BX2.out
  have BX2 := Lib.hid nx5; clear nx5
  have HB5 := Lib.hid (putLb hp5 HB4.out (by omega))
  clear hp5
  obtain ⟨x6_0, x6_1, x6_2, x6_3, x6_4, x6_5⟩ := row6 BX2.out
  go_wp2_with (with_reducible first | refine pauseCall ?_ | refine pauseLoop ?_ | refine pauseDraw ?_ | refine pauseBody ?_ | refine pauseRounds ?_)
  clear x6_0 x6_1 x6_2 x6_3 x6_4 x6_5
  refine Pause.mk ?_
  refine ret_span rfl g2 _ _ _ _ _ _ (by first | rfl | exact rfl) BX2.out rfl ?_
  exact ⟨_, rfl, HB5.out, isSp_of N3.out N3.out⟩
theorem rpoint_any (vx : Value) (x : Rat) (w : World) (hx : RatIs w vx x) (_lx : rl x ≤ 39000) : Calls Tryz.prog 20 #[vx] w (RetSp w (x, x)) := by
  have h := rpoint_raw vx x w hx
  rw [Rat.add_zero] at h; exact h
set_option maxRecDepth 100000 in
set_option maxHeartbeats 6400000 in
theorem listAround_any {g m cp : Nat} (q : Nat → Rat) (w : World) (hm : m ≤ 1000) (hm0 : 0 < m) (_hcp : m ≤ cp) (hg : g < w.heap.size) (hV : RatsAt w g m 39000 q) :
    Calls Tryz.prog 50 #[.slice (some ⟨g, 0, none⟩) m cp] w (RetSp w (amn q 0 m, amx q 0 m)) := by
  have HBW := Lib.hid (Below.refl w.heap.size w)
  obtain ⟨t0, o0, n0, c0, a0, p0, d0, hC0, hF0, hL0⟩ := hV 0 (by omega)
  have hAm := rl_am (q := q) (s := 0) (m := m) (b := 39000) hL0 (fun j hj => by obtain ⟨_, _, _, _, _, _, _, _, _, h⟩ := hV (j + 0) (by omega); exact h)
  have HAM := Lib.hid hAm; have HV := Lib.hid hV; clear hAm hV
  have C0 := Lib.hid (show w.cell? ⟨g, 0, none⟩ = _ ∧ w.cell? ⟨g, 1, none⟩ = _ ∧ w.cell? ⟨g, 2, none⟩ = _ from by simpa using hC0); clear hC0
  have F0 := Lib.hid hF0; clear hF0
  have fl0 : decide ((0 : Int) < ((m : Nat) : Int)) = true := decide_eq_true (by omega)
  obtain ⟨w1, hw1⟩ : ∃ w1, w1 = w.alloc (.cells #[.bool false, .slice none 0 0, .slice none 0 0, .bool false, .slice none 0 0, .slice none 0 0] 26) := ⟨_, rfl⟩
  have hb1 : Below w.heap.size w w1 := by rw [hw1]; exact (Below.refl _ _).alloc (Nat.le_refl _) _
  have hx1 := heap_alloc_new w (.cells #[.bool false, .slice none 0 0, .slice none 0 0, .bool false, .slice none 0 0, .slice none 0 0] 26)
  obtain ⟨g1, hg1⟩ : ∃ g, g = w.heap.size := ⟨_, rfl⟩
  rw [← hw1, ← hg1] at hx1
  have lw1 : w.heap.size ≤ g1 := by rw [hg1]; exact HBW.out.size
  have HW1 := Lib.hid hw1; have HG1 := Lib.hid hg1; clear hw1 hg1
  have HB1 := Lib.hid (HBW.out.step hb1)
  have F0 := Lib.hid (F0.out.below hb1)
  have BX1 := Lib.hid hx1; clear hb1 hx1
  go_enter Tryz.func50, Tryz.ntmps50
  obtain ⟨x1_0, x1_1, x1_2⟩ := cells3 HB1.out hg C0.out
  obtain ⟨k2, k3⟩ : rl ((q 0, q 0) : Rat × Rat).1 = rl (q 0) ∧ rl ((q 0, q 0) : Rat × Rat).2 = rl (q 0) := ⟨rfl, rfl⟩
  have hs := rpoint_any _ (q 0) w1 F0.out (by omega)
  have HS := Lib.hid hs; clear hs
  try rw [HW1.out] at x1_0
  try rw [HG1.out] at x1_0
  try rw [HW1.out] at x1_1
  try rw [HG1.out] at x1_1
  try rw [HW1.out] at x1_2
  try rw [HG1.out] at x1_2
  go_wp2_with (with_reducible first | refine pauseCall ?_ | refine pauseLoop ?_ | refine pauseDraw ?_ | refine pauseBody ?_ | refine pauseRounds ?_)
  try rw [← HW1.out]
  try rw [← HG1.out]
  clear x1_0 x1_1 x1_2
  refine Pause.mk ?_
  (with_reducible refine HS.out.mono ?_); rintro e w2 ⟨v2, rfl, hb2, hn2⟩
  clear HS
  have HB2 := Lib.hid (HB1.out.step hb2)
  have F0 := Lib.hid (F0.out.below hb2)
  have BX1 := Lib.hid (heap_below BX1.out hb2)
  have N2 := Lib.hid hn2; clear hn2
  obtain ⟨s4, o4, n4, c4, a4, m4, d4, s4x, o4x, n4x, c4x, a4x, m4x, d4x, rfl⟩ := N2.out.shape
  have N2l := Lib.hid (show IsR _ _ (q 0) from (isSp_ends N2.out).1); have N2h := Lib.hid (show IsR _ _ (q 0) from (isSp_ends N2.out).2)
  clear hb2
  obtain ⟨w3, hw3⟩ : ∃ w3, w3 = w2.alloc (.cells #[.bool s4, .slice o4 n4 c4, .slice a4 m4 d4, .bool s4x, .slice o4x n4x c4x, .slice a4x m4x d4x] 26) := ⟨_, rfl⟩
  have hb3 : Below w2.heap.size w2 w3 := by rw [hw3]; exact (Below.refl _ _).alloc (Nat.le_refl _) _
  have hx3 := heap_alloc_new w2 (.cells #[.bool s4, .slice o4 n4 c4, .slice a4 m4 d4, .bool s4x, .slice o4x n4x c4x, .slice a4x m4x d4x] 26)
  obtain ⟨g3, hg3⟩ : ∃ g, g = w2.heap.size := ⟨_, rfl⟩
  rw [← hw3, ← hg3] at hx3
  have lw3 : w.heap.size ≤ g3 := by rw [hg3]; exact HB2.out.size
  have ltBX13 : g1 < g3 := by rw [hg3]; exact below_lt BX1.out
  have HW3 := Lib.hid hw3; have HG3 := Lib.hid hg3; clear hw3 hg3
  have HB3 := Lib.hid (HB2.out.step hb3)
  have F0 := Lib.hid (F0.out.below hb3)
  have N2 := Lib.hid (N2.out.below hb3)
  have N2l := Lib.hid (N2l.out.below hb3)
  have N2h := Lib.hid (N2h.out.below hb3)
  have BX1 := Lib.hid (heap_below BX1.out hb3)
  have BX3 := Lib.hid hx3; clear hb3 hx3
  go_wp2_with (with_reducible first | refine pauseCall ?_ | refine pauseLoop ?_ | refine pauseDraw ?_ | refine pauseBody ?_ | refine pauseRounds ?_)
  try rw [← HW3.out]
  try rw [← HG3.out]
  refine Pause.mk ?_
  have hN := N2.out
  have HN := Lib.hid hN; clear hN
  go_loopw [12] (fun kv wr => ∃ (k : Nat) (s1 : Bool) (o1 : Option Addr) (n1 c1 : Nat) (a1 : Option Addr) (p1 d1 : Nat) (s2 : Bool) (o2 : Option Addr) (n2 c2 : Nat) (a2 : Option Addr) (p2 d2 : Nat), k ≤ m ∧ kv = .int .i64 k ∧ Hid (wr.heap[g3]? = some (.cells #[.bool s1, .slice o1 n1 c1, .slice a1 p1 d1, .bool s2, .slice o2 n2 c2, .slice a2 p2 d2] 26)) ∧ IsSp wr (.agg #[.bool s1, .slice o1 n1 c1, .slice a1 p1 d1, .bool s2, .slice o2 n2 c2, .slice a2 p2 d2]) (amn q 0 k, amx q 0 k) ∧
      Hid (wr.heap[g1]? = some (.cells #[.bool false, .slice none 0 0, .slice none 0 0, .bool false, .slice none 0 0, .slice none 0 0] 26)) ∧ Below w.heap.size w wr) (fun kv _ => m - (intOf kv).toNat)
  case atStart => exact ⟨0, s4, o4, n4, c4, a4, m4, d4, s4x, o4x, n4x, c4x, a4x, m4x, d4x, Nat.zero_le _, rfl, BX3, HN.out, BX1, HB3.out⟩
  case round =>
    obtain ⟨k, s1, o1, n1, c1, a1, p1, d1, s2, o2, n2, c2, a2, p2, d2, hk, rfl, hxA, hIS, hxR, hBr⟩ := hrel
    have HBR := Lib.hid hBr; have HIS := Lib.hid hIS; clear hBr hIS
    have BXA := hxA; have BXR := hxR
    obtain ⟨hrn, hrx⟩ := HAM.out k hk
    have HISl := Lib.hid (isSp_ends HIS.out).1; have HISh := Lib.hid (isSp_ends HIS.out).2
    skip
    by_cases hkm : k < m
    · skip
      obtain ⟨t9, u9, x9, y9, z9, r9, h9, hC1, hF1, hL1⟩ := HV.out (k + 0) (by omega)
      have CE := Lib.hid (show w.cell? ⟨g, k * 3, none⟩ = _ ∧ w.cell? ⟨g, k * 3 + 1, none⟩ = _ ∧ w.cell? ⟨g, k * 3 + 2, none⟩ = _ from hC1); clear hC1
      have FE := Lib.hid (hF1.below HBR.out); clear hF1
      have hf1 : decide ((k : Int) < (m : Int)) = true := decide_eq_true (by omega)
      obtain ⟨x5_0, x5_1, x5_2⟩ := cells3 HBR.out hg CE.out
      obtain ⟨w14, hw14⟩ : ∃ w14, w14 = wr.alloc (.cells #[.bool t9, .slice u9 x9 y9, .slice z9 r9 h9] 24) := ⟨_, rfl⟩
      have hb14 : Below wr.heap.size wr w14 := by rw [hw14]; exact (Below.refl _ _).alloc (Nat.le_refl _) _
      have hx14 := heap_alloc_new wr (.cells #[.bool t9, .slice u9 x9 y9, .slice z9 r9 h9] 24)
      obtain ⟨g14, hg14⟩ : ∃ g, g = wr.heap.size := ⟨_, rfl⟩
      rw [← hw14, ← hg14] at hx14
      have lw14 : w.heap.size ≤ g14 := by rw [hg14]; exact HBR.out.size
      have ltBXR14 : g1 < g14 := by rw [hg14]; exact below_lt BXR.out
      have ltBXA14 : g3 < g14 := by rw [hg14]; exact below_lt BXA.out
      have HW14 := Lib.hid hw14; have HG14 := Lib.hid hg14; clear hw14 hg14
      have HB14 := Lib.hid (HBR.out.step hb14)
      have HIS := Lib.hid (HIS.out.below hb14)
      have HISl := Lib.hid (HISl.out.below hb14)
      have HISh := Lib.hid (HISh.out.below hb14)
      have FE := Lib.hid (FE.out.below hb14)
      have BXR := Lib.hid (heap_below BXR.out hb14)
      have BXA := Lib.hid (heap_below BXA.out hb14)
      have BX14 := Lib.hid hx14; clear hb14 hx14
      try rw [HG14.out] at x5_0
      try rw [HG14.out] at x5_1
      try rw [HG14.out] at x5_2
      go_wp2_with (with_reducible first | refine pauseCall ?_ | refine pauseLoop ?_ | refine pauseDraw ?_ | refine pauseBody ?_ | refine pauseRounds ?_)
      try rw [← HW14.out]
      try rw [← HG14.out]
      clear x5_0 x5_1 x5_2
      refine Pause.mk ?_
      have k6 := rl_mn (amn q 0 k) (q (k + 0))
      refine wp_region_facts (A := ?aa7) (w := w14) 7 [] (by kernel_rfl) (Fl [KEq (.pointer (some ⟨g3, 0, none⟩)), KEq (.agg #[.bool s1, .slice o1 n1 c1, .slice a1 p1 d1]), KEq (.agg #[.bool t9, .slice u9 x9 y9, .slice z9 r9 h9]), KIs (mn (amn q 0 k) (q (k + 0))), KEq (.pointer (some ⟨g3, 3, none⟩)), KEq (.agg #[.bool s2, .slice o2 n2 c2, .slice a2 p2 d2]), KEq (.agg #[.bool t9, .slice u9 x9 y9, .slice z9 r9 h9])]) (fun i => false) (by kernel_rfl) ?hq7 (monoL (monoC (kEq _) (monoC (kEq _) (monoC (kEq _) (monoC (kIs _) (monoC (kEq _) (monoC (kEq _) (monoC (kEq _) monoN)))))))) ?ha7 ?st7 ?tl7
      case hq7 =>
        intro c a d v w h
        first | (simp only [Exit.then] at h ⊢; exact h) | (simp only [Exit.inBlock, Exit.then] at h ⊢; exact h) | exact h
      case ha7 =>
        intro vals
        simp only [putsTo, dstOf, if_true, Act.put, List.setIfInBounds_toArray, List.set_cons_zero, List.set_cons_succ, List.getElem?_toArray, List.getElem?_cons_zero, List.getElem?_cons_succ, Option.bind_some]
        exact rfl
      case st7 =>
        simp only [List.take_succ_cons, List.take_zero]
        refine stepsOK_cons rfl rfl ?_ (stepsOK_cons rfl rfl ?_ (stepsOK_cons rfl rfl ?_ (stepsOK_cons rfl rfl ?_ (stepsOK_cons rfl rfl ?_ (stepsOK_cons rfl rfl ?_ (stepsOK_cons rfl rfl ?_ (stepsOK_nil)))))))
        · intro vals w1 hb hd
          refine stepOK_value (v := (.pointer (some ⟨g3, 0, none⟩))) (w' := w1) (by go_simp) (leaves_mk (Below.refl _ _) rfl (fun h => by cases h))
        · intro vals w1 hb hd
          have d0 : KEq (.pointer (some ⟨g3, 0, none⟩)) (vals 0) w1 := hd 0 (by kernel_rfl)
          rw [show vals 0 = _ from d0]
          obtain ⟨e0, e1, e2, e3, e4, e5⟩ := row6 (heap_below BXA.out hb)
          refine stepOK_value (v := .agg #[.bool s1, .slice o1 n1 c1, .slice a1 p1 d1]) (w' := w1) (by go_simp) (leaves_mk (Below.refl _ _) rfl (fun h => by cases h))
        · intro vals w1 hb hd
          obtain ⟨e0, e1, e2⟩ := row3 (heap_below BX14.out hb)
          refine stepOK_value (v := .agg #[.bool t9, .slice u9 x9 y9, .slice z9 r9 h9]) (w' := w1) (by go_simp) (leaves_mk (Below.refl _ _) rfl (fun h => by cases h))
        · intro vals w1 hb hd
          have d1 : KEq (.agg #[.bool s1, .slice o1 n1 c1, .slice a1 p1 d1]) (vals 1) w1 := hd 1 (by kernel_rfl)
          have d2 : KEq (.agg #[.bool t9, .slice u9 x9 y9, .slice z9 r9 h9]) (vals 2) w1 := hd 2 (by kernel_rfl)
          have z1 : vals 1 = _ := d1
          have z2 : vals 2 = _ := d2
          have hs := rminq_any _ (amn q 0 k) _ (q (k + 0)) w1 ((HISl.out.below hb).is (by omega)) (FE.out.below hb) (by omega) (by omega)
          have HS := Lib.hid hs; clear hs
          rw [z1]; clear z1
          rw [z2]; clear z2
          clear d1 d2 hd
          refine stepOK_call (by go_simp; first | done | exact ⟨⟨rfl, rfl⟩, rfl⟩) ?_
          (with_reducible refine HS.out.mono ?_); rintro e w2 ⟨v, rfl, hb2, hn⟩
          exact ⟨v, rfl, leaves_mk hb2 hn (fun h => by cases h)⟩
        · intro vals w1 hb hd
          refine stepOK_value (v := (.pointer (some ⟨g3, 3, none⟩))) (w' := w1) (by go_simp) (leaves_mk (Below.refl _ _) rfl (fun h => by cases h))
        · intro vals w1 hb hd
          have d4 : KEq (.pointer (some ⟨g3, 3, none⟩)) (vals 4) w1 := hd 4 (by kernel_rfl)
          rw [show vals 4 = _ from d4]
          obtain ⟨e0, e1, e2, e3, e4, e5⟩ := row6 (heap_below BXA.out hb)
          refine stepOK_value (v := .agg #[.bool s2, .slice o2 n2 c2, .slice a2 p2 d2]) (w' := w1) (by go_simp) (leaves_mk (Below.refl _ _) rfl (fun h => by cases h))
        · intro vals w1 hb hd
          obtain ⟨e0, e1, e2⟩ := row3 (heap_below BX14.out hb)
          refine stepOK_value (v := .agg #[.bool t9, .slice u9 x9 y9, .slice z9 r9 h9]) (w' := w1) (by go_simp) (leaves_mk (Below.refl _ _) rfl (fun h => by cases h))
      case tl7 =>
        intro vals w15 hb15 hf hdis
        simp only [List.drop_succ_cons, List.drop_zero]
        obtain ⟨u7_3, hu3⟩ : ∃ u, u = vals 3 := ⟨_, rfl⟩
        have hn7_3 : IsR w15 (vals 3) (mn (amn q 0 k) (q (k + 0))) := hf 3 (by decide)
        rw [← hu3] at hn7_3 ⊢; clear hu3
        have z5 : vals 5 = _ := hf 5 (by decide)
        try rw [z5]
        clear z5
        have z6 : vals 6 = _ := hf 6 (by decide)
        try rw [z6]
        clear z6
        clear hf hdis
        have HB15 := Lib.hid (HB14.out.step hb15)
        have HIS := Lib.hid (HIS.out.below hb15)
        have HISl := Lib.hid (HISl.out.below hb15)
        have HISh := Lib.hid (HISh.out.below hb15)
        have FE := Lib.hid (FE.out.below hb15)
        have BXR := Lib.hid (heap_below BXR.out hb15)
        have BXA := Lib.hid (heap_below BXA.out hb15)
        have BX14 := Lib.hid (heap_below BX14.out hb15)
        clear hb15
        have N7_3 := Lib.hid hn7_3; clear hn7_3
        obtain ⟨s8, o8, n8, c8, a8, m8, d8, rfl⟩ := N7_3.out.shape
        skip
        have k9 := rl_mx (amx q 0 k) (q (k + 0))
        have hs := rmaxq_any _ (amx q 0 k) _ (q (k + 0)) w15 (HISh.out.is (by omega)) FE.out (by omega) (by omega)
        have HS := Lib.hid hs; clear hs
        go_wp2_with (with_reducible first | refine pauseCall ?_ | refine pauseLoop ?_ | refine pauseDraw ?_ | refine pauseBody ?_ | refine pauseRounds ?_)
        refine Pause.mk ?_
        (with_reducible refine HS.out.mono ?_); rintro e w16 ⟨v16, rfl, hb16, hn16⟩
        clear HS
        have HB16 := Lib.hid (HB15.out.step hb16)
        have HIS := Lib.hid (HIS.out.below hb16)
        have HISl := Lib.hid (HISl.out.below hb16)
        have HISh := Lib.hid (HISh.out.below hb16)
        have FE := Lib.hid (FE.out.below hb16)
        have N7_3 := Lib.hid (N7_3.out.below hb16)
        have BXR := Lib.hid (heap_below BXR.out hb16)
        have BXA := Lib.hid (heap_below BXA.out hb16)
        have BX14 := Lib.hid (heap_below BX14.out hb16)
        have N16 := Lib.hid hn16; clear hn16
        obtain ⟨s10, o10, n10, c10, a10, m10, d10, rfl⟩ := N16.out.shape
        clear hb16
        go_wp2_with (with_reducible refine wpList_pauseS ?_)
        refine wpList_stL g3 0 [.bool s8, .slice o8 n8 c8, .slice a8 m8 d8, .bool s10, .slice o10 n10 c10, .slice a10 m10 d10] BXA.out rfl rfl (Nat.le_of_ble_eq_true rfl) (by kernel_rfl) rfl ?_
        intro w17 hp17
        have HIS := Lib.hid (putL_SI hp17 HIS.out BXA.out noW6)
        have HISl := Lib.hid (putL_I hp17 HISl.out BXA.out noW6)
        have HISh := Lib.hid (putL_I hp17 HISh.out BXA.out noW6)
        have FE := Lib.hid (putL_R hp17 FE.out BXA.out noW6)
        have N7_3 := Lib.hid (putL_I hp17 N7_3.out BXA.out noW6)
        have N16 := Lib.hid (putL_I hp17 N16.out BXA.out noW6)
        have BXR := Lib.hid (putLx hp17 BXR.out (by omega))
        have BX14 := Lib.hid (putLx hp17 BX14.out (by omega))
        have nx17 : w17.heap[g3]? = some (.cells #[.bool s8, .slice o8 n8 c8, .slice a8 m8 d8, .bool s10, .slice o10 n10 c10, .slice a10 m10 d10] 26) := by rw [hp17]; exact putL_6 BXA.out
        have BXA := Lib.hid nx17; clear nx17
        have HB17 := Lib.hid (putLb hp17 HB16.out (by omega))
        clear hp17
        go_wp2_with (with_reducible first | refine pauseCall ?_ | refine pauseLoop ?_ | refine pauseDraw ?_ | refine pauseBody ?_ | refine pauseRounds ?_)
        refine Pause.mk ?_
        go_roundw
        case rel => exact ⟨k + 1, s8, o8, n8, c8, a8, m8, d8, s10, o10, n10, c10, a10, m10, d10, hkm, by go_num, BXA, isSp_of N7_3.out N16.out, BXR, HB17.out⟩
        case measure => simp [intOf]; omega
    · skip
      obtain rfl : k = m := by omega
      have hf1 : decide ((k : Int) < (k : Int)) = false := decide_eq_false (by omega)
      obtain ⟨x55_0, x55_1, x55_2, x55_3, x55_4, x55_5⟩ := row6 BXA.out
      go_wp2_with (with_reducible refine wpList_pauseS ?_)
      clear x55_0 x55_1 x55_2 x55_3 x55_4 x55_5
      refine wpList_stL g1 0 [.bool s1, .slice o1 n1 c1, .slice a1 p1 d1, .bool s2, .slice o2 n2 c2, .slice a2 p2 d2] BXR.out rfl rfl (Nat.le_of_ble_eq_true rfl) (by kernel_rfl) rfl ?_
      intro w64 hp64
      have HIS := Lib.hid (putL_SI hp64 HIS.out BXR.out noW6)
      have HISl := Lib.hid (putL_I hp64 HISl.out BXR.out noW6)
      have HISh := Lib.hid (putL_I hp64 HISh.out BXR.out noW6)
      have BXA := Lib.hid (putLx hp64 BXA.out (by omega))
      have nx64 : w64.heap[g1]? = some (.cells #[.bool s1, .slice o1 n1 c1, .slice a1 p1 d1, .bool s2, .slice o2 n2 c2, .slice a2 p2 d2] 26) := by rw [hp64]; exact putL_6 BXR.out
      have BXR := Lib.hid nx64; clear nx64
      have HB64 := Lib.hid (putLb hp64 HBR.out (by omega))
      clear hp64
      obtain ⟨x56_0, x56_1, x56_2, x56_3, x56_4, x56_5⟩ := row6 BXR.out
      go_wp2_with (with_reducible first | refine pauseCall ?_ | refine pauseLoop ?_ | refine pauseDraw ?_ | refine pauseBody ?_ | refine pauseRounds ?_)
      clear x56_0 x56_1 x56_2 x56_3 x56_4 x56_5
      refine Pause.mk ?_
      refine ret_span rfl g1 _ _ _ _ _ _ (by first | rfl | exact rfl) BXR.out rfl ?_
      exact ⟨_, rfl, HB64.out, HIS.out⟩
theorem raround2 {g : Nat} {sg0 : Bool} {og0 ag0 : Option Addr} {ng0 cg0 mg0 dg0 : Nat} {qg0 : Rat} {sg1 : Bool} {og1 ag1 : Option Addr} {ng1 cg1 mg1 dg1 : Nat} {qg1 : Rat} (w : World) (hg : w.heap[g]? = some (.cells #[.bool sg0, .slice og0 ng0 cg0, .slice ag0 mg0 dg0, .bool sg1, .slice og1 ng1 cg1, .slice ag1 mg1 dg1] 24)) (hg0 : RatIs w (.agg #[.bool sg0, .slice og0 ng0 cg0, .slice ag0 mg0 dg0]) qg0) (lg0 : rl qg0 ≤ 39000) (hg1 : RatIs w (.agg #[.bool sg1, .slice og1 ng1 cg1, .slice ag1 mg1 dg1]) qg1) (lg1 : rl qg1 ≤ 39000) :
    Calls Tryz.prog 50 #[.slice (some ⟨g, 0, none⟩) 2 2] w (RetSp w (around2 qg0 qg1)) := by
  have hV : RatsAt w g 2 39000 (fun j => if j = 0 then qg0 else qg1) := by
    intro j hj
    rw [cell_of_row w g _ _ 24 (0, 0) hg, cell_of_row w g _ _ 24 (0, 0) hg, cell_of_row w g _ _ 24 (0, 0) hg]
    match j, hj with
    | 0, _ => exact ⟨_, _, _, _, _, _, _, ⟨rfl, rfl, rfl⟩, hg0, lg0⟩
    | 1, _ => exact ⟨_, _, _, _, _, _, _, ⟨rfl, rfl, rfl⟩, hg1, lg1⟩
  have h := listAround_any (cp := 2) (fun j => if j = 0 then qg0 else qg1) w (by decide) (by decide) (Nat.le_refl _) (Array.getElem?_eq_some_iff.1 hg).1 hV
  replace h : Calls Tryz.prog 50 #[.slice (some ⟨g, 0, none⟩) 2 2] w (RetSp w (mn (mn qg0 qg0) qg1, mx (mx qg0 qg0) qg1)) := h
  rw [mn_self, mx_self] at h; exact h
theorem raround4 {g : Nat} {sg0 : Bool} {og0 ag0 : Option Addr} {ng0 cg0 mg0 dg0 : Nat} {qg0 : Rat} {sg1 : Bool} {og1 ag1 : Option Addr} {ng1 cg1 mg1 dg1 : Nat} {qg1 : Rat} {sg2 : Bool} {og2 ag2 : Option Addr} {ng2 cg2 mg2 dg2 : Nat} {qg2 : Rat} {sg3 : Bool} {og3 ag3 : Option Addr} {ng3 cg3 mg3 dg3 : Nat} {qg3 : Rat} (w : World) (hg : w.heap[g]? = some (.cells #[.bool sg0, .slice og0 ng0 cg0, .slice ag0 mg0 dg0, .bool sg1, .slice og1 ng1 cg1, .slice ag1 mg1 dg1, .bool sg2, .slice og2 ng2 cg2, .slice ag2 mg2 dg2, .bool sg3, .slice og3 ng3 cg3, .slice ag3 mg3 dg3] 24)) (hg0 : RatIs w (.agg #[.bool sg0, .slice og0 ng0 cg0, .slice ag0 mg0 dg0]) qg0) (lg0 : rl qg0 ≤ 39000) (hg1 : RatIs w (.agg #[.bool sg1, .slice og1 ng1 cg1, .slice ag1 mg1 dg1]) qg1) (lg1 : rl qg1 ≤ 39000) (hg2 : RatIs w (.agg #[.bool sg2, .slice og2 ng2 cg2, .slice ag2 mg2 dg2]) qg2) (lg2 : rl qg2 ≤ 39000) (hg3 : RatIs w (.agg #[.bool sg3, .slice og3 ng3 cg3, .slice ag3 mg3 dg3]) qg3) (lg3 : rl qg3 ≤ 39000) :
    Calls Tryz.prog 50 #[.slice (some ⟨g, 0, none⟩) 4 4] w (RetSp w (around4 qg0 qg1 qg2 qg3)) := by
  have hV : RatsAt w g 4 39000 (fun j => if j = 0 then qg0 else if j = 1 then qg1 else if j = 2 then qg2 else qg3) := by
    intro j hj
    rw [cell_of_row w g _ _ 24 (0, 0) hg, cell_of_row w g _ _ 24 (0, 0) hg, cell_of_row w g _ _ 24 (0, 0) hg]
    match j, hj with
    | 0, _ => exact ⟨_, _, _, _, _, _, _, ⟨rfl, rfl, rfl⟩, hg0, lg0⟩
    | 1, _ => exact ⟨_, _, _, _, _, _, _, ⟨rfl, rfl, rfl⟩, hg1, lg1⟩
    | 2, _ => exact ⟨_, _, _, _, _, _, _, ⟨rfl, rfl, rfl⟩, hg2, lg2⟩
    | 3, _ => exact ⟨_, _, _, _, _, _, _, ⟨rfl, rfl, rfl⟩, hg3, lg3⟩
  have h := listAround_any (cp := 4) (fun j => if j = 0 then qg0 else if j = 1 then qg1 else if j = 2 then qg2 else qg3) w (by decide) (by decide) (Nat.le_refl _) (Array.getElem?_eq_some_iff.1 hg).1 hV
  replace h : Calls Tryz.prog 50 #[.slice (some ⟨g, 0, none⟩) 4 4] w (RetSp w (mn (mn (mn (mn qg0 qg0) qg1) qg2) qg3, mx (mx (mx (mx qg0 qg0) qg1) qg2) qg3)) := h
  rw [mn_self, mx_self] at h; exact h
end Go.Proofs.YtaefimegiobkmaaGreatDoor
