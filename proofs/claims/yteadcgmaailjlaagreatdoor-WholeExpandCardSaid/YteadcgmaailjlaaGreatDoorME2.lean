/-
  What the law leans on, one text behind the other (the base).
  Conditions: each theorem's own.
-/
import Derived.Lib.SliceRun
import Derived.Maps.OwnSet
import Derived.Maps.OwnOps
import Derived.Maps.Views
import Derived.DeepKeys4
import Derived.Test.YteadcgmaailjlaaGreatDoorME1
set_option maxRecDepth 100000
set_option maxHeartbeats 16000000
namespace Go.Proofs.YteadcgmaailjlaaGreatDoor
theorem qeb {l : List Int} {x : Int} {j : Nat} (hj : j < l.length + 1) : (l ++ [x]).getD j 0 = if j < l.length then l.getD j 0 else x := by
 split
 ·rename_i h; exact qcv h
 ·rename_i h
  have : j = l.length := by omega
  subst this; exact qcw
/-! a tree copied -/
structure Cp (V : Nat) (nodes out : List Nd) (al rs : List Int) : Prop where
 len : rs.length = al.length
 arg : ∀ j, j < al.length → Arg V out.length (rs.getD j 0)
 v : ∀ e0 : List Nat, e0.length = V → Two e0 → ∀ j, j < al.length → tA (qaj e0 out) (rs.getD j 0) = tA (qaj e0 nodes) (al.getD j 0)
section
variable {V : Nat} {nodes out out' : List Nd} {al rs : List Int}
theorem Cp.nil : Cp V nodes out [] [] := ⟨rfl, fun j hj => absurd hj (by simp), fun _ _ _ j hj => absurd hj (by simp)⟩
theorem Cp.snoc {a r : Int} (h : Cp V nodes out al rs) (g : Grw V out out' r (fun e0 => tA (qaj e0 nodes) a)) : Cp V nodes out' (al ++ [a]) (rs ++ [r]) := by
 have hl := h.len
 refine ⟨by simp [hl], fun j hj => ?_, fun e0 he ht j hj => ?_⟩
 ·rw [List.length_append, List.length_singleton] at hj
  rw [qeb (by omega)]
  split
  ·exact (h.arg j (by omega)).up g.le
  ·exact g.arg
 ·rw [List.length_append, List.length_singleton] at hj
  rw [qeb (by omega), qeb (by omega), hl]
  split
  ·rename_i hlt; rw [g.old (h.arg j hlt) he, h.v e0 he ht j hlt]
  ·exact g.v e0 he ht
theorem cnt_getD {vs ws : List Nat} : ∀ {al rs : List Int}, rs.length = al.length → (∀ j, j < al.length → tA ws (rs.getD j 0) = tA vs (al.getD j 0)) → qcb ws rs 1 = qcb vs al 1
 | [], [], _, _ => rfl
 | a :: al, r :: rs, hl, h => by
  have ih := cnt_getD (al := al) (rs := rs) (by simpa using hl) (fun j hj => by
   have := h (j + 1) (by simp; omega)
   simpa using this)
  have h0 := h 0 (by simp)
  simp at h0
  rw [cnt_tA, cnt_tA] at ih ⊢
  rw [List.filter_cons, List.filter_cons, h0]
  split
  ·rw [List.length_cons, List.length_cons, ih]
  ·exact ih
theorem Cp.node {n : Nat} {x : Nd} (h : Cp V nodes out x.args rs) (ho : qbc (V : Nat) 0 out = 0) (hx : qbe (V : Nat) n x = 0) :
  Grw V out (out ++ [⟨x.kind, x.K, rs⟩]) ((V + out.length : Nat) : Int) (fun e0 => nv (qaj e0 nodes) x) := by
 obtain ⟨p1, p2, p3, p4⟩ := qav hx
 have hok : qbe (V : Nat) out.length ⟨x.kind, x.K, rs⟩ = 0 := by
  refine node_ok p1 (by rw [h.len]; exact p2) (fun a ha => ?_) (by rw [h.len]; exact p4)
  obtain ⟨j, hj, rfl⟩ := List.mem_iff_getElem.1 ha
  have hl := h.len
  have := h.arg j (by omega)
  rw [List.getD_eq_getElem?_getD, List.getElem?_eq_getElem hj] at this
  exact this
 refine (grw_node ho hok).congr (fun e0 he ht => ?_)
 show nT ⟨x.kind, x.K, rs⟩ (qcb (qaj e0 out) rs 1) = nT x (qcb (qaj e0 nodes) x.args 1)
 rw [cnt_getD h.len (h.v e0 he ht), nT_len (b := x.args) h.len]
theorem tA_ev {a : Int} {e0 : List Nat} (h0 : 0 ≤ a) (h1 : a < (V : Nat)) (he : e0.length = V) (l : List Nd) : tA (qaj e0 l) a = decide (gd e0 a.toNat = 1) := by
 unfold tA; rw [valsN_pre _ _ _ (by omega)]
theorem tA_at {e0 : List Nat} {x : Nd} {a : Int} (ho : qbc (V : Nat) 0 nodes = 0) (he : e0.length = V) (ht : Two e0) (ha : (V : Nat) ≤ a) (hx : nodes[(a - V).toNat]? = some x) : tA (qaj e0 nodes) a = nv (qaj e0 nodes) x ∧ qbe (V : Nat) (a - V).toNat x = 0 := by
 obtain ⟨k1, k2⟩ := valsN_at (vars := (V : Nat)) (by omega) nodes 0 e0 ho (by simp [he]) _ x hx
 rw [Nat.zero_add] at k2
 refine ⟨?_, k2⟩
 rw [← nv_gd k2 (two_vals nodes 0 e0 ho ht)]
 unfold tA ndV
 rw [show a.toNat = e0.length + (a - V).toNat by omega, k1]
end
/-! arguments and their negations -/
structure Psh (V : Nat) (nodes out : List Nd) (p n : List Int) : Prop where
 lp : p.length = V + nodes.length
 ln : n.length = V + nodes.length
 ok : qbc (V : Nat) 0 out = 0
 ap : ∀ j, j < p.length → Arg V out.length (p.getD j 0)
 an : ∀ j, j < n.length → Arg V out.length (n.getD j 0)
 vp : ∀ e0 : List Nat, e0.length = V → Two e0 → ∀ j : Nat, j < p.length → tA (qaj e0 out) (p.getD j 0) = tA (qaj e0 nodes) (j : Nat)
 vn : ∀ e0 : List Nat, e0.length = V → Two e0 → ∀ j : Nat, j < n.length → tA (qaj e0 out) (n.getD j 0) = !tA (qaj e0 nodes) (j : Nat)
structure Ngs (V i : Nat) (out : List Nd) (n : List Int) : Prop where
 ln : n.length = i
 ok : qbc (V : Nat) 0 out = 0
 an : ∀ j, j < i → Arg V out.length (n.getD j 0)
 vn : ∀ e0 : List Nat, e0.length = V → Two e0 → ∀ j : Nat, j < i → tA (qaj e0 out) (n.getD j 0) = !tA e0 (j : Nat)
theorem Ngs.start (V : Nat) : Ngs V 0 [] [] := ⟨rfl, rfl, fun j hj => absurd hj (by omega), fun _ _ _ j hj => absurd hj (by omega)⟩
theorem Ngs.next {V i : Nat} {out : List Nd} {n : List Int} (h : Ngs V i out n) (hi : i < V) : Ngs V (i + 1) (out ++ [⟨1, 0, [(i : Nat)]⟩]) (n ++ [((V + out.length : Nat) : Int)]) := by
 have ha : Arg V out.length ((i : Nat) : Int) := ⟨by omega, by omega⟩
 have g := grw_not h.ok ha
 have hl := h.ln
 refine ⟨by simp [hl], g.ok, fun j hj => ?_, fun e0 he ht j hj => ?_⟩
 ·rw [qeb (by omega)]
  split
  ·exact (h.an j (by omega)).up g.le
  ·exact g.arg
 ·rw [qeb (by omega), hl]
  split
  ·rename_i hlt; rw [g.old (h.an j hlt) he, h.vn e0 he ht j hlt]
  ·have : j = i := by omega
   subst this
   rw [g.v e0 he ht]
   congr 1
   rw [tA_ev (V := V) (by omega) (by omega) he]; rfl
def rangeI (V : Nat) : List Int := (List.range V).map fun i : Nat => (i : Int)
theorem qdg (V : Nat) : (rangeI V).length = V := by simp [rangeI]
theorem rangeI_getD {V j : Nat} (h : j < V) : (rangeI V).getD j 0 = (j : Nat) := by
 unfold rangeI
 rw [List.getD_eq_getElem?_getD, List.getElem?_map, List.getElem?_range h]; rfl
theorem rangeI_succ (V : Nat) : rangeI (V + 1) = rangeI V ++ [(V : Int)] := by
 unfold rangeI; rw [List.range_succ, List.map_append]; rfl
theorem Ngs.psh {V : Nat} {out : List Nd} {n : List Int} (h : Ngs V V out n) : Psh V [] out (rangeI V) n := by
 have hl := h.ln
 refine ⟨by simp [qdg], by simp [hl], h.ok, fun j hj => ?_, fun j hj => h.an j (by omega), fun e0 he ht j hj => ?_, fun e0 he ht j hj => h.vn e0 he ht j (by omega)⟩
 ·rw [qdg] at hj
  rw [rangeI_getD hj]; exact ⟨by omega, by omega⟩
 ·rw [qdg] at hj
  rw [rangeI_getD hj, tA_ev (V := V) (by omega) (by omega) he]; rfl
section
variable {V : Nat} {nodes out out1 out2 : List Nd} {p n : List Int} {x : Nd} {y z : Int}
theorem Psh.next (h : Psh V nodes out p n) (hno : qbc (V : Nat) 0 nodes = 0) (hx : qbe (V : Nat) nodes.length x = 0) (g1 : Grw V out out1 y (fun e0 => nv (qaj e0 nodes) x)) (g2 : Grw V out1 out2 z (fun e0 => !nv (qaj e0 nodes) x)) :
  Psh V (nodes ++ [x]) out2 (p ++ [y]) (n ++ [z]) := by
 have hp := h.lp
 have hn := h.ln
 refine ⟨by simp [hp]; omega, by simp [hn]; omega, g2.ok, fun j hj => ?_, fun j hj => ?_, fun e0 he ht j hj => ?_, fun e0 he ht j hj => ?_⟩
 ·rw [List.length_append, List.length_singleton] at hj
  rw [qeb (by omega)]
  split
  ·rename_i hlt; exact ((h.ap j hlt).up g1.le).up g2.le
  ·exact g1.arg.up g2.le
 ·rw [List.length_append, List.length_singleton] at hj
  rw [qeb (by omega)]
  split
  ·rename_i hlt; exact ((h.an j hlt).up g1.le).up g2.le
  ·exact g2.arg
 ·rw [List.length_append, List.length_singleton] at hj
  rw [qeb (by omega)]
  split
  ·rename_i hlt
   rw [g2.old ((h.ap j hlt).up g1.le) he, g1.old (h.ap j hlt) he, h.vp e0 he ht j hlt, tA_old he ⟨by omega, by omega⟩]
  ·rw [g2.old g1.arg he, g1.v e0 he ht, show j = V + nodes.length by omega, tA_next he hno hx ht]
 ·rw [List.length_append, List.length_singleton] at hj
  rw [qeb (by omega)]
  split
  ·rename_i hlt
   rw [g2.old ((h.an j hlt).up g1.le) he, g1.old (h.an j hlt) he, h.vn e0 he ht j hlt, tA_old he ⟨by omega, by omega⟩]
  ·rw [g2.v e0 he ht, show j = V + nodes.length by omega, tA_next he hno hx ht]
theorem Psh.one (h : Psh V nodes out p n) {a : Int} (ha : Arg V nodes.length a) : Arg V out.length (p.getD a.toNat 0) ∧ Arg V out.length (n.getD a.toNat 0) ∧ ∀ e0 : List Nat, e0.length = V → Two e0 → tA (qaj e0 out) (p.getD a.toNat 0) = tA (qaj e0 nodes) a ∧ tA (qaj e0 out) (n.getD a.toNat 0) = !tA (qaj e0 nodes) a := by
 obtain ⟨h1, h2⟩ := ha
 have hp := h.lp
 have hn := h.ln
 refine ⟨h.ap _ (by omega), h.an _ (by omega), fun e0 he ht => ?_⟩
 have k1 := h.vp e0 he ht a.toNat (by omega)
 have k2 := h.vn e0 he ht a.toNat (by omega)
 rw [Int.toNat_of_nonneg h1] at k1 k2
 exact ⟨k1, k2⟩
theorem Psh.cntP (h : Psh V nodes out p n) {args : List Int} (ha : ∀ a ∈ args, Arg V nodes.length a) {e0 : List Nat} (he : e0.length = V) (ht : Two e0) : qcb (qaj e0 out) (args.map fun a => p.getD a.toNat 0) 1 = qcb (qaj e0 nodes) args 1 :=
 cnt_rel (fun a h1 => ((h.one (ha a h1)).2.2 e0 he ht).1)
theorem Psh.yes (h : Psh V nodes out p n) (hx : qbe (V : Nat) nodes.length x = 0) : Grw V out (out ++ [⟨x.kind, x.K, x.args.map fun a => p.getD a.toNat 0⟩]) ((V + out.length : Nat) : Int) (fun e0 => nv (qaj e0 nodes) x) := by
 obtain ⟨p1, p2, p3, p4⟩ := qav hx
 have hok : qbe (V : Nat) out.length ⟨x.kind, x.K, x.args.map fun a => p.getD a.toNat 0⟩ = 0 := by
  refine node_ok p1 (by rw [List.length_map]; exact p2) (fun a ha => ?_) (by rw [List.length_map]; exact p4)
  obtain ⟨b, hb, rfl⟩ := List.mem_map.1 ha
  exact (h.one (p3 b hb)).1
 refine (grw_node h.ok hok).congr (fun e0 he ht => ?_)
 show nT ⟨x.kind, x.K, _⟩ (qcb (qaj e0 out) (x.args.map fun a => p.getD a.toNat 0) 1) = nT x (qcb (qaj e0 nodes) x.args 1)
 rw [h.cntP p3 he ht, nT_len (b := x.args) (by rw [List.length_map])]
def dKind (k : Int) : Int := if k = 2 then 3 else if k = 3 then 2 else k
def dK (k K : Int) (n : Nat) : Int := if k = 0 then 1 - K else if k = 4 then (n : Int) - K + 1 else 0
theorem dual_node {W : Nat} {nodes out : List Nd} {f : Int → Int} {e0 e1 : List Nat} {m : Nat} (hx : qbe (W : Nat) m x = 0) (hk : x.kind ≠ 5 ∨ x.args.length % 2 = 1) (ht : ∀ a ∈ x.args, tA (qaj e0 out) (f a) = !tA (qaj e1 nodes) a) :
  nv (qaj e0 out) ⟨dKind x.kind, dK x.kind x.K x.args.length, x.args.map f⟩ = !nv (qaj e1 nodes) x := by
 obtain ⟨p1, p2, p3, p4⟩ := qav hx
 obtain ⟨k, K, args⟩ := x
 simp only at *
 have hc := cnt_turn (vs := qaj e1 nodes) (ws := qaj e0 out) (f := f) (args := args) ht
 have hle := cnt_le_len (qaj e1 nodes) args
 show nT ⟨dKind k, dK k K args.length, args.map f⟩ (qcb (qaj e0 out) (args.map f) 1) = !nT ⟨k, K, args⟩ (qcb (qaj e1 nodes) args 1)
 rw [show qcb (qaj e0 out) (args.map f) 1 = args.length - qcb (qaj e1 nodes) args 1 by omega]
 have hkk : k = 0 ∨ k = 1 ∨ k = 2 ∨ k = 3 ∨ k = 4 ∨ k = 5 := by omega
 rcases hkk with rfl | rfl | rfl | rfl | rfl | rfl
 ·exact dual_const (by simpa [kOK] using p4)
 ·have : args.length = 1 := by simpa [qbq] using p2
  rw [this] at hle ⊢
  exact dual_not hle
 ·exact dual_and rfl hle
 ·exact dual_or (by rw [List.length_map]) hle
 ·exact dual_vote hle
 ·rcases hk with h | h
  ·exact absurd rfl h
  ·exact dual_xor_odd h hle
theorem dual_ok {m : Nat} {f : Int → Int} (hx : qbe (V : Nat) m x = 0) (ha : ∀ a ∈ x.args, Arg V out.length (f a)) : qbe (V : Nat) out.length ⟨dKind x.kind, dK x.kind x.K x.args.length, x.args.map f⟩ = 0 := by
 obtain ⟨p1, p2, p3, p4⟩ := qav hx
 obtain ⟨k, K, args⟩ := x
 simp only at *
 refine node_ok ?_ ?_ (fun a h => ?_) ?_
 ·unfold dKind; split
  ·omega
  split
  ·omega
  ·exact p1
 ·rw [List.length_map]
  have hkk : k = 0 ∨ k = 1 ∨ k = 2 ∨ k = 3 ∨ k = 4 ∨ k = 5 := by omega
  rcases hkk with rfl | rfl | rfl | rfl | rfl | rfl <;> exact p2
 ·obtain ⟨b, hb, rfl⟩ := List.mem_map.1 h
  exact ha b hb
 ·rw [List.length_map]
  have hkk : k = 0 ∨ k = 1 ∨ k = 2 ∨ k = 3 ∨ k = 4 ∨ k = 5 := by omega
  rcases hkk with rfl | rfl | rfl | rfl | rfl | rfl
  ·simp [kOK, dKind, dK] at p4 ⊢; omega
  ·simp [kOK, dKind, dK] at p4 ⊢
  ·simp [kOK, dKind, dK] at p4 ⊢
  ·simp [kOK, dKind, dK] at p4 ⊢
  ·simp [kOK, dKind, dK] at p4 ⊢; omega
  ·simp [kOK, dKind, dK] at p4 ⊢
theorem Psh.no (h : Psh V nodes out p n) (hx : qbe (V : Nat) nodes.length x = 0) (hk : x.kind ≠ 5) : Grw V out (out ++ [⟨dKind x.kind, dK x.kind x.K x.args.length, x.args.map fun a => n.getD a.toNat 0⟩]) ((V + out.length : Nat) : Int) (fun e0 => !nv (qaj e0 nodes) x) := by
 obtain ⟨p1, p2, p3, p4⟩ := qav hx
 refine (grw_node h.ok (dual_ok hx (fun a ha => (h.one (p3 a ha)).2.1))).congr (fun e0 he ht => ?_)
 exact dual_node hx (.inl hk) (fun a ha => ((h.one (p3 a ha)).2.2 e0 he ht).2)
theorem Psh.grw {f : List Nat → Bool} {r : Int} (h : Psh V nodes out p n) (g : Grw V out out1 r f) : Psh V nodes out1 p n :=
 ⟨h.lp, h.ln, g.ok, fun j hj => (h.ap j hj).up g.le, fun j hj => (h.an j hj).up g.le, fun e0 he ht j hj => by rw [g.old (h.ap j hj) he]; exact h.vp e0 he ht j hj, fun e0 he ht j hj => by rw [g.old (h.an j hj) he]; exact h.vn e0 he ht j hj⟩
theorem or_one {f : List Nat → Bool} {a : Int} (ho : qbc (V : Nat) 0 out = 0) (ha : Arg V out.length a) (hv : ∀ e0 : List Nat, e0.length = V → Two e0 → tA (qaj e0 out) a = f e0) : Grw V out (out ++ [⟨3, 0, [a]⟩]) ((V + out.length : Nat) : Int) f :=
 (qea (k := 3) (args := [a]) ho (.inr rfl) (by simp) (by simp) (fun b hb => by rw [List.mem_singleton] at hb; subst hb; exact ha)).congr (fun e0 he ht => by
  rw [if_neg (by decide), List.any_cons, List.any_nil, Bool.or_false, hv e0 he ht])
theorem two_gate {f g : List Nat → Bool} {k : Int} {a b : Int} (hk : k = 2 ∨ k = 3) (ho : qbc (V : Nat) 0 out = 0) (ha : Arg V out.length a) (hb : Arg V out.length b) (hv : ∀ e0 : List Nat, e0.length = V → Two e0 → tA (qaj e0 out) a = f e0) (hw : ∀ e0 : List Nat, e0.length = V → Two e0 → tA (qaj e0 out) b = g e0) :
  Grw V out (out ++ [⟨k, 0, [a, b]⟩]) ((V + out.length : Nat) : Int) (fun e0 => if k = 2 then f e0 && g e0 else f e0 || g e0) :=
 (qea (k := k) (args := [a, b]) ho hk (by simp) (by simp) (fun c hc => mem2 ha hb hc)).congr (fun e0 he ht => by
  simp only [List.all_cons, List.all_nil, List.any_cons, List.any_nil, Bool.and_true, Bool.or_false, hv e0 he ht, hw e0 he ht])
end
section
variable {V : Nat} {nodes out o1 o2 o3 o4 o5 o6 : List Nd} {p n : List Int} {x : Nd}
theorem xor_pair {f g : List Nat → Bool} {Y N P Q : Int} {out1 out2 out3 out4 out5 out6 : List Nd} (ho : qbc (V : Nat) 0 out = 0) (aY : Arg V out.length Y) (aN : Arg V out.length N) (aP : Arg V out.length P) (aQ : Arg V out.length Q)
  (vY : ∀ e0 : List Nat, e0.length = V → Two e0 → tA (qaj e0 out) Y = f e0) (vN : ∀ e0 : List Nat, e0.length = V → Two e0 → tA (qaj e0 out) N = !f e0) (vP : ∀ e0 : List Nat, e0.length = V → Two e0 → tA (qaj e0 out) P = g e0) (vQ : ∀ e0 : List Nat, e0.length = V → Two e0 → tA (qaj e0 out) Q = !g e0)
  (h1 : out1 = out ++ [⟨2, 0, [Y, Q]⟩]) (h2 : out2 = out1 ++ [⟨2, 0, [N, P]⟩]) (h3 : out3 = out2 ++ [⟨3, 0, [((V + out.length : Nat) : Int), ((V + out1.length : Nat) : Int)]⟩])
  (h4 : out4 = out3 ++ [⟨2, 0, [Y, P]⟩]) (h5 : out5 = out4 ++ [⟨2, 0, [N, Q]⟩]) (h6 : out6 = out5 ++ [⟨3, 0, [((V + out3.length : Nat) : Int), ((V + out4.length : Nat) : Int)]⟩]) :
  Grw V out out6 ((V + out2.length : Nat) : Int) (fun e0 => Bool.xor (f e0) (g e0)) ∧ Grw V out out6 ((V + out5.length : Nat) : Int) (fun e0 => !Bool.xor (f e0) (g e0)) := by
 subst h1
 have g1 := two_gate (k := 2) (.inl rfl) ho aY aQ vY vQ
 generalize ho1 : out ++ [(⟨2, 0, [Y, Q]⟩ : Nd)] = out1 at *
 subst h2
 have g2 := two_gate (k := 2) (f := fun e0 => !f e0) (g := g) (.inl rfl) g1.ok (aN.up g1.le) (aP.up g1.le) (fun e0 he ht => by rw [g1.old aN he]; exact vN e0 he ht) (fun e0 he ht => by rw [g1.old aP he]; exact vP e0 he ht)
 have g12 := g1.trans g2
 generalize ho2 : out1 ++ [(⟨2, 0, [N, P]⟩ : Nd)] = out2 at *
 subst h3
 have g3 := two_gate (k := 3) (f := fun e0 => f e0 && !g e0) (g := fun e0 => !f e0 && g e0) (.inr rfl) g2.ok (g1.arg.up g2.le) g2.arg (fun e0 he ht => by rw [g2.old g1.arg he, g1.v e0 he ht, if_pos rfl]) (fun e0 he ht => by rw [g2.v e0 he ht, if_pos rfl])
 have g13 := g12.trans g3
 generalize ho3 : out2 ++ [(⟨3, 0, [((V + out.length : Nat) : Int), ((V + out1.length : Nat) : Int)]⟩ : Nd)] = out3 at *
 subst h4
 have g4 := two_gate (k := 2) (f := f) (g := g) (.inl rfl) g3.ok (aY.up g13.le) (aP.up g13.le) (fun e0 he ht => by rw [g13.old aY he]; exact vY e0 he ht) (fun e0 he ht => by rw [g13.old aP he]; exact vP e0 he ht)
 have g14 := g13.trans g4
 generalize ho4 : out3 ++ [(⟨2, 0, [Y, P]⟩ : Nd)] = out4 at *
 subst h5
 have g5 := two_gate (k := 2) (f := fun e0 => !f e0) (g := fun e0 => !g e0) (.inl rfl) g4.ok (aN.up g14.le) (aQ.up g14.le) (fun e0 he ht => by rw [g14.old aN he]; exact vN e0 he ht) (fun e0 he ht => by rw [g14.old aQ he]; exact vQ e0 he ht)
 have g15 := g14.trans g5
 generalize ho5 : out4 ++ [(⟨2, 0, [N, Q]⟩ : Nd)] = out5 at *
 subst h6
 have g6 := two_gate (k := 3) (f := fun e0 => f e0 && g e0) (g := fun e0 => !f e0 && !g e0) (.inr rfl) g5.ok (g4.arg.up g5.le) g5.arg (fun e0 he ht => by rw [g5.old g4.arg he, g4.v e0 he ht, if_pos rfl]) (fun e0 he ht => by rw [g5.v e0 he ht, if_pos rfl])
 have g16 := g15.trans g6
 have g46 := (g4.trans g5).trans g6
 refine ⟨⟨g16.ext, g16.ok, g3.arg.up g46.le, fun e0 he ht => ?_⟩, g16.congr (fun e0 he ht => ?_)⟩
 ·rw [g46.old g3.arg he, g3.v e0 he ht]
  simp only [show ((3 : Int) = 2) = False from by simp, if_false]
  cases f e0 <;> cases g e0 <;> rfl
 ·simp only [show ((3 : Int) = 2) = False from by simp, if_false]
  cases f e0 <;> cases g e0 <;> rfl
/-! the dual -/
def turnE (e0 : List Nat) : List Nat := e0.map fun x => 1 - x
theorem qcm (e0 : List Nat) : (turnE e0).length = e0.length := by simp [turnE]
theorem turnE_gd {e0 : List Nat} {j : Nat} (hj : j < e0.length) : gd (turnE e0) j = 1 - gd e0 j := by
 unfold turnE gd
 rw [List.getD_eq_getElem?_getD, List.getD_eq_getElem?_getD, List.getElem?_map, List.getElem?_eq_getElem hj]; rfl
theorem turnE_two (e0 : List Nat) : Two (turnE e0) := by
 intro j
 by_cases h : j < e0.length
 ·rw [turnE_gd h]; omega
 ·rw [gd_over _ _ (by rw [qcm]; omega)]; omega
theorem turnE_turnE {e0 : List Nat} (h : Two e0) : turnE (turnE e0) = e0 := by
 refine gd_ext (by rw [qcm, qcm]) (fun j hj => ?_)
 rw [qcm, qcm] at hj
 rw [turnE_gd (by rw [qcm]; exact hj), turnE_gd hj]
 have := h j
 omega
structure Dul (V : Nat) (nodes out : List Nd) (im : Nat → Int) : Prop where
 ok : qbc (V : Nat) 0 out = 0
 arg : ∀ j, j < V + nodes.length → Arg V out.length (im j)
 v : ∀ e0 : List Nat, e0.length = V → Two e0 → ∀ j : Nat, j < V + nodes.length → tA (qaj e0 out) (im j) = !tA (qaj (turnE e0) nodes) (j : Nat)
theorem Dul.start {im : Nat → Int} (him : ∀ j, j < V → im j = (j : Nat)) : Dul V [] [] im := by
 refine ⟨rfl, fun j hj => by simp at hj; rw [him j hj]; exact ⟨by omega, by omega⟩, fun e0 he ht j hj => ?_⟩
 simp at hj
 rw [him j hj]
 show decide (gd e0 ((j : Int)).toNat = 1) = !decide (gd (turnE e0) ((j : Int)).toNat = 1)
 rw [Int.toNat_natCast, turnE_gd (by omega)]
 have := ht j
 have h01 : gd e0 j = 0 ∨ gd e0 j = 1 := by omega
 rcases h01 with e | e <;> rw [e] <;> rfl
variable {im im' : Nat → Int} {r : Int} {out' : List Nd}
theorem Dul.one (h : Dul V nodes out im) {a : Int} (ha : Arg V nodes.length a) : Arg V out.length (iA im a) ∧ ∀ e0 : List Nat, e0.length = V → Two e0 → tA (qaj e0 out) (iA im a) = !tA (qaj (turnE e0) nodes) a := by
 obtain ⟨h1, h2⟩ := ha
 have hlt : a.toNat < V + nodes.length := by omega
 refine ⟨h.arg _ hlt, fun e0 he ht => ?_⟩
 have := h.v e0 he ht _ hlt
 rw [Int.toNat_of_nonneg h1] at this
 exact this
theorem Dul.next (h : Dul V nodes out im) (hno : qbc (V : Nat) 0 nodes = 0) (hx : qbe (V : Nat) nodes.length x = 0) (g : Grw V out out' r (fun e0 => !nv (qaj (turnE e0) nodes) x)) (hold : ∀ j, j < V + nodes.length → im' j = im j) (hnew : im' (V + nodes.length) = r) :
  Dul V (nodes ++ [x]) out' im' := by
 refine ⟨g.ok, fun j hj => ?_, fun e0 he ht j hj => ?_⟩
 ·rw [List.length_append, List.length_singleton] at hj
  by_cases e : j < V + nodes.length
  ·rw [hold j e]; exact (h.arg j e).up g.le
  ·rw [show j = V + nodes.length by omega, hnew]; exact g.arg
 ·rw [List.length_append, List.length_singleton] at hj
  by_cases e : j < V + nodes.length
  ·rw [hold j e, g.old (h.arg j e) he, h.v e0 he ht j e, tA_old ((qcm e0).trans he) ⟨by omega, by omega⟩]
  ·rw [show j = V + nodes.length by omega, hnew, g.v e0 he ht, tA_next ((qcm e0).trans he) hno hx (turnE_two e0)]
theorem Dul.node (h : Dul V nodes out im) (hx : qbe (V : Nat) nodes.length x = 0) (hk : x.kind ≠ 5 ∨ x.args.length % 2 = 1) :
  Grw V out (out ++ [⟨dKind x.kind, dK x.kind x.K x.args.length, x.args.map (iA im)⟩]) ((V + out.length : Nat) : Int) (fun e0 => !nv (qaj (turnE e0) nodes) x) := by
 obtain ⟨p1, p2, p3, p4⟩ := qav hx
 refine (grw_node h.ok (dual_ok hx (fun a ha => (h.one (p3 a ha)).1))).congr (fun e0 he ht => ?_)
 exact dual_node hx hk (fun a ha => (h.one (p3 a ha)).2 e0 he ht)
theorem Dul.even (h : Dul V nodes out im) (hx : qbe (V : Nat) nodes.length x = 0) (hk : x.kind = 5) (hl : x.args.length % 2 = 0) (h1 : o1 = out ++ [⟨5, 0, x.args.map (iA im)⟩]) :
  Grw V out (o1 ++ [⟨1, 0, [((V + out.length : Nat) : Int)]⟩]) ((V + o1.length : Nat) : Int) (fun e0 => !nv (qaj (turnE e0) nodes) x) := by
 obtain ⟨p1, p2, p3, p4⟩ := qav hx
 obtain ⟨k, K, args⟩ := x
 simp only at *
 subst hk
 have hok : qbe (V : Nat) out.length ⟨5, 0, args.map (iA im)⟩ = 0 := by
  refine node_ok (by decide) (by rw [List.length_map]; exact p2) (fun a ha => ?_) (by simp [kOK])
  obtain ⟨b, hb, rfl⟩ := List.mem_map.1 ha
  exact (h.one (p3 b hb)).1
 have g1 := grw_node h.ok hok
 subst h1
 have g2 := grw_not g1.ok g1.arg
 refine (g1.trans g2).congr (fun e0 he ht => ?_)
 rw [g1.v e0 he ht]
 congr 1
 have hc := cnt_turn (vs := qaj (turnE e0) nodes) (ws := qaj e0 out) (f := iA im) (args := args) (fun a ha => (h.one (p3 a ha)).2 e0 he ht)
 have hle := cnt_le_len (qaj (turnE e0) nodes) args
 show nT ⟨5, 0, args.map (iA im)⟩ (qcb (qaj e0 out) (args.map (iA im)) 1) = nT ⟨5, K, args⟩ (qcb (qaj (turnE e0) nodes) args 1)
 rw [show qcb (qaj e0 out) (args.map (iA im)) 1 = args.length - qcb (qaj (turnE e0) nodes) args 1 by omega]
 exact dual_xor_even hl hle
structure DualOf (f g : Fm) : Prop where
 vars : g.vars = f.vars
 ok : qcr g = 0
 v : ∀ e0 : List Nat, e0.length = f.vars.toNat → Two e0 → top0 e0 g = !top0 (turnE e0) f
theorem Dul.done {top : Int} (h : Dul V nodes out im) (hV : V ≤ 24) (hl : out.length ≤ 128) (ht : Arg V nodes.length top) : DualOf ⟨(V : Nat), nodes, top⟩ ⟨(V : Nat), out, iA im top⟩ := by
 obtain ⟨h1, h2⟩ := h.one ht
 exact ⟨rfl, fm_ok hV hl h.ok h1, fun e0 he ht' => h2 e0 (by simpa using he) ht'⟩
theorem DualOf.twice {f g k : Fm} (a : DualOf f g) (b : DualOf g k) : FEq f k := by
 refine ⟨by rw [b.vars, a.vars], b.ok, fun e0 he ht => ?_⟩
 rw [b.v e0 (by rw [a.vars]; exact he) ht, a.v (turnE e0) (by rw [qcm]; exact he) (turnE_two e0), turnE_turnE ht, Bool.not_not]
/-! what stands below -/
def Clo (V : Nat) (nodes : List Nd) (mark : Nat → Bool) (k : Nat) : Prop := ∀ i, k ≤ i → ∀ x, nodes[i]? = some x → mark (V + i) = true → ∀ a ∈ x.args, mark a.toNat = true
theorem Clo.start (V : Nat) (nodes : List Nd) (mark : Nat → Bool) : Clo V nodes mark nodes.length := fun i hi x hx => by rw [List.getElem?_eq_none hi] at hx; cases hx
theorem Clo.skip {mark : Nat → Bool} {k : Nat} (h : Clo V nodes mark (k + 1)) (hm : mark (V + k) = false) : Clo V nodes mark k := by
 intro i hi y hy hmi
 by_cases e : i = k
 ·subst e; rw [hm] at hmi; cases hmi
 ·exact h i (by omega) y hy hmi
theorem Clo.step {mark mark' : Nat → Bool} {k : Nat} (h : Clo V nodes mark (k + 1)) (hx : nodes[k]? = some x) (hlt : ∀ a ∈ x.args, Arg V k a) (hm' : ∀ j, mark' j = (mark j || x.args.any fun a => decide (a.toNat = j))) : Clo V nodes mark' k := by
 intro i hi y hy hmi a ha
 by_cases e : i = k
 ·subst e
  rw [hx] at hy; cases hy
  rw [hm', Bool.or_eq_true]
  exact .inr (List.any_eq_true.2 ⟨a, ha, by simp⟩)
 ·rw [hm'] at hmi ⊢
  have hf : (x.args.any fun a => decide (a.toNat = V + i)) = false := by
   rw [List.any_eq_false]
   intro b hb
   have := hlt b hb
   unfold Arg at this
   simp only [decide_eq_true_eq]
   omega
  rw [hf, Bool.or_false] at hmi
  rw [h i (by omega) y hy hmi a ha, Bool.true_or]
end
def fA (vs : List Nat) (a : Int) : Bool := if a = -1 then true else if a = -2 then false else tA vs a
def CArg (V n : Nat) (a : Int) : Prop := a = -1 ∨ a = -2 ∨ Arg V n a
theorem fA_arg {V n : Nat} {a : Int} (h : Arg V n a) (vs : List Nat) : fA vs a = tA vs a := by
 unfold fA
 obtain ⟨h1, _⟩ := h
 rw [if_neg (by omega), if_neg (by omega)]
structure GrwF (V : Nat) (out out' : List Nd) (r : Int) (val : List Nat → Bool) : Prop where
 ext : ∃ more, out' = out ++ more
 ok : qbc (V : Nat) 0 out' = 0
 arg : CArg V out'.length r
 v : ∀ e0 : List Nat, e0.length = V → Two e0 → fA (qaj e0 out') r = val e0
structure Fld (V : Nat) (nodes out : List Nd) (im : Nat → Int) : Prop where
 ok : qbc (V : Nat) 0 out = 0
 arg : ∀ j, j < V + nodes.length → CArg V out.length (im j)
 v : ∀ e0 : List Nat, e0.length = V → Two e0 → ∀ j : Nat, j < V + nodes.length → fA (qaj e0 out) (im j) = tA (qaj e0 nodes) (j : Nat)
section
variable {V : Nat} {nodes out out' : List Nd} {im im' : Nat → Int} {r : Int} {x : Nd}
theorem GrwF.le {f : List Nat → Bool} (h : GrwF V out out' r f) : out.length ≤ out'.length := by
 obtain ⟨more, rfl⟩ := h.ext
 rw [List.length_append]; omega
theorem CArg.up {n m : Nat} {a : Int} (h : CArg V n a) (hm : n ≤ m) : CArg V m a := by
 rcases h with h | h | h
 ·exact .inl h
 ·exact .inr (.inl h)
 ·exact .inr (.inr (h.up hm))
theorem GrwF.old {f : List Nat → Bool} (h : GrwF V out out' r f) {a : Int} (ha : CArg V out.length a) {e0 : List Nat} (he : e0.length = V) : fA (qaj e0 out') a = fA (qaj e0 out) a := by
 rcases ha with rfl | rfl | ha
 ·rfl
 ·rfl
 ·obtain ⟨more, rfl⟩ := h.ext
  rw [fA_arg ha, fA_arg ha, tA_old he ha]
theorem Grw.toF {f : List Nat → Bool} (h : Grw V out out' r f) : GrwF V out out' r f := ⟨h.ext, h.ok, .inr (.inr h.arg), fun e0 he ht => by rw [fA_arg h.arg]; exact h.v e0 he ht⟩
theorem GrwF.const {f : List Nat → Bool} {b : Bool} (ho : qbc (V : Nat) 0 out = 0) (hr : r = if b then -1 else -2) (hv : ∀ e0 : List Nat, e0.length = V → Two e0 → f e0 = b) : GrwF V out out r f := by
 refine ⟨⟨[], by simp⟩, ho, ?_, fun e0 he ht => ?_⟩
 ·subst hr; cases b
  ·exact .inr (.inl rfl)
  ·exact .inl rfl
 ·rw [hv e0 he ht]; subst hr; cases b <;> rfl
theorem Fld.start (him : ∀ j, j < V → im j = (j : Nat)) : Fld V [] [] im :=
 ⟨rfl, fun j hj => by simp at hj; rw [him j hj]; exact .inr (.inr ⟨by omega, by omega⟩), fun e0 _ _ j hj => by simp at hj; rw [him j hj, fA_arg (V := V) (n := 0) ⟨by omega, by omega⟩]⟩
theorem Fld.next (h : Fld V nodes out im) (hno : qbc (V : Nat) 0 nodes = 0) (hx : qbe (V : Nat) nodes.length x = 0) (g : GrwF V out out' r (fun e0 => nv (qaj e0 nodes) x)) (hold : ∀ j, j < V + nodes.length → im' j = im j) (hnew : im' (V + nodes.length) = r) :
  Fld V (nodes ++ [x]) out' im' := by
 refine ⟨g.ok, fun j hj => ?_, fun e0 he ht j hj => ?_⟩
 ·rw [List.length_append, List.length_singleton] at hj
  by_cases e : j < V + nodes.length
  ·rw [hold j e]; exact (h.arg j e).up g.le
  ·rw [show j = V + nodes.length by omega, hnew]; exact g.arg
 ·rw [List.length_append, List.length_singleton] at hj
  by_cases e : j < V + nodes.length
  ·rw [hold j e, g.old (h.arg j e) he, h.v e0 he ht j e, tA_old he ⟨by omega, by omega⟩]
  ·rw [show j = V + nodes.length by omega, hnew, g.v e0 he ht, tA_next he hno hx ht]
def restL (l : List Int) : List Int := l.filter fun a => !decide (a = -1) && !decide (a = -2)
def yesN (l : List Int) : Nat := (l.filter fun a => decide (a = -1)).length
def noN (l : List Int) : Nat := (l.filter fun a => decide (a = -2)).length
theorem fold_len : ∀ l : List Int, yesN l + noN l + (restL l).length = l.length
 | [] => rfl
 | a :: l => by
  have ih := fold_len l
  unfold yesN noN restL at ih ⊢
  simp only [List.filter_cons]
  by_cases h1 : a = -1
  ·subst h1; simp; omega
  ·by_cases h2 : a = -2
   ·subst h2; simp; omega
   ·simp [h1, h2]; omega
theorem fold_cnt {vs ws : List Nat} {f : Int → Int} : ∀ {args : List Int}, (∀ a ∈ args, fA ws (f a) = tA vs a) → qcb vs args 1 = yesN (args.map f) + qcb ws (restL (args.map f)) 1
 | [], _ => rfl
 | a :: l, h => by
  have ih := fold_cnt (args := l) (fun b hb => h b (List.mem_cons_of_mem _ hb))
  have ha := h a (List.mem_cons_self ..)
  rw [cnt_tA, cnt_tA] at ih ⊢
  unfold yesN restL at ih ⊢
  simp only [List.map_cons, List.filter_cons]
  rw [← ha]
  unfold fA
  by_cases h1 : f a = -1
  ·simp only [h1, if_true, decide_true, Bool.not_true, Bool.false_and, Bool.false_eq_true, if_false, List.length_cons]; omega
  ·by_cases h2 : f a = -2
   ·simp only [h2, show ¬ ((-2 : Int) = -1) by decide, if_true, if_false, decide_true, decide_false, Bool.not_true, Bool.and_false, Bool.false_eq_true]; omega
   ·simp only [h1, h2, if_false, decide_false, Bool.not_false, Bool.and_self, if_true, List.filter_cons]
    split
    ·simp only [Bool.false_eq_true, if_false, List.length_cons]; omega
    ·simp only [Bool.false_eq_true, if_false]; omega
theorem rest_arg (h : Fld V nodes out im) {args : List Int} (ha : ∀ a ∈ args, Arg V nodes.length a) : ∀ b ∈ restL (args.map (iA im)), Arg V out.length b := by
 intro b hb
 unfold restL at hb
 obtain ⟨h1, h2⟩ := List.mem_filter.1 hb
 obtain ⟨a, h3, rfl⟩ := List.mem_map.1 h1
 obtain ⟨k1, k2⟩ := ha a h3
 have := h.arg a.toNat (by omega)
 simp only [Bool.and_eq_true, Bool.not_eq_true', decide_eq_false_iff_not] at h2
 rcases this with e | e | e
 ·exact absurd e h2.1
 ·exact absurd e h2.2
 ·exact e
theorem Fld.cnt (h : Fld V nodes out im) {args : List Int} (ha : ∀ a ∈ args, Arg V nodes.length a) {e0 : List Nat} (he : e0.length = V) (ht : Two e0) : qcb (qaj e0 nodes) args 1 = yesN (args.map (iA im)) + qcb (qaj e0 out) (restL (args.map (iA im))) 1 :=
 fold_cnt (fun a h1 => by
  obtain ⟨k1, k2⟩ := ha a h1
  have := h.v e0 he ht a.toNat (by omega)
  rw [Int.toNat_of_nonneg k1] at this
  exact this)
theorem Fld.nv_eq (h : Fld V nodes out im) (hx : qbe (V : Nat) nodes.length x = 0) {e0 : List Nat} (he : e0.length = V) (ht : Two e0) : nv (qaj e0 nodes) x = nT x (yesN (x.args.map (iA im)) + qcb (qaj e0 out) (restL (x.args.map (iA im))) 1) := by
 unfold nv
 rw [h.cnt (qav hx).2.2.1 he ht]
end
section
variable {V : Nat} {nodes out : List Nd} {im : Nat → Int} {r : Int} {x : Nd} {rest : List Int} {yes no : Nat}
structure qcz (V : Nat) (nodes out : List Nd) (im : Nat → Int) (x : Nd) (rest : List Int) (yes no : Nat) : Prop where
 f : Fld V nodes out im
 ok : qbe (V : Nat) nodes.length x = 0
 r : rest = restL (x.args.map (iA im))
 y : yes = yesN (x.args.map (iA im))
 n : no = noN (x.args.map (iA im))
theorem qcz.len (h : qcz V nodes out im x rest yes no) : yes + no + rest.length = x.args.length := by
 have := fold_len (x.args.map (iA im))
 rw [← h.r, ← h.y, ← h.n, List.length_map] at this
 exact this
theorem qcz.v (h : qcz V nodes out im x rest yes no) {e0 : List Nat} (he : e0.length = V) (ht : Two e0) : nv (qaj e0 nodes) x = nT x (yes + qcb (qaj e0 out) rest 1) ∧ qcb (qaj e0 out) rest 1 ≤ rest.length := by
 refine ⟨?_, cnt_le_len _ _⟩
 rw [h.f.nv_eq h.ok he ht, ← h.r, ← h.y]
theorem qcz.args (h : qcz V nodes out im x rest yes no) : ∀ b ∈ rest, Arg V out.length b := by
 rw [h.r]; exact rest_arg h.f (qav h.ok).2.2.1
theorem qcz.one (h : qcz V nodes out im x rest yes no) {b : Int} (hr : rest = [b]) : Grw V out out b (fun e0 => tA (qaj e0 out) b) := Grw.refl h.f.ok (h.args b (by rw [hr]; simp))
theorem cnt_one (vs : List Nat) (b : Int) : qcb vs [b] 1 = if tA vs b then 1 else 0 := by
 rw [cnt_tA, List.filter_cons]; cases tA vs b <;> rfl
theorem qcz.const (h : qcz V nodes out im x rest yes no) {b : Bool} (hr : r = if b then -1 else -2) (hv : ∀ c, c ≤ rest.length → nT x (yes + c) = b) : GrwF V out out r (fun e0 => nv (qaj e0 nodes) x) :=
 GrwF.const h.f.ok hr (fun e0 he ht => by obtain ⟨h1, h2⟩ := h.v he ht; rw [h1]; exact hv _ h2)
theorem qcz.k0 (h : qcz V nodes out im x rest yes no) (hk : x.kind = 0) (hr : r = if decide (x.K = 1) then -1 else -2) : GrwF V out out r (fun e0 => nv (qaj e0 nodes) x) :=
 h.const hr (fun c _ => by unfold nT; rw [if_pos hk])
theorem qcz.k1a (h : qcz V nodes out im x rest yes no) (hk : x.kind = 1) (hn : rest.length = 0) (hr : r = if decide (yes = 0) then -1 else -2) : GrwF V out out r (fun e0 => nv (qaj e0 nodes) x) :=
 h.const hr (fun c hc => by unfold nT; rw [if_neg (by omega), if_pos hk]; congr 1; exact propext ⟨fun _ => by omega, fun _ => by omega⟩)
theorem qcz.k1b (h : qcz V nodes out im x rest yes no) (hk : x.kind = 1) (hn : rest.length ≠ 0) : GrwF V out (out ++ [⟨1, 0, rest⟩]) ((V + out.length : Nat) : Int) (fun e0 => nv (qaj e0 nodes) x) := by
 obtain ⟨p1, p2, p3, p4⟩ := qav h.ok
 have hl := h.len
 rw [hk] at p2
 have h1 : x.args.length = 1 := by simpa [qbq] using p2
 obtain ⟨b, hb⟩ : ∃ b, rest = [b] := List.length_eq_one_iff.1 (by omega)
 refine Grw.toF ((grw_not (a := b) h.f.ok (h.args b (by rw [hb]; simp))).congr (fun e0 he ht => ?_)) |> fun g => by rw [hb]; exact g
 rw [(h.v he ht).1, hb, cnt_one]
 unfold nT
 rw [if_neg (by omega), if_pos hk, show yes = 0 by omega]
 cases tA (qaj e0 out) b <;> rfl
theorem nT2 (hk : x.kind = 2) (c : Nat) : nT x c = decide (c = x.args.length) := by unfold nT; rw [if_neg (by omega), if_neg (by omega), if_pos hk]
theorem nT3 (hk : x.kind = 3) (c : Nat) : nT x c = decide (0 < c) := by unfold nT; rw [if_neg (by omega), if_neg (by omega), if_neg (by omega), if_pos hk]
theorem nT4 (hk : x.kind = 4) (c : Nat) : nT x c = decide (x.K ≤ (c : Int)) := by unfold nT; rw [if_neg (by omega), if_neg (by omega), if_neg (by omega), if_neg (by omega), if_pos hk]
theorem nT5 (hk : x.kind = 5) (c : Nat) : nT x c = decide (c % 2 = 1) := by unfold nT; rw [if_neg (by omega), if_neg (by omega), if_neg (by omega), if_neg (by omega), if_neg (by omega)]
theorem dec_eq {p q : Prop} [Decidable p] [Decidable q] (h : p ↔ q) : decide p = decide q := by
 rw [Bool.eq_iff_iff, decide_eq_true_eq, decide_eq_true_eq]; exact h
theorem qcz.k2a (h : qcz V nodes out im x rest yes no) (hk : x.kind = 2) (hn : 0 < no ∨ rest.length = 0) (hr : r = if decide (no = 0) then -1 else -2) : GrwF V out out r (fun e0 => nv (qaj e0 nodes) x) := by
 have hl := h.len
 exact h.const hr (fun c hc => by rw [nT2 hk]; exact dec_eq ⟨fun _ => by omega, fun _ => by omega⟩)
theorem qcz.k3a (h : qcz V nodes out im x rest yes no) (hk : x.kind = 3) (hn : 0 < yes ∨ rest.length = 0) (hr : r = if decide (0 < yes) then -1 else -2) : GrwF V out out r (fun e0 => nv (qaj e0 nodes) x) := by
 exact h.const hr (fun c hc => by rw [nT3 hk]; exact dec_eq ⟨fun _ => by omega, fun _ => by omega⟩)
theorem qcz.k4a (h : qcz V nodes out im x rest yes no) (hk : x.kind = 4) (hn : x.K - yes ≤ 0 ∨ (rest.length : Int) < x.K - yes) (hr : r = if decide (x.K - yes ≤ 0) then -1 else -2) : GrwF V out out r (fun e0 => nv (qaj e0 nodes) x) := by
 exact h.const hr (fun c hc => by rw [nT4 hk]; exact dec_eq ⟨fun _ => by omega, fun _ => by omega⟩)
theorem qcz.k5a (h : qcz V nodes out im x rest yes no) (hk : x.kind = 5) (hn : rest.length = 0) (hr : r = if decide (yes % 2 = 1) then -1 else -2) : GrwF V out out r (fun e0 => nv (qaj e0 nodes) x) := by
 exact h.const hr (fun c hc => by rw [nT5 hk]; exact dec_eq ⟨fun _ => by omega, fun _ => by omega⟩)
theorem qcz.one234 (h : qcz V nodes out im x rest yes no) {b : Int} (hb : rest = [b]) (hk : (x.kind = 2 ∧ no = 0) ∨ (x.kind = 3 ∧ yes = 0) ∨ (x.kind = 4 ∧ x.K - yes = 1)) : GrwF V out out b (fun e0 => nv (qaj e0 nodes) x) := by
 have hl := h.len
 refine Grw.toF ((h.one hb).congr (fun e0 he ht => ?_))
 rw [(h.v he ht).1, hb, cnt_one]
 rw [hb, List.length_singleton] at hl
 rcases hk with ⟨k, e⟩ | ⟨k, e⟩ | ⟨k, e⟩
 ·rw [nT2 k]; cases tA (qaj e0 out) b <;> simp <;> omega
 ·rw [nT3 k]; cases tA (qaj e0 out) b <;> simp <;> omega
 ·rw [nT4 k]; cases tA (qaj e0 out) b <;> simp <;> omega
theorem qcz.more (h : qcz V nodes out im x rest yes no) (hn : rest.length ≠ 0) {K : Int} (hk : (x.kind = 2 ∧ no = 0 ∧ K = 0) ∨ (x.kind = 3 ∧ yes = 0 ∧ K = 0) ∨ (x.kind = 4 ∧ K = x.K - yes ∧ 0 < K ∧ K ≤ rest.length)) :
  GrwF V out (out ++ [⟨x.kind, K, rest⟩]) ((V + out.length : Nat) : Int) (fun e0 => nv (qaj e0 nodes) x) := by
 obtain ⟨p1, p2, p3, p4⟩ := qav h.ok
 have hl := h.len
 have hlen : 1 ≤ x.args.length ∧ x.args.length ≤ 16 := by
  unfold qbq at p2
  rw [if_neg (by omega), if_neg (by omega)] at p2
  simpa using p2
 have hok : qbe (V : Nat) out.length ⟨x.kind, K, rest⟩ = 0 := by
  refine node_ok p1 ?_ h.args ?_
  ·unfold qbq
   rw [if_neg (by omega), if_neg (by omega)]
   simp only [decide_eq_true_eq]; omega
  ·unfold kOK
   rw [if_neg (by omega)]
   split <;> omega
 refine Grw.toF ((grw_node h.f.ok hok).congr (fun e0 he ht => ?_))
 obtain ⟨h1, h2⟩ := h.v he ht
 rw [h1]
 show nT ⟨x.kind, K, rest⟩ (qcb (qaj e0 out) rest 1) = _
 rcases hk with ⟨k, e, _⟩ | ⟨k, e, _⟩ | ⟨k, e, _⟩
 ·rw [nT2 k, nT2 (x := ⟨x.kind, K, rest⟩) k]; exact dec_eq ⟨fun _ => by simp only at *; omega, fun _ => by simp only at *; omega⟩
 ·rw [nT3 k, nT3 (x := ⟨x.kind, K, rest⟩) k]; exact dec_eq ⟨fun _ => by omega, fun _ => by omega⟩
 ·rw [nT4 k, nT4 (x := ⟨x.kind, K, rest⟩) k]; exact dec_eq ⟨fun _ => by simp only at *; omega, fun _ => by simp only at *; omega⟩
theorem qcz.k5r (h : qcz V nodes out im x rest yes no) (hk : x.kind = 5) (hn : rest.length ≠ 0) : Grw V out (out ++ [⟨5, 0, rest⟩]) ((V + out.length : Nat) : Int) (fun e0 => decide (qcb (qaj e0 out) rest 1 % 2 = 1)) := by
 obtain ⟨p1, p2, p3, p4⟩ := qav h.ok
 have hl := h.len
 have hlen : 1 ≤ x.args.length ∧ x.args.length ≤ 16 := by
  unfold qbq at p2
  rw [if_neg (by omega), if_neg (by omega)] at p2
  simpa using p2
 have hok : qbe (V : Nat) out.length ⟨5, 0, rest⟩ = 0 := by
  refine node_ok (by decide) ?_ h.args (by simp [kOK])
  simp [qbq]; omega
 exact (grw_node h.f.ok hok).congr (fun e0 he ht => nT5 (x := ⟨5, 0, rest⟩) rfl _)
theorem qcz.k5one (h : qcz V nodes out im x rest yes no) {b : Int} (hb : rest = [b]) : Grw V out out b (fun e0 => decide (qcb (qaj e0 out) rest 1 % 2 = 1)) :=
 (h.one hb).congr (fun e0 he ht => by rw [hb, cnt_one]; cases tA (qaj e0 out) b <;> rfl)
theorem qcz.k5even (h : qcz V nodes out im x rest yes no) (hk : x.kind = 5) (hy : yes % 2 ≠ 1) {out' : List Nd} {b : Int} (g : Grw V out out' b (fun e0 => decide (qcb (qaj e0 out) rest 1 % 2 = 1))) : GrwF V out out' b (fun e0 => nv (qaj e0 nodes) x) :=
 Grw.toF (g.congr (fun e0 he ht => by rw [(h.v he ht).1, nT5 hk]; exact dec_eq ⟨fun _ => by omega, fun _ => by omega⟩))
theorem qcz.k5odd (h : qcz V nodes out im x rest yes no) (hk : x.kind = 5) (hy : yes % 2 = 1) {out' : List Nd} {b : Int} (g : Grw V out out' b (fun e0 => decide (qcb (qaj e0 out) rest 1 % 2 = 1))) : GrwF V out (out' ++ [⟨1, 0, [b]⟩]) ((V + out'.length : Nat) : Int) (fun e0 => nv (qaj e0 nodes) x) :=
 Grw.toF ((g.trans (grw_not g.ok g.arg)).congr (fun e0 he ht => by
  rw [g.v e0 he ht, (h.v he ht).1, nT5 hk, ← decide_not]; exact dec_eq ⟨fun _ => by omega, fun _ => by omega⟩))
theorem Fld.end_const {top : Int} (h : Fld V nodes out im) (hV : V ≤ 24) (ht : Arg V nodes.length top) (hc : iA im top = -1 ∨ iA im top = -2) : FEq ⟨(V : Nat), nodes, top⟩ ⟨(V : Nat), [⟨0, iA im top + 2, []⟩], (V : Nat)⟩ := by
 obtain ⟨t1, t2⟩ := ht
 have hok : qbe (V : Nat) 0 ⟨0, iA im top + 2, []⟩ = 0 := node_ok (by decide) rfl (fun a ha => by cases ha) (by show (if (0 : Int) = 0 then _ else _); rw [if_pos rfl]; rcases hc with e | e <;> rw [e] <;> omega)
 have hno : qbc (V : Nat) 0 [] = 0 := rfl
 have g := grw_node (V := V) (out := []) hno hok
 refine ⟨rfl, fm_ok hV (by simp) g.ok (by simpa using g.arg), fun e0 he ht' => ?_⟩
 have hv := h.v e0 (by simpa using he) ht' top.toNat (by omega)
 rw [Int.toNat_of_nonneg t1] at hv
 show tA (qaj e0 [⟨0, iA im top + 2, []⟩]) (V : Nat) = tA (qaj e0 nodes) top
 have gv := g.v e0 (by simpa using he) ht'
 simp only [List.nil_append, List.length_nil, Nat.add_zero] at gv
 rw [gv, ← hv]
 show decide (iA im top + 2 = 1) = fA _ (iA im top)
 rcases hc with e | e <;> rw [e] <;> rfl
end
end Go.Proofs.YteadcgmaailjlaaGreatDoor
namespace Go.Proofs.YteadcgmaailjlaaGreatDoor
open Go.RowKit Go.ChangeShapes Go.WideShapes
theorem qal (l : List Int) : noU (qbm l) := by
 intro u hu n
 obtain ⟨x, _, rfl⟩ := List.mem_map.1 hu
 exact fun e => by cases e
theorem noU_nd {k K : Int} {o : Option Addr} {n c : Nat} : noU [.int .i64 k, .int .i64 K, .slice o n c] := by
 intro u hu k
 simp only [List.mem_cons, List.not_mem_nil, or_false] at hu
 rcases hu with rfl | rfl | rfl <;> exact fun e => by cases e
structure Exc (w w' : World) (X : List Nat) : Prop where
 os : w'.os = w.os
 tape : w'.tape = w.tape
 output : w'.output = w.output
 size : w.heap.size ≤ w'.heap.size
 block : ∀ k, k < w.heap.size → k ∉ X → w'.heap[k]? = w.heap[k]?
section
variable {w w' w'' w0 : World} {X Y : List Nat}
theorem Exc.refl (w : World) (X : List Nat) : Exc w w X := ⟨rfl, rfl, rfl, Nat.le_refl _, fun _ _ _ => rfl⟩
theorem Exc.mono (h : Exc w w' X) (hs : ∀ g ∈ X, g ∈ Y ∨ w.heap.size ≤ g) : Exc w w' Y := ⟨h.os, h.tape, h.output, h.size, fun k hk hn => h.block k hk (fun hx => by
 rcases hs k hx with q | q
 ·exact hn q
 ·omega)⟩
theorem Exc.trans (h : Exc w w' X) (k : Exc w' w'' X) : Exc w w'' X := ⟨k.os.trans h.os, k.tape.trans h.tape, k.output.trans h.output, Nat.le_trans h.size k.size, fun i hi hn => (k.block i (Nat.lt_of_lt_of_le hi h.size) hn).trans (h.block i hi hn)⟩
theorem Exc.of_below (hb : Below w.heap.size w w') : Exc w w' X := ⟨hb.os, hb.tape, hb.output, hb.size, fun k hk _ => hb.block k hk⟩
theorem Exc.of_grown {r : Option Nat} (hg : w.grownBy w' r) (hr : ∀ g, r = some g → g ∈ X) : Exc w w' X := ⟨hg.os, hg.tape, hg.output, hg.size, fun k hk hn => hg.block k hk (fun e => hn (hr k e.symm))⟩
theorem Exc.put {g off : Nat} {l : List Value} (hw : w' = putL w g off l) (hg : g ∈ X) : Exc w w' X :=
 ⟨by rw [hw]; exact (putL_os _ _ _ _).1, by rw [hw]; exact (putL_os _ _ _ _).2.1, by rw [hw]; exact (putL_os _ _ _ _).2.2, by rw [hw, putL_size]; exact Nat.le_refl _, fun k _ hn => by rw [hw, putL_ne (fun e => hn (by rw [e]; exact hg))]⟩
theorem Exc.low {B : Nat} (h : Exc w w' X) (hb : Below B w0 w) (hB : B ≤ w.heap.size) (hX : ∀ g ∈ X, B ≤ g) : Below B w0 w' :=
 hb.trans ⟨h.os, h.tape, h.output, h.size, fun k hk => h.block k (by omega) (fun hx => by have := hX k hx; omega)⟩
theorem Exc.heap {g : Nat} {o : Obj} (h : Exc w w' X) (hg : w.heap[g]? = some o) (hn : g ∉ X) : w'.heap[g]? = some o := by
 rw [h.block g (Array.getElem?_eq_some_iff.1 hg).1 hn]; exact hg
theorem Exc.cell {g i : Nat} {x : Value} (h : Exc w w' X) (hg : w.cell? ⟨g, i, none⟩ = some x) (hn : g ∉ X) : w'.cell? ⟨g, i, none⟩ = some x := by
 rw [← hg]
 exact World.cell?_of_block (w := w) (h.block g (World.block_lt_of_cell? w _ hg) hn)
theorem Exc.ints {a : Value} {l : List Int} (h : Exc w w' X) (hi : qbi w a l) (hn : 0 < l.length → ∀ g, a.ownBlock = some g → g ∉ X) : qbi w' a l := by
 obtain ⟨ao, c, rfl, h1, h2, h3, h4, h5⟩ := hi
 refine ⟨ao, c, rfl, h1, h2, h3, ?_, h5⟩
 intro b off s hs
 obtain ⟨k1, k3⟩ := h4 b off s hs
 refine ⟨fun h0 => ⟨Nat.lt_of_lt_of_le (k1 h0).1 h.size, (k1 h0).2⟩, fun j x hj => ?_⟩
 exact h.cell (k3 j x hj) (hn (getElem?_pos hj) b (by rw [hs]; rfl))
theorem Exc.own {B n size : Nat} {e : TypeId} {v : Value} {xs : List Value} (h : Exc w w' X) (ho : qbx w B e size v n xs) (hn : ∀ g, v.ownBlock = some g → g ∉ X) : qbx w' B e size v n xs := by
 refine ⟨?_, fun g cur hg hc => ?_⟩
 ·obtain ⟨h1, h2⟩ := ho.1
  refine ⟨h1, ?_⟩
  rcases h2 with h2 | ⟨g, cap, cur, hv, hb, hg, r⟩
  ·exact .inl h2
  ·exact .inr ⟨g, cap, cur, hv, hb, h.heap hg (hn g (by rw [hv]; rfl)), r⟩
 ·have hlt := (World.ownsRow.lt ho.1 g hg).2
  rw [h.block g hlt (hn g hg)] at hc
  exact ho.2 g cur hg hc
theorem qbx.base {B B' n size : Nat} {e : TypeId} {v : Value} {xs : List Value} (ho : qbx w B e size v n xs) (hB : B' ≤ B) : qbx w B' e size v n xs := ⟨own_base ho.1 hB, ho.2⟩
theorem qbi.lt_blk {a : Value} {l : List Int} (h : qbi w a l) (h0 : 0 < l.length) : ∀ g, a.ownBlock = some g → g < w.heap.size := by
 obtain ⟨ao, c, rfl, h1, h2, h3, h4, h5⟩ := h
 intro g hg
 cases hao : ao with
 | none => rw [hao] at hg; cases hg
 | some a =>
  obtain ⟨b, off, s⟩ := a
  rw [hao] at hg
  cases hg
  exact (h4 b off s hao).1 h0 |>.1
end
def Sep (a : Value) (l : List Int) (B : Nat) (X : List Nat) : Prop := 0 < l.length → ∀ g, a.ownBlock = some g → B ≤ g ∧ g ∉ X
def NdC (w : World) (B : Nat) (X : List Nat) (v : Value) (xs : List Value) (j : Nat) (x : Nd) : Prop :=
 ∃ o n c, xs[j * 3]? = some (.int .i64 x.kind) ∧ xs[j * 3 + 1]? = some (.int .i64 x.K) ∧ xs[j * 3 + 2]? = some (.slice o n c) ∧ qbi w (.slice o n c) x.args ∧ Sep (.slice o n c) x.args B X ∧
  (0 < x.args.length → ∀ g, (Value.slice o n c).ownBlock = some g → v.ownBlock ≠ some g) ∧ I64 x.kind ∧ I64 x.K
def NdL (w : World) (B : Nat) (X : List Nat) (v : Value) (l : List Nd) : Prop :=
 ∃ xs, qbx w B 56 3 v l.length xs ∧ (∀ g, v.ownBlock = some g → g ∉ X) ∧ ∀ j x, l[j]? = some x → NdC w B X v xs j x
section
variable {w w' : World} {B : Nat} {X Y : List Nat} {v v' : Value} {l : List Nd}
theorem NdL.nil (w : World) (B : Nat) (X : List Nat) : NdL w B X (.slice none 0 0) [] := ⟨[], qbx.nil w B _ _, fun g h => (by cases h), fun j x h => (by simp at h)⟩
theorem NdL.exc (h : NdL w B X v l) (e : Exc w w' Y) (hY : ∀ g ∈ Y, g ∈ X ∨ g < B) : NdL w' B X v l := by
 obtain ⟨xs, h1, h2, h3⟩ := h
 have hv : ∀ g, v.ownBlock = some g → g ∉ Y := fun g hg hy => by
  have := (World.ownsRow.lt h1.1 g hg).1
  rcases hY g hy with q | q
  ·exact h2 g hg q
  ·omega
 refine ⟨xs, e.own h1 hv, h2, fun j x hj => ?_⟩
 obtain ⟨o, n, c, k1, k2, k3, k4, k5, k6, k7⟩ := h3 j x hj
 refine ⟨o, n, c, k1, k2, k3, e.ints k4 (fun h0 g hg hy => ?_), k5, k6, k7⟩
 obtain ⟨q1, q2⟩ := k5 h0 g hg
 rcases hY g hy with q | q
 ·exact q2 q
 ·omega
theorem NdL.below (h : NdL w B X v l) (hb : Below w.heap.size w w') : NdL w' B X v l := h.exc (Exc.of_below (X := []) hb) (fun g hg => by cases hg)
theorem NdL.sub (h : NdL w B X v l) (hs : ∀ g ∈ Y, g ∈ X ∨ w.heap.size ≤ g) : NdL w B Y v l := by
 obtain ⟨xs, h1, h2, h3⟩ := h
 refine ⟨xs, h1, fun g hg hy => ?_, fun j x hj => ?_⟩
 ·rcases hs g hy with q | q
  ·exact h2 g hg q
  ·have := (World.ownsRow.lt h1.1 g hg).2; omega
 ·obtain ⟨o, n, c, k1, k2, k3, k4, k5, k6, k7⟩ := h3 j x hj
  refine ⟨o, n, c, k1, k2, k3, k4, fun h0 g hg => ⟨(k5 h0 g hg).1, fun hy => ?_⟩, k6, k7⟩
  rcases hs g hy with q | q
  ·exact (k5 h0 g hg).2 q
  ·have := k4.lt_blk h0 g hg; omega
theorem NdL.base {B' : Nat} (h : NdL w B X v l) (hB : B' ≤ B) : NdL w B' X v l := by
 obtain ⟨xs, h1, h2, h3⟩ := h
 refine ⟨xs, h1.base hB, h2, fun j x hj => ?_⟩
 obtain ⟨o, n, c, k1, k2, k3, k4, k5, k6, k7⟩ := h3 j x hj
 exact ⟨o, n, c, k1, k2, k3, k4, fun h0 g hg => ⟨Nat.le_trans hB (k5 h0 g hg).1, (k5 h0 g hg).2⟩, k6, k7⟩
theorem NdL.shape (h : NdL w B X v l) : ∃ ao c, v = .slice ao l.length c ∧ l.length ≤ c ∧ c ≤ 9223372036854775807 ∧ (ao = none → c = 0) := by
 obtain ⟨xs, h1, _⟩ := h
 exact qaz h1.1
theorem NdL.lt (h : NdL w B X v l) {g : Nat} (hg : v.ownBlock = some g) : B ≤ g ∧ g < w.heap.size ∧ g ∉ X := by
 obtain ⟨xs, h1, h2, _⟩ := h
 have := World.ownsRow.lt h1.1 g hg
 exact ⟨this.1, this.2, h2 g hg⟩
theorem NdL.app {xs : List Value} {x : Nd} {o : Option Addr} {n c : Nat} (h1 : qbx w B 56 3 v l.length xs) (h2 : ∀ g, v.ownBlock = some g → g ∉ X) (h3 : ∀ j x, l[j]? = some x → NdC w B X v xs j x) (hX : ∀ g ∈ X, g < w.heap.size)
  (ho : qbx w' B 56 3 v' (l.length + 1) (xs ++ [.int .i64 x.kind, .int .i64 x.K, .slice o n c])) (hg : w.grownBy w' v.ownBlock) (hf : ∀ g, g < w.heap.size → v.ownBlock ≠ some g → v'.ownBlock ≠ some g)
  (ha : qbi w (.slice o n c) x.args) (hs : Sep (.slice o n c) x.args B X) (hs2 : 0 < x.args.length → ∀ g, (Value.slice o n c).ownBlock = some g → v.ownBlock ≠ some g) (hk : I64 x.kind) (hK : I64 x.K) : NdL w' B X v' (l ++ [x]) := by
 have e : Exc w w' v.ownBlock.toList := Exc.of_grown hg (fun g hg => by rw [hg]; simp)
 have hne : ∀ {g : Nat}, v.ownBlock ≠ some g → g ∉ v.ownBlock.toList := fun {g} h hm => h (by simpa using hm)
 have hl := h1.1.1
 refine ⟨_, by rw [List.length_append]; exact ho, fun g hg' hx => ?_, fun j y hj => ?_⟩
 ·have hlt := hX g hx
  by_cases q : v.ownBlock = some g
  ·exact h2 g q hx
  ·exact hf g hlt q hg'
 ·by_cases q : j < l.length
  ·rw [List.getElem?_append_left q] at hj
   obtain ⟨o', n', c', k1, k2, k3, k4, k5, k6, k7⟩ := h3 j y hj
   refine ⟨o', n', c', by rw [List.getElem?_append_left (by omega)]; exact k1, by rw [List.getElem?_append_left (by omega)]; exact k2, by rw [List.getElem?_append_left (by omega)]; exact k3, e.ints k4 (fun h0 g hg' => hne (k6 h0 g hg')), k5, fun h0 g hg' => hf g (k4.lt_blk h0 g hg') (k6 h0 g hg'), k7⟩
  ·rw [List.getElem?_append_right (by omega)] at hj
   have e2 : j = l.length := by
    rcases Nat.lt_or_ge (j - l.length) 1 with h | h
    ·omega
    ·rw [List.getElem?_eq_none (by simp; omega)] at hj; cases hj
   subst e2
   rw [Nat.sub_self] at hj
   cases hj
   refine ⟨o, n, c, by rw [List.getElem?_append_right (by omega), hl, Nat.sub_self]; rfl, by rw [List.getElem?_append_right (by omega), show l.length * 3 + 1 - xs.length = 1 by omega]; rfl, by rw [List.getElem?_append_right (by omega), show l.length * 3 + 2 - xs.length = 2 by omega]; rfl, e.ints ha (fun h0 g hg' => hne (hs2 h0 g hg')), hs, fun h0 g hg' => hf g (ha.lt_blk h0 g hg') (hs2 h0 g hg'), hk, hK⟩
theorem NdL.nds (h : NdL w B X v l) : NdsV w v l := by
 obtain ⟨xs, h1, h2, h3⟩ := h
 obtain ⟨ao, c, rfl, k1, k2, k3⟩ := qaz h1.1
 refine ⟨ao, c, rfl, k1, k2, k3, fun b off s hs => ?_⟩
 subst hs
 by_cases h0 : 0 < l.length
 ·obtain ⟨g, e1, e2, e3, e4, e5, e6⟩ := qbt h1.1 rfl h0
  cases e1
  refine ⟨fun _ => ⟨e3, rfl⟩, fun j x hj => ?_⟩
  obtain ⟨o, n, c', q1, q2, q3, q4, q5, q6, q7, q8⟩ := h3 j x hj
  rw [Nat.zero_add]
  exact ⟨e6 _ _ q1, e6 _ _ q2, ⟨_, e6 _ _ q3, q4⟩, q7, q8⟩
 ·have : l = [] := List.eq_nil_of_length_eq_zero (by omega)
  subst this
  exact ⟨fun h => absurd h (Nat.lt_irrefl _), fun j x hj => by simp at hj⟩
end
structure Chg (w w' : World) (Y : List Nat) (v v' : Value) : Prop where
 exc : Exc w w' (v.ownBlock.toList ++ Y)
 fresh : ∀ k, k < w.heap.size → v.ownBlock ≠ some k → v'.ownBlock ≠ some k
section
variable {w w' w'' w0 : World} {Y X : List Nat} {v v' v'' : Value}
theorem Chg.refl (w : World) (Y : List Nat) (v : Value) : Chg w w Y v v := ⟨Exc.refl _ _, fun _ _ h => h⟩
theorem Chg.of_below (hb : Below w.heap.size w w') : Chg w w' Y v v := ⟨Exc.of_below hb, fun _ _ h => h⟩
theorem Chg.trans (h : Chg w w' Y v v') (k : Chg w' w'' Y v' v'') : Chg w w'' Y v v'' := by
 refine ⟨⟨k.exc.os.trans h.exc.os, k.exc.tape.trans h.exc.tape, k.exc.output.trans h.exc.output, Nat.le_trans h.exc.size k.exc.size, fun i hi hn => ?_⟩, fun i hi hn => k.fresh i (Nat.lt_of_lt_of_le hi h.exc.size) (h.fresh i hi hn)⟩
 simp only [List.mem_append, Option.mem_toList, not_or] at hn
 have h1 := h.exc.block i hi (by simp only [List.mem_append, Option.mem_toList, not_or]; exact hn)
 have h2 := k.exc.block i (Nat.lt_of_lt_of_le hi h.exc.size) (by simp only [List.mem_append, Option.mem_toList, not_or]; exact ⟨h.fresh i hi hn.1, hn.2⟩)
 rw [h2, h1]
theorem Chg.mono (h : Chg w w' Y v v') (hs : ∀ g ∈ Y, g ∈ X ∨ w.heap.size ≤ g) : Chg w w' X v v' := by
 refine ⟨h.exc.mono (fun g hg => ?_), h.fresh⟩
 rw [List.mem_append] at hg ⊢
 rcases hg with q | q
 ·exact .inl (.inl q)
 ·rcases hs g q with r | r
  ·exact .inl (.inr r)
  ·exact .inr r
theorem Chg.put {g off : Nat} {l : List Value} (hw : w' = putL w g off l) (hg : g ∈ Y) : Chg w w' Y v v := ⟨Exc.put hw (List.mem_append.2 (.inr hg)), fun _ _ h => h⟩
theorem Chg.grown (hg : w.grownBy w' v.ownBlock) (hf : ∀ g, g < w.heap.size → v.ownBlock ≠ some g → v'.ownBlock ≠ some g) : Chg w w' Y v v' :=
 ⟨Exc.of_grown hg (fun g h => List.mem_append.2 (.inl (by rw [h]; simp))), hf⟩
theorem Chg.low {B : Nat} (h : Chg w w' Y v v') (hb : Below B w0 w) (hB : B ≤ w.heap.size) (hY : ∀ g ∈ Y, B ≤ g) (hv : ∀ g, v.ownBlock = some g → B ≤ g) : Below B w0 w' :=
 h.exc.low hb hB (fun g hg => by
  rw [List.mem_append] at hg
  rcases hg with q | q
  ·exact hv g (by simpa using q)
  ·exact hY g q)
theorem Chg.heap {g : Nat} {o : Obj} (h : Chg w w' Y v v') (hg : w.heap[g]? = some o) (h1 : v.ownBlock ≠ some g) (h2 : g ∉ Y) : w'.heap[g]? = some o :=
 h.exc.heap hg (by simp only [List.mem_append, Option.mem_toList, not_or]; exact ⟨h1, h2⟩)
theorem Chg.ints {a : Value} {l : List Int} (h : Chg w w' Y v v') (hi : qbi w a l) (hn : 0 < l.length → ∀ g, a.ownBlock = some g → v.ownBlock ≠ some g ∧ g ∉ Y) : qbi w' a l :=
 h.exc.ints hi (fun h0 g hg => by simp only [List.mem_append, Option.mem_toList, not_or]; exact hn h0 g hg)
theorem Chg.own {B n size : Nat} {e : TypeId} {u : Value} {xs : List Value} (h : Chg w w' Y v v') (ho : qbx w B e size u n xs) (hn : ∀ g, u.ownBlock = some g → v.ownBlock ≠ some g ∧ g ∉ Y) : qbx w' B e size u n xs :=
 h.exc.own ho (fun g hg => by simp only [List.mem_append, Option.mem_toList, not_or]; exact hn g hg)
end
theorem Tryz.nodeTy : qdj Tryz.prog 22 56 (.agg #[.int .i64 0, .int .i64 0, .slice none 0 0]) 3 40 := .mk' Tryz.underlying22 (by kernel_rfl)
theorem Tryz.intTyK : qdj Tryz.prog 54 3 (.int .i64 0) 1 8 := .mk' Tryz.underlying54 (by kernel_rfl)
structure Mk (w : World) (B : Nat) (X : List Nat) (gm : Nat) (v : Value) (V : Nat) (out : List Nd) (full : Bool) : Prop where
 cells : w.heap[gm]? = some (.cells #[.int .i64 V, v, .bool full] 61)
 nds : NdL w B X v out
 mem : gm ∈ X
 len : out.length ≤ 128
 base : B ≤ gm
 all : ∀ g ∈ X, g < w.heap.size
structure Bd (w : World) (B : Nat) (X : List Nat) (gm : Nat) (v : Value) (V : Nat) (out : List Nd) (top : Int) : Prop where
 cells : w.heap[gm]? = some (.cells #[.int .i64 V, v, .int .i64 top] 65)
 nds : NdL w B X v out
 mem : gm ∈ X
 base : B ≤ gm
 all : ∀ g ∈ X, g < w.heap.size
section
variable {w w' w0 : World} {B gm V : Nat} {X Y : List Nat} {v v' : Value} {out : List Nd} {full : Bool} {top : Int}
theorem Mk.exc (h : Mk w B X gm v V out full) (e : Exc w w' Y) (hY : ∀ g ∈ Y, g ∈ X ∨ g < B) (hm : gm ∉ Y) : Mk w' B X gm v V out full :=
 ⟨e.heap h.cells hm, h.nds.exc e hY, h.mem, h.len, h.base, fun g hg => Nat.lt_of_lt_of_le (h.all g hg) e.size⟩
theorem Mk.below (h : Mk w B X gm v V out full) (hb : Below w.heap.size w w') : Mk w' B X gm v V out full := h.exc (Exc.of_below (X := []) hb) (fun g hg => by cases hg) (by simp)
theorem Mk.sub (h : Mk w B X gm v V out full) (hm : gm ∈ Y) (hs : ∀ g ∈ Y, g ∈ X) : Mk w B Y gm v V out full := ⟨h.cells, h.nds.sub (fun g hg => .inl (hs g hg)), hm, h.len, h.base, fun g hg => h.all g (hs g hg)⟩
theorem Mk.new (h : Mk w B X gm v V out full) (hb : Below w.heap.size w w') (hs : ∀ g ∈ Y, g ∈ X ∨ (w.heap.size ≤ g ∧ g < w'.heap.size)) (hm : gm ∈ Y) : Mk w' B Y gm v V out full := by
 have h0 : NdL w B Y v out := h.nds.sub (fun g hg => by
  rcases hs g hg with q | q
  ·exact .inl q
  ·exact .inr q.1)
 refine ⟨qaa h.cells hb, h0.below hb, hm, h.len, h.base, fun g hg => ?_⟩
 rcases hs g hg with q | q
 ·exact Nat.lt_of_lt_of_le (h.all g q) hb.size
 ·exact q.2
theorem Mk.low {v' : Value} (h : Mk w B X gm v V out full) (c : Chg w w' [gm] v v') (hb : Below B w0 w) : Below B w0 w' :=
 c.low hb (Nat.le_trans h.base (Nat.le_of_lt (h.all gm h.mem))) (fun g hg => by rw [List.mem_singleton] at hg; subst hg; exact h.base) (fun g hg => (h.nds.lt hg).1)
theorem Mk.ne (h : Mk w B X gm v V out full) {g : Nat} (hg : g ∈ X) : v.ownBlock ≠ some g := fun e => (h.nds.lt e).2.2 hg
theorem Mk.keep {g : Nat} {o : Obj} (h : Mk w B X gm v V out full) (c : Chg w w' [gm] v v') (hg : g ∈ X) (hn : g ≠ gm) (ho : w.heap[g]? = some o) : w'.heap[g]? = some o :=
 c.heap ho (h.ne hg) (by simpa using hn)
theorem Mk.keepI {a : Value} {l : List Int} (h : Mk w B X gm v V out full) (c : Chg w w' [gm] v v') (hg : ∀ g, a.ownBlock = some g → g ∈ X ∧ g ≠ gm) (hi : qbi w a l) : qbi w' a l :=
 c.ints hi (fun _ g e => ⟨h.ne (hg g e).1, by simpa using (hg g e).2⟩)
theorem Mk.keepO {n size : Nat} {B2 : Nat} {e : TypeId} {u : Value} {xs : List Value} (h : Mk w B X gm v V out full) (c : Chg w w' [gm] v v') (hg : ∀ g, u.ownBlock = some g → g ∈ X ∧ g ≠ gm) (ho : qbx w B2 e size u n xs) : qbx w' B2 e size u n xs :=
 c.own ho (fun g e => ⟨h.ne (hg g e).1, by simpa using (hg g e).2⟩)
theorem Bd.exc (h : Bd w B X gm v V out top) (e : Exc w w' Y) (hY : ∀ g ∈ Y, g ∈ X ∨ g < B) (hm : gm ∉ Y) : Bd w' B X gm v V out top :=
 ⟨e.heap h.cells hm, h.nds.exc e hY, h.mem, h.base, fun g hg => Nat.lt_of_lt_of_le (h.all g hg) e.size⟩
theorem Bd.below (h : Bd w B X gm v V out top) (hb : Below w.heap.size w w') : Bd w' B X gm v V out top := h.exc (Exc.of_below (X := []) hb) (fun g hg => by cases hg) (by simp)
theorem Bd.sub (h : Bd w B X gm v V out top) (hm : gm ∈ Y) (hs : ∀ g ∈ Y, g ∈ X) : Bd w B Y gm v V out top := ⟨h.cells, h.nds.sub (fun g hg => .inl (hs g hg)), hm, h.base, fun g hg => h.all g (hs g hg)⟩
theorem Bd.new (h : Bd w B X gm v V out top) (hb : Below w.heap.size w w') (hs : ∀ g ∈ Y, g ∈ X ∨ (w.heap.size ≤ g ∧ g < w'.heap.size)) (hm : gm ∈ Y) : Bd w' B Y gm v V out top := by
 have h0 : NdL w B Y v out := h.nds.sub (fun g hg => by
  rcases hs g hg with q | q
  ·exact .inl q
  ·exact .inr q.1)
 refine ⟨qaa h.cells hb, h0.below hb, hm, h.base, fun g hg => ?_⟩
 rcases hs g hg with q | q
 ·exact Nat.lt_of_lt_of_le (h.all g q) hb.size
 ·exact q.2
theorem Bd.low {v' : Value} (h : Bd w B X gm v V out top) (c : Chg w w' [gm] v v') (hb : Below B w0 w) : Below B w0 w' :=
 c.low hb (Nat.le_trans h.base (Nat.le_of_lt (h.all gm h.mem))) (fun g hg => by rw [List.mem_singleton] at hg; subst hg; exact h.base) (fun g hg => (h.nds.lt hg).1)
theorem Bd.ne (h : Bd w B X gm v V out top) {g : Nat} (hg : g ∈ X) : v.ownBlock ≠ some g := fun e => (h.nds.lt e).2.2 hg
theorem Bd.keep {g : Nat} {o : Obj} (h : Bd w B X gm v V out top) (c : Chg w w' [gm] v v') (hg : g ∈ X) (hn : g ≠ gm) (ho : w.heap[g]? = some o) : w'.heap[g]? = some o :=
 c.heap ho (h.ne hg) (by simpa using hn)
theorem Bd.keepI {a : Value} {l : List Int} (h : Bd w B X gm v V out top) (c : Chg w w' [gm] v v') (hg : ∀ g, a.ownBlock = some g → g ∈ X ∧ g ≠ gm) (hi : qbi w a l) : qbi w' a l :=
 c.ints hi (fun _ g e => ⟨h.ne (hg g e).1, by simpa using (hg g e).2⟩)
theorem Bd.keepO {n size : Nat} {B2 : Nat} {e : TypeId} {u : Value} {xs : List Value} (h : Bd w B X gm v V out top) (c : Chg w w' [gm] v v') (hg : ∀ g, u.ownBlock = some g → g ∈ X ∧ g ≠ gm) (ho : qbx w B2 e size u n xs) : qbx w' B2 e size u n xs :=
 c.own ho (fun g e => ⟨h.ne (hg g e).1, by simpa using (hg g e).2⟩)
end
section
variable {P : Program} {ops : Array Oper} {md : Region.Mode}
structure DrawInvG (md : Region.Mode) (ops : Array Oper) (n : Nat) (F : Nat → Value → World → Prop) (AL : Nat → Bool) (Ac : Bool → World → Prop) (sp : Nat) (a0 : Act) (listed : Array Bool) (a : Act) (w : World) : Prop where
 head : HeadInv md ops n listed
 acc : Ac (listed.getD sp false) w
 vals : ∃ vals : Nat → Value, a = qat ops (fun j => listed.getD j false) vals a0 n ∧ (∀ j, j < n → listed.getD j false = true → F j (vals j) w) ∧
  (∀ j, j < n → listed.getD j false = true → AL j = true → ∃ g, vals j = .pointer (some ⟨g, 0, none⟩) ∧ g < w.heap.size) ∧
  (∀ j k, j < n → k < n → j ≠ k → listed.getD j false = true → listed.getD k false = true → AL j = true → AL k = true → vals j ≠ vals k)

def LeavesG (F : Nat → Value → World → Prop) (AL : Nat → Bool) (Ac : Bool → World → Prop) (sp i : Nat) (b : Bool) (w1 : World) (v : Value) (w2 : World) : Prop :=
 w1.heap.size ≤ w2.heap.size ∧ (∀ j u, j ≠ i → F j u w1 → F j u w2) ∧ Ac (b || i == sp) w2 ∧ F i v w2 ∧ (AL i = true → v = .pointer (some ⟨w1.heap.size, 0, none⟩) ∧ w1.heap.size < w2.heap.size)
theorem leavesG_mk {F : Nat → Value → World → Prop} {AL : Nat → Bool} {Ac : Bool → World → Prop} {sp i : Nat} {b : Bool} {w1 w2 : World} {v : Value} (hM : ∀ j v w1 w2, F j v w1 → Below w1.heap.size w1 w2 → F j v w2) (hAM : ∀ b w1 w2, Ac b w1 → Below w1.heap.size w1 w2 → Ac b w2) (hi : (i == sp) = false) (hac : Ac b w1)
  (hb : Below w1.heap.size w1 w2) (hf : F i v w2) (hal : AL i = true → v = .pointer (some ⟨w1.heap.size, 0, none⟩) ∧ w1.heap.size < w2.heap.size) : LeavesG F AL Ac sp i b w1 v w2 :=
 ⟨hb.size, fun j u _ h => hM j u w1 w2 h hb, by rw [hi, Bool.or_false]; exact hAM b w1 w2 hac hb, hf, hal⟩
theorem qLg {F : Nat → Value → World → Prop} {AL : Nat → Bool} {Ac : Bool → World → Prop} {sp i : Nat} {b : Bool} {w1 : World} {v : Value} (hM : ∀ j v w1 w2, F j v w1 → Below w1.heap.size w1 w2 → F j v w2) (hAM : ∀ b w1 w2, Ac b w1 → Below w1.heap.size w1 w2 → Ac b w2) (hi : (i == sp) = false) (hac : Ac b w1)
    (hf : F i v w1) (h : AL i = false) : LeavesG F AL Ac sp i b w1 v w1 := leavesG_mk hM hAM hi hac (Below.refl _ _) hf (fun k => by rw [h] at k; cases k)
theorem DrawInvG.next {n i : Nat} {oi : Oper} {fl : List Nat} {F : Nat → Value → World → Prop} {AL : Nat → Bool} {Ac : Bool → World → Prop} {sp : Nat} {w w' : World} {a0 a : Act} {listed : Array Bool} {v : Value} (hB : headB md ops fl n = true)
  (inv : DrawInvG md ops n F AL Ac sp a0 listed a w) (hi : i ∈ Region.ready md ops listed) (hin : i < n) (hoi : ops[i]? = some oi)
  (h : LeavesG F AL Ac sp i (listed.getD sp false) w v w') : DrawInvG md ops n F AL Ac sp a0 (listed.setIfInBounds i true) (a.put oi.dst v) w' := by
 obtain ⟨hiu, oi', hoi', hdeps⟩ := mem_ready.1 hi
 have : oi' = oi := Option.some.inj (hoi'.symm.trans hoi)
 subst this
 have hiu' := getD_both hiu
 have ok := headB_ok hB hin hoi
 have his : i < listed.size := by rw [inv.head.size]; exact (Array.getElem?_eq_some_iff.1 hoi).1
 have hdst : qcf ops i = oi'.dst := by unfold qcf; rw [hoi]; rfl
 obtain ⟨vals, rfl, hv, hg, hd⟩ := inv.vals
 obtain ⟨hb, hsv, hacc, hf, hal⟩ := h
 have hAcc : Ac ((listed.setIfInBounds i true).getD sp false) w' := by
  by_cases hs : i = sp
  ·subst hs
   have : (listed.setIfInBounds i true).getD i false = true := by simp [his]
   rw [this]; simpa using hacc
  ·rw [getD_set_ne false hs]
   have : (i == sp) = false := by simpa using hs
   rw [this, Bool.or_false] at hacc; exact hacc
 refine ⟨inv.head.set hi hin, hAcc, fun j => if j = i then v else vals j, ?_, ?_, ?_, ?_⟩
 ·rw [← hdst, ← putsTo_set hiu' n hin (fun j hj hji => by rw [hdst]; exact ok.dst j hj hji)]
  refine qdc fun j hj => ⟨?_, fun _ => rfl⟩
  by_cases hji : j = i
  ·subst hji; rw [if_pos rfl]; simp [his]
  ·rw [if_neg hji, getD_set_ne false (Ne.symm hji)]
 ·intro j hj hl
  show F j (if j = i then v else vals j) w'
  by_cases hji : j = i
  ·subst hji; rw [if_pos rfl]; exact hf
  ·rw [if_neg hji]
   rw [getD_set_ne false (Ne.symm hji)] at hl
   exact hsv _ _ hji (hv j hj hl)
 ·intro j hj hl aj
  show ∃ g, (if j = i then v else vals j) = _ ∧ _
  by_cases hji : j = i
  ·subst hji; rw [if_pos rfl]
   obtain ⟨e1, e2⟩ := hal aj
   exact ⟨_, e1, e2⟩
  ·rw [if_neg hji]
   rw [getD_set_ne false (Ne.symm hji)] at hl
   obtain ⟨g, e1, e2⟩ := hg j hj hl aj
   exact ⟨g, e1, Nat.lt_of_lt_of_le e2 hb⟩
 ·intro j k' hj hk' hjk hl hl' aj ak
  show (if j = i then v else vals j) ≠ (if k' = i then v else vals k')
  by_cases hji : j = i
  ·subst hji
   have hki : k' ≠ j := fun e => hjk e.symm
   rw [if_pos rfl, if_neg hki]
   rw [getD_set_ne false (Ne.symm hki)] at hl'
   obtain ⟨e1, e2⟩ := hal aj
   obtain ⟨g, e3, e4⟩ := hg k' hk' hl' ak
   rw [e1, e3]
   intro h
   cases h; omega
  ·rw [if_neg hji]
   rw [getD_set_ne false (Ne.symm hji)] at hl
   by_cases hki : k' = i
   ·subst hki
    rw [if_pos rfl]
    obtain ⟨e1, e2⟩ := hal ak
    obtain ⟨g, e3, e4⟩ := hg j hj hl aj
    rw [e1, e3]
    intro h
    cases h; omega
   ·rw [if_neg hki]
    rw [getD_set_ne false (Ne.symm hki)] at hl'
    exact hd j k' hj hk' hjk hl hl' aj ak

theorem wpAny_of_factsG {n : Nat} {fl : List Nat} {Q : Exit → Act → World → Prop} {F : Nat → Value → World → Prop} {AL : Nat → Bool} {Ac : Bool → World → Prop} {sp : Nat} {a0 : Act} (hB : headB md ops fl n = true)
  (hQ : ∀ c (a : Act) (d : Tmp) v w, Q (.panic c) (a.put (some d) v) w → Q (.panic c) a w)
  (hstep : ∀ i o, i < n → ops[i]? = some o → ∀ (vals : Nat → Value) (w1 : World) (b : Bool), (i = sp → b = false) → Ac b w1 → (∀ j, Region.waitsFor md ops i j = true → F j (vals j) w1) →
   if fl.contains i then StepPure P o (qat ops (fun _ => true) vals a0 n) (fun v => LeavesG F AL Ac sp i b w1 v w1) else StepG P ops o (qat ops (fun _ => true) vals a0 n) w1 (LeavesG F AL Ac sp i b w1))
  (hsp : sp < n) (hend : ∀ (vals : Nat → Value) (w1 : World), Ac true w1 → (∀ i, i < n → F i (vals i) w1) → (∀ i j, i < n → j < n → i ≠ j → AL i = true → AL j = true → vals i ≠ vals j) →
   wpList P ops Q (ops.toList.drop n) (qat ops (fun _ => true) vals a0 n) w1) :
  ∀ (m : Nat) (listed : Array Bool) (a : Act) (w : World), unl listed n = m → DrawInvG md ops n F AL Ac sp a0 listed a w → wpAny P md ops Q (m + (ops.size - n)) listed a w := by
 have hB' := hB
 unfold headB at hB'
 simp only [Bool.and_eq_true, decide_eq_true_eq] at hB'
 obtain ⟨⟨⟨⟨⟨hsel, hn⟩, ⟨hs, hfb⟩, hfn⟩, hc⟩, _⟩, hseq⟩ := hB'
 intro m
 induction m with
 | zero =>
  intro listed a w hm inv
  have hall := unl_zero n hm
  obtain ⟨vals, rfl, hv, _, hd⟩ := inv.vals
  have hl : listed = (Array.range ops.size).map fun i => decide (i < n) := by
   apply Array.ext
   ·simp [inv.head.size]
   ·intro j h1 h2
    simp only [Array.getElem_map, Array.getElem_range]
    by_cases hj : j < n
    ·have := hall j hj
     simp [h1] at this; rw [this, decide_eq_true hj]
    ·have hjs : j < ops.size := by rw [← inv.head.size]; exact h1
     have := inv.head.tail j (by omega) hjs
     simp [h1] at this; rw [this, decide_eq_false hj]
  have hend' := hend vals w (by have := inv.acc; rwa [hall sp hsp] at this) (fun i hi => hv i hi (hall i hi)) (fun i j hi hj hij ai aj => hd i j hi hj hij (hall i hi) (hall j hj) ai aj)
  rw [qdc (l' := fun _ => true) (v' := vals) (fun j hj => ⟨hall j hj, fun _ => rfl⟩)]
  rw [Nat.zero_add]
  have hlen : (ops.toList.drop n).length = ops.size - n := by simp
  have := wpAny_of_seq (P := P) (md := md) (Q' := Q) (ops.toList.drop n) n listed (qat ops (fun _ => true) vals a0 n) w (fun j => by simp [List.getElem?_drop]) (by rw [hlen, hl]; exact hseq) hend'
  rwa [hlen] at this
 | succ m ih =>
  intro listed a w hm inv
  have step : ∀ i oi, i ∈ Region.ready md ops listed → i < n → ops[i]? = some oi →
    (execOp a.eval oi = execOp (qat ops (fun _ => true) (Classical.choose inv.vals) a0 n).eval oi ∧ Region.wanted oi (yielded ops a.tmps) = Region.wanted oi (yielded ops (qat ops (fun _ => true) (Classical.choose inv.vals) a0 n).tmps)) ∧ (∀ j, Region.waitsFor md ops i j = true → F j (Classical.choose inv.vals j) w) ∧ unl (listed.setIfInBounds i true) n = m := by
   intro i oi hi hin hoi
   obtain ⟨ha, hv, _, _⟩ := Classical.choose_spec inv.vals
   obtain ⟨hiu, oi', hoi', hdeps⟩ := mem_ready.1 hi
   have : oi' = oi := Option.some.inj (hoi'.symm.trans hoi)
   subst this
   have ok := headB_ok hB hin hoi
   have his : i < listed.size := by rw [inv.head.size]; exact (Array.getElem?_eq_some_iff.1 hoi).1
   have hwl : ∀ j, Region.waitsFor md ops i j = true → listed.getD j false = true := fun j hj => by
    obtain ⟨o', ho', e, he, hb, hon⟩ := Region.waitsFor_spec hj
    have : o' = oi' := Option.some.inj (ho'.symm.trans hoi)
    subst this
    rw [← hon]; exact hdeps e he hb
   have hwn : ∀ j, Region.waitsFor md ops i j = true → j < n := fun j hj => by
    obtain ⟨o', ho', e, he, hb, hon⟩ := Region.waitsFor_spec hj
    have : o' = oi' := Option.some.inj (ho'.symm.trans hoi)
    subst this
    have := ok.early e he hb; omega
   refine ⟨?_, fun j hj => hv j (hwn j hj) (hwl j hj), by have := unl_set his (getD_both hiu) n hin; omega⟩
   have e := execOp_congr oi' (ρ := (qat ops (fun j => listed.getD j false) (Classical.choose inv.vals) a0 n).eval) (ρ' := (qat ops (fun _ => true) (Classical.choose inv.vals) a0 n).eval) (fun cs b => Region.noSelect_spec hsel i oi' cs b hoi)
    fun x hx => (putsTo_eval n (fun t ht j hj hdj => hwl j (ok.reads x hx t ht j hj hdj))).1
   have e2 := putsTo_wanted (ops := ops) (l := fun j => listed.getD j false) (vals := Classical.choose inv.vals) (a := a0) (o := oi') n (fun g b hg t ht j hj hdj => by
    obtain ⟨hgn, hw⟩ := ok.guard g b hg
    by_cases hjg : j = g
    ·subst hjg; exact hwl _ hw
    ·exfalso
     have hgs : g < ops.size := by omega
     have okg := headB_ok hB hgn (Array.getElem?_eq_getElem hgs)
     refine okg.dst j hj hjg t ?_ hdj
     unfold qcf at ht
     rw [Array.getElem?_eq_getElem hgs] at ht; exact ht)
   rw [← ha] at e e2; exact ⟨e, e2⟩
  obtain ⟨k, hk, hku, hkl⟩ := unl_first (listed := listed) n (by omega)
  have hks : k < listed.size := by rw [inv.head.size]; omega
  have hkt := getD_in hks hku
  have hready : k ∈ Region.ready md ops listed := by
   rw [mem_ready]
   refine ⟨hkt, ops[k]'(by omega), by rw [Array.getElem?_eq_getElem], fun e he hb => ?_⟩
   exact hkl _ ((headB_ok hB hk (Array.getElem?_eq_getElem (by omega))).early e he hb)
  rw [show m + 1 + (ops.size - n) = (m + (ops.size - n)) + 1 by omega]
  by_cases hfl : ∃ i, i < n ∧ i ∈ Region.ready md ops listed ∧ fl.contains i = true
  ·obtain ⟨i, hin, hi, hif⟩ := hfl
   obtain ⟨_, oi, hoi, _⟩ := mem_ready.1 hi
   obtain ⟨he, hdp, hu⟩ := step i oi hi hin hoi
   have st := hstep i oi hin hoi (Classical.choose inv.vals) w (listed.getD sp false) (fun e => by subst e; exact getD_both (mem_ready.1 hi).1) inv.acc hdp
   rw [if_pos hif] at st
   obtain ⟨v, hv, hL⟩ := st
   have hfi := List.all_eq_true.1 hfb i (by simpa using hif)
   rw [hoi] at hfi
   simp only [Bool.and_eq_true] at hfi
   obtain ⟨hgn, hfi⟩ := hfi
   have hgn : oi.guard = none := by simpa using hgn
   refine wpAny_first hoi (Region.noSelect_spec hsel) (fun c a w h => by
    cases hd : oi.dst with
    | none => rw [hd] at h; exact h
    | some d => rw [hd] at h; exact hQ c a d v w h) _ listed a w ?_ hi (.inl ⟨by simp [Region.wanted, hgn], fun w' => by rw [he.1]; exact hv w'⟩) (ih _ _ _ hu (inv.next hB hi hin hoi hL))
   intro j oj hj hji hun hno
   have h1 := List.all_eq_true.1 hfi j (List.mem_range.2 (Array.getElem?_eq_some_iff.1 hj).1)
   rw [hj] at h1
   simp only [Bool.or_eq_true, beq_iff_eq, hji, false_or] at h1
   rcases h1 with (h1 | h1) | h1
   ·obtain ⟨o', ho', e, he, hb, hon⟩ := Region.waitsFor_spec h1
    have : o' = oj := Option.some.inj (ho'.symm.trans hj)
    subst this
    exact absurd hon (hno e he hb)
   ·obtain ⟨o', ho', e, he, hb, hon⟩ := Region.waitsFor_spec h1
    obtain ⟨_, o2, ho2, hall⟩ := mem_ready.1 hi
    have : o' = o2 := Option.some.inj (ho'.symm.trans ho2)
    subst this
    have := hall e he hb
    rw [hon, getD_both hun] at this; cases this
   ·exact h1
  ·have hkf : fl.contains k = false := by
    cases h : fl.contains k with
    | false => rfl
    | true => exact absurd ⟨k, hk, hready, h⟩ hfl
   refine ⟨fun h0 => (by rw [h0] at hready; cases hready), fun i hi => ?_⟩
   have hin : i < n := by
    rcases Nat.lt_or_ge i n with h | h
    ·exact h
    ·exact absurd hi (tail_waitsF hs hc hn inv.head _ k rfl hk hkf hkt i h)
   obtain ⟨_, oi, hoi, _⟩ := mem_ready.1 hi
   obtain ⟨he, hdp, hu⟩ := step i oi hi hin hoi
   have st := hstep i oi hin hoi (Classical.choose inv.vals) w (listed.getD sp false) (fun e => by subst e; exact getD_both (mem_ready.1 hi).1) inv.acc hdp
   rw [if_neg (fun h => hfl ⟨i, hin, hi, h⟩)] at st
   refine wpOp_of_stepG hoi he.2 he.1 st ?_
   intro v w' hL
   exact ih _ _ _ hu (inv.next hB hi hin hoi hL)

def stepsOKG (P : Program) (md : Region.Mode) (ops : Array Oper) (fl : List Nat) (F : Nat → Value → World → Prop) (AL : Nat → Bool) (Ac : Bool → World → Prop) (sp : Nat) (A : (Nat → Value) → Act) : List Oper → Nat → Prop
 | [], _ => True
 | o :: l, i => (∀ (vals : Nat → Value) (w1 : World) (b : Bool), (i = sp → b = false) → Ac b w1 → (∀ j, Region.waitsFor md ops i j = true → F j (vals j) w1) →
   if fl.contains i then StepPure P o (A vals) (fun v => LeavesG F AL Ac sp i b w1 v w1) else StepG P ops o (A vals) w1 (LeavesG F AL Ac sp i b w1)) ∧
  stepsOKG P md ops fl F AL Ac sp A l (i + 1)
theorem stepsOKG_at {fl : List Nat} {F : Nat → Value → World → Prop} {AL : Nat → Bool} {Ac : Bool → World → Prop} {sp : Nat} {A : (Nat → Value) → Act} : ∀ (l : List Oper) (i : Nat), stepsOKG P md ops fl F AL Ac sp A l i → ∀ k o, l[k]? = some o →
  ∀ (vals : Nat → Value) (w1 : World) (b : Bool), (i + k = sp → b = false) → Ac b w1 → (∀ j, Region.waitsFor md ops (i + k) j = true → F j (vals j) w1) →
   if fl.contains (i + k) then StepPure P o (A vals) (fun v => LeavesG F AL Ac sp (i + k) b w1 v w1) else StepG P ops o (A vals) w1 (LeavesG F AL Ac sp (i + k) b w1)
 | [], _, _, k, o, h => by simp at h
 | x :: l, i, hs, 0, o, h => by
  simp at h; subst h
  exact hs.1
 | x :: l, i, hs, k + 1, o, h => by
  have := stepsOKG_at l (i + 1) hs.2 k o (by simpa using h)
  rw [show i + 1 + k = i + (k + 1) by omega] at this
  exact this
theorem qcx {id : Nat} {Q : Exit → Act → World → Prop} {a : Act} {w : World} {l : List Oper} {A : (Nat → Value) → Act} (n : Nat) (fl : List Nat) (hm : P.follows .mixedOrders = true) (F : Nat → Value → World → Prop) (AL : Nat → Bool) (Ac : Bool → World → Prop) (sp : Nat) (hsp : sp < n) (h0 : Ac false { w with drawn := w.drawn + 1 })
  (hB : headB .any l.toArray fl n = true)
  (hQ : ∀ c (a : Act) (d : Tmp) v w, Q (.panic c) (a.put (some d) v) w → Q (.panic c) a w)
  (hA : ∀ vals : Nat → Value, qat l.toArray (fun _ => true) vals a n = A vals)
  (hstep : stepsOKG P .any l.toArray fl F AL Ac sp A (l.take n) 0)
  (hend : ∀ (vals : Nat → Value) (w1 : World), Ac true w1 → (∀ i, i < n → F i (vals i) w1) → (∀ i j, i < n → j < n → i ≠ j → AL i = true → AL j = true → vals i ≠ vals j) →
   wpList P l.toArray Q (l.drop n) (A vals) w1) : (Code.region id l.toArray true).wp P Q a w := by
 refine wp_region_any hm ?_
 have hB' := hB
 unfold headB at hB'
 simp only [Bool.and_eq_true, decide_eq_true_eq] at hB'
 have hn : n < l.toArray.size := hB'.1.1.1.1.2
 have hu : ∀ k, unl (Array.replicate l.toArray.size false) k = k := fun k => by
  induction k with
  | zero => rfl
  | succ k ih => unfold unl; rw [ih, getD_replicate_false]; rfl
 have key := wpAny_of_factsG (P := P) (Q := Q) (F := F) (AL := AL) (Ac := Ac) (sp := sp) (a0 := a) hB hQ (fun i o hi ho vals w1 b hs hb hd => by
   have := stepsOKG_at (l.take n) 0 hstep i o (by
    rw [List.getElem?_take, if_pos hi]; simpa using ho)
   rw [Nat.zero_add] at this; rw [hA]; exact this vals w1 b hs hb hd) hsp (fun vals w1 hb hf hd => by rw [hA]; simpa using hend vals w1 hb hf hd) n (Array.replicate l.toArray.size false) a { w with drawn := w.drawn + 1 } (hu n)
  ⟨⟨by simp, fun j oj _ hl => (by rw [getD_replicate_false] at hl; cases hl), fun t _ ht => getD_in (by simpa using ht) (getD_replicate_false _ _)⟩,
   by rw [getD_replicate_false]; exact h0, fun _ => undef, by
    have : ∀ k, qat l.toArray (fun j => (Array.replicate l.toArray.size false).getD j false) (fun _ => undef) a k = a := fun k => by
     induction k with
     | zero => rfl
     | succ k ih => unfold qat; rw [if_neg (by rw [getD_replicate_false]; decide), ih]
    exact (this n).symm, fun j _ hl => (by rw [getD_replicate_false] at hl; cases hl), fun j _ hl => (by rw [getD_replicate_false] at hl; cases hl), fun j _ _ _ _ hl => (by rw [getD_replicate_false] at hl; cases hl)⟩
 rw [show n + (l.toArray.size - n) = l.toArray.size by omega] at key
 exact key
section
variable {fl : List Nat} {F : Nat → Value → World → Prop} {AL : Nat → Bool} {Ac : Bool → World → Prop} {sp : Nat} {A : (Nat → Value) → Act} {i : Nat} {o : Oper} {l : List Oper}
theorem stepsOKG_nil : stepsOKG P md ops fl F AL Ac sp A [] i := trivial
theorem qan (hi : fl.contains i = false) (hg : o.guard = none)
  (h : ∀ (vals : Nat → Value) (w1 : World) (b : Bool), (i = sp → b = false) → Ac b w1 → (∀ j, Region.waitsFor md ops i j = true → F j (vals j) w1) → StepOK P o (A vals) w1 (LeavesG F AL Ac sp i b w1))
  (hl : stepsOKG P md ops fl F AL Ac sp A l (i + 1)) : stepsOKG P md ops fl F AL Ac sp A (o :: l) i := ⟨fun vals w1 b hs hb hd => by rw [if_neg (by rw [hi]; decide)]; unfold StepG; rw [if_pos (by simp [Region.wanted, hg])]; exact h vals w1 b hs hb hd, hl⟩
theorem stepsOKG_pure (hi : fl.contains i = true)
  (h : ∀ (vals : Nat → Value) (w1 : World) (b : Bool), (i = sp → b = false) → Ac b w1 → (∀ j, Region.waitsFor md ops i j = true → F j (vals j) w1) → StepPure P o (A vals) (fun v => LeavesG F AL Ac sp i b w1 v w1))
  (hl : stepsOKG P md ops fl F AL Ac sp A l (i + 1)) : stepsOKG P md ops fl F AL Ac sp A (o :: l) i := ⟨fun vals w1 b hs hb hd => by rw [if_pos hi]; exact h vals w1 b hs hb hd, hl⟩
end
end
section
variable {P : Program} {w : World} {ops : Array Oper} {rest : List Oper} {a : Act} {Q : Exit → Act → World → Prop}
theorem wpList_appIs {d : Option Tmp} {tt : TypeId} {s x : Operand} {t e : TypeId} {pos : String} {af : Array Edge}
  (base : Nat) {bytes : Nat} (T : qdj P t e (.int .i64 0) 1 bytes)
  (v xv : Value) (l m : List Int) (hs : a.eval s = v) (hx : a.eval x = xv) (hown : w.ownsRow base e 1 v l.length (qbm l)) (hm : qbi w xv m)
  (hn : l.length + m.length ≤ 1000000) (hby : bytes ≤ 1000) (hbase : base ≤ w.heap.size) (hm0 : 0 < m.length)
  (hK : ∀ v' w', w'.ownsRow base e 1 v' (l ++ m).length (qbm (l ++ m)) → w.grownBy w' v.ownBlock → wpList P ops Q rest (a.put d v') w') :
  qad (wpList P ops Q (⟨d, .call { callee := .builtin .append, args := #[s, x], argTypes := #[t, t] }, tt, pos, af, none⟩ :: rest) a w) := by
 obtain ⟨i0, hi, hz0, hz1, hz2⟩ := T.info
 obtain ⟨ao, c, rfl, q1, q2, q3, q4, q5⟩ := hm
 cases hao : ao with
 | none =>
  have hc0 := q3 hao
  omega
 | some ad =>
  obtain ⟨b, off, sp⟩ := ad
  subst hao
  obtain ⟨k1, k3⟩ := q4 b off sp rfl
  have hbb : (l.length + m.length) * bytes ≤ 140737488355328 := Nat.le_trans (Nat.mul_le_mul hn hby) (by decide)
  refine wpList_append_own w rfl s x t rfl base e i0 (.int .i64 0) 1 bytes T.under hi hz0 hz1 hz2 rfl (by omega) v _ _ hs hown ⟨b, off, sp⟩ m.length c (qbm m) hx (by rw [ivals_length, Nat.mul_one]) (fun j u hu => ?_) (fun u hu => ?_) (by unfold maxLen; omega) hbb hbase (fun v' w' k1 k2 _ => hK v' w' ?_ k2)
  ·obtain ⟨_, rfl⟩ := k1 hm0
   obtain ⟨y, hy, rfl⟩ : ∃ y, m[j]? = some y ∧ Value.int .i64 y = u := by
    unfold qbm at hu
    rw [List.getElem?_map] at hu
    cases h : m[j]? with
    | none => rw [h] at hu; cases hu
    | some y => rw [h] at hu; exact ⟨y, rfl, Option.some.inj hu⟩
   rw [addr_add]
   exact k3 j y hy
  ·obtain ⟨y, _, rfl⟩ := List.mem_map.1 hu
   rfl
  ·rw [List.length_append, qbf]; exact k1
theorem qdk {d : Option Tmp} {t tt : TypeId} {x : Operand} {lo hi mx : Option Operand} {pos : String} {af : Array Edge}
  (h : qad (wpList P ops Q (⟨d, .slice t x lo hi mx, tt, pos, af, none⟩ :: rest) a w)) : wpList P ops Q (⟨d, .slice t x lo hi mx, tt, pos, af, none⟩ :: rest) a w := h
theorem wpList_sl {d : Option Tmp} {t tt : TypeId} {x lo : Operand} {pos : String} {af : Array Edge} {k : IntKind} {b off len cap : Nat} (l : Nat) (ht : P.underlying t = some (.slice (P.elem t))) (hs : ∀ w, (Go.sizeOf (P.elem t)).run P w = .ok 1 w)
  (hx : a.eval x = .slice (some ⟨b, off, none⟩) len cap) (hlo : a.eval lo = .int k (l : Nat)) (hle : l ≤ len)
  (hK : ∀ off2, (0 < len - l → len ≤ cap → off2 = off + l) → wpList P ops Q rest (a.put d (.slice (some ⟨b, off2, none⟩) (len - l) (cap - l))) w) :
  qad (wpList P ops Q (⟨d, .slice t x (some lo) none none, tt, pos, af, none⟩ :: rest) a w) := by
 refine wpList_plain rfl fun K hK' => ?_
 have h1 := run_slice_l (P := P) (w := w) t (some ⟨b, off, none⟩) len cap ht k (l : Nat) (by omega) (by omega)
 have h0 : (Instr.sliceAt t (.slice (some ⟨b, off, none⟩) len cap) (some (.int k (l : Nat))) none none).run P w = .ok (sliced (some ⟨b, off, none⟩) l len cap 1) w := by
  rw [run_sliceAt_slice (h := ht), h1, hs]; rfl
 unfold Oper.wp
 simp only [execOp, hx, hlo, Option.map_some, Option.map_none, Sem.run_bind, Sem.run_pure, h0, Result.andThen_ok]
 have hv : ∃ off2, sliced (some ⟨b, off, none⟩) l len cap 1 = .slice (some ⟨b, off2, none⟩) (len - l) (cap - l) ∧ (0 < len - l → len ≤ cap → off2 = off + l) := by
  unfold sliced
  by_cases h : cap = l
  ·exact ⟨off, by rw [if_pos h], fun h1 h2 => by omega⟩
  ·exact ⟨off + l, by rw [if_neg h, Option.map_some, addr_add, Nat.mul_one], fun _ _ => rfl⟩
 obtain ⟨off2, e, ho⟩ := hv
 rw [e]
 exact hK' _ _ (hK off2 ho)
end
theorem Tryz.int_el : Tryz.prog.elem 54 = 3 := by kernel_rfl
theorem Tryz.int_un : Tryz.prog.underlying 54 = some (.slice (Tryz.prog.elem 54)) := by rw [Tryz.int_el]; exact Tryz.underlying54
theorem Tryz.int_sz (w : World) : (Go.sizeOf (Tryz.prog.elem 54)).run Tryz.prog w = .ok 1 w := by rw [Tryz.int_el]; kernel_rfl
def RetInts1 (w : World) (l : List Int) (e : Ending) (w' : World) : Prop := ∃ v, e = .returned v ∧ Below w.heap.size w w' ∧ qbi w' v l ∧ ∀ g, v.ownBlock = some g → w.heap.size ≤ g
theorem clone_any (a : Value) (l : List Int) (w : World) (ha : qbi w a l) (hn : a = .slice none 0 0 ∨ 0 < l.length) (hl : l.length ≤ 1000) :
  Calls Tryz.prog 55 #[a] w (RetInts1 w l) := by
 by_cases h0 : 0 < l.length
 ·obtain ⟨ao, c, rfl, hc, hc2, hc3⟩ := ha.shape
  obtain ⟨b, off, rfl, hb, _, hat⟩ := ha.at h0
  have HA := qHd ha; clear ha hat hn
  obtain ⟨w1, hw1, hb1, g1, hg1, hx1⟩ := qBx5 w (.cells #[] 3)
  have HB1 := qHd hb1; have G1 := qHd hx1; have E1 := qHd hg1
  clear hb1 hx1
  have HQ := fun (w : World) => Lib.run_eql_slice_nil (P := Tryz.prog) w 54 3 (some ⟨b, off, none⟩) l.length c 0 0 Tryz.underlying54
  go_enter Tryz.func55, Tryz.ntmps55
  go_wp2_with (with_reducible refine qcu ?_)
  rw [← hw1, ← hg1]
  clear hw1 hg1
  refine wpList_appIs w.heap.size Tryz.intTyK _ _ [] l rfl rfl ⟨by simp [qbm], .inr ⟨g1, 0, #[], rfl, by rw [E1.out]; exact Nat.le_refl _, G1.out, Nat.le_refl _, by unfold maxLen; omega, rfl, rfl⟩⟩ (HA.out.below HB1.out) (by simp; omega) (by decide) HB1.out.size h0 ?_
  intro v' w' ho hg
  have hlow := HB1.out.grown hg HB1.out.size (fun k hk => by cases hk; rw [E1.out]; exact Nat.le_refl _)
  rw [List.nil_append] at ho
  have HO := qHd ho; have HL := qHd hlow; clear ho hg hlow
  go_wp2_with fail
  go_ret
  exact ⟨_, rfl, HL.out, qbl HO.out HA.out.lt, fun g hg => (World.ownsRow.lt HO.out g hg).1⟩
 ·have hl0 : l = [] := List.eq_nil_of_length_eq_zero (by omega)
  subst hl0
  have ha0 : a = .slice none 0 0 := by rcases hn with h | h; exact h; exact absurd h (by simp)
  subst ha0
  have HQ := fun (w : World) => Lib.run_eql_slice_nil (P := Tryz.prog) w 54 3 none 0 0 0 0 Tryz.underlying54
  go_enter Tryz.func55, Tryz.ntmps55
  go_wp2_with fail
  go_ret
  exact ⟨_, rfl, Below.refl _ _, ha, fun g hg => by cases hg⟩

theorem qaq {w : World} {g : Nat} {x0 x1 x2 : Value} {T : TypeId} (h : w.heap[g]? = some (.cells #[x0, x1, x2] T)) : w.cell? ⟨g, 0, none⟩ = some x0 ∧ w.cell? ⟨g, 1, none⟩ = some x1 ∧ w.cell? ⟨g, 2, none⟩ = some x2 :=
 ⟨cell_of_row _ _ _ _ _ _ h, cell_of_row _ _ _ _ _ _ h, cell_of_row _ _ _ _ _ _ h⟩
section
variable {P : Program} {w : World} {ops : Array Oper} {rest : List Oper} {a : Act} {Q : Exit → Act → World → Prop}
theorem qaf (ty : TypeId) {d : Option Tmp} {tt : TypeId} {x y : Operand} {pos : String} {af : Array Edge}
  (h : qad (wpList P ops Q (⟨d, .store ty x y, tt, pos, af, none⟩ :: rest) a w)) : wpList P ops Q (⟨d, .store ty x y, tt, pos, af, none⟩ :: rest) a w := h
end
def KCl (B : Nat) (l : List Int) : Value → World → Prop := fun v w => ∃ o n c, v = .slice o n c ∧ qbi w (.slice o n c) l ∧ ∀ g, (Value.slice o n c).ownBlock = some g → B ≤ g
theorem kCl (B : Nat) (l : List Int) : MonoF (KCl B l) := fun _ _ _ ⟨o, n, c, h1, h2, h3⟩ hb => ⟨o, n, c, h1, h2.below hb, h3⟩
def KNa (B : Nat) (k K : Int) (l : List Int) : Value → World → Prop := fun v w => ∃ o n c, v = .agg #[.int .i64 k, .int .i64 K, .slice o n c] ∧ qbi w (.slice o n c) l ∧ ∀ g, (Value.slice o n c).ownBlock = some g → B ≤ g
theorem kNa (B : Nat) (k K : Int) (l : List Int) : MonoF (KNa B k K l) := fun _ _ _ ⟨o, n, c, h1, h2, h3⟩ hb => ⟨o, n, c, h1, h2.below hb, h3⟩
def KN1 (B : Nat) (k K : Int) (l : List Int) : Value → World → Prop := fun v w => ∃ gl o n c, B ≤ gl ∧ v = .slice (some ⟨gl, 0, none⟩) 1 1 ∧ w.heap[gl]? = some (.cells #[.int .i64 k, .int .i64 K, .slice o n c] 56) ∧ qbi w (.slice o n c) l ∧ ∀ g, (Value.slice o n c).ownBlock = some g → B ≤ g
theorem kN1 (B : Nat) (k K : Int) (l : List Int) : MonoF (KN1 B k K l) := fun _ _ _ ⟨gl, o, n, c, h0, h1, h2, h3, h4⟩ hb => ⟨gl, o, n, c, h0, h1, qaa h2 hb, h3.below hb, h4⟩
def RetAdd (w : World) (B : Nat) (X : List Nat) (gm : Nat) (v : Value) (V : Nat) (out : List Nd) (full : Bool) (x : Nd) (e : Ending) (w' : World) : Prop :=
 ∃ (v' : Value) (out' : List Nd) (full' : Bool) (r : Nat), e = .returned (.int .i64 (r : Nat)) ∧ Chg w w' [gm] v v' ∧ Mk w' B X gm v' V out' full' ∧ r ≤ 152 ∧ (full' = false → full = false ∧ out' = out ++ [x] ∧ r = V + out.length)
section
variable {w w' : World} {B gm V : Nat} {X : List Nat} {v v' : Value} {out out' : List Nd} {full b : Bool} {top : Int}
theorem Mk.setFull (h : Mk w B X gm v V out full) (hw : w' = putL w gm 2 [.bool b]) : Mk w' B X gm v V out b := by
 have hs : w'.heap.size = w.heap.size := by rw [hw, putL_size]
 refine ⟨by rw [hw]; simp [putL, World.setCell, Array.getElem?_modify, h.cells], h.nds.exc (Exc.put hw (List.mem_singleton.2 rfl)) (fun g hg => .inl (by rw [List.mem_singleton] at hg; subst hg; exact h.mem)), h.mem, h.len, h.base, fun g hg => by rw [hs]; exact h.all g hg⟩
theorem Mk.stored {u : Value} (hc : w.heap[gm]? = some (.cells #[.int .i64 V, u, .bool full] 61)) (hn : NdL w B X v' out') (hm : gm ∈ X) (hl : out'.length ≤ 128) (hb : B ≤ gm) (ha : ∀ g ∈ X, g < w.heap.size) (hw : w' = putL w gm 1 [v']) : Mk w' B X gm v' V out' full := by
 have hs : w'.heap.size = w.heap.size := by rw [hw, putL_size]
 refine ⟨by rw [hw]; simp [putL, World.setCell, Array.getElem?_modify, hc], hn.exc (Exc.put hw (List.mem_singleton.2 rfl)) (fun g hg => .inl (by rw [List.mem_singleton] at hg; subst hg; exact hm)), hm, hl, hb, fun g hg => by rw [hs]; exact ha g hg⟩
theorem Bd.stored {u : Value} (hc : w.heap[gm]? = some (.cells #[.int .i64 V, u, .int .i64 top] 65)) (hn : NdL w B X v' out') (hm : gm ∈ X) (hb : B ≤ gm) (ha : ∀ g ∈ X, g < w.heap.size) (hw : w' = putL w gm 1 [v']) : Bd w' B X gm v' V out' top := by
 have hs : w'.heap.size = w.heap.size := by rw [hw, putL_size]
 refine ⟨by rw [hw]; simp [putL, World.setCell, Array.getElem?_modify, hc], hn.exc (Exc.put hw (List.mem_singleton.2 rfl)) (fun g hg => .inl (by rw [List.mem_singleton] at hg; subst hg; exact hm)), hm, hb, fun g hg => by rw [hs]; exact ha g hg⟩
theorem Mk.drew (h : Mk w B X gm v V out full) (n : Nat) : Mk (w.drewN n) B X gm v V out full := h.below (qcp (Below.refl _ _) n)
theorem Chg.drew (h : Chg w w' X v v') (n : Nat) : Chg w (w'.drewN n) X v v' := h.trans (Chg.of_below (qcp (Below.refl _ _) n))
end
theorem madd_any (B gm V : Nat) (X : List Nat) (v a : Value) (out : List Nd) (full : Bool) (k K : Int) (l : List Int) (w : World) (hM : Mk w B X gm v V out full) (ha : qbi w a l) (hn : a = .slice none 0 0 ∨ 0 < l.length) (hl : l.length ≤ 1000) (hk : I64 k) (hK : I64 K) (hV : V ≤ 24) :
  Calls Tryz.prog 24 #[.pointer (some ⟨gm, 0, none⟩), .int .i64 k, .int .i64 K, a] w (RetAdd w B X gm v V out full ⟨k, K, l⟩) := by
 obtain ⟨ao, c, rfl, hc, hc2, _⟩ := hM.nds.shape
 obtain ⟨ab, ac, rfl, hac, hac2, _⟩ := ha.shape
 obtain ⟨an, han⟩ : ∃ n, n = l.length := ⟨_, rfl⟩
 rw [← han] at ha hac hn ⊢
 have HAN := qHd han; clear han
 have hlen := hM.len
 obtain ⟨x0, x1, x2⟩ := qaq hM.cells
 have GM := qHd hM.cells; have HM := qHd hM; have HA := qHd ha; have HNE := qHd hn
 have HKK := qHd (And.intro hk hK)
 clear hM ha hk hK hn
 by_cases hf : out.length < 128
 ·have ht : ¬ (128 : Int) ≤ (out.length : Int) := by omega
  go_enter Tryz.func24, Tryz.ntmps24
  go_wp2_with (with_reducible refine qax ?_)
  clear x0 x1 x2
  refine qad.mk ?_
  refine qay (A := ?aaMA) (w := w) 11 [0] (by kernel_rfl) (Fl [KEq (.pointer (some ⟨gm, 0, none⟩)), KEq (.pointer (some ⟨gm, 0, none⟩)), KEq (.pointer (some ⟨gm, 0, none⟩)), KEq (.pointer (some ⟨gm, 1, none⟩)), KEq (.slice ao out.length c), KEq (.int .i64 k), KEq (.int .i64 K), KEq (.slice ab an ac), KCl w.heap.size l, KNa w.heap.size k K l, KN1 w.heap.size k K l]) (fun i => false) (by kernel_rfl) ?hqMA (qdx (qai (kEq _) (qai (kEq _) (qai (kEq _) (qai (kEq _) (qai (kEq _) (qai (kEq _) (qai (kEq _) (qai (kEq _) (qai (kCl _ _) (qai (kNa _ _ _ _) (qai (kN1 _ _ _ _) qdw)))))))))))) ?haMA ?stMA ?tlMA
  case hqMA =>
   intro c a d v w h
   first | (simp only [Exit.then] at h ⊢; exact h) | (simp only [Exit.inBlock, Exit.then] at h ⊢; exact h) | exact h
  case haMA =>
   intro vals
   simp only [qat, qcf, if_true, Act.put, List.setIfInBounds_toArray, List.set_cons_zero, List.set_cons_succ, List.getElem?_toArray, List.getElem?_cons_zero, List.getElem?_cons_succ, Option.bind_some]
   exact rfl
  case stMA =>
   simp only [List.take_succ_cons, List.take_zero]
   refine stepsOK_pure rfl ?_ (qab rfl rfl ?_ (qab rfl rfl ?_ (qab rfl rfl ?_ (qab rfl rfl ?_ (qab rfl rfl ?_ (qab rfl rfl ?_ (qab rfl rfl ?_ (qab rfl rfl ?_ (qab rfl rfl ?_ (qab rfl rfl ?_ (qbb)))))))))))
   ·intro vals w1 hb hd
    refine qcn (v := .pointer (some ⟨gm, 0, none⟩)) (fun w => by go_simp) (qLk rfl rfl)
   ·intro vals w1 hb hd
    refine qSv (.pointer (some ⟨gm, 0, none⟩)) (by go_simp) (qLk rfl rfl)
   ·intro vals w1 hb hd
    rw [show vals 1 = .pointer (some ⟨gm, 0, none⟩) from hd 1 (by kernel_rfl)]
    refine qSv (.pointer (some ⟨gm, 0, none⟩)) (by go_simp) (qLk rfl rfl)
   ·intro vals w1 hb hd
    rw [show vals 2 = .pointer (some ⟨gm, 0, none⟩) from hd 2 (by kernel_rfl)]
    refine qSv (.pointer (some ⟨gm, 1, none⟩)) (by go_simp) (qLk rfl rfl)
   ·intro vals w1 hb hd
    obtain ⟨e0, e1, e2⟩ := qaq (qaa GM.out hb)
    rw [show vals 3 = .pointer (some ⟨gm, 1, none⟩) from hd 3 (by kernel_rfl)]
    refine qSv (.slice ao out.length c) (by go_simp) (qLk rfl rfl)
   ·intro vals w1 hb hd
    refine qSv (.int .i64 k) (by go_simp) (qLk rfl rfl)
   ·intro vals w1 hb hd
    refine qSv (.int .i64 K) (by go_simp) (qLk rfl rfl)
   ·intro vals w1 hb hd
    refine qSv (.slice ab an ac) (by go_simp) (qLk rfl rfl)
   ·intro vals w1 hb hd
    have d7 : KEq (.slice ab an ac) (vals 7) w1 := hd 7 (by kernel_rfl)
    have HS := qHd (clone_any _ l w1 (HA.out.below hb) (by rw [← HAN.out]; exact HNE.out) hl)
    have z7 : vals 7 = _ := d7
    rw [z7]; clear z7
    refine qbh (by go_simp; first | done | exact ⟨⟨rfl, rfl⟩, rfl⟩) ?_
    (with_reducible refine HS.out.mono ?_); rintro e w2 ⟨v2, rfl, hb2, hi2, hg2⟩
    obtain ⟨o2, c2, e2, _⟩ := hi2.shape
    rw [e2] at hi2 hg2 ⊢
    exact ⟨_, rfl, qba hb2 ⟨_, _, _, rfl, hi2, fun g hg => Nat.le_trans hb.size (hg2 g hg)⟩ (fun h => by cases h)⟩
   ·intro vals w1 hb hd
    have d5 : KEq (.int .i64 k) (vals 5) w1 := hd 5 (by kernel_rfl)
    have d6 : KEq (.int .i64 K) (vals 6) w1 := hd 6 (by kernel_rfl)
    have d8 : KCl w.heap.size l (vals 8) w1 := hd 8 (by kernel_rfl)
    obtain ⟨o2, n2, c2, e2, hI, hG⟩ := d8
    rw [show vals 5 = _ from d5, show vals 6 = _ from d6, e2]
    refine qak (v := .agg #[.int .i64 k, .int .i64 K, .slice o2 n2 c2]) (w' := w1) (by go_simp) (qba (Below.refl _ _) ⟨o2, n2, c2, rfl, hI, hG⟩ (fun h => by cases h))
   ·intro vals w1 hb hd
    have d9 : KNa w.heap.size k K l (vals 9) w1 := hd 9 (by kernel_rfl)
    obtain ⟨o2, n2, c2, e2, hI, hG⟩ := d9
    rw [e2]
    refine qak (v := .slice (some ⟨w1.heap.size, 0, none⟩) 1 1) (w' := w1.alloc (.cells #[.int .i64 k, .int .i64 K, .slice o2 n2 c2] 56)) (by go_simp) (qba ((Below.refl _ _).alloc (Nat.le_refl _) _) ⟨_, o2, n2, c2, hb.size, rfl, heap_alloc_new _ _, hI.below ((Below.refl _ _).alloc (Nat.le_refl _) _), hG⟩ (fun h => by cases h))
  case tlMA =>
   intro vals w2 hb2 hf2 hdis
   simp only [List.drop_succ_cons, List.drop_zero]
   have z0 : vals 0 = _ := hf2 0 (by decide); have z4 : vals 4 = _ := hf2 4 (by decide)
   obtain ⟨gl, o2, n2, c2, hgl, e10, hx10, hI, hG⟩ : KN1 w.heap.size k K l (vals 10) w2 := hf2 10 (by decide)
   rw [z0, z4, e10]
   clear z0 z4 e10 hf2 hdis
   have HM2 := qHd (HM.out.below hb2); have HB2 := qHd hb2
   have NE := qHd (fun g (hg : (Value.slice ao out.length c).ownBlock = some g) => (HM.out.nds.lt hg).2.1)
   have HI := qHd hI; have HG := qHd hG; have HX := qHd hx10; have HGL := qHd hgl
   clear hb2 hI hG hx10 hgl
   go_wp2_with (with_reducible refine qam ?_)
   obtain ⟨xs, q1, q2, q3⟩ := HM2.out.nds
   have Q1 := qHd q1; have Q2 := qHd q2; have Q3 := qHd q3; clear q1 q2 q3
   refine qar B Tryz.nodeTy rfl noU_nd (by decide) _ out.length xs [.int .i64 k, .int .i64 K, .slice o2 n2 c2] gl 56 rfl rfl Q1.out HX.out rfl rfl noU_nd Q1.out.noU (by omega) (by decide) (Nat.le_trans HM2.out.base (Nat.le_of_lt (HM2.out.all _ HM2.out.mem))) ?_
   intro v3 w3 ho3 hg3 hfr3
   have hN3 : NdL w3 B X v3 (out ++ [⟨k, K, l⟩]) := NdL.app (x := ⟨k, K, l⟩) Q1.out Q2.out Q3.out HM2.out.all ho3 hg3 hfr3 HI.out (fun _ g hg => ⟨Nat.le_trans (Nat.le_trans HM.out.base (Nat.le_of_lt (HM.out.all _ HM.out.mem))) (HG.out g hg), fun hx => by have := HM.out.all g hx; have := HG.out g hg; omega⟩) (fun _ g hg e => by have := NE.out g e; have := HG.out g hg; omega) HKK.out.1 HKK.out.2
   have hC3 : Chg w w3 [gm] (.slice ao out.length c) v3 := (Chg.of_below HB2.out).trans (Chg.grown hg3 hfr3)
   have hG3 : w3.heap[gm]? = some (.cells #[.int .i64 V, .slice ao out.length c, .bool full] 61) := (Chg.grown (Y := []) hg3 hfr3).heap HM2.out.cells (HM2.out.ne HM2.out.mem) (by simp)
   obtain ⟨a3, c3, ev3, hc3, hc32, _⟩ := hN3.shape
   rw [List.length_append, List.length_singleton] at hc3 ev3
   subst ev3
   have HN3 := qHd hN3; have HC3 := qHd hC3; have G3 := qHd hG3
   have HA3 := qHd (fun g (hg : g ∈ X) => Nat.lt_of_lt_of_le (HM.out.all g hg) HC3.out.exc.size)
   clear hN3 hC3 hG3 ho3 hg3 hfr3
   go_wp2_with (with_reducible refine qbr ?_)
   refine qdr gm 1 G3.out rfl rfl (by simp) (by kernel_rfl) ?_
   intro w4 hp4
   have HM4 := qHd (Mk.stored G3.out HN3.out HM.out.mem (by rw [List.length_append]; simp; omega) HM.out.base HA3.out hp4)
   have HC4 := qHd (HC3.out.trans (Chg.put (v := .slice a3 (out.length + 1) c3) hp4 (List.mem_singleton.2 rfl)))
   clear hp4
   obtain ⟨y0, y1, y2⟩ := qaq HM4.out.cells
   go_wp2_with (with_reducible refine qax ?_)
   refine qad.mk ?_
   go_quiet (fail)
   go_wp2_with fail
   go_ret
   refine ⟨_, out ++ [⟨k, K, l⟩], full, V + out.length, by go_num, HC4.out.drew _, HM4.out.drew _, by omega, fun h => ⟨h, rfl, rfl⟩⟩
 ·have ht : (128 : Int) ≤ (out.length : Int) := by omega
  go_enter Tryz.func24, Tryz.ntmps24
  go_wp2_with (with_reducible refine qbr ?_)
  clear x0 x1 x2
  refine wpList_stB gm 2 GM.out rfl rfl (by simp) (by kernel_rfl) ?_
  intro w4 hp4
  have HM4 := qHd (HM.out.setFull hp4)
  have HC4 := qHd (Chg.put (v := .slice ao out.length c) hp4 (List.mem_singleton.2 rfl))
  clear hp4
  go_wp2_with fail
  go_ret
  exact ⟨_, out, true, 0, rfl, HC4.out, HM4.out, by omega, fun h => by cases h⟩
end Go.Proofs.YteadcgmaailjlaaGreatDoor
namespace Go.Proofs.YteadcgmaailjlaaGreatDoor
def chV (k : Int) (out : List Nd) (l : List Int) : List Nat → Bool := fun e0 => if k = 2 then l.all (tA (qaj e0 out)) else l.any (tA (qaj e0 out))
theorem chain_start {V : Nat} {k : Int} {out : List Nd} {a : Int} (ho : qbc (V : Nat) 0 out = 0) (ha : Arg V out.length a) : Grw V out out a (chV k out [a]) :=
 (Grw.refl ho ha).congr (fun e0 _ _ => by unfold chV; split <;> simp)
theorem chain_step {V : Nat} {k : Int} {out out1 : List Nd} {r y : Int} {ys : List Int} (hk : k = 2 ∨ k = 3) (h : Grw V out out1 r (chV k out ys)) (hy : Arg V out.length y) :
  Grw V out (out1 ++ [⟨k, 0, [r, y]⟩]) ((V + out1.length : Nat) : Int) (chV k out (ys ++ [y])) := by
 have g := qea (k := k) (args := [r, y]) h.ok hk (by simp) (by simp) (fun c hc => mem2 h.arg (hy.up h.le) hc)
 refine (h.trans g).congr (fun e0 he ht => ?_)
 have hv := h.v e0 he ht
 have ho := h.old hy he
 unfold chV at hv ⊢
 simp only [List.all_cons, List.any_cons, List.all_nil, List.any_nil, Bool.and_true, Bool.or_false, List.all_append, List.any_append, hv, ho]
 split <;> rfl
theorem xorL_snoc (f : Int → Bool) : ∀ (ys : List Int) (b : Bool) (y : Int), xorL f b (ys ++ [y]) = Bool.xor (xorL f b ys) (f y)
 | [], _, _ => rfl
 | x :: ys, b, y => by
  simp only [List.cons_append, xorL]
  exact xorL_snoc f ys _ y
theorem xor_step {V : Nat} {out out1 : List Nd} {r a y : Int} {ys : List Int} (h : Grw V out out1 r (fun e0 => xorL (tA (qaj e0 out)) (tA (qaj e0 out) a) ys)) (hy : Arg V out.length y) :
  Grw V out (xor1 V out1 r y) ((V + out1.length + 4 : Nat) : Int) (fun e0 => xorL (tA (qaj e0 out)) (tA (qaj e0 out) a) (ys ++ [y])) := by
 have g := xor1_grw h.ok h.arg (hy.up h.le)
 refine (h.trans g).congr (fun e0 he ht => ?_)
 rw [h.v e0 he ht, h.old hy he, xorL_snoc]
theorem chain_done {V : Nat} {D : Nat → Prop} {nodes out out1 : List Nd} {im : Nat → Int} {x : Nd} {r : Int} (hk : x.kind = 2 ∨ x.kind = 3) (h : Img V D nodes out im) (hx : qbe (V : Nat) nodes.length x = 0) (hd : ∀ a ∈ x.args, D a.toNat)
  (g : Grw V out out1 r (chV x.kind out (x.args.map (iA im)))) : Grw V out out1 r (fun e0 => nv (qaj e0 nodes) x) := by
 refine g.congr (fun e0 he ht => ?_)
 rw [h.nv_im hx hd he ht]
 obtain ⟨k, K, args⟩ := x
 unfold chV
 rcases hk with hk | hk
 ·simp only at hk ⊢
  rw [if_pos hk, nT_and hk (by rw [List.length_map])]
 ·simp only at hk ⊢
  rw [if_neg (by omega), nT_or hk]
theorem xor_done {V : Nat} {D : Nat → Prop} {nodes out out1 : List Nd} {im : Nat → Int} {x : Nd} {r a : Int} {ys : List Int} (hk : x.kind = 5) (h : Img V D nodes out im) (hx : qbe (V : Nat) nodes.length x = 0) (hd : ∀ a ∈ x.args, D a.toNat) (hl : x.args.map (iA im) = a :: ys)
  (g : Grw V out out1 r (fun e0 => xorL (tA (qaj e0 out)) (tA (qaj e0 out) a) ys)) : Grw V out out1 r (fun e0 => nv (qaj e0 nodes) x) := by
 refine g.congr (fun e0 he ht => ?_)
 rw [h.nv_im hx hd he ht, hl]
 obtain ⟨k, K, args⟩ := x
 rw [nT_xor hk]
theorem vote_done {V : Nat} {D : Nat → Prop} {nodes out out1 : List Nd} {im : Nat → Int} {x : Nd} {r : Int} (hk : x.kind = 4) (h : Img V D nodes out im) (hx : qbe (V : Nat) nodes.length x = 0) (hd : ∀ a ∈ x.args, D a.toNat)
  (g : Grw V out out1 r (fun e0 => thr (tA (qaj e0 out)) (x.args.map (iA im)) x.K)) : Grw V out out1 r (fun e0 => nv (qaj e0 nodes) x) := by
 refine g.congr (fun e0 he ht => ?_)
 rw [h.nv_im hx hd he ht]
 obtain ⟨k, K, args⟩ := x
 rw [nT_vote hk]
theorem img_args {V : Nat} {D : Nat → Prop} {nodes out : List Nd} {im : Nat → Int} {x : Nd} (h : Img V D nodes out im) (hx : qbe (V : Nat) nodes.length x = 0) (hd : ∀ a ∈ x.args, D a.toNat) : ∀ a ∈ x.args.map (iA im), Arg V out.length a := by
 intro a ha
 obtain ⟨b, hb, rfl⟩ := List.mem_map.1 ha
 exact (h.one ((qav hx).2.2.1 b hb) (hd b hb)).1
theorem args_16 {V n : Nat} {x : Nd} (hx : qbe (V : Nat) n x = 0) : x.args.length ≤ 16 ∧ (2 ≤ x.kind → 1 ≤ x.args.length) := by
 have h2 := (qav hx).2.1
 unfold qbq at h2
 split at h2
 ·rename_i k; simp at h2; rw [h2]; exact ⟨by decide, fun h => by omega⟩
 split at h2
 ·rename_i k; simp at h2; exact ⟨by omega, fun h => by omega⟩
 ·simp at h2; exact ⟨by omega, fun _ => by omega⟩
end Go.Proofs.YteadcgmaailjlaaGreatDoor
namespace Go.Proofs.YteadcgmaailjlaaGreatDoor
open Go.RowKit Go.ChangeShapes Go.WideShapes
theorem qby {w : World} {g n : Nat} {l : List Int} {T : TypeId} (h : w.heap[g]? = some (.cells (qbm l).toArray T)) (hn : n = l.length) (hs : l.length ≤ 1000000) (hl : ∀ x ∈ l, I64 x) : qbi w (.slice (some ⟨g, 0, none⟩) n n) l := by
 subst hn
 refine ⟨_, _, rfl, Nat.le_refl _, by omega, fun h => (by cases h), ?_, hl⟩
 intro b off s hs
 cases hs
 refine ⟨fun _ => ⟨qao h, rfl⟩, fun j x hj => ?_⟩
 rw [Nat.zero_add, cell_of_row w g j _ T (0, 0) h]
 simpa using ivals_at hj
theorem qdd {a b : Int} (ha : I64 a) (hb : I64 b) : ∀ x ∈ [a, b], I64 x := fun _ hx => mem2 ha hb hx
theorem i64_one {a : Int} (ha : I64 a) : ∀ x ∈ [a], I64 x := fun _ hx => by rw [List.mem_singleton] at hx; subst hx; exact ha
theorem qch {n : Nat} (h : n ≤ 1000000) : I64 (n : Nat) := ⟨by omega, by omega⟩
def RetSpc (w : World) (B : Nat) (X : List Nat) (gm : Nat) (v : Value) (V : Nat) (nodes out : List Nd) (x : Nd) (J : List Nd → List Nd → Prop) (e : Ending) (w' : World) : Prop :=
 ∃ (v' : Value) (out' : List Nd) (full' : Bool) (r : Int) (done : Bool), e = .returned (.tuple #[.int .i64 r, .bool done]) ∧ Chg w w' [gm] v v' ∧ Mk w' B X gm v' V out' full' ∧ I64 r ∧
  (done = false → full' = false ∧ out' = out ∧ ∀ y : Nd, y.kind = x.kind → J (nodes ++ [x]) (out ++ [y])) ∧ (done = true → full' = false → Grw V out out' r (fun e0 => nv (qaj e0 nodes) x) ∧ J (nodes ++ [x]) out')
def SpOK (fid : FuncId) (J : List Nd → List Nd → Prop) : Prop :=
 ∀ (w : World) (B gm V : Nat) (X : List Nat) (v : Value) (nodes out : List Nd) (im : Nat → Int) (x : Nd) (ao : Option Addr) (c : Nat), V ≤ 24 → Mk w B X gm v V out false → qbi w (.slice ao x.args.length c) (x.args.map (iA im)) →
  (∀ g, (Value.slice ao x.args.length c).ownBlock = some g → g ∈ X ∧ g ≠ gm) → qbe (V : Nat) nodes.length x = 0 → Img V (fun _ => True) nodes out im → J nodes out → I64 x.kind → I64 x.K →
  Calls Tryz.prog fid #[.pointer (some ⟨gm, 0, none⟩), .agg #[.int .i64 x.kind, .int .i64 x.K, .slice ao x.args.length c]] w (RetSpc w B X gm v V nodes out x J)
theorem binary_sp : SpOK 23 (fun _ _ => True) := by
  intro w B gm V X v nodes out im x ao c hV hM hI hSP hx hIm hJ hk64 hK64
  obtain ⟨k, K, args⟩ := x
  simp only at hI hSP hk64 hK64 ⊢
  have hkk := (qav hx).1
  have h16 := args_16 hx
  simp only at hkk h16
  have HM := qHd hM; have HI := qHd hI; have HSP := qHd hSP; have HX := qHd hx; have HIM := qHd hIm; have HJ := qHd hJ; have H64 := qHd (And.intro hk64 hK64)
  clear hM hI hSP hx hIm hJ hk64 hK64
  obtain ⟨w0, hw0⟩ : ∃ z0, z0 = w.alloc (.cells #[.int .i64 k, .int .i64 K, .slice ao args.length c] 56) := ⟨_, rfl⟩
  have hb0 : Below w.heap.size w w0 := by rw [hw0]; exact qBA _ _
  obtain ⟨gn, hg0⟩ : ∃ g, g = w.heap.size := ⟨_, rfl⟩
  have hx0 : w0.heap[gn]? = some (.cells #[.int .i64 k, .int .i64 K, .slice ao args.length c] 56) := by rw [hw0, hg0]; exact heap_alloc_new _ _
  have hs0 : w0.heap.size = w.heap.size + 1 := by rw [hw0]; simp
  have HM0 := qHd (HM.out.new (Y := gn :: X) hb0 (fun g hg => by
    rcases List.mem_cons.1 hg with e | e
    · subst e; exact .inr ⟨by omega, by omega⟩
    · exact .inl e) (List.mem_cons_of_mem _ HM.out.mem))
  have HN0 := qHd (show gn ≠ gm from fun e => by have := HM.out.all gm HM.out.mem; omega)
  have HI0 := qHd (HI.out.below hb0); have HC0 := qHd (Chg.of_below (Y := [gm]) (v := v) hb0); have G0 := qHd hx0
  obtain ⟨x0, x1, x2⟩ := qaq hx0
  rw [hw0, hg0] at x0 x1 x2
  clear hb0 hx0 hs0
  by_cases hk : k = 2 ∨ k = 3
  · rcases hk with rfl | rfl
    · obtain ⟨a0, rest, hL⟩ : ∃ a0 rest, args.map (iA im) = a0 :: rest := by
        cases h : args.map (iA im) with
        | nil => have : (args.map (iA im)).length = 0 := by rw [h]; rfl
                 rw [List.length_map] at this; omega
        | cons a l => exact ⟨a, l, rfl⟩
      have hlen : args.length = rest.length + 1 := by have := congrArg List.length hL; simpa using this
      have HL := qHd hL; have HLN := qHd hlen
      have HA := qHd (img_args HIM.out HX.out (fun _ _ => trivial))
      rw [HL.out] at HI0 HA
      have hIA := HI0.out
      have hcap : rest.length + 1 ≤ c := by
        obtain ⟨_, _, e', q, _, _⟩ := hIA.shape
        simp only [Value.slice.injEq] at e'
        obtain ⟨_, _, rfl⟩ := e'
        simpa using q
      obtain ⟨b, off, rfl, hb, _, hat⟩ := hIA.at (by omega)
      have c0 := hat 0 a0 rfl
      rw [Nat.add_zero] at c0
      have HI64 := qHd hIA.lt
      rw [hlen] at x0 x1 x2 hw0 HI0 ⊢
      have h15 : rest.length ≤ 15 := by omega
      clear hL hIA hat hlen h16
      obtain ⟨rl, hrl⟩ : ∃ n, n = rest.length := ⟨_, rfl⟩
      rw [← hrl] at x0 x1 x2 hw0 HI0 hcap h15 ⊢
      have HRL := qHd hrl; clear hrl
      rw [hw0] at c0
      go_enter Tryz.func23, Tryz.ntmps23
      go_wp2_with (with_reducible refine qdk ?_)
      rw [← hw0, ← hg0]
      clear hw0 hg0 x0 x1 x2 c0
      refine wpList_sl 1 Tryz.int_un Tryz.int_sz rfl rfl (by omega) ?_
      intro off2 hoff
      have HOFF := qHd hoff; clear hoff
      rw [show rl + 1 - 1 = rl by omega]
      go_wp2_with (with_reducible first | refine qah ?_ | refine qae ?_)
      refine qad.mk ?_
      go_loopw [25, 6] (fun i' xv wx => ∃ (q : Nat) (v1 : Value) (out1 : List Nd) (full1 : Bool) (r : Int), q ≤ rl ∧ i' = .int .i64 q ∧ xv = .int .i64 r ∧ Hid (Chg w0 wx [gm] v v1) ∧ Hid (Mk wx B (gn :: X) gm v1 V out1 full1) ∧ Hid (I64 r) ∧ Hid (full1 = false → Grw V out out1 r (chV 2 out (a0 :: rest.take q)))) (fun i' _ _ => rl - (intOf i').toNat)
      case atStart => exact ⟨0, v, out, false, a0, Nat.zero_le _, rfl, rfl, qHd (Chg.refl _ _ _), HM0, qHd (HI64.out a0 (by simp)), qHd (fun _ => chain_start HIM.out.ok (HA.out a0 (by simp)))⟩
      case round =>
        obtain ⟨q, v1, out1, full1, r, hq, rfl, rfl, C, M, R, F⟩ := hrel
        obtain ⟨wi, rfl⟩ : ∃ wi : World, wi = wr := ⟨_, rfl⟩
        by_cases hlt : q < rl
        · obtain ⟨y, hy⟩ : ∃ y, rest[q]? = some y := ⟨rest[q]'(by rw [← HRL.out]; exact hlt), List.getElem?_eq_getElem (by rw [← HRL.out]; exact hlt)⟩
          have hII := HM0.out.keepI C.out (fun g hg => ⟨List.mem_cons_of_mem _ (HSP.out g (by rw [HLN.out, ← HRL.out]; exact hg)).1, (HSP.out g (by rw [HLN.out, ← HRL.out]; exact hg)).2⟩) HI0.out
          obtain ⟨b', off', e', u1, u2, hat⟩ := hII.at (by omega)
          clear u1 u2
          cases e'
          have cq := hat (q + 1) y (by simpa using hy)
          rw [show off + (q + 1) = off2 + q by have := HOFF.out (by omega) (by omega); omega] at cq
          clear hat hII
          obtain ⟨x0, x1, x2⟩ := qaq (HM0.out.keep C.out (List.mem_cons_self ..) HN0.out G0.out)
          have hltz : (q : Int) < (rl : Int) := by omega
          have HY := qHd hy; clear hy
          obtain ⟨w5, hw5⟩ : ∃ z0, z0 = wi.alloc (.cells #[.int .i64 r, .int .i64 y] 3) := ⟨_, rfl⟩
          have hb5 : Below wi.heap.size wi w5 := by rw [hw5]; exact qBA _ _
          obtain ⟨g5, hg5⟩ : ∃ g, g = wi.heap.size := ⟨_, rfl⟩
          have hx5 : w5.heap[g5]? = some (.cells #[.int .i64 r, .int .i64 y] 3) := by rw [hw5, hg5]; exact heap_alloc_new _ _
          have hs5 : w5.heap.size = wi.heap.size + 1 := by rw [hw5]; simp
          have hy64 := HI64.out y (List.mem_cons_of_mem _ (List.mem_of_getElem? HY.out))
          have HK := qHd (madd_any B gm V (gn :: X) v1 (.slice (some ⟨g5, 0, none⟩) 2 2) out1 full1 2 0 [r, y] w5 (M.out.below hb5) (qby (l := [r, y]) hx5 rfl (by simp) (qdd R.out hy64)) (.inr (by simp)) (by simp) ⟨by decide, by decide⟩ ⟨by decide, by decide⟩ hV)
          have C5 := qHd (C.out.trans (Chg.of_below hb5))
          clear hb5 hx5 hs5 hy64
          go_wp2_with (with_reducible refine qac ?_)
          rw [← hw5, ← hg5]
          clear hw5 hg5 x0 x1 x2 cq
          refine qad.mk ?_
          (with_reducible refine HK.out.mono ?_); rintro e w6 ⟨v2, out2, full2, r2, rfl, hC, hM2, hr2, hF2⟩
          have C6 := qHd (C5.out.trans hC); have M6 := qHd hM2
          have F6 := qHd (show full2 = false → Grw V out out2 ((r2 : Nat) : Int) (chV 2 out (a0 :: rest.take (q + 1))) from fun h => by
            obtain ⟨f1, f2, f3⟩ := hF2 h
            have hs := chain_step (k := 2) (by decide) (F.out f1) (HA.out y (List.mem_cons_of_mem _ (List.mem_of_getElem? HY.out)))
            rw [f2, f3, List.take_add_one, HY.out]
            exact hs)
          have R6 := qHd (qch (n := r2) (by omega))
          clear hC hM2 hF2 HK C5
          go_wp2_with fail
          go_roundw
          case rel => exact ⟨q + 1, v2, out2, full2, (r2 : Nat), by omega, by go_num, rfl, C6, M6, R6, F6⟩
          case measure => simp [intOf]; omega
        · have hq' : q = rl := by omega
          subst hq'
          go_wp2_with fail
          go_ret2
          refine ⟨v1, out1, full1, r, true, rfl, HC0.out.trans C.out, M.out.sub HM.out.mem (fun g hg => List.mem_cons_of_mem _ hg), R.out, (fun h => by cases h), fun _ h => ⟨?_, trivial⟩⟩
          have hf := F.out h
          rw [HRL.out, List.take_length, ← HL.out] at hf
          exact chain_done (x := ⟨2, K, args⟩) (by simp) HIM.out HX.out (fun _ _ => trivial) hf
    · obtain ⟨a0, rest, hL⟩ : ∃ a0 rest, args.map (iA im) = a0 :: rest := by
        cases h : args.map (iA im) with
        | nil => have : (args.map (iA im)).length = 0 := by rw [h]; rfl
                 rw [List.length_map] at this; omega
        | cons a l => exact ⟨a, l, rfl⟩
      have hlen : args.length = rest.length + 1 := by have := congrArg List.length hL; simpa using this
      have HL := qHd hL; have HLN := qHd hlen
      have HA := qHd (img_args HIM.out HX.out (fun _ _ => trivial))
      rw [HL.out] at HI0 HA
      have hIA := HI0.out
      have hcap : rest.length + 1 ≤ c := by
        obtain ⟨_, _, e', q, _, _⟩ := hIA.shape
        simp only [Value.slice.injEq] at e'
        obtain ⟨_, _, rfl⟩ := e'
        simpa using q
      obtain ⟨b, off, rfl, hb, _, hat⟩ := hIA.at (by omega)
      have c0 := hat 0 a0 rfl
      rw [Nat.add_zero] at c0
      have HI64 := qHd hIA.lt
      rw [hlen] at x0 x1 x2 hw0 HI0 ⊢
      have h15 : rest.length ≤ 15 := by omega
      clear hL hIA hat hlen h16
      obtain ⟨rl, hrl⟩ : ∃ n, n = rest.length := ⟨_, rfl⟩
      rw [← hrl] at x0 x1 x2 hw0 HI0 hcap h15 ⊢
      have HRL := qHd hrl; clear hrl
      rw [hw0] at c0
      go_enter Tryz.func23, Tryz.ntmps23
      go_wp2_with (with_reducible refine qdk ?_)
      rw [← hw0, ← hg0]
      clear hw0 hg0 x0 x1 x2 c0
      refine wpList_sl 1 Tryz.int_un Tryz.int_sz rfl rfl (by omega) ?_
      intro off2 hoff
      have HOFF := qHd hoff; clear hoff
      rw [show rl + 1 - 1 = rl by omega]
      go_wp2_with (with_reducible first | refine qah ?_ | refine qae ?_)
      refine qad.mk ?_
      go_loopw [25, 6] (fun i' xv wx => ∃ (q : Nat) (v1 : Value) (out1 : List Nd) (full1 : Bool) (r : Int), q ≤ rl ∧ i' = .int .i64 q ∧ xv = .int .i64 r ∧ Hid (Chg w0 wx [gm] v v1) ∧ Hid (Mk wx B (gn :: X) gm v1 V out1 full1) ∧ Hid (I64 r) ∧ Hid (full1 = false → Grw V out out1 r (chV 3 out (a0 :: rest.take q)))) (fun i' _ _ => rl - (intOf i').toNat)
      case atStart => exact ⟨0, v, out, false, a0, Nat.zero_le _, rfl, rfl, qHd (Chg.refl _ _ _), HM0, qHd (HI64.out a0 (by simp)), qHd (fun _ => chain_start HIM.out.ok (HA.out a0 (by simp)))⟩
      case round =>
        obtain ⟨q, v1, out1, full1, r, hq, rfl, rfl, C, M, R, F⟩ := hrel
        obtain ⟨wi, rfl⟩ : ∃ wi : World, wi = wr := ⟨_, rfl⟩
        by_cases hlt : q < rl
        · obtain ⟨y, hy⟩ : ∃ y, rest[q]? = some y := ⟨rest[q]'(by rw [← HRL.out]; exact hlt), List.getElem?_eq_getElem (by rw [← HRL.out]; exact hlt)⟩
          have hII := HM0.out.keepI C.out (fun g hg => ⟨List.mem_cons_of_mem _ (HSP.out g (by rw [HLN.out, ← HRL.out]; exact hg)).1, (HSP.out g (by rw [HLN.out, ← HRL.out]; exact hg)).2⟩) HI0.out
          obtain ⟨b', off', e', u1, u2, hat⟩ := hII.at (by omega)
          clear u1 u2
          cases e'
          have cq := hat (q + 1) y (by simpa using hy)
          rw [show off + (q + 1) = off2 + q by have := HOFF.out (by omega) (by omega); omega] at cq
          clear hat hII
          obtain ⟨x0, x1, x2⟩ := qaq (HM0.out.keep C.out (List.mem_cons_self ..) HN0.out G0.out)
          have hltz : (q : Int) < (rl : Int) := by omega
          have HY := qHd hy; clear hy
          obtain ⟨w5, hw5⟩ : ∃ z0, z0 = wi.alloc (.cells #[.int .i64 r, .int .i64 y] 3) := ⟨_, rfl⟩
          have hb5 : Below wi.heap.size wi w5 := by rw [hw5]; exact qBA _ _
          obtain ⟨g5, hg5⟩ : ∃ g, g = wi.heap.size := ⟨_, rfl⟩
          have hx5 : w5.heap[g5]? = some (.cells #[.int .i64 r, .int .i64 y] 3) := by rw [hw5, hg5]; exact heap_alloc_new _ _
          have hs5 : w5.heap.size = wi.heap.size + 1 := by rw [hw5]; simp
          have hy64 := HI64.out y (List.mem_cons_of_mem _ (List.mem_of_getElem? HY.out))
          have HK := qHd (madd_any B gm V (gn :: X) v1 (.slice (some ⟨g5, 0, none⟩) 2 2) out1 full1 3 0 [r, y] w5 (M.out.below hb5) (qby (l := [r, y]) hx5 rfl (by simp) (qdd R.out hy64)) (.inr (by simp)) (by simp) ⟨by decide, by decide⟩ ⟨by decide, by decide⟩ hV)
          have C5 := qHd (C.out.trans (Chg.of_below hb5))
          clear hb5 hx5 hs5 hy64
          go_wp2_with (with_reducible refine qac ?_)
          rw [← hw5, ← hg5]
          clear hw5 hg5 x0 x1 x2 cq
          refine qad.mk ?_
          (with_reducible refine HK.out.mono ?_); rintro e w6 ⟨v2, out2, full2, r2, rfl, hC, hM2, hr2, hF2⟩
          have C6 := qHd (C5.out.trans hC); have M6 := qHd hM2
          have F6 := qHd (show full2 = false → Grw V out out2 ((r2 : Nat) : Int) (chV 3 out (a0 :: rest.take (q + 1))) from fun h => by
            obtain ⟨f1, f2, f3⟩ := hF2 h
            have hs := chain_step (k := 3) (by decide) (F.out f1) (HA.out y (List.mem_cons_of_mem _ (List.mem_of_getElem? HY.out)))
            rw [f2, f3, List.take_add_one, HY.out]
            exact hs)
          have R6 := qHd (qch (n := r2) (by omega))
          clear hC hM2 hF2 HK C5
          go_wp2_with fail
          go_roundw
          case rel => exact ⟨q + 1, v2, out2, full2, (r2 : Nat), by omega, by go_num, rfl, C6, M6, R6, F6⟩
          case measure => simp [intOf]; omega
        · have hq' : q = rl := by omega
          subst hq'
          go_wp2_with fail
          go_ret2
          refine ⟨v1, out1, full1, r, true, rfl, HC0.out.trans C.out, M.out.sub HM.out.mem (fun g hg => List.mem_cons_of_mem _ hg), R.out, (fun h => by cases h), fun _ h => ⟨?_, trivial⟩⟩
          have hf := F.out h
          rw [HRL.out, List.take_length, ← HL.out] at hf
          exact chain_done (x := ⟨3, K, args⟩) (by simp) HIM.out HX.out (fun _ _ => trivial) hf
  · have t2 : (k != 2) = true := bne_iff_ne.2 (by omega)
    have t3 : (k != 3) = true := bne_iff_ne.2 (by omega)
    go_enter Tryz.func23, Tryz.ntmps23
    go_wp2_with fail
    rw [← hw0, ← hg0]
    clear hw0 hg0 x0 x1 x2
    go_ret2
    exact ⟨v, out, false, 0, false, rfl, HC0.out, HM0.out.sub HM.out.mem (fun g hg => List.mem_cons_of_mem _ hg), ⟨by decide, by decide⟩, fun _ => ⟨rfl, rfl, fun _ _ => trivial⟩, fun h => by cases h⟩
def JX (nodes out : List Nd) : Prop := (∀ y ∈ nodes, y.kind ≠ 5) → out.length = nodes.length
end Go.Proofs.YteadcgmaailjlaaGreatDoor
namespace Go.Proofs.YteadcgmaailjlaaGreatDoor
def qdy (vars s : Nat) : Nat := 2 ^ vars - (s + 1)
theorem compS_bit {vars s : Nat} (h : s < 2 ^ vars) (i : Nat) : (qdy vars s).testBit i = (decide (i < vars) && !s.testBit i) := by
 unfold qdy; exact Nat.testBit_two_pow_sub_succ h i
def topS (f : Fm) (s : Nat) : Bool := decide (fmVal f s (qdy f.vars.toNat s) = 1)
theorem fmErr_parts {f : Fm} (h : qcr f = 0) : 0 ≤ f.vars ∧ f.vars ≤ 24 ∧ f.nodes.length ≤ 128 ∧ ndsOK f.vars 0 f.nodes := by
 unfold qcr at h
 split at h
 ·cases h
 split at h
 ·cases h
 split at h
 ·rename_i k; exact absurd h k
 rename_i _ _ k3
 exact ⟨by omega, by omega, by omega, by unfold ndsOK; omega⟩
theorem valsN_snoc : ∀ (l : List Nd) (vs : List Nat) (x : Nd), qaj vs (l ++ [x]) = qaj vs l ++ [ndVal x (qcb (qaj vs l) x.args 0) (qcb (qaj vs l) x.args 1) (qcb (qaj vs l) x.args 2)]
 | [], vs, x => by simp [qaj]
 | y :: ys, vs, x => by simp only [List.cons_append, qaj]; exact valsN_snoc ys _ x
theorem take_snoc {α : Type} {l : List α} {j : Nat} {x : α} (h : l[j]? = some x) : l.take (j + 1) = l.take j ++ [x] := by
 rw [List.take_add_one, h]; rfl
theorem cntV_snoc (vs : List Nat) (args : List Int) (a : Int) (k : Nat) : qcb vs (args ++ [a]) k = qcb vs args k + if gd vs a.toNat = k then 1 else 0 := by
 unfold qcb
 rw [List.filter_append, List.length_append]
 by_cases h : gd vs a.toNat = k
 ·simp [h]
 ·simp [h]
theorem valsE_take (vars yes no j : Nat) (h : j < vars) : (valsE vars yes no).take (j + 1) = (valsE vars yes no).take j ++ [ev3 yes no j] := by
 apply take_snoc
 unfold valsE
 rw [List.getElem?_map, List.getElem?_range h]; rfl
theorem valsN_take {l : List Nd} {i : Nat} {x : Nd} (h : l[i]? = some x) (vs : List Nat) :
  qaj vs (l.take (i + 1)) = qaj vs (l.take i) ++ [ndVal x (qcb (qaj vs (l.take i)) x.args 0) (qcb (qaj vs (l.take i)) x.args 1) (qcb (qaj vs (l.take i)) x.args 2)] := by
 rw [take_snoc h, valsN_snoc]
theorem ndsErr_at {vars : Int} : ∀ (l : List Nd) (i : Nat), ndsOK vars i l → ∀ (j : Nat) x, l[j]? = some x → qbe vars (i + j) x = 0
 | [], i, _, j, x, h => by simp at h
 | y :: ys, i, ho, j, x, h => by
  obtain ⟨h1, h2⟩ := ndsOK_cons ho
  cases j with
  | zero => simp at h; subst h; exact h1
  | succ j =>
   simp only [List.getElem?_cons_succ] at h
   have := ndsErr_at ys (i + 1) h2 j x h
   rw [show i + (j + 1) = i + 1 + j by omega]; exact this
theorem valsN_le {vars : Int} : ∀ (l : List Nd) (i : Nat) (vs : List Nat), ndsOK vars i l → (∀ j, gd vs j ≤ 2) → ∀ j, gd (qaj vs l) j ≤ 2
 | [], _, vs, _, h, j => h j
 | x :: xs, i, vs, ho, h, j => by
  obtain ⟨h1, h2⟩ := ndsOK_cons ho
  simp only [qaj]
  refine valsN_le xs (i + 1) _ h2 (fun k => ?_) j
  rw [gd_snoc]
  split
  ·exact h k
  split
  ·exact ndVal_le h1 _ _ _
  ·omega
theorem ndsOK_take {vars : Int} : ∀ (l : List Nd) (i k : Nat), ndsOK vars i l → ndsOK vars i (l.take k)
 | [], _, _, _ => by simp [ndsOK, qbc]
 | x :: xs, i, 0, _ => by simp [ndsOK, qbc]
 | x :: xs, i, k + 1, h => by
  obtain ⟨h1, h2⟩ := ndsOK_cons h
  have := ndsOK_take xs (i + 1) k h2
  unfold ndsOK at this ⊢
  rw [List.take_succ_cons, ndsErr_cons h1]; exact this
theorem fmErr_top {f : Fm} (h : qcr f = 0) : 0 ≤ f.top ∧ f.top < f.vars + f.nodes.length := by
 have hk : argOK f f.top = true := by
  unfold qcr at h
  split at h
  ·cases h
  split at h
  ·cases h
  split at h
  ·rename_i hh; exact absurd h hh
  split at h
  ·assumption
  ·cases h
 unfold argOK at hk
 have := of_decide_eq_true hk
 omega
theorem valsF_length (f : Fm) (yes no : Nat) : (valsF f yes no).length = f.vars.toNat + f.nodes.length := by unfold valsF; rw [qdt, qdu]
end Go.Proofs.YteadcgmaailjlaaGreatDoor
namespace Go.Proofs.YteadcgmaailjlaaGreatDoor
open Go.RowKit Go.ChangeShapes Go.WideShapes
theorem ndVal_5 {K : Int} {args : List Int} {k : Int} {c0 c1 c2 : Nat} (h : k = 5) : ndVal ⟨k, K, args⟩ c0 c1 c2 = lev (decide (c2 = 0 ∧ c1 % 2 = 1)) (decide (c2 = 0 ∧ c1 % 2 = 0)) := by subst h; rfl
end Go.Proofs.YteadcgmaailjlaaGreatDoor
namespace Go.Proofs.YteadcgmaailjlaaGreatDoor
theorem toNat_ofInt64 {x : Nat} (h : x < 9223372036854775808) : (BitVec.ofInt 64 (x : Int)).toNat = x := by
 rw [BitVec.toNat_ofInt]; omega
theorem qda {z : Int} (h : 0 ≤ z ∧ z < 9223372036854775808) : IntKind.wrap .i64 z = z := by
 unfold IntKind.wrap
 simp [IntKind.bits, IntKind.signed]
 omega
theorem bits_and {x y : Nat} (hx : x < 9223372036854775808) (hy : y < 9223372036854775808) : bits .and .i64 (x : Int) (y : Int) = ((x &&& y : Nat) : Int) := by
 have hle : x &&& y ≤ x := Nat.and_le_left
 have h : (BitVec.ofInt 64 (x : Int) &&& BitVec.ofInt 64 (y : Int)).toNat = x &&& y := by
  rw [BitVec.toNat_and, toNat_ofInt64 hx, toNat_ofInt64 hy]
 show IntKind.wrap .i64 ((BitVec.ofInt 64 (x : Int) &&& BitVec.ofInt 64 (y : Int)).toNat : Int) = _
 rw [h]
 exact qda (by omega)
theorem bit_one (x i : Nat) : (x >>> i) &&& 1 = if x.testBit i then 1 else 0 := by
 rw [Nat.and_one_is_mod]
 unfold Nat.testBit
 rw [Nat.one_and_eq_mod_two]
 split <;> rename_i h <;> simp at h <;> omega
end Go.Proofs.YteadcgmaailjlaaGreatDoor
namespace Go.Proofs.YteadcgmaailjlaaGreatDoor
open Go.RowKit Go.ChangeShapes Go.WideShapes
theorem bit_parts {x i : Nat} (hx : x < 9223372036854775808) : ∃ (xs x1 : Nat) (xt : Bool), (x : Int) / 2 ^ i = (xs : Int) ∧ bits .and .i64 (xs : Int) 1 = (x1 : Int) ∧ (((x1 : Nat) : Int) == 1) = xt ∧ x.testBit i = xt := by
 refine ⟨x >>> i, (x >>> i) &&& 1, x.testBit i, ?_, ?_, ?_, rfl⟩
 ·rw [Nat.shiftRight_eq_div_pow]; simp
 ·have : x >>> i ≤ x := by rw [Nat.shiftRight_eq_div_pow]; exact Nat.div_le_self _ _
  exact bits_and (by omega) (by decide)
 ·rw [bit_one]; split <;> rename_i h <;> simp [h]
theorem nd_16 {v : Int} {i : Nat} {x : Nd} (h : qbe v i x = 0) : x.args.length ≤ 16 := by
 have hA := ndErr_args h
 unfold qbq at hA
 split at hA
 ·have := of_decide_eq_true hA; omega
 split at hA
 ·have := of_decide_eq_true hA; omega
 ·exact (of_decide_eq_true hA).2
section
variable {P : Program} {w : World} {ops : Array Oper} {rest : List Oper} {a : Act} {Q : Exit → Act → World → Prop}
theorem wpList_pauseM {d : Option Tmp} {tt t : TypeId} {l c : Operand} {pos : String} {af : Array Edge} (h : qad (wpList P ops Q (⟨d, .makeSlice t l c, tt, pos, af, none⟩ :: rest) a w)) : wpList P ops Q (⟨d, .makeSlice t l c, tt, pos, af, none⟩ :: rest) a w := h
end
def bvals (l : List Nat) : List Value := l.map fun x => Value.bool (decide (x = 1))
theorem bvals_length (l : List Nat) : (bvals l).length = l.length := by simp [bvals]
theorem bvals_app (a b : List Nat) : bvals (a ++ b) = bvals a ++ bvals b := by simp [bvals]
theorem bvals_at {l : List Nat} {j : Nat} (h : j < l.length) : (bvals l)[j]? = some (.bool (decide (gd l j = 1))) := by
 simp [bvals, gd, List.getElem?_eq_getElem h]
theorem set_next {α : Type} (l : List α) (k : Nat) (x z : α) : (l ++ List.replicate (k + 1) z).set l.length x = (l ++ [x]) ++ List.replicate k z := by
 rw [List.set_append, if_neg (by omega), Nat.sub_self, List.replicate_succ, List.set_cons_zero]; simp
theorem ev3_state {V s i : Nat} (hs : s < 2 ^ V) (hi : i < V) : ev3 s (qdy V s) i = if s.testBit i then 1 else 0 := by
 unfold ev3
 rw [compS_bit hs]
 cases s.testBit i <;> simp [hi]
theorem state_known {V s : Nat} {ns : List Nd} (hs : s < 2 ^ V) (h : ndsOK (V : Int) 0 ns) (j k : Nat) : gd (qaj (valsE V s (qdy V s)) (ns.take k)) j ≠ 2 :=
 valsN_known (ns.take k) 0 _ (ndsOK_take ns 0 k h) (fun j => by rw [valsE_gd]; split <;> first | exact ev3_le _ _ _ | omega) (fun j => by
  rw [valsE_gd]; split
  ·rename_i hi; rw [ev3_state hs hi]; split <;> decide
  ·decide) j
theorem cnt_three (vs : List Nat) (h : ∀ j, gd vs j ≤ 2) : ∀ args : List Int, qcb vs args 0 + qcb vs args 1 + qcb vs args 2 = args.length
 | [] => rfl
 | a :: l => by
  have ih := cnt_three vs h l
  have ha := h a.toNat
  have e : ∀ k, qcb vs (a :: l) k = (if gd vs a.toNat = k then 1 else 0) + qcb vs l k := fun k => by
   unfold qcb
   rw [List.filter_cons]
   by_cases hk : gd vs a.toNat = k <;> simp [hk]; omega
  rw [e, e, e, List.length_cons]
  have h3 : gd vs a.toNat = 0 ∨ gd vs a.toNat = 1 ∨ gd vs a.toNat = 2 := by omega
  rcases h3 with h3 | h3 | h3 <;> simp [h3] <;> omega
theorem cnt_no2 {vs : List Nat} (h : ∀ j, gd vs j ≠ 2) (args : List Int) : qcb vs args 2 = 0 := by
 unfold qcb
 rw [List.length_eq_zero_iff, List.filter_eq_nil_iff]
 intro a _; simp [h a.toNat]
theorem lev_one (a b : Bool) : decide (lev a b = 1) = a := by cases a <;> cases b <;> rfl
section
variable {P : Program} {w : World} {ops : Array Oper} {rest : List Oper} {a : Act} {Q : Exit → Act → World → Prop}
theorem wpList_makeNM {d : Option Tmp} {tt t e : TypeId} {l c : Operand} {pos : String} {af : Array Edge} (base : Nat) {z : Value} {bytes : Nat} (T : qdj P t e z 1 bytes) (hzc : z.cells = #[z])
  {kl kc : IntKind} {L C : Int} (n m : Nat) (hl : a.eval l = .int kl L) (hc : a.eval c = .int kc C) (hL : L = (n : Int)) (hC : C = (m : Int)) (hnm : n ≤ m) (hm : m ≤ 1000000) (hby : bytes ≤ 1000) (hbase : base ≤ w.heap.size)
  (hK : ∀ w', w'.ownsRow base e 1 (.slice (some ⟨w.heap.size, 0, none⟩) n m) n (List.replicate n z) → w.grownBy w' none → wpList P ops Q rest (a.put d (.slice (some ⟨w.heap.size, 0, none⟩) n m)) w') :
  qad (wpList P ops Q (⟨d, .makeSlice t l c, tt, pos, af, none⟩ :: rest) a w) := by
 obtain ⟨i0, hi, hz0, hz1, hz2⟩ := T.info
 have hb : bytes * m ≤ 1000 * 1000000 := Nat.mul_le_mul hby hm
 refine wpList_plain rfl fun K hK' => ?_
 subst hL; subst hC
 have hb' : (i0.bytes : Int) * (m : Int) ≤ 281474976710656 := by
  have h : ((i0.bytes * m : Nat) : Int) ≤ 281474976710656 := by rw [hz2]; omega
  rwa [Int.natCast_mul] at h
 have hrun := run_makeSlice (P := P) (w := w) t e i0 z T.under hi hz0 kl kc n m (by omega) (by omega) (by rw [hz1, Int.toNat_natCast]; omega) hb' (by omega)
 simp only [Int.toNat_natCast] at hrun
 unfold Oper.wp
 simp [execOp, hl, hc, hrun, Result.andThen]
 refine hK' _ _ (hK _ ⟨by simp, .inr ⟨w.heap.size, m, madeCells z.cells (m * i0.size), rfl, hbase, by rw [hz1, Nat.mul_one]; exact heap_alloc_new w _, hnm, by unfold maxLen; omega, size_madeCells _ _ |>.trans (by rw [hz1]), ?_⟩⟩ (World.grownBy_alloc w _ none))
 rw [hzc, hz1, Nat.mul_one, Nat.mul_one, toList_madeCells_one, List.take_replicate, Nat.min_eq_left hnm]
theorem wpList_stO {ty tt : TypeId} {x y : Operand} {pos : String} {af : Array Edge} {B n cap g : Nat} {e : TypeId} {xs : List Value} (j : Nat) {b : Bool}
  (hown : w.ownsRow B e 1 (.slice (some ⟨g, 0, none⟩) n cap) n xs) (hj : j < n) (hx : a.eval x = .pointer (some ⟨g, j, none⟩)) (hy : a.eval y = .bool b) (hi : (P.info? ty).map (·.size) = some 1)
  (hK : ∀ w', w'.ownsRow B e 1 (.slice (some ⟨g, 0, none⟩) n cap) n (xs.set j (.bool b)) → w.grownBy w' (some g) → wpList P ops Q rest a w') :
  qad (wpList P ops Q (⟨none, .store ty x y, tt, pos, af, none⟩ :: rest) a w) := by
 refine wpList_plain rfl fun K hK' => ?_
 have hlen : xs.length = n := by have := hown.1; omega
 obtain ⟨u, hu⟩ : ∃ u, xs[j]? = some u := ⟨xs[j]'(by omega), List.getElem?_eq_getElem (by omega)⟩
 have hc : w.cell? ⟨g, j, none⟩ = some u := by
  have := World.ownsRow.cells (g := g) hown rfl j u hu
  rwa [addr_add, Nat.zero_add] at this
 have hf := hown.frozenAt j
 obtain ⟨i0, hi0, hi1⟩ : ∃ i, P.info? ty = some i ∧ i.size = 1 := by
  cases h : P.info? ty with
  | none => rw [h] at hi; cases hi
  | some i => rw [h] at hi; exact ⟨i, rfl, by simpa using hi⟩
 have hs : (Go.sizeOf ty).run P w = .ok 1 w := by simp [Go.sizeOf, typeInfo, hi0, hi1]
 obtain ⟨k1, k2⟩ := hown.stored j (.bool b)
 have hk := hK' _ _ (hK _ k1 k2)
 clear hK hK'
 unfold Oper.wp
 simp only [execOp, hx, hy]
 go_simp
 try simp only [hs, Result.andThen_ok, if_true, hc, hf]
 simpa [Oper.upon, Act.put] using hk
end
theorem assert_yes (c : Int) (w : World) : (Instr.typeAssert (.iface 34 (.int .i64 c)) 28 34 true).run Tryz.prog w = .ok (.tuple #[.int .i64 c, .bool true]) w := by kernel_rfl
theorem assert_no (w : World) : (Instr.typeAssert .nilIface 28 34 true).run Tryz.prog w = .ok (.tuple #[.int .i64 0, .bool false]) w := by kernel_rfl
theorem is_eq (c k : Nat) : (((c : Int) == (k : Int)) : Bool) = decide (c = k) := by rw [Bool.eq_iff_iff]; simp; omega
theorem is_any (c : Nat) (kk : Int) (k : Nat) (w : World) (hk : kk = k) (hk0 : k ≠ 0) : Calls Tryz.prog 12 #[qdi c, .int .i64 kk] w (RetS w (.bool (decide (c = k)))) := by
 have HK := qHd hk; clear hk
 by_cases h0 : c = 0
 ·subst h0
  have ha := assert_no
  rw [qce]
  go_enter Tryz.func12, Tryz.ntmps12
  go_wp2
  go_ret
  exact ⟨qcj (by rw [eq_comm]; simp; omega), rfl⟩
 ·have ha := assert_yes c
  rw [errV_pos h0]
  go_enter Tryz.func12, Tryz.ntmps12
  go_wp2
  go_ret
  exact ⟨qcj (by rw [HK.out, is_eq]), rfl⟩
/-! integers of the call's own -/
theorem ivs_set (l : List Int) (j : Nat) (x : Int) (hj : j < l.length) : spl (qbm l) j [.int .i64 x] = qbm (l.set j x) := by
 apply List.ext_getElem?
 intro i
 rw [spl_at (by rw [ivals_length]; simp; omega)]
 unfold qbm
 simp only [List.getElem?_map, List.getElem?_set, List.length_cons, List.length_nil]
 by_cases a : i < j
 ·rw [if_pos a, if_neg (by omega)]
 ·rw [if_neg a]
  by_cases e : i = j
  ·subst e; rw [if_pos (by omega), if_pos rfl, if_pos hj, Nat.sub_self]; rfl
  ·rw [if_neg (by omega), if_neg (fun q => e q.symm)]
theorem getD_set {l : List Int} {j : Nat} {x : Int} (hj : j < l.length) (i : Nat) : (l.set j x).getD i 0 = if i = j then x else l.getD i 0 := by
 rw [List.getD_eq_getElem?_getD, List.getD_eq_getElem?_getD, List.getElem?_set]
 by_cases e : i = j
 ·subst e; rw [if_pos rfl, if_pos hj, if_pos rfl]; rfl
 ·rw [if_neg (fun q => e q.symm), if_neg e]
theorem ownI_cell {w : World} {B g n c : Nat} {l : List Int} (h : qbx w B 3 1 (.slice (some ⟨g, 0, none⟩) n c) n (qbm l)) (hl : l.length = n) {i : Nat} (hi : i < n) : w.cell? ⟨g, i, none⟩ = some (.int .i64 (l.getD i 0)) := by
 obtain ⟨g', e, _, _, _, _, hc⟩ := qbt h.1 rfl (by omega)
 cases e
 refine hc i _ (ivals_at ?_)
 rw [List.getD_eq_getElem?_getD, List.getElem?_eq_getElem (by omega)]; rfl
theorem qdv {w : World} {B g n c : Nat} {e : TypeId} {xs : List Value} (h : qbx w B e 1 (.slice (some ⟨g, 0, none⟩) n c) n xs) : ∃ cs, w.heap[g]? = some (.cells cs e) ∧ n ≤ cs.size := by
 rcases h.1.2 with ⟨h0, _⟩ | ⟨g', cap, cur, hv, hb, hg, hnc, hcm, hcs, ht⟩
 ·cases h0
 ·simp only [Value.slice.injEq, Option.some.injEq, Addr.mk.injEq, and_true, true_and] at hv
  obtain ⟨rfl, rfl⟩ := hv
  exact ⟨cur, hg, by rw [hcs]; omega⟩
theorem ownI_put {w w' : World} {B g n c j : Nat} {l : List Int} {x : Int} (h : qbx w B 3 1 (.slice (some ⟨g, 0, none⟩) n c) n (qbm l)) (hl : l.length = n) (hj : j < n) (hw : w' = putL w g j [.int .i64 x]) :
  qbx w' B 3 1 (.slice (some ⟨g, 0, none⟩) n c) n (qbm (l.set j x)) := by
 have := (h.write hw (by simp; omega) (qal [x])).1
 rwa [ivs_set l j x (by omega)] at this
theorem own_full {w : World} {B g n : Nat} {e : TypeId} {xs : List Value} (h : w.ownsRow B e 1 (.slice (some ⟨g, 0, none⟩) n n) n xs) (hu : noU xs) : qbx w B e 1 (.slice (some ⟨g, 0, none⟩) n n) n xs := by
 refine ⟨h, fun g' cur hg hc => ?_⟩
 simp only [Value.ownBlock, Option.some.injEq] at hg
 subst hg
 rcases h.2 with ⟨h0, _⟩ | ⟨g', cap, cur', hv, hb, hg, hnc, hcm, hcs, ht⟩
 ·cases h0
 ·simp only [Value.slice.injEq, Option.some.injEq, Addr.mk.injEq, and_true, true_and] at hv
  obtain ⟨rfl, rfl⟩ := hv
  rw [hg] at hc
  cases hc
  rw [← ht, List.take_of_length_le (by rw [Array.length_toList, hcs]; exact Nat.le_refl _)] at hu
  exact hu
theorem noU_rep (n : Nat) (x : Int) : noU (List.replicate n (.int .i64 x)) := by
 intro u hu k
 rw [List.eq_of_mem_replicate hu]
 exact fun e => by cases e
theorem ivals_rep (n : Nat) (x : Int) : List.replicate n (Value.int .i64 x) = qbm (List.replicate n x) := by simp [qbm]
theorem qcg {w0 w w' : World} {B : Nat} (h : Below B w0 w) (hB : B ≤ w0.heap.size) (hb : Below w.heap.size w w') : Below B w0 w' := h.trans (hb.mono (Nat.le_trans hB h.size))
theorem qbo {w0 w : World} {B g : Nat} {o : Obj} (h : Below B w0 w) (hg : w0.heap[g]? = some o) (hlt : g < B) : w.heap[g]? = some o := by rw [h.block g hlt]; exact hg
theorem qco {w : World} {g : Nat} {x0 x1 x2 y0 y1 y2 : Value} {T : TypeId} (h : w.heap[g]? = some (.cells #[x0, x1, x2] T)) : (putL w g 0 [y0, y1, y2]).heap[g]? = some (.cells #[y0, y1, y2] T) := by
 simp [putL, World.setCell, Array.getElem?_modify, h]
theorem putL_32 {w : World} {g : Nat} {x0 x1 x2 y2 : Value} {T : TypeId} (h : w.heap[g]? = some (.cells #[x0, x1, x2] T)) : (putL w g 2 [y2]).heap[g]? = some (.cells #[x0, x1, y2] T) := by
 simp [putL, World.setCell, Array.getElem?_modify, h]
theorem ret_fm {P : Program} {fn : Func} {R : Ending → World → Prop} {a : Act} {w : World} {p u : Tmp} {ty : TypeId} {d : TypeDesc} (h : fn.results = #[.cell p ty, .tmp u]) (g : Nat) (cs : Array Value)
  (hp : a.tmps.getD p undef = .pointer (some ⟨g, 0, none⟩)) (hg : w.heap[g]? = some (.cells cs ty)) (hu : P.underlying ty = some d) (hd : (match d with | .struct _ | .array _ _ => true | _ => false) = true) (hi : (P.info? ty).map (·.size) = some cs.size)
  (hf : a.defers = []) (hR : R (.returned (.tuple #[.agg cs, a.tmps.getD u undef])) w) : bodyPost P fn R .ret a w := by
 refine bodyPost_ret (v := .tuple #[.agg cs, a.tmps.getD u undef]) ?_ hf hR
 rw [results_cell_tmp h, hp]
 simp only [asAddr, Sem.run_pure, Result.andThen, run_loadVar_row w g ty ty cs _ d hg hu hd hi]
def FmL (w : World) (B : Nat) (v : Value) (f : Fm) : Prop := ∃ o n c X, v = .agg #[.int .i64 f.vars, .slice o n c, .int .i64 f.top] ∧ NdL w B X (.slice o n c) f.nodes ∧ I64 f.vars ∧ I64 f.top
theorem FmL.fmV {w : World} {B : Nat} {v : Value} {f : Fm} (h : FmL w B v f) : FmV w v f := by
 obtain ⟨o, n, c, X, h1, h2, h3, h4⟩ := h
 exact ⟨_, h1, h2.nds, h3, h4⟩
theorem FmL.base {w : World} {B B' : Nat} {v : Value} {f : Fm} (h : FmL w B v f) (hB : B' ≤ B) : FmL w B' v f := by
 obtain ⟨o, n, c, X, h1, h2, h3, h4⟩ := h
 exact ⟨o, n, c, X, h1, h2.base hB, h3, h4⟩
theorem FmL.exc {w w' : World} {Y : List Nat} {B : Nat} {v : Value} {f : Fm} (h : FmL w B v f) (e : Exc w w' Y) (hY : ∀ g ∈ Y, g < B) : FmL w' B v f := by
 obtain ⟨o, n, c, X, h1, h2, h3, h4⟩ := h
 exact ⟨o, n, c, X, h1, h2.exc e (fun g hg => .inr (hY g hg)), h3, h4⟩
theorem FmL.below {w w' : World} {B : Nat} {v : Value} {f : Fm} (h : FmL w B v f) (hb : Below w.heap.size w w') : FmL w' B v f := h.exc (Exc.of_below (X := []) hb) (fun g hg => by cases hg)
theorem FmL.put {w w' : World} {B g off : Nat} {l : List Value} {v : Value} {f : Fm} (h : FmL w B v f) (hw : w' = putL w g off l) (hg : g < B) : FmL w' B v f := h.exc (Exc.put (X := [g]) hw (List.mem_singleton.2 rfl)) (fun k hk => by rw [List.mem_singleton] at hk; subst hk; exact hg)
theorem fmL_zero (w : World) (B : Nat) : FmL w B (.agg #[.int .i64 0, .slice none 0 0, .int .i64 0]) ⟨0, [], 0⟩ := ⟨none, 0, 0, [], rfl, NdL.nil _ _ _, ⟨by decide, by decide⟩, ⟨by decide, by decide⟩⟩
def RetMp (w : World) (f : Fm) (R : Fm → Prop) (e : Ending) (w' : World) : Prop :=
 ∃ (vg : Value) (g : Fm) (ec : Nat), e = .returned (.tuple #[vg, qdi ec]) ∧ Below w.heap.size w w' ∧ FmL w' w.heap.size vg g ∧ (ec = 4 ∨ (ec = 0 ∧ FEq f g ∧ R g))
theorem qbs {α : Type} {l : List α} {j : Nat} {x : α} (h : l[j]? = some x) : l.take (j + 1) = l.take j ++ [x] := by
 rw [List.take_add_one, h]; rfl
theorem ndErr_nat {V j : Nat} {l : List Nd} {x : Nd} (ho : qbc (V : Nat) 0 l = 0) (hx : l[j]? = some x) : qbe (V : Nat) j x = 0 := by
 have := ndsErr_at l 0 ho j x hx
 rwa [Nat.zero_add] at this
theorem qbp {V : Int} {l : List Nd} (h : qbc V 0 l = 0) (k : Nat) : qbc V 0 (l.take k) = 0 := ndsOK_take l 0 k h
theorem cell1_b {w w' : World} {g i : Nat} {x : Value} (h : w.cell? ⟨g, i, none⟩ = some x) (hb : Below w.heap.size w w') : w'.cell? ⟨g, i, none⟩ = some x := by
 rw [hb.cell (p := ⟨g, i, none⟩) (World.block_lt_of_cell? _ _ h)]; exact h
def rowV (xs : List Int) : Value := .agg (qbm xs).toArray
def rowK (xs : List Int) : Lit := .string (keyBytes (xs.map fun x => Lit.int .i64 x))
theorem wf_i64 {x : Int} (h : I64 x) : (Lit.int .i64 x).wf = true := by
 simp only [Lit.wf, Bool.and_eq_true, decide_eq_true_eq]
 have h1 : IntKind.i64.min = -9223372036854775808 := by decide
 have h2 : IntKind.i64.max = 9223372036854775807 := by decide
 rw [h1, h2]; exact h
structure KTy (P : Program) (T mt ti : TypeId) (ar : Nat) : Prop where
 keyed : Maps.Keyed P T
 map : P.underlying mt = some (.map T ti)
 tint : P.underlying ti = some (.int .i64)
 zero : ∀ w, (zeroValue ti).run P w = .ok (.int .i64 0) w
 key : ∀ xs : List Int, xs.length = ar → (∀ x ∈ xs, I64 x) → keyOf P T (rowV xs) = some (rowK xs)
def qde (P : Program) (T ti : TypeId) (ar : Nat) (w : World) (b n : Nat) (M : List Int → Option Int) : Prop :=
 ∃ D : DataW Unit, w.ownsMap P T (plainElem P ti) b n D ∧ ∀ xs : List Int, xs.length = ar → (∀ x ∈ xs, I64 x) →
  Maps.has D (rowK xs) = (M xs).isSome ∧ (∀ x, M xs = some x → ∀ z, D.atKey (rowK xs) z = .lit (.int .i64 x)) ∧ (M xs = none → ∀ z, D.atKey (rowK xs) z = z)
section
variable {P : Program} {T mt ti : TypeId} {ar : Nat} {w w' : World} {b n : Nat} {M : List Int → Option Int}
theorem qde.made (w : World) : qde P T ti ar (w.alloc (.map #[] 0)) w.heap.size 0 (fun _ => none) :=
 ⟨_, World.ownsMap_made _ _ _ _, fun xs _ _ => ⟨rfl, (fun x h => by cases h), fun _ z => rfl⟩⟩
theorem qde.lt (h : qde P T ti ar w b n M) : b < w.heap.size := by obtain ⟨D, h1, _⟩ := h; exact h1.lt
theorem qde.exc {X : List Nat} (h : qde P T ti ar w b n M) (e : Exc w w' X) (hn : b ∉ X) : qde P T ti ar w' b n M := by
 obtain ⟨D, ⟨es, clock, hb, r⟩, h2⟩ := h
 exact ⟨D, ⟨es, clock, e.heap hb hn, r⟩, h2⟩
theorem qde.below (h : qde P T ti ar w b n M) (hb : Below w.heap.size w w') : qde P T ti ar w' b n M := h.exc (Exc.of_below (X := []) hb) (by simp)
theorem qde.look (K : KTy P T mt ti ar) (h : qde P T ti ar w b n M) {xs : List Int} (hl : xs.length = ar) (hI : ∀ x ∈ xs, I64 x) :
  ∃ c, (Instr.lookup mt (.map (some b)) (rowV xs) true).run P w = .ok (.tuple #[.int .i64 c, .bool (M xs).isSome]) w ∧ I64 c ∧ (∀ x, M xs = some x → c = x) ∧ (M xs = none → c = 0) := by
 obtain ⟨D, h1, h2⟩ := h
 obtain ⟨k1, k2, k3⟩ := h2 xs hl hI
 obtain ⟨v, ps, hrun, hv⟩ := h1.look_ok K.keyed K.map (K.zero w) (plainElem_int (a := 0) K.tint (by decide)) (K.key xs hl hI)
 obtain ⟨c, rfl, hc, hwc⟩ := plainElem_int_inv K.tint hv
 have hc := congrArg Prod.fst hc
 simp only at hc
 rw [k1] at hrun
 refine ⟨c, hrun, i64_wf hwc, fun x hx => ?_, fun hx => ?_⟩
 ·rw [k2 x hx] at hc
  cases hc; rfl
 ·rw [k3 hx] at hc
  cases hc; rfl
theorem qde.look1 (K : KTy P T mt ti ar) (h : qde P T ti ar w b n M) {xs : List Int} (hl : xs.length = ar) (hI : ∀ x ∈ xs, I64 x) :
  ∃ c, (Instr.lookup mt (.map (some b)) (rowV xs) false).run P w = .ok (.int .i64 c) w ∧ I64 c ∧ (∀ x, M xs = some x → c = x) ∧ (M xs = none → c = 0) := by
 obtain ⟨D, h1, h2⟩ := h
 obtain ⟨k1, k2, k3⟩ := h2 xs hl hI
 obtain ⟨c, hrun, hc, hwc⟩ := h1.lookup_int K.keyed K.map K.tint (K.zero w) (K.key xs hl hI)
 refine ⟨c, hrun, i64_wf hwc, fun x hx => ?_, fun hx => ?_⟩
 ·rw [k2 x hx] at hc
  cases hc; rfl
 ·rw [k3 hx] at hc
  cases hc; rfl
def updK (M : List Int → Option Int) (xs : List Int) (x : Int) : List Int → Option Int := fun ys => if ys = xs then some x else M ys
theorem rowV_inj {xs ys : List Int} (h : rowV xs = rowV ys) : xs = ys := by
 unfold rowV at h
 injection h with h
 have h2 : qbm xs = qbm ys := by simpa using h
 unfold qbm at h2
 clear h
 induction xs generalizing ys with
 | nil => cases ys with
  | nil => rfl
  | cons y ys => cases h2
 | cons x xs ih => cases ys with
  | nil => cases h2
  | cons y ys =>
   simp only [List.map_cons, List.cons.injEq, Value.int.injEq, true_and] at h2
   rw [h2.1, ih h2.2]
theorem keys_ne (K : KTy P T mt ti ar) {xs ys : List Int} (hx : xs.length = ar) (hX : ∀ x ∈ xs, I64 x) (hy : ys.length = ar) (hY : ∀ x ∈ ys, I64 x) (hne : ys ≠ xs) : rowK ys ≠ rowK xs := fun e => by
 have h1 := K.key xs hx hX
 have h2 := K.key ys hy hY
 rw [e] at h2
 exact hne (rowV_inj (K.keyed.inj h2 h1))
theorem qde.update (K : KTy P T mt ti ar) (h : qde P T ti ar w b n M) {xs : List Int} (hl : xs.length = ar) (hI : ∀ x ∈ xs, I64 x) {x : Int} (hx : I64 x) (hn : n < maxLen) :
  ∃ w', (Instr.mapUpdate mt (.map (some b)) (rowV xs) (.int .i64 x)).run P w = .ok () w' ∧ qde P T ti ar w' b (n + 1) (updK M xs x) ∧ w.grownBy w' (some b) := by
 obtain ⟨D, h1, h2⟩ := h
 have hk := K.key xs hl hI
 obtain ⟨w', hrun, k1, k2⟩ := h1.update K.keyed K.map hn hk (plainElem_int K.tint (wf_i64 hx))
 refine ⟨w', hrun, ⟨_, k1, fun ys hy hY => ?_⟩, k2⟩
 have hm := h1.isMap
 have hkey := K.keyed.key hk
 unfold updK
 by_cases e : ys = xs
 ·subst e
  rw [if_pos rfl]
  exact ⟨Maps.has_put_same hm hkey _, fun z hz u => by cases hz; exact Maps.atKey_put_same hm hkey _ _, fun h => by cases h⟩
 ·rw [if_neg e]
  have hne := keys_ne K hl hI hy hY e
  obtain ⟨q1, q2, q3⟩ := h2 ys hy hY
  exact ⟨by rw [Maps.has_put_other hne]; exact q1, fun z hz u => by rw [Maps.atKey_put_other hne]; exact q2 z hz u, fun hz u => by rw [Maps.atKey_put_other hne]; exact q3 hz u⟩
theorem stepOK_lookK {a : Act} {R : Value → World → Prop} {m x : Operand} {o : Oper} (K : KTy P T mt ti ar) (h : qde P T ti ar w b n M) {xs : List Int} (hl : xs.length = ar) (hI : ∀ x ∈ xs, I64 x) (ho : o.op = .lookup mt m x true)
  (hm : a.eval m = .map (some b)) (hx : a.eval x = rowV xs) (hK : ∀ c, I64 c → (∀ x, M xs = some x → c = x) → (M xs = none → c = 0) → R (.tuple #[.int .i64 c, .bool (M xs).isSome]) w) : StepOK P o a w R := by
 obtain ⟨c, hrun, h1, h2, h3⟩ := h.look K hl hI
 refine qak (v := .tuple #[.int .i64 c, .bool (M xs).isSome]) (w' := w) ?_ (hK c h1 h2 h3)
 unfold execOp
 simp only [ho, hm, hx, Sem.run_bind, Sem.run_pure, hrun, Result.andThen_ok]
 try rfl
theorem qdb {ops : Array Oper} {rest : List Oper} {a : Act} {Q : Exit → Act → World → Prop} {d : Option Tmp} {t tt : TypeId} {m x v : Operand} {pos : String} {af : Array Edge} (h : qad (wpList P ops Q (⟨d, .mapUpdate t m x v, tt, pos, af, none⟩ :: rest) a w)) : wpList P ops Q (⟨d, .mapUpdate t m x v, tt, pos, af, none⟩ :: rest) a w := h
theorem wpList_pauseLK {ops : Array Oper} {rest : List Oper} {a : Act} {Q : Exit → Act → World → Prop} {d : Option Tmp} {t tt : TypeId} {m x : Operand} {c : Bool} {pos : String} {af : Array Edge} (h : qad (wpList P ops Q (⟨d, .lookup t m x c, tt, pos, af, none⟩ :: rest) a w)) : wpList P ops Q (⟨d, .lookup t m x c, tt, pos, af, none⟩ :: rest) a w := h
theorem wpList_muK {ops : Array Oper} {rest : List Oper} {a : Act} {Q : Exit → Act → World → Prop} {d : Option Tmp} {tt : TypeId} {m x v : Operand} {pos : String} {af : Array Edge} (K : KTy P T mt ti ar) (h : qde P T ti ar w b n M) (xs : List Int) (y : Int) (hl : xs.length = ar) (hI : ∀ x ∈ xs, I64 x)
  (hy : I64 y) (hn : n < maxLen) (hm : a.eval m = .map (some b)) (hx : a.eval x = rowV xs) (hv : a.eval v = .int .i64 y)
  (hK : ∀ w', qde P T ti ar w' b (n + 1) (updK M xs y) → w.grownBy w' (some b) → wpList P ops Q rest (a.put d undef) w') : qad (wpList P ops Q (⟨d, .mapUpdate mt m x v, tt, pos, af, none⟩ :: rest) a w) := by
 obtain ⟨w', hrun, h1, h2⟩ := h.update K hl hI hy hn
 refine wpList_plain rfl fun _ hK' => ?_
 unfold Oper.wp
 simp [execOp, hm, hx, hv, hrun, Result.andThen]
 exact hK' _ _ (hK w' h1 h2)
theorem wpList_lk1K {ops : Array Oper} {rest : List Oper} {a : Act} {Q : Exit → Act → World → Prop} {d : Option Tmp} {tt : TypeId} {m x : Operand} {pos : String} {af : Array Edge} (K : KTy P T mt ti ar) (h : qde P T ti ar w b n M) (xs : List Int) (hl : xs.length = ar) (hI : ∀ x ∈ xs, I64 x)
  (hm : a.eval m = .map (some b)) (hx : a.eval x = rowV xs)
  (hK : ∀ c, I64 c → (∀ x, M xs = some x → c = x) → (M xs = none → c = 0) → wpList P ops Q rest (a.put d (.int .i64 c)) w) : qad (wpList P ops Q (⟨d, .lookup mt m x false, tt, pos, af, none⟩ :: rest) a w) := by
 obtain ⟨c, hrun, h1, h2, h3⟩ := h.look1 K hl hI
 refine wpList_plain rfl fun _ hK' => ?_
 unfold Oper.wp
 simp [execOp, hm, hx, hrun, Result.andThen]
 exact hK' _ _ (hK c h1 h2 h3)
end
/-! pairs -/
theorem Tryz.laidB : laidOutB Tryz.prog = true := by kernel_rfl
theorem Tryz.rowP : (167 : TypeId) < Tryz.prog.types.size := of_decide_eq_true (by kernel_rfl)
theorem Tryz.cellsP : Tryz.prog.cellsOf 167 = 2 := by kernel_rfl
theorem Tryz.cellsI : Tryz.prog.cellsOf 3 = 1 := by kernel_rfl
theorem Tryz.wideP : (match Tryz.prog.underlying 167 with | some (.array _ _) | some (.struct _) => true | _ => false) = true := by rw [Tryz.underlying167]
theorem Tryz.ktaP : Tryz.prog.keyTypeAt 2 167 = true := by kernel_rfl
theorem Tryz.lawP : Maps.Keyed Tryz.prog 167 := Maps.Keyed.of_law (deep_law_laid Tryz.laidB (m := 2) (by omega) Tryz.rowP Tryz.ktaP Tryz.wideP)
theorem Tryz.ktP : Tryz.prog.keyType 167 = true := by kernel_rfl
theorem Tryz.formedP {c0 c1 : Value} : (Value.agg #[c0, c1]).formed Tryz.prog 167 = true := by simp [Value.formed, Tryz.underlying167, Tryz.cellsP]
theorem Tryz.litsI (d : Nat) {k : Int} (hk : I64 k) : Tryz.prog.keyLits (d + 1) 3 [.int .i64 k] = some [.int .i64 k] := by
 simp [Program.keyLits, Tryz.underlying3, wf_i64 hk]
theorem Tryz.keyP {k i : Int} (hk : I64 k) (hi : I64 i) : keyOf Tryz.prog 167 (.agg #[.int .i64 k, .int .i64 i]) = some (rowK [k, i]) := by
 obtain ⟨d, hd⟩ : ∃ d, Tryz.prog.types.size = d + 1 := ⟨Tryz.prog.types.size - 1, (Nat.succ_pred_eq_of_pos (Nat.lt_of_le_of_lt (Nat.zero_le _) Tryz.rowP)).symm⟩
 unfold keyOf
 rw [Tryz.underlying167]
 simp only [Tryz.ktP, Tryz.formedP, Bool.and_self, if_true, hd]
 have e : Tryz.prog.keyLits (d + 1 + 1) 167 (Value.agg #[.int .i64 k, .int .i64 i]).cells.toList = some [.int .i64 k, .int .i64 i] := by
  show Tryz.prog.keyLits (d + 1 + 1) 167 [.int .i64 k, .int .i64 i] = _
  unfold Program.keyLits
  rw [Tryz.underlying167]
  simp [Tryz.cellsP, Tryz.cellsI, List.range_succ, Tryz.litsI d hk, Tryz.litsI d hi]
 rw [e]; rfl
theorem Tryz.kty2 : KTy Tryz.prog 167 123 3 2 := ⟨Tryz.lawP, Tryz.underlying123, Tryz.underlying3, fun w => by kernel_rfl, fun xs hl hI => by
 match xs, hl with
 | [a, b], _ => exact Tryz.keyP (hI a (by simp)) (hI b (by simp))⟩
end Go.Proofs.YteadcgmaailjlaaGreatDoor
namespace Go.Proofs.YteadcgmaailjlaaGreatDoor
abbrev Memo := Nat → Nat → Option Int
def updM (M : Memo) (k i : Nat) (x : Int) : Memo := fun a b => if a = k ∧ b = i then some x else M a b
def lsF (V : Nat) (l : List Int) : Nat → Nat → Nat → List Nd → Memo → (List Nd × Memo) × Int
 | 0, _, _, out, M => ((out, M), 0)
 | L + 1, k, i, out, M =>
  match M k i with
  | some x => ((out, M), x)
  | none =>
   if k = 1 then ((gateL 3 out (l.drop i), updM M k i (gateA V out (l.drop i))), gateA V out (l.drop i))
   else if k = (l.drop i).length then ((gateL 2 out (l.drop i), updM M k i (gateA V out (l.drop i))), gateA V out (l.drop i))
   else
    let p := lsF V l L (k - 1) (i + 1) out M
    let q := lsF V l L k (i + 1) (gateL 2 p.1.1 [l.getD i 0, p.2]) p.1.2
    ((gateL 3 q.1.1 [gateA V p.1.1 [l.getD i 0, p.2], q.2], updM q.1.2 k i (gateA V q.1.1 [gateA V p.1.1 [l.getD i 0, p.2], q.2])), gateA V q.1.1 [gateA V p.1.1 [l.getD i 0, p.2], q.2])
section
variable {V : Nat} {l : List Int} {L k i : Nat} {out : List Nd} {M : Memo} {x : Int}
theorem lsF_memo (h : M k i = some x) : lsF V l (L + 1) k i out M = ((out, M), x) := by simp only [lsF, h]
theorem lsF_one (h : M k i = none) (hk : k = 1) : lsF V l (L + 1) k i out M = ((gateL 3 out (l.drop i), updM M k i (gateA V out (l.drop i))), gateA V out (l.drop i)) := by
 simp only [lsF, h]
 rw [if_pos hk]
theorem lsF_all (h : M k i = none) (hk : k ≠ 1) (hl : k = (l.drop i).length) : lsF V l (L + 1) k i out M = ((gateL 2 out (l.drop i), updM M k i (gateA V out (l.drop i))), gateA V out (l.drop i)) := by
 simp only [lsF, h]
 rw [if_neg hk, if_pos hl]
theorem lsF_mid {p q : (List Nd × Memo) × Int} (h : M k i = none) (hk : k ≠ 1) (hl : k ≠ (l.drop i).length) (hp : p = lsF V l L (k - 1) (i + 1) out M) (hq : q = lsF V l L k (i + 1) (gateL 2 p.1.1 [l.getD i 0, p.2]) p.1.2) :
  lsF V l (L + 1) k i out M = ((gateL 3 q.1.1 [gateA V p.1.1 [l.getD i 0, p.2], q.2], updM q.1.2 k i (gateA V q.1.1 [gateA V p.1.1 [l.getD i 0, p.2], q.2])), gateA V q.1.1 [gateA V p.1.1 [l.getD i 0, p.2], q.2]) := by
 subst hq hp
 simp only [lsF, h]
 rw [if_neg hk, if_neg hl]
end
def MemOK (V : Nat) (o0 : List Nd) (l : List Int) (out : List Nd) (M : Memo) : Prop := ∀ k i x, M k i = some x → Arg V out.length x ∧ ∀ e0 : List Nat, e0.length = V → Two e0 → tA (qaj e0 out) x = thr (tA (qaj e0 o0)) (l.drop i) (k : Nat)
theorem MemOK.up {V : Nat} {o0 out out' : List Nd} {l : List Int} {M : Memo} {r : Int} {f : List Nat → Bool} (h : MemOK V o0 l out M) (g : Grw V out out' r f) : MemOK V o0 l out' M := fun k i x hx => by
 obtain ⟨h1, h2⟩ := h k i x hx
 exact ⟨h1.up g.le, fun e0 he ht => by rw [g.old h1 he]; exact h2 e0 he ht⟩
theorem MemOK.put {V : Nat} {o0 out out' : List Nd} {l : List Int} {M : Memo} {r : Int} {k i : Nat} (h : MemOK V o0 l out' M) (g : Grw V out out' r (fun e0 => thr (tA (qaj e0 o0)) (l.drop i) (k : Nat))) : MemOK V o0 l out' (updM M k i r) := fun a b x hx => by
 unfold updM at hx
 split at hx
 ·rename_i e
  cases hx
  obtain ⟨rfl, rfl⟩ := e
  exact ⟨g.arg, g.v⟩
 ·exact h a b x hx
theorem gate2L {k : Int} {out : List Nd} {a b : Int} : gateL k out [a, b] = out ++ [⟨k, 0, [a, b]⟩] := by unfold gateL; rw [if_neg (by simp)]
theorem gate2A {V : Nat} {out : List Nd} {a b : Int} : gateA V out [a, b] = ((V + out.length : Nat) : Int) := by unfold gateA; rw [if_neg (by simp)]
theorem lsF_ok {V : Nat} {o0 : List Nd} {l : List Int} (ha : ∀ a ∈ l, Arg V o0.length a) (h16 : l.length ≤ 16) : ∀ (L k i : Nat) (out : List Nd) (M : Memo), l.length - i ≤ L → 1 ≤ k → k ≤ l.length - i → (∃ m, out = o0 ++ m) → qbc (V : Nat) 0 out = 0 → MemOK V o0 l out M →
  Grw V out (lsF V l L k i out M).1.1 (lsF V l L k i out M).2 (fun e0 => thr (tA (qaj e0 o0)) (l.drop i) (k : Nat)) ∧ MemOK V o0 l (lsF V l L k i out M).1.1 (lsF V l L k i out M).1.2
 | 0, k, i, _, _, hL, h1, h2, _, _, _ => absurd h2 (by omega)
 | L + 1, k, i, out, M, hL, h1, h2, hb, ho, hm => by
  have hdl : (l.drop i).length = l.length - i := List.length_drop
  have hle : o0.length ≤ out.length := by obtain ⟨m, rfl⟩ := hb; rw [List.length_append]; omega
  have had : ∀ a ∈ l.drop i, Arg V o0.length a := fun a h => ha a (List.mem_of_mem_drop h)
  cases hM : M k i with
  | some x =>
   rw [lsF_memo hM]
   obtain ⟨q1, q2⟩ := hm k i x hM
   exact ⟨(Grw.refl ho q1).congr (fun e0 he ht => q2 e0 he ht), hm⟩
  | none =>
   by_cases hk : k = 1
   ·rw [lsF_one hM hk]
    have g := grw_gateG (k := 3) (args := l.drop i) ho (.inr rfl) (by omega) (by omega) (fun a h => (had a h).up hle)
    have g' : Grw V out (gateL 3 out (l.drop i)) (gateA V out (l.drop i)) (fun e0 => thr (tA (qaj e0 o0)) (l.drop i) (k : Nat)) := g.base hb had (fun e0 _ _ => by rw [if_neg (by decide), hk, ← thr_one]; rfl)
    exact ⟨g', (hm.up g').put g'⟩
   ·by_cases hl : k = (l.drop i).length
    ·rw [lsF_all hM hk hl]
     have g := grw_gateG (k := 2) (args := l.drop i) ho (.inl rfl) (by omega) (by omega) (fun a h => (had a h).up hle)
     have g' : Grw V out (gateL 2 out (l.drop i)) (gateA V out (l.drop i)) (fun e0 => thr (tA (qaj e0 o0)) (l.drop i) (k : Nat)) := g.base hb had (fun e0 _ _ => by rw [if_pos rfl, ← thr_len, ← hl])
     exact ⟨g', (hm.up g').put g'⟩
    ·obtain ⟨p, hp⟩ : ∃ p, p = lsF V l L (k - 1) (i + 1) out M := ⟨_, rfl⟩
     obtain ⟨q, hq⟩ : ∃ q, q = lsF V l L k (i + 1) (gateL 2 p.1.1 [l.getD i 0, p.2]) p.1.2 := ⟨_, rfl⟩
     rw [lsF_mid hM hk hl hp hq]
     have hi : i < l.length := by omega
     have hdi : l.drop i = l.getD i 0 :: l.drop (i + 1) := by
      rw [List.drop_eq_getElem_cons hi, List.getD_eq_getElem?_getD, List.getElem?_eq_getElem hi]; rfl
     have haa : Arg V o0.length (l.getD i 0) := had _ (by rw [hdi]; exact List.mem_cons_self ..)
     obtain ⟨g1, m1⟩ := lsF_ok ha h16 L (k - 1) (i + 1) out M (by omega) (by omega) (by omega) hb ho hm
     rw [← hp] at g1 m1
     have g1' : Grw V out p.1.1 p.2 (fun e0 => thr (tA (qaj e0 o0)) (l.drop (i + 1)) ((k : Nat) - 1)) := g1.congr (fun e0 _ _ => by rw [show (((k - 1 : Nat) : Nat) : Int) = ((k : Nat) : Int) - 1 by omega])
     have hb1 : ∃ m, p.1.1 ++ [⟨2, 0, [l.getD i 0, p.2]⟩] = o0 ++ m := by
      obtain ⟨m, hm'⟩ := hb
      obtain ⟨m2, hm2⟩ := g1.ext
      exact ⟨m ++ m2 ++ [⟨2, 0, [l.getD i 0, p.2]⟩], by rw [hm2, hm']; simp⟩
     have g2 := qea (V := V) (k := 2) (args := [l.getD i 0, p.2]) g1.ok (.inl rfl) (by simp) (by simp) (fun c hc => mem2 ((haa.up hle).up g1.le) g1.arg hc)
     obtain ⟨g3, m3⟩ := lsF_ok ha h16 L k (i + 1) (gateL 2 p.1.1 [l.getD i 0, p.2]) p.1.2 (by omega) (by omega) (by omega) (by rw [gate2L]; exact hb1) (by rw [gate2L]; exact g2.ok) (by rw [gate2L]; exact m1.up g2)
     rw [← hq] at g3 m3
     rw [gate2L] at g3
     have gg := vote_mid (a := l.getD i 0) hb haa g1' g3
     rw [← hdi] at gg
     rw [gate2A, gate2L, gate2A]
     have g5 := qea (V := V) (k := 3) (args := [((V + p.1.1.length : Nat) : Int), q.2]) g3.ok (.inr rfl) (by simp) (by simp) (fun c hc => mem2 (g2.arg.up g3.le) g3.arg hc)
     exact ⟨gg, (m3.up g5).put gg⟩
theorem lsF_23 (V : Nat) (a b c : Int) : ((lsF V [a, b, c] 3 2 0 [] (fun _ _ => none)).1.1).length = 4 ∧ ∀ y ∈ (lsF V [a, b, c] 3 2 0 [] (fun _ _ => none)).1.1, y.kind ≠ 5 := by
 have e : ∃ r s t u : List Int, (lsF V [a, b, c] 3 2 0 [] (fun _ _ => none)).1.1 = [⟨3, 0, r⟩, ⟨2, 0, s⟩, ⟨2, 0, t⟩, ⟨3, 0, u⟩] := ⟨_, _, _, _, by rfl⟩
 obtain ⟨r, s, t, u, e⟩ := e
 rw [e]
 refine ⟨rfl, fun y hy => ?_⟩
 simp only [List.mem_cons, List.not_mem_nil, or_false] at hy
 rcases hy with rfl | rfl | rfl | rfl <;> simp
end Go.Proofs.YteadcgmaailjlaaGreatDoor
namespace Go.Proofs.YteadcgmaailjlaaGreatDoor
open Go.RowKit Go.ChangeShapes Go.WideShapes
theorem row2k {w : World} {g : Nat} {x0 x1 : Value} {T : TypeId} (h : w.heap[g]? = some (.cells #[x0, x1] T)) : w.cell? ⟨g, 0, none⟩ = some x0 ∧ w.cell? ⟨g, 1, none⟩ = some x1 := ⟨cell_of_row _ _ _ _ _ _ h, cell_of_row _ _ _ _ _ _ h⟩
def memoL (M : Memo) : List Int → Option Int
 | [a, b] => if 0 ≤ a ∧ 0 ≤ b then M a.toNat b.toNat else none
 | _ => none
theorem memoL_at (M : Memo) (k i : Nat) : memoL M [(k : Nat), (i : Nat)] = M k i := by
 show (if 0 ≤ ((k : Nat) : Int) ∧ 0 ≤ ((i : Nat) : Int) then M ((k : Nat) : Int).toNat ((i : Nat) : Int).toNat else none) = _
 rw [if_pos ⟨by omega, by omega⟩, Int.toNat_natCast, Int.toNat_natCast]
theorem memoL_none : memoL (fun _ _ => none) = fun _ => none := by
 funext xs
 match xs with
 | [] => rfl
 | [_] => rfl
 | [a, b] => simp [memoL]
 | _ :: _ :: _ :: _ => rfl
theorem memoL_upd (M : Memo) (k i : Nat) (x : Int) : updK (memoL M) [(k : Nat), (i : Nat)] x = memoL (updM M k i x) := by
 funext xs
 match xs with
 | [] => simp [updK, memoL]
 | [_] => simp [updK, memoL]
 | [a, b] =>
  show (if [a, b] = [((k : Nat) : Int), ((i : Nat) : Int)] then some x else (if 0 ≤ a ∧ 0 ≤ b then M a.toNat b.toNat else none)) = (if 0 ≤ a ∧ 0 ≤ b then (if a.toNat = k ∧ b.toNat = i then some x else M a.toNat b.toNat) else none)
  by_cases h : 0 ≤ a ∧ 0 ≤ b
  ·simp only [if_pos h]
   by_cases e : a.toNat = k ∧ b.toNat = i
   ·rw [if_pos e, if_pos (by obtain ⟨rfl, rfl⟩ := e; simp [Int.toNat_of_nonneg h.1, Int.toNat_of_nonneg h.2])]
   ·rw [if_neg e, if_neg (fun q => e (by simp only [List.cons.injEq, and_true] at q; omega))]
  ·rw [if_neg h, if_neg h, if_neg (fun q => h (by simp only [List.cons.injEq, and_true] at q; omega))]
 | _ :: _ :: _ :: _ => simp [updK, memoL]
def MapV (w : World) (b n : Nat) (M : Memo) : Prop := qde Tryz.prog 167 3 2 w b n (memoL M)
structure Vt (w : World) (B : Nat) (X : List Nat) (gm gv gd : Nat) (v : Value) (V : Nat) (out : List Nd) (full : Bool) (a : Value) (l : List Int) (n : Nat) (M : Memo) : Prop where
 mkr : Mk w B X gm v V out full
 cell : w.heap[gv]? = some (.cells #[.pointer (some ⟨gm, 0, none⟩), a, .map (some gd)] 125)
 map : MapV w gd n M
 ints : qbi w a l
 iv : gv ∈ X
 id : gd ∈ X
 vm : gv ≠ gm
 dm : gd ≠ gm
 vd : gv ≠ gd
 sep : ∀ g, a.ownBlock = some g → g ∈ X ∧ g ≠ gm ∧ g ≠ gd
section
variable {w w' w0 : World} {B gm gv gd V n : Nat} {X Y : List Nat} {v v' a : Value} {out out' : List Nd} {full full' : Bool} {l : List Int} {M : Memo}
theorem Vt.chg (h : Vt w B X gm gv gd v V out full a l n M) (c : Chg w w' [gm] v v') (m : Mk w' B X gm v' V out' full') : Vt w' B X gm gv gd v' V out' full' a l n M :=
 ⟨m, h.mkr.keep c h.iv h.vm h.cell, qde.exc h.map c.exc (by simp only [List.mem_append, Option.mem_toList, List.mem_singleton, not_or]; exact ⟨h.mkr.ne h.id, h.dm⟩), h.mkr.keepI c (fun g e => ⟨(h.sep g e).1, (h.sep g e).2.1⟩) h.ints, h.iv, h.id, h.vm, h.dm, h.vd, h.sep⟩
theorem Vt.new (h : Vt w B X gm gv gd v V out full a l n M) (hb : Below w.heap.size w w') (hs : ∀ g ∈ Y, g ∈ X ∨ (w.heap.size ≤ g ∧ g < w'.heap.size)) (hX : ∀ g ∈ X, g ∈ Y) : Vt w' B Y gm gv gd v V out full a l n M :=
 ⟨h.mkr.new hb hs (hX _ h.mkr.mem), qaa h.cell hb, qde.below h.map hb, h.ints.below hb, hX _ h.iv, hX _ h.id, h.vm, h.dm, h.vd, fun g e => ⟨hX _ (h.sep g e).1, (h.sep g e).2⟩⟩
theorem Vt.below (h : Vt w B X gm gv gd v V out full a l n M) (hb : Below w.heap.size w w') : Vt w' B X gm gv gd v V out full a l n M := h.new hb (fun _ hg => .inl hg) (fun _ hg => hg)
theorem Vt.sub (h : Vt w B X gm gv gd v V out full a l n M) (hs : ∀ g ∈ Y, g ∈ X) (hm : gm ∈ Y) (h1 : gv ∈ Y) (h2 : gd ∈ Y) (h3 : ∀ g, a.ownBlock = some g → g ∈ Y) : Vt w B Y gm gv gd v V out full a l n M :=
 ⟨h.mkr.sub hm hs, h.cell, h.map, h.ints, h1, h2, h.vm, h.dm, h.vd, fun g e => ⟨h3 g e, (h.sep g e).2⟩⟩
theorem Vt.upd {n' : Nat} {M' : Memo} (h : Vt w B X gm gv gd v V out full a l n M) (hm : MapV w' gd n' M') (hg : w.grownBy w' (some gd)) : Vt w' B X gm gv gd v V out full a l n' M' := by
 have e : Exc w w' [gd] := Exc.of_grown hg (fun g hg => by cases hg; simp)
 exact ⟨h.mkr.exc e (fun g hg => by rw [List.mem_singleton] at hg; subst hg; exact .inl h.id) (by rw [List.mem_singleton]; exact h.dm.symm), e.heap h.cell (by rw [List.mem_singleton]; exact h.vd), hm, e.ints h.ints (fun _ g hg => by rw [List.mem_singleton]; exact (h.sep g hg).2.2), h.iv, h.id, h.vm, h.dm, h.vd, h.sep⟩
theorem Chg.up2 (c : Chg w w' [gm] v v') : Chg w w' [gm, gd] v v' := c.mono (fun g hg => by rw [List.mem_singleton] at hg; subst hg; exact .inl (by simp))
theorem ints_drop {b off off2 n c i : Nat} (h : qbi w (.slice (some ⟨b, off, none⟩) n c) l) (hi : i ≤ n) (ho : 0 < n - i → n ≤ c → off2 = off + i) : qbi w (.slice (some ⟨b, off2, none⟩) (n - i) (c - i)) (l.drop i) := by
 obtain ⟨ao, c', e, h1, h2, h3, h4, h5⟩ := h
 simp only [Value.slice.injEq] at e
 obtain ⟨rfl, rfl, rfl⟩ := e
 refine ⟨_, _, by rw [List.length_drop], by rw [List.length_drop]; omega, by omega, fun h => (by cases h), ?_, fun x hx => h5 x (List.mem_of_mem_drop hx)⟩
 intro b' off' s hs
 cases hs
 obtain ⟨k1, k2⟩ := h4 b off none rfl
 refine ⟨fun h0 => ⟨(k1 (by rw [List.length_drop] at h0; omega)).1, rfl⟩, fun j x hj => ?_⟩
 rw [List.getElem?_drop] at hj
 have hlt := (List.getElem?_eq_some_iff.1 hj).1
 have := k2 (i + j) x hj
 rw [ho (by omega) h1, show off + i + j = off + (i + j) by omega]; exact this
end
def KLk (o : Option Int) : Value → World → Prop := fun v _ => ∃ c, v = .tuple #[.int .i64 c, .bool o.isSome] ∧ I64 c ∧ ∀ x, o = some x → c = x
theorem kLk (o : Option Int) : MonoF (KLk o) := fun _ _ _ h _ => h
def KLc (o : Option Int) : Value → World → Prop := fun v _ => ∃ c, v = .int .i64 c ∧ I64 c ∧ ∀ x, o = some x → c = x
theorem kLc (o : Option Int) : MonoF (KLc o) := fun _ _ _ h _ => h
def JV (nodes out : List Nd) : Prop := (nodes = [] → out = []) ∧ ∀ x : Nd, nodes = [x] → x.kind = 4 → x.K = 2 → x.args.length = 3 → out.length = 4 ∧ ∀ y ∈ out, y.kind ≠ 5
theorem snoc_one {nodes : List Nd} {x y : Nd} (h : nodes ++ [x] = [y]) : nodes = [] ∧ x = y := by
 cases nodes with
 | nil => simp at h; exact ⟨rfl, h⟩
 | cons z zs => simp at h
theorem votes_cf (args : Array Value) (w : World) : (callFunc 52 args).run Tryz.prog w = .ok (.enter 52 args) w := by kernel_rfl
theorem xors_cf (args : Array Value) (w : World) : (callFunc 54 args).run Tryz.prog w = .ok (.enter 54 args) w := by kernel_rfl
theorem binary_cf (args : Array Value) (w : World) : (callFunc 23 args).run Tryz.prog w = .ok (.enter 23 args) w := by kernel_rfl
def JP (f g : Fm) : Prop := ∃ k : Fm, JV f.nodes k.nodes ∧ JX k.nodes g.nodes
def RetHv (w : World) (f : Fm) (e : Ending) (w' : World) : Prop := ∃ b : Bool, e = .returned (.bool b) ∧ Below w.heap.size w w' ∧ (b = false → f.vars ≤ 8 ∧ f.nodes.length ≤ 16)
def RetRd (w : World) (f : Fm) (e : Ending) (w' : World) : Prop := ∃ b : Bool, e = .returned (.bool b) ∧ Below w.heap.size w w' ∧ (b = true → f.vars ≤ 8 ∧ f.nodes.length ≤ 16 ∧ qcr f = 0)
theorem heavy_any (vf : Value) (f : Fm) (w : World) (hf : FmV w vf f) : Calls Tryz.prog 18 #[vf] w (RetHv w f) := by
 obtain ⟨nv, rfl, hn, hv, ht⟩ := hf
 obtain ⟨ao, c, rfl, hc, hc2, _⟩ := hn.shape
 have hF := (show FmV w _ f from ⟨_, rfl, hn, hv, ht⟩)
 obtain ⟨vz, ns, top⟩ := f
 simp only at hn ht hv hc hF ⊢
 have HF := qHd hF; have HN := qHd hn; have HV64 := qHd hv
 clear hF hn ht hv
 obtain ⟨W, hwB⟩ : ∃ z0, z0 = w.alloc (.cells #[.int .i64 vz, .slice ao ns.length c, .int .i64 top] 24) := ⟨_, rfl⟩
 have hbB : Below w.heap.size w W := by rw [hwB]; exact qBA _ _
 obtain ⟨g1, hgB⟩ : ∃ g, g = w.heap.size := ⟨_, rfl⟩
 have hxB : W.heap[g1]? = some (.cells #[.int .i64 vz, .slice ao ns.length c, .int .i64 top] 24) := by rw [hwB, hgB]; exact heap_alloc_new _ _
 have hsB : W.heap.size = w.heap.size + 1 := by rw [hwB]; simp
 have HBW := qHd hbB; have G1 := qHd hxB
 obtain ⟨x0, x1, x2⟩ := qaq hxB
 rw [hwB, hgB] at x0 x1 x2
 clear hbB hxB hsB
 go_enter Tryz.func18, Tryz.ntmps18
 go_wp2_with (with_reducible first | refine qah ?_ | refine qae ?_)
 rw [← hwB, ← hgB]
 clear hwB hgB x0 x1 x2
 refine qad.mk ?_
 go_loopw [9, 3] (fun i' zv wx => ∃ (q : Nat) (z : Int), q ≤ ns.length ∧ i' = .int .i64 q ∧ zv = .int .i64 z ∧ Hid (Below W.heap.size W wx)) (fun i' _ _ => ns.length - (intOf i').toNat)
 case atStart => exact ⟨0, 0, Nat.zero_le _, rfl, rfl, qHd (Below.refl _ _)⟩
 case round =>
  obtain ⟨j, z, hj, rfl, rfl, HBX⟩ := hrel
  obtain ⟨wo, rfl⟩ : ∃ wo : World, wo = wr := ⟨_, rfl⟩
  by_cases hlt : j < ns.length
  ·obtain ⟨x, hx⟩ : ∃ x, ns[j]? = some x := ⟨ns[j], List.getElem?_eq_getElem hlt⟩
   have HBO := qHd (HBW.out.trans (HBX.out.mono HBW.out.size))
   obtain ⟨b, off, rfl, hb, u1, hat⟩ := (HN.out.below HBO.out).at (by omega)
   clear u1 hb
   obtain ⟨c0, c1, ⟨av, c2, hI⟩, hk, hK⟩ := hat j x hx
   clear hat hx hk hK
   obtain ⟨ao', c', rfl, hc', hc2', _⟩ := hI.shape
   clear hI
   have hltz : (j : Int) < (ns.length : Int) := by omega
   obtain ⟨W3, hw3⟩ : ∃ z0, z0 = wo.alloc (.cells #[.int .i64 x.kind, .int .i64 x.K, .slice ao' x.args.length c'] 56) := ⟨_, rfl⟩
   have hb3 : Below wo.heap.size wo W3 := by rw [hw3]; exact qBA _ _
   obtain ⟨gn, hg3⟩ : ∃ g, g = wo.heap.size := ⟨_, rfl⟩
   have hx3 : W3.heap[gn]? = some (.cells #[.int .i64 x.kind, .int .i64 x.K, .slice ao' x.args.length c'] 56) := by rw [hw3, hg3]; exact heap_alloc_new _ _
   have hs3 : W3.heap.size = wo.heap.size + 1 := by rw [hw3]; simp
   have HB3 := qHd (qcg HBX.out (Nat.le_refl _) hb3)
   obtain ⟨x0, x1, x2⟩ := qaq hx3
   rw [hw3, hg3] at x0 x1 x2
   clear hb3 hx3 hs3
   go_wp2_with fail
   rw [← hw3]
   clear hw3 hg3 x0 x1 x2 c0 c1 c2
   go_roundw
   case rel => exact ⟨j + 1, _, by omega, by go_num, rfl, HB3⟩
   case measure => simp [intOf]; omega
  ·have hq' : j = ns.length := by omega
   obtain ⟨x0, x1, x2⟩ := qaq (qaa G1.out HBX.out)
   have HBO := qHd (HBW.out.trans (HBX.out.mono HBW.out.size))
   by_cases h8 : (8 : Int) < vz
   ·go_wp2_with fail
    go_ret
    exact ⟨true, rfl, HBO.out, fun h => by cases h⟩
   ·by_cases h16 : (16 : Int) < (ns.length : Int)
    ·go_wp2_with fail
     go_ret
     exact ⟨true, rfl, HBO.out, fun h => by cases h⟩
    ·by_cases h60 : (60 : Int) < z
     ·go_wp2_with fail
      go_ret
      exact ⟨true, rfl, HBO.out, fun h => by cases h⟩
     ·go_wp2_with fail
      go_ret
      exact ⟨false, rfl, HBO.out, fun _ => ⟨by simpa using h8, by simp only; omega⟩⟩
theorem ready_any (vf : Value) (f : Fm) (w : World) (hf : FmV w vf f) : Calls Tryz.prog 5 #[vf] w (RetRd w f) := by
 obtain ⟨nv, rfl, hn, hv, ht⟩ := hf
 obtain ⟨ao, c, rfl, hc, hc2, _⟩ := hn.shape
 have hF := (show FmV w _ f from ⟨_, rfl, hn, hv, ht⟩)
 obtain ⟨vz, ns, top⟩ := f
 simp only at hn ht hv hc hF ⊢
 have HF := qHd hF; have HN := qHd hn; have HV64 := qHd hv
 clear hF hn ht hv
 obtain ⟨W, hwB⟩ : ∃ z0, z0 = w.alloc (.cells #[.int .i64 vz, .slice ao ns.length c, .int .i64 top] 24) := ⟨_, rfl⟩
 have hbB : Below w.heap.size w W := by rw [hwB]; exact qBA _ _
 obtain ⟨g1, hgB⟩ : ∃ g, g = w.heap.size := ⟨_, rfl⟩
 have hxB : W.heap[g1]? = some (.cells #[.int .i64 vz, .slice ao ns.length c, .int .i64 top] 24) := by rw [hwB, hgB]; exact heap_alloc_new _ _
 have hsB : W.heap.size = w.heap.size + 1 := by rw [hwB]; simp
 have HBW := qHd hbB; have G1 := qHd hxB
 obtain ⟨x0, x1, x2⟩ := qaq hxB
 rw [hwB, hgB] at x0 x1 x2
 clear hbB hxB hsB
 have HK := qHd (heavy_any _ ⟨vz, ns, top⟩ W (HF.out.below HBW.out))
 go_enter Tryz.func5, Tryz.ntmps5
 go_wp2_with (with_reducible refine qac ?_)
 rw [← hwB, ← hgB]
 clear hwB hgB x0 x1 x2
 refine qad.mk ?_
 (with_reducible refine HK.out.mono ?_); rintro e w1 ⟨b, rfl, hb1, hh1⟩
 have HB1 := qHd (HBW.out.trans (hb1.mono HBW.out.size)); have G11 := qHd (qaa G1.out hb1); have HH := qHd hh1
 clear hb1 hh1 HK
 cases b
 ·have HK := qHd (rfcheck_any _ ⟨vz, ns, top⟩ w1 (HF.out.below HB1.out))
  obtain ⟨ec, hec⟩ : ∃ n, n = qcr ⟨vz, ns, top⟩ := ⟨_, rfl⟩
  rw [← hec] at HK
  obtain ⟨x0, x1, x2⟩ := qaq G11.out
  go_wp2_with (with_reducible refine qac ?_)
  clear x0 x1 x2
  refine qad.mk ?_
  (with_reducible refine HK.out.mono ?_); rintro e w2 ⟨rfl, hb2⟩
  have HB2 := qHd (HB1.out.trans (hb2.mono HB1.out.size))
  clear hb2 HK
  have HEC := qHd hec; clear hec
  by_cases h0 : ec = 0
  ·have h0z : (((ec : Nat) : Int) == 0) = true := by rw [beq_iff_eq]; omega
   go_wp2_with fail
   go_ret
   exact ⟨true, rfl, HB2.out, fun _ => ⟨(HH.out (by simp)).1, (HH.out (by simp)).2, by rw [← HEC.out]; exact h0⟩⟩
  ·have h0z : (((ec : Nat) : Int) == 0) = false := by rw [beq_eq_false_iff_ne]; omega
   go_wp2_with fail
   go_ret
   exact ⟨false, rfl, HB2.out, fun h => by cases h⟩
 ·go_wp2_with fail
  go_ret
  exact ⟨false, rfl, HB1.out, fun h => by cases h⟩
theorem ret_c1v {P : Program} {fn : Func} {R : Ending → World → Prop} {a : Act} {w : World} {p : Tmp} {ty : TypeId} {d : TypeDesc} (h : fn.results = #[.cell p ty]) (g : Nat) (cs : Array Value)
  (hp : a.tmps.getD p undef = .pointer (some ⟨g, 0, none⟩)) (hg : w.heap[g]? = some (.cells cs ty)) (hu : P.underlying ty = some d) (hd : (match d with | .struct _ | .array _ _ => true | _ => false) = true) (hi : (P.info? ty).map (·.size) = some cs.size)
  (hf : a.defers = []) (hR : R (.returned (.agg cs)) w) : bodyPost P fn R .ret a w := by
 exact bodyPost_ret (results_cell_row h a.tmps w g ty _ _ _ hp hg hu hd hi) hf hR
def voteF : Fm := ⟨3, [⟨4, 2, [0, 1, 2]⟩], 3⟩
def RetVt (w : World) (e : Ending) (w' : World) : Prop := ∃ vf, e = .returned vf ∧ Below w.heap.size w w' ∧ FmV w' vf voteF
theorem nds_one {w : World} {g : Nat} {x : Nd} {a0 : Value} {T : TypeId} (h : w.heap[g]? = some (.cells #[.int .i64 x.kind, .int .i64 x.K, a0] T)) (h0 : qbi w a0 x.args) (k0 : I64 x.kind ∧ I64 x.K) : NdsV w (.slice (some ⟨g, 0, none⟩) 1 1) [x] := by
 obtain ⟨x0, x1, x2⟩ := qaq h
 refine ⟨_, _, rfl, Nat.le_refl _, by simp, (fun h => by cases h), ?_⟩
 intro b' off s hs
 cases hs
 refine ⟨fun _ => ⟨qao h, rfl⟩, fun j x hj => ?_⟩
 match j with
 | 0 => cases hj; exact ⟨x0, x1, ⟨_, x2, h0⟩, k0.1, k0.2⟩
 | j + 1 => simp at hj
theorem vote_any (w : World) : Calls Tryz.prog 17 #[] w (RetVt w) := by
 obtain ⟨w1, hw1⟩ : ∃ z0, z0 = w.alloc (.cells #[.int .i64 0, .slice none 0 0, .int .i64 0] 24) := ⟨_, rfl⟩
 have hb1 : Below w.heap.size w w1 := by rw [hw1]; exact qBA _ _
 obtain ⟨g1, hg1⟩ : ∃ g, g = w.heap.size := ⟨_, rfl⟩
 have hx1 : w1.heap[g1]? = some (.cells #[.int .i64 0, .slice none 0 0, .int .i64 0] 24) := by rw [hw1, hg1]; exact heap_alloc_new _ _
 have hs1 : w1.heap.size = w.heap.size + 1 := by rw [hw1]; simp
 obtain ⟨w2, hw2⟩ : ∃ z0, z0 = w1.alloc (.cells #[.int .i64 0, .int .i64 1, .int .i64 2] 3) := ⟨_, rfl⟩
 have hb2 : Below w1.heap.size w1 w2 := by rw [hw2]; exact qBA _ _
 obtain ⟨g2, hg2⟩ : ∃ g, g = w1.heap.size := ⟨_, rfl⟩
 have hx2 : w2.heap[g2]? = some (.cells #[.int .i64 0, .int .i64 1, .int .i64 2] 3) := by rw [hw2, hg2]; exact heap_alloc_new _ _
 have hs2 : w2.heap.size = w1.heap.size + 1 := by rw [hw2]; simp
 obtain ⟨w3, hw3⟩ : ∃ z0, z0 = w2.alloc (.cells #[.int .i64 4, .int .i64 2, .slice (some ⟨g2, 0, none⟩) 3 3] 56) := ⟨_, rfl⟩
 have hb3 : Below w2.heap.size w2 w3 := by rw [hw3]; exact qBA _ _
 obtain ⟨g3, hg3⟩ : ∃ g, g = w2.heap.size := ⟨_, rfl⟩
 have hx3 : w3.heap[g3]? = some (.cells #[.int .i64 4, .int .i64 2, .slice (some ⟨g2, 0, none⟩) 3 3] 56) := by rw [hw3, hg3]; exact heap_alloc_new _ _
 have hs3 : w3.heap.size = w2.heap.size + 1 := by rw [hw3]; simp
 have HB3 := qHd (hb1.trans ((hb2.trans (hb3.mono hb2.size)).mono hb1.size)); have G1 := qHd (qaa (qaa hx1 hb2) hb3); have G2 := qHd (qaa hx2 hb3); have G3 := qHd hx3
 have E2 := qHd (show g2 = g1 + 1 by omega); have E3 := qHd (show g3 = g1 + 1 + 1 by omega)
 have l1 : w.heap.size ≤ g1 := by omega
 have h21 : g2 ≠ g1 := by omega
 have h31 : g3 ≠ g1 := by omega
 clear hb1 hb2 hb3 hx1 hx2 hx3 hs1 hs2 hs3
 go_enter Tryz.func17, Tryz.ntmps17
 go_wp2_with (with_reducible refine qaf 24 ?_)
 rw [← hg1, ← E3.out, ← E2.out, ← hw1, ← hw2, ← hw3]
 clear hw1 hw2 hw3 hg1 hg2 hg3
 refine qbj g1 0 [.int .i64 3, .slice (some ⟨g3, 0, none⟩) 1 1, .int .i64 3] G1.out rfl rfl (Nat.le_of_ble_eq_true rfl) (by kernel_rfl) rfl ?_
 intro w9 hp9
 have G9 := qHd (show w9.heap[g1]? = some (.cells #[.int .i64 3, .slice (some ⟨g3, 0, none⟩) 1 1, .int .i64 3] 24) by rw [hp9]; exact qco G1.out)
 have G29 := qHd (putLx hp9 G2.out h21); have G39 := qHd (putLx hp9 G3.out h31)
 have HB9 := qHd (qdl hp9 HB3.out l1)
 clear hp9
 go_wp2_with fail
 refine ret_c1v rfl g1 #[.int .i64 3, .slice (some ⟨g3, 0, none⟩) 1 1, .int .i64 3] rfl G9.out Tryz.underlying24 rfl (by kernel_rfl) rfl ?_
 refine ⟨_, rfl, HB9.out, _, rfl, nds_one (x := ⟨4, 2, [0, 1, 2]⟩) G39.out (qby (l := [0, 1, 2]) G29.out rfl (by simp) (fun x hx => by simp at hx; rcases hx with rfl | rfl | rfl <;> exact ⟨by decide, by decide⟩)) ⟨⟨by decide, by decide⟩, ⟨by decide, by decide⟩⟩, ⟨by decide, by decide⟩, ⟨by decide, by decide⟩⟩
end Go.Proofs.YteadcgmaailjlaaGreatDoor
