/-
  RationalSums: the walk of the statement.
  Conditions: each theorem's own.
-/
import Derived.Test.YtabdndlaelfdeaaDoorM7
namespace Go.Proofs.YtabdndlaelfdeaaDoor
open Go.RowKit Go.ChangeShapes Go.WideShapes

/-- the lengths of a fraction's fields -/
def szR : Value → Nat × Nat
  | .agg #[_, .slice _ n _, .slice _ m _] => (n, m)
  | _ => (0, 0)
/-- a fraction's shape -/
def RatSz (v : Value) (n m : Nat) : Prop := ∃ s o c a d, v = .agg #[.bool s, .slice o n c, .slice a m d] ∧ n ≤ 9223372036854775807 ∧ m ≤ 9223372036854775807
theorem RatV.sz {w : World} {v : Value} {s : Bool} {a b : List Nat} (h : RatV w v s a b) : RatSz v a.length b.length ∧ szR v = (a.length, b.length) := by
  obtain ⟨va, vb, rfl, h1, h2⟩ := h
  obtain ⟨ao, c, rfl, k1, k2, _⟩ := h1.shape
  obtain ⟨bo, d, rfl, k3, k4, _⟩ := h2.shape
  exact ⟨⟨s, ao, c, bo, d, rfl, by omega, by omega⟩, rfl⟩
theorem rlarge1s {s0 : Bool} {o0 a0 : Option Addr} {n0 c0 m0 d0 : Nat} {g : Nat} {w : World} {T : TypeId} (h : w.heap[g]? = some (.cells #[.bool s0, .slice o0 n0 c0, .slice a0 m0 d0] T)) (k0 : n0 ≤ 12 ∧ m0 ≤ 12) :
    Calls Tryd.prog 12 #[.slice (some ⟨g, 0, none⟩) 1 1] w (RetV w (.bool false)) := by
  have hk := rlarge_any g 1 (fun j => n0) (fun j => m0) w (by decide) (Array.getElem?_eq_some_iff.1 h).1 (fun j => by show _ ≤ _; omega) (fun j => by show _ ≤ _; omega) (fun j hj => by
    rw [cell_of_row w g _ _ T (0, 0) h, cell_of_row w g _ _ T (0, 0) h, cell_of_row w g _ _ T (0, 0) h]
    match j, hj with
    | 0, _ => exact ⟨_, _, _, _, _, rfl, rfl, rfl⟩)
  have hr : bigR (fun j => n0) (fun j => m0) 1 = false := by
    simp [bigR]; omega
  rw [hr] at hk; exact hk
theorem rlarge1b {s0 : Bool} {o0 a0 : Option Addr} {n0 c0 m0 d0 : Nat} {g : Nat} {w : World} {T : TypeId} (h : w.heap[g]? = some (.cells #[.bool s0, .slice o0 n0 c0, .slice a0 m0 d0] T)) (k0 : n0 ≤ 9223372036854775807 ∧ m0 ≤ 9223372036854775807) (hb : 12 < n0 ∨ 12 < m0) :
    Calls Tryd.prog 12 #[.slice (some ⟨g, 0, none⟩) 1 1] w (RetV w (.bool true)) := by
  have hk := rlarge_any g 1 (fun j => n0) (fun j => m0) w (by decide) (Array.getElem?_eq_some_iff.1 h).1 (fun j => by show _ ≤ _; omega) (fun j => by show _ ≤ _; omega) (fun j hj => by
    rw [cell_of_row w g _ _ T (0, 0) h, cell_of_row w g _ _ T (0, 0) h, cell_of_row w g _ _ T (0, 0) h]
    match j, hj with
    | 0, _ => exact ⟨_, _, _, _, _, rfl, rfl, rfl⟩)
  have hr : bigR (fun j => n0) (fun j => m0) 1 = true := by
    simp [bigR]; omega
  rw [hr] at hk; exact hk
theorem rlarge2s {s0 : Bool} {o0 a0 : Option Addr} {n0 c0 m0 d0 : Nat} {s1 : Bool} {o1 a1 : Option Addr} {n1 c1 m1 d1 : Nat} {g : Nat} {w : World} {T : TypeId} (h : w.heap[g]? = some (.cells #[.bool s0, .slice o0 n0 c0, .slice a0 m0 d0, .bool s1, .slice o1 n1 c1, .slice a1 m1 d1] T)) (k0 : n0 ≤ 12 ∧ m0 ≤ 12) (k1 : n1 ≤ 12 ∧ m1 ≤ 12) :
    Calls Tryd.prog 12 #[.slice (some ⟨g, 0, none⟩) 2 2] w (RetV w (.bool false)) := by
  have hk := rlarge_any g 2 (fun j => if j = 0 then n0 else n1) (fun j => if j = 0 then m0 else m1) w (by decide) (Array.getElem?_eq_some_iff.1 h).1 (fun j => by show (if j = 0 then _ else _) ≤ _; (split <;> (try split) <;> omega)) (fun j => by show (if j = 0 then _ else _) ≤ _; (split <;> (try split) <;> omega)) (fun j hj => by
    rw [cell_of_row w g _ _ T (0, 0) h, cell_of_row w g _ _ T (0, 0) h, cell_of_row w g _ _ T (0, 0) h]
    match j, hj with
    | 0, _ => exact ⟨_, _, _, _, _, rfl, rfl, rfl⟩
    | 1, _ => exact ⟨_, _, _, _, _, rfl, rfl, rfl⟩)
  have hr : bigR (fun j => if j = 0 then n0 else n1) (fun j => if j = 0 then m0 else m1) 2 = false := by
    simp [bigR]; omega
  rw [hr] at hk; exact hk
theorem rlarge2b {s0 : Bool} {o0 a0 : Option Addr} {n0 c0 m0 d0 : Nat} {s1 : Bool} {o1 a1 : Option Addr} {n1 c1 m1 d1 : Nat} {g : Nat} {w : World} {T : TypeId} (h : w.heap[g]? = some (.cells #[.bool s0, .slice o0 n0 c0, .slice a0 m0 d0, .bool s1, .slice o1 n1 c1, .slice a1 m1 d1] T)) (k0 : n0 ≤ 9223372036854775807 ∧ m0 ≤ 9223372036854775807) (k1 : n1 ≤ 9223372036854775807 ∧ m1 ≤ 9223372036854775807) (hb : 12 < n0 ∨ 12 < m0 ∨ 12 < n1 ∨ 12 < m1) :
    Calls Tryd.prog 12 #[.slice (some ⟨g, 0, none⟩) 2 2] w (RetV w (.bool true)) := by
  have hk := rlarge_any g 2 (fun j => if j = 0 then n0 else n1) (fun j => if j = 0 then m0 else m1) w (by decide) (Array.getElem?_eq_some_iff.1 h).1 (fun j => by show (if j = 0 then _ else _) ≤ _; (split <;> (try split) <;> omega)) (fun j => by show (if j = 0 then _ else _) ≤ _; (split <;> (try split) <;> omega)) (fun j hj => by
    rw [cell_of_row w g _ _ T (0, 0) h, cell_of_row w g _ _ T (0, 0) h, cell_of_row w g _ _ T (0, 0) h]
    match j, hj with
    | 0, _ => exact ⟨_, _, _, _, _, rfl, rfl, rfl⟩
    | 1, _ => exact ⟨_, _, _, _, _, rfl, rfl, rfl⟩)
  have hr : bigR (fun j => if j = 0 then n0 else n1) (fun j => if j = 0 then m0 else m1) 2 = true := by
    simp [bigR]; omega
  rw [hr] at hk; exact hk
theorem rlarge3s {s0 : Bool} {o0 a0 : Option Addr} {n0 c0 m0 d0 : Nat} {s1 : Bool} {o1 a1 : Option Addr} {n1 c1 m1 d1 : Nat} {s2 : Bool} {o2 a2 : Option Addr} {n2 c2 m2 d2 : Nat} {g : Nat} {w : World} {T : TypeId} (h : w.heap[g]? = some (.cells #[.bool s0, .slice o0 n0 c0, .slice a0 m0 d0, .bool s1, .slice o1 n1 c1, .slice a1 m1 d1, .bool s2, .slice o2 n2 c2, .slice a2 m2 d2] T)) (k0 : n0 ≤ 12 ∧ m0 ≤ 12) (k1 : n1 ≤ 12 ∧ m1 ≤ 12) (k2 : n2 ≤ 12 ∧ m2 ≤ 12) :
    Calls Tryd.prog 12 #[.slice (some ⟨g, 0, none⟩) 3 3] w (RetV w (.bool false)) := by
  have hk := rlarge_any g 3 (fun j => if j = 0 then n0 else if j = 1 then n1 else n2) (fun j => if j = 0 then m0 else if j = 1 then m1 else m2) w (by decide) (Array.getElem?_eq_some_iff.1 h).1 (fun j => by show (if j = 0 then _ else _) ≤ _; (split <;> (try split) <;> omega)) (fun j => by show (if j = 0 then _ else _) ≤ _; (split <;> (try split) <;> omega)) (fun j hj => by
    rw [cell_of_row w g _ _ T (0, 0) h, cell_of_row w g _ _ T (0, 0) h, cell_of_row w g _ _ T (0, 0) h]
    match j, hj with
    | 0, _ => exact ⟨_, _, _, _, _, rfl, rfl, rfl⟩
    | 1, _ => exact ⟨_, _, _, _, _, rfl, rfl, rfl⟩
    | 2, _ => exact ⟨_, _, _, _, _, rfl, rfl, rfl⟩)
  have hr : bigR (fun j => if j = 0 then n0 else if j = 1 then n1 else n2) (fun j => if j = 0 then m0 else if j = 1 then m1 else m2) 3 = false := by
    simp [bigR]; omega
  rw [hr] at hk; exact hk
theorem rlarge3b {s0 : Bool} {o0 a0 : Option Addr} {n0 c0 m0 d0 : Nat} {s1 : Bool} {o1 a1 : Option Addr} {n1 c1 m1 d1 : Nat} {s2 : Bool} {o2 a2 : Option Addr} {n2 c2 m2 d2 : Nat} {g : Nat} {w : World} {T : TypeId} (h : w.heap[g]? = some (.cells #[.bool s0, .slice o0 n0 c0, .slice a0 m0 d0, .bool s1, .slice o1 n1 c1, .slice a1 m1 d1, .bool s2, .slice o2 n2 c2, .slice a2 m2 d2] T)) (k0 : n0 ≤ 9223372036854775807 ∧ m0 ≤ 9223372036854775807) (k1 : n1 ≤ 9223372036854775807 ∧ m1 ≤ 9223372036854775807) (k2 : n2 ≤ 9223372036854775807 ∧ m2 ≤ 9223372036854775807) (hb : 12 < n0 ∨ 12 < m0 ∨ 12 < n1 ∨ 12 < m1 ∨ 12 < n2 ∨ 12 < m2) :
    Calls Tryd.prog 12 #[.slice (some ⟨g, 0, none⟩) 3 3] w (RetV w (.bool true)) := by
  have hk := rlarge_any g 3 (fun j => if j = 0 then n0 else if j = 1 then n1 else n2) (fun j => if j = 0 then m0 else if j = 1 then m1 else m2) w (by decide) (Array.getElem?_eq_some_iff.1 h).1 (fun j => by show (if j = 0 then _ else _) ≤ _; (split <;> (try split) <;> omega)) (fun j => by show (if j = 0 then _ else _) ≤ _; (split <;> (try split) <;> omega)) (fun j hj => by
    rw [cell_of_row w g _ _ T (0, 0) h, cell_of_row w g _ _ T (0, 0) h, cell_of_row w g _ _ T (0, 0) h]
    match j, hj with
    | 0, _ => exact ⟨_, _, _, _, _, rfl, rfl, rfl⟩
    | 1, _ => exact ⟨_, _, _, _, _, rfl, rfl, rfl⟩
    | 2, _ => exact ⟨_, _, _, _, _, rfl, rfl, rfl⟩)
  have hr : bigR (fun j => if j = 0 then n0 else if j = 1 then n1 else n2) (fun j => if j = 0 then m0 else if j = 1 then m1 else m2) 3 = true := by
    simp [bigR]; omega
  rw [hr] at hk; exact hk
set_option maxRecDepth 100000 in
set_option maxHeartbeats 12800000 in
theorem sums_small (vp : Value) (p : Rat) (vq : Value) (q : Rat) (w : World) (hp : RatIs w vp p) (hq : RatIs w vq q) (lp : rl p ≤ 12) (zp : (szR vp).1 ≤ 12 ∧ (szR vp).2 ≤ 12) (lq : rl q ≤ 12) (zq : (szR vq).1 ≤ 12 ∧ (szR vq).2 ≤ 12)  :
    Calls Tryd.prog 6 #[vp, vq] w (RetV w (.bool true)) := by
  obtain ⟨sp, op, np, cp, ap, mp, dp, rfl⟩ := hp.shape
  have hlp := hp.rl
  obtain ⟨sq, oq, nq, cq, aq, mq, dq, rfl⟩ := hq.shape
  have hlq := hq.rl
  have hb0 := (((Below.refl w.heap.size w).alloc (by first | (simp; done) | (simp; omega)) (.cells #[.bool sp, .slice op np cp, .slice ap mp dp] 24)).alloc (by first | (simp; done) | (simp; omega)) (.cells #[.bool sq, .slice oq nq cq, .slice aq mq dq] 24))
  have hxp := nest2_0 w (.cells #[.bool sp, .slice op np cp, .slice ap mp dp] 24) (.cells #[.bool sq, .slice oq nq cq, .slice aq mq dq] 24)
  have hxq := nest2_1 w (.cells #[.bool sp, .slice op np cp, .slice ap mp dp] 24) (.cells #[.bool sq, .slice oq nq cq, .slice aq mq dq] 24)
  have hpp := hp.below hb0
  have hpq := hq.below hb0
  obtain ⟨w0, hw0⟩ : ∃ w0, w0 = ((w.alloc (.cells #[.bool sp, .slice op np cp, .slice ap mp dp] 24)).alloc (.cells #[.bool sq, .slice oq nq cq, .slice aq mq dq] 24)) := ⟨_, rfl⟩
  rw [← hw0] at hb0 hxp hxq hpp hpq
  have HB0 := Lib.hid hb0; have HW0 := Lib.hid hw0
  have BXp := Lib.hid hxp
  have BXq := Lib.hid hxq
  have Fp := Lib.hid hpp
  have Fq := Lib.hid hpq
  clear hb0 hw0 hxp hxq hpp hp hpq hq
  have zzp : np ≤ 12 ∧ mp ≤ 12 := zp; clear zp
  have _lp := lp
  have zzq : nq ≤ 12 ∧ mq ≤ 12 := zq; clear zq
  have _lq := lq
  have k1 := rl_add p q
  have k2 := rl_sub p q
  have k3 := rl_neg p
  obtain ⟨ab, hab⟩ : ∃ ab, ab = if p < 0 then -p else p := ⟨_, rfl⟩
  have k4 : rl ab ≤ 12 := by rw [hab]; split <;> omega
  have HAB := Lib.hid hab; clear hab
  go_enter Tryd.func6, Tryd.ntmps6
  have hs := awake02 w0
  have HS := Lib.hid hs; clear hs
  go_wp2_with fail
  rw [← HW0.out]
  (with_reducible refine HS.out.mono ?_); rintro e w1 ⟨rfl, hb1⟩
  clear HS
  have HB1 := Lib.hid (HB0.out.step hb1)
  have Fp := Lib.hid (Fp.out.below hb1)
  have Fq := Lib.hid (Fq.out.below hb1)
  have BXp := Lib.hid (heap_below BXp.out hb1)
  have BXq := Lib.hid (heap_below BXq.out hb1)
  clear hb1
  obtain ⟨ep0, ep1, ep2⟩ := row3 BXp.out
  obtain ⟨eq0, eq1, eq2⟩ := row3 BXq.out
  obtain ⟨w2, hw2⟩ : ∃ w2, w2 = w1.alloc (.cells #[.bool sp, .slice op np cp, .slice ap mp dp, .bool sq, .slice oq nq cq, .slice aq mq dq] 24) := ⟨_, rfl⟩
  have hb2 : Below w1.heap.size w1 w2 := by rw [hw2]; exact (Below.refl _ _).alloc (Nat.le_refl _) _
  have hxLS := heap_alloc_new w1 (.cells #[.bool sp, .slice op np cp, .slice ap mp dp, .bool sq, .slice oq nq cq, .slice aq mq dq] 24)
  obtain ⟨gLS, hgLS⟩ : ∃ gLS, gLS = w1.heap.size := ⟨_, rfl⟩
  rw [← hw2, ← hgLS] at hxLS
  have HW2 := Lib.hid hw2; have HGLS := Lib.hid hgLS; clear hw2 hgLS
  have HB2 := Lib.hid (HB1.out.step hb2)
  have Fp := Lib.hid (Fp.out.below hb2)
  have Fq := Lib.hid (Fq.out.below hb2)
  have BXp := Lib.hid (heap_below BXp.out hb2)
  have BXq := Lib.hid (heap_below BXq.out hb2)
  clear hb2
  have BXLS := Lib.hid hxLS; clear hxLS
  have hs := rlarge2s BXLS.out zzp zzq
  have HS := Lib.hid hs; clear hs
  go_wp2_with fail
  rw [← HW2.out]
  try rw [← HGLS.out]
  (with_reducible refine HS.out.mono ?_); rintro e w3 ⟨rfl, hb3⟩
  clear HS
  have HB3 := Lib.hid (HB2.out.step hb3)
  have Fp := Lib.hid (Fp.out.below hb3)
  have Fq := Lib.hid (Fq.out.below hb3)
  have BXp := Lib.hid (heap_below BXp.out hb3)
  have BXq := Lib.hid (heap_below BXq.out hb3)
  clear hb3
  clear BXLS
  have HBC := Lib.hid ((Below.refl w3.heap.size w3).drew)
  have hc := fun w1 (h1 : Below w3.heap.size w3 w1) => addq_any _ p _ q w1 (Fp.out.below h1) (Fq.out.below h1)
  have CA := Lib.hid hc; clear hc
  have hc := fun w1 (h1 : Below w3.heap.size w3 w1) => raddq_any _ p _ q w1 (Fp.out.below h1) (Fq.out.below h1)
  have CRA := Lib.hid hc; clear hc
  have hc := fun w1 (h1 : Below w3.heap.size w3 w1) => subq_any _ p _ q w1 (Fp.out.below h1) (Fq.out.below h1)
  have CS := Lib.hid hc; clear hc
  have hc := fun w1 (h1 : Below w3.heap.size w3 w1) => rsubq_any _ p _ q w1 (Fp.out.below h1) (Fq.out.below h1)
  have CRS := Lib.hid hc; clear hc
  have hc := fun w1 (h1 : Below w3.heap.size w3 w1) => neg_any _ p w1 (Fp.out.below h1)
  have CN := Lib.hid hc; clear hc
  have hc := fun w1 (h1 : Below w3.heap.size w3 w1) => rneg_any _ p w1 (Fp.out.below h1)
  have CRN := Lib.hid hc; clear hc
  have hc := fun w1 (h1 : Below w3.heap.size w3 w1) => abs_any _ p w1 (Fp.out.below h1)
  rw [← HAB.out] at hc
  have CB := Lib.hid hc; clear hc
  have hc := fun w1 (h1 : Below w3.heap.size w3 w1) => rabs_any _ p w1 (Fp.out.below h1)
  rw [← HAB.out] at hc
  have CRB := Lib.hid hc; clear hc
  have hc := fun va vb u w1 (ha : IsR w1 va u) (hb : IsR w1 vb u) (hl : rl u ≤ 100000) => rat_same va vb u w1 ha hb hl
  have CQ := Lib.hid hc; clear hc
  have Zp := Lib.hid (fun w1 (h1 : Below w3.heap.size w3 w1) => row3 (heap_below BXp.out h1))
  have Zq := Lib.hid (fun w1 (h1 : Below w3.heap.size w3 w1) => row3 (heap_below BXq.out h1))
  go_wp2_with fail
  obtain ⟨zp0, zp1, zp2⟩ := Zp.out _ HBC.out
  obtain ⟨zq0, zq1, zq2⟩ := Zq.out _ HBC.out
  go_region_held3 (fun wx => wx.cell? ⟨w.heap.size, 0, none⟩ = some (.bool sp) ∧ wx.cell? ⟨w.heap.size, 1, none⟩ = some (.slice op np cp) ∧ wx.cell? ⟨w.heap.size, 2, none⟩ = some (.slice ap mp dp) ∧ wx.cell? ⟨w.heap.size + 1, 0, none⟩ = some (.bool sq) ∧ wx.cell? ⟨w.heap.size + 1, 1, none⟩ = some (.slice oq nq cq) ∧ wx.cell? ⟨w.heap.size + 1, 2, none⟩ = some (.slice aq mq dq)) (first | exact ⟨zp0, zp1, zp2, zq0, zq1, zq2⟩ | exact put6 (by omega) (by omega) ⟨zp0, zp1, zp2, zq0, zq1, zq2⟩ | exact al3 ⟨zp0, zp1, zp2, zq0, zq1, zq2⟩ | exact put3c (by omega) (al3 ⟨zp0, zp1, zp2, zq0, zq1, zq2⟩)) (first
    | (go_at_call 33; (with_reducible refine (CA.out _ HBC.out).mono ?_); rintro e wr0 ⟨v0r, rfl, hb, hn⟩; (have HBC := Lib.hid (HBC.out.step hb)); (try have F1 := Lib.hid (F1.out.below hb)); (try have F2 := Lib.hid (F2.out.below hb)); (try have F3 := Lib.hid (F3.out.below hb)); (try have F4 := Lib.hid (F4.out.below hb)); (try have F5 := Lib.hid (F5.out.below hb)); (try have F6 := Lib.hid (F6.out.below hb)); (try have F7 := Lib.hid (F7.out.below hb)); (try have F8 := Lib.hid (F8.out.below hb)); (have F1 := Lib.hid hn); clear hn; clear hb; (obtain ⟨zp0, zp1, zp2⟩ := Zp.out _ HBC.out); (obtain ⟨zq0, zq1, zq2⟩ := Zq.out _ HBC.out))
    | (go_at_call 34; (with_reducible refine (CRA.out _ HBC.out).mono ?_); rintro e wr1 ⟨v1r, rfl, hb, hn⟩; (have HBC := Lib.hid (HBC.out.step hb)); (try have F1 := Lib.hid (F1.out.below hb)); (try have F2 := Lib.hid (F2.out.below hb)); (try have F3 := Lib.hid (F3.out.below hb)); (try have F4 := Lib.hid (F4.out.below hb)); (try have F5 := Lib.hid (F5.out.below hb)); (try have F6 := Lib.hid (F6.out.below hb)); (try have F7 := Lib.hid (F7.out.below hb)); (try have F8 := Lib.hid (F8.out.below hb)); (have F2 := Lib.hid hn); clear hn; clear hb; (obtain ⟨zp0, zp1, zp2⟩ := Zp.out _ HBC.out); (obtain ⟨zq0, zq1, zq2⟩ := Zq.out _ HBC.out))
    | (go_at_call 17; (with_reducible refine (CQ.out _ _ _ _ F1.out F2.out (by omega)).mono ?_); rintro e wr2 ⟨rfl, hb⟩; (have HBC := Lib.hid (HBC.out.step hb)); (try have F1 := Lib.hid (F1.out.below hb)); (try have F2 := Lib.hid (F2.out.below hb)); (try have F3 := Lib.hid (F3.out.below hb)); (try have F4 := Lib.hid (F4.out.below hb)); (try have F5 := Lib.hid (F5.out.below hb)); (try have F6 := Lib.hid (F6.out.below hb)); (try have F7 := Lib.hid (F7.out.below hb)); (try have F8 := Lib.hid (F8.out.below hb)); clear hb; (obtain ⟨zp0, zp1, zp2⟩ := Zp.out _ HBC.out); (obtain ⟨zq0, zq1, zq2⟩ := Zq.out _ HBC.out))
    | (go_at_call 35; (with_reducible refine (CS.out _ HBC.out).mono ?_); rintro e wr3 ⟨v3r, rfl, hb, hn⟩; (have HBC := Lib.hid (HBC.out.step hb)); (try have F1 := Lib.hid (F1.out.below hb)); (try have F2 := Lib.hid (F2.out.below hb)); (try have F3 := Lib.hid (F3.out.below hb)); (try have F4 := Lib.hid (F4.out.below hb)); (try have F5 := Lib.hid (F5.out.below hb)); (try have F6 := Lib.hid (F6.out.below hb)); (try have F7 := Lib.hid (F7.out.below hb)); (try have F8 := Lib.hid (F8.out.below hb)); (have F3 := Lib.hid hn); clear hn; clear hb; (obtain ⟨zp0, zp1, zp2⟩ := Zp.out _ HBC.out); (obtain ⟨zq0, zq1, zq2⟩ := Zq.out _ HBC.out))
    | (go_at_call 36; (with_reducible refine (CRS.out _ HBC.out).mono ?_); rintro e wr4 ⟨v4r, rfl, hb, hn⟩; (have HBC := Lib.hid (HBC.out.step hb)); (try have F1 := Lib.hid (F1.out.below hb)); (try have F2 := Lib.hid (F2.out.below hb)); (try have F3 := Lib.hid (F3.out.below hb)); (try have F4 := Lib.hid (F4.out.below hb)); (try have F5 := Lib.hid (F5.out.below hb)); (try have F6 := Lib.hid (F6.out.below hb)); (try have F7 := Lib.hid (F7.out.below hb)); (try have F8 := Lib.hid (F8.out.below hb)); (have F4 := Lib.hid hn); clear hn; clear hb; (obtain ⟨zp0, zp1, zp2⟩ := Zp.out _ HBC.out); (obtain ⟨zq0, zq1, zq2⟩ := Zq.out _ HBC.out))
    | (go_at_call 17; (with_reducible refine (CQ.out _ _ _ _ F3.out F4.out (by omega)).mono ?_); rintro e wr5 ⟨rfl, hb⟩; (have HBC := Lib.hid (HBC.out.step hb)); (try have F1 := Lib.hid (F1.out.below hb)); (try have F2 := Lib.hid (F2.out.below hb)); (try have F3 := Lib.hid (F3.out.below hb)); (try have F4 := Lib.hid (F4.out.below hb)); (try have F5 := Lib.hid (F5.out.below hb)); (try have F6 := Lib.hid (F6.out.below hb)); (try have F7 := Lib.hid (F7.out.below hb)); (try have F8 := Lib.hid (F8.out.below hb)); clear hb; (obtain ⟨zp0, zp1, zp2⟩ := Zp.out _ HBC.out); (obtain ⟨zq0, zq1, zq2⟩ := Zq.out _ HBC.out))
    | (go_at_call 37; (with_reducible refine (CN.out _ HBC.out).mono ?_); rintro e wr6 ⟨v6r, rfl, hb, hn⟩; (have HBC := Lib.hid (HBC.out.step hb)); (try have F1 := Lib.hid (F1.out.below hb)); (try have F2 := Lib.hid (F2.out.below hb)); (try have F3 := Lib.hid (F3.out.below hb)); (try have F4 := Lib.hid (F4.out.below hb)); (try have F5 := Lib.hid (F5.out.below hb)); (try have F6 := Lib.hid (F6.out.below hb)); (try have F7 := Lib.hid (F7.out.below hb)); (try have F8 := Lib.hid (F8.out.below hb)); (have F5 := Lib.hid hn); clear hn; clear hb; (obtain ⟨zp0, zp1, zp2⟩ := Zp.out _ HBC.out); (obtain ⟨zq0, zq1, zq2⟩ := Zq.out _ HBC.out))
    | (go_at_call 38; (with_reducible refine (CRN.out _ HBC.out).mono ?_); rintro e wr7 ⟨v7r, rfl, hb, hn⟩; (have HBC := Lib.hid (HBC.out.step hb)); (try have F1 := Lib.hid (F1.out.below hb)); (try have F2 := Lib.hid (F2.out.below hb)); (try have F3 := Lib.hid (F3.out.below hb)); (try have F4 := Lib.hid (F4.out.below hb)); (try have F5 := Lib.hid (F5.out.below hb)); (try have F6 := Lib.hid (F6.out.below hb)); (try have F7 := Lib.hid (F7.out.below hb)); (try have F8 := Lib.hid (F8.out.below hb)); (have F6 := Lib.hid hn); clear hn; clear hb; (obtain ⟨zp0, zp1, zp2⟩ := Zp.out _ HBC.out); (obtain ⟨zq0, zq1, zq2⟩ := Zq.out _ HBC.out))
    | (go_at_call 17; (with_reducible refine (CQ.out _ _ _ _ F5.out F6.out (by omega)).mono ?_); rintro e wr8 ⟨rfl, hb⟩; (have HBC := Lib.hid (HBC.out.step hb)); (try have F1 := Lib.hid (F1.out.below hb)); (try have F2 := Lib.hid (F2.out.below hb)); (try have F3 := Lib.hid (F3.out.below hb)); (try have F4 := Lib.hid (F4.out.below hb)); (try have F5 := Lib.hid (F5.out.below hb)); (try have F6 := Lib.hid (F6.out.below hb)); (try have F7 := Lib.hid (F7.out.below hb)); (try have F8 := Lib.hid (F8.out.below hb)); clear hb; (obtain ⟨zp0, zp1, zp2⟩ := Zp.out _ HBC.out); (obtain ⟨zq0, zq1, zq2⟩ := Zq.out _ HBC.out))
    | (go_at_call 39; (with_reducible refine (CB.out _ HBC.out).mono ?_); rintro e wr9 ⟨v9r, rfl, hb, hn⟩; (have HBC := Lib.hid (HBC.out.step hb)); (try have F1 := Lib.hid (F1.out.below hb)); (try have F2 := Lib.hid (F2.out.below hb)); (try have F3 := Lib.hid (F3.out.below hb)); (try have F4 := Lib.hid (F4.out.below hb)); (try have F5 := Lib.hid (F5.out.below hb)); (try have F6 := Lib.hid (F6.out.below hb)); (try have F7 := Lib.hid (F7.out.below hb)); (try have F8 := Lib.hid (F8.out.below hb)); (have F7 := Lib.hid hn); clear hn; clear hb; (obtain ⟨zp0, zp1, zp2⟩ := Zp.out _ HBC.out); (obtain ⟨zq0, zq1, zq2⟩ := Zq.out _ HBC.out))
    | (go_at_call 40; (with_reducible refine (CRB.out _ HBC.out).mono ?_); rintro e wr10 ⟨v10r, rfl, hb, hn⟩; (have HBC := Lib.hid (HBC.out.step hb)); (try have F1 := Lib.hid (F1.out.below hb)); (try have F2 := Lib.hid (F2.out.below hb)); (try have F3 := Lib.hid (F3.out.below hb)); (try have F4 := Lib.hid (F4.out.below hb)); (try have F5 := Lib.hid (F5.out.below hb)); (try have F6 := Lib.hid (F6.out.below hb)); (try have F7 := Lib.hid (F7.out.below hb)); (try have F8 := Lib.hid (F8.out.below hb)); (have F8 := Lib.hid hn); clear hn; clear hb; (obtain ⟨zp0, zp1, zp2⟩ := Zp.out _ HBC.out); (obtain ⟨zq0, zq1, zq2⟩ := Zq.out _ HBC.out))
    | (go_at_call 17; (with_reducible refine (CQ.out _ _ _ _ F7.out F8.out (by omega)).mono ?_); rintro e wr11 ⟨rfl, hb⟩; (have HBC := Lib.hid (HBC.out.step hb)); (try have F1 := Lib.hid (F1.out.below hb)); (try have F2 := Lib.hid (F2.out.below hb)); (try have F3 := Lib.hid (F3.out.below hb)); (try have F4 := Lib.hid (F4.out.below hb)); (try have F5 := Lib.hid (F5.out.below hb)); (try have F6 := Lib.hid (F6.out.below hb)); (try have F7 := Lib.hid (F7.out.below hb)); (try have F8 := Lib.hid (F8.out.below hb)); clear hb; (obtain ⟨zp0, zp1, zp2⟩ := Zp.out _ HBC.out); (obtain ⟨zq0, zq1, zq2⟩ := Zq.out _ HBC.out)))
  go_wp2_with fail
  go_ret
  exact ⟨rfl, HB3.out.step HBC.out⟩
set_option maxRecDepth 100000 in
set_option maxHeartbeats 3200000 in
theorem sums_big (vp : Value) (np mp : Nat) (vq : Value) (nq mq : Nat) (w : World) (hp : RatSz vp np mp) (hq : RatSz vq nq mq) (hb : 12 < np ∨ 12 < mp ∨ 12 < nq ∨ 12 < mq) :
    Calls Tryd.prog 6 #[vp, vq] w (RetV w (.bool true)) := by
  obtain ⟨sp, op, cp, ap, dp, rfl, zp⟩ := hp
  obtain ⟨sq, oq, cq, aq, dq, rfl, zq⟩ := hq
  have HBIG := Lib.hid hb; clear hb
  have hb0 := (((Below.refl w.heap.size w).alloc (by first | (simp; done) | (simp; omega)) (.cells #[.bool sp, .slice op np cp, .slice ap mp dp] 24)).alloc (by first | (simp; done) | (simp; omega)) (.cells #[.bool sq, .slice oq nq cq, .slice aq mq dq] 24))
  have hxp := nest2_0 w (.cells #[.bool sp, .slice op np cp, .slice ap mp dp] 24) (.cells #[.bool sq, .slice oq nq cq, .slice aq mq dq] 24)
  have hxq := nest2_1 w (.cells #[.bool sp, .slice op np cp, .slice ap mp dp] 24) (.cells #[.bool sq, .slice oq nq cq, .slice aq mq dq] 24)
  obtain ⟨w0, hw0⟩ : ∃ w0, w0 = ((w.alloc (.cells #[.bool sp, .slice op np cp, .slice ap mp dp] 24)).alloc (.cells #[.bool sq, .slice oq nq cq, .slice aq mq dq] 24)) := ⟨_, rfl⟩
  rw [← hw0] at hb0 hxp hxq
  have HB0 := Lib.hid hb0; have HW0 := Lib.hid hw0
  have BXp := Lib.hid hxp
  have BXq := Lib.hid hxq
  clear hb0 hw0 hxp hxq
  go_enter Tryd.func6, Tryd.ntmps6
  have hs := awake02 w0
  have HS := Lib.hid hs; clear hs
  go_wp2_with fail
  rw [← HW0.out]
  (with_reducible refine HS.out.mono ?_); rintro e w1 ⟨rfl, hb1⟩
  clear HS
  have HB1 := Lib.hid (HB0.out.step hb1)
  have BXp := Lib.hid (heap_below BXp.out hb1)
  have BXq := Lib.hid (heap_below BXq.out hb1)
  clear hb1
  obtain ⟨ep0, ep1, ep2⟩ := row3 BXp.out
  obtain ⟨eq0, eq1, eq2⟩ := row3 BXq.out
  obtain ⟨w2, hw2⟩ : ∃ w2, w2 = w1.alloc (.cells #[.bool sp, .slice op np cp, .slice ap mp dp, .bool sq, .slice oq nq cq, .slice aq mq dq] 24) := ⟨_, rfl⟩
  have hb2 : Below w1.heap.size w1 w2 := by rw [hw2]; exact (Below.refl _ _).alloc (Nat.le_refl _) _
  have hxLS := heap_alloc_new w1 (.cells #[.bool sp, .slice op np cp, .slice ap mp dp, .bool sq, .slice oq nq cq, .slice aq mq dq] 24)
  obtain ⟨gLS, hgLS⟩ : ∃ gLS, gLS = w1.heap.size := ⟨_, rfl⟩
  rw [← hw2, ← hgLS] at hxLS
  have HW2 := Lib.hid hw2; have HGLS := Lib.hid hgLS; clear hw2 hgLS
  have HB2 := Lib.hid (HB1.out.step hb2)
  have BXp := Lib.hid (heap_below BXp.out hb2)
  have BXq := Lib.hid (heap_below BXq.out hb2)
  clear hb2
  have BXLS := Lib.hid hxLS; clear hxLS
  have hs := rlarge2b BXLS.out zp zq HBIG.out
  have HS := Lib.hid hs; clear hs
  go_wp2_with fail
  rw [← HW2.out]
  try rw [← HGLS.out]
  (with_reducible refine HS.out.mono ?_); rintro e w3 ⟨rfl, hb3⟩
  clear HS
  have HB3 := Lib.hid (HB2.out.step hb3)
  have BXp := Lib.hid (heap_below BXp.out hb3)
  have BXq := Lib.hid (heap_below BXq.out hb3)
  clear hb3
  clear BXLS
  have hs := awake02 w3
  have HS := Lib.hid hs; clear hs
  go_wp2_with fail
  (with_reducible refine HS.out.mono ?_); rintro e w4 ⟨rfl, hb4⟩
  clear HS
  have HB4 := Lib.hid (HB3.out.step hb4)
  have BXp := Lib.hid (heap_below BXp.out hb4)
  have BXq := Lib.hid (heap_below BXq.out hb4)
  clear hb4
  go_wp2_with fail
  go_ret
  exact ⟨rfl, HB4.out⟩
theorem sums02_walk (vp : Value) (sp : Bool) (ap bp : List Nat) (vq : Value) (sq : Bool) (aq bq : List Nat) (w : World) (hp : RatV w vp sp ap bp) (hq : RatV w vq sq aq bq)  :
    Calls Tryd.prog 6 #[vp, vq] w (RetV w (.bool true)) := by
  obtain ⟨yp, ep⟩ := hp.sz
  obtain ⟨yq, eq⟩ := hq.sz
  by_cases hb : 12 < ap.length ∨ 12 < bp.length ∨ 12 < aq.length ∨ 12 < bq.length
  · exact sums_big vp ap.length bp.length vq aq.length bq.length w yp yq hb
  · obtain ⟨up, tp⟩ := hp.lt
    obtain ⟨uq, tq⟩ := hq.lt
    exact sums_small vp (rq sp ap bp) vq (rq sq aq bq) w (hp.is (by omega) (by omega)) (hq.is (by omega) (by omega)) (rl_rq up tp (by omega) (by omega) (by decide)) (by rw [ep]; exact ⟨by show ap.length ≤ 12; omega, by show bp.length ≤ 12; omega⟩) (rl_rq uq tq (by omega) (by omega) (by decide)) (by rw [eq]; exact ⟨by show aq.length ≤ 12; omega, by show bq.length ≤ 12; omega⟩) 
end Go.Proofs.YtabdndlaelfdeaaDoor
