/-
  What the law leans on, one text behind the other (the rest).
  Conditions: each theorem's own.
-/
import Derived.Test.YthhgfhdmfhnklaaGreatDoorMV6
set_option maxRecDepth 100000
set_option maxHeartbeats 16000000
namespace Go.Proofs.YthhgfhdmfhnklaaGreatDoor
def qbo (by_ : Tr) : Tr → Int → Tr × Nat
 | .mk v [a, b] _, k => (.mk v [(qbo by_ a k).1, (qbo by_ b (k - (qbo by_ a k).2)).1] 0, (qbo by_ a k).2 + (qbo by_ b (k - (qbo by_ a k).2)).2)
 | .mk _ _ r, k => if k = 0 then (by_, 1) else (.mk 0 [] r, 1)
def pickS (ps : List Rat) (x : Lf) (i : Nat) (acc : Option (Nat × Rat)) : Option (Nat × Rat) :=
 if x.reason = 2 then (match acc with
  | none => some (i, wt ps x.yes x.no)
  | some (j, m) => if m < wt ps x.yes x.no then some (i, wt ps x.yes x.no) else some (j, m)) else acc
def qfe (ps : List Rat) : List Lf → Nat → Option (Nat × Rat) → Option (Nat × Rat)
 | [], _, acc => acc
 | x :: xs, i, acc => qfe ps xs (i + 1) (pickS ps x i acc)
theorem bad_ref {f : Fm} (h : qfo f.vars 0 f.nodes) (x : Lf) : badL f x = decide (x.reason < 0 ∨ 2 < x.reason ∨ (x.reason < 2 ∧ (qco f x.yes x.no : Int) ≠ x.reason)) := by
 have hv := fmVal_le h x.yes x.no
 unfold badL
 apply decide_eq_decide.2
 omega
theorem leftT_size {vars : Int} : ∀ (t : Tr) (most : Int) (d above : Nat), qej vars t above → 0 ≤ leftT t most d → (qei t : Int) + leftT t most d ≤ most
 | .mk v [] r, most, d, above, _, h => by
  simp only [leftT, leftKs] at h ⊢
  simp only [qei]
  split at h <;> rename_i hc
  ·omega
  ·rw [if_neg hc]; omega
 | .mk v [a, b] r, most, d, above, ho, h => by
  simp only [qej] at ho
  obtain ⟨_, _, _, _, ha, hb⟩ := ho
  simp only [leftT, leftKs] at h ⊢
  simp only [qei]
  split at h <;> rename_i hc
  ·omega
  ·rw [if_neg hc]
   split at h <;> rename_i h1
   ·omega
   ·rw [if_neg h1]
    split at h <;> rename_i h2
    ·omega
    ·rw [if_neg h2]
     have k1 := leftT_size a (most - 1) (d + 1) _ ha (by omega)
     have k2 := leftT_size b (leftT a (most - 1) (d + 1)) (d + 1) _ hb h
     omega
 | .mk _ [_] _, _, _, _, ho, _ => by simp only [qej] at ho
 | .mk _ (_ :: _ :: _ :: _) _, _, _, _, ho, _ => by simp only [qej] at ho
theorem cert_len {f : Fm} {t : Tr} (h : cErr f t = 0) : (qah t 0 0).length ≤ 4096 := by
 rw [qdn]
 have := (qdf t).2; have := (qds h).2.2.2; omega
def sg (q : Rat) : Int := if q < 0 then -1 else if q = 0 then 0 else 1
theorem ext_fields {p q : Rat} (h1 : ng p = ng q) (h2 : nn p = nn q) (h3 : dn p = dn q) : p = q := by
 by_cases hp : p = 0
 ·subst hp
  rw [nn_zero] at h2
  exact (qfm.1 h2.symm).symm
 ·have hq : q ≠ 0 := fun h => by
   subst h; rw [nn_zero] at h2; exact hp (qfm.1 h2)
  rw [dn_pos hp, dn_pos hq] at h3
  rw [← qm_self p, ← qm_self q, h1, h2, h3]

theorem sg_eq (p : Rat) : sg p = if nn p = 0 then 0 else if ng p = true then -1 else 1 := by
 unfold sg ng
 by_cases h : p < 0
 ·have : p ≠ 0 := by grind
  rw [if_pos h, if_neg (fun e => this (qfm.1 e)), if_pos (decide_eq_true h)]
 ·rw [if_neg h]
  by_cases h2 : p = 0
  ·rw [if_pos h2, if_pos (qfm.2 h2)]
  ·rw [if_neg h2, if_neg (fun e => h2 (qfm.1 e)), if_neg (by simp [h])]
theorem sg_sub (p q : Rat) : sg (p - q) = cq p q := by
 unfold sg cq; grind
theorem cq_gt (p q : Rat) : 0 < cq p q ↔ q < p := by
 unfold cq; split
 ·grind
 ·split <;> grind
def mn (p q : Rat) : Rat := if p ≤ q then p else q
def sMeet (a b : Rat × Rat) : Rat × Rat := (mx a.1 b.1, mn a.2 b.2)
end Go.Proofs.YthhgfhdmfhnklaaGreatDoor
namespace Go.Proofs.YthhgfhdmfhnklaaGreatDoor
open Go.RowKit Go.ChangeShapes Go.WideShapes
theorem blen_one_iff (g : Nat) : blen g = 1 ↔ g = 1 := by
 constructor
 ·intro h
  have h0 : g ≠ 0 := fun e => by rw [e, blen_zero] at h; cases h
  have h1 := lt_two_blen g
  rw [h] at h1
  have : (2 : Nat) ^ 1 = 2 := rfl
  omega
 ·intro h; subst h; decide
theorem vld_tops {s : Bool} {a b : List Nat} (ha : 0 < a.length) (hb : 0 < b.length) : Vld s a b ↔ gd a (a.length - 1) ≠ 0 ∧ gd b (b.length - 1) ≠ 0 ∧ Nat.gcd (val a) (val b) = 1 := by
 have na : a ≠ [] := fun e => by rw [e] at ha; simp at ha
 have nb : b ≠ [] := fun e => by rw [e] at hb; simp at hb
 rw [vld_parts (fun h => na h.1)]
 unfold Clean
 constructor
 ·rintro ⟨⟨_, h1⟩, ⟨_, h2⟩, h3⟩
  exact ⟨h1.resolve_left na, h2.resolve_left nb, h3⟩
 ·rintro ⟨h1, h2, h3⟩
  exact ⟨⟨na, .inr h1⟩, ⟨nb, .inr h2⟩, h3⟩
theorem vld_half {s : Bool} {a b : List Nat} (h : a = [] ∧ b ≠ [] ∨ a ≠ [] ∧ b = []) : ¬ Vld s a b := by
 rintro (⟨h1, h2, _⟩ | ⟨h1, h2, _⟩)
 ·rcases h with ⟨_, h⟩ | ⟨h, _⟩
  ·exact h h2
  ·exact h h1
 ·rcases h with ⟨h, _⟩ | ⟨_, h⟩
  ·exact h1 h
  ·exact h2 h

theorem rvalid_any (v : Value) (s : Bool) (a b : List Nat) (w : World) (h : RatV w v s a b) (hla : a.length ≤ 400000) (hlb : b.length ≤ 400000) :
  Calls Tryz.prog 123 #[v] w (qea w (.bool (decide (Vld s a b)))) := by
 obtain ⟨va, vb, rfl, ha, hb⟩ := h
 obtain ⟨ao, ca, rfl, hca, hca2, _⟩ := ha.shape
 obtain ⟨bo, cb, rfl, hcb, hcb2, _⟩ := hb.shape
 have hbx : Below w.heap.size w (w.alloc (.cells #[.bool s, .slice ao a.length ca, .slice bo b.length cb] 54)) := (Below.refl _ _).alloc (Nat.le_refl _) _
 have HBX := qHd hbx
 by_cases h1 : a.length = 0
 ·obtain rfl := List.eq_nil_of_length_eq_zero h1
  by_cases h2 : b.length = 0
  ·obtain rfl := List.eq_nil_of_length_eq_zero h2
   have e : decide (Vld s [] []) = !s := by cases s <;> rfl
   rw [e]
   clear ha hb e hbx h1 h2
   go_enter Tryz.func123, Tryz.ntmps123
   go_wp2_with fail
   go_quiet (fail)
   go_wp2_with fail
   go_ret
   exact ⟨rfl, qbg HBX.out _⟩
  ·have hd : decide (Vld s [] b) = false := decide_eq_false (vld_half (.inl ⟨rfl, fun e => h2 (by rw [e]; rfl)⟩))
   rw [hd]
   have f1 : ((b.length : Int) == 0) = false := by rw [beq_eq_false_iff_ne]; omega
   clear ha hb hbx h1 h2 hd
   go_enter Tryz.func123, Tryz.ntmps123
   go_wp2_with fail
   go_quiet (fail)
   go_wp2_with fail
   go_ret
   exact ⟨rfl, qbg HBX.out _⟩
 ·have f0 : ((a.length : Int) == 0) = false := by rw [beq_eq_false_iff_ne]; omega
  by_cases h2 : b.length = 0
  ·obtain rfl := List.eq_nil_of_length_eq_zero h2
   have hd : decide (Vld s a []) = false := decide_eq_false (vld_half (.inr ⟨fun e => h1 (by rw [e]; rfl), rfl⟩))
   rw [hd]
   clear ha hb hbx h1 h2 hd
   go_enter Tryz.func123, Tryz.ntmps123
   go_wp2_with fail
   go_quiet (fail)
   go_wp2_with fail
   go_ret
   exact ⟨rfl, qbg HBX.out _⟩
  ·have f1 : ((b.length : Int) == 0) = false := by rw [beq_eq_false_iff_ne]; omega
   have hd : decide (Vld s a b) = decide (gd a (a.length - 1) ≠ 0 ∧ gd b (b.length - 1) ≠ 0 ∧ Nat.gcd (val a) (val b) = 1) := decide_eq_decide.2 (vld_tops (by omega) (by omega))
   rw [hd]
   have HA := qHd (ha.below hbx); have HB := qHd (hb.below hbx)
   obtain ⟨ba, fa, rfl, _, hca'⟩ := ha.at (by omega)
   obtain ⟨bb, fb, rfl, _, hcb'⟩ := hb.at (by omega)
   have hxl := ha.lt (a.length - 1)
   have hyl := hb.lt (b.length - 1)
   have hxc : ∀ n, ((w.alloc (.cells #[.bool s, .slice (some ⟨ba, fa, none⟩) a.length ca, .slice (some ⟨bb, fb, none⟩) b.length cb] 54)).drewN n).cell? ⟨ba, fa + (a.length - 1), none⟩ = some (.int .u32 (gd a (a.length - 1) : Nat)) := fun n => by
    obtain ⟨b', o', e', _, h'⟩ := (((ha.below hbx).below (qbg (Below.refl _ _) n))).at (by omega)
    cases e'
    exact h' _ (by omega)
   have hyc : ∀ n, ((w.alloc (.cells #[.bool s, .slice (some ⟨ba, fa, none⟩) a.length ca, .slice (some ⟨bb, fb, none⟩) b.length cb] 54)).drewN n).cell? ⟨bb, fb + (b.length - 1), none⟩ = some (.int .u32 (gd b (b.length - 1) : Nat)) := fun n => by
    obtain ⟨b', o', e', _, h'⟩ := (((hb.below hbx).below (qbg (Below.refl _ _) n))).at (by omega)
    cases e'
    exact h' _ (by omega)
   obtain ⟨x, hx⟩ : ∃ x, x = gd a (a.length - 1) := ⟨_, rfl⟩
   obtain ⟨y, hy⟩ : ∃ y, y = gd b (b.length - 1) := ⟨_, rfl⟩
   rw [← hx] at hxc hxl
   rw [← hy] at hyc hyl
   rw [← hx, ← hy]
   have HXC := qHd hxc; have HYC := qHd hyc
   have hl1 := qbp HA.out.lt
   have hg0 : x ≠ 0 → val a ≠ 0 := fun h e => by
    have := clean_eq HA.out.lt (.inr (by rw [← hx]; exact h))
    rw [e, qca] at this; rw [this] at h1; simp at h1
   have HG0 := qHd hg0
   clear ha hb hbx hd hx hy hca' hcb' hxc hyc hg0
   by_cases hx0 : x = 0
   ·subst hx0
    have hd : decide ((0 : Nat) ≠ 0 ∧ y ≠ 0 ∧ Nat.gcd (val a) (val b) = 1) = false := decide_eq_false fun h => h.1 rfl
    rw [hd]
    clear hd
    go_enter Tryz.func123, Tryz.ntmps123
    go_wp2_with fail
    go_quiet (fail)
    have hxc := HXC.out nq; have hyc := HYC.out nq
    go_wp2_with fail
    go_ret
    exact ⟨rfl, qbg HBX.out _⟩
   ·have fx : (bne (x : Int) 0) = true := by rw [bne_iff_ne]; omega
    by_cases hy0 : y = 0
    ·subst hy0
     have hd : decide (x ≠ 0 ∧ (0 : Nat) ≠ 0 ∧ Nat.gcd (val a) (val b) = 1) = false := decide_eq_false fun h => h.2.1 rfl
     rw [hd]
     clear hd
     go_enter Tryz.func123, Tryz.ntmps123
     go_wp2_with fail
     go_quiet (fail)
     have hxc := HXC.out nq; have hyc := HYC.out nq
     go_wp2_with fail
     go_ret
     exact ⟨rfl, qbg HBX.out _⟩
    ·have fy : (bne (y : Int) 0) = true := by rw [bne_iff_ne]; omega
     have hv0 := HG0.out hx0
     have hgl : (wd (Nat.gcd (val a) (val b))).length ≤ 400000 := by
      have h3 := qbk (Nat.le_of_dvd (Nat.pos_of_ne_zero hv0) (Nat.gcd_dvd_left (val a) (val b)))
      omega
     have hd : decide (x ≠ 0 ∧ y ≠ 0 ∧ Nat.gcd (val a) (val b) = 1) = decide (blen (Nat.gcd (val a) (val b)) = 1) := by
      rw [decide_eq_decide, blen_one_iff]; exact ⟨fun h => h.2.2, fun h => ⟨hx0, hy0, h⟩⟩
     rw [hd]
     have hg := fun n => rgcd_any _ _ _ _ _ (HA.out.below (qbg (Below.refl _ _) n)) (HB.out.below (qbg (Below.refl _ _) n)) (by omega) (by omega)
     obtain ⟨g, hge⟩ : ∃ g, g = Nat.gcd (val a) (val b) := ⟨_, rfl⟩
     rw [← hge] at hg hgl ⊢
     have HG := qHd hg
     clear hd hge hg hv0 hx0 hy0
     go_enter Tryz.func123, Tryz.ntmps123
     go_wp2_with fail
     go_quiet (fail)
     have hxc := HXC.out nq; have hyc := HYC.out nq
     go_wp2_with fail
     (with_reducible refine (HG.out _).mono ?_); rintro e w1 ⟨v1, l1, rfl, hb1, hn1, rfl⟩
     have hbi := rbits_any _ _ w1 hn1 (by omega)
     rw [qaz] at hbi
     obtain ⟨bl, hbl⟩ : ∃ bl, bl = blen g := ⟨_, rfl⟩
     rw [← hbl] at hbi
     have HBI := qHd hbi; have HB1 := qHd ((qbg HBX.out nq).step hb1); have HBL := qHd hbl
     clear hbi hn1 hb1 hbl hxc hyc
     by_cases hb1 : bl = 1
     ·subst hb1
      go_wp2_with fail
      (with_reducible refine HBI.out.mono ?_); rintro e w2 ⟨rfl, rfl⟩
      go_wp2_with fail
      go_ret
      exact ⟨by rw [decide_eq_true HBL.out.symm]; rfl, HB1.out⟩
     ·have hbz : ((bl : Int) == 1) = false := by rw [beq_eq_false_iff_ne]; omega
      go_wp2_with fail
      (with_reducible refine HBI.out.mono ?_); rintro e w2 ⟨rfl, rfl⟩
      go_wp2_with fail
      go_ret
      exact ⟨by rw [decide_eq_false (fun e => hb1 (HBL.out.trans e))]; first | rfl | (simp; done) | (simp [hbz]; done), HB1.out⟩
theorem num_one1 (w : World) : Num (w.alloc (.cells #[.int .u32 1] 156)) (.slice (some ⟨w.heap.size, 0, none⟩) 1 1) (wd 1) := by
 rw [wd_one (by decide) (by decide)]; exact num_one w 156 1 (by decide)
theorem qdj (v : Value) (q : Rat) (w : World) (h : qbs w v q) :
  Calls Tryz.prog 132 #[v] w (RetParts w q) := by
 obtain ⟨s, a, b, hv, rfl, hla, hlb⟩ := h
 obtain ⟨va, vb, rfl, ha, hb⟩ := hv
 obtain ⟨ao, ca, rfl, hca, hca2, _⟩ := ha.shape
 obtain ⟨bo, cb, rfl, hcb, hcb2, _⟩ := hb.shape
 have hbx : Below w.heap.size w (w.alloc (.cells #[.bool s, .slice ao a.length ca, .slice bo b.length cb] 54)) := (Below.refl _ _).alloc (Nat.le_refl _) _
 have hvl := rvalid_any _ s a b _ (⟨_, _, rfl, ha.below hbx, hb.below hbx⟩ : RatV (w.alloc (.cells #[.bool s, .slice ao a.length ca, .slice bo b.length cb] 54)) _ s a b) (by omega) (by omega)
 by_cases h0 : rq s a b = 0
 ·rw [h0]
  have hbad : decide (Vld s a b) = false ∨ decide (Vld s a b) = true ∧ a.length = 0 := by
   by_cases hv : Vld s a b
   ·right
    obtain ⟨_, e, _⟩ := vld_fields ha.lt hb.lt hv
    rw [h0, nn_zero, qca] at e
    exact ⟨decide_eq_true hv, by rw [e]; rfl⟩
   ·left; exact decide_eq_false hv
  have HBX := qHd hbx; clear hbx h0
  rcases hbad with hd | ⟨hd, hl⟩
  ·rw [hd] at hvl
   have HV := qHd hvl; clear hvl hd ha hb
   go_enter Tryz.func132, Tryz.ntmps132
   go_wp2_with fail
   (with_reducible refine HV.out.mono ?_); rintro e w1 ⟨rfl, hb1⟩
   go_wp2_with fail
   go_ret3
   exact ⟨_, _, rfl, (HBX.out.step hb1).alloc (HBX.out.step hb1).size _, by rw [nn_zero, qca]; exact Num.nil _, num_one1 _⟩
  ·rw [hd] at hvl
   have c1 := fun w1 (h : Below _ _ w1) => box_kept (w := w) (cs := #[.bool s, .slice ao a.length ca, .slice bo b.length cb]) (T := 54) (w1 := w1) h 1
   have C1 := qHd c1
   have HV := qHd hvl; have HL := qHd hl; clear hvl hd c1 ha hb hl
   go_enter Tryz.func132, Tryz.ntmps132
   go_wp2_with fail
   (with_reducible refine HV.out.mono ?_); rintro e w1 ⟨rfl, hb1⟩
   have c1 : w1.cell? ⟨w.heap.size, 1, none⟩ = some (.slice ao a.length ca) := C1.out w1 hb1
   rw [HL.out] at c1
   go_wp2_with fail
   go_ret3
   exact ⟨_, _, rfl, (HBX.out.step hb1).alloc (HBX.out.step hb1).size _, by rw [nn_zero, qca]; exact Num.nil _, num_one1 _⟩
 ·have hv : Vld s a b := Decidable.byContradiction fun h => h0 (rq_invalid h)
  obtain ⟨e1, e2, e3⟩ := vld_fields ha.lt hb.lt hv
  rw [dn_pos h0] at e3
  have hl : ((a.length : Int) == 0) = false := by
   rw [beq_eq_false_iff_ne]
   intro h
   have : a = [] := List.eq_nil_of_length_eq_zero (by omega)
   rw [e2] at this
   exact wd_ne (fun e => h0 (qfm.1 e)) this
  rw [decide_eq_true hv] at hvl
  have HE := qHd (And.intro e1 (And.intro e2 e3)); have HBX := qHd hbx; have HA := qHd (ha.below hbx); have HB := qHd (hb.below hbx); have HV := qHd hvl
  have bk := fun w1 (h : Below _ _ w1) j => box_kept (w := w) (cs := #[.bool s, .slice ao a.length ca, .slice bo b.length cb]) (T := 54) (w1 := w1) h j
  have BK := qHd bk
  clear e1 e2 e3 hbx ha hb hv hvl bk h0
  go_enter Tryz.func132, Tryz.ntmps132
  go_wp2_with fail
  (with_reducible refine HV.out.mono ?_); rintro e w1 ⟨rfl, hb1⟩
  have c0 : w1.cell? ⟨w.heap.size, 0, none⟩ = some (.bool s) := BK.out w1 hb1 0
  have c1 : w1.cell? ⟨w.heap.size, 1, none⟩ = some (.slice ao a.length ca) := BK.out w1 hb1 1
  have c2 : w1.cell? ⟨w.heap.size, 2, none⟩ = some (.slice bo b.length cb) := BK.out w1 hb1 2
  go_wp2_with fail
  go_quiet (fail)
  go_wp2_with fail
  go_ret3
  obtain ⟨e1, e2, e3⟩ := HE.out
  refine ⟨.slice ao a.length ca, .slice bo b.length cb, by rw [← e1]; rfl, qbg (HBX.out.step hb1) _, ?_, ?_⟩
  ·rw [← e2]; exact (HA.out.below hb1).below (qbg (Below.refl _ _) _)
  ·rw [← e3]; exact (HB.out.below hb1).below (qbg (Below.refl _ _) _)
section
variable {u v : Value} {m n : Nat} {w : World}
theorem raddN (h1 : Num w u (wd m)) (h2 : Num w v (wd n)) (l1 : (wd m).length ≤ 400000) (l2 : (wd n).length ≤ 400000) : Calls Tryz.prog 134 #[u, v] w (RetN w (m + n)) := by
 have h := radd_any u v _ _ w h1 h2 (by omega) (by omega)
 rw [qaz, qaz] at h; exact h.mono fun _ _ => RetNum.n
theorem rmulN (h1 : Num w u (wd m)) (h2 : Num w v (wd n)) (l1 : (wd m).length ≤ 400000) (l2 : (wd n).length ≤ 400000) : Calls Tryz.prog 133 #[u, v] w (RetN w (m * n)) := by
 have h := rmul_any u v _ _ w h1 h2 (by omega) (by omega)
 rw [qaz, qaz] at h; exact h.mono fun _ _ => RetNum.n
theorem rcmpN_ (h1 : Num w u (wd m)) (h2 : Num w v (wd n)) (l1 : (wd m).length ≤ 400000) (l2 : (wd n).length ≤ 400000) : Calls Tryz.prog 135 #[u, v] w (RetS w (.int .i64 (cmpN m n))) := by
 have h := rcmp_any u v _ _ w h1 h2 (by omega) (by omega)
 rw [qaz, qaz] at h; exact h
theorem rsubN (h1 : Num w u (wd m)) (h2 : Num w v (wd n)) (l1 : (wd m).length ≤ 400000) (l2 : (wd n).length ≤ 400000) (hle : n ≤ m) : Calls Tryz.prog 136 #[u, v] w (RetNE w (m - n) (.int .i64 0)) := by
 have h := rsub_ge u v _ _ w h1 h2 (by omega) (by omega) (by rw [qaz, qaz]; exact hle)
 rw [qaz, qaz] at h; exact h
theorem rfromN (s : Bool) (h1 : Num w u (wd m)) (h2 : Num w v (wd n)) (l1 : (wd m).length ≤ 400000) (l2 : (wd n).length ≤ 400000) : Calls Tryz.prog 107 #[.bool s, u, v] w (RetRE w (qm s m n) (.int .i64 (zc n : Nat))) := by
 have h := rfrom_any s u v _ _ w h1 h2 l1 l2
 rw [qaz, qaz] at h; exact h
end
theorem sign_any (vp : Value) (p : Rat) (w : World) (hp : qbs w vp p)  :
  Calls Tryz.prog 66 #[vp] w (qea w (.int .i64 (sg p))) := by
 obtain ⟨sp, op, np, cp, ap, mp, dp, rfl⟩ := hp.shape
 have hlp := hp.rl
 rw [sg_eq]
 have hb0 := ((Below.refl w.heap.size w).alloc (by first | (simp; done) | (simp; omega)) (.cells #[.bool sp, .slice op np cp, .slice ap mp dp] 54))
 have hxp := qfl w (.cells #[.bool sp, .slice op np cp, .slice ap mp dp] 54)
 have hpp := hp.below hb0
 obtain ⟨w0, hw0⟩ : ∃ w0, w0 = (w.alloc (.cells #[.bool sp, .slice op np cp, .slice ap mp dp] 54)) := ⟨_, rfl⟩
 rw [← hw0] at hb0 hxp hpp
 have HB0 := qHd hb0; have HW0 := qHd hw0
 have BXp := qHd hxp
 have Fp := qHd hpp
 clear hb0 hw0 hxp hpp hp
 by_cases h0 : nn p = 0
 ·rw [if_pos h0]
  have H0 := qHd h0; clear h0
  go_enter Tryz.func66, Tryz.ntmps66
  have hs := qcu _ p w0 Fp.out
  have HS := qHd hs; clear hs
  go_wp2_with fail
  rw [← HW0.out]
  (with_reducible refine HS.out.mono ?_); rintro e w1 ⟨v1, u1, rfl, hb1, hn1, hm1⟩
  clear HS
  rw [H0.out, qca] at hn1
  obtain ⟨no, nc, rfl, _, _, _⟩ := hn1.shape
  have HB1 := qHd (HB0.out.step hb1)
  have Fp := qHd (Fp.out.below hb1)
  have BXp := qHd (qaa BXp.out hb1)
  have N := qHd hn1
  have D := qHd hm1
  clear hn1 hm1
  clear hb1
  go_wp2_with fail
  go_ret
  exact ⟨rfl, HB1.out⟩
 ·rw [if_neg h0]
  have hz : (((wd (nn p)).length : Int) == 0) = false := by rw [beq_eq_false_iff_ne]; intro h; exact wd_ne h0 (List.eq_nil_of_length_eq_zero (by omega))
  obtain ⟨L, hL⟩ : ∃ L, L = (wd (nn p)).length := ⟨_, rfl⟩
  rw [← hL] at hz
  have HL := qHd hL; clear hL h0
  obtain ⟨x, hx⟩ : ∃ x, x = ng p := ⟨_, rfl⟩
  rw [← hx]
  have HX := qHd hx; clear hx
  cases x
  ·go_enter Tryz.func66, Tryz.ntmps66
   have hs := qcu _ p w0 Fp.out
   have HS := qHd hs; clear hs
   go_wp2_with fail
   rw [← HW0.out]
   (with_reducible refine HS.out.mono ?_); rintro e w1 ⟨v1, u1, rfl, hb1, hn1, hm1⟩
   clear HS
   rw [← HX.out]
   obtain ⟨no, nc, rfl, _, _, _⟩ := hn1.shape
   rw [← HL.out]
   have HB1 := qHd (HB0.out.step hb1)
   have Fp := qHd (Fp.out.below hb1)
   have BXp := qHd (qaa BXp.out hb1)
   have N := qHd hn1
   have D := qHd hm1
   clear hn1 hm1
   clear hb1
   go_wp2_with fail
   go_ret
   exact ⟨rfl, HB1.out⟩
  ·go_enter Tryz.func66, Tryz.ntmps66
   have hs := qcu _ p w0 Fp.out
   have HS := qHd hs; clear hs
   go_wp2_with fail
   rw [← HW0.out]
   (with_reducible refine HS.out.mono ?_); rintro e w1 ⟨v1, u1, rfl, hb1, hn1, hm1⟩
   clear HS
   rw [← HX.out]
   obtain ⟨no, nc, rfl, _, _, _⟩ := hn1.shape
   rw [← HL.out]
   have HB1 := qHd (HB0.out.step hb1)
   have Fp := qHd (Fp.out.below hb1)
   have BXp := qHd (qaa BXp.out hb1)
   have N := qHd hn1
   have D := qHd hm1
   clear hn1 hm1
   clear hb1
   go_wp2_with fail
   go_ret
   exact ⟨rfl, HB1.out⟩
theorem qfi (vp : Value) (p : Rat) (vq : Value) (q : Rat) (w : World) (hp : qbs w vp p) (hq : qbs w vq q) (hlp2 : rl p ≤ 40000) (hlq2 : rl q ≤ 40000)  :
  Calls Tryz.prog 32 #[vp, vq] w (qea w (.int .i64 (cq p q))) := by
 obtain ⟨sp, op, np, cp, ap, mp, dp, rfl⟩ := hp.shape
 have hlp := hp.rl
 obtain ⟨sq, oq, nq, cq, aq, mq, dq, rfl⟩ := hq.shape
 have hlq := hq.rl
 have hb0 := (((Below.refl w.heap.size w).alloc (by first | (simp; done) | (simp; omega)) (.cells #[.bool sp, .slice op np cp, .slice ap mp dp] 54)).alloc (by first | (simp; done) | (simp; omega)) (.cells #[.bool sq, .slice oq nq cq, .slice aq mq dq] 54))
 have hxp := nest2_0 w (.cells #[.bool sp, .slice op np cp, .slice ap mp dp] 54) (.cells #[.bool sq, .slice oq nq cq, .slice aq mq dq] 54)
 have hxq := nest2_1 w (.cells #[.bool sp, .slice op np cp, .slice ap mp dp] 54) (.cells #[.bool sq, .slice oq nq cq, .slice aq mq dq] 54)
 have hpp := hp.below hb0
 have hpq := hq.below hb0
 obtain ⟨w0, hw0⟩ : ∃ w0, w0 = ((w.alloc (.cells #[.bool sp, .slice op np cp, .slice ap mp dp] 54)).alloc (.cells #[.bool sq, .slice oq nq cq, .slice aq mq dq] 54)) := ⟨_, rfl⟩
 rw [← hw0] at hb0 hxp hxq hpp hpq
 have HB0 := qHd hb0; have HW0 := qHd hw0
 have BXp := qHd hxp
 have BXq := qHd hxq
 have Fp := qHd hpp
 have Fq := qHd hpq
 clear hb0 hw0 hxp hxq hpp hp hpq hq
 have hr := rl_sub p q
 have hlp2 : rl p ≤ 40000 := hlp2; have hlq2 : rl q ≤ 40000 := hlq2
 go_enter Tryz.func32, Tryz.ntmps32
 have hs := subq_any _ p _ q w0 Fp.out Fq.out
 have HS := qHd hs; clear hs
 go_wp2_with fail
 rw [← HW0.out]
 (with_reducible refine HS.out.mono ?_); rintro e w1 ⟨v1, rfl, hb1, hn1⟩
 clear HS
 have HB1 := qHd (HB0.out.step hb1)
 have Fp := qHd (Fp.out.below hb1)
 have Fq := qHd (Fq.out.below hb1)
 have BXp := qHd (qaa BXp.out hb1)
 have BXq := qHd (qaa BXq.out hb1)
 have S := qHd hn1; clear hn1
 clear hb1
 have SI := qHd (S.out.is (by omega))
 obtain ⟨sS, oS, nS, cS, aS, mS, dS, rfl⟩ := S.out.shape
 have hs := sign_any _ (p - q) w1 SI.out
 rw [sg_sub] at hs
 have HS := qHd hs; clear hs
 go_wp2_with fail
 (with_reducible refine HS.out.mono ?_); rintro e w2 ⟨rfl, hb2⟩
 clear HS
 have HB2 := qHd (HB1.out.step hb2)
 have Fp := qHd (Fp.out.below hb2)
 have Fq := qHd (Fq.out.below hb2)
 have S := qHd (S.out.below hb2)
 have SI := qHd (SI.out.below hb2)
 have BXp := qHd (qaa BXp.out hb2)
 have BXq := qHd (qaa BXq.out hb2)
 clear hb2
 go_wp2_with fail
 go_ret
 exact ⟨rfl, HB2.out⟩
theorem rl_small {n : Int} (h0 : -9223372036854775808 ≤ n) (h1 : n < 9223372036854775808) : rl (n : Rat) ≤ 2 := by
 rw [rl_int]; have := wd_small (n := n.natAbs) (by omega); omega
theorem rfromK {u v : Value} {m n : Nat} {w : World} (s : Bool) (h1 : Num w u (wd m)) (h2 : Num w v (wd n)) (l1 : (wd m).length ≤ 400000) (l2 : (wd n).length ≤ 400000) (h0 : n ≠ 0) :
  Calls Tryz.prog 107 #[.bool s, u, v] w (RetRE w (qm s m n) (.int .i64 0)) := by
 have h := rfromN s h1 h2 l1 l2
 unfold zc at h; rw [if_neg h0] at h; exact h
theorem rneg_any (vp : Value) (p : Rat) (w : World) (hp : qbs w vp p)  :
  Calls Tryz.prog 97 #[vp] w (RetR w (-p)) := by
 obtain ⟨sp, op, np, cp, ap, mp, dp, rfl⟩ := hp.shape
 have hlp := hp.rl
 have hb0 := (((Below.refl w.heap.size w).alloc (by first | (simp; done) | (simp; omega)) (.cells #[.bool sp, .slice op np cp, .slice ap mp dp] 54)).alloc (by first | (simp; done) | (simp; omega)) (.cells #[.bool false, .slice none 0 0, .slice none 0 0] 54))
 have hxp := nest2_0 w (.cells #[.bool sp, .slice op np cp, .slice ap mp dp] 54) (.cells #[.bool false, .slice none 0 0, .slice none 0 0] 54)
 have hxR := nest2_1 w (.cells #[.bool sp, .slice op np cp, .slice ap mp dp] 54) (.cells #[.bool false, .slice none 0 0, .slice none 0 0] 54)
 have hpp := hp.below hb0
 obtain ⟨w0, hw0⟩ : ∃ w0, w0 = ((w.alloc (.cells #[.bool sp, .slice op np cp, .slice ap mp dp] 54)).alloc (.cells #[.bool false, .slice none 0 0, .slice none 0 0] 54)) := ⟨_, rfl⟩
 rw [← hw0] at hb0 hxp hxR hpp
 have HB0 := qHd hb0; have HW0 := qHd hw0
 have BXp := qHd hxp
 have BXR := qHd hxR
 have Fp := qHd hpp
 clear hb0 hw0 hxp hxR hpp hp
 have l1 := rl_n p; have l2 := rl_d p
 go_enter Tryz.func97, Tryz.ntmps97
 have hs := qdj _ p w0 Fp.out
 have HS := qHd hs; clear hs
 go_wp2_with fail
 rw [← HW0.out]
 (with_reducible refine HS.out.mono ?_); rintro e w1 ⟨v1, u1, rfl, hb1, hn1, hm1⟩
 clear HS
 have HB1 := qHd (HB0.out.step hb1)
 have Fp := qHd (Fp.out.below hb1)
 have BXp := qHd (qaa BXp.out hb1)
 have BXR := qHd (qaa BXR.out hb1)
 have N := qHd hn1
 have D := qHd hm1
 clear hn1 hm1
 clear hb1
 have hs := rfromK (!ng p) N.out D.out (by omega) (by omega) p.den_nz
 rw [q_neg] at hs
 have HS := qHd hs; clear hs
 go_wp2_with fail
 (with_reducible refine HS.out.mono ?_); rintro e w2 ⟨v2, rfl, hb2, hn2⟩
 clear HS
 have HB2 := qHd (HB1.out.step hb2)
 have Fp := qHd (Fp.out.below hb2)
 have N := qHd (N.out.below hb2)
 have D := qHd (D.out.below hb2)
 have BXp := qHd (qaa BXp.out hb2)
 have BXR := qHd (qaa BXR.out hb2)
 have Q := qHd hn2; clear hn2
 clear hb2
 obtain ⟨sQ, oQ, nQ, cQ, aQ, mQ, dQ, rfl⟩ := Q.out.shape
 have hal : Below w2.heap.size w2 (w2.alloc (.cells #[.bool sQ, .slice oQ nQ cQ, .slice aQ mQ dQ] 54)) := (Below.refl _ _).alloc (Nat.le_refl _) _
 have HXA := qHd (qaa BXR.out hal); have HAL := qHd hal; clear hal
 obtain ⟨eR0, eR1, eR2⟩ := qay HXA.out
 obtain ⟨fR0, fR1, fR2⟩ := froz3 HXA.out
 go_wp2_with fail
 refine qde rfl (w.heap.size + 1) _ _ _ rfl (qcf HXA.out) rfl ?_
 exact ⟨_, rfl, qbt (HB2.out.step HAL.out) (by omega) _ _ _, qdx (Q.out.below HAL.out) HXA.out⟩
theorem rmulq_any (vp : Value) (p : Rat) (vq : Value) (q : Rat) (w : World) (hp : qbs w vp p) (hq : qbs w vq q)  :
  Calls Tryz.prog 99 #[vp, vq] w (RetR w (p * q)) := by
 obtain ⟨sp, op, np, cp, ap, mp, dp, rfl⟩ := hp.shape
 have hlp := hp.rl
 obtain ⟨sq, oq, nq, cq, aq, mq, dq, rfl⟩ := hq.shape
 have hlq := hq.rl
 have hb0 := ((((Below.refl w.heap.size w).alloc (by first | (simp; done) | (simp; omega)) (.cells #[.bool sp, .slice op np cp, .slice ap mp dp] 54)).alloc (by first | (simp; done) | (simp; omega)) (.cells #[.bool sq, .slice oq nq cq, .slice aq mq dq] 54)).alloc (by first | (simp; done) | (simp; omega)) (.cells #[.bool false, .slice none 0 0, .slice none 0 0] 54))
 have hxp := qfw w (.cells #[.bool sp, .slice op np cp, .slice ap mp dp] 54) (.cells #[.bool sq, .slice oq nq cq, .slice aq mq dq] 54) (.cells #[.bool false, .slice none 0 0, .slice none 0 0] 54)
 have hxq := qfv w (.cells #[.bool sp, .slice op np cp, .slice ap mp dp] 54) (.cells #[.bool sq, .slice oq nq cq, .slice aq mq dq] 54) (.cells #[.bool false, .slice none 0 0, .slice none 0 0] 54)
 have hxR := qfu w (.cells #[.bool sp, .slice op np cp, .slice ap mp dp] 54) (.cells #[.bool sq, .slice oq nq cq, .slice aq mq dq] 54) (.cells #[.bool false, .slice none 0 0, .slice none 0 0] 54)
 have hpp := hp.below hb0
 have hpq := hq.below hb0
 obtain ⟨w0, hw0⟩ : ∃ w0, w0 = (((w.alloc (.cells #[.bool sp, .slice op np cp, .slice ap mp dp] 54)).alloc (.cells #[.bool sq, .slice oq nq cq, .slice aq mq dq] 54)).alloc (.cells #[.bool false, .slice none 0 0, .slice none 0 0] 54)) := ⟨_, rfl⟩
 rw [← hw0] at hb0 hxp hxq hxR hpp hpq
 have HB0 := qHd hb0; have HW0 := qHd hw0
 have BXp := qHd hxp
 have BXq := qHd hxq
 have BXR := qHd hxR
 have Fp := qHd hpp
 have Fq := qHd hpq
 clear hb0 hw0 hxp hxq hxR hpp hp hpq hq
 have l1 := rl_n p; have l2 := rl_d p; have l3 := rl_n q; have l4 := rl_d q
 have L1 : (wd (nn p * nn q)).length ≤ 200000 := by have := qbn (nn p) (nn q); omega
 have L2 : (wd (p.den * q.den)).length ≤ 200000 := by have := qbn p.den q.den; omega
 go_enter Tryz.func99, Tryz.ntmps99
 have hs := qdj _ p w0 Fp.out
 have HS := qHd hs; clear hs
 go_wp2_with fail
 rw [← HW0.out]
 (with_reducible refine HS.out.mono ?_); rintro e w1 ⟨v1, u1, rfl, hb1, hn1, hm1⟩
 clear HS
 have HB1 := qHd (HB0.out.step hb1)
 have Fp := qHd (Fp.out.below hb1)
 have Fq := qHd (Fq.out.below hb1)
 have BXp := qHd (qaa BXp.out hb1)
 have BXq := qHd (qaa BXq.out hb1)
 have BXR := qHd (qaa BXR.out hb1)
 have N := qHd hn1
 have D := qHd hm1
 clear hn1 hm1
 clear hb1
 have hs := qdj _ q w1 Fq.out
 have HS := qHd hs; clear hs
 obtain ⟨eq0, eq1, eq2⟩ := qay BXq.out
 go_wp2_with fail
 (with_reducible refine HS.out.mono ?_); rintro e w2 ⟨v2, u2, rfl, hb2, hn2, hm2⟩
 clear HS
 have HB2 := qHd (HB1.out.step hb2)
 have Fp := qHd (Fp.out.below hb2)
 have Fq := qHd (Fq.out.below hb2)
 have N := qHd (N.out.below hb2)
 have D := qHd (D.out.below hb2)
 have BXp := qHd (qaa BXp.out hb2)
 have BXq := qHd (qaa BXq.out hb2)
 have BXR := qHd (qaa BXR.out hb2)
 have M := qHd hn2
 have E := qHd hm2
 clear hn2 hm2
 clear hb2
 have hs := rmulN N.out M.out (by omega) (by omega)
 have HS := qHd hs; clear hs
 go_wp2_with fail
 (with_reducible refine HS.out.mono ?_); rintro e w3 ⟨v3, rfl, hb3, hn3⟩
 clear HS
 have HB3 := qHd (HB2.out.step hb3)
 have Fp := qHd (Fp.out.below hb3)
 have Fq := qHd (Fq.out.below hb3)
 have N := qHd (N.out.below hb3)
 have D := qHd (D.out.below hb3)
 have M := qHd (M.out.below hb3)
 have E := qHd (E.out.below hb3)
 have BXp := qHd (qaa BXp.out hb3)
 have BXq := qHd (qaa BXq.out hb3)
 have BXR := qHd (qaa BXR.out hb3)
 have NM := qHd hn3; clear hn3
 clear hb3
 have hs := rmulN D.out E.out (by omega) (by omega)
 have HS := qHd hs; clear hs
 go_wp2_with fail
 (with_reducible refine HS.out.mono ?_); rintro e w4 ⟨v4, rfl, hb4, hn4⟩
 clear HS
 have HB4 := qHd (HB3.out.step hb4)
 have Fp := qHd (Fp.out.below hb4)
 have Fq := qHd (Fq.out.below hb4)
 have N := qHd (N.out.below hb4)
 have D := qHd (D.out.below hb4)
 have M := qHd (M.out.below hb4)
 have E := qHd (E.out.below hb4)
 have NM := qHd (NM.out.below hb4)
 have BXp := qHd (qaa BXp.out hb4)
 have BXq := qHd (qaa BXq.out hb4)
 have BXR := qHd (qaa BXR.out hb4)
 have DE := qHd hn4; clear hn4
 clear hb4
 have hs := rfromK (!(ng p == ng q)) NM.out DE.out (by omega) (by omega) (qeg p.den_nz q.den_nz)
 rw [q_mul'] at hs
 have HS := qHd hs; clear hs
 go_wp2_with fail
 (with_reducible refine HS.out.mono ?_); rintro e w5 ⟨v5, rfl, hb5, hn5⟩
 clear HS
 have HB5 := qHd (HB4.out.step hb5)
 have Fp := qHd (Fp.out.below hb5)
 have Fq := qHd (Fq.out.below hb5)
 have N := qHd (N.out.below hb5)
 have D := qHd (D.out.below hb5)
 have M := qHd (M.out.below hb5)
 have E := qHd (E.out.below hb5)
 have NM := qHd (NM.out.below hb5)
 have DE := qHd (DE.out.below hb5)
 have BXp := qHd (qaa BXp.out hb5)
 have BXq := qHd (qaa BXq.out hb5)
 have BXR := qHd (qaa BXR.out hb5)
 have Q := qHd hn5; clear hn5
 clear hb5
 obtain ⟨sQ, oQ, nQ, cQ, aQ, mQ, dQ, rfl⟩ := Q.out.shape
 have hal : Below w5.heap.size w5 (w5.alloc (.cells #[.bool sQ, .slice oQ nQ cQ, .slice aQ mQ dQ] 54)) := (Below.refl _ _).alloc (Nat.le_refl _) _
 have HXA := qHd (qaa BXR.out hal); have HAL := qHd hal; clear hal
 obtain ⟨eR0, eR1, eR2⟩ := qay HXA.out
 obtain ⟨fR0, fR1, fR2⟩ := froz3 HXA.out
 go_wp2_with fail
 refine qde rfl (w.heap.size + 2) _ _ _ rfl (qcf HXA.out) rfl ?_
 exact ⟨_, rfl, qbt (HB5.out.step HAL.out) (by omega) _ _ _, qdx (Q.out.below HAL.out) HXA.out⟩
theorem radd_same (vp : Value) (p : Rat) (vq : Value) (q : Rat) (w : World) (hp : qbs w vp p) (hq : qbs w vq q) (hs : ng p = ng q) :
  Calls Tryz.prog 96 #[vp, vq] w (RetR w (p + q)) := by
 obtain ⟨sp, op, np, cp, ap, mp, dp, rfl⟩ := hp.shape
 have hlp := hp.rl
 obtain ⟨sq, oq, nq, cq, aq, mq, dq, rfl⟩ := hq.shape
 have hlq := hq.rl
 have hb0 := ((((Below.refl w.heap.size w).alloc (by first | (simp; done) | (simp; omega)) (.cells #[.bool sp, .slice op np cp, .slice ap mp dp] 54)).alloc (by first | (simp; done) | (simp; omega)) (.cells #[.bool sq, .slice oq nq cq, .slice aq mq dq] 54)).alloc (by first | (simp; done) | (simp; omega)) (.cells #[.bool false, .slice none 0 0, .slice none 0 0] 54))
 have hxp := qfw w (.cells #[.bool sp, .slice op np cp, .slice ap mp dp] 54) (.cells #[.bool sq, .slice oq nq cq, .slice aq mq dq] 54) (.cells #[.bool false, .slice none 0 0, .slice none 0 0] 54)
 have hxq := qfv w (.cells #[.bool sp, .slice op np cp, .slice ap mp dp] 54) (.cells #[.bool sq, .slice oq nq cq, .slice aq mq dq] 54) (.cells #[.bool false, .slice none 0 0, .slice none 0 0] 54)
 have hxR := qfu w (.cells #[.bool sp, .slice op np cp, .slice ap mp dp] 54) (.cells #[.bool sq, .slice oq nq cq, .slice aq mq dq] 54) (.cells #[.bool false, .slice none 0 0, .slice none 0 0] 54)
 have hpp := hp.below hb0
 have hpq := hq.below hb0
 obtain ⟨w0, hw0⟩ : ∃ w0, w0 = (((w.alloc (.cells #[.bool sp, .slice op np cp, .slice ap mp dp] 54)).alloc (.cells #[.bool sq, .slice oq nq cq, .slice aq mq dq] 54)).alloc (.cells #[.bool false, .slice none 0 0, .slice none 0 0] 54)) := ⟨_, rfl⟩
 rw [← hw0] at hb0 hxp hxq hxR hpp hpq
 have HB0 := qHd hb0; have HW0 := qHd hw0
 have BXp := qHd hxp
 have BXq := qHd hxq
 have BXR := qHd hxR
 have Fp := qHd hpp
 have Fq := qHd hpq
 clear hb0 hw0 hxp hxq hxR hpp hp hpq hq
 have l1 := rl_n p; have l2 := rl_d p; have l3 := rl_n q; have l4 := rl_d q
 have L1 : (wd (nn p * q.den)).length ≤ 200000 := by have := qbn (nn p) q.den; omega
 have L2 : (wd (nn q * p.den)).length ≤ 200000 := by have := qbn (nn q) p.den; omega
 have L3 : (wd (p.den * q.den)).length ≤ 200000 := by have := qbn p.den q.den; omega
 have heq := q_add_same p q hs
 have HEQ := qHd heq; clear heq
 have L4 : (wd (nn p * q.den + nn q * p.den)).length ≤ 200001 := by have := wd_add_len (nn p * q.den) (nn q * p.den); omega
 have f1 : (ng p == ng q) = true := by rw [beq_iff_eq]; exact hs
 obtain ⟨x, hx⟩ : ∃ x, x = ng p := ⟨_, rfl⟩; obtain ⟨y, hy⟩ : ∃ y, y = ng q := ⟨_, rfl⟩
 rw [← hx, ← hy] at f1
 have HX := qHd hx; have HY := qHd hy; clear hx hy hs
 go_enter Tryz.func96, Tryz.ntmps96
 have hs := qdj _ p w0 Fp.out
 have HS := qHd hs; clear hs
 go_wp2_with fail
 rw [← HW0.out]
 (with_reducible refine HS.out.mono ?_); rintro e w1 ⟨v1, u1, rfl, hb1, hn1, hm1⟩
 clear HS
 have HB1 := qHd (HB0.out.step hb1)
 have Fp := qHd (Fp.out.below hb1)
 have Fq := qHd (Fq.out.below hb1)
 have BXp := qHd (qaa BXp.out hb1)
 have BXq := qHd (qaa BXq.out hb1)
 have BXR := qHd (qaa BXR.out hb1)
 have N := qHd hn1
 have D := qHd hm1
 clear hn1 hm1
 clear hb1
 rw [← HX.out]
 have hs := qdj _ q w1 Fq.out
 have HS := qHd hs; clear hs
 obtain ⟨eq0, eq1, eq2⟩ := qay BXq.out
 go_wp2_with fail
 (with_reducible refine HS.out.mono ?_); rintro e w2 ⟨v2, u2, rfl, hb2, hn2, hm2⟩
 clear HS
 have HB2 := qHd (HB1.out.step hb2)
 have Fp := qHd (Fp.out.below hb2)
 have Fq := qHd (Fq.out.below hb2)
 have N := qHd (N.out.below hb2)
 have D := qHd (D.out.below hb2)
 have BXp := qHd (qaa BXp.out hb2)
 have BXq := qHd (qaa BXq.out hb2)
 have BXR := qHd (qaa BXR.out hb2)
 have M := qHd hn2
 have E := qHd hm2
 clear hn2 hm2
 clear hb2
 rw [← HY.out]
 have hs := rmulN N.out E.out (by omega) (by omega)
 have HS := qHd hs; clear hs
 go_wp2_with fail
 (with_reducible refine HS.out.mono ?_); rintro e w3 ⟨v3, rfl, hb3, hn3⟩
 clear HS
 have HB3 := qHd (HB2.out.step hb3)
 have Fp := qHd (Fp.out.below hb3)
 have Fq := qHd (Fq.out.below hb3)
 have N := qHd (N.out.below hb3)
 have D := qHd (D.out.below hb3)
 have M := qHd (M.out.below hb3)
 have E := qHd (E.out.below hb3)
 have BXp := qHd (qaa BXp.out hb3)
 have BXq := qHd (qaa BXq.out hb3)
 have BXR := qHd (qaa BXR.out hb3)
 have X := qHd hn3; clear hn3
 clear hb3
 have hs := rmulN M.out D.out (by omega) (by omega)
 have HS := qHd hs; clear hs
 go_wp2_with fail
 (with_reducible refine HS.out.mono ?_); rintro e w4 ⟨v4, rfl, hb4, hn4⟩
 clear HS
 have HB4 := qHd (HB3.out.step hb4)
 have Fp := qHd (Fp.out.below hb4)
 have Fq := qHd (Fq.out.below hb4)
 have N := qHd (N.out.below hb4)
 have D := qHd (D.out.below hb4)
 have M := qHd (M.out.below hb4)
 have E := qHd (E.out.below hb4)
 have X := qHd (X.out.below hb4)
 have BXp := qHd (qaa BXp.out hb4)
 have BXq := qHd (qaa BXq.out hb4)
 have BXR := qHd (qaa BXR.out hb4)
 have Y := qHd hn4; clear hn4
 clear hb4
 have hs := rmulN D.out E.out (by omega) (by omega)
 have HS := qHd hs; clear hs
 go_wp2_with fail
 (with_reducible refine HS.out.mono ?_); rintro e w5 ⟨v5, rfl, hb5, hn5⟩
 clear HS
 have HB5 := qHd (HB4.out.step hb5)
 have Fp := qHd (Fp.out.below hb5)
 have Fq := qHd (Fq.out.below hb5)
 have N := qHd (N.out.below hb5)
 have D := qHd (D.out.below hb5)
 have M := qHd (M.out.below hb5)
 have E := qHd (E.out.below hb5)
 have X := qHd (X.out.below hb5)
 have Y := qHd (Y.out.below hb5)
 have BXp := qHd (qaa BXp.out hb5)
 have BXq := qHd (qaa BXq.out hb5)
 have BXR := qHd (qaa BXR.out hb5)
 have DE := qHd hn5; clear hn5
 clear hb5
 have hs := raddN X.out Y.out (by omega) (by omega)
 have HS := qHd hs; clear hs
 go_wp2_with fail
 (with_reducible refine HS.out.mono ?_); rintro e w6 ⟨v6, rfl, hb6, hn6⟩
 clear HS
 have HB6 := qHd (HB5.out.step hb6)
 have Fp := qHd (Fp.out.below hb6)
 have Fq := qHd (Fq.out.below hb6)
 have N := qHd (N.out.below hb6)
 have D := qHd (D.out.below hb6)
 have M := qHd (M.out.below hb6)
 have E := qHd (E.out.below hb6)
 have X := qHd (X.out.below hb6)
 have Y := qHd (Y.out.below hb6)
 have DE := qHd (DE.out.below hb6)
 have BXp := qHd (qaa BXp.out hb6)
 have BXq := qHd (qaa BXq.out hb6)
 have BXR := qHd (qaa BXR.out hb6)
 have S := qHd hn6; clear hn6
 clear hb6
 have hs := rfromK x S.out DE.out (by omega) (by omega) (qeg p.den_nz q.den_nz)
 have HS := qHd hs; clear hs
 go_wp2_with fail
 (with_reducible refine HS.out.mono ?_); rintro e w7 ⟨v7, rfl, hb7, hn7⟩
 clear HS
 have HB7 := qHd (HB6.out.step hb7)
 have Fp := qHd (Fp.out.below hb7)
 have Fq := qHd (Fq.out.below hb7)
 have N := qHd (N.out.below hb7)
 have D := qHd (D.out.below hb7)
 have M := qHd (M.out.below hb7)
 have E := qHd (E.out.below hb7)
 have X := qHd (X.out.below hb7)
 have Y := qHd (Y.out.below hb7)
 have DE := qHd (DE.out.below hb7)
 have S := qHd (S.out.below hb7)
 have BXp := qHd (qaa BXp.out hb7)
 have BXq := qHd (qaa BXq.out hb7)
 have BXR := qHd (qaa BXR.out hb7)
 have Q := qHd hn7; clear hn7
 clear hb7
 have hq := Q.out; rw [HX.out, HEQ.out] at hq; have Q := qHd hq; clear hq
 obtain ⟨sQ, oQ, nQ, cQ, aQ, mQ, dQ, rfl⟩ := Q.out.shape
 have hal : Below w7.heap.size w7 (w7.alloc (.cells #[.bool sQ, .slice oQ nQ cQ, .slice aQ mQ dQ] 54)) := (Below.refl _ _).alloc (Nat.le_refl _) _
 have HXA := qHd (qaa BXR.out hal); have HAL := qHd hal; clear hal
 obtain ⟨eR0, eR1, eR2⟩ := qay HXA.out
 obtain ⟨fR0, fR1, fR2⟩ := froz3 HXA.out
 go_wp2_with fail
 refine qde rfl (w.heap.size + 2) _ _ _ rfl (qcf HXA.out) rfl ?_
 exact ⟨_, rfl, qbt (HB7.out.step HAL.out) (by omega) _ _ _, qdx (Q.out.below HAL.out) HXA.out⟩
theorem radd_diff (vp : Value) (p : Rat) (vq : Value) (q : Rat) (w : World) (hp : qbs w vp p) (hq : qbs w vq q) (hs : ng p ≠ ng q) (hle : nn q * p.den ≤ nn p * q.den) :
  Calls Tryz.prog 96 #[vp, vq] w (RetR w (p + q)) := by
 obtain ⟨sp, op, np, cp, ap, mp, dp, rfl⟩ := hp.shape
 have hlp := hp.rl
 obtain ⟨sq, oq, nq, cq, aq, mq, dq, rfl⟩ := hq.shape
 have hlq := hq.rl
 have hb0 := ((((Below.refl w.heap.size w).alloc (by first | (simp; done) | (simp; omega)) (.cells #[.bool sp, .slice op np cp, .slice ap mp dp] 54)).alloc (by first | (simp; done) | (simp; omega)) (.cells #[.bool sq, .slice oq nq cq, .slice aq mq dq] 54)).alloc (by first | (simp; done) | (simp; omega)) (.cells #[.bool false, .slice none 0 0, .slice none 0 0] 54))
 have hxp := qfw w (.cells #[.bool sp, .slice op np cp, .slice ap mp dp] 54) (.cells #[.bool sq, .slice oq nq cq, .slice aq mq dq] 54) (.cells #[.bool false, .slice none 0 0, .slice none 0 0] 54)
 have hxq := qfv w (.cells #[.bool sp, .slice op np cp, .slice ap mp dp] 54) (.cells #[.bool sq, .slice oq nq cq, .slice aq mq dq] 54) (.cells #[.bool false, .slice none 0 0, .slice none 0 0] 54)
 have hxR := qfu w (.cells #[.bool sp, .slice op np cp, .slice ap mp dp] 54) (.cells #[.bool sq, .slice oq nq cq, .slice aq mq dq] 54) (.cells #[.bool false, .slice none 0 0, .slice none 0 0] 54)
 have hpp := hp.below hb0
 have hpq := hq.below hb0
 obtain ⟨w0, hw0⟩ : ∃ w0, w0 = (((w.alloc (.cells #[.bool sp, .slice op np cp, .slice ap mp dp] 54)).alloc (.cells #[.bool sq, .slice oq nq cq, .slice aq mq dq] 54)).alloc (.cells #[.bool false, .slice none 0 0, .slice none 0 0] 54)) := ⟨_, rfl⟩
 rw [← hw0] at hb0 hxp hxq hxR hpp hpq
 have HB0 := qHd hb0; have HW0 := qHd hw0
 have BXp := qHd hxp
 have BXq := qHd hxq
 have BXR := qHd hxR
 have Fp := qHd hpp
 have Fq := qHd hpq
 clear hb0 hw0 hxp hxq hxR hpp hp hpq hq
 have l1 := rl_n p; have l2 := rl_d p; have l3 := rl_n q; have l4 := rl_d q
 have L1 : (wd (nn p * q.den)).length ≤ 200000 := by have := qbn (nn p) q.den; omega
 have L2 : (wd (nn q * p.den)).length ≤ 200000 := by have := qbn (nn q) p.den; omega
 have L3 : (wd (p.den * q.den)).length ≤ 200000 := by have := qbn p.den q.den; omega
 have heq := q_add_diff p q hs hle
 have HEQ := qHd heq; clear heq
 have f1 : (ng p == ng q) = false := by rw [beq_eq_false_iff_ne]; exact hs
 obtain ⟨c, hc⟩ : ∃ c, c = cmpN (nn p * q.den) (nn q * p.den) := ⟨_, rfl⟩
 have L4 : (wd (nn p * q.den - nn q * p.den)).length ≤ 200000 := by exact Nat.le_trans (qbk (Nat.sub_le _ _)) L1
 have f2 : decide (c < 0) = false := by rw [hc, decide_eq_false_iff_not]; unfold cmpN; rw [if_neg (by omega)]; split <;> decide
 have HC := qHd hc; have HLE := qHd hle; clear hc hle
 obtain ⟨x, hx⟩ : ∃ x, x = ng p := ⟨_, rfl⟩; obtain ⟨y, hy⟩ : ∃ y, y = ng q := ⟨_, rfl⟩
 rw [← hx, ← hy] at f1
 have HX := qHd hx; have HY := qHd hy; clear hx hy hs
 go_enter Tryz.func96, Tryz.ntmps96
 have hs := qdj _ p w0 Fp.out
 have HS := qHd hs; clear hs
 go_wp2_with fail
 rw [← HW0.out]
 (with_reducible refine HS.out.mono ?_); rintro e w1 ⟨v1, u1, rfl, hb1, hn1, hm1⟩
 clear HS
 have HB1 := qHd (HB0.out.step hb1)
 have Fp := qHd (Fp.out.below hb1)
 have Fq := qHd (Fq.out.below hb1)
 have BXp := qHd (qaa BXp.out hb1)
 have BXq := qHd (qaa BXq.out hb1)
 have BXR := qHd (qaa BXR.out hb1)
 have N := qHd hn1
 have D := qHd hm1
 clear hn1 hm1
 clear hb1
 rw [← HX.out]
 have hs := qdj _ q w1 Fq.out
 have HS := qHd hs; clear hs
 obtain ⟨eq0, eq1, eq2⟩ := qay BXq.out
 go_wp2_with fail
 (with_reducible refine HS.out.mono ?_); rintro e w2 ⟨v2, u2, rfl, hb2, hn2, hm2⟩
 clear HS
 have HB2 := qHd (HB1.out.step hb2)
 have Fp := qHd (Fp.out.below hb2)
 have Fq := qHd (Fq.out.below hb2)
 have N := qHd (N.out.below hb2)
 have D := qHd (D.out.below hb2)
 have BXp := qHd (qaa BXp.out hb2)
 have BXq := qHd (qaa BXq.out hb2)
 have BXR := qHd (qaa BXR.out hb2)
 have M := qHd hn2
 have E := qHd hm2
 clear hn2 hm2
 clear hb2
 rw [← HY.out]
 have hs := rmulN N.out E.out (by omega) (by omega)
 have HS := qHd hs; clear hs
 go_wp2_with fail
 (with_reducible refine HS.out.mono ?_); rintro e w3 ⟨v3, rfl, hb3, hn3⟩
 clear HS
 have HB3 := qHd (HB2.out.step hb3)
 have Fp := qHd (Fp.out.below hb3)
 have Fq := qHd (Fq.out.below hb3)
 have N := qHd (N.out.below hb3)
 have D := qHd (D.out.below hb3)
 have M := qHd (M.out.below hb3)
 have E := qHd (E.out.below hb3)
 have BXp := qHd (qaa BXp.out hb3)
 have BXq := qHd (qaa BXq.out hb3)
 have BXR := qHd (qaa BXR.out hb3)
 have X := qHd hn3; clear hn3
 clear hb3
 have hs := rmulN M.out D.out (by omega) (by omega)
 have HS := qHd hs; clear hs
 go_wp2_with fail
 (with_reducible refine HS.out.mono ?_); rintro e w4 ⟨v4, rfl, hb4, hn4⟩
 clear HS
 have HB4 := qHd (HB3.out.step hb4)
 have Fp := qHd (Fp.out.below hb4)
 have Fq := qHd (Fq.out.below hb4)
 have N := qHd (N.out.below hb4)
 have D := qHd (D.out.below hb4)
 have M := qHd (M.out.below hb4)
 have E := qHd (E.out.below hb4)
 have X := qHd (X.out.below hb4)
 have BXp := qHd (qaa BXp.out hb4)
 have BXq := qHd (qaa BXq.out hb4)
 have BXR := qHd (qaa BXR.out hb4)
 have Y := qHd hn4; clear hn4
 clear hb4
 have hs := rmulN D.out E.out (by omega) (by omega)
 have HS := qHd hs; clear hs
 go_wp2_with fail
 (with_reducible refine HS.out.mono ?_); rintro e w5 ⟨v5, rfl, hb5, hn5⟩
 clear HS
 have HB5 := qHd (HB4.out.step hb5)
 have Fp := qHd (Fp.out.below hb5)
 have Fq := qHd (Fq.out.below hb5)
 have N := qHd (N.out.below hb5)
 have D := qHd (D.out.below hb5)
 have M := qHd (M.out.below hb5)
 have E := qHd (E.out.below hb5)
 have X := qHd (X.out.below hb5)
 have Y := qHd (Y.out.below hb5)
 have BXp := qHd (qaa BXp.out hb5)
 have BXq := qHd (qaa BXq.out hb5)
 have BXR := qHd (qaa BXR.out hb5)
 have DE := qHd hn5; clear hn5
 clear hb5
 have hs := rcmpN_ X.out Y.out (by omega) (by omega)
 rw [← HC.out] at hs
 have HS := qHd hs; clear hs
 go_wp2_with fail
 (with_reducible refine HS.out.mono ?_); rintro e wx ⟨rfl, rfl⟩
 clear HS
 have hs := rsubN X.out Y.out (by omega) (by omega) HLE.out
 have HS := qHd hs; clear hs
 go_wp2_with fail
 (with_reducible refine HS.out.mono ?_); rintro e w7 ⟨v7, rfl, hb7, hn7⟩
 clear HS
 have HB7 := qHd (HB5.out.step hb7)
 have Fp := qHd (Fp.out.below hb7)
 have Fq := qHd (Fq.out.below hb7)
 have N := qHd (N.out.below hb7)
 have D := qHd (D.out.below hb7)
 have M := qHd (M.out.below hb7)
 have E := qHd (E.out.below hb7)
 have X := qHd (X.out.below hb7)
 have Y := qHd (Y.out.below hb7)
 have DE := qHd (DE.out.below hb7)
 have BXp := qHd (qaa BXp.out hb7)
 have BXq := qHd (qaa BXq.out hb7)
 have BXR := qHd (qaa BXR.out hb7)
 have S := qHd hn7; clear hn7
 clear hb7
 have hs := rfromK x S.out DE.out (by omega) (by omega) (qeg p.den_nz q.den_nz)
 have HS := qHd hs; clear hs
 go_wp2_with fail
 (with_reducible refine HS.out.mono ?_); rintro e w8 ⟨v8, rfl, hb8, hn8⟩
 clear HS
 have HB8 := qHd (HB7.out.step hb8)
 have Fp := qHd (Fp.out.below hb8)
 have Fq := qHd (Fq.out.below hb8)
 have N := qHd (N.out.below hb8)
 have D := qHd (D.out.below hb8)
 have M := qHd (M.out.below hb8)
 have E := qHd (E.out.below hb8)
 have X := qHd (X.out.below hb8)
 have Y := qHd (Y.out.below hb8)
 have DE := qHd (DE.out.below hb8)
 have S := qHd (S.out.below hb8)
 have BXp := qHd (qaa BXp.out hb8)
 have BXq := qHd (qaa BXq.out hb8)
 have BXR := qHd (qaa BXR.out hb8)
 have Q := qHd hn8; clear hn8
 clear hb8
 have hq := Q.out; rw [HX.out, HEQ.out] at hq; have Q := qHd hq; clear hq
 obtain ⟨sQ, oQ, nQ, cQ, aQ, mQ, dQ, rfl⟩ := Q.out.shape
 have hal : Below w8.heap.size w8 (w8.alloc (.cells #[.bool sQ, .slice oQ nQ cQ, .slice aQ mQ dQ] 54)) := (Below.refl _ _).alloc (Nat.le_refl _) _
 have HXA := qHd (qaa BXR.out hal); have HAL := qHd hal; clear hal
 obtain ⟨eR0, eR1, eR2⟩ := qay HXA.out
 obtain ⟨fR0, fR1, fR2⟩ := froz3 HXA.out
 go_wp2_with fail
 refine qde rfl (w.heap.size + 2) _ _ _ rfl (qcf HXA.out) rfl ?_
 exact ⟨_, rfl, qbt (HB8.out.step HAL.out) (by omega) _ _ _, qdx (Q.out.below HAL.out) HXA.out⟩
theorem radd_diff' (vp : Value) (p : Rat) (vq : Value) (q : Rat) (w : World) (hp : qbs w vp p) (hq : qbs w vq q) (hs : ng p ≠ ng q) (hle : nn p * q.den < nn q * p.den) :
  Calls Tryz.prog 96 #[vp, vq] w (RetR w (p + q)) := by
 obtain ⟨sp, op, np, cp, ap, mp, dp, rfl⟩ := hp.shape
 have hlp := hp.rl
 obtain ⟨sq, oq, nq, cq, aq, mq, dq, rfl⟩ := hq.shape
 have hlq := hq.rl
 have hb0 := ((((Below.refl w.heap.size w).alloc (by first | (simp; done) | (simp; omega)) (.cells #[.bool sp, .slice op np cp, .slice ap mp dp] 54)).alloc (by first | (simp; done) | (simp; omega)) (.cells #[.bool sq, .slice oq nq cq, .slice aq mq dq] 54)).alloc (by first | (simp; done) | (simp; omega)) (.cells #[.bool false, .slice none 0 0, .slice none 0 0] 54))
 have hxp := qfw w (.cells #[.bool sp, .slice op np cp, .slice ap mp dp] 54) (.cells #[.bool sq, .slice oq nq cq, .slice aq mq dq] 54) (.cells #[.bool false, .slice none 0 0, .slice none 0 0] 54)
 have hxq := qfv w (.cells #[.bool sp, .slice op np cp, .slice ap mp dp] 54) (.cells #[.bool sq, .slice oq nq cq, .slice aq mq dq] 54) (.cells #[.bool false, .slice none 0 0, .slice none 0 0] 54)
 have hxR := qfu w (.cells #[.bool sp, .slice op np cp, .slice ap mp dp] 54) (.cells #[.bool sq, .slice oq nq cq, .slice aq mq dq] 54) (.cells #[.bool false, .slice none 0 0, .slice none 0 0] 54)
 have hpp := hp.below hb0
 have hpq := hq.below hb0
 obtain ⟨w0, hw0⟩ : ∃ w0, w0 = (((w.alloc (.cells #[.bool sp, .slice op np cp, .slice ap mp dp] 54)).alloc (.cells #[.bool sq, .slice oq nq cq, .slice aq mq dq] 54)).alloc (.cells #[.bool false, .slice none 0 0, .slice none 0 0] 54)) := ⟨_, rfl⟩
 rw [← hw0] at hb0 hxp hxq hxR hpp hpq
 have HB0 := qHd hb0; have HW0 := qHd hw0
 have BXp := qHd hxp
 have BXq := qHd hxq
 have BXR := qHd hxR
 have Fp := qHd hpp
 have Fq := qHd hpq
 clear hb0 hw0 hxp hxq hxR hpp hp hpq hq
 have l1 := rl_n p; have l2 := rl_d p; have l3 := rl_n q; have l4 := rl_d q
 have L1 : (wd (nn p * q.den)).length ≤ 200000 := by have := qbn (nn p) q.den; omega
 have L2 : (wd (nn q * p.den)).length ≤ 200000 := by have := qbn (nn q) p.den; omega
 have L3 : (wd (p.den * q.den)).length ≤ 200000 := by have := qbn p.den q.den; omega
 have heq := q_add_diff' p q hs (Nat.le_of_lt hle)
 have HEQ := qHd heq; clear heq
 have f1 : (ng p == ng q) = false := by rw [beq_eq_false_iff_ne]; exact hs
 obtain ⟨c, hc⟩ : ∃ c, c = cmpN (nn p * q.den) (nn q * p.den) := ⟨_, rfl⟩
 have L4 : (wd (nn q * p.den - nn p * q.den)).length ≤ 200000 := by exact Nat.le_trans (qbk (Nat.sub_le _ _)) L2
 have f2 : decide (c < 0) = true := by rw [hc, decide_eq_true_eq]; unfold cmpN; rw [if_pos hle]; decide
 have HC := qHd hc; have HLE := qHd hle; clear hc hle
 obtain ⟨x, hx⟩ : ∃ x, x = ng p := ⟨_, rfl⟩; obtain ⟨y, hy⟩ : ∃ y, y = ng q := ⟨_, rfl⟩
 rw [← hx, ← hy] at f1
 have HX := qHd hx; have HY := qHd hy; clear hx hy hs
 go_enter Tryz.func96, Tryz.ntmps96
 have hs := qdj _ p w0 Fp.out
 have HS := qHd hs; clear hs
 go_wp2_with fail
 rw [← HW0.out]
 (with_reducible refine HS.out.mono ?_); rintro e w1 ⟨v1, u1, rfl, hb1, hn1, hm1⟩
 clear HS
 have HB1 := qHd (HB0.out.step hb1)
 have Fp := qHd (Fp.out.below hb1)
 have Fq := qHd (Fq.out.below hb1)
 have BXp := qHd (qaa BXp.out hb1)
 have BXq := qHd (qaa BXq.out hb1)
 have BXR := qHd (qaa BXR.out hb1)
 have N := qHd hn1
 have D := qHd hm1
 clear hn1 hm1
 clear hb1
 rw [← HX.out]
 have hs := qdj _ q w1 Fq.out
 have HS := qHd hs; clear hs
 obtain ⟨eq0, eq1, eq2⟩ := qay BXq.out
 go_wp2_with fail
 (with_reducible refine HS.out.mono ?_); rintro e w2 ⟨v2, u2, rfl, hb2, hn2, hm2⟩
 clear HS
 have HB2 := qHd (HB1.out.step hb2)
 have Fp := qHd (Fp.out.below hb2)
 have Fq := qHd (Fq.out.below hb2)
 have N := qHd (N.out.below hb2)
 have D := qHd (D.out.below hb2)
 have BXp := qHd (qaa BXp.out hb2)
 have BXq := qHd (qaa BXq.out hb2)
 have BXR := qHd (qaa BXR.out hb2)
 have M := qHd hn2
 have E := qHd hm2
 clear hn2 hm2
 clear hb2
 rw [← HY.out]
 have hs := rmulN N.out E.out (by omega) (by omega)
 have HS := qHd hs; clear hs
 go_wp2_with fail
 (with_reducible refine HS.out.mono ?_); rintro e w3 ⟨v3, rfl, hb3, hn3⟩
 clear HS
 have HB3 := qHd (HB2.out.step hb3)
 have Fp := qHd (Fp.out.below hb3)
 have Fq := qHd (Fq.out.below hb3)
 have N := qHd (N.out.below hb3)
 have D := qHd (D.out.below hb3)
 have M := qHd (M.out.below hb3)
 have E := qHd (E.out.below hb3)
 have BXp := qHd (qaa BXp.out hb3)
 have BXq := qHd (qaa BXq.out hb3)
 have BXR := qHd (qaa BXR.out hb3)
 have X := qHd hn3; clear hn3
 clear hb3
 have hs := rmulN M.out D.out (by omega) (by omega)
 have HS := qHd hs; clear hs
 go_wp2_with fail
 (with_reducible refine HS.out.mono ?_); rintro e w4 ⟨v4, rfl, hb4, hn4⟩
 clear HS
 have HB4 := qHd (HB3.out.step hb4)
 have Fp := qHd (Fp.out.below hb4)
 have Fq := qHd (Fq.out.below hb4)
 have N := qHd (N.out.below hb4)
 have D := qHd (D.out.below hb4)
 have M := qHd (M.out.below hb4)
 have E := qHd (E.out.below hb4)
 have X := qHd (X.out.below hb4)
 have BXp := qHd (qaa BXp.out hb4)
 have BXq := qHd (qaa BXq.out hb4)
 have BXR := qHd (qaa BXR.out hb4)
 have Y := qHd hn4; clear hn4
 clear hb4
 have hs := rmulN D.out E.out (by omega) (by omega)
 have HS := qHd hs; clear hs
 go_wp2_with fail
 (with_reducible refine HS.out.mono ?_); rintro e w5 ⟨v5, rfl, hb5, hn5⟩
 clear HS
 have HB5 := qHd (HB4.out.step hb5)
 have Fp := qHd (Fp.out.below hb5)
 have Fq := qHd (Fq.out.below hb5)
 have N := qHd (N.out.below hb5)
 have D := qHd (D.out.below hb5)
 have M := qHd (M.out.below hb5)
 have E := qHd (E.out.below hb5)
 have X := qHd (X.out.below hb5)
 have Y := qHd (Y.out.below hb5)
 have BXp := qHd (qaa BXp.out hb5)
 have BXq := qHd (qaa BXq.out hb5)
 have BXR := qHd (qaa BXR.out hb5)
 have DE := qHd hn5; clear hn5
 clear hb5
 have hs := rcmpN_ X.out Y.out (by omega) (by omega)
 rw [← HC.out] at hs
 have HS := qHd hs; clear hs
 go_wp2_with fail
 (with_reducible refine HS.out.mono ?_); rintro e wx ⟨rfl, rfl⟩
 clear HS
 have hs := rsubN Y.out X.out (by omega) (by omega) (Nat.le_of_lt HLE.out)
 have HS := qHd hs; clear hs
 go_wp2_with fail
 (with_reducible refine HS.out.mono ?_); rintro e w7 ⟨v7, rfl, hb7, hn7⟩
 clear HS
 have HB7 := qHd (HB5.out.step hb7)
 have Fp := qHd (Fp.out.below hb7)
 have Fq := qHd (Fq.out.below hb7)
 have N := qHd (N.out.below hb7)
 have D := qHd (D.out.below hb7)
 have M := qHd (M.out.below hb7)
 have E := qHd (E.out.below hb7)
 have X := qHd (X.out.below hb7)
 have Y := qHd (Y.out.below hb7)
 have DE := qHd (DE.out.below hb7)
 have BXp := qHd (qaa BXp.out hb7)
 have BXq := qHd (qaa BXq.out hb7)
 have BXR := qHd (qaa BXR.out hb7)
 have S := qHd hn7; clear hn7
 clear hb7
 have hs := rfromK y S.out DE.out (by omega) (by omega) (qeg p.den_nz q.den_nz)
 have HS := qHd hs; clear hs
 go_wp2_with fail
 (with_reducible refine HS.out.mono ?_); rintro e w8 ⟨v8, rfl, hb8, hn8⟩
 clear HS
 have HB8 := qHd (HB7.out.step hb8)
 have Fp := qHd (Fp.out.below hb8)
 have Fq := qHd (Fq.out.below hb8)
 have N := qHd (N.out.below hb8)
 have D := qHd (D.out.below hb8)
 have M := qHd (M.out.below hb8)
 have E := qHd (E.out.below hb8)
 have X := qHd (X.out.below hb8)
 have Y := qHd (Y.out.below hb8)
 have DE := qHd (DE.out.below hb8)
 have S := qHd (S.out.below hb8)
 have BXp := qHd (qaa BXp.out hb8)
 have BXq := qHd (qaa BXq.out hb8)
 have BXR := qHd (qaa BXR.out hb8)
 have Q := qHd hn8; clear hn8
 clear hb8
 have hq := Q.out; rw [HY.out, HEQ.out] at hq; have Q := qHd hq; clear hq
 obtain ⟨sQ, oQ, nQ, cQ, aQ, mQ, dQ, rfl⟩ := Q.out.shape
 have hal : Below w8.heap.size w8 (w8.alloc (.cells #[.bool sQ, .slice oQ nQ cQ, .slice aQ mQ dQ] 54)) := (Below.refl _ _).alloc (Nat.le_refl _) _
 have HXA := qHd (qaa BXR.out hal); have HAL := qHd hal; clear hal
 obtain ⟨eR0, eR1, eR2⟩ := qay HXA.out
 obtain ⟨fR0, fR1, fR2⟩ := froz3 HXA.out
 go_wp2_with fail
 refine qde rfl (w.heap.size + 2) _ _ _ rfl (qcf HXA.out) rfl ?_
 exact ⟨_, rfl, qbt (HB8.out.step HAL.out) (by omega) _ _ _, qdx (Q.out.below HAL.out) HXA.out⟩
theorem raddq_any (vp : Value) (p : Rat) (vq : Value) (q : Rat) (w : World) (hp : qbs w vp p) (hq : qbs w vq q) :
  Calls Tryz.prog 96 #[vp, vq] w (RetR w (p + q)) := by
 by_cases h : ng p = ng q
 ·exact radd_same vp p vq q w hp hq h
 ·rcases Nat.lt_or_ge (nn p * q.den) (nn q * p.den) with h2 | h2
  ·exact radd_diff' vp p vq q w hp hq h h2
  ·exact radd_diff vp p vq q w hp hq h h2
theorem rsubq_any (vp : Value) (p : Rat) (vq : Value) (q : Rat) (w : World) (hp : qbs w vp p) (hq : qbs w vq q)  :
  Calls Tryz.prog 57 #[vp, vq] w (RetR w (p - q)) := by
 obtain ⟨sp, op, np, cp, ap, mp, dp, rfl⟩ := hp.shape
 have hlp := hp.rl
 obtain ⟨sq, oq, nq, cq, aq, mq, dq, rfl⟩ := hq.shape
 have hlq := hq.rl
 have hb0 := ((((Below.refl w.heap.size w).alloc (by first | (simp; done) | (simp; omega)) (.cells #[.bool sp, .slice op np cp, .slice ap mp dp] 54)).alloc (by first | (simp; done) | (simp; omega)) (.cells #[.bool sq, .slice oq nq cq, .slice aq mq dq] 54)).alloc (by first | (simp; done) | (simp; omega)) (.cells #[.bool false, .slice none 0 0, .slice none 0 0] 54))
 have hxp := qfw w (.cells #[.bool sp, .slice op np cp, .slice ap mp dp] 54) (.cells #[.bool sq, .slice oq nq cq, .slice aq mq dq] 54) (.cells #[.bool false, .slice none 0 0, .slice none 0 0] 54)
 have hxq := qfv w (.cells #[.bool sp, .slice op np cp, .slice ap mp dp] 54) (.cells #[.bool sq, .slice oq nq cq, .slice aq mq dq] 54) (.cells #[.bool false, .slice none 0 0, .slice none 0 0] 54)
 have hxR := qfu w (.cells #[.bool sp, .slice op np cp, .slice ap mp dp] 54) (.cells #[.bool sq, .slice oq nq cq, .slice aq mq dq] 54) (.cells #[.bool false, .slice none 0 0, .slice none 0 0] 54)
 have hpp := hp.below hb0
 have hpq := hq.below hb0
 obtain ⟨w0, hw0⟩ : ∃ w0, w0 = (((w.alloc (.cells #[.bool sp, .slice op np cp, .slice ap mp dp] 54)).alloc (.cells #[.bool sq, .slice oq nq cq, .slice aq mq dq] 54)).alloc (.cells #[.bool false, .slice none 0 0, .slice none 0 0] 54)) := ⟨_, rfl⟩
 rw [← hw0] at hb0 hxp hxq hxR hpp hpq
 have HB0 := qHd hb0; have HW0 := qHd hw0
 have BXp := qHd hxp
 have BXq := qHd hxq
 have BXR := qHd hxR
 have Fp := qHd hpp
 have Fq := qHd hpq
 clear hb0 hw0 hxp hxq hxR hpp hp hpq hq
 have hr : rl (-q) ≤ 100000 := by rw [rl_neg]; exact hlq
 have HD := qHd ((Below.refl w0.heap.size w0).drew)
 have hng := rneg_any _ q _ (Fq.out.below HD.out)
 have HNG := qHd hng; clear hng
 have had := fun vs w1 (h1 : Below w0.heap.size w0 w1) (hs : IsR w1 vs (-q)) => raddq_any _ p vs (-q) w1 (Fp.out.below h1) (hs.is hr)
 rw [← Rat.sub_eq_add_neg] at had
 have HAD := qHd had; clear had
 have ZP := qHd (fun w1 (h1 : Below w0.heap.size w0 w1) => qay (qaa BXp.out h1)); have ZQ := qHd (fun w1 (h1 : Below w0.heap.size w0 w1) => qay (qaa BXq.out h1)); have ZR := qHd (fun w1 (h1 : Below w0.heap.size w0 w1) => qay (qaa BXR.out h1)); have ZF := qHd (fun w1 (h1 : Below w0.heap.size w0 w1) => froz3 (qaa BXR.out h1))
 go_enter Tryz.func57, Tryz.ntmps57
 go_wp2_with fail
 rw [← HW0.out]
 obtain ⟨zp0, zp1, zp2⟩ := ZP.out _ HD.out; obtain ⟨zq0, zq1, zq2⟩ := ZQ.out _ HD.out
 go_region_held3 (fun wx => wx.cell? ⟨w.heap.size, 0, none⟩ = some (.bool sp) ∧ wx.cell? ⟨w.heap.size, 1, none⟩ = some (.slice op np cp) ∧ wx.cell? ⟨w.heap.size, 2, none⟩ = some (.slice ap mp dp) ∧ wx.cell? ⟨w.heap.size + 1, 0, none⟩ = some (.bool sq) ∧ wx.cell? ⟨w.heap.size + 1, 1, none⟩ = some (.slice oq nq cq) ∧ wx.cell? ⟨w.heap.size + 1, 2, none⟩ = some (.slice aq mq dq)) (first | exact ⟨zp0, zp1, zp2, zq0, zq1, zq2⟩ | exact put6 (by omega) (by omega) ⟨zp0, zp1, zp2, zq0, zq1, zq2⟩) (first
  | (go_at_call 97; (with_reducible refine HNG.out.mono ?_); rintro e w1 ⟨v1, rfl, hb1, hn1⟩; (have HB1 := qHd (HD.out.step hb1)); (have HN1 := qHd hn1); clear hb1 hn1; (obtain ⟨zp0, zp1, zp2⟩ := ZP.out _ HB1.out); (obtain ⟨zq0, zq1, zq2⟩ := ZQ.out _ HB1.out))
  | (go_at_call 96; (with_reducible refine (HAD.out _ _ HB1.out HN1.out).mono ?_); rintro e w2 ⟨v2, rfl, hb2, hn2⟩; (have HB2 := qHd (HB1.out.step hb2)); (have HN2 := qHd hn2); clear hb2 hn2; (obtain ⟨t1, t2, t3, t4, t5, t6, t7, rfl⟩ := HN2.out.shape); (obtain ⟨zp0, zp1, zp2⟩ := ZP.out _ HB2.out); (obtain ⟨zq0, zq1, zq2⟩ := ZQ.out _ HB2.out); (obtain ⟨zr0, zr1, zr2⟩ := ZR.out _ HB2.out); (obtain ⟨zf0, zf1, zf2⟩ := ZF.out _ HB2.out)))
 all_goals
  go_wp2_with fail
  have BXR2 := qaa BXR.out HB2.out
  refine qde rfl (w.heap.size + 2) _ _ _ rfl (qcf BXR2) rfl ?_
  exact ⟨_, rfl, qbt (HB0.out.step HB2.out) (by omega) _ _ _, qdx HN2.out BXR2⟩
theorem rsign_any (vp : Value) (p : Rat) (w : World) (hp : qbs w vp p)  :
  Calls Tryz.prog 98 #[vp] w (qea w (.int .i64 (sg p))) := by
 obtain ⟨sp, op, np, cp, ap, mp, dp, rfl⟩ := hp.shape
 have hlp := hp.rl
 rw [sg_eq]
 have hb0 := ((Below.refl w.heap.size w).alloc (by first | (simp; done) | (simp; omega)) (.cells #[.bool sp, .slice op np cp, .slice ap mp dp] 54))
 have hxp := qfl w (.cells #[.bool sp, .slice op np cp, .slice ap mp dp] 54)
 have hpp := hp.below hb0
 obtain ⟨w0, hw0⟩ : ∃ w0, w0 = (w.alloc (.cells #[.bool sp, .slice op np cp, .slice ap mp dp] 54)) := ⟨_, rfl⟩
 rw [← hw0] at hb0 hxp hpp
 have HB0 := qHd hb0; have HW0 := qHd hw0
 have BXp := qHd hxp
 have Fp := qHd hpp
 clear hb0 hw0 hxp hpp hp
 by_cases h0 : nn p = 0
 ·rw [if_pos h0]
  have H0 := qHd h0; clear h0
  go_enter Tryz.func98, Tryz.ntmps98
  have hs := qdj _ p w0 Fp.out
  have HS := qHd hs; clear hs
  go_wp2_with fail
  rw [← HW0.out]
  (with_reducible refine HS.out.mono ?_); rintro e w1 ⟨v1, u1, rfl, hb1, hn1, hm1⟩
  clear HS
  rw [H0.out, qca] at hn1
  obtain ⟨no, nc, rfl, _, _, _⟩ := hn1.shape
  have HB1 := qHd (HB0.out.step hb1)
  have Fp := qHd (Fp.out.below hb1)
  have BXp := qHd (qaa BXp.out hb1)
  have N := qHd hn1
  have D := qHd hm1
  clear hn1 hm1
  clear hb1
  go_wp2_with fail
  go_ret
  exact ⟨rfl, HB1.out⟩
 ·rw [if_neg h0]
  have hz : (((wd (nn p)).length : Int) == 0) = false := by rw [beq_eq_false_iff_ne]; intro h; exact wd_ne h0 (List.eq_nil_of_length_eq_zero (by omega))
  obtain ⟨L, hL⟩ : ∃ L, L = (wd (nn p)).length := ⟨_, rfl⟩
  rw [← hL] at hz
  have HL := qHd hL; clear hL h0
  obtain ⟨x, hx⟩ : ∃ x, x = ng p := ⟨_, rfl⟩
  rw [← hx]
  have HX := qHd hx; clear hx
  cases x
  ·go_enter Tryz.func98, Tryz.ntmps98
   have hs := qdj _ p w0 Fp.out
   have HS := qHd hs; clear hs
   go_wp2_with fail
   rw [← HW0.out]
   (with_reducible refine HS.out.mono ?_); rintro e w1 ⟨v1, u1, rfl, hb1, hn1, hm1⟩
   clear HS
   rw [← HX.out]
   obtain ⟨no, nc, rfl, _, _, _⟩ := hn1.shape
   rw [← HL.out]
   have HB1 := qHd (HB0.out.step hb1)
   have Fp := qHd (Fp.out.below hb1)
   have BXp := qHd (qaa BXp.out hb1)
   have N := qHd hn1
   have D := qHd hm1
   clear hn1 hm1
   clear hb1
   go_wp2_with fail
   go_ret
   exact ⟨rfl, HB1.out⟩
  ·go_enter Tryz.func98, Tryz.ntmps98
   have hs := qdj _ p w0 Fp.out
   have HS := qHd hs; clear hs
   go_wp2_with fail
   rw [← HW0.out]
   (with_reducible refine HS.out.mono ?_); rintro e w1 ⟨v1, u1, rfl, hb1, hn1, hm1⟩
   clear HS
   rw [← HX.out]
   obtain ⟨no, nc, rfl, _, _, _⟩ := hn1.shape
   rw [← HL.out]
   have HB1 := qHd (HB0.out.step hb1)
   have Fp := qHd (Fp.out.below hb1)
   have BXp := qHd (qaa BXp.out hb1)
   have N := qHd hn1
   have D := qHd hm1
   clear hn1 hm1
   clear hb1
   go_wp2_with fail
   go_ret
   exact ⟨rfl, HB1.out⟩
theorem rcmpq_any (vp : Value) (p : Rat) (vq : Value) (q : Rat) (w : World) (hp : qbs w vp p) (hq : qbs w vq q) (hlp2 : rl p ≤ 40000) (hlq2 : rl q ≤ 40000)  :
  Calls Tryz.prog 59 #[vp, vq] w (qea w (.int .i64 (cq p q))) := by
 obtain ⟨sp, op, np, cp, ap, mp, dp, rfl⟩ := hp.shape
 have hlp := hp.rl
 obtain ⟨sq, oq, nq, cq, aq, mq, dq, rfl⟩ := hq.shape
 have hlq := hq.rl
 have hb0 := (((Below.refl w.heap.size w).alloc (by first | (simp; done) | (simp; omega)) (.cells #[.bool sp, .slice op np cp, .slice ap mp dp] 54)).alloc (by first | (simp; done) | (simp; omega)) (.cells #[.bool sq, .slice oq nq cq, .slice aq mq dq] 54))
 have hxp := nest2_0 w (.cells #[.bool sp, .slice op np cp, .slice ap mp dp] 54) (.cells #[.bool sq, .slice oq nq cq, .slice aq mq dq] 54)
 have hxq := nest2_1 w (.cells #[.bool sp, .slice op np cp, .slice ap mp dp] 54) (.cells #[.bool sq, .slice oq nq cq, .slice aq mq dq] 54)
 have hpp := hp.below hb0
 have hpq := hq.below hb0
 obtain ⟨w0, hw0⟩ : ∃ w0, w0 = ((w.alloc (.cells #[.bool sp, .slice op np cp, .slice ap mp dp] 54)).alloc (.cells #[.bool sq, .slice oq nq cq, .slice aq mq dq] 54)) := ⟨_, rfl⟩
 rw [← hw0] at hb0 hxp hxq hpp hpq
 have HB0 := qHd hb0; have HW0 := qHd hw0
 have BXp := qHd hxp
 have BXq := qHd hxq
 have Fp := qHd hpp
 have Fq := qHd hpq
 clear hb0 hw0 hxp hxq hpp hp hpq hq
 have hr := rl_sub p q
 go_enter Tryz.func59, Tryz.ntmps59
 have hs := rsubq_any _ p _ q w0 Fp.out Fq.out
 have HS := qHd hs; clear hs
 go_wp2_with fail
 rw [← HW0.out]
 (with_reducible refine HS.out.mono ?_); rintro e w1 ⟨v1, rfl, hb1, hn1⟩
 clear HS
 have HB1 := qHd (HB0.out.step hb1)
 have Fp := qHd (Fp.out.below hb1)
 have Fq := qHd (Fq.out.below hb1)
 have BXp := qHd (qaa BXp.out hb1)
 have BXq := qHd (qaa BXq.out hb1)
 have S := qHd hn1; clear hn1
 clear hb1
 have SI := qHd (S.out.is (by omega))
 obtain ⟨sS, oS, nS, cS, aS, mS, dS, rfl⟩ := S.out.shape
 have hs := rsign_any _ (p - q) w1 SI.out
 rw [sg_sub] at hs
 have HS := qHd hs; clear hs
 go_wp2_with fail
 (with_reducible refine HS.out.mono ?_); rintro e w2 ⟨rfl, hb2⟩
 clear HS
 have HB2 := qHd (HB1.out.step hb2)
 have Fp := qHd (Fp.out.below hb2)
 have Fq := qHd (Fq.out.below hb2)
 have S := qHd (S.out.below hb2)
 have SI := qHd (SI.out.below hb2)
 have BXp := qHd (qaa BXp.out hb2)
 have BXq := qHd (qaa BXq.out hb2)
 clear hb2
 go_wp2_with fail
 go_ret
 exact ⟨rfl, HB2.out⟩
theorem rofq_any (n : Int) (w : World)  (h0 : -9223372036854775808 ≤ n) (h1 : n < 9223372036854775808) :
  Calls Tryz.prog 58 #[.int .i64 n] w (RetR w (n : Rat)) := by
 have hb0 := ((Below.refl w.heap.size w).alloc (by first | (simp; done) | (simp; omega)) (.cells #[.bool false, .slice none 0 0, .slice none 0 0] 54))
 have hxR := qfl w (.cells #[.bool false, .slice none 0 0, .slice none 0 0] 54)
 obtain ⟨w0, hw0⟩ : ∃ w0, w0 = (w.alloc (.cells #[.bool false, .slice none 0 0, .slice none 0 0] 54)) := ⟨_, rfl⟩
 rw [← hw0] at hb0 hxR
 have HB0 := qHd hb0; have HW0 := qHd hw0
 have BXR := qHd hxR
 clear hb0 hw0 hxR
 have BD := qHd (And.intro h0 h1)
 have hq1 : (n : Rat) / ((1 : Int) : Rat) = (n : Rat) := by rw [show ((1 : Int) : Rat) = 1 from rfl]; grind
 have HQ1 := qHd hq1; clear hq1
 go_enter Tryz.func58, Tryz.ntmps58
 have hs := rmake_any n 1 w0 BD.out.1 BD.out.2 (by decide) (by decide)
 rw [HQ1.out, show zc (1 : Int).natAbs = 0 from rfl] at hs
 have HS := qHd hs; clear hs
 go_wp2_with fail
 rw [← HW0.out]
 (with_reducible refine HS.out.mono ?_); rintro e w1 ⟨v1, rfl, hb1, hn1⟩
 clear HS
 have HB1 := qHd (HB0.out.step hb1)
 have BXR := qHd (qaa BXR.out hb1)
 have Q := qHd hn1; clear hn1
 clear hb1
 obtain ⟨sQ, oQ, nQ, cQ, aQ, mQ, dQ, rfl⟩ := Q.out.shape
 have hal : Below w1.heap.size w1 (w1.alloc (.cells #[.bool sQ, .slice oQ nQ cQ, .slice aQ mQ dQ] 54)) := (Below.refl _ _).alloc (Nat.le_refl _) _
 have HXA := qHd (qaa BXR.out hal); have HAL := qHd hal; clear hal
 obtain ⟨eR0, eR1, eR2⟩ := qay HXA.out
 obtain ⟨fR0, fR1, fR2⟩ := froz3 HXA.out
 go_wp2_with fail
 refine qde rfl w.heap.size _ _ _ rfl (qcf HXA.out) rfl ?_
 exact ⟨_, rfl, qbt (HB1.out.step HAL.out) (by omega) _ _ _, qdx (Q.out.below HAL.out) HXA.out⟩
theorem num_any (c : Nat) (w : World) (hc : c < 1000) : Calls Tryz.prog 13 #[errV c] w (RetS w (.int .i64 c)) := by
 by_cases h0 : c = 0
 ·subst h0
  rw [qbi]
  go_enter Tryz.func13, Tryz.ntmps13
  go_wp2
  go_ret
  exact ⟨rfl, rfl⟩
 ·have ha := assert_yes c
  rw [qbz h0]
  go_enter Tryz.func13, Tryz.ntmps13
  go_wp2
  go_ret
  exact ⟨rfl, rfl⟩
theorem words_any (va vb : Value) (a b : List Nat) (w : World) (ha : Num w va a) (hb : Num w vb b) (hla : a.length ≤ 1000000) :
  Calls Tryz.prog 62 #[va, vb] w (qea w (.bool (decide (a = b)))) := by
 obtain ⟨ao, ca, rfl, hca, hca2, _⟩ := ha.shape
 obtain ⟨bo, cb, rfl, hcb, hcb2, _⟩ := hb.shape
 by_cases hlen : a.length = b.length
 ·obtain ⟨n, hn⟩ : ∃ n, n = a.length := ⟨_, rfl⟩
  have hnb : n = b.length := by omega
  rw [← hn] at hca hla ⊢
  rw [← hnb] at hcb ⊢
  rw [← hn] at ha
  rw [← hnb] at hb
  have HA := qHd ha; have HB := qHd hb; have HN := qHd hn; have HNB := qHd hnb
  clear ha hb hn hnb hlen
  obtain ⟨r, hr⟩ : ∃ r, r = decide (a = b) := ⟨_, rfl⟩
  rw [← hr]
  have HR := qHd hr; clear hr
  go_enter Tryz.func62, Tryz.ntmps62
  go_wp2_with fail
  go_loopw [13] (fun iv wr => ∃ k : Nat, k ≤ n ∧ iv = .int .i64 k ∧ Hid (∀ j, j < k → gd a j = gd b j) ∧ Below w.heap.size w wr) (fun iv _ => n - (intOf iv).toNat)
  case atStart => exact ⟨0, Nat.zero_le _, rfl, qHd (fun j hj => by omega), Below.refl _ _⟩
  case round =>
   obtain ⟨k, hk, rfl, hsame, hBr⟩ := hrel
   by_cases hkn : k < n
   ·obtain ⟨b1, o1, rfl, _, hc1⟩ := (HA.out.below hBr).at (by omega)
    obtain ⟨b2, o2, rfl, _, hc2⟩ := (HB.out.below hBr).at (by omega)
    have hx1 := hc1 k (by omega)
    have hx2 := hc2 k (by omega)
    obtain ⟨x, hx⟩ : ∃ x, x = gd a k := ⟨_, rfl⟩
    obtain ⟨y, hy⟩ : ∃ y, y = gd b k := ⟨_, rfl⟩
    rw [← hx] at hx1
    rw [← hy] at hx2
    have HX := qHd hx; have HY := qHd hy
    clear hc1 hc2 hx hy
    by_cases hxy : x = y
    ·subst hxy
     have hs2 : ∀ j, j < k + 1 → gd a j = gd b j := fun j hj => by
      by_cases hjk : j = k
      ·rw [hjk, ← HX.out, ← HY.out]
      ·exact hsame.out j (by omega)
     have HS2 := qHd hs2; clear hs2
     go_wp2_with fail
     go_quiet (fail)
     go_wp2_with fail
     go_roundw
     case rel => exact ⟨k + 1, by omega, by go_num, HS2, qbg hBr _⟩
     case measure => simp [intOf]; omega
    ·have hne : (bne (x : Int) (y : Int)) = true := by simp; omega
     have hv : r = false := by
      rw [HR.out]
      apply decide_eq_false
      intro h
      apply hxy
      rw [HX.out, HY.out, h]
     have HV := qHd hv; clear hv hxy
     go_wp2_with fail
     go_quiet (fail)
     go_wp2_with fail
     go_ret
     exact ⟨by rw [HV.out]; rfl, qbg hBr _⟩
   ·obtain rfl : k = n := by omega
    have hv : r = true := by
     rw [HR.out]
     apply decide_eq_true
     exact gd_ext (by rw [← HN.out, ← HNB.out]) (fun j hj => hsame.out j (by rw [HN.out]; exact hj))
    have HV := qHd hv; clear hv
    go_wp2_with fail
    go_ret
    exact ⟨by rw [HV.out]; rfl, hBr⟩
 ·have hne : (bne (a.length : Int) (b.length : Int)) = true := by simp; omega
  have hv : decide (a = b) = false := decide_eq_false fun h => hlen (by rw [h])
  rw [hv]
  clear hv hlen ha hb
  go_enter Tryz.func62, Tryz.ntmps62
  go_wp2_with fail
  go_ret
  exact ⟨rfl, Below.refl _ _⟩
theorem IsR.fields {w : World} {s : Bool} {x y : Value} {q : Rat} (h : IsR w (.agg #[.bool s, x, y]) q) : s = ng q ∧ Num w x (wd (nn q)) ∧ Num w y (wd (dn q)) := by
 obtain ⟨va, vb, e, h1, h2⟩ := h
 cases e
 exact ⟨rfl, h1, h2⟩
theorem wd_inj {m n : Nat} (h : wd m = wd n) : m = n := by
 have := congrArg val h
 rwa [qaz, qaz] at this
theorem same_rat0 (vp : Value) (p : Rat) (vq : Value) (q : Rat) (w : World) (hp : qbs w vp p) (hq : qbs w vq q) (gp : IsR w vp p) (gq : IsR w vq q) (hs : ng p ≠ ng q) :
  Calls Tryz.prog 27 #[vp, vq] w (qea w (.bool (decide (p = q)))) := by
 obtain ⟨sp, op, np, cp, ap, mp, dp, rfl⟩ := hp.shape
 have hlp := hp.rl
 obtain ⟨sq, oq, nq, cq, aq, mq, dq, rfl⟩ := hq.shape
 have hlq := hq.rl
 obtain ⟨e1, g1, g2⟩ := gp.fields
 obtain ⟨e2, g3, g4⟩ := gq.fields
 have hb0 := (((Below.refl w.heap.size w).alloc (by first | (simp; done) | (simp; omega)) (.cells #[.bool sp, .slice op np cp, .slice ap mp dp] 54)).alloc (by first | (simp; done) | (simp; omega)) (.cells #[.bool sq, .slice oq nq cq, .slice aq mq dq] 54))
 have hxp := nest2_0 w (.cells #[.bool sp, .slice op np cp, .slice ap mp dp] 54) (.cells #[.bool sq, .slice oq nq cq, .slice aq mq dq] 54)
 have hxq := nest2_1 w (.cells #[.bool sp, .slice op np cp, .slice ap mp dp] 54) (.cells #[.bool sq, .slice oq nq cq, .slice aq mq dq] 54)
 have hpp := hp.below hb0
 have hpq := hq.below hb0
 obtain ⟨w0, hw0⟩ : ∃ w0, w0 = ((w.alloc (.cells #[.bool sp, .slice op np cp, .slice ap mp dp] 54)).alloc (.cells #[.bool sq, .slice oq nq cq, .slice aq mq dq] 54)) := ⟨_, rfl⟩
 rw [← hw0] at hb0 hxp hxq hpp hpq
 have HB0 := qHd hb0; have HW0 := qHd hw0
 have BXp := qHd hxp
 have BXq := qHd hxq
 have Fp := qHd hpp
 have Fq := qHd hpq
 clear hb0 hw0 hxp hxq hpp hp hpq hq
 have N := qHd (g1.below HB0.out)
 have D := qHd (g2.below HB0.out)
 have M := qHd (g3.below HB0.out)
 have E := qHd (g4.below HB0.out)
 have l1 := rl_n p; have l2 := dn_len p
 have hd : decide (p = q) = false := decide_eq_false fun e => hs (by rw [e])
 rw [hd]
 have f1 : (sp == sq) = false := by rw [e1, e2, beq_eq_false_iff_ne]; exact hs
 clear hs e1 e2 hd gp gq g1 g2 g3 g4
 go_enter Tryz.func27, Tryz.ntmps27
 go_wp2_with fail
 rw [← HW0.out]
 go_ret
 exact ⟨by first | rfl | (simp; done), HB0.out⟩
theorem same_rat1 (vp : Value) (p : Rat) (vq : Value) (q : Rat) (w : World) (hp : qbs w vp p) (hq : qbs w vq q) (gp : IsR w vp p) (gq : IsR w vq q) (hs : ng p = ng q) (hn : nn p ≠ nn q) :
  Calls Tryz.prog 27 #[vp, vq] w (qea w (.bool (decide (p = q)))) := by
 obtain ⟨sp, op, np, cp, ap, mp, dp, rfl⟩ := hp.shape
 have hlp := hp.rl
 obtain ⟨sq, oq, nq, cq, aq, mq, dq, rfl⟩ := hq.shape
 have hlq := hq.rl
 obtain ⟨e1, g1, g2⟩ := gp.fields
 obtain ⟨e2, g3, g4⟩ := gq.fields
 have hb0 := (((Below.refl w.heap.size w).alloc (by first | (simp; done) | (simp; omega)) (.cells #[.bool sp, .slice op np cp, .slice ap mp dp] 54)).alloc (by first | (simp; done) | (simp; omega)) (.cells #[.bool sq, .slice oq nq cq, .slice aq mq dq] 54))
 have hxp := nest2_0 w (.cells #[.bool sp, .slice op np cp, .slice ap mp dp] 54) (.cells #[.bool sq, .slice oq nq cq, .slice aq mq dq] 54)
 have hxq := nest2_1 w (.cells #[.bool sp, .slice op np cp, .slice ap mp dp] 54) (.cells #[.bool sq, .slice oq nq cq, .slice aq mq dq] 54)
 have hpp := hp.below hb0
 have hpq := hq.below hb0
 obtain ⟨w0, hw0⟩ : ∃ w0, w0 = ((w.alloc (.cells #[.bool sp, .slice op np cp, .slice ap mp dp] 54)).alloc (.cells #[.bool sq, .slice oq nq cq, .slice aq mq dq] 54)) := ⟨_, rfl⟩
 rw [← hw0] at hb0 hxp hxq hpp hpq
 have HB0 := qHd hb0; have HW0 := qHd hw0
 have BXp := qHd hxp
 have BXq := qHd hxq
 have Fp := qHd hpp
 have Fq := qHd hpq
 clear hb0 hw0 hxp hxq hpp hp hpq hq
 have N := qHd (g1.below HB0.out)
 have D := qHd (g2.below HB0.out)
 have M := qHd (g3.below HB0.out)
 have E := qHd (g4.below HB0.out)
 have l1 := rl_n p; have l2 := dn_len p
 have f1 : (sp == sq) = true := by rw [e1, e2, beq_iff_eq]; exact hs
 have hd : decide (p = q) = false := decide_eq_false fun e => hn (by rw [e])
 rw [hd]
 have hw : decide (wd (nn p) = wd (nn q)) = false := decide_eq_false fun e => hn (wd_inj e)
 have HW := qHd hw; clear hw
 clear hs e1 e2 hd gp gq g1 g2 g3 g4 hn
 go_enter Tryz.func27, Tryz.ntmps27
 have hs := words_any _ _ _ _ w0 N.out M.out (by omega)
 rw [HW.out] at hs
 have HS := qHd hs; clear hs
 go_wp2_with fail
 rw [← HW0.out]
 (with_reducible refine HS.out.mono ?_); rintro e w1 ⟨rfl, hb1⟩
 clear HS
 have HB1 := qHd (HB0.out.step hb1)
 have Fp := qHd (Fp.out.below hb1)
 have Fq := qHd (Fq.out.below hb1)
 have N := qHd (N.out.below hb1)
 have D := qHd (D.out.below hb1)
 have M := qHd (M.out.below hb1)
 have E := qHd (E.out.below hb1)
 have BXp := qHd (qaa BXp.out hb1)
 have BXq := qHd (qaa BXq.out hb1)
 clear hb1
 go_wp2_with fail
 go_ret
 exact ⟨by first | rfl | (simp; done), HB1.out⟩
theorem same_rat2 (vp : Value) (p : Rat) (vq : Value) (q : Rat) (w : World) (hp : qbs w vp p) (hq : qbs w vq q) (gp : IsR w vp p) (gq : IsR w vq q) (hs : ng p = ng q) (hn : nn p = nn q) :
  Calls Tryz.prog 27 #[vp, vq] w (qea w (.bool (decide (p = q)))) := by
 obtain ⟨sp, op, np, cp, ap, mp, dp, rfl⟩ := hp.shape
 have hlp := hp.rl
 obtain ⟨sq, oq, nq, cq, aq, mq, dq, rfl⟩ := hq.shape
 have hlq := hq.rl
 obtain ⟨e1, g1, g2⟩ := gp.fields
 obtain ⟨e2, g3, g4⟩ := gq.fields
 have hb0 := (((Below.refl w.heap.size w).alloc (by first | (simp; done) | (simp; omega)) (.cells #[.bool sp, .slice op np cp, .slice ap mp dp] 54)).alloc (by first | (simp; done) | (simp; omega)) (.cells #[.bool sq, .slice oq nq cq, .slice aq mq dq] 54))
 have hxp := nest2_0 w (.cells #[.bool sp, .slice op np cp, .slice ap mp dp] 54) (.cells #[.bool sq, .slice oq nq cq, .slice aq mq dq] 54)
 have hxq := nest2_1 w (.cells #[.bool sp, .slice op np cp, .slice ap mp dp] 54) (.cells #[.bool sq, .slice oq nq cq, .slice aq mq dq] 54)
 have hpp := hp.below hb0
 have hpq := hq.below hb0
 obtain ⟨w0, hw0⟩ : ∃ w0, w0 = ((w.alloc (.cells #[.bool sp, .slice op np cp, .slice ap mp dp] 54)).alloc (.cells #[.bool sq, .slice oq nq cq, .slice aq mq dq] 54)) := ⟨_, rfl⟩
 rw [← hw0] at hb0 hxp hxq hpp hpq
 have HB0 := qHd hb0; have HW0 := qHd hw0
 have BXp := qHd hxp
 have BXq := qHd hxq
 have Fp := qHd hpp
 have Fq := qHd hpq
 clear hb0 hw0 hxp hxq hpp hp hpq hq
 have N := qHd (g1.below HB0.out)
 have D := qHd (g2.below HB0.out)
 have M := qHd (g3.below HB0.out)
 have E := qHd (g4.below HB0.out)
 have l1 := rl_n p; have l2 := dn_len p
 have f1 : (sp == sq) = true := by rw [e1, e2, beq_iff_eq]; exact hs
 have hw : decide (wd (nn p) = wd (nn q)) = true := decide_eq_true (by rw [hn])
 have HW := qHd hw; clear hw
 have hd : decide (p = q) = decide (wd (dn p) = wd (dn q)) := by rw [decide_eq_decide]; exact ⟨fun e => by rw [e], fun e => ext_fields hs hn (wd_inj e)⟩
 rw [hd]
 obtain ⟨r, hr⟩ : ∃ r, r = decide (wd (dn p) = wd (dn q)) := ⟨_, rfl⟩
 rw [← hr]
 have HR := qHd hr; clear hr
 clear hs e1 e2 hd gp gq g1 g2 g3 g4 hn
 go_enter Tryz.func27, Tryz.ntmps27
 have hs := words_any _ _ _ _ w0 N.out M.out (by omega)
 rw [HW.out] at hs
 have HS := qHd hs; clear hs
 go_wp2_with fail
 rw [← HW0.out]
 (with_reducible refine HS.out.mono ?_); rintro e w1 ⟨rfl, hb1⟩
 clear HS
 have HB1 := qHd (HB0.out.step hb1)
 have Fp := qHd (Fp.out.below hb1)
 have Fq := qHd (Fq.out.below hb1)
 have N := qHd (N.out.below hb1)
 have D := qHd (D.out.below hb1)
 have M := qHd (M.out.below hb1)
 have E := qHd (E.out.below hb1)
 have BXp := qHd (qaa BXp.out hb1)
 have BXq := qHd (qaa BXq.out hb1)
 clear hb1
 have hs := words_any _ _ _ _ w1 D.out E.out (by omega)
 rw [← HR.out] at hs
 have HS := qHd hs; clear hs
 obtain ⟨ep0, ep1, ep2⟩ := qay BXp.out
 obtain ⟨eq0, eq1, eq2⟩ := qay BXq.out
 go_wp2_with fail
 (with_reducible refine HS.out.mono ?_); rintro e w2 ⟨rfl, hb2⟩
 clear HS
 have HB2 := qHd (HB1.out.step hb2)
 have Fp := qHd (Fp.out.below hb2)
 have Fq := qHd (Fq.out.below hb2)
 have N := qHd (N.out.below hb2)
 have D := qHd (D.out.below hb2)
 have M := qHd (M.out.below hb2)
 have E := qHd (E.out.below hb2)
 have BXp := qHd (qaa BXp.out hb2)
 have BXq := qHd (qaa BXq.out hb2)
 clear hb2
 go_wp2_with fail
 go_ret
 exact ⟨by first | rfl | (simp; done), HB2.out⟩
theorem rat_any (vp : Value) (p : Rat) (vq : Value) (q : Rat) (w : World) (hp : IsR w vp p) (hq : IsR w vq q) (lp : rl p ≤ 100000) (lq : rl q ≤ 100000) :
  Calls Tryz.prog 27 #[vp, vq] w (qea w (.bool (decide (p = q)))) := by
 by_cases h : ng p = ng q
 ·by_cases h2 : nn p = nn q
  ·exact same_rat2 vp p vq q w (hp.is lp) (hq.is lq) hp hq h h2
  ·exact same_rat1 vp p vq q w (hp.is lp) (hq.is lq) hp hq h h2
 ·exact same_rat0 vp p vq q w (hp.is lp) (hq.is lq) hp hq h
theorem rat_same (vp : Value) (vq : Value) (q : Rat) (w : World) (hp : IsR w vp q) (hq : IsR w vq q) (lq : rl q ≤ 100000) :
  Calls Tryz.prog 27 #[vp, vq] w (qea w (.bool true)) := by
 have h := rat_any vp q vq q w hp hq lq lq
 rw [decide_eq_true rfl] at h; exact h
theorem rprob_no (vp : Value) (p : Rat) (w : World) (hp : qbs w vp p) {sr : Bool} {ar br : List Nat} (hr : RatV w vp sr ar br) (hla : ar.length ≤ 100000) (hlb : br.length ≤ 100000) (_hpe : p = rq sr ar br) (hv : ¬ Vld sr ar br) (_hp2 : rl p ≤ 40000) :
  Calls Tryz.prog 85 #[vp] w (qea w (.bool (prB sr ar br))) := by
 obtain ⟨sp, op, np, cp, ap, mp, dp, rfl⟩ := hp.shape
 have hlp := hp.rl
 rw [prB_no hv]
 have HV := qHd (decide_eq_false hv); clear hv
 have hb0 := ((Below.refl w.heap.size w).alloc (by first | (simp; done) | (simp; omega)) (.cells #[.bool sp, .slice op np cp, .slice ap mp dp] 54))
 have hxp := qfl w (.cells #[.bool sp, .slice op np cp, .slice ap mp dp] 54)
 have hpp := hp.below hb0
 have hpraw := hr.below hb0
 obtain ⟨w0, hw0⟩ : ∃ w0, w0 = (w.alloc (.cells #[.bool sp, .slice op np cp, .slice ap mp dp] 54)) := ⟨_, rfl⟩
 rw [← hw0] at hb0 hxp hpp hpraw
 have HB0 := qHd hb0; have HW0 := qHd hw0
 have BXp := qHd hxp
 have Fp := qHd hpp
 have Fraw := qHd hpraw; clear hpraw hr
 clear hb0 hw0 hxp hpp hp
 have hr1 : rl ((1 : Int) : Rat) ≤ 2 := rl_small (by decide) (by decide)
 go_enter Tryz.func85, Tryz.ntmps85
 go_wp2_with fail
 rw [← HW0.out]
 have lwp := qaw BXp.out
 refine qao (A := ?aa0) (w := w0) 13 [] (by kernel_rfl) (Fl [KEq (.agg #[.bool sp, .slice op np cp, .slice ap mp dp]), KEq (.bool false), KEq (.bool false), KEq (undef), KEq (undef), KEq (undef), KEq (.bool false), KEq (.bool false), KEq (undef), KEq (undef), KEq (undef), KEq (undef), KEq (.bool false)]) (fun i => false) (by kernel_rfl) (fun _ _ _ _ _ h => h) (qcw (qae (kEq _) (qae (kEq _) (qae (kEq _) (qae (kEq _) (qae (kEq _) (qae (kEq _) (qae (kEq _) (qae (kEq _) (qae (kEq _) (qae (kEq _) (qae (kEq _) (qae (kEq _) (qae (kEq _) qcv)))))))))))))) ?ha0 ?st0 ?tl0
 case ha0 =>
  intro vals
  simp only [qba, qcd, if_true, Act.put, List.setIfInBounds_toArray, List.set_cons_zero, List.set_cons_succ, List.getElem?_toArray, List.getElem?_cons_zero, List.getElem?_cons_succ, Option.bind_some]
  exact rfl
 case st0 =>
  simp only [List.take_succ_cons, List.take_zero]
  refine qab rfl rfl ?_ (qab rfl rfl ?_ (qab rfl rfl ?_ (qac rfl ?_ (qac rfl ?_ (qac rfl ?_ (qab rfl rfl ?_ (qab rfl rfl ?_ (qac rfl ?_ (qac rfl ?_ (qac rfl ?_ (qac rfl ?_ (qab rfl rfl ?_ (qav)))))))))))))
  ·intro vals w1 hb hd
   obtain ⟨e0, e1, e2⟩ := qay (qaa BXp.out hb)
   refine qSv (.agg #[.bool sp, .slice op np cp, .slice ap mp dp]) (by go_simp) (qLk rfl rfl)
  ·intro vals w1 hb hd
   have d0 : KEq (.agg #[.bool sp, .slice op np cp, .slice ap mp dp]) (vals 0) w1 := hd 0 (by kernel_rfl)
   have r0 : qbs w1 (vals 0) (p) := by rw [show vals 0 = _ from d0]; exact Fp.out.below hb
   have hs := rvalid_any (vals 0) _ ar br w1 (by rw [show vals 0 = _ from d0]; exact Fraw.out.below hb) (by omega) (by omega)
   rw [HV.out] at hs
   have HS := qHd hs; clear hs
   clear d0 hd
   refine qat (by go_simp; first | done | exact ⟨⟨rfl, rfl⟩, rfl⟩) ?_
   (with_reducible refine HS.out.mono ?_); rintro e w2 ⟨rfl, hb2⟩
   exact ⟨_, rfl, qar hb2 rfl (fun h => by cases h)⟩
  ·intro vals w1 hb hd
   rw [show vals 1 = .bool false from hd 1 (by kernel_rfl)]
   refine qSv (.bool false) (by go_simp) (qLk rfl rfl)
  ·exact fun vals w1 _ hd => qau (qas rfl rfl (congrArg some (show KEq (.bool false) (vals 2) w1 from hd 2 (by kernel_rfl))) rfl) (qLk rfl rfl)
  ·exact fun vals w1 _ hd => qau (qas rfl rfl (congrArg some (show KEq (.bool false) (vals 2) w1 from hd 2 (by kernel_rfl))) rfl) (qLk rfl rfl)
  ·exact fun vals w1 _ hd => qau (qas rfl rfl (congrArg some (show KEq (.bool false) (vals 2) w1 from hd 2 (by kernel_rfl))) rfl) (qLk rfl rfl)
  ·intro vals w1 hb hd
   rw [show vals 2 = .bool false from hd 2 (by kernel_rfl)]
   refine qSv (.bool false) (by go_simp) (qLk rfl rfl)
  ·intro vals w1 hb hd
   rw [show vals 6 = .bool false from hd 6 (by kernel_rfl)]
   refine qSv (.bool false) (by go_simp) (qLk rfl rfl)
  ·exact fun vals w1 _ hd => qau (qas rfl rfl (congrArg some (show KEq (.bool false) (vals 7) w1 from hd 7 (by kernel_rfl))) rfl) (qLk rfl rfl)
  ·exact fun vals w1 _ hd => qau (qas rfl rfl (congrArg some (show KEq (.bool false) (vals 7) w1 from hd 7 (by kernel_rfl))) rfl) (qLk rfl rfl)
  ·exact fun vals w1 _ hd => qau (qas rfl rfl (congrArg some (show KEq (.bool false) (vals 7) w1 from hd 7 (by kernel_rfl))) rfl) (qLk rfl rfl)
  ·exact fun vals w1 _ hd => qau (qas rfl rfl (congrArg some (show KEq (.bool false) (vals 7) w1 from hd 7 (by kernel_rfl))) rfl) (qLk rfl rfl)
  ·intro vals w1 hb hd
   rw [show vals 7 = .bool false from hd 7 (by kernel_rfl)]
   refine qSv (.bool false) (by go_simp) (qLk rfl rfl)
 case tl0 =>
  intro vals w1 hb1 hf hdis
  simp only [List.drop_succ_cons, List.drop_zero]
  have ee12 : vals 12 = .bool false := hf 12 (by decide)
  rw [ee12]; clear ee12
  clear hf hdis
  have HB1 := qHd (HB0.out.step hb1)
  have Fp := qHd (Fp.out.below hb1)
  have Fraw := qHd (Fraw.out.below hb1)
  have BXp := qHd (qaa BXp.out hb1)
  clear hb1
  go_wp2_with fail
  go_ret
  exact ⟨by first | rfl | (simp; done), HB1.out⟩
theorem rprob_neg (vp : Value) (p : Rat) (w : World) (hp : qbs w vp p) {sr : Bool} {ar br : List Nat} (hr : RatV w vp sr ar br) (hla : ar.length ≤ 100000) (hlb : br.length ≤ 100000) (hpe : p = rq sr ar br) (hv : Vld sr ar br) (hq : p < 0) (_hp2 : rl p ≤ 40000) :
  Calls Tryz.prog 85 #[vp] w (qea w (.bool (prB sr ar br))) := by
 obtain ⟨sp, op, np, cp, ap, mp, dp, rfl⟩ := hp.shape
 have hlp := hp.rl
 rw [prB_neg (by rw [← hpe]; exact hq)]
 have HV := qHd (decide_eq_true hv)
 have hsg : sg p = -1 := by unfold sg; rw [if_pos hq]
 have HSG := qHd hsg; clear hsg hv hpe hq
 have hb0 := ((Below.refl w.heap.size w).alloc (by first | (simp; done) | (simp; omega)) (.cells #[.bool sp, .slice op np cp, .slice ap mp dp] 54))
 have hxp := qfl w (.cells #[.bool sp, .slice op np cp, .slice ap mp dp] 54)
 have hpp := hp.below hb0
 have hpraw := hr.below hb0
 obtain ⟨w0, hw0⟩ : ∃ w0, w0 = (w.alloc (.cells #[.bool sp, .slice op np cp, .slice ap mp dp] 54)) := ⟨_, rfl⟩
 rw [← hw0] at hb0 hxp hpp hpraw
 have HB0 := qHd hb0; have HW0 := qHd hw0
 have BXp := qHd hxp
 have Fp := qHd hpp
 have Fraw := qHd hpraw; clear hpraw hr
 clear hb0 hw0 hxp hpp hp
 have hr1 : rl ((1 : Int) : Rat) ≤ 2 := rl_small (by decide) (by decide)
 go_enter Tryz.func85, Tryz.ntmps85
 go_wp2_with fail
 rw [← HW0.out]
 have lwp := qaw BXp.out
 refine qao (A := ?aa0) (w := w0) 13 [] (by kernel_rfl) (Fl [KEq (.agg #[.bool sp, .slice op np cp, .slice ap mp dp]), KEq (.bool true), KEq (.bool true), KEq (.agg #[.bool sp, .slice op np cp, .slice ap mp dp]), KEq (.int .i64 (-1)), KEq (.bool false), KEq (.bool false), KEq (.bool false), KEq (undef), KEq (undef), KEq (undef), KEq (undef), KEq (.bool false)]) (fun i => false) (by kernel_rfl) (fun _ _ _ _ _ h => h) (qcw (qae (kEq _) (qae (kEq _) (qae (kEq _) (qae (kEq _) (qae (kEq _) (qae (kEq _) (qae (kEq _) (qae (kEq _) (qae (kEq _) (qae (kEq _) (qae (kEq _) (qae (kEq _) (qae (kEq _) qcv)))))))))))))) ?ha0 ?st0 ?tl0
 case ha0 =>
  intro vals
  simp only [qba, qcd, if_true, Act.put, List.setIfInBounds_toArray, List.set_cons_zero, List.set_cons_succ, List.getElem?_toArray, List.getElem?_cons_zero, List.getElem?_cons_succ, Option.bind_some]
  exact rfl
 case st0 =>
  simp only [List.take_succ_cons, List.take_zero]
  refine qab rfl rfl ?_ (qab rfl rfl ?_ (qab rfl rfl ?_ (qac rfl ?_ (qac rfl ?_ (qac rfl ?_ (qab rfl rfl ?_ (qab rfl rfl ?_ (qac rfl ?_ (qac rfl ?_ (qac rfl ?_ (qac rfl ?_ (qab rfl rfl ?_ (qav)))))))))))))
  ·intro vals w1 hb hd
   obtain ⟨e0, e1, e2⟩ := qay (qaa BXp.out hb)
   refine qSv (.agg #[.bool sp, .slice op np cp, .slice ap mp dp]) (by go_simp) (qLk rfl rfl)
  ·intro vals w1 hb hd
   have d0 : KEq (.agg #[.bool sp, .slice op np cp, .slice ap mp dp]) (vals 0) w1 := hd 0 (by kernel_rfl)
   have r0 : qbs w1 (vals 0) (p) := by rw [show vals 0 = _ from d0]; exact Fp.out.below hb
   have hs := rvalid_any (vals 0) _ ar br w1 (by rw [show vals 0 = _ from d0]; exact Fraw.out.below hb) (by omega) (by omega)
   rw [HV.out] at hs
   have HS := qHd hs; clear hs
   clear d0 hd
   refine qat (by go_simp; first | done | exact ⟨⟨rfl, rfl⟩, rfl⟩) ?_
   (with_reducible refine HS.out.mono ?_); rintro e w2 ⟨rfl, hb2⟩
   exact ⟨_, rfl, qar hb2 rfl (fun h => by cases h)⟩
  ·intro vals w1 hb hd
   rw [show vals 1 = .bool true from hd 1 (by kernel_rfl)]
   refine qSv (.bool true) (by go_simp) (qLk rfl rfl)
  ·intro vals w1 hb hd
   refine qam (qal rfl rfl (congrArg some (show KEq (.bool true) (vals 2) w1 from hd 2 (by kernel_rfl))) rfl) ?_
   obtain ⟨e0, e1, e2⟩ := qay (qaa BXp.out hb)
   refine qSv (.agg #[.bool sp, .slice op np cp, .slice ap mp dp]) (by go_simp) (qLk rfl rfl)
  ·intro vals w1 hb hd
   have d3 : KEq (.agg #[.bool sp, .slice op np cp, .slice ap mp dp]) (vals 3) w1 := hd 3 (by kernel_rfl)
   have r3 : qbs w1 (vals 3) (p) := by rw [show vals 3 = _ from d3]; exact Fp.out.below hb
   refine qam (qal rfl rfl (congrArg some (show KEq (.bool true) (vals 2) w1 from hd 2 (by kernel_rfl))) rfl) ?_
   have hs := rsign_any _ p w1 r3
   rw [HSG.out] at hs
   have HS := qHd hs; clear hs
   clear d3 hd
   refine qat (by go_simp; first | done | exact ⟨⟨rfl, rfl⟩, rfl⟩) ?_
   (with_reducible refine HS.out.mono ?_); rintro e w2 ⟨rfl, hb2⟩
   exact ⟨_, rfl, qar hb2 rfl (fun h => by cases h)⟩
  ·intro vals w1 hb hd
   refine qam (qal rfl rfl (congrArg some (show KEq (.bool true) (vals 2) w1 from hd 2 (by kernel_rfl))) rfl) ?_
   rw [show vals 4 = .int .i64 (-1) from hd 4 (by kernel_rfl)]
   refine qSv (.bool false) (by go_simp) (qLk rfl rfl)
  ·intro vals w1 hb hd
   rw [show vals 2 = .bool true from hd 2 (by kernel_rfl)]
   rw [show vals 5 = .bool false from hd 5 (by kernel_rfl)]
   refine qSv (.bool false) (by go_simp) (qLk rfl rfl)
  ·intro vals w1 hb hd
   rw [show vals 6 = .bool false from hd 6 (by kernel_rfl)]
   refine qSv (.bool false) (by go_simp) (qLk rfl rfl)
  ·exact fun vals w1 _ hd => qau (qas rfl rfl (congrArg some (show KEq (.bool false) (vals 7) w1 from hd 7 (by kernel_rfl))) rfl) (qLk rfl rfl)
  ·exact fun vals w1 _ hd => qau (qas rfl rfl (congrArg some (show KEq (.bool false) (vals 7) w1 from hd 7 (by kernel_rfl))) rfl) (qLk rfl rfl)
  ·exact fun vals w1 _ hd => qau (qas rfl rfl (congrArg some (show KEq (.bool false) (vals 7) w1 from hd 7 (by kernel_rfl))) rfl) (qLk rfl rfl)
  ·exact fun vals w1 _ hd => qau (qas rfl rfl (congrArg some (show KEq (.bool false) (vals 7) w1 from hd 7 (by kernel_rfl))) rfl) (qLk rfl rfl)
  ·intro vals w1 hb hd
   rw [show vals 7 = .bool false from hd 7 (by kernel_rfl)]
   refine qSv (.bool false) (by go_simp) (qLk rfl rfl)
 case tl0 =>
  intro vals w1 hb1 hf hdis
  simp only [List.drop_succ_cons, List.drop_zero]
  have ee12 : vals 12 = .bool false := hf 12 (by decide)
  rw [ee12]; clear ee12
  clear hf hdis
  have HB1 := qHd (HB0.out.step hb1)
  have Fp := qHd (Fp.out.below hb1)
  have Fraw := qHd (Fraw.out.below hb1)
  have BXp := qHd (qaa BXp.out hb1)
  clear hb1
  go_wp2_with fail
  go_ret
  exact ⟨by first | rfl | (simp; done), HB1.out⟩
theorem rprob_in (vp : Value) (p : Rat) (w : World) (hp : qbs w vp p) {sr : Bool} {ar br : List Nat} (hr : RatV w vp sr ar br) (hla : ar.length ≤ 100000) (hlb : br.length ≤ 100000) (hpe : p = rq sr ar br) (hv : Vld sr ar br) (hq : 0 ≤ p) (hp2 : rl p ≤ 40000) :
  Calls Tryz.prog 85 #[vp] w (qea w (.bool (prB sr ar br))) := by
 obtain ⟨sp, op, np, cp, ap, mp, dp, rfl⟩ := hp.shape
 have hlp := hp.rl
 rw [prB_of hv (by rw [← hpe]; exact hq), ← hpe]
 have HV := qHd (decide_eq_true hv)
 have hsg : 0 ≤ sg p := by unfold sg; rw [if_neg (by grind)]; split <;> decide
 obtain ⟨s, hs⟩ : ∃ s, s = sg p := ⟨_, rfl⟩; rw [← hs] at hsg
 have t1 : decide (0 ≤ s) = true := decide_eq_true hsg
 obtain ⟨c, hc⟩ : ∃ c, c = cq p 1 := ⟨_, rfl⟩
 rw [← hc]
 obtain ⟨r, hrr⟩ : ∃ r, r = decide (c ≤ 0) := ⟨_, rfl⟩
 rw [← hrr]
 have hr2 : decide (c ≤ 0) = r := hrr.symm
 have HSG := qHd hs; have HC := qHd hc; clear hs hc hrr hsg hv hpe hq
 have hb0 := ((Below.refl w.heap.size w).alloc (by first | (simp; done) | (simp; omega)) (.cells #[.bool sp, .slice op np cp, .slice ap mp dp] 54))
 have hxp := qfl w (.cells #[.bool sp, .slice op np cp, .slice ap mp dp] 54)
 have hpp := hp.below hb0
 have hpraw := hr.below hb0
 obtain ⟨w0, hw0⟩ : ∃ w0, w0 = (w.alloc (.cells #[.bool sp, .slice op np cp, .slice ap mp dp] 54)) := ⟨_, rfl⟩
 rw [← hw0] at hb0 hxp hpp hpraw
 have HB0 := qHd hb0; have HW0 := qHd hw0
 have BXp := qHd hxp
 have Fp := qHd hpp
 have Fraw := qHd hpraw; clear hpraw hr
 clear hb0 hw0 hxp hpp hp
 have hr1 : rl ((1 : Int) : Rat) ≤ 2 := rl_small (by decide) (by decide)
 go_enter Tryz.func85, Tryz.ntmps85
 go_wp2_with fail
 rw [← HW0.out]
 have lwp := qaw BXp.out
 refine qao (A := ?aa0) (w := w0) 13 [] (by kernel_rfl) (Fl [KEq (.agg #[.bool sp, .slice op np cp, .slice ap mp dp]), KEq (.bool true), KEq (.bool true), KEq (.agg #[.bool sp, .slice op np cp, .slice ap mp dp]), KEq (.int .i64 s), KEq (.bool true), KEq (.bool true), KEq (.bool true), KEq (.agg #[.bool sp, .slice op np cp, .slice ap mp dp]), KIs (((1 : Int) : Rat)), KEq (.int .i64 c), KEq (.bool r), KEq (.bool r)]) (fun i => false) (by kernel_rfl) (fun _ _ _ _ _ h => h) (qcw (qae (kEq _) (qae (kEq _) (qae (kEq _) (qae (kEq _) (qae (kEq _) (qae (kEq _) (qae (kEq _) (qae (kEq _) (qae (kEq _) (qae (kIs _) (qae (kEq _) (qae (kEq _) (qae (kEq _) qcv)))))))))))))) ?ha0 ?st0 ?tl0
 case ha0 =>
  intro vals
  simp only [qba, qcd, if_true, Act.put, List.setIfInBounds_toArray, List.set_cons_zero, List.set_cons_succ, List.getElem?_toArray, List.getElem?_cons_zero, List.getElem?_cons_succ, Option.bind_some]
  exact rfl
 case st0 =>
  simp only [List.take_succ_cons, List.take_zero]
  refine qab rfl rfl ?_ (qab rfl rfl ?_ (qab rfl rfl ?_ (qac rfl ?_ (qac rfl ?_ (qac rfl ?_ (qab rfl rfl ?_ (qab rfl rfl ?_ (qac rfl ?_ (qac rfl ?_ (qac rfl ?_ (qac rfl ?_ (qab rfl rfl ?_ (qav)))))))))))))
  ·intro vals w1 hb hd
   obtain ⟨e0, e1, e2⟩ := qay (qaa BXp.out hb)
   refine qSv (.agg #[.bool sp, .slice op np cp, .slice ap mp dp]) (by go_simp) (qLk rfl rfl)
  ·intro vals w1 hb hd
   have d0 : KEq (.agg #[.bool sp, .slice op np cp, .slice ap mp dp]) (vals 0) w1 := hd 0 (by kernel_rfl)
   have r0 : qbs w1 (vals 0) (p) := by rw [show vals 0 = _ from d0]; exact Fp.out.below hb
   have hs := rvalid_any (vals 0) _ ar br w1 (by rw [show vals 0 = _ from d0]; exact Fraw.out.below hb) (by omega) (by omega)
   rw [HV.out] at hs
   have HS := qHd hs; clear hs
   clear d0 hd
   refine qat (by go_simp; first | done | exact ⟨⟨rfl, rfl⟩, rfl⟩) ?_
   (with_reducible refine HS.out.mono ?_); rintro e w2 ⟨rfl, hb2⟩
   exact ⟨_, rfl, qar hb2 rfl (fun h => by cases h)⟩
  ·intro vals w1 hb hd
   rw [show vals 1 = .bool true from hd 1 (by kernel_rfl)]
   refine qSv (.bool true) (by go_simp) (qLk rfl rfl)
  ·intro vals w1 hb hd
   refine qam (qal rfl rfl (congrArg some (show KEq (.bool true) (vals 2) w1 from hd 2 (by kernel_rfl))) rfl) ?_
   obtain ⟨e0, e1, e2⟩ := qay (qaa BXp.out hb)
   refine qSv (.agg #[.bool sp, .slice op np cp, .slice ap mp dp]) (by go_simp) (qLk rfl rfl)
  ·intro vals w1 hb hd
   have d3 : KEq (.agg #[.bool sp, .slice op np cp, .slice ap mp dp]) (vals 3) w1 := hd 3 (by kernel_rfl)
   have r3 : qbs w1 (vals 3) (p) := by rw [show vals 3 = _ from d3]; exact Fp.out.below hb
   refine qam (qal rfl rfl (congrArg some (show KEq (.bool true) (vals 2) w1 from hd 2 (by kernel_rfl))) rfl) ?_
   have hs := rsign_any _ p w1 r3
   rw [← HSG.out] at hs
   have HS := qHd hs; clear hs
   clear d3 hd
   refine qat (by go_simp; first | done | exact ⟨⟨rfl, rfl⟩, rfl⟩) ?_
   (with_reducible refine HS.out.mono ?_); rintro e w2 ⟨rfl, hb2⟩
   exact ⟨_, rfl, qar hb2 rfl (fun h => by cases h)⟩
  ·intro vals w1 hb hd
   refine qam (qal rfl rfl (congrArg some (show KEq (.bool true) (vals 2) w1 from hd 2 (by kernel_rfl))) rfl) ?_
   rw [show vals 4 = .int .i64 s from hd 4 (by kernel_rfl)]
   refine qSv (.bool true) (by go_simp) (qLk rfl rfl)
  ·intro vals w1 hb hd
   rw [show vals 2 = .bool true from hd 2 (by kernel_rfl)]
   rw [show vals 5 = .bool true from hd 5 (by kernel_rfl)]
   refine qSv (.bool true) (by go_simp) (qLk rfl rfl)
  ·intro vals w1 hb hd
   rw [show vals 6 = .bool true from hd 6 (by kernel_rfl)]
   refine qSv (.bool true) (by go_simp) (qLk rfl rfl)
  ·intro vals w1 hb hd
   refine qam (qal rfl rfl (congrArg some (show KEq (.bool true) (vals 7) w1 from hd 7 (by kernel_rfl))) rfl) ?_
   obtain ⟨e0, e1, e2⟩ := qay (qaa BXp.out hb)
   refine qSv (.agg #[.bool sp, .slice op np cp, .slice ap mp dp]) (by go_simp) (qLk rfl rfl)
  ·intro vals w1 hb hd
   refine qam (qal rfl rfl (congrArg some (show KEq (.bool true) (vals 7) w1 from hd 7 (by kernel_rfl))) rfl) ?_
   have hs := rofq_any 1 w1 (by decide) (by decide)
   have HS := qHd hs; clear hs
   refine qat (by go_simp; first | done | exact ⟨⟨rfl, rfl⟩, rfl⟩) ?_
   (with_reducible refine HS.out.mono ?_); rintro e w2 ⟨v, rfl, hb2, hn⟩
   exact ⟨v, rfl, qar hb2 hn (fun h => by cases h)⟩
  ·intro vals w1 hb hd
   have d8 : KEq (.agg #[.bool sp, .slice op np cp, .slice ap mp dp]) (vals 8) w1 := hd 8 (by kernel_rfl)
   have r8 : qbs w1 (vals 8) (p) := by rw [show vals 8 = _ from d8]; exact Fp.out.below hb
   have d9 : KIs (((1 : Int) : Rat)) (vals 9) w1 := hd 9 (by kernel_rfl)
   have r9 : qbs w1 (vals 9) (((1 : Int) : Rat)) := IsR.is d9 (by omega)
   refine qam (qal rfl rfl (congrArg some (show KEq (.bool true) (vals 7) w1 from hd 7 (by kernel_rfl))) rfl) ?_
   have hs := rcmpq_any _ p _ 1 w1 r8 r9 hp2 (by rw [rl_one]; decide)
   rw [← HC.out] at hs
   have HS := qHd hs; clear hs
   clear d8 d9 hd
   refine qat (by go_simp; first | done | exact ⟨⟨rfl, rfl⟩, rfl⟩) ?_
   (with_reducible refine HS.out.mono ?_); rintro e w2 ⟨rfl, hb2⟩
   exact ⟨_, rfl, qar hb2 rfl (fun h => by cases h)⟩
  ·intro vals w1 hb hd
   refine qam (qal rfl rfl (congrArg some (show KEq (.bool true) (vals 7) w1 from hd 7 (by kernel_rfl))) rfl) ?_
   rw [show vals 10 = .int .i64 c from hd 10 (by kernel_rfl)]
   refine qSv (.bool r) (by go_simp) (qLk rfl rfl)
  ·intro vals w1 hb hd
   rw [show vals 7 = .bool true from hd 7 (by kernel_rfl)]
   rw [show vals 11 = .bool r from hd 11 (by kernel_rfl)]
   refine qSv (.bool r) (by go_simp) (qLk rfl rfl)
 case tl0 =>
  intro vals w1 hb1 hf hdis
  simp only [List.drop_succ_cons, List.drop_zero]
  have ee12 : vals 12 = .bool r := hf 12 (by decide)
  rw [ee12]; clear ee12
  clear hf hdis
  have HB1 := qHd (HB0.out.step hb1)
  have Fp := qHd (Fp.out.below hb1)
  have Fraw := qHd (Fraw.out.below hb1)
  have BXp := qHd (qaa BXp.out hb1)
  clear hb1
  go_wp2_with fail
  go_ret
  exact ⟨by first | rfl | (simp; done), HB1.out⟩
theorem rprob_any (v : Value) (s : Bool) (a b : List Nat) (w : World) (h : RatV w v s a b) (hla : a.length ≤ 40000) (hlb : b.length ≤ 40000) :
  Calls Tryz.prog 85 #[v] w (qea w (.bool (prB s a b))) := by
 have hi : qbs w v (rq s a b) := h.is (by omega) (by omega)
 have hl : rl (rq s a b) ≤ 40000 := rl_rq h.lt.1 h.lt.2 hla hlb (by decide)
 by_cases hv : Vld s a b
 ·by_cases hq : rq s a b < 0
  ·exact rprob_neg v _ w hi h (by omega) (by omega) rfl hv hq hl
  ·exact rprob_in v _ w hi h (by omega) (by omega) rfl hv (by grind) hl
 ·exact rprob_no v _ w hi h (by omega) (by omega) rfl hv hl
end Go.Proofs.YthhgfhdmfhnklaaGreatDoor
namespace Go.Proofs.YthhgfhdmfhnklaaGreatDoor
open Go.RowKit Go.ChangeShapes Go.WideShapes Go.Deep
section
variable {H : Type} {enc : TypeId × Value → H} {P : Program} {W : World}
structure TreeTys (P : Program) (ti tk tS : TypeId) : Prop where
 hi : P.underlying ti = some (.int .i64)
 ci : P.cellsOf ti = 1
 hk : P.underlying tk = some (.slice tS)
 ck : P.cellsOf tk = 1
 cS : P.cellsOf tS = 3
 hS : ∃ f0 f1 f2 : Field, P.underlying tS = some (.struct #[f0, f1, f2]) ∧ f0.type = ti ∧ f1.type = tk ∧ f2.type = ti ∧ f0.offset = 0 ∧ f1.offset = 1 ∧ f2.offset = 2
theorem kidsAt_of {w : World} {b : Nat} : ∀ (ts : List Tr) (off : Nat), (∀ (j : Nat) t, ts[j]? = some t → TrAt w b (off + j * 3) t) → qeb w b off ts
 | [], _, _ => by simp only [qeb]
 | t :: ts, off, h => by
  simp only [qeb]
  refine ⟨by simpa using h 0 t rfl, kidsAt_of ts (off + 3) (fun j x hj => ?_)⟩
  have := h (j + 1) x (by simpa using hj)
  rw [show off + (j + 1) * 3 = off + 3 + j * 3 from by omega] at this
  exact this
theorem open_tree {ti tk tS : TypeId} (T : TreeTys P ti tk tS) : ∀ (N fuel : Nat) (cs : List Value) (d : DataW H) (ps : List MemPlace), SizeOf.sizeOf d < N → DataW.trod enc P W 0 (fun _ => true) true fuel tS cs = some (d, ps) →
  ∃ (v r : Int) (ks : List Tr) (kv : Value), cs = [.int .i64 v, kv, .int .i64 r] ∧ KidsV W kv ks ∧ I64 v ∧ I64 r
 | 0, _, _, _, _, h, _ => by omega
 | N + 1, fuel, cs, d, ps, hN, h => by
  obtain ⟨f0, f1, f2, hu, t0, t1, t2, o0, o1, o2⟩ := T.hS
  obtain ⟨y0, y1, y2, m, hx, hl, h0, h1, h2⟩ := trod_struct3 hu h
  rw [T.cS] at hl
  rw [t0, o0, T.ci] at h0; rw [t1, o1, T.ck] at h1; rw [t2, o2, T.ci] at h2
  have hd : d = .agg [y0.1, y1.1, y2.1] := (Prod.mk.inj hx).1
  have hsz : SizeOf.sizeOf y1.1 < N := by
   rw [hd] at hN
   simp at hN
   omega
  match cs, hl with
  | [c0, c1, c2], _ =>
   simp only [List.drop, List.take] at h0 h1 h2
   obtain ⟨k0, e0, _, w0⟩ := DataW.trod_int T.hi h0
   obtain ⟨k2, e2, _, w2⟩ := DataW.trod_int T.hi h2
   simp only [List.cons.injEq, and_true] at e0 e2
   have hk : ∃ ks, KidsV W c1 ks := by
    rcases open_slice T.hk h1 with ⟨hcs, _⟩ | ⟨a, len, cap, m', n, D, Pl, hcs, _, hl, hm, hmm, hxs, hel⟩
    ·have hcs' : c1 = .slice none 0 0 := by simpa using hcs
     rw [hcs']; exact ⟨[], none, 0, rfl, Nat.le_refl _, by omega, fun _ => rfl, (fun b off s h => by cases h)⟩
    ·have hcs' : c1 = .slice (some a) len cap := by simpa using hcs
     rw [hcs']
     simp only [if_true] at hmm
     subst hmm
     rw [T.cS] at hel
     have hsl : ∀ i, i < len → SizeOf.sizeOf (D i) < N := fun i hi => by
      rw [hxs] at hsz
      simp at hsz
      have hmem : D i ∈ (List.range len).map D := List.mem_map.2 ⟨i, List.mem_range.2 hi, rfl⟩
      have := List.sizeOf_lt_of_mem hmem
      omega
     obtain ⟨F, hF⟩ := choose_lt (α := Tr) (n := len) (p := fun i t => ∀ b off, a.add (i * 3) = ⟨b, off, none⟩ → TrAt W b off t) (fun i hi => by
      obtain ⟨cs', g1, g2⟩ := hel i (by omega)
      obtain ⟨v, r, ks, kv, rfl, q1, q2, q3⟩ := open_tree T N n cs' (D i) (Pl i) (hsl i hi) g2
      obtain ⟨_, _, hc⟩ := World.cells?_some g1
      refine ⟨.mk v ks r, fun b off hb => ?_⟩
      have c0 := hc 0 (by omega); have c1 := hc 1 (by omega); have c2 := hc 2 (by omega)
      rw [hb, qgc] at c0 c1 c2
      exact trAt_mk c0 c1 c2 q1 q2 q3)
     refine ⟨(List.range len).map F, some a, m', by simp, by simp; omega, by unfold maxLen at hm; omega, by simp, ?_⟩
     intro b off s hs
     obtain rfl : a = ⟨b, off, s⟩ := Option.some.inj hs
     have h0' : 0 < len → b < W.heap.size ∧ s = none := fun h0 => by
      obtain ⟨cs', g1, g2⟩ := hel 0 (by omega)
      obtain ⟨_, hlen, hc⟩ := World.cells?_some g1
      have := hc 0 (by omega)
      rw [Nat.zero_mul, show ((⟨b, off, s⟩ : Addr).add 0) = ⟨b, off, s⟩ from by simp [Addr.add]] at this
      obtain ⟨z, hz⟩ : ∃ z, cs'[0]? = some z := ⟨cs'[0]'(by omega), List.getElem?_eq_getElem (by omega)⟩
      rw [hz] at this
      exact cell_none this rfl
     refine ⟨fun hh => h0' (by simpa using hh), ?_⟩
     by_cases hl0 : len = 0
     ·subst hl0; simp only [List.range_zero, List.map_nil, qeb]
     obtain ⟨_, rfl⟩ := h0' (by omega)
     apply kidsAt_of
     intro j t hj
     have hjl : j < len := by
      rcases Nat.lt_or_ge j len with q | q
      ·exact q
      ·rw [List.getElem?_eq_none (by simpa using q)] at hj; cases hj
     rw [List.getElem?_map, List.getElem?_range hjl] at hj
     have hz : F j = t := by simpa using hj
     subst hz
     exact hF j hjl b (off + j * 3) (qgc _ _ _)
   obtain ⟨ks, hk⟩ := hk
   exact ⟨k0, k2, ks, c1, by rw [e0, e2], hk, i64_wf w0, i64_wf w2⟩
end
end Go.Proofs.YthhgfhdmfhnklaaGreatDoor
namespace Go.Proofs.YthhgfhdmfhnklaaGreatDoor
open Go.RowKit Go.ChangeShapes Go.WideShapes
theorem qeu (l : List Int) : (ivals l).length = l.length := by simp [ivals]
theorem own_base {w : World} {B B' : Nat} {e : TypeId} {size n : Nat} {v : Value} {xs : List Value} (h : w.ownsRow B e size v n xs) (hB : B' ≤ B) : w.ownsRow B' e size v n xs := by
 obtain ⟨h1, h2⟩ := h
 refine ⟨h1, ?_⟩
 rcases h2 with h2 | ⟨g, cap, cur, hv, hb, r⟩
 ·exact .inl h2
 ·exact .inr ⟨g, cap, cur, hv, Nat.le_trans hB hb, r⟩
theorem lfCells_length (l : List Lf) : (qdi l).length = l.length * 3 := by
 induction l with
 | nil => rfl
 | cons t ts ih => simp only [qdi, List.flatMap_cons, List.length_append, List.length_cons, Lf.cells, List.length_nil] at ih ⊢; omega
section
variable {P : Program} {w : World} {ops : Array Oper} {rest : List Oper} {a : Act} {Q : Exit → Act → World → Prop}
theorem wpList_appLs {d : Option Tmp} {tt : TypeId} {s x : Operand} {t e : TypeId} {pos : String} {af : Array Edge}
  (base : Nat) {z : Value} {bytes : Nat} (T : qee P t e z 3 bytes) (hzs : z.cells.size = 3)
  (v xv : Value) (l m : List Lf) (hs : a.eval s = v) (hx : a.eval x = xv) (hown : w.ownsRow base e 3 v l.length (qdi l)) (hm : LfsV w xv m)
  (hn : l.length + m.length ≤ 1000000) (hby : bytes ≤ 1000) (hbase : base ≤ w.heap.size)
  (hK : ∀ v' w', w'.ownsRow base e 3 v' (l ++ m).length (qdi (l ++ m)) → w.grownBy w' v.ownBlock → wpList P ops Q rest (a.put d v') w') :
  qap (wpList P ops Q (⟨d, .call { callee := .builtin .append, args := #[s, x], argTypes := #[t, t] }, tt, pos, af, none⟩ :: rest) a w) := by
 obtain ⟨i0, hi, hz0, hz1, hz2⟩ := T.info
 obtain ⟨ao, c, rfl, q1, q2, q3, q4⟩ := hm
 cases hao : ao with
 | none =>
  have hc0 := q3 hao
  have hm0 : m = [] := List.eq_nil_of_length_eq_zero (by omega)
  subst hm0 hc0
  subst hao
  have hrun := run_append_owned_none (P := P) w base t tt e i0 3 T.under hi v _ _ hown
  refine wpList_plain rfl fun K hK' => ?_
  unfold Oper.wp execOp
  simp only [resolve, invoke, builtin, Sem.run_bind, Sem.run_pure, Result.andThen_ok, List.map_toArray, List.map_cons, List.map_nil, hs, hx, List.length_nil, hrun]
  refine hK' _ _ (hK v w ?_ (World.grownBy.refl _ _))
  rw [List.append_nil]; exact hown
 | some ad =>
  obtain ⟨b, off, sp⟩ := ad
  subst hao
  obtain ⟨k1, k3⟩ := q4 b off sp rfl
  have hbb : (l.length + m.length) * bytes ≤ 140737488355328 := Nat.le_trans (Nat.mul_le_mul hn hby) (by decide)
  refine wpList_append_own w rfl s x t rfl base e i0 z 3 bytes T.under hi hz0 hz1 hz2 hzs (by omega) v _ _ hs hown ⟨b, off, sp⟩ m.length c (qdi m) hx (lfCells_length m) (fun j u hu => ?_) (fun u hu => ?_) (by unfold maxLen; omega) hbb hbase (fun v' w' k1 k2 _ => hK v' w' ?_ k2)
  ·have hj : j < m.length * 3 := by have := (List.getElem?_eq_some_iff.1 hu).1; rwa [lfCells_length] at this
   have h0 : 0 < m.length := by omega
   obtain ⟨_, rfl⟩ := k1 h0
   have hjl : j / 3 < m.length := by omega
   obtain ⟨y, hy⟩ : ∃ y, m[j / 3]? = some y := ⟨m[j / 3], List.getElem?_eq_getElem hjl⟩
   have e1 := lfCells_at m (j / 3) (j % 3) y hy (Nat.mod_lt _ (by decide))
   rw [show j / 3 * 3 + j % 3 = j by omega, hu] at e1
   obtain ⟨c0, c1, c2⟩ := k3 _ _ hy
   rw [qgc]
   have h3 : j % 3 = 0 ∨ j % 3 = 1 ∨ j % 3 = 2 := by omega
   rcases h3 with h3 | h3 | h3
   ·rw [show off + j = off + j / 3 * 3 by omega, c0, e1, h3]; rfl
   ·rw [show off + j = off + j / 3 * 3 + 1 by omega, c1, e1, h3]; rfl
   ·rw [show off + j = off + j / 3 * 3 + 2 by omega, c2, e1, h3]; rfl
  ·obtain ⟨y, _, hy⟩ := List.mem_flatMap.1 hu
   simp only [Lf.cells, List.mem_cons, List.not_mem_nil, or_false] at hy
   rcases hy with rfl | rfl | rfl <;> rfl
  ·rw [List.length_append, lfCells_app]; exact k1
end
theorem truth_any (a b : Bool) (w : World) : Calls Tryz.prog 151 #[.bool a, .bool b] w (RetS w (.int .i64 (lev a b : Nat))) := by
  cases a <;> cases b <;>
    (go_enter Tryz.func151, Tryz.ntmps151
     go_wp2
     go_ret
     exact ⟨rfl, rfl⟩)
section
variable {P : Program} {w : World} {ops : Array Oper} {rest : List Oper} {a : Act} {Q : Exit → Act → World → Prop}
theorem wpList_makeF {d : Option Tmp} {tt t e : TypeId} {l c : Operand} {pos : String} {af : Array Edge} (base : Nat) {z : Value} {bytes : Nat} (T : qee P t e z 1 bytes) (hzc : z.cells = #[z])
  {kl kc : IntKind} {L C : Int} (n : Nat) (hl : a.eval l = .int kl L) (hc : a.eval c = .int kc C) (hL : L = (n : Int)) (hC : C = (n : Int)) (hn : n ≤ 1000000) (hby : bytes ≤ 1000) (hbase : base ≤ w.heap.size)
  (hK : ∀ w', w'.ownsRow base e 1 (.slice (some ⟨w.heap.size, 0, none⟩) n n) n (List.replicate n z) → w.grownBy w' none → wpList P ops Q rest (a.put d (.slice (some ⟨w.heap.size, 0, none⟩) n n)) w') :
  qap (wpList P ops Q (⟨d, .makeSlice t l c, tt, pos, af, none⟩ :: rest) a w) := by
 obtain ⟨i0, hi, hz0, hz1, hz2⟩ := T.info
 have hb : bytes * n ≤ 1000 * 1000000 := Nat.mul_le_mul hby hn
 refine wpList_make_full w rfl l c t rfl base e i0 z 1 T.under hi hz0 hz1 kl kc L C n hl hc hL hC (by rw [hz2]; omega) (by unfold maxLen; omega) hbase (fun w' h1 h2 => hK w' ?_ h2)
 rw [hzc, Nat.mul_one, toList_madeCells_one] at h1; exact h1
end
theorem own_kids {w : World} {B : Nat} {e : TypeId} {v : Value} {ks : List Tr} {xs : List Value} (h : w.ownsRow B e 3 v ks.length xs)
  (hx : ∀ (j : Nat) t, ks[j]? = some t → ∃ x0 x1 x2, xs[j * 3]? = some x0 ∧ xs[j * 3 + 1]? = some x1 ∧ xs[j * 3 + 2]? = some x2 ∧ TrV w (.agg #[x0, x1, x2]) t) : KidsV w v ks := by
 obtain ⟨ao, c, rfl, h1, h2, h3⟩ := qff h
 refine ⟨ao, c, rfl, h1, h2, h3, ?_⟩
 intro b off s hs
 subst hs
 by_cases h0 : 0 < ks.length
 ·obtain ⟨g, e1, e2, e3, e4, e5, e6⟩ := own_cells h rfl h0
  cases e1
  refine ⟨fun _ => ⟨e3, rfl⟩, kidsAt_of ks 0 (fun j t hj => ?_)⟩
  obtain ⟨x0, x1, x2, k0, k1, k2, k3⟩ := hx j t hj
  rw [Nat.zero_add]
  exact trAt_of k3 (e6 _ _ k0) (e6 _ _ k1) (e6 _ _ k2)
 ·have : ks = [] := List.eq_nil_of_length_eq_zero (by omega)
  subst this
  exact ⟨fun h => absurd h (Nat.lt_irrefl _), by simp only [qeb]⟩
mutual
theorem trErr_lt (V : Int) : ∀ (t : Tr) (ab n : Nat), (qbh V t ab n).2 < 12
 | .mk v ks r, ab, n => by
  unfold qbh
  repeat' split
  all_goals first | (simp; done) | exact trsErr_lt V ks _ _
theorem trsErr_lt (V : Int) : ∀ (ks : List Tr) (ab n : Nat), (qdv V ks ab n).2 < 12
 | [], ab, n => by simp [qdv]
 | t :: ts, ab, n => by
  unfold qdv
  split
  ·exact trErr_lt V t ab n
  ·exact trsErr_lt V ts _ _
end
theorem drop_cons_of {α : Type} {l : List α} {q : Nat} {x : α} (h : l[q]? = some x) : l.drop q = x :: l.drop (q + 1) := by
 obtain ⟨h1, h2⟩ := List.getElem?_eq_some_iff.1 h
 rw [List.drop_eq_getElem_cons h1, h2]
def shortR (r : Rv) : Bool := decide (r.a.length ≤ 3) && decide (r.b.length ≤ 3)
def briefB (L : List Rv) : Bool := decide (L.length ≤ 30) && L.all shortR
theorem brief_any (v : Value) (L : List Rv) (w : World) (hl : RvsV w v L) : Calls Tryz.prog 21 #[v] w (qea w (.bool (briefB L))) := by
 obtain ⟨al, cl, rfl, hcl, hcl2, _⟩ := hl.shape
 have HL := qHd hl; clear hl
 by_cases h30 : 30 < L.length
 ·have R := qHd (show briefB L = false by unfold briefB; simp; omega)
  go_enter Tryz.func21, Tryz.ntmps21
  go_wp2_with fail
  go_ret
  exact ⟨by rw [R.out]; rfl, Below.refl _ _⟩
 have h30' : L.length ≤ 30 := by omega
 go_enter Tryz.func21, Tryz.ntmps21
 go_wp2_with fail
 go_loopw [10] (fun i' wx => ∃ q : Nat, q ≤ L.length ∧ i' = .int .i64 q ∧ Hid (Below w.heap.size w wx) ∧ Hid (briefB L = (L.drop q).all shortR)) (fun i' _ => L.length - (intOf i').toNat)
 case atStart => exact ⟨0, Nat.zero_le _, rfl, qHd (Below.refl _ _), qHd (by unfold briefB; simp [h30'])⟩
 case round =>
  obtain ⟨q, hq, rfl, HBo, FB⟩ := hrel
  obtain ⟨wo, rfl⟩ : ∃ wo : World, wo = wr := ⟨_, rfl⟩
  by_cases hlt : q < L.length
  ·obtain ⟨x, hx⟩ : ∃ x, L[q]? = some x := ⟨L[q], List.getElem?_eq_getElem hlt⟩
   obtain ⟨bl, ol, rfl, hbl, hjk, hat⟩ := (HL.out.below HBo.out).at (by omega); clear hjk
   obtain ⟨va, vb, c0, c1, c2, n1, n2⟩ := hat q x hx
   have hmem := List.mem_of_getElem? hx
   have FD := qHd (drop_cons_of hx)
   clear hat hx
   obtain ⟨xs, xa, xb⟩ := x
   simp only at c0 c1 c2 n1 n2
   obtain ⟨ao, ca, rfl, ha1, ha2, _⟩ := n1.shape
   obtain ⟨bo, cb, rfl, hb1, hb2, _⟩ := n2.shape
   obtain ⟨w4, hw4, hb4, g4, hg4, hx4⟩ := qBx5 wo (.cells #[.bool xs, .slice ao xa.length ca, .slice bo xb.length cb] 54)
   have HB4 := qHd (HBo.out.trans (hb4.mono HBo.out.size))
   have HN := qHd (And.intro (n1.below hb4) (n2.below hb4))
   have G4 := qHd hx4
   have hltz : (q : Int) < (L.length : Int) := by omega
   clear hb4 n1 n2
   obtain ⟨z0, z1, z2⟩ := qay hx4
   rw [hw4, hg4] at z0 z1 z2
   rw [FD.out] at FB
   by_cases hA : 3 < xa.length
   ·have R := qHd (show briefB L = false by rw [FB.out]; simp [shortR]; omega)
    go_wp2_with fail
    rw [← hw4]
    go_ret
    exact ⟨by rw [R.out]; rfl, HB4.out⟩
   by_cases hB : 3 < xb.length
   ·have R := qHd (show briefB L = false by rw [FB.out]; simp [shortR]; omega)
    go_wp2_with fail
    rw [← hw4]
    go_ret
    exact ⟨by rw [R.out]; rfl, HB4.out⟩
   have NB := qHd (show briefB L = (L.drop (q + 1)).all shortR by
    rw [FB.out, List.all_cons]; simp [shortR]; omega)
   go_wp2_with fail
   rw [← hw4]
   go_roundw
   case rel => exact ⟨q + 1, by omega, by go_num, HB4, NB⟩
   case measure => simp [intOf]; omega
  ·have hq' : q = L.length := by omega
   subst hq'
   have R := qHd (show briefB L = true by rw [FB.out, List.drop_length]; rfl)
   go_wp2_with fail
   go_ret
   exact ⟨by rw [R.out]; rfl, HBo.out⟩
theorem briefB_sm {L : List Rv} (h : briefB L = true) : L.length ≤ 30 ∧ ∀ r ∈ L, r.a.length ≤ 3 ∧ r.b.length ≤ 3 := by
 unfold briefB at h
 simp only [Bool.and_eq_true, decide_eq_true_eq, List.all_eq_true, shortR] at h
 exact h
def probE (f : Fm) (L : List Rv) : Nat := if (L.length : Int) ≠ f.vars then 11 else if (L.any fun r => !prB r.s r.a r.b) = true then 3 else 0
theorem rprobs_any (vf v : Value) (f : Fm) (L : List Rv) (w : World) (hf : FmV w vf f) (hl : RvsV w v L) (hsm : ∀ r ∈ L, r.a.length ≤ 3 ∧ r.b.length ≤ 3) : Calls Tryz.prog 48 #[vf, v] w (qea w (.int .i64 (probE f L : Nat))) := by
 obtain ⟨nv, rfl, hn, hv, htp⟩ := hf
 obtain ⟨aof, cf, rfl, hcf, hcf2, _⟩ := hn.shape
 obtain ⟨al, cl, rfl, hcl, hcl2, _⟩ := hl.shape
 have HL := qHd hl; have HS := qHd hsm
 obtain ⟨W, hW, hbW, hg1⟩ := qBx3 w (.cells #[.int .i64 f.vars, .slice aof f.nodes.length cf, .int .i64 f.top] 24)
 obtain ⟨x0, x1, x2⟩ := qay hg1
 rw [hW] at x0 x1 x2
 have HBW := qHd hbW
 unfold I64 at hv
 clear hbW hg1 hn htp hl hsm
 by_cases h11 : (L.length : Int) = f.vars
 ·have P0 := qHd (show probE f L = if (L.any fun r => !prB r.s r.a r.b) = true then 3 else 0 by unfold probE; rw [if_neg (fun k => k h11)])
  go_enter Tryz.func48, Tryz.ntmps48
  go_wp2_with fail
  rw [← hW]; clear hW x0 x1 x2
  go_loopw [14] (fun i' wx => ∃ q : Nat, q ≤ L.length ∧ i' = .int .i64 q ∧ Hid (Below w.heap.size w wx) ∧ Hid ((L.any fun r => !prB r.s r.a r.b) = (L.drop q).any fun r => !prB r.s r.a r.b)) (fun i' _ => L.length - (intOf i').toNat)
  case atStart => exact ⟨0, Nat.zero_le _, rfl, HBW, qHd rfl⟩
  case round =>
   obtain ⟨q, hq, rfl, HBo, FB⟩ := hrel
   obtain ⟨wo, rfl⟩ : ∃ wo : World, wo = wr := ⟨_, rfl⟩
   by_cases hlt : q < L.length
   ·obtain ⟨x, hx⟩ : ∃ x, L[q]? = some x := ⟨L[q], List.getElem?_eq_getElem hlt⟩
    obtain ⟨bl, ol, rfl, hbl, hjk, hat⟩ := (HL.out.below HBo.out).at (by omega); clear hjk
    obtain ⟨va, vb, c0, c1, c2, n1, n2⟩ := hat q x hx
    have hmem := List.mem_of_getElem? hx
    have FD := qHd (drop_cons_of hx)
    clear hat hx
    obtain ⟨xs, xa, xb⟩ := x
    simp only at c0 c1 c2 n1 n2
    obtain ⟨ao, ca, rfl, ha1, ha2, _⟩ := n1.shape
    obtain ⟨bo, cb, rfl, hb1, hb2, _⟩ := n2.shape
    obtain ⟨w4, hw4, hb4, g4, hg4, hx4⟩ := qBx5 wo (.cells #[.bool xs, .slice ao xa.length ca, .slice bo xb.length cb] 54)
    have HB4 := qHd (HBo.out.trans (hb4.mono HBo.out.size))
    have HN := qHd (And.intro (n1.below hb4) (n2.below hb4))
    have G4 := qHd hx4
    have hltz : (q : Int) < (L.length : Int) := by omega
    clear hb4 n1 n2
    obtain ⟨z0, z1, z2⟩ := qay hx4
    rw [hw4, hg4] at z0 z1 z2
    rw [FD.out] at FB
    have HK := qHd (rprob_any (.agg #[.bool xs, .slice ao xa.length ca, .slice bo xb.length cb]) xs xa xb w4 ⟨_, _, rfl, HN.out.1, HN.out.2⟩ (by have := (HS.out _ hmem).1; simp only at this; omega) (by have := (HS.out _ hmem).2; simp only at this; omega))
    go_wp2_with (with_reducible refine qad ?_)
    rw [← hw4, ← hg4]; clear hw4 hg4 c0 c1 c2 z0 z1 z2 hx4
    refine qap.mk ?_
    (with_reducible refine HK.out.mono ?_); rintro e w5 ⟨rfl, hb5⟩
    have HB5 := qHd (HB4.out.trans (hb5.mono HB4.out.size))
    clear hb5 HK
    cases hp : prB xs xa xb
    ·have R := qHd (show probE f L = 3 by rw [P0.out, FB.out]; simp [hp])
     clear hp
     go_wp2_with fail
     go_ret
     exact ⟨by rw [R.out]; rfl, HB5.out⟩
    ·have NB := qHd (show (L.any fun r => !prB r.s r.a r.b) = (L.drop (q + 1)).any fun r => !prB r.s r.a r.b by rw [FB.out, List.any_cons]; simp [hp])
     clear hp
     go_wp2_with fail
     go_roundw
     case rel => exact ⟨q + 1, by omega, by go_num, HB5, NB⟩
     case measure => simp [intOf]; omega
   ·have hq' : q = L.length := by omega
    subst hq'
    have R := qHd (show probE f L = 0 by rw [P0.out, FB.out, List.drop_length]; rfl)
    go_wp2_with fail
    go_ret
    exact ⟨by rw [R.out]; rfl, HBo.out⟩
 ·have R := qHd (show probE f L = 11 by unfold probE; rw [if_pos h11])
  have h11' : (((L.length : Nat) : Int) != f.vars) = true := bne_iff_ne.2 h11
  go_enter Tryz.func48, Tryz.ntmps48
  go_wp2_with fail
  rw [← hW]
  go_ret
  exact ⟨by rw [R.out]; rfl, HBW.out⟩
theorem RvsV.lt {w : World} {v : Value} {L : List Rv} (h : RvsV w v L) : ∀ r ∈ L, U32 r.a ∧ U32 r.b := by
 intro r hr
 obtain ⟨j, hj, e⟩ := List.getElem_of_mem hr
 have hx : L[j]? = some r := by rw [List.getElem?_eq_getElem hj, e]
 obtain ⟨ao, c, rfl, hc, hc2, _⟩ := h.shape
 obtain ⟨b, off, rfl, hb, _, hat⟩ := h.at (by omega)
 obtain ⟨va, vb, _, _, _, n1, n2⟩ := hat j r hx
 exact ⟨n1.lt, n2.lt⟩
theorem bnd_rl {f : Fm} {t : Tr} {L : List Rv} (hs : sErr f t L = 0) (hsm : ∀ r ∈ L, r.a.length ≤ 3 ∧ r.b.length ≤ 3 ∧ rl r.q ≤ 3) (hlv : (qah t 0 0).length ≤ 300) : rl (bndV f t L).1 ≤ 39000 ∧ rl (bndV f t L).2 ≤ 39000 := by
 obtain ⟨h1, h2, _, _⟩ := qex hs
 have p1 := (qbe (qds h1).1).2.1
 have a1 := rl_sum (r := 1) (by omega : L.length ≤ 24) hsm hlv
 have a0 := rl_sum (r := 0) (by omega : L.length ≤ 24) hsm hlv
 unfold bndV
 rw [if_pos hs]
 refine ⟨Nat.le_trans a1 (by decide), ?_⟩
 have := rl_sub 1 (sumF (L.map Rv.q) 0 (qah t 0 0) 0)
 rw [rl_one] at this
 show rl (1 - sumF (L.map Rv.q) 0 (qah t 0 0) 0) ≤ 39000
 omega
theorem row_intsV {w : World} {g : Nat} {l : List Nat} {T : TypeId} (h : w.heap[g]? = some (.cells (ivals (qdq l)).toArray T)) (hl : ∀ j, gd l j ≤ 1000000) (hm : l.length ≤ 1000000) : qfd w (.slice (some ⟨g, 0, none⟩) l.length l.length) (qdq l) := by
 refine ⟨_, l.length, by rw [qbw], by rw [qbw]; exact Nat.le_refl _, by omega, fun h => (by cases h), ?_, nints_lt hl⟩
 intro b off s hs
 cases hs
 have hg : g < w.heap.size := (Array.getElem?_eq_some_iff.1 h).1
 refine ⟨fun _ => ⟨hg, rfl⟩, fun j x hj => ?_⟩
 rw [Nat.zero_add, cell_of_row w g j _ T (0, 0) h]
 simpa using ivals_at hj
theorem own_row {w : World} {B n : Nat} {e : TypeId} {xs : List Value} {g : Nat} (h : w.ownsRow B e 1 (.slice (some ⟨g, 0, none⟩) n n) n xs) : ∃ T, w.heap[g]? = some (.cells xs.toArray T) := by
 rcases h.2 with ⟨h1, _⟩ | ⟨g', cap, cur, h1, _, hh, _, _, hs, ht⟩
 ·cases h1
 ·cases h1
  refine ⟨e, ?_⟩
  rw [hh, ← ht, List.take_of_length_le (by rw [Array.length_toList]; omega)]
theorem rof_any (V : Nat) (ao : Option Addr) (m c : Nat) (T : Int) (R : List Nat) (vv : Value) (y n A : Nat) (w : World) (hv : qfd w vv (qdq R)) (hV : V ≤ 24) (hR : R.length ≤ 128) (hy : y < 16777216) (hn : n < 16777216) (hA : A < V + R.length) :
  Calls Tryz.prog 118 #[.agg #[.int .i64 V, .slice ao m c, .int .i64 T], vv, .agg #[.int .i64 (y : Nat), .int .i64 (n : Nat)], .int .i64 (A : Nat)] w (qea w (.int .i64 (gd (qcn V y n ++ R) A : Nat))) := by
 obtain ⟨av, cv, rfl, hcv, hcv2, hcv3⟩ := hv.shape
 rw [qbw] at hcv hv ⊢
 obtain ⟨W, hW, hbW, hg1, hg2⟩ := qBx2 w (.cells #[.int .i64 V, .slice ao m c, .int .i64 T] 24) (.cells #[.int .i64 (y : Nat), .int .i64 (n : Nat)] 46)
 obtain ⟨g1, hG1⟩ : ∃ g, g = w.heap.size := ⟨_, rfl⟩
 obtain ⟨g2, hG2⟩ : ∃ g, g = w.heap.size + 1 := ⟨_, rfl⟩
 rw [← hG1] at hg1; rw [← hG2] at hg2
 obtain ⟨x0, x1, x2⟩ := qay hg1
 obtain ⟨y0, y1⟩ := qcy hg2
 have HV := qHd (hv.below hbW); have HBW := qHd hbW; clear hv hbW hg1 hg2
 rw [hW, hG1] at x0 x1 x2
 rw [hW, hG2] at y0 y1
 obtain ⟨ys, y1', yt, hY⟩ := qgb (x := y) (i := A) (by omega)
 obtain ⟨ns, n1, nt, hN⟩ := qgb (x := n) (i := A) (by omega)
 obtain ⟨q1, q2, q3, q4⟩ := hY
 obtain ⟨r1, r2, r3, r4⟩ := hN
 by_cases h : A < V
 ·have h' : (A : Int) < (V : Int) := by omega
  have hval : gd (qcn V y n ++ R) A = ev3 y n A := by
   rw [gd_append, qbf, if_pos h, qdl, if_pos h]
  rw [hval]; unfold ev3; rw [q4, r4]
  cases yt
  ·cases nt
   ·go_enter Tryz.func118, Tryz.ntmps118
    go_wp2_with fail
    rw [← hW]
    go_ret
    exact ⟨rfl, HBW.out⟩
   ·go_enter Tryz.func118, Tryz.ntmps118
    go_wp2_with fail
    rw [← hW]
    go_ret
    exact ⟨rfl, HBW.out⟩
  ·go_enter Tryz.func118, Tryz.ntmps118
   go_wp2_with fail
   rw [← hW]
   go_ret
   exact ⟨rfl, HBW.out⟩
 ·have h' : (V : Int) ≤ (A : Int) := by omega
  have hval : gd (qcn V y n ++ R) A = gd R (A - V) := by
   rw [gd_append, qbf, if_neg h]
  rw [hval]
  obtain ⟨b, off, rfl, hb, hlen, hat⟩ := HV.out.at (by omega)
  have ca := hat (A - V) _ (nints_at (by omega))
  have hs : (A : Int) - (V : Int) = ((A - V : Nat) : Int) := by omega
  rw [hW] at ca
  have hDl : ((A - V : Nat) : Int) < (R.length : Int) := by omega
  go_enter Tryz.func118, Tryz.ntmps118
  go_wp2_with fail
  rw [← hW]
  go_ret
  exact ⟨rfl, HBW.out⟩
theorem putL_30 {w : World} {g : Nat} {x0 x1 x2 y : Value} {T : TypeId} (h : w.heap[g]? = some (.cells #[x0, x1, x2] T)) : (qel w g 0 [y]).heap[g]? = some (.cells #[y, x1, x2] T) := by
 simp [qel, World.setCell, Array.getElem?_modify, h]
theorem putL_31 {w : World} {g : Nat} {x0 x1 x2 y : Value} {T : TypeId} (h : w.heap[g]? = some (.cells #[x0, x1, x2] T)) : (qel w g 1 [y]).heap[g]? = some (.cells #[x0, y, x2] T) := by
 simp [qel, World.setCell, Array.getElem?_modify, h]
theorem putL_32 {w : World} {g : Nat} {x0 x1 x2 y : Value} {T : TypeId} (h : w.heap[g]? = some (.cells #[x0, x1, x2] T)) : (qel w g 2 [y]).heap[g]? = some (.cells #[x0, x1, y] T) := by
 simp [qel, World.setCell, Array.getElem?_modify, h]
theorem putL_row {w : World} {g j : Nat} {l : List Nat} {T : TypeId} (h : w.heap[g]? = some (.cells (ivals (qdq l)).toArray T)) (x : Nat) : (qel w g j [.int .i64 (x : Int)]).heap[g]? = some (.cells (ivals (qdq (l.set j x))).toArray T) := by
 simp [qel, World.setCell, Array.getElem?_modify, h, ivals, qdq, List.map_set]
def qep (V y n : Nat) (ns : List Nd) (j : Nat) : List Nat := (qck (qcn V y n) (ns.take j)).drop V ++ List.replicate (ns.length - j) 0
theorem qce (V y n : Nat) (ns : List Nd) (j : Nat) (hj : j ≤ ns.length) : (qep V y n ns j).length = ns.length := by
 unfold qep; simp only [List.length_append, List.length_drop, qcs, qbf, List.length_take, List.length_replicate]; omega
theorem refRow_zero (V y n : Nat) (ns : List Nd) : qep V y n ns 0 = List.replicate ns.length 0 := by
 unfold qep; rw [List.take_zero]; simp [qck, qbf]
theorem refRow_full (V y n : Nat) (ns : List Nd) : qep V y n ns ns.length = (qck (qcn V y n) ns).drop V := by
 unfold qep; rw [List.take_length]; simp
theorem valsN_split (V y n : Nat) (l : List Nd) : qcn V y n ++ (qck (qcn V y n) l).drop V = qck (qcn V y n) l := by
 apply List.ext_getElem?
 intro i
 by_cases h : i < V
 ·rw [List.getElem?_append_left (by rw [qbf]; exact h)]
  have h1 := valsN_pre l (qcn V y n) i (by rw [qbf]; exact h)
  have hl : i < (qck (qcn V y n) l).length := by rw [qcs, qbf]; omega
  rw [gd_lt _ _ hl, gd_lt _ _ (by rw [qbf]; exact h)] at h1
  rw [List.getElem?_eq_getElem hl, List.getElem?_eq_getElem (by rw [qbf]; exact h), h1]
 ·rw [List.getElem?_append_right (by rw [qbf]; omega), qbf, List.getElem?_drop]
  congr 1; omega
theorem refRow_gd {V y n : Nat} {ns : List Nd} {j A : Nat} (hj : j ≤ ns.length) (hA : A < V + j) : gd (qcn V y n ++ qep V y n ns j) A = gd (qck (qcn V y n) (ns.take j)) A := by
 unfold qep
 rw [← List.append_assoc, valsN_split, gd_append, if_pos (by rw [qcs, qbf, List.length_take]; omega)]
theorem qfk {V y n : Nat} {ns : List Nd} {j nx : Nat} {vs : List Nat} (hj : j < ns.length) (h : qck (qcn V y n) (ns.take (j + 1)) = vs ++ [nx]) (hvs : vs = qck (qcn V y n) (ns.take j)) : qep V y n ns (j + 1) = (qep V y n ns j).set j nx := by
 have hl : (vs.drop V).length = j := by rw [hvs, List.length_drop, qcs, qbf, List.length_take]; omega
 have hl2 : V ≤ vs.length := by rw [hvs, qcs, qbf]; omega
 unfold qep
 rw [h, ← hvs, List.set_append, if_neg (by omega), hl, Nat.sub_self, List.drop_append_of_le_length hl2, show ns.length - j = (ns.length - (j + 1)) + 1 by omega, List.replicate_succ, List.set_cons_zero]
 simp
theorem refRow_le {V y n : Nat} {ns : List Nd} {j : Nat} (h : ∀ k, gd (qck (qcn V y n) (ns.take j)) k ≤ 2) (i : Nat) : gd (qep V y n ns j) i ≤ 1000000 := by
 unfold qep
 rw [gd_append]
 split
 ·have := h (V + i)
  unfold gd at this ⊢
  rw [List.getD_eq_getElem?_getD, List.getElem?_drop, ← List.getD_eq_getElem?_getD]; omega
 ·unfold gd; rw [List.getD_eq_getElem?_getD, List.getElem?_replicate]; split <;> simp

theorem rvalues_any (vf : Value) (f : Fm) (y n : Nat) (w : World) (hf : FmV w vf f) (h0 : qcc f = 0) (hcu : CubeOK f.vars y n) :
  Calls Tryz.prog 119 #[vf, .agg #[.int .i64 (y : Nat), .int .i64 (n : Nat)]] w (RetInts w (qdq ((qdt f y n).drop f.vars.toNat))) := by
 obtain ⟨vb, yb⟩ := hcu.small
 obtain ⟨p0, p1, p2, p3⟩ := qbe h0
 obtain ⟨nv, rfl, hn, hv, ht⟩ := hf
 obtain ⟨ao, c, rfl, hc, hc2, _⟩ := hn.shape
 obtain ⟨v, ns, top⟩ := f
 simp only at hv hc ht hn p0 p1 p2 p3 ⊢
 obtain ⟨V, rfl⟩ : ∃ V : Nat, v = V := ⟨v.toNat, by omega⟩
 have HN := qHd hn; clear hn
 have HP := qHd p3; clear p3 hcu h0 ht hv
 have p2' : (ns.length : Int) ≤ 128 := by omega
 obtain ⟨W, hW, hbW, hg1, hg2⟩ := qBx2 w (.cells #[.int .i64 V, .slice ao ns.length c, .int .i64 top] 24) (.cells #[.int .i64 (y : Nat), .int .i64 (n : Nat)] 46)
 obtain ⟨g1, hG1⟩ : ∃ g, g = w.heap.size := ⟨_, rfl⟩
 obtain ⟨g2, hG2⟩ : ∃ g, g = w.heap.size + 1 := ⟨_, rfl⟩
 rw [← hG1] at hg1; rw [← hG2] at hg2
 have G1 := qHd hg1; have G2 := qHd hg2; clear hg1 hg2
 have HBW := qHd hbW; clear hbW
 obtain ⟨x0, x1, x2⟩ := qay G1.out
 go_enter Tryz.func119, Tryz.ntmps119
 go_wp2_with (with_reducible refine wpList_pauseM ?_)
 rw [← hW, ← hG2, ← hG1]
 clear hW hG1 hG2
 refine wpList_makeF W.heap.size Tryz.intTy rfl ns.length rfl rfl (by omega) (by omega) (by omega) (by decide) (Nat.le_refl _) ?_
 intro w1 ho1 hgr1
 have hb1 : Below W.heap.size W w1 := (Below.refl _ _).grown hgr1 (Nat.le_refl _) (fun k hk => by cases hk)
 obtain ⟨g5, hG5⟩ : ∃ g, g = W.heap.size := ⟨_, rfl⟩
 rw [← hG5] at ho1 ⊢
 obtain ⟨T5, hg5⟩ := own_row ho1
 have l5 : W.heap.size ≤ g5 := by omega
 clear hgr1 x0 x1 x2 ho1
 have HG5 := qHd (show w1.heap[g5]? = some (.cells (ivals (qdq (qep V y n ns 0))).toArray T5) by rw [hg5, refRow_zero]; simp [ivals, qdq])
 have HB1 := qHd hb1; clear hb1 hg5 hG5
 obtain ⟨x0, x1, x2⟩ := qay (qaa G1.out HB1.out)
 go_wp2_with fail
 clear x0 x1 x2
 go_loopw [19] (fun i' wx => ∃ j : Nat, j ≤ ns.length ∧ i' = .int .i64 j ∧ Hid (Below W.heap.size W wx) ∧ Hid (wx.heap[g5]? = some (.cells (ivals (qdq (qep V y n ns j))).toArray T5))) (fun i' _ => ns.length - (intOf i').toNat)
 case atStart => exact ⟨0, Nat.zero_le _, rfl, HB1, HG5⟩
 case round =>
  obtain ⟨j, hj, rfl, HBX, G5⟩ := hrel
  obtain ⟨wo, rfl⟩ : ∃ wo : World, wo = wr := ⟨_, rfl⟩
  have HBV := qHd (HBW.out.trans (HBX.out.mono HBW.out.size))
  by_cases hlt : j < ns.length
  ·have hj' := hlt
   obtain ⟨x, hx⟩ : ∃ x, ns[j]? = some x := ⟨ns[j], List.getElem?_eq_getElem hlt⟩
   obtain ⟨b, off, rfl, hb, _, hat⟩ := (HN.out.below HBV.out).at (by omega)
   obtain ⟨c0, c1, ⟨av, c2, hI⟩, hk, hK⟩ := hat j x hx
   clear hat
   have he := ndsErr_at ns 0 HP.out j x hx
   rw [Nat.zero_add] at he
   have hle := fun k => valsN_le (ns.take j) 0 (qcn V y n) (ndsOK_take ns 0 j HP.out) (fun k => by rw [qdl]; split <;> first | exact ev3_le _ _ _ | omega) k
   have hlen : (qck (qcn V y n) (ns.take j)).length = V + j := by rw [qcs, qbf, List.length_take]; omega
   have hnext := valsN_take hx (qcn V y n)
   have RGD := qHd (fun A (h : A < V + j) => refRow_gd (V := V) (y := y) (n := n) (ns := ns) hj h)
   have RLE := qHd (refRow_le (V := V) (y := y) (n := n) (ns := ns) (j := j) hle)
   obtain ⟨vs, hvs⟩ : ∃ vs, vs = qck (qcn V y n) (ns.take j) := ⟨_, rfl⟩
   rw [← hvs] at hle hlen hnext RGD
   have HNX := qHd hnext; have HLE := qHd hle; have HLN := qHd hlen; clear hnext hle hlen
   have hvs := qHd hvs
   have HX := qHd hx; clear hx
   have ha16 := nd_16 he
   have HARG := qHd (ndErr_arg he)
   have HE := qHd he; clear he
   obtain ⟨kind, K, args⟩ := x
   simp only at c0 c1 c2 hI hk hK ha16 HARG
   obtain ⟨ao', c', rfl, hc', hc2', _⟩ := hI.shape
   have HI := qHd hI; clear hI
   have HK := qHd (And.intro hk hK); clear hk hK
   have hltz : (j : Int) < (ns.length : Int) := by omega
   obtain ⟨x0, x1, x2⟩ := qay (qaa G1.out HBX.out)
   go_wp2_with (with_reducible first | refine qai ?_ | refine qag ?_)
   clear x0 x1 x2 c0 c1 c2
   refine qap.mk ?_
   obtain ⟨W3, hW3⟩ : ∃ W3, W3 = (wo.alloc (.cells #[.int .i64 kind, .int .i64 K, .slice ao' args.length c'] 82)).alloc (.cells #[.int .i64 0, .int .i64 0, .int .i64 0] 200) := ⟨_, rfl⟩
   have hb3 : Below wo.heap.size wo W3 := by rw [hW3]; exact ((Below.refl _ _).alloc (Nat.le_refl _) _).alloc (by simp) _
   have hg7 : W3.heap[wo.heap.size]? = some (.cells #[.int .i64 kind, .int .i64 K, .slice ao' args.length c'] 82) := by rw [hW3]; exact heap_alloc2_old wo _ _
   have hg8 : W3.heap[wo.heap.size + 1]? = some (.cells #[.int .i64 ((0 : Nat) : Int), .int .i64 ((0 : Nat) : Int), .int .i64 ((0 : Nat) : Int)] 200) := by rw [hW3]; exact heap_alloc2_new wo _ _
   rw [← hW3]; clear hW3
   obtain ⟨g8, hG8⟩ : ∃ g, g = wo.heap.size + 1 := ⟨_, rfl⟩
   obtain ⟨g7, hG7⟩ : ∃ g, g = wo.heap.size := ⟨_, rfl⟩
   rw [← hG8] at hg8 ⊢; rw [← hG7] at hg7 ⊢
   have l8 : wo.heap.size ≤ g8 := by omega
   have n78 : g7 ≠ g8 := by omega
   clear hG7 hG8
   have HB3 := qHd hb3; have HG7 := qHd hg7; have HG8 := qHd hg8; clear hb3 hg7 hg8
   go_loopw [28] (fun i' wx => ∃ k n0 n1 n2 : Nat, k ≤ args.length ∧ i' = .int .i64 k ∧ n0 ≤ k ∧ n1 ≤ k ∧ n2 ≤ k ∧ n0 + n1 + n2 = k ∧ Hid (Below wo.heap.size wo wx) ∧ Hid (wx.heap[g7]? = some (.cells #[.int .i64 kind, .int .i64 K, .slice ao' args.length c'] 82)) ∧ Hid (wx.heap[g8]? = some (.cells #[.int .i64 ((n0 : Nat) : Int), .int .i64 ((n1 : Nat) : Int), .int .i64 ((n2 : Nat) : Int)] 200)) ∧ Hid (n0 = cntV vs (args.take k) 0 ∧ n1 = cntV vs (args.take k) 1 ∧ n2 = cntV vs (args.take k) 2)) (fun i' _ => args.length - (intOf i').toNat)
   case atStart => exact ⟨0, 0, 0, 0, Nat.zero_le _, rfl, Nat.le_refl _, Nat.le_refl _, Nat.le_refl _, rfl, HB3, HG7, HG8, qHd ⟨rfl, rfl, rfl⟩⟩
   case round =>
    obtain ⟨k, n0, n1, n2, hk, rfl, q0, q1, q2, qs, HBO, G7, G8, CN⟩ := hrel
    obtain ⟨wi, rfl⟩ : ∃ wi : World, wi = wr := ⟨_, rfl⟩
    have HBY := qHd (HBX.out.trans (HBO.out.mono HBX.out.size))
    have HBE := qHd (HBW.out.trans (HBY.out.mono HBW.out.size))
    have G5 := qHd (qaa G5.out HBO.out)
    by_cases hlk : k < args.length
    ·obtain ⟨ba, offa, rfl, hba, _, hata⟩ := (HI.out.below HBO.out).at (by omega)
     obtain ⟨a, hqa⟩ : ∃ a, args[k]? = some a := ⟨args[k], List.getElem?_eq_getElem hlk⟩
     have ca := hata k a hqa
     clear hata
     have hla := HARG.out a (List.mem_of_getElem? hqa)
     obtain ⟨A, rfl⟩ : ∃ A : Nat, a = A := ⟨a.toNat, by omega⟩
     have hAl : A < V + j := by omega
     have hx2 := HLE.out A
     have hlk' : (k : Int) < (args.length : Int) := by omega
     have S := fun z => cntV_snoc vs (args.take k) (A : Int) z
     rw [← qen hqa] at S
     rw [Int.toNat_natCast] at S
     have hIV := row_intsV G5.out RLE.out (by rw [qce _ _ _ _ _ hj]; omega)
     rw [qce _ _ _ _ _ hj] at hIV
     have HC := qHd (rof_any V (some ⟨b, off, none⟩) ns.length c top (qep V y n ns j) _ y n A wi hIV (by omega) (by rw [qce _ _ _ _ _ hj]; omega) vb yb (by rw [qce _ _ _ _ _ hj]; omega))
     rw [RGD.out A hAl] at HC
     clear hIV
     obtain ⟨xv, hxv⟩ : ∃ xv, xv = gd vs A := ⟨_, rfl⟩
     rw [← hxv] at HC hx2 S
     have SS := qHd S; clear S hqa hxv
     obtain ⟨x0, x1, x2⟩ := qay (qaa G1.out HBY.out)
     obtain ⟨y0, y1⟩ := qcy (qaa G2.out HBY.out)
     go_wp2_with (with_reducible refine qad ?_)
     clear x0 x1 x2 y0 y1 ca
     refine qap.mk ?_
     (with_reducible refine HC.out.mono ?_); rintro e w2 ⟨rfl, hb2⟩
     have HBO := qHd (HBO.out.trans (hb2.mono HBO.out.size))
     have G7 := qHd (qaa G7.out hb2); have G8 := qHd (qaa G8.out hb2)
     clear hb2 HC
     obtain ⟨z0, z1, z2⟩ := qay G8.out
     have h3 : xv = 0 ∨ xv = 1 ∨ xv = 2 := by omega
     rcases h3 with rfl | rfl | rfl
     ·go_wp2_with (with_reducible refine qaf ?_)
      refine qdc g8 0 ((n0 : Int) + 1) G8.out rfl rfl (by simp) (by kernel_rfl) ?_
      intro w3 hp3
      have HB3 := qHd (qbl hp3 HBO.out l8)
      have G73 := qHd (qbr hp3 G7.out n78)
      have G83 := qHd (show w3.heap[g8]? = some (.cells #[.int .i64 ((n0 + 1 : Nat) : Int), .int .i64 ((n1 : Nat) : Int), .int .i64 ((n2 : Nat) : Int)] 200) by rw [hp3]; exact putL_30 G8.out)
      clear hp3
      go_wp2_with fail
      go_roundw
      case rel => exact ⟨k + 1, n0 + 1, n1, n2, by omega, by go_num, by omega, by omega, by omega, by omega, HB3, G73, G83, qHd ⟨by rw [SS.out, CN.out.1]; rfl, by rw [SS.out, CN.out.2.1]; rfl, by rw [SS.out, CN.out.2.2]; rfl⟩⟩
      case measure => simp [intOf]; omega
     ·go_wp2_with (with_reducible refine qaf ?_)
      refine qdc g8 1 ((n1 : Int) + 1) G8.out rfl rfl (by simp) (by kernel_rfl) ?_
      intro w3 hp3
      have HB3 := qHd (qbl hp3 HBO.out l8)
      have G73 := qHd (qbr hp3 G7.out n78)
      have G83 := qHd (show w3.heap[g8]? = some (.cells #[.int .i64 ((n0 : Nat) : Int), .int .i64 ((n1 + 1 : Nat) : Int), .int .i64 ((n2 : Nat) : Int)] 200) by rw [hp3]; exact putL_31 G8.out)
      clear hp3
      go_wp2_with fail
      go_roundw
      case rel => exact ⟨k + 1, n0, n1 + 1, n2, by omega, by go_num, by omega, by omega, by omega, by omega, HB3, G73, G83, qHd ⟨by rw [SS.out, CN.out.1]; rfl, by rw [SS.out, CN.out.2.1]; rfl, by rw [SS.out, CN.out.2.2]; rfl⟩⟩
      case measure => simp [intOf]; omega
     ·go_wp2_with (with_reducible refine qaf ?_)
      refine qdc g8 2 ((n2 : Int) + 1) G8.out rfl rfl (by simp) (by kernel_rfl) ?_
      intro w3 hp3
      have HB3 := qHd (qbl hp3 HBO.out l8)
      have G73 := qHd (qbr hp3 G7.out n78)
      have G83 := qHd (show w3.heap[g8]? = some (.cells #[.int .i64 ((n0 : Nat) : Int), .int .i64 ((n1 : Nat) : Int), .int .i64 ((n2 + 1 : Nat) : Int)] 200) by rw [hp3]; exact putL_32 G8.out)
      clear hp3
      go_wp2_with fail
      go_roundw
      case rel => exact ⟨k + 1, n0, n1, n2 + 1, by omega, by go_num, by omega, by omega, by omega, by omega, HB3, G73, G83, qHd ⟨by rw [SS.out, CN.out.1]; rfl, by rw [SS.out, CN.out.2.1]; rfl, by rw [SS.out, CN.out.2.2]; rfl⟩⟩
      case measure => simp [intOf]; omega
    ·have hk' : k = args.length := by omega
     subst hk'
     have CN := qHd CN.out
     rw [List.take_length] at CN
     obtain ⟨x0, x1, x2⟩ := qay G7.out
     obtain ⟨z0, z1, z2⟩ := qay G8.out
     have h7 : ¬ (kind < 0 ∨ 5 < kind) := fun h => by have h0 := HE.out; unfold qdh at h0; rw [if_pos h] at h0; cases h0
     have hK0 := ndErr_K HE.out
     have HKK := HK.out
     unfold I64 at HKK
     simp only at h7 hK0
     obtain ⟨nx, hnx⟩ : ∃ nx, nx = ndVal ⟨kind, K, args⟩ n0 n1 n2 := ⟨_, rfl⟩
     have HNX2 := qHd (show qck (qcn V y n) (ns.take (j + 1)) = vs ++ [nx] by rw [HNX.out, hnx, CN.out.1, CN.out.2.1, CN.out.2.2])
     have HX2 := qHd hnx; clear hnx
     clear CN
     have hkk : kind = 0 ∨ kind = 1 ∨ kind = 2 ∨ kind = 3 ∨ kind = 4 ∨ kind = 5 := by omega
     rcases hkk with rfl | rfl | rfl | rfl | rfl | rfl
     ·skip
      have hKz := qHd (hK0 rfl); clear hK0 h7
      go_wp2_with (with_reducible refine qad ?_)
      refine qap.mk ?_
      (with_reducible refine (truth_any _ _ _).mono ?_); rintro e w1 ⟨rfl, rfl⟩
      go_wp2_with (with_reducible refine qaf ?_)
      refine qdc g5 j (nx : Nat) G5.out (by rfl) ?hy (by rw [List.size_toArray, qeu, qbw, qce _ _ _ _ _ hj]; omega) (by kernel_rfl) ?_
      case hy =>
       refine congrArg (fun n : Nat => Value.int .i64 (n : Int)) ?_
       rw [HX2.out]
       rcases hKz.out with rfl | rfl <;> rfl
      intro w5 hp5
      have HB5 := qHd (qbl hp5 HBY.out l5)
      have G55 := qHd (show w5.heap[g5]? = some (.cells (ivals (qdq (qep V y n ns (j + 1)))).toArray T5) by rw [hp5, qfk hj' HNX2.out hvs.out]; exact putL_row G5.out _)
      clear hp5
      go_wp2_with fail
      go_roundw
      case rel => exact ⟨j + 1, by omega, by go_num, HB5, G55⟩
      case measure => simp [intOf]; omega
     ·skip
      clear hK0 h7
      go_wp2_with (with_reducible refine qad ?_)
      refine qap.mk ?_
      (with_reducible refine (truth_any _ _ _).mono ?_); rintro e w1 ⟨rfl, rfl⟩
      go_wp2_with (with_reducible refine qaf ?_)
      refine qdc g5 j (nx : Nat) G5.out (by rfl) ?hy (by rw [List.size_toArray, qeu, qbw, qce _ _ _ _ _ hj]; omega) (by kernel_rfl) ?_
      case hy =>
       refine congrArg (fun n : Nat => Value.int .i64 (n : Int)) ?_
       rw [HX2.out]
       refine (qeq ?_ ?_)
       ·first | (rw [Bool.eq_iff_iff]; simp; done) | (rw [Bool.eq_iff_iff]; simp; omega) | rw [Bool.eq_iff_iff]
       ·first | (rw [Bool.eq_iff_iff]; simp; done) | (rw [Bool.eq_iff_iff]; simp; omega) | rw [Bool.eq_iff_iff]
      intro w5 hp5
      have HB5 := qHd (qbl hp5 HBY.out l5)
      have G55 := qHd (show w5.heap[g5]? = some (.cells (ivals (qdq (qep V y n ns (j + 1)))).toArray T5) by rw [hp5, qfk hj' HNX2.out hvs.out]; exact putL_row G5.out _)
      clear hp5
      go_wp2_with fail
      go_roundw
      case rel => exact ⟨j + 1, by omega, by go_num, HB5, G55⟩
      case measure => simp [intOf]; omega
     ·skip
      clear hK0 h7
      go_wp2_with (with_reducible refine qad ?_)
      refine qap.mk ?_
      (with_reducible refine (truth_any _ _ _).mono ?_); rintro e w1 ⟨rfl, rfl⟩
      go_wp2_with (with_reducible refine qaf ?_)
      refine qdc g5 j (nx : Nat) G5.out (by rfl) ?hy (by rw [List.size_toArray, qeu, qbw, qce _ _ _ _ _ hj]; omega) (by kernel_rfl) ?_
      case hy =>
       refine congrArg (fun n : Nat => Value.int .i64 (n : Int)) ?_
       rw [HX2.out]
       refine (qeq ?_ ?_)
       ·first | (rw [Bool.eq_iff_iff]; simp; done) | (rw [Bool.eq_iff_iff]; simp; omega) | rw [Bool.eq_iff_iff]
       ·first | (rw [Bool.eq_iff_iff]; simp; done) | (rw [Bool.eq_iff_iff]; simp; omega) | rw [Bool.eq_iff_iff]
      intro w5 hp5
      have HB5 := qHd (qbl hp5 HBY.out l5)
      have G55 := qHd (show w5.heap[g5]? = some (.cells (ivals (qdq (qep V y n ns (j + 1)))).toArray T5) by rw [hp5, qfk hj' HNX2.out hvs.out]; exact putL_row G5.out _)
      clear hp5
      go_wp2_with fail
      go_roundw
      case rel => exact ⟨j + 1, by omega, by go_num, HB5, G55⟩
      case measure => simp [intOf]; omega
     ·skip
      clear hK0 h7
      go_wp2_with (with_reducible refine qad ?_)
      refine qap.mk ?_
      (with_reducible refine (truth_any _ _ _).mono ?_); rintro e w1 ⟨rfl, rfl⟩
      go_wp2_with (with_reducible refine qaf ?_)
      refine qdc g5 j (nx : Nat) G5.out (by rfl) ?hy (by rw [List.size_toArray, qeu, qbw, qce _ _ _ _ _ hj]; omega) (by kernel_rfl) ?_
      case hy =>
       refine congrArg (fun n : Nat => Value.int .i64 (n : Int)) ?_
       rw [HX2.out]
       refine (qeq ?_ ?_)
       ·first | (rw [Bool.eq_iff_iff]; simp; done) | (rw [Bool.eq_iff_iff]; simp; omega) | rw [Bool.eq_iff_iff]
       ·first | (rw [Bool.eq_iff_iff]; simp; done) | (rw [Bool.eq_iff_iff]; simp; omega) | rw [Bool.eq_iff_iff]
      intro w5 hp5
      have HB5 := qHd (qbl hp5 HBY.out l5)
      have G55 := qHd (show w5.heap[g5]? = some (.cells (ivals (qdq (qep V y n ns (j + 1)))).toArray T5) by rw [hp5, qfk hj' HNX2.out hvs.out]; exact putL_row G5.out _)
      clear hp5
      go_wp2_with fail
      go_roundw
      case rel => exact ⟨j + 1, by omega, by go_num, HB5, G55⟩
      case measure => simp [intOf]; omega
     ·skip
      clear hK0 h7
      go_wp2_with (with_reducible refine qad ?_)
      refine qap.mk ?_
      (with_reducible refine (truth_any _ _ _).mono ?_); rintro e w1 ⟨rfl, rfl⟩
      go_wp2_with (with_reducible refine qaf ?_)
      refine qdc g5 j (nx : Nat) G5.out (by rfl) ?hy (by rw [List.size_toArray, qeu, qbw, qce _ _ _ _ _ hj]; omega) (by kernel_rfl) ?_
      case hy =>
       refine congrArg (fun n : Nat => Value.int .i64 (n : Int)) ?_
       rw [HX2.out]
       refine (qeq ?_ ?_)
       ·first | (rw [Bool.eq_iff_iff]; simp; done) | (rw [Bool.eq_iff_iff]; simp; omega) | rw [Bool.eq_iff_iff]
       ·first | (rw [Bool.eq_iff_iff]; simp; done) | (rw [Bool.eq_iff_iff]; simp; omega) | rw [Bool.eq_iff_iff]
      intro w5 hp5
      have HB5 := qHd (qbl hp5 HBY.out l5)
      have G55 := qHd (show w5.heap[g5]? = some (.cells (ivals (qdq (qep V y n ns (j + 1)))).toArray T5) by rw [hp5, qfk hj' HNX2.out hvs.out]; exact putL_row G5.out _)
      clear hp5
      go_wp2_with fail
      go_roundw
      case rel => exact ⟨j + 1, by omega, by go_num, HB5, G55⟩
      case measure => simp [intOf]; omega
     ·clear hK0 h7
      have m0 : decide ((((n1 : Nat) : Int).tmod 2) = 1) = decide (n1 % 2 = 1) := by rw [Int.tmod_eq_emod_of_nonneg (by omega), Bool.eq_iff_iff]; simp; omega
      by_cases e2 : n2 = 0
      ·subst e2
       go_wp2_with (with_reducible refine qad ?_)
       refine qap.mk ?_
       (with_reducible refine (truth_any _ _ _).mono ?_); rintro e w1 ⟨rfl, rfl⟩
       go_wp2_with (with_reducible refine qaf ?_)
       refine qdc g5 j (nx : Nat) G5.out (by rfl) ?hy (by rw [List.size_toArray, qeu, qbw, qce _ _ _ _ _ hj]; omega) (by kernel_rfl) ?_
       case hy =>
        refine congrArg (fun n : Nat => Value.int .i64 (n : Int)) ?_
        rw [HX2.out]
        rw [ndVal_5 rfl]
        unfold lev
        rcases Nat.mod_two_eq_zero_or_one n1 with h | h <;> first | (simp [h]; done) | (simp [h]; omega)
       intro w5 hp5
       have HB5 := qHd (qbl hp5 HBY.out l5)
       have G55 := qHd (show w5.heap[g5]? = some (.cells (ivals (qdq (qep V y n ns (j + 1)))).toArray T5) by rw [hp5, qfk hj' HNX2.out hvs.out]; exact putL_row G5.out _)
       clear hp5
       go_wp2_with fail
       go_roundw
       case rel => exact ⟨j + 1, by omega, by go_num, HB5, G55⟩
       case measure => simp [intOf]; omega
      ·have e2' : ¬ ((n2 : Nat) : Int) = 0 := by omega
       go_wp2_with (with_reducible refine qad ?_)
       refine qap.mk ?_
       (with_reducible refine (truth_any _ _ _).mono ?_); rintro e w1 ⟨rfl, rfl⟩
       go_wp2_with (with_reducible refine qaf ?_)
       refine qdc g5 j (nx : Nat) G5.out (by rfl) ?hy (by rw [List.size_toArray, qeu, qbw, qce _ _ _ _ _ hj]; omega) (by kernel_rfl) ?_
       case hy =>
        refine congrArg (fun n : Nat => Value.int .i64 (n : Int)) ?_
        rw [HX2.out]
        rw [ndVal_5 rfl]
        refine (qeq ?_ ?_)
        ·first | (rw [Bool.eq_iff_iff]; simp; done) | (rw [Bool.eq_iff_iff]; simp; omega) | rw [Bool.eq_iff_iff]
        ·first | (rw [Bool.eq_iff_iff]; simp; done) | (rw [Bool.eq_iff_iff]; simp; omega) | rw [Bool.eq_iff_iff]
       intro w5 hp5
       have HB5 := qHd (qbl hp5 HBY.out l5)
       have G55 := qHd (show w5.heap[g5]? = some (.cells (ivals (qdq (qep V y n ns (j + 1)))).toArray T5) by rw [hp5, qfk hj' HNX2.out hvs.out]; exact putL_row G5.out _)
       clear hp5
       go_wp2_with fail
       go_roundw
       case rel => exact ⟨j + 1, by omega, by go_num, HB5, G55⟩
       case measure => simp [intOf]; omega
  ·have hj' : j = ns.length := by omega
   subst hj'
   have hle := fun k => valsN_le (ns.take ns.length) 0 (qcn V y n) (ndsOK_take ns 0 ns.length HP.out) (fun k => by rw [qdl]; split <;> first | exact ev3_le _ _ _ | omega) k
   have hIV := row_intsV G5.out (refRow_le (V := V) (y := y) (n := n) (ns := ns) hle) (by rw [qce _ _ _ _ _ hj]; omega)
   rw [qce _ _ _ _ _ hj, refRow_full] at hIV
   have HIV := qHd hIV; clear hIV hle
   go_wp2_with fail
   go_ret
   exact ⟨_, rfl, HBV.out, HIV.out⟩
theorem rvalue_any (vf : Value) (f : Fm) (y n : Nat) (w : World) (hf : FmV w vf f) (h0 : qcc f = 0) (hcu : CubeOK f.vars y n) :
  Calls Tryz.prog 79 #[vf, .agg #[.int .i64 (y : Nat), .int .i64 (n : Nat)]] w (qea w (.int .i64 (qco f y n : Nat))) := by
 obtain ⟨vb, yb⟩ := hcu.small
 obtain ⟨p0, p1, p2, p3⟩ := qbe h0
 have htop := fmErr_top h0
 obtain ⟨nv, rfl, hn, hv, ht⟩ := hf
 obtain ⟨ao, c, rfl, hc, hc2, _⟩ := hn.shape
 have hF := (show FmV w _ f from ⟨_, rfl, hn, hv, ht⟩)
 obtain ⟨v, ns, top⟩ := f
 simp only at hv hc ht hn p0 p1 p2 p3 htop ⊢
 obtain ⟨V, rfl⟩ : ∃ V : Nat, v = V := ⟨v.toNat, by omega⟩
 obtain ⟨T, rfl⟩ : ∃ T : Nat, top = T := ⟨top.toNat, by omega⟩
 have HF := qHd hF; have HC := qHd hcu; have E0 := qHd h0
 have hT : T < V + ns.length := by omega
 obtain ⟨R, hR⟩ : ∃ R, R = (qdt ⟨V, ns, T⟩ y n).drop (V : Int).toNat := ⟨_, rfl⟩
 obtain ⟨fv, hfv⟩ : ∃ fv, fv = qco ⟨V, ns, T⟩ y n := ⟨_, rfl⟩
 have HV := qHd (show gd (qcn V y n ++ R) T = fv by
  rw [hfv, hR]; unfold qco qdt; simp only [Int.toNat_natCast]; rw [valsN_split])
 have HL := qHd (show R.length = ns.length by rw [hR, List.length_drop, qdk]; simp only [Int.toNat_natCast]; omega)
 have HR := qHd hR
 rw [← hfv]
 clear hF hcu h0 p3 hv ht htop hn p0 hfv hR
 obtain ⟨W, hW, hbW, hg1, hg2⟩ := qBx2 w (.cells #[.int .i64 V, .slice ao ns.length c, .int .i64 T] 24) (.cells #[.int .i64 (y : Nat), .int .i64 (n : Nat)] 46)
 obtain ⟨g1, hG1⟩ : ∃ g, g = w.heap.size := ⟨_, rfl⟩
 obtain ⟨g2, hG2⟩ : ∃ g, g = w.heap.size + 1 := ⟨_, rfl⟩
 rw [← hG1] at hg1; rw [← hG2] at hg2
 have HBW := qHd hbW; have G1 := qHd hg1; have G2 := qHd hg2; clear hbW hg1 hg2
 go_enter Tryz.func79, Tryz.ntmps79
 go_wp2_with (with_reducible first | refine qad ?_ | refine qai ?_ | refine qaj ?_ | refine qak ?_ | refine qag ?_)
 rw [← hW]; clear hW
 rw [← hG2, ← hG1]; clear hG1 hG2
 refine qap.mk ?_
 refine qao (A := ?aaR9) (w := W) 8 [] (by kernel_rfl) (Fl [KEq (.agg #[.int .i64 V, .slice ao ns.length c, .int .i64 T]), KEq (.agg #[.int .i64 V, .slice ao ns.length c, .int .i64 T]), KEq (.agg #[.int .i64 (y : Nat), .int .i64 (n : Nat)]), KIV (qdq R), KEq (.agg #[.int .i64 (y : Nat), .int .i64 (n : Nat)]), KEq (.pointer (some ⟨g1, 2, none⟩)), KEq (.int .i64 (T : Nat)), KEq (.int .i64 (fv : Nat))]) (fun i => false) (by kernel_rfl) ?hqR9 (qcw (qae (kEq _) (qae (kEq _) (qae (kEq _) (qae (kIV _) (qae (kEq _) (qae (kEq _) (qae (kEq _) (qae (kEq _) qcv))))))))) ?haR9 ?stR9 ?tlR9
 case hqR9 =>
  intro c a d v w h
  first | (simp only [Exit.then] at h ⊢; exact h) | (simp only [Exit.inBlock, Exit.then] at h ⊢; exact h) | exact h
 case haR9 =>
  intro vals
  simp only [qba, qcd, if_true, Act.put, List.setIfInBounds_toArray, List.set_cons_zero, List.set_cons_succ, List.getElem?_toArray, List.getElem?_cons_zero, List.getElem?_cons_succ, Option.bind_some]
  exact rfl
 case stR9 =>
  simp only [List.take_succ_cons, List.take_zero]
  refine qab rfl rfl ?_ (qab rfl rfl ?_ (qab rfl rfl ?_ (qab rfl rfl ?_ (qab rfl rfl ?_ (qab rfl rfl ?_ (qab rfl rfl ?_ (qab rfl rfl ?_ (qav))))))))
  ·intro vals w1 hb hd
   obtain ⟨e0, e1, e2⟩ := qay (qaa G1.out hb)
   refine qSv (.agg #[.int .i64 V, .slice ao ns.length c, .int .i64 T]) (by go_simp) (qLk rfl rfl)
  ·intro vals w1 hb hd
   obtain ⟨e0, e1, e2⟩ := qay (qaa G1.out hb)
   refine qSv (.agg #[.int .i64 V, .slice ao ns.length c, .int .i64 T]) (by go_simp) (qLk rfl rfl)
  ·intro vals w1 hb hd
   obtain ⟨e0, e1⟩ := qcy (qaa G2.out hb)
   refine qSv (.agg #[.int .i64 (y : Nat), .int .i64 (n : Nat)]) (by go_simp) (qLk rfl rfl)
  ·intro vals w1 hb hd
   have d1 : KEq (.agg #[.int .i64 V, .slice ao ns.length c, .int .i64 T]) (vals 1) w1 := hd 1 (by kernel_rfl)
   have d2 : KEq (.agg #[.int .i64 (y : Nat), .int .i64 (n : Nat)]) (vals 2) w1 := hd 2 (by kernel_rfl)
   have HS := qHd (rvalues_any _ ⟨V, ns, T⟩ y n w1 (HF.out.below (HBW.out.step hb)) E0.out HC.out)
   have z1 : vals 1 = _ := d1
   rw [z1]; clear z1
   have z2 : vals 2 = _ := d2
   rw [z2]; clear z2
   refine qat (by go_simp; first | done | exact ⟨⟨rfl, rfl⟩, rfl⟩) ?_
   (with_reducible refine HS.out.mono ?_); rintro e w2 ⟨v, rfl, hb2, hn⟩
   exact ⟨_, rfl, qar hb2 (by rw [HR.out]; exact hn) (fun h => by cases h)⟩
  ·intro vals w1 hb hd
   obtain ⟨e0, e1⟩ := qcy (qaa G2.out hb)
   refine qSv (.agg #[.int .i64 (y : Nat), .int .i64 (n : Nat)]) (by go_simp) (qLk rfl rfl)
  ·intro vals w1 hb hd
   refine qSv (.pointer (some ⟨g1, 2, none⟩)) (by go_simp) (qLk rfl rfl)
  ·intro vals w1 hb hd
   obtain ⟨e0, e1, e2⟩ := qay (qaa G1.out hb)
   rw [show vals 5 = .pointer (some ⟨g1, 2, none⟩) from hd 5 (by kernel_rfl)]
   refine qSv (.int .i64 (T : Nat)) (by go_simp) (qLk rfl rfl)
  ·intro vals w1 hb hd
   have d0 : KEq (.agg #[.int .i64 V, .slice ao ns.length c, .int .i64 T]) (vals 0) w1 := hd 0 (by kernel_rfl)
   have d3 : KIV (qdq R) (vals 3) w1 := hd 3 (by kernel_rfl)
   have d4 : KEq (.agg #[.int .i64 (y : Nat), .int .i64 (n : Nat)]) (vals 4) w1 := hd 4 (by kernel_rfl)
   have d6 : KEq (.int .i64 (T : Nat)) (vals 6) w1 := hd 6 (by kernel_rfl)
   have HS := qHd (rof_any V ao ns.length c (T : Nat) R (vals 3) y n T w1 d3 (by omega) (by rw [HL.out]; omega) vb yb (by rw [HL.out]; exact hT))
   have z0 : vals 0 = _ := d0
   rw [z0]; clear z0
   have z4 : vals 4 = _ := d4
   rw [z4]; clear z4
   have z6 : vals 6 = _ := d6
   rw [z6]; clear z6
   refine qat (by go_simp; first | done | exact ⟨⟨rfl, rfl⟩, rfl⟩) ?_
   (with_reducible refine HS.out.mono ?_); rintro e w2 ⟨rfl, hb2⟩
   exact ⟨_, rfl, qar hb2 (congrArg (fun n : Nat => Value.int .i64 (n : Int)) HV.out) (fun h => by cases h)⟩
 case tlR9 =>
  intro vals w2 hb2 hf hdis
  simp only [List.drop_succ_cons, List.drop_zero]
  have z7 : vals 7 = _ := hf 7 (by decide)
  rw [z7]
  clear z7 hf hdis
  have HB2 := qHd (HBW.out.trans (hb2.mono HBW.out.size))
  go_wp2_with fail
  go_ret
  exact ⟨rfl, HB2.out⟩
theorem rnext_any (vf : Value) (f : Fm) (y n : Nat) (w : World) (hf : FmV w vf f) (h0 : qcc f = 0) (hcu : CubeOK f.vars y n) (h2 : qco f y n = 2) :
  Calls Tryz.prog 83 #[vf, .agg #[.int .i64 (y : Nat), .int .i64 (n : Nat)]] w (qea w (.int .i64 (qcp f y n : Nat))) := by
 obtain ⟨vb, yb⟩ := hcu.small
 obtain ⟨p0, p1, p2, p3⟩ := qbe h0
 have htop := fmErr_top h0
 obtain ⟨nv, rfl, hn, hv, ht⟩ := hf
 obtain ⟨ao, c, rfl, hc, hc2, _⟩ := hn.shape
 have hF := (show FmV w _ f from ⟨_, rfl, hn, hv, ht⟩)
 obtain ⟨v, ns, top⟩ := f
 simp only at hv hc ht hn p0 p1 p2 p3 htop ⊢
 obtain ⟨V, rfl⟩ : ∃ V : Nat, v = V := ⟨v.toNat, by omega⟩
 obtain ⟨T, rfl⟩ : ∃ T : Nat, top = T := ⟨top.toNat, by omega⟩
 have HF := qHd hF; have HC := qHd hcu; have E0 := qHd h0; have HP := qHd p3; have HN := qHd hn
 have hT : T < V + ns.length := by omega
 have hV24 : V ≤ 24 := by omega
 obtain ⟨R, hR⟩ : ∃ R, R = (qdt ⟨V, ns, T⟩ y n).drop (V : Int).toNat := ⟨_, rfl⟩
 have HVS := qHd (show qcn V y n ++ R = qdt ⟨V, ns, T⟩ y n by
  rw [hR]; unfold qdt; simp only [Int.toNat_natCast]; rw [valsN_split])
 have HL := qHd (show R.length = ns.length by rw [hR, List.length_drop, qdk]; simp only [Int.toNat_natCast]; omega)
 have hnx : qcp ⟨V, ns, T⟩ y n = qfg V ns (qdt ⟨V, ns, T⟩ y n) (ns.length + 1) T := rfl
 have hun := fun a h1 h3 h4 => unk_node (f := ⟨V, ns, T⟩) (Int.natCast_nonneg V) HP.out y n a h1 h3 h4
 simp only [Int.toNat_natCast] at hun
 have hV2 : gd (qdt ⟨V, ns, T⟩ y n) T = 2 := h2
 have hle := fun j => vals_le (f := ⟨V, ns, T⟩) HP.out y n j
 have HR := qHd hR
 obtain ⟨vs, hvs⟩ : ∃ vs, vs = qdt ⟨V, ns, T⟩ y n := ⟨_, rfl⟩
 rw [← hvs] at HVS hnx hun hV2 hle
 obtain ⟨nx, hnx2⟩ : ∃ nx, nx = qcp ⟨V, ns, T⟩ y n := ⟨_, rfl⟩
 rw [← hnx2] at hnx ⊢
 have HNX := qHd hnx; have HUN := qHd hun; have HV2 := qHd hV2; have HLE := qHd hle
 clear hF hcu h0 p3 hv ht htop hn p0 hR hnx hun hV2 hvs hnx2 h2 hle
 obtain ⟨W, hW, hbW, hg1, hg2⟩ := qBx2 w (.cells #[.int .i64 V, .slice ao ns.length c, .int .i64 T] 24) (.cells #[.int .i64 (y : Nat), .int .i64 (n : Nat)] 46)
 obtain ⟨g1, hG1⟩ : ∃ g, g = w.heap.size := ⟨_, rfl⟩
 obtain ⟨g2, hG2⟩ : ∃ g, g = w.heap.size + 1 := ⟨_, rfl⟩
 rw [← hG1] at hg1; rw [← hG2] at hg2
 have HBW := qHd hbW; have G1 := qHd hg1; have G2 := qHd hg2
 obtain ⟨x0, x1, x2⟩ := qay hg1
 obtain ⟨y0, y1⟩ := qcy hg2
 rw [hW, hG1] at x0 x1 x2
 rw [hW, hG2] at y0 y1
 clear hbW hg1 hg2
 have HK := qHd (rvalues_any _ ⟨V, ns, T⟩ y n W (HF.out.below HBW.out) E0.out HC.out)
 go_enter Tryz.func83, Tryz.ntmps83
 go_wp2_with (with_reducible refine qad ?_)
 rw [← hW]; clear hW
 rw [← hG2, ← hG1]; clear hG1 hG2 x0 x1 x2 y0 y1
 refine qap.mk ?_
 (with_reducible refine HK.out.mono ?_); rintro e w1 ⟨v', rfl, hb1, hi1⟩
 rw [← HR.out] at hi1
 have HB := qHd (HBW.out.trans (hb1.mono HBW.out.size))
 have G1 := qHd (qaa G1.out hb1); have G2 := qHd (qaa G2.out hb1)
 obtain ⟨av, cv, rfl, hcv, hcv2, _⟩ := hi1.shape
 have HI := qHd hi1
 clear hb1 hi1 HK
 have OF := qHd (fun (wz : World) (A : Nat) (hv : qfd wz (.slice av (qdq R).length cv) (qdq R)) (hA : A < V + ns.length) => (rof_any V ao ns.length c (T : Nat) R _ y n A wz hv (by omega) (by rw [HL.out]; omega) vb yb (by rw [HL.out]; exact hA)))
 rw [HVS.out] at OF
 obtain ⟨x0, x1, x2⟩ := qay G1.out
 obtain ⟨y0, y1⟩ := qcy G2.out
 have HK := qHd (OF.out w1 T HI.out hT)
 rw [HV2.out] at HK
 go_wp2_with (with_reducible refine qad ?_)
 clear x0 x1 x2 y0 y1
 refine qap.mk ?_
 (with_reducible refine HK.out.mono ?_); rintro e w2 ⟨rfl, hb2⟩
 have HB := qHd (HB.out.trans (hb2.mono HB.out.size))
 have G1 := qHd (qaa G1.out hb2); have G2 := qHd (qaa G2.out hb2)
 have HI := qHd (HI.out.below hb2)
 clear hb2 HK
 go_wp2_with (with_reducible first | refine qai ?_ | refine qag ?_)
 refine qap.mk ?_
 go_loopw [6] (fun i' wx => ∃ a k : Nat, a < V + ns.length ∧ a < V + k ∧ i' = .int .i64 a ∧ Hid (Below w2.heap.size w2 wx) ∧ Hid (gd vs a = 2 ∧ nx = qfg V ns vs (k + 1) a)) (fun i' _ => (intOf i').toNat)
 case atStart => exact ⟨T, ns.length, hT, hT, rfl, qHd (Below.refl _ _), qHd ⟨HV2.out, HNX.out⟩⟩
 case round =>
  obtain ⟨a, k, ha, hak, rfl, BX, C⟩ := hrel
  obtain ⟨wo, rfl⟩ : ∃ wo : World, wo = wr := ⟨_, rfl⟩
  have HBo := qHd (HB.out.trans (BX.out.mono HB.out.size))
  have G1' := qHd (qaa G1.out BX.out)
  obtain ⟨x0, x1, x2⟩ := qay G1'.out
  by_cases hlt : a < V
  ·have hltz : ¬ (V : Int) ≤ (a : Int) := by omega
   have R := qHd (show nx = a by rw [C.out.2, nextAt_low hlt])
   go_wp2_with fail
   go_ret
   exact ⟨by rw [R.out]; rfl, HBo.out⟩
  ·obtain ⟨m, rfl⟩ : ∃ m, k = m + 1 := ⟨k - 1, by omega⟩
   obtain ⟨x, hx, he, hex⟩ := HUN.out a (by omega) ha C.out.1
   obtain ⟨kk, b, hb1, hb2, hb3⟩ := first_ex hex
   have hfu := firstUnk_at hb1 hb2 hb3
   have harg := ndErr_arg he
   have hst : qfg V ns vs (m + 1 + 1) a = qfg V ns vs (m + 1) b.toNat := nextAt_high (by omega) hx hfu
   have hbr := harg b (List.mem_of_getElem? hb1)
   have hkl : kk < x.args.length := (List.getElem?_eq_some_iff.1 hb1).1
   have h16 := nd_16 he
   obtain ⟨bn, on, rfl, hbn, _, hatn⟩ := (HN.out.below HBo.out).at (by omega)
   obtain ⟨c0, c1, ⟨va, c2, hI⟩, _, _⟩ := hatn (a - V) x hx
   obtain ⟨kind, K, args⟩ := x
   simp only at c0 c1 c2 hI hb1 hb2 hb3 harg hkl h16
   obtain ⟨aa, ca, rfl, hca, hca2, _⟩ := hI.shape
   have HA := qHd hI; have H1 := qHd hb1; have H2 := qHd hb2; have H3 := qHd hb3; have HARG := qHd harg
   have RN := qHd (show nx = qfg V ns vs (m + 1) b.toNat by rw [C.out.2, hst])
   obtain ⟨B, rfl⟩ : ∃ B : Nat, b = B := ⟨b.toNat, by omega⟩
   clear hatn hI hst hfu hb1 hb2 hb3 hex he harg hx
   have hltz : (V : Int) ≤ (a : Int) := by omega
   have hix : (a : Int) - (V : Int) = ((a - V : Nat) : Int) := by omega
   have hixl : ((a - V : Nat) : Int) < (ns.length : Int) := by omega
   go_wp2_with (with_reducible first | refine qai ?_ | refine qag ?_)
   clear x0 x1 x2 c0 c1 c2
   refine qap.mk ?_
   go_loopw [34, 6] (fun i' v6 wx => ∃ j : Nat, j ≤ kk ∧ i' = .int .i64 j ∧ v6 = .int .i64 a ∧ Hid (Below wo.heap.size wo wx)) (fun i' _ _ => kk + 1 - (intOf i').toNat)
   case atStart => exact ⟨0, Nat.zero_le _, rfl, rfl, qHd (Below.refl _ _)⟩
   case round =>
    obtain ⟨j, hj, rfl, rfl, BY⟩ := hrel
    obtain ⟨wi, rfl⟩ : ∃ wi : World, wi = wr := ⟨_, rfl⟩
    have BZ := qHd (BX.out.trans (BY.out.mono BX.out.size))
    have G1z := qHd (qaa G1.out BZ.out); have G2z := qHd (qaa G2.out BZ.out)
    obtain ⟨x0, x1, x2⟩ := qay G1z.out
    obtain ⟨y0, y1⟩ := qcy G2z.out
    obtain ⟨q, hq⟩ : ∃ q, args[j]? = some q := ⟨args[j], List.getElem?_eq_getElem (by omega)⟩
    have hqr := HARG.out q (List.mem_of_getElem? hq)
    obtain ⟨Q, rfl⟩ : ∃ Q : Nat, q = Q := ⟨q.toNat, by omega⟩
    obtain ⟨ba, oa, rfl, hba, _, hata⟩ := (HA.out.below BY.out).at (by omega)
    have cq := hata j Q hq
    clear hata
    have hjz : (j : Int) < (args.length : Int) := by omega
    have HK := qHd (OF.out wi Q (HI.out.below BZ.out) (by omega))
    by_cases hjk : j = kk
    ·subst hjk
     have e : (Q : Int) = (B : Int) := by have := H1.out; rw [hq] at this; exact Option.some.inj this
     obtain rfl : Q = B := by omega
     have h22 : gd vs Q = 2 := by have := H2.out; rwa [Int.toNat_natCast] at this
     rw [h22] at HK
     have RN := qHd (show nx = qfg V ns vs (m + 1) Q by have := RN.out; rwa [Int.toNat_natCast] at this)
     have H22 := qHd h22
     clear h22 hq
     go_wp2_with (with_reducible refine qad ?_)
     clear x0 x1 x2 y0 y1 cq
     refine qap.mk ?_
     (with_reducible refine HK.out.mono ?_); rintro e w5 ⟨rfl, hb5⟩
     have BZ5 := qHd (BZ.out.trans (hb5.mono BZ.out.size))
     clear hb5 HK
     go_wp2_with fail
     go_roundw
     case rel => exact ⟨Q, m, by omega, by omega, rfl, BZ5, qHd ⟨H22.out, RN.out⟩⟩
     case measure => simp [intOf]; omega
    ·have hne : gd vs Q ≠ 2 := by have := H3.out _ (List.mem_of_getElem? (show (args.take kk)[j]? = some ((Q : Nat) : Int) by rw [List.getElem?_take, if_pos (by omega)]; exact hq)); rwa [Int.toNat_natCast] at this
     obtain ⟨u, hu⟩ : ∃ u, u = gd vs Q := ⟨_, rfl⟩
     rw [← hu] at hne HK
     clear hu hq
     have hnez : ¬ ((u : Nat) : Int) = 2 := by omega
     go_wp2_with (with_reducible refine qad ?_)
     clear x0 x1 x2 y0 y1 cq
     refine qap.mk ?_
     (with_reducible refine HK.out.mono ?_); rintro e w5 ⟨rfl, hb5⟩
     have BY5 := qHd (BY.out.trans (hb5.mono BY.out.size))
     clear hb5 HK
     go_wp2_with fail
     go_roundw
     case rel => exact ⟨j + 1, by omega, by go_num, rfl, BY5⟩
     case measure => simp [intOf]; omega
end Go.Proofs.YthhgfhdmfhnklaaGreatDoor
