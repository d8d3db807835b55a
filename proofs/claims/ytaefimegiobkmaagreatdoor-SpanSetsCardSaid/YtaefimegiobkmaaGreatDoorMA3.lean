/-
  The texts Nat15, Nat22, Nat23, Rat0, Rat1, Rat2, Rat3, Rat4, Rat5, Rat6, Rat7, Rat8, DrawR, Rat10, Rat11, one behind the other (what the law leans on).
  Conditions: each theorem's own.
-/
import Derived.Test.YtaefimegiobkmaaGreatDoorMA2
/-
  The reference's Gcd: what it hands back.
  Conditions: each theorem's own.
-/
namespace Go.Proofs.YtaefimegiobkmaaGreatDoor
open Go.RowKit Go.ChangeShapes Go.WideShapes

set_option maxRecDepth 100000 in
set_option maxHeartbeats 1600000 in
theorem rgcd_any (va vb : Value) (a b : List Nat) (w : World) (ha : Num w va a) (hb : Num w vb b) (hla : a.length ≤ 400000) (hlb : b.length ≤ 400000) :
    Calls Tryz.prog 86 #[va, vb] w (RetNum w fun r => r = wd (Nat.gcd (val a) (val b))) := by
  have hl1 := wd_length_le ha.lt
  have hl2 := wd_length_le hb.lt
  obtain ⟨G, hG⟩ : ∃ G, G = Nat.gcd (val a) (val b) := ⟨_, rfl⟩
  rw [← hG]
  have HG := Lib.hid hG; clear hG
  go_enter Tryz.func86, Tryz.ntmps86
  go_wp2_with fail
  (with_reducible refine (rtrim_any _ _ _ ha (by omega)).mono ?_); rintro e w1 ⟨v1, l1, rfl, hb1, hn1, hl1'⟩
  go_wp2_with fail
  (with_reducible refine (rtrim_any _ _ _ (hb.below hb1) (by omega)).mono ?_); rintro e w2 ⟨v2, l2, rfl, hb2, hn2, hl2'⟩
  have hn1 := hn1.below hb2
  have hb12 := hb1.trans (hb2.mono hb1.size)
  rw [hl1'] at hn1
  rw [hl2'] at hn2
  obtain ⟨x0, hx0⟩ : ∃ x0, x0 = val a := ⟨_, rfl⟩
  obtain ⟨y0, hy0⟩ : ∃ y0, y0 = val b := ⟨_, rfl⟩
  rw [← hx0] at hn1 hl1
  rw [← hy0] at hn2 hl2
  have hg0 : Nat.gcd x0 y0 = G := by rw [HG.out, hx0, hy0]
  have HG0 := Lib.hid hg0; have HN1 := Lib.hid hn1; have HN2 := Lib.hid hn2
  clear hg0 hx0 hy0 hn1 hn2 hl1' hl2' hb1 hb2 ha hb
  go_wp2_with fail
  go_loopw [0, 1] (fun xv yv wr => ∃ x y : Nat, Num wr xv (wd x) ∧ Num wr yv (wd y) ∧ Below w.heap.size w wr ∧ Hid (Nat.gcd x y = G) ∧ (wd x).length ≤ 400000 ∧ (wd y).length ≤ 400000) (fun _ yv wr => numOf wr yv)
  case atStart => exact ⟨x0, y0, HN1.out, HN2.out, hb12, HG0, by omega, by omega⟩
  case round =>
    obtain ⟨x, y, hnx, hny, hBr, hgr, hlx, hly⟩ := hrel
    by_cases hy0 : y = 0
    · subst hy0
      rw [wd_zero] at hny hly
      obtain ⟨yo, cy, rfl, hcy, hcy2, _⟩ := hny.shape
      have hgx : x = G := by rw [← hgr.out, Nat.gcd_zero_right]
      have HGX := Lib.hid hgx; have HNX := Lib.hid hnx
      clear hny hgx hnx
      go_wp2_with fail
      go_ret
      exact ⟨_, _, rfl, hBr, HNX.out, by rw [HGX.out]⟩
    · have hd := rdiv_any _ _ _ _ _ hnx hny hlx hly (by rw [val_wd]; exact hy0)
      rw [val_wd, val_wd] at hd
      have hpos := wd_length_pos hy0
      have hm0 := numOf_eq hny
      rw [val_wd] at hm0
      obtain ⟨yo, cy, rfl, hcy, hcy2, _⟩ := hny.shape
      have hlm : (wd (x % y)).length ≤ (wd y).length := wd_length_mono (Nat.le_of_lt (Nat.mod_lt _ (by omega)))
      have hml : x % y < y := Nat.mod_lt _ (by omega)
      have hgm : Nat.gcd y (x % y) = G := by rw [← hgr.out, Nat.gcd_comm x y, Nat.gcd_rec y x, Nat.gcd_comm]
      have HD := Lib.hid hd; have HNY := Lib.hid hny; have HM0 := Lib.hid hm0; have HLM := Lib.hid hlm; have HML := Lib.hid hml; have HGM := Lib.hid hgm
      clear hd hny hm0 hlm hml hgm hnx
      go_wp2_with fail
      (with_reducible refine HD.out.mono ?_); rintro e w3 ⟨v1, v2, rfl, hb3, hq, hr⟩
      have HR := Lib.hid hr
      clear hq hr
      go_wp2_with fail
      go_roundw
      case rel => exact ⟨y, x % y, HNY.out.below hb3, HR.out, hBr.trans (hb3.mono hBr.size), HGM, hly, Nat.le_trans HLM.out hly⟩
      case measure =>
        have e1 := numOf_eq HR.out
        rw [val_wd] at e1
        show numOf _ _ < numOf _ _
        rw [HM0.out]
        exact Nat.lt_of_le_of_lt (Nat.le_of_eq e1) HML.out
end Go.Proofs.YtaefimegiobkmaaGreatDoor
/-
  The reference's Parse: what it hands back.
  Conditions: each theorem's own.
-/
namespace Go.Proofs.YtaefimegiobkmaaGreatDoor
open Go.RowKit Go.ChangeShapes Go.WideShapes

/-- a call's number, with all numbers kept -/
def RetK (w0 wx : World) (n : Nat) (e : Ending) (w' : World) : Prop :=
  ∃ v, e = .returned v ∧ Below w0.heap.size w0 w' ∧ Num w' v (wd n) ∧ ∀ u l, Num wx u l → Num w' u l
theorem RetNum.k {w0 wx : World} {n : Nat} (h : Below w0.heap.size w0 wx) {e : Ending} {w' : World} (hr : RetNum wx (fun r => r = wd n) e w') : RetK w0 wx n e w' := by
  obtain ⟨v, l, he, hb, hn, rfl⟩ := hr
  exact ⟨v, he, h.trans (hb.mono h.size), hn, fun u l hu => hu.below hb⟩
end Go.Proofs.YtaefimegiobkmaaGreatDoor
/-
  The reference's Parse: its loop.
  Conditions: each theorem's own.
-/
namespace Go.Proofs.YtaefimegiobkmaaGreatDoor
open Go.RowKit Go.ChangeShapes Go.WideShapes

/-- a call's number, for ever -/
def RetP (w0 : World) (n : Nat) (e : Ending) (w' : World) : Prop :=
  ∃ v, e = .returned v ∧ Below w0.heap.size w0 w' ∧ ∀ wx, Below w'.heap.size w' wx → Num wx v (wd n)
theorem RetNum.p {w0 : World} {n : Nat} {e : Ending} {w' : World} (hr : RetNum w0 (fun r => r = wd n) e w') : RetP w0 n e w' := by
  obtain ⟨v, l, he, hb, hn, rfl⟩ := hr
  exact ⟨v, he, hb, fun wx hx => hn.below hx⟩

theorem _root_.Go.RowKit.Below.step {w w1 w2 : World} (h : Below w.heap.size w w1) (h2 : Below w1.heap.size w1 w2) : Below w.heap.size w w2 := h.trans (h2.mono h.size)

end Go.Proofs.YtaefimegiobkmaaGreatDoor
/-
  Fractions in memory: what a value reads as, what a call hands back.
  Conditions: none beyond each theorem's own.
-/
namespace Go.Proofs.YtaefimegiobkmaaGreatDoor
open Go.RowKit Go.ChangeShapes Go.WideShapes

/-- the value reads as a fraction with these fields -/
def RatV (w : World) (v : Value) (s : Bool) (a b : List Nat) : Prop := ∃ va vb, v = .agg #[.bool s, va, vb] ∧ Num w va a ∧ Num w vb b
/-- the value reads as the valid form of q -/
def IsR (w : World) (v : Value) (q : Rat) : Prop := RatV w v (ng q) (wd (nn q)) (wd (dn q))
/-- the value reads as a fraction of any fields that counts as q, its words not too many -/
def RatIs (w : World) (v : Value) (q : Rat) : Prop := ∃ s a b, RatV w v s a b ∧ rq s a b = q ∧ a.length ≤ 100000 ∧ b.length ≤ 100000
theorem RatV.below {w w' : World} {v : Value} {s : Bool} {a b : List Nat} (h : RatV w v s a b) (hb : Below w.heap.size w w') : RatV w' v s a b := by
  obtain ⟨va, vb, rfl, h1, h2⟩ := h
  exact ⟨va, vb, rfl, h1.below hb, h2.below hb⟩
theorem IsR.below {w w' : World} {v : Value} {q : Rat} (h : IsR w v q) (hb : Below w.heap.size w w') : IsR w' v q := RatV.below h hb
theorem RatIs.below {w w' : World} {v : Value} {q : Rat} (h : RatIs w v q) (hb : Below w.heap.size w w') : RatIs w' v q := by
  obtain ⟨s, a, b, h1, h2⟩ := h
  exact ⟨s, a, b, h1.below hb, h2⟩
theorem dn_len (q : Rat) : (wd (dn q)).length ≤ rl q := by
  unfold dn; split
  · rw [wd_zero]; exact Nat.zero_le _
  · exact rl_d q
theorem IsR.is {w : World} {v : Value} {q : Rat} (h : IsR w v q) (hl : rl q ≤ 100000) : RatIs w v q :=
  ⟨_, _, _, h, (vld_self q).2, Nat.le_trans (rl_n q) hl, Nat.le_trans (dn_len q) hl⟩
theorem RatV.is {w : World} {v : Value} {s : Bool} {a b : List Nat} (h : RatV w v s a b) (h1 : a.length ≤ 100000) (h2 : b.length ≤ 100000) : RatIs w v (rq s a b) := ⟨s, a, b, h, rfl, h1, h2⟩
theorem RatV.lt {w : World} {v : Value} {s : Bool} {a b : List Nat} (h : RatV w v s a b) : U32 a ∧ U32 b := by
  obtain ⟨va, vb, rfl, h1, h2⟩ := h
  exact ⟨h1.lt, h2.lt⟩
theorem RatIs.rl {w : World} {v : Value} {q : Rat} (h : RatIs w v q) : rl q ≤ 100000 := by
  obtain ⟨s, a, b, h, rfl, h1, h2⟩ := h
  obtain ⟨u1, u2⟩ := h.lt
  exact rl_rq u1 u2 h1 h2 (by decide)
/-- the zero value -/
theorem isR_zero (w : World) : IsR w (.agg #[.bool false, .slice none 0 0, .slice none 0 0]) 0 := by
  unfold IsR
  rw [ng_zero, nn_zero, dn_zero, wd_zero]
  exact ⟨_, _, rfl, Num.nil w, Num.nil w⟩
/-- hands back a number n -/
def RetN (w : World) (n : Nat) (e : Ending) (w' : World) : Prop := ∃ v, e = .returned v ∧ Below w.heap.size w w' ∧ Num w' v (wd n)
theorem RetNum.n {w : World} {n : Nat} {e : Ending} {w' : World} (h : RetNum w (fun r => r = wd n) e w') : RetN w n e w' := by
  obtain ⟨v, l, he, hb, hn, rfl⟩ := h
  exact ⟨v, he, hb, hn⟩
/-- hands back the valid form of q -/
def RetR (w : World) (q : Rat) (e : Ending) (w' : World) : Prop := ∃ v, e = .returned v ∧ Below w.heap.size w w' ∧ IsR w' v q
/-- .. with an error (or its number) -/
def RetRE (w : World) (q : Rat) (er : Value) (e : Ending) (w' : World) : Prop := ∃ v, e = .returned (.tuple #[v, er]) ∧ Below w.heap.size w w' ∧ IsR w' v q
end Go.Proofs.YtaefimegiobkmaaGreatDoor
/-
  rational.one, plain, Valid: what they hand back.
  Conditions: each theorem's own.
-/
namespace Go.Proofs.YtaefimegiobkmaaGreatDoor
open Go.RowKit Go.ChangeShapes Go.WideShapes

/-- a boxed value's cells stay behind a call -/
theorem box_kept {w w1 : World} {cs : Array Value} {T : TypeId} (hb : Below (w.alloc (.cells cs T)).heap.size (w.alloc (.cells cs T)) w1) (j : Nat) :
    w1.cell? ⟨w.heap.size, j, none⟩ = cs[j]? := by
  rw [hb.cell (p := ⟨w.heap.size, j, none⟩) (by simp), cell_of_row _ _ _ _ _ _ (heap_alloc_new _ _)]

set_option maxRecDepth 100000 in
set_option maxHeartbeats 400000 in
theorem one_any (w : World) : Calls Tryz.prog 74 #[] w (RetN w 1) := by
  go_enter Tryz.func74, Tryz.ntmps74
  go_wp2_with fail
  go_ret
  refine ⟨_, rfl, (Below.refl _ _).alloc (Nat.le_refl _) _, ?_⟩
  rw [wd_one (by decide) (by decide)]
  exact num_one w 76 1 (by decide)
set_option maxRecDepth 100000 in
set_option maxHeartbeats 1600000 in
theorem plain_any (va : Value) (a : List Nat) (w : World) (ha : Num w va a) :
    Calls Tryz.prog 82 #[va] w (RetS w (.bool (decide (a ≠ [] ∧ Clean a)))) := by
  obtain ⟨ao, ca, rfl, hca, hca2, _⟩ := ha.shape
  by_cases h0 : a.length = 0
  · obtain rfl := List.eq_nil_of_length_eq_zero h0
    clear ha
    go_enter Tryz.func82, Tryz.ntmps82
    go_wp2_with fail
    go_ret
    exact ⟨rfl, rfl⟩
  · obtain ⟨b, off, rfl, _, hcell⟩ := ha.at (by omega)
    obtain ⟨m, hm⟩ : ∃ m, m = a.length := ⟨_, rfl⟩
    rw [← hm] at h0 hca hcell ⊢
    have hx := hcell (m - 1) (by omega)
    obtain ⟨x, hxe⟩ : ∃ x, x = gd a (m - 1) := ⟨_, rfl⟩
    rw [← hxe] at hx
    have hcl : (decide (a ≠ [] ∧ Clean a)) = decide (x ≠ 0) := by
      rw [decide_eq_decide, hxe, hm]
      unfold Clean
      have hne : a ≠ [] := fun e => by rw [e] at hm; simp at hm; omega
      constructor
      · rintro ⟨h, h | h⟩
        · exact absurd h hne
        · exact h
      · intro h; exact ⟨hne, .inr h⟩
    rw [hcl]
    have hm0 : decide ((0 : Int) < (m : Int)) = true := decide_eq_true (by omega)
    have hxl : x < 4294967296 := by rw [hxe]; exact ha.lt _
    by_cases hx0 : x = 0
    · subst hx0
      clear hcell hxe hm ha hcl
      go_enter Tryz.func82, Tryz.ntmps82
      go_wp2_with fail
      go_ret
      exact ⟨rfl, rfl⟩
    · have hne : (bne (x : Int) 0) = true := by simp; omega
      have hd : decide (x ≠ 0) = true := decide_eq_true hx0
      rw [hd]
      clear hcell hxe hm ha hcl hd
      go_enter Tryz.func82, Tryz.ntmps82
      go_wp2_with fail
      go_ret
      exact ⟨rfl, rfl⟩

/-- what Valid comes to where the fields are not both empty -/
theorem vld_parts {s : Bool} {a b : List Nat} (h : ¬ (a = [] ∧ b = [])) : Vld s a b ↔ (a ≠ [] ∧ Clean a) ∧ (b ≠ [] ∧ Clean b) ∧ Nat.gcd (val a) (val b) = 1 := by
  unfold Vld
  constructor
  · rintro (⟨h1, h2, _⟩ | ⟨h1, h2, h3, h4, h5⟩)
    · exact absurd ⟨h1, h2⟩ h
    · exact ⟨⟨h1, h3⟩, ⟨h2, h4⟩, h5⟩
  · rintro ⟨⟨h1, h3⟩, ⟨h2, h4⟩, h5⟩
    exact .inr ⟨h1, h2, h3, h4, h5⟩
set_option maxRecDepth 100000 in
set_option maxHeartbeats 3200000 in
theorem valid_any (v : Value) (s : Bool) (a b : List Nat) (w : World) (h : RatV w v s a b) (hla : a.length ≤ 400000) (hlb : b.length ≤ 400000) :
    Calls Tryz.prog 56 #[v] w (RetV w (.bool (decide (Vld s a b)))) := by
  obtain ⟨va, vb, rfl, ha, hb⟩ := h
  obtain ⟨ao, ca, rfl, hca, hca2, _⟩ := ha.shape
  obtain ⟨bo, cb, rfl, hcb, hcb2, _⟩ := hb.shape
  by_cases h0 : a = [] ∧ b = []
  · obtain ⟨rfl, rfl⟩ := h0
    have e : decide (Vld s [] []) = !s := by cases s <;> rfl
    rw [e]
    clear ha hb e
    go_enter Tryz.func56, Tryz.ntmps56
    go_wp2_with fail
    go_ret
    exact ⟨rfl, (Below.refl _ _).alloc (Nat.le_refl _) _⟩
  · have e := vld_parts (s := s) h0
    have hd : decide (Vld s a b) = decide ((a ≠ [] ∧ Clean a) ∧ (b ≠ [] ∧ Clean b) ∧ Nat.gcd (val a) (val b) = 1) := decide_eq_decide.2 e
    rw [hd]
    have hab : ((a.length : Int) == 0) = false ∨ ((a.length : Int) == 0) = true ∧ ((b.length : Int) == 0) = false := by
      by_cases h1 : a.length = 0
      · right
        refine ⟨by rw [h1]; rfl, ?_⟩
        rw [beq_eq_false_iff_ne]
        intro h2
        exact h0 ⟨List.eq_nil_of_length_eq_zero h1, List.eq_nil_of_length_eq_zero (by omega)⟩
      · left; rw [beq_eq_false_iff_ne]; omega
    have hbx : Below w.heap.size w (w.alloc (.cells #[.bool s, .slice ao a.length ca, .slice bo b.length cb] 24)) := (Below.refl _ _).alloc (Nat.le_refl _) _
    have hp1 := plain_any _ a _ (ha.below hbx)
    have hp2 := plain_any _ b _ (hb.below hbx)
    have HBX := Lib.hid hbx; have HA := Lib.hid (ha.below hbx); have HB := Lib.hid (hb.below hbx)
    clear e hd h0 ha hb hbx
    by_cases c1 : a ≠ [] ∧ Clean a
    · by_cases c2 : b ≠ [] ∧ Clean b
      · have hg := gcd_any _ _ _ _ _ HA.out HB.out (by omega) (by omega)
        have hgl : (wd (Nat.gcd (val a) (val b))).length ≤ 400000 := by
          have h1 := wd_length_le HA.out.lt
          have h2 : val a ≠ 0 := val_ne HA.out.lt c1.2 c1.1
          have h3 := wd_length_mono (Nat.le_of_dvd (Nat.pos_of_ne_zero h2) (Nat.gcd_dvd_left (val a) (val b)))
          omega
        obtain ⟨g, hge⟩ : ∃ g, g = Nat.gcd (val a) (val b) := ⟨_, rfl⟩
        rw [← hge] at hg hgl
        have hres : decide ((a ≠ [] ∧ Clean a) ∧ (b ≠ [] ∧ Clean b) ∧ Nat.gcd (val a) (val b) = 1) = decide (g = 1) := by
          rw [decide_eq_decide, hge]; exact ⟨fun h => h.2.2, fun h => ⟨c1, c2, h⟩⟩
        rw [hres]
        rw [decide_eq_true c1] at hp1
        rw [decide_eq_true c2] at hp2
        have HP1 := Lib.hid hp1; have HP2 := Lib.hid hp2; have HG := Lib.hid hg
        clear hp1 hp2 hg hge hres c1 c2
        rcases hab with hab | ⟨hab, hab2⟩
        · go_enter Tryz.func56, Tryz.ntmps56
          go_wp2_with fail
          (with_reducible refine HP1.out.mono ?_); rintro e wx ⟨rfl, rfl⟩
          go_wp2_with fail
          (with_reducible refine HP2.out.mono ?_); rintro e wx ⟨rfl, rfl⟩
          go_wp2_with fail
          (with_reducible refine HG.out.mono ?_); rintro e w1 ⟨v1, l1, rfl, hb1, hn1, rfl⟩
          have HN1 := Lib.hid hn1; have HB1 := Lib.hid (HBX.out.step hb1); clear hn1 hb1
          go_wp2_with fail
          (with_reducible refine (one_any _).mono ?_); rintro e w2 ⟨v2, rfl, hb2, hn2⟩
          have hcm := cmp_any _ _ _ _ w2 (HN1.out.below hb2) hn2 (by omega) (by rw [wd_one (by decide) (by decide)]; simp)
          rw [val_wd, val_wd] at hcm
          have HCM := Lib.hid hcm; have HB2 := Lib.hid (HB1.out.step hb2); clear hcm hn2 hb2
          by_cases hg1 : g = 1
          · have hc0 : cmpN g 1 = 0 := cmpN_eq hg1
            rw [hc0] at HCM
            have hd : decide (g = 1) = true := decide_eq_true hg1
            rw [hd]
            have HG1 := Lib.hid hg1
            clear hc0 hg1 hd
            go_wp2_with fail
            (with_reducible refine HCM.out.mono ?_); rintro e w3 ⟨rfl, hb3⟩
            go_wp2_with fail
            go_ret
            exact ⟨by first | rfl | (simp; done) | (simp; exact HG1.out), HB2.out.step hb3⟩
          · have hd : decide (g = 1) = false := decide_eq_false hg1
            rw [hd]
            obtain ⟨c, hc⟩ : ∃ c, c = cmpN g 1 := ⟨_, rfl⟩
            rw [← hc] at HCM
            have hc0 : (c == 0) = false := by
              rw [beq_eq_false_iff_ne, hc]; unfold cmpN; split
              · decide
              · split
                · decide
                · omega
            have HG1 := Lib.hid hg1
            clear hc hg1 hd
            go_wp2_with fail
            (with_reducible refine HCM.out.mono ?_); rintro e w3 ⟨rfl, hb3⟩
            go_wp2_with fail
            go_ret
            exact ⟨by first | rfl | (simp; done) | (simp; exact HG1.out), HB2.out.step hb3⟩
        · go_enter Tryz.func56, Tryz.ntmps56
          go_wp2_with fail
          (with_reducible refine HP1.out.mono ?_); rintro e wx ⟨rfl, rfl⟩
          go_wp2_with fail
          (with_reducible refine HP2.out.mono ?_); rintro e wx ⟨rfl, rfl⟩
          go_wp2_with fail
          (with_reducible refine HG.out.mono ?_); rintro e w1 ⟨v1, l1, rfl, hb1, hn1, rfl⟩
          have HN1 := Lib.hid hn1; have HB1 := Lib.hid (HBX.out.step hb1); clear hn1 hb1
          go_wp2_with fail
          (with_reducible refine (one_any _).mono ?_); rintro e w2 ⟨v2, rfl, hb2, hn2⟩
          have hcm := cmp_any _ _ _ _ w2 (HN1.out.below hb2) hn2 (by omega) (by rw [wd_one (by decide) (by decide)]; simp)
          rw [val_wd, val_wd] at hcm
          have HCM := Lib.hid hcm; have HB2 := Lib.hid (HB1.out.step hb2); clear hcm hn2 hb2
          by_cases hg1 : g = 1
          · have hc0 : cmpN g 1 = 0 := cmpN_eq hg1
            rw [hc0] at HCM
            have hd : decide (g = 1) = true := decide_eq_true hg1
            rw [hd]
            have HG1 := Lib.hid hg1
            clear hc0 hg1 hd
            go_wp2_with fail
            (with_reducible refine HCM.out.mono ?_); rintro e w3 ⟨rfl, hb3⟩
            go_wp2_with fail
            go_ret
            exact ⟨by first | rfl | (simp; done) | (simp; exact HG1.out), HB2.out.step hb3⟩
          · have hd : decide (g = 1) = false := decide_eq_false hg1
            rw [hd]
            obtain ⟨c, hc⟩ : ∃ c, c = cmpN g 1 := ⟨_, rfl⟩
            rw [← hc] at HCM
            have hc0 : (c == 0) = false := by
              rw [beq_eq_false_iff_ne, hc]; unfold cmpN; split
              · decide
              · split
                · decide
                · omega
            have HG1 := Lib.hid hg1
            clear hc hg1 hd
            go_wp2_with fail
            (with_reducible refine HCM.out.mono ?_); rintro e w3 ⟨rfl, hb3⟩
            go_wp2_with fail
            go_ret
            exact ⟨by first | rfl | (simp; done) | (simp; exact HG1.out), HB2.out.step hb3⟩
      · have hres : decide ((a ≠ [] ∧ Clean a) ∧ (b ≠ [] ∧ Clean b) ∧ Nat.gcd (val a) (val b) = 1) = false := decide_eq_false fun h => c2 h.2.1
        rw [hres]
        rw [decide_eq_true c1] at hp1
        rw [decide_eq_false c2] at hp2
        have HP1 := Lib.hid hp1; have HP2 := Lib.hid hp2
        clear hp1 hp2 hres
        rcases hab with hab | ⟨hab, hab2⟩
        · go_enter Tryz.func56, Tryz.ntmps56
          go_wp2_with fail
          (with_reducible refine HP1.out.mono ?_); rintro e wx ⟨rfl, rfl⟩
          go_wp2_with fail
          (with_reducible refine HP2.out.mono ?_); rintro e wx ⟨rfl, rfl⟩
          go_wp2_with fail
          go_ret
          exact ⟨rfl, HBX.out⟩
        · go_enter Tryz.func56, Tryz.ntmps56
          go_wp2_with fail
          (with_reducible refine HP1.out.mono ?_); rintro e wx ⟨rfl, rfl⟩
          go_wp2_with fail
          (with_reducible refine HP2.out.mono ?_); rintro e wx ⟨rfl, rfl⟩
          go_wp2_with fail
          go_ret
          exact ⟨rfl, HBX.out⟩
    · have hres : decide ((a ≠ [] ∧ Clean a) ∧ (b ≠ [] ∧ Clean b) ∧ Nat.gcd (val a) (val b) = 1) = false := decide_eq_false fun h => c1 h.1
      rw [hres]
      rw [decide_eq_false c1] at hp1
      have HP1 := Lib.hid hp1; have HP2 := Lib.hid hp2
      clear hp1 hp2 hres
      rcases hab with hab | ⟨hab, hab2⟩
      · go_enter Tryz.func56, Tryz.ntmps56
        go_wp2_with fail
        (with_reducible refine HP1.out.mono ?_); rintro e wx ⟨rfl, rfl⟩
        go_wp2_with fail
        go_ret
        exact ⟨rfl, HBX.out⟩
      · go_enter Tryz.func56, Tryz.ntmps56
        go_wp2_with fail
        (with_reducible refine HP1.out.mono ?_); rintro e wx ⟨rfl, rfl⟩
        go_wp2_with fail
        go_ret
        exact ⟨rfl, HBX.out⟩
end Go.Proofs.YtaefimegiobkmaaGreatDoor
/-
  rational.parts, form: what they hand back.
  Conditions: each theorem's own.
-/
namespace Go.Proofs.YtaefimegiobkmaaGreatDoor
open Go.RowKit Go.ChangeShapes Go.WideShapes

/-- hands back the sign, numerator and denominator of q -/
def RetParts (w : World) (q : Rat) (e : Ending) (w' : World) : Prop := ∃ vn vd, e = .returned (.tuple #[.bool (ng q), vn, vd]) ∧ Below w.heap.size w w' ∧ Num w' vn (wd (nn q)) ∧ Num w' vd (wd q.den)

set_option maxRecDepth 100000 in
set_option maxHeartbeats 1600000 in
theorem parts_any (v : Value) (q : Rat) (w : World) (h : RatIs w v q) :
    Calls Tryz.prog 75 #[v] w (RetParts w q) := by
  obtain ⟨s, a, b, hv, rfl, hla, hlb⟩ := h
  obtain ⟨va, vb, rfl, ha, hb⟩ := hv
  obtain ⟨ao, ca, rfl, hca, hca2, _⟩ := ha.shape
  obtain ⟨bo, cb, rfl, hcb, hcb2, _⟩ := hb.shape
  have hbx : Below w.heap.size w (w.alloc (.cells #[.bool s, .slice ao a.length ca, .slice bo b.length cb] 24)) := (Below.refl _ _).alloc (Nat.le_refl _) _
  have hvl := valid_any _ s a b _ (⟨_, _, rfl, ha.below hbx, hb.below hbx⟩ : RatV (w.alloc (.cells #[.bool s, .slice ao a.length ca, .slice bo b.length cb] 24)) _ s a b) (by omega) (by omega)
  by_cases h0 : rq s a b = 0
  · rw [h0]
    have hbad : decide (Vld s a b) = false ∨ decide (Vld s a b) = true ∧ a.length = 0 := by
      by_cases hv : Vld s a b
      · right
        obtain ⟨_, e, _⟩ := vld_fields ha.lt hb.lt hv
        rw [h0, nn_zero, wd_zero] at e
        exact ⟨decide_eq_true hv, by rw [e]; rfl⟩
      · left; exact decide_eq_false hv
    have HBX := Lib.hid hbx; clear hbx h0
    rcases hbad with hd | ⟨hd, hl⟩
    · rw [hd] at hvl
      have HV := Lib.hid hvl; clear hvl hd ha hb
      go_enter Tryz.func75, Tryz.ntmps75
      go_wp2_with fail
      (with_reducible refine HV.out.mono ?_); rintro e w1 ⟨rfl, hb1⟩
      go_wp2_with fail
      (with_reducible refine (one_any _).mono ?_); rintro e w2 ⟨v2, rfl, hb2, hn2⟩
      go_wp2_with fail
      go_ret3
      exact ⟨_, _, rfl, (HBX.out.step hb1).step hb2, by rw [nn_zero, wd_zero]; exact Num.nil _, hn2⟩
    · rw [hd] at hvl
      have c1 := fun w1 (h : Below _ _ w1) => box_kept (w := w) (cs := #[.bool s, .slice ao a.length ca, .slice bo b.length cb]) (T := 24) (w1 := w1) h 1
      have C1 := Lib.hid c1
      have HV := Lib.hid hvl; have HL := Lib.hid hl; clear hvl hd c1 ha hb hl
      go_enter Tryz.func75, Tryz.ntmps75
      go_wp2_with fail
      (with_reducible refine HV.out.mono ?_); rintro e w1 ⟨rfl, hb1⟩
      have c1 : w1.cell? ⟨w.heap.size, 1, none⟩ = some (.slice ao a.length ca) := C1.out w1 hb1
      rw [HL.out] at c1
      go_wp2_with fail
      (with_reducible refine (one_any _).mono ?_); rintro e w2 ⟨v2, rfl, hb2, hn2⟩
      go_wp2_with fail
      go_ret3
      exact ⟨_, _, rfl, (HBX.out.step hb1).step hb2, by rw [nn_zero, wd_zero]; exact Num.nil _, hn2⟩
  · have hv : Vld s a b := Decidable.byContradiction fun h => h0 (rq_invalid h)
    obtain ⟨e1, e2, e3⟩ := vld_fields ha.lt hb.lt hv
    rw [dn_pos h0] at e3
    have hl : ((a.length : Int) == 0) = false := by
      rw [beq_eq_false_iff_ne]
      intro h
      have : a = [] := List.eq_nil_of_length_eq_zero (by omega)
      rw [e2] at this
      exact wd_ne (fun e => h0 (nn_eq_zero.1 e)) this
    rw [decide_eq_true hv] at hvl
    have HE := Lib.hid (And.intro e1 (And.intro e2 e3)); have HBX := Lib.hid hbx; have HA := Lib.hid (ha.below hbx); have HB := Lib.hid (hb.below hbx); have HV := Lib.hid hvl
    have bk := fun w1 (h : Below _ _ w1) j => box_kept (w := w) (cs := #[.bool s, .slice ao a.length ca, .slice bo b.length cb]) (T := 24) (w1 := w1) h j
    have BK := Lib.hid bk
    clear e1 e2 e3 hbx ha hb hv hvl bk h0
    go_enter Tryz.func75, Tryz.ntmps75
    go_wp2_with fail
    (with_reducible refine HV.out.mono ?_); rintro e w1 ⟨rfl, hb1⟩
    have c0 : w1.cell? ⟨w.heap.size, 0, none⟩ = some (.bool s) := BK.out w1 hb1 0
    have c1 : w1.cell? ⟨w.heap.size, 1, none⟩ = some (.slice ao a.length ca) := BK.out w1 hb1 1
    have c2 : w1.cell? ⟨w.heap.size, 2, none⟩ = some (.slice bo b.length cb) := BK.out w1 hb1 2
    go_wp2_with fail
    go_quiet (fail)
    go_wp2_with fail
    go_ret3
    obtain ⟨e1, e2, e3⟩ := HE.out
    refine ⟨.slice ao a.length ca, .slice bo b.length cb, by rw [← e1]; rfl, below_drewN (HBX.out.step hb1) _, ?_, ?_⟩
    · rw [← e2]; exact (HA.out.below hb1).below (below_drewN (Below.refl _ _) _)
    · rw [← e3]; exact (HB.out.below hb1).below (below_drewN (Below.refl _ _) _)

theorem frozen_kept {w w1 : World} {cs : Array Value} {T : TypeId} (hb : Below (w.alloc (.cells cs T)).heap.size (w.alloc (.cells cs T)) w1) (j : Nat) :
    w1.frozen? ⟨w.heap.size, j, none⟩ = false := by
  have h : w1.heap[w.heap.size]? = some (.cells cs T) := by
    rw [hb.block _ (by simp)]; exact heap_alloc_new w _
  simp [World.frozen?, h]

theorem heap_kept {w w1 : World} {o : Obj} (hb : Below (w.alloc o).heap.size (w.alloc o) w1) : w1.heap[w.heap.size]? = some o := by
  rw [hb.block _ (by simp)]; exact heap_alloc_new w _
/-- a fraction's three cells are written -/
def put3 (w : World) (g : Nat) (x y z : Value) : World := ((w.setCell ⟨g, 0, none⟩ x).setCell ⟨g, 1, none⟩ y).setCell ⟨g, 2, none⟩ z
theorem put3_heap {w : World} {g : Nat} {a b c x y z : Value} {T : TypeId} (h : w.heap[g]? = some (.cells #[a, b, c] T)) : (put3 w g x y z).heap[g]? = some (.cells #[x, y, z] T) := by
  unfold put3 World.setCell
  simp [Array.getElem?_modify, h]
theorem put3_below {w0 w : World} {B g : Nat} (h : Below B w0 w) (hg : B ≤ g) (x y z : Value) : Below B w0 (put3 w g x y z) :=
  ((h.setCell hg x).setCell hg y).setCell hg z
theorem put3_num {w : World} {g : Nat} {v : Value} {l : List Nat} {x y z : Value} {a b c : Value} {T : TypeId} (hn : Num w v l) (h : w.heap[g]? = some (.cells #[a, b, c] T)) (ha : ∀ n : Int, a ≠ .int .u32 n) (hb : ∀ n : Int, b ≠ .int .u32 n) (hc : ∀ n : Int, c ≠ .int .u32 n) : Num (put3 w g x y z) v l := by
  obtain ⟨ao, k, rfl, h1, h2, h3, h4, h5⟩ := hn
  refine ⟨ao, k, rfl, h1, h2, h3, ?_, h5⟩
  intro b' off s hs
  obtain ⟨k1, k2⟩ := h4 b' off s hs
  have hsz : (put3 w g x y z).heap.size = w.heap.size := by simp [put3, World.setCell]
  refine ⟨fun h0 => by rw [hsz]; exact k1 h0, fun j hj => ?_⟩
  by_cases he : b' = g
  · subst he
    have := k2 j hj
    rw [cell_of_row w b' (off + j) _ _ _ h] at this
    have hsz3 : off + j < 3 := by
      have := (Array.getElem?_eq_some_iff.1 this).1; simpa using this
    have e : off + j = 0 ∨ off + j = 1 ∨ off + j = 2 := by omega
    rcases e with e | e | e <;> rw [e] at this <;> simp at this
    · exact absurd this (ha _)
    · exact absurd this (hb _)
    · exact absurd this (hc _)
  · rw [← k2 j hj]
    unfold World.cell?
    have e : (put3 w g x y z).heap[b']? = w.heap[b']? := by
      unfold put3
      rw [Below.heap_setCell _ _ _ _ he, Below.heap_setCell _ _ _ _ he, Below.heap_setCell _ _ _ _ he]
    simp only [e]
theorem rat_info : (Tryz.prog.info? 24).map (·.size) = some 3 := by kernel_rfl
/-- a function that hands back a fraction in a variable of its own -/
theorem ret_rat {fn : Func} {R : Ending → World → Prop} {a : Act} {w : World} {p : Tmp} (h : fn.results = #[.cell p 24]) (g : Nat) (x y z : Value)
    (hp : a.tmps.getD p undef = .pointer (some ⟨g, 0, none⟩)) (hg : w.heap[g]? = some (.cells #[x, y, z] 24)) (hd : a.defers = []) (hR : R (.returned (.agg #[x, y, z])) w) : bodyPost Tryz.prog fn R .ret a w :=
  bodyPost_ret (results_cell_row h a.tmps w g 24 _ _ _ hp hg Tryz.underlying24 rfl rat_info) hd hR
/-- .. and an error (or its number) -/
theorem ret_rat2 {fn : Func} {R : Ending → World → Prop} {a : Act} {w : World} {p u : Tmp} (h : fn.results = #[.cell p 24, .tmp u]) (g : Nat) (x y z : Value)
    (hp : a.tmps.getD p undef = .pointer (some ⟨g, 0, none⟩)) (hg : w.heap[g]? = some (.cells #[x, y, z] 24)) (hd : a.defers = []) (hR : R (.returned (.tuple #[.agg #[x, y, z], a.tmps.getD u undef])) w) : bodyPost Tryz.prog fn R .ret a w := by
  refine bodyPost_ret (v := .tuple #[.agg #[x, y, z], a.tmps.getD u undef]) ?_ hd hR
  rw [results_cell_tmp h, hp]
  simp only [asAddr, Sem.run_pure, Result.andThen, run_loadVar_row w g 24 24 _ _ _ hg Tryz.underlying24 rfl rat_info]

set_option maxRecDepth 100000 in
set_option maxHeartbeats 3200000 in
theorem form_any (s : Bool) (vn vd : Value) (a b : List Nat) (w : World) (ha : Num w vn a) (hb : Num w vd b) (hla : a.length ≤ 400000) (hlb : b.length ≤ 400000) (hd : val b ≠ 0) :
    Calls Tryz.prog 72 #[.bool s, vn, vd] w (RetR w (qm s (val a) (val b))) := by
  have hbx : Below w.heap.size w (w.alloc (.cells #[.bool false, .slice none 0 0, .slice none 0 0] 24)) := (Below.refl _ _).alloc (Nat.le_refl _) _
  have hbits := bits_any vn a _ (ha.below hbx) (by omega)
  have HBX := Lib.hid hbx
  by_cases h0 : val a = 0
  · rw [h0, blen_zero] at hbits
    rw [h0, qm_zero]
    have HB := Lib.hid hbits; clear hbits h0 ha hb hbx
    go_enter Tryz.func72, Tryz.ntmps72
    go_wp2_with fail
    (with_reducible refine HB.out.mono ?_); rintro e w1 ⟨rfl, rfl⟩
    go_wp2_with fail
    refine ret_rat rfl w.heap.size _ _ _ rfl (heap_alloc_new w _) rfl ?_
    exact ⟨_, rfl, HBX.out, isR_zero _⟩
  · have hz : ((blen (val a) : Int) == 0) = false := by
      rw [beq_eq_false_iff_ne]; have := blen_pos.2 h0; omega
    have hgd := gcd_any vn vd a b _ (ha.below hbx) (hb.below hbx) (by omega) (by omega)
    obtain ⟨bl, hbl⟩ : ∃ bl, bl = blen (val a) := ⟨_, rfl⟩
    rw [← hbl] at hbits hz
    have hl1 := wd_length_le ha.lt
    have hl2 := wd_length_le hb.lt
    have hgl : (wd (Nat.gcd (val a) (val b))).length ≤ 400000 := by
      have h3 := wd_length_mono (Nat.le_of_dvd (Nat.pos_of_ne_zero h0) (Nat.gcd_dvd_left (val a) (val b)))
      omega
    have hg0 : Nat.gcd (val a) (val b) ≠ 0 := fun h => h0 (Nat.eq_zero_of_gcd_eq_zero_left h)
    have hR : ng (qm s (val a) (val b)) = s ∧ nn (qm s (val a) (val b)) = val a / Nat.gcd (val a) (val b) ∧ dn (qm s (val a) (val b)) = val b / Nat.gcd (val a) (val b) :=
      ⟨ng_qm hd h0, nn_qm hd, dn_qm hd h0⟩
    obtain ⟨q, hq⟩ : ∃ q, q = qm s (val a) (val b) := ⟨_, rfl⟩
    rw [← hq] at hR ⊢
    obtain ⟨g, hg⟩ : ∃ g, g = Nat.gcd (val a) (val b) := ⟨_, rfl⟩
    rw [← hg] at hgd hgl hg0 hR
    have HR := Lib.hid hR; have HBI := Lib.hid hbits; have HGD := Lib.hid hgd; have HA := Lib.hid (ha.below hbx); have HB := Lib.hid (hb.below hbx); have HG0 := Lib.hid hg0
    clear hR hbits hgd ha hb hg0 hg hq hbl hbx h0
    go_enter Tryz.func72, Tryz.ntmps72
    go_wp2_with fail
    (with_reducible refine HBI.out.mono ?_); rintro e w1 ⟨rfl, rfl⟩
    go_wp2_with fail
    (with_reducible refine HGD.out.mono ?_); rintro e w1 ⟨v1, l1, rfl, hb1, hn1, rfl⟩
    have hd1 := div_any vn v1 a _ w1 (HA.out.below hb1) hn1 (by omega) (by omega) (by rw [val_wd]; exact HG0.out)
    rw [val_wd, errV_zero] at hd1
    have HD1 := Lib.hid hd1; have HB1 := Lib.hid hb1; have HN1 := Lib.hid hn1
    clear hd1 hn1
    go_wp2_with fail
    (with_reducible refine HD1.out.mono ?_); rintro e w2 ⟨v2, u2, rfl, hb2, hn2, _⟩
    have hd2 := div_any vd v1 b _ w2 ((HB.out.below hb1).below hb2) (HN1.out.below hb2) (by omega) (by omega) (by rw [val_wd]; exact HG0.out)
    rw [val_wd, errV_zero] at hd2
    have HD2 := Lib.hid hd2; have HB2 := Lib.hid (HB1.out.step hb2); have HN2 := Lib.hid hn2
    clear hd2 hn2 hb1
    go_wp2_with fail
    (with_reducible refine HD2.out.mono ?_); rintro e w3 ⟨v3, u3, rfl, hb3, hn3, _⟩
    have HB3 := Lib.hid (HB2.out.step hb3); have HN2 := Lib.hid (HN2.out.below hb3); have HN3 := Lib.hid hn3
    clear hn3 hb2
    obtain ⟨o2, k2, rfl, _, _, _⟩ := HN2.out.shape
    obtain ⟨o3, k3, rfl, _, _, _⟩ := HN3.out.shape
    have f0 := frozen_kept HB3.out 0
    have f1 := frozen_kept HB3.out 1
    have f2 := frozen_kept HB3.out 2
    have c0 : w3.cell? ⟨w.heap.size, 0, none⟩ = some (.bool false) := box_kept HB3.out 0
    have c1 : w3.cell? ⟨w.heap.size, 1, none⟩ = some (.slice none 0 0) := box_kept HB3.out 1
    have c2 : w3.cell? ⟨w.heap.size, 2, none⟩ = some (.slice none 0 0) := box_kept HB3.out 2
    have hh := heap_kept HB3.out
    have HH := Lib.hid hh; clear hh
    go_wp2_with fail
    refine ret_rat rfl w.heap.size _ _ _ rfl (put3_heap HH.out) rfl ?_
    refine ⟨_, rfl, put3_below (HBX.out.trans (HB3.out.mono (by simp))) (Nat.le_refl _) _ _ _, ?_⟩
    obtain ⟨e1, e2, e3⟩ := HR.out
    unfold IsR
    rw [e1, e2, e3]
    exact ⟨_, _, rfl, put3_num HN2.out HH.out (fun _ h => by cases h) (fun _ h => by cases h) (fun _ h => by cases h), put3_num HN3.out HH.out (fun _ h => by cases h) (fun _ h => by cases h) (fun _ h => by cases h)⟩
end Go.Proofs.YtaefimegiobkmaaGreatDoor
/-
  The reference's Valid, Parts, From: what they hand back.
  Conditions: each theorem's own.
-/
namespace Go.Proofs.YtaefimegiobkmaaGreatDoor
open Go.RowKit Go.ChangeShapes Go.WideShapes

theorem blen_one_iff (g : Nat) : blen g = 1 ↔ g = 1 := by
  constructor
  · intro h
    have h0 : g ≠ 0 := fun e => by rw [e, blen_zero] at h; cases h
    have h1 := lt_two_blen g
    rw [h] at h1
    have : (2 : Nat) ^ 1 = 2 := rfl
    omega
  · intro h; subst h; decide
/-- what the reference's Valid reads -/
theorem vld_tops {s : Bool} {a b : List Nat} (ha : 0 < a.length) (hb : 0 < b.length) : Vld s a b ↔ gd a (a.length - 1) ≠ 0 ∧ gd b (b.length - 1) ≠ 0 ∧ Nat.gcd (val a) (val b) = 1 := by
  have na : a ≠ [] := fun e => by rw [e] at ha; simp at ha
  have nb : b ≠ [] := fun e => by rw [e] at hb; simp at hb
  rw [vld_parts (fun h => na h.1)]
  unfold Clean
  constructor
  · rintro ⟨⟨_, h1⟩, ⟨_, h2⟩, h3⟩
    exact ⟨h1.resolve_left na, h2.resolve_left nb, h3⟩
  · rintro ⟨h1, h2, h3⟩
    exact ⟨⟨na, .inr h1⟩, ⟨nb, .inr h2⟩, h3⟩
theorem vld_half {s : Bool} {a b : List Nat} (h : a = [] ∧ b ≠ [] ∨ a ≠ [] ∧ b = []) : ¬ Vld s a b := by
  rintro (⟨h1, h2, _⟩ | ⟨h1, h2, _⟩)
  · rcases h with ⟨_, h⟩ | ⟨h, _⟩
    · exact h h2
    · exact h h1
  · rcases h with ⟨h, _⟩ | ⟨_, h⟩
    · exact h1 h
    · exact h2 h

set_option maxRecDepth 100000 in
set_option maxHeartbeats 3200000 in
theorem rvalid_any (v : Value) (s : Bool) (a b : List Nat) (w : World) (h : RatV w v s a b) (hla : a.length ≤ 400000) (hlb : b.length ≤ 400000) :
    Calls Tryz.prog 57 #[v] w (RetV w (.bool (decide (Vld s a b)))) := by
  obtain ⟨va, vb, rfl, ha, hb⟩ := h
  obtain ⟨ao, ca, rfl, hca, hca2, _⟩ := ha.shape
  obtain ⟨bo, cb, rfl, hcb, hcb2, _⟩ := hb.shape
  have hbx : Below w.heap.size w (w.alloc (.cells #[.bool s, .slice ao a.length ca, .slice bo b.length cb] 24)) := (Below.refl _ _).alloc (Nat.le_refl _) _
  have HBX := Lib.hid hbx
  by_cases h1 : a.length = 0
  · obtain rfl := List.eq_nil_of_length_eq_zero h1
    by_cases h2 : b.length = 0
    · obtain rfl := List.eq_nil_of_length_eq_zero h2
      have e : decide (Vld s [] []) = !s := by cases s <;> rfl
      rw [e]
      clear ha hb e hbx h1 h2
      go_enter Tryz.func57, Tryz.ntmps57
      go_wp2_with fail
      go_quiet (fail)
      go_wp2_with fail
      go_ret
      exact ⟨rfl, below_drewN HBX.out _⟩
    · have hd : decide (Vld s [] b) = false := decide_eq_false (vld_half (.inl ⟨rfl, fun e => h2 (by rw [e]; rfl)⟩))
      rw [hd]
      have f1 : ((b.length : Int) == 0) = false := by rw [beq_eq_false_iff_ne]; omega
      clear ha hb hbx h1 h2 hd
      go_enter Tryz.func57, Tryz.ntmps57
      go_wp2_with fail
      go_quiet (fail)
      go_wp2_with fail
      go_ret
      exact ⟨rfl, below_drewN HBX.out _⟩
  · have f0 : ((a.length : Int) == 0) = false := by rw [beq_eq_false_iff_ne]; omega
    by_cases h2 : b.length = 0
    · obtain rfl := List.eq_nil_of_length_eq_zero h2
      have hd : decide (Vld s a []) = false := decide_eq_false (vld_half (.inr ⟨fun e => h1 (by rw [e]; rfl), rfl⟩))
      rw [hd]
      clear ha hb hbx h1 h2 hd
      go_enter Tryz.func57, Tryz.ntmps57
      go_wp2_with fail
      go_quiet (fail)
      go_wp2_with fail
      go_ret
      exact ⟨rfl, below_drewN HBX.out _⟩
    · have f1 : ((b.length : Int) == 0) = false := by rw [beq_eq_false_iff_ne]; omega
      have hd : decide (Vld s a b) = decide (gd a (a.length - 1) ≠ 0 ∧ gd b (b.length - 1) ≠ 0 ∧ Nat.gcd (val a) (val b) = 1) := decide_eq_decide.2 (vld_tops (by omega) (by omega))
      rw [hd]
      have HA := Lib.hid (ha.below hbx); have HB := Lib.hid (hb.below hbx)
      obtain ⟨ba, fa, rfl, _, hca'⟩ := ha.at (by omega)
      obtain ⟨bb, fb, rfl, _, hcb'⟩ := hb.at (by omega)
      have hxl := ha.lt (a.length - 1)
      have hyl := hb.lt (b.length - 1)
      have hxc : ∀ n, ((w.alloc (.cells #[.bool s, .slice (some ⟨ba, fa, none⟩) a.length ca, .slice (some ⟨bb, fb, none⟩) b.length cb] 24)).drewN n).cell? ⟨ba, fa + (a.length - 1), none⟩ = some (.int .u32 (gd a (a.length - 1) : Nat)) := fun n => by
        obtain ⟨b', o', e', _, h'⟩ := (((ha.below hbx).below (below_drewN (Below.refl _ _) n))).at (by omega)
        cases e'
        exact h' _ (by omega)
      have hyc : ∀ n, ((w.alloc (.cells #[.bool s, .slice (some ⟨ba, fa, none⟩) a.length ca, .slice (some ⟨bb, fb, none⟩) b.length cb] 24)).drewN n).cell? ⟨bb, fb + (b.length - 1), none⟩ = some (.int .u32 (gd b (b.length - 1) : Nat)) := fun n => by
        obtain ⟨b', o', e', _, h'⟩ := (((hb.below hbx).below (below_drewN (Below.refl _ _) n))).at (by omega)
        cases e'
        exact h' _ (by omega)
      obtain ⟨x, hx⟩ : ∃ x, x = gd a (a.length - 1) := ⟨_, rfl⟩
      obtain ⟨y, hy⟩ : ∃ y, y = gd b (b.length - 1) := ⟨_, rfl⟩
      rw [← hx] at hxc hxl
      rw [← hy] at hyc hyl
      rw [← hx, ← hy]
      have HXC := Lib.hid hxc; have HYC := Lib.hid hyc
      have hl1 := wd_length_le HA.out.lt
      have hg0 : x ≠ 0 → val a ≠ 0 := fun h e => by
        have := clean_eq HA.out.lt (.inr (by rw [← hx]; exact h))
        rw [e, wd_zero] at this; rw [this] at h1; simp at h1
      have HG0 := Lib.hid hg0
      clear ha hb hbx hd hx hy hca' hcb' hxc hyc hg0
      by_cases hx0 : x = 0
      · subst hx0
        have hd : decide ((0 : Nat) ≠ 0 ∧ y ≠ 0 ∧ Nat.gcd (val a) (val b) = 1) = false := decide_eq_false fun h => h.1 rfl
        rw [hd]
        clear hd
        go_enter Tryz.func57, Tryz.ntmps57
        go_wp2_with fail
        go_quiet (fail)
        have hxc := HXC.out nq; have hyc := HYC.out nq
        go_wp2_with fail
        go_ret
        exact ⟨rfl, below_drewN HBX.out _⟩
      · have fx : (bne (x : Int) 0) = true := by rw [bne_iff_ne]; omega
        by_cases hy0 : y = 0
        · subst hy0
          have hd : decide (x ≠ 0 ∧ (0 : Nat) ≠ 0 ∧ Nat.gcd (val a) (val b) = 1) = false := decide_eq_false fun h => h.2.1 rfl
          rw [hd]
          clear hd
          go_enter Tryz.func57, Tryz.ntmps57
          go_wp2_with fail
          go_quiet (fail)
          have hxc := HXC.out nq; have hyc := HYC.out nq
          go_wp2_with fail
          go_ret
          exact ⟨rfl, below_drewN HBX.out _⟩
        · have fy : (bne (y : Int) 0) = true := by rw [bne_iff_ne]; omega
          have hv0 := HG0.out hx0
          have hgl : (wd (Nat.gcd (val a) (val b))).length ≤ 400000 := by
            have h3 := wd_length_mono (Nat.le_of_dvd (Nat.pos_of_ne_zero hv0) (Nat.gcd_dvd_left (val a) (val b)))
            omega
          have hd : decide (x ≠ 0 ∧ y ≠ 0 ∧ Nat.gcd (val a) (val b) = 1) = decide (blen (Nat.gcd (val a) (val b)) = 1) := by
            rw [decide_eq_decide, blen_one_iff]; exact ⟨fun h => h.2.2, fun h => ⟨hx0, hy0, h⟩⟩
          rw [hd]
          have hg := fun n => rgcd_any _ _ _ _ _ (HA.out.below (below_drewN (Below.refl _ _) n)) (HB.out.below (below_drewN (Below.refl _ _) n)) (by omega) (by omega)
          obtain ⟨g, hge⟩ : ∃ g, g = Nat.gcd (val a) (val b) := ⟨_, rfl⟩
          rw [← hge] at hg hgl ⊢
          have HG := Lib.hid hg
          clear hd hge hg hv0 hx0 hy0
          go_enter Tryz.func57, Tryz.ntmps57
          go_wp2_with fail
          go_quiet (fail)
          have hxc := HXC.out nq; have hyc := HYC.out nq
          go_wp2_with fail
          (with_reducible refine (HG.out _).mono ?_); rintro e w1 ⟨v1, l1, rfl, hb1, hn1, rfl⟩
          have hbi := rbits_any _ _ w1 hn1 (by omega)
          rw [val_wd] at hbi
          obtain ⟨bl, hbl⟩ : ∃ bl, bl = blen g := ⟨_, rfl⟩
          rw [← hbl] at hbi
          have HBI := Lib.hid hbi; have HB1 := Lib.hid ((below_drewN HBX.out nq).step hb1); have HBL := Lib.hid hbl
          clear hbi hn1 hb1 hbl hxc hyc
          by_cases hb1 : bl = 1
          · subst hb1
            go_wp2_with fail
            (with_reducible refine HBI.out.mono ?_); rintro e w2 ⟨rfl, rfl⟩
            go_wp2_with fail
            go_ret
            exact ⟨by rw [decide_eq_true HBL.out.symm]; rfl, HB1.out⟩
          · have hbz : ((bl : Int) == 1) = false := by rw [beq_eq_false_iff_ne]; omega
            go_wp2_with fail
            (with_reducible refine HBI.out.mono ?_); rintro e w2 ⟨rfl, rfl⟩
            go_wp2_with fail
            go_ret
            exact ⟨by rw [decide_eq_false (fun e => hb1 (HBL.out.trans e))]; first | rfl | (simp; done) | (simp [hbz]; done), HB1.out⟩
end Go.Proofs.YtaefimegiobkmaaGreatDoor
/-
  The reference's Parts, From, and rational.From: what they hand back.
  Conditions: each theorem's own.
-/
namespace Go.Proofs.YtaefimegiobkmaaGreatDoor
open Go.RowKit Go.ChangeShapes Go.WideShapes

theorem num_one1 (w : World) : Num (w.alloc (.cells #[.int .u32 1] 76)) (.slice (some ⟨w.heap.size, 0, none⟩) 1 1) (wd 1) := by
  rw [wd_one (by decide) (by decide)]; exact num_one w 76 1 (by decide)
theorem wd_one_len : (wd 1).length = 1 := by rw [wd_one (by decide) (by decide)]; rfl
/-- the number of the error of a denominator -/
def zc (d : Nat) : Nat := if d = 0 then 8 else 0
theorem qm_den0 (s : Bool) (n : Nat) : qm s n 0 = 0 := by unfold qm; rw [Rat.mkRat_zero]
set_option maxRecDepth 100000 in
set_option maxHeartbeats 1600000 in
theorem rparts_any (v : Value) (q : Rat) (w : World) (h : RatIs w v q) :
    Calls Tryz.prog 77 #[v] w (RetParts w q) := by
  obtain ⟨s, a, b, hv, rfl, hla, hlb⟩ := h
  obtain ⟨va, vb, rfl, ha, hb⟩ := hv
  obtain ⟨ao, ca, rfl, hca, hca2, _⟩ := ha.shape
  obtain ⟨bo, cb, rfl, hcb, hcb2, _⟩ := hb.shape
  have hbx : Below w.heap.size w (w.alloc (.cells #[.bool s, .slice ao a.length ca, .slice bo b.length cb] 24)) := (Below.refl _ _).alloc (Nat.le_refl _) _
  have hvl := rvalid_any _ s a b _ (⟨_, _, rfl, ha.below hbx, hb.below hbx⟩ : RatV (w.alloc (.cells #[.bool s, .slice ao a.length ca, .slice bo b.length cb] 24)) _ s a b) (by omega) (by omega)
  by_cases h0 : rq s a b = 0
  · rw [h0]
    have hbad : decide (Vld s a b) = false ∨ decide (Vld s a b) = true ∧ a.length = 0 := by
      by_cases hv : Vld s a b
      · right
        obtain ⟨_, e, _⟩ := vld_fields ha.lt hb.lt hv
        rw [h0, nn_zero, wd_zero] at e
        exact ⟨decide_eq_true hv, by rw [e]; rfl⟩
      · left; exact decide_eq_false hv
    have HBX := Lib.hid hbx; clear hbx h0
    rcases hbad with hd | ⟨hd, hl⟩
    · rw [hd] at hvl
      have HV := Lib.hid hvl; clear hvl hd ha hb
      go_enter Tryz.func77, Tryz.ntmps77
      go_wp2_with fail
      (with_reducible refine HV.out.mono ?_); rintro e w1 ⟨rfl, hb1⟩
      go_wp2_with fail
      go_ret3
      exact ⟨_, _, rfl, (HBX.out.step hb1).alloc (HBX.out.step hb1).size _, by rw [nn_zero, wd_zero]; exact Num.nil _, num_one1 _⟩
    · rw [hd] at hvl
      have c1 := fun w1 (h : Below _ _ w1) => box_kept (w := w) (cs := #[.bool s, .slice ao a.length ca, .slice bo b.length cb]) (T := 24) (w1 := w1) h 1
      have C1 := Lib.hid c1
      have HV := Lib.hid hvl; have HL := Lib.hid hl; clear hvl hd c1 ha hb hl
      go_enter Tryz.func77, Tryz.ntmps77
      go_wp2_with fail
      (with_reducible refine HV.out.mono ?_); rintro e w1 ⟨rfl, hb1⟩
      have c1 : w1.cell? ⟨w.heap.size, 1, none⟩ = some (.slice ao a.length ca) := C1.out w1 hb1
      rw [HL.out] at c1
      go_wp2_with fail
      go_ret3
      exact ⟨_, _, rfl, (HBX.out.step hb1).alloc (HBX.out.step hb1).size _, by rw [nn_zero, wd_zero]; exact Num.nil _, num_one1 _⟩
  · have hv : Vld s a b := Decidable.byContradiction fun h => h0 (rq_invalid h)
    obtain ⟨e1, e2, e3⟩ := vld_fields ha.lt hb.lt hv
    rw [dn_pos h0] at e3
    have hl : ((a.length : Int) == 0) = false := by
      rw [beq_eq_false_iff_ne]
      intro h
      have : a = [] := List.eq_nil_of_length_eq_zero (by omega)
      rw [e2] at this
      exact wd_ne (fun e => h0 (nn_eq_zero.1 e)) this
    rw [decide_eq_true hv] at hvl
    have HE := Lib.hid (And.intro e1 (And.intro e2 e3)); have HBX := Lib.hid hbx; have HA := Lib.hid (ha.below hbx); have HB := Lib.hid (hb.below hbx); have HV := Lib.hid hvl
    have bk := fun w1 (h : Below _ _ w1) j => box_kept (w := w) (cs := #[.bool s, .slice ao a.length ca, .slice bo b.length cb]) (T := 24) (w1 := w1) h j
    have BK := Lib.hid bk
    clear e1 e2 e3 hbx ha hb hv hvl bk h0
    go_enter Tryz.func77, Tryz.ntmps77
    go_wp2_with fail
    (with_reducible refine HV.out.mono ?_); rintro e w1 ⟨rfl, hb1⟩
    have c0 : w1.cell? ⟨w.heap.size, 0, none⟩ = some (.bool s) := BK.out w1 hb1 0
    have c1 : w1.cell? ⟨w.heap.size, 1, none⟩ = some (.slice ao a.length ca) := BK.out w1 hb1 1
    have c2 : w1.cell? ⟨w.heap.size, 2, none⟩ = some (.slice bo b.length cb) := BK.out w1 hb1 2
    go_wp2_with fail
    go_quiet (fail)
    go_wp2_with fail
    go_ret3
    obtain ⟨e1, e2, e3⟩ := HE.out
    refine ⟨.slice ao a.length ca, .slice bo b.length cb, by rw [← e1]; rfl, below_drewN (HBX.out.step hb1) _, ?_, ?_⟩
    · rw [← e2]; exact (HA.out.below hb1).below (below_drewN (Below.refl _ _) _)
    · rw [← e3]; exact (HB.out.below hb1).below (below_drewN (Below.refl _ _) _)
set_option maxRecDepth 100000 in
set_option maxHeartbeats 3200000 in
theorem rfrom_ok (s : Bool) (vn vd : Value) (a b : List Nat) (w : World) (ha : Num w vn a) (hb : Num w vd b) (hla : a.length ≤ 400000) (hlb : b.length ≤ 400000) (hd : val b ≠ 0) :
    Calls Tryz.prog 78 #[.bool s, vn, vd] w (RetRE w (qm s (val a) (val b)) (.int .i64 0)) := by
  have hbx : Below w.heap.size w (w.alloc (.cells #[.bool false, .slice none 0 0, .slice none 0 0] 24)) := (Below.refl _ _).alloc (Nat.le_refl _) _
  have hbits := rbits_any vn a _ (ha.below hbx) (by omega)
  have hbd := rbits_any vd b _ (hb.below hbx) (by omega)
  have hdz : ((blen (val b) : Int) == 0) = false := by
    rw [beq_eq_false_iff_ne]; have := blen_pos.2 hd; omega
  obtain ⟨bd, hbde⟩ : ∃ bd, bd = blen (val b) := ⟨_, rfl⟩
  rw [← hbde] at hbd hdz
  have HBD := Lib.hid hbd
  clear hbde hbd
  have HBX := Lib.hid hbx
  by_cases h0 : val a = 0
  · rw [h0, blen_zero] at hbits
    rw [h0, qm_zero]
    have HB := Lib.hid hbits; clear hbits h0 ha hb hbx
    go_enter Tryz.func78, Tryz.ntmps78
    go_wp2_with fail
    (with_reducible refine HBD.out.mono ?_); rintro e w1 ⟨rfl, rfl⟩
    go_wp2_with fail
    (with_reducible refine HB.out.mono ?_); rintro e w1 ⟨rfl, rfl⟩
    go_wp2_with fail
    refine ret_rat2 rfl w.heap.size _ _ _ rfl (heap_alloc_new w _) rfl ?_
    exact ⟨_, rfl, HBX.out, isR_zero _⟩
  · have hz : ((blen (val a) : Int) == 0) = false := by
      rw [beq_eq_false_iff_ne]; have := blen_pos.2 h0; omega
    have hgd := rgcd_any vn vd a b _ (ha.below hbx) (hb.below hbx) (by omega) (by omega)
    obtain ⟨bl, hbl⟩ : ∃ bl, bl = blen (val a) := ⟨_, rfl⟩
    rw [← hbl] at hbits hz
    have hl1 := wd_length_le ha.lt
    have hl2 := wd_length_le hb.lt
    have hgl : (wd (Nat.gcd (val a) (val b))).length ≤ 400000 := by
      have h3 := wd_length_mono (Nat.le_of_dvd (Nat.pos_of_ne_zero h0) (Nat.gcd_dvd_left (val a) (val b)))
      omega
    have hg0 : Nat.gcd (val a) (val b) ≠ 0 := fun h => h0 (Nat.eq_zero_of_gcd_eq_zero_left h)
    have hR : ng (qm s (val a) (val b)) = s ∧ nn (qm s (val a) (val b)) = val a / Nat.gcd (val a) (val b) ∧ dn (qm s (val a) (val b)) = val b / Nat.gcd (val a) (val b) :=
      ⟨ng_qm hd h0, nn_qm hd, dn_qm hd h0⟩
    obtain ⟨q, hq⟩ : ∃ q, q = qm s (val a) (val b) := ⟨_, rfl⟩
    rw [← hq] at hR ⊢
    obtain ⟨g, hg⟩ : ∃ g, g = Nat.gcd (val a) (val b) := ⟨_, rfl⟩
    rw [← hg] at hgd hgl hg0 hR
    have HR := Lib.hid hR; have HBI := Lib.hid hbits; have HGD := Lib.hid hgd; have HA := Lib.hid (ha.below hbx); have HB := Lib.hid (hb.below hbx); have HG0 := Lib.hid hg0
    clear hR hbits hgd ha hb hg0 hg hq hbl hbx h0
    go_enter Tryz.func78, Tryz.ntmps78
    go_wp2_with fail
    (with_reducible refine HBD.out.mono ?_); rintro e w1 ⟨rfl, rfl⟩
    go_wp2_with fail
    (with_reducible refine HBI.out.mono ?_); rintro e w1 ⟨rfl, rfl⟩
    go_wp2_with fail
    (with_reducible refine HGD.out.mono ?_); rintro e w1 ⟨v1, l1, rfl, hb1, hn1, rfl⟩
    have hd1 := rdiv_any vn v1 a _ w1 (HA.out.below hb1) hn1 (by omega) (by omega) (by rw [val_wd]; exact HG0.out)
    rw [val_wd] at hd1
    have HD1 := Lib.hid hd1; have HB1 := Lib.hid hb1; have HN1 := Lib.hid hn1
    clear hd1 hn1
    go_wp2_with fail
    (with_reducible refine HD1.out.mono ?_); rintro e w2 ⟨v2, u2, rfl, hb2, hn2, _⟩
    have hd2 := rdiv_any vd v1 b _ w2 ((HB.out.below hb1).below hb2) (HN1.out.below hb2) (by omega) (by omega) (by rw [val_wd]; exact HG0.out)
    rw [val_wd] at hd2
    have HD2 := Lib.hid hd2; have HB2 := Lib.hid (HB1.out.step hb2); have HN2 := Lib.hid hn2
    clear hd2 hn2 hb1
    go_wp2_with fail
    (with_reducible refine HD2.out.mono ?_); rintro e w3 ⟨v3, u3, rfl, hb3, hn3, _⟩
    have HB3 := Lib.hid (HB2.out.step hb3); have HN2 := Lib.hid (HN2.out.below hb3); have HN3 := Lib.hid hn3
    clear hn3 hb2
    obtain ⟨o2, k2, rfl, _, _, _⟩ := HN2.out.shape
    obtain ⟨o3, k3, rfl, _, _, _⟩ := HN3.out.shape
    have f0 := frozen_kept HB3.out 0
    have f1 := frozen_kept HB3.out 1
    have f2 := frozen_kept HB3.out 2
    have c0 : w3.cell? ⟨w.heap.size, 0, none⟩ = some (.bool false) := box_kept HB3.out 0
    have c1 : w3.cell? ⟨w.heap.size, 1, none⟩ = some (.slice none 0 0) := box_kept HB3.out 1
    have c2 : w3.cell? ⟨w.heap.size, 2, none⟩ = some (.slice none 0 0) := box_kept HB3.out 2
    have hh := heap_kept HB3.out
    have HH := Lib.hid hh; clear hh
    go_wp2_with fail
    refine ret_rat2 rfl w.heap.size _ _ _ rfl (put3_heap HH.out) rfl ?_
    refine ⟨_, rfl, put3_below (HBX.out.trans (HB3.out.mono (by simp))) (Nat.le_refl _) _ _ _, ?_⟩
    obtain ⟨e1, e2, e3⟩ := HR.out
    unfold IsR
    rw [e1, e2, e3]
    exact ⟨_, _, rfl, put3_num HN2.out HH.out (fun _ h => by cases h) (fun _ h => by cases h) (fun _ h => by cases h), put3_num HN3.out HH.out (fun _ h => by cases h) (fun _ h => by cases h) (fun _ h => by cases h)⟩
set_option maxRecDepth 100000 in
set_option maxHeartbeats 800000 in
theorem rfrom_zero (s : Bool) (vn vd : Value) (b : List Nat) (w : World) (hb : Num w vd b) (hlb : b.length ≤ 400000) (hd : val b = 0) :
    Calls Tryz.prog 78 #[.bool s, vn, vd] w (RetRE w 0 (.int .i64 8)) := by
  have hbx : Below w.heap.size w (w.alloc (.cells #[.bool false, .slice none 0 0, .slice none 0 0] 24)) := (Below.refl _ _).alloc (Nat.le_refl _) _
  have hbd := rbits_any vd b _ (hb.below hbx) (by omega)
  rw [hd, blen_zero] at hbd
  have HB := Lib.hid hbd; have HBX := Lib.hid hbx; clear hbd hd hb hbx
  go_enter Tryz.func78, Tryz.ntmps78
  go_wp2_with fail
  (with_reducible refine HB.out.mono ?_); rintro e w1 ⟨rfl, rfl⟩
  go_wp2_with fail
  refine ret_rat2 rfl w.heap.size _ _ _ rfl (heap_alloc_new w _) rfl ?_
  exact ⟨_, rfl, HBX.out, isR_zero _⟩
theorem rfrom_any (s : Bool) (vn vd : Value) (a b : List Nat) (w : World) (ha : Num w vn a) (hb : Num w vd b) (hla : a.length ≤ 400000) (hlb : b.length ≤ 400000) :
    Calls Tryz.prog 78 #[.bool s, vn, vd] w (RetRE w (qm s (val a) (val b)) (.int .i64 (zc (val b) : Nat))) := by
  unfold zc
  by_cases hd : val b = 0
  · rw [hd, if_pos rfl, qm_den0]; exact rfrom_zero s vn vd b w hb hlb hd
  · rw [if_neg hd]; exact rfrom_ok s vn vd a b w ha hb hla hlb hd
end Go.Proofs.YtaefimegiobkmaaGreatDoor
/-
  Contracts on numbers by what they stand for; a fraction's cells behind a call.
  Conditions: each theorem's own.
-/
namespace Go.Proofs.YtaefimegiobkmaaGreatDoor
open Go.RowKit Go.ChangeShapes Go.WideShapes

theorem heap_below {w w1 : World} {g : Nat} {o : Obj} (h : w.heap[g]? = some o) (hb : Below w.heap.size w w1) : w1.heap[g]? = some o := by
  rw [hb.block _ (Array.getElem?_eq_some_iff.1 h).1]; exact h
theorem row3 {w : World} {g : Nat} {x y z : Value} {T : TypeId} (h : w.heap[g]? = some (.cells #[x, y, z] T)) :
    w.cell? ⟨g, 0, none⟩ = some x ∧ w.cell? ⟨g, 1, none⟩ = some y ∧ w.cell? ⟨g, 2, none⟩ = some z :=
  ⟨cell_of_row _ _ _ _ _ _ h, cell_of_row _ _ _ _ _ _ h, cell_of_row _ _ _ _ _ _ h⟩
theorem froz3 {w : World} {g : Nat} {x y z : Value} {T : TypeId} (h : w.heap[g]? = some (.cells #[x, y, z] T)) :
    w.frozen? ⟨g, 0, none⟩ = false ∧ w.frozen? ⟨g, 1, none⟩ = false ∧ w.frozen? ⟨g, 2, none⟩ = false := by
  refine ⟨?_, ?_, ?_⟩ <;> simp [World.frozen?, h]
theorem RatIs.shape {w : World} {v : Value} {q : Rat} (h : RatIs w v q) : ∃ s ao n c bo m d, v = .agg #[.bool s, .slice ao n c, .slice bo m d] := by
  obtain ⟨s, a, b, ⟨va, vb, rfl, h1, h2⟩, _⟩ := h
  obtain ⟨ao, c, rfl, _⟩ := h1.shape
  obtain ⟨bo, d, rfl, _⟩ := h2.shape
  exact ⟨s, ao, _, c, bo, _, d, rfl⟩
theorem IsR.shape {w : World} {v : Value} {q : Rat} (h : IsR w v q) : ∃ s ao n c bo m d, v = .agg #[.bool s, .slice ao n c, .slice bo m d] := by
  obtain ⟨va, vb, rfl, h1, h2⟩ := h
  obtain ⟨ao, c, rfl, _⟩ := h1.shape
  obtain ⟨bo, d, rfl, _⟩ := h2.shape
  exact ⟨_, ao, _, c, bo, _, d, rfl⟩
/-- cells of a fraction hold no words -/
theorem ratV_put {w : World} {g : Nat} {v : Value} {s : Bool} {a b : List Nat} {x y z p q r : Value} {T : TypeId} (h : RatV w v s a b) (hg : w.heap[g]? = some (.cells #[p, q, r] T))
    (hp : ∀ n : Int, p ≠ .int .u32 n) (hq : ∀ n : Int, q ≠ .int .u32 n) (hr : ∀ n : Int, r ≠ .int .u32 n) : RatV (put3 w g x y z) v s a b := by
  obtain ⟨va, vb, rfl, h1, h2⟩ := h
  exact ⟨va, vb, rfl, put3_num h1 hg hp hq hr, put3_num h2 hg hp hq hr⟩
theorem isR_put {w : World} {g : Nat} {v : Value} {u : Rat} {x y z : Value} {s : Bool} {ao bo : Option Addr} {n c m d : Nat} {T : TypeId} (h : IsR w v u) (hg : w.heap[g]? = some (.cells #[.bool s, .slice ao n c, .slice bo m d] T)) : IsR (put3 w g x y z) v u :=
  ratV_put h hg (fun _ h => by cases h) (fun _ h => by cases h) (fun _ h => by cases h)
theorem ratIs_put {w : World} {g : Nat} {v : Value} {u : Rat} {x y z : Value} {s : Bool} {ao bo : Option Addr} {n c m d : Nat} {T : TypeId} (h : RatIs w v u) (hg : w.heap[g]? = some (.cells #[.bool s, .slice ao n c, .slice bo m d] T)) : RatIs (put3 w g x y z) v u := by
  obtain ⟨s', a, b, h1, h2⟩ := h
  exact ⟨s', a, b, ratV_put h1 hg (fun _ h => by cases h) (fun _ h => by cases h) (fun _ h => by cases h), h2⟩

section
variable {u v : Value} {m n : Nat} {w : World}
theorem addN (h1 : Num w u (wd m)) (h2 : Num w v (wd n)) (l1 : (wd m).length ≤ 400000) (l2 : (wd n).length ≤ 400000) : Calls Tryz.prog 93 #[u, v] w (RetN w (m + n)) := by
  have h := add_any u v _ _ w h1 h2 (by omega) (by omega)
  rw [val_wd, val_wd] at h; exact h.mono fun _ _ => RetNum.n
theorem raddN (h1 : Num w u (wd m)) (h2 : Num w v (wd n)) (l1 : (wd m).length ≤ 400000) (l2 : (wd n).length ≤ 400000) : Calls Tryz.prog 87 #[u, v] w (RetN w (m + n)) := by
  have h := radd_any u v _ _ w h1 h2 (by omega) (by omega)
  rw [val_wd, val_wd] at h; exact h.mono fun _ _ => RetNum.n
theorem mulN (h1 : Num w u (wd m)) (h2 : Num w v (wd n)) (l1 : (wd m).length ≤ 400000) (l2 : (wd n).length ≤ 400000) : Calls Tryz.prog 76 #[u, v] w (RetN w (m * n)) := by
  have h := mul_any u v _ _ w h1 h2 (by omega) (by omega)
  rw [val_wd, val_wd] at h; exact h.mono fun _ _ => RetNum.n
theorem rmulN (h1 : Num w u (wd m)) (h2 : Num w v (wd n)) (l1 : (wd m).length ≤ 400000) (l2 : (wd n).length ≤ 400000) : Calls Tryz.prog 79 #[u, v] w (RetN w (m * n)) := by
  have h := rmul_any u v _ _ w h1 h2 (by omega) (by omega)
  rw [val_wd, val_wd] at h; exact h.mono fun _ _ => RetNum.n
theorem cmpN_ (h1 : Num w u (wd m)) (h2 : Num w v (wd n)) (l1 : (wd m).length ≤ 400000) (l2 : (wd n).length ≤ 400000) : Calls Tryz.prog 83 #[u, v] w (RetV w (.int .i64 (cmpN m n))) := by
  have h := cmp_any u v _ _ w h1 h2 (by omega) (by omega)
  rw [val_wd, val_wd] at h; exact h
theorem rcmpN_ (h1 : Num w u (wd m)) (h2 : Num w v (wd n)) (l1 : (wd m).length ≤ 400000) (l2 : (wd n).length ≤ 400000) : Calls Tryz.prog 88 #[u, v] w (RetS w (.int .i64 (cmpN m n))) := by
  have h := rcmp_any u v _ _ w h1 h2 (by omega) (by omega)
  rw [val_wd, val_wd] at h; exact h
theorem subN (h1 : Num w u (wd m)) (h2 : Num w v (wd n)) (l1 : (wd m).length ≤ 400000) (l2 : (wd n).length ≤ 400000) (hle : n ≤ m) : Calls Tryz.prog 94 #[u, v] w (RetNE w (m - n) .nilIface) := by
  have h := sub_ge u v _ _ w h1 h2 (by omega) (by omega) (by rw [val_wd, val_wd]; exact hle)
  rw [val_wd, val_wd, errV_zero] at h; exact h
theorem rsubN (h1 : Num w u (wd m)) (h2 : Num w v (wd n)) (l1 : (wd m).length ≤ 400000) (l2 : (wd n).length ≤ 400000) (hle : n ≤ m) : Calls Tryz.prog 89 #[u, v] w (RetNE w (m - n) (.int .i64 0)) := by
  have h := rsub_ge u v _ _ w h1 h2 (by omega) (by omega) (by rw [val_wd, val_wd]; exact hle)
  rw [val_wd, val_wd] at h; exact h
theorem formN (s : Bool) (h1 : Num w u (wd m)) (h2 : Num w v (wd n)) (l1 : (wd m).length ≤ 400000) (l2 : (wd n).length ≤ 400000) (h0 : n ≠ 0) : Calls Tryz.prog 72 #[.bool s, u, v] w (RetR w (qm s m n)) := by
  have h := form_any s u v _ _ w h1 h2 l1 l2 (by rw [val_wd]; exact h0)
  rw [val_wd, val_wd] at h; exact h
theorem rfromN (s : Bool) (h1 : Num w u (wd m)) (h2 : Num w v (wd n)) (l1 : (wd m).length ≤ 400000) (l2 : (wd n).length ≤ 400000) : Calls Tryz.prog 78 #[.bool s, u, v] w (RetRE w (qm s m n) (.int .i64 (zc n : Nat))) := by
  have h := rfrom_any s u v _ _ w h1 h2 l1 l2
  rw [val_wd, val_wd] at h; exact h
end
end Go.Proofs.YtaefimegiobkmaaGreatDoor
/-
  rational.Neg, Abs, Mul, Add: what they hand back.
  Conditions: each theorem's own.
-/
namespace Go.Proofs.YtaefimegiobkmaaGreatDoor
open Go.RowKit Go.ChangeShapes Go.WideShapes

theorem nest1_0 (w : World) (a : Obj) : (w.alloc a).heap[w.heap.size]? = some a := heap_alloc_new w a
theorem nest2_0 (w : World) (a b : Obj) : ((w.alloc a).alloc b).heap[w.heap.size]? = some a := by
  rw [heap_alloc_old _ _ (by simp), heap_alloc_new]
theorem nest2_1 (w : World) (a b : Obj) : ((w.alloc a).alloc b).heap[w.heap.size + 1]? = some b := by
  rw [show w.heap.size + 1 = (w.alloc a).heap.size from by simp, heap_alloc_new]
theorem nest3_0 (w : World) (a b c : Obj) : (((w.alloc a).alloc b).alloc c).heap[w.heap.size]? = some a := by
  rw [heap_alloc_old _ _ (by simp; omega), nest2_0]
theorem nest3_1 (w : World) (a b c : Obj) : (((w.alloc a).alloc b).alloc c).heap[w.heap.size + 1]? = some b := by
  rw [heap_alloc_old _ _ (by simp), nest2_1]
theorem nest3_2 (w : World) (a b c : Obj) : (((w.alloc a).alloc b).alloc c).heap[w.heap.size + 2]? = some c := by
  rw [show w.heap.size + 2 = ((w.alloc a).alloc b).heap.size from by simp, heap_alloc_new]
theorem q_mul' (p q : Rat) : qm (!(ng p == ng q)) (nn p * nn q) (p.den * q.den) = p * q := q_mul p q
theorem q_div' (p q : Rat) (h : q ≠ 0) : qm (!(ng p == ng q)) (nn p * q.den) (p.den * nn q) = p / q := q_div p q h

set_option maxRecDepth 100000 in
set_option maxHeartbeats 3200000 in
theorem neg_any (vp : Value) (p : Rat) (w : World) (hp : RatIs w vp p)  :
    Calls Tryz.prog 65 #[vp] w (RetR w (-p)) := by
  obtain ⟨sp, op, np, cp, ap, mp, dp, rfl⟩ := hp.shape
  have hlp := hp.rl
  have hb0 := (((Below.refl w.heap.size w).alloc (by first | (simp; done) | (simp; omega)) (.cells #[.bool sp, .slice op np cp, .slice ap mp dp] 24)).alloc (by first | (simp; done) | (simp; omega)) (.cells #[.bool false, .slice none 0 0, .slice none 0 0] 24))
  have hxp := nest2_0 w (.cells #[.bool sp, .slice op np cp, .slice ap mp dp] 24) (.cells #[.bool false, .slice none 0 0, .slice none 0 0] 24)
  have hxR := nest2_1 w (.cells #[.bool sp, .slice op np cp, .slice ap mp dp] 24) (.cells #[.bool false, .slice none 0 0, .slice none 0 0] 24)
  have hpp := hp.below hb0
  obtain ⟨w0, hw0⟩ : ∃ w0, w0 = ((w.alloc (.cells #[.bool sp, .slice op np cp, .slice ap mp dp] 24)).alloc (.cells #[.bool false, .slice none 0 0, .slice none 0 0] 24)) := ⟨_, rfl⟩
  rw [← hw0] at hb0 hxp hxR hpp
  have HB0 := Lib.hid hb0; have HW0 := Lib.hid hw0
  have BXp := Lib.hid hxp
  have BXR := Lib.hid hxR
  have Fp := Lib.hid hpp
  clear hb0 hw0 hxp hxR hpp hp
  have l1 := rl_n p; have l2 := rl_d p
  go_enter Tryz.func65, Tryz.ntmps65
  have hs := parts_any _ p w0 Fp.out
  have HS := Lib.hid hs; clear hs
  go_wp2_with fail
  rw [← HW0.out]
  (with_reducible refine HS.out.mono ?_); rintro e w1 ⟨v1, u1, rfl, hb1, hn1, hm1⟩
  clear HS
  have HB1 := Lib.hid (HB0.out.step hb1)
  have Fp := Lib.hid (Fp.out.below hb1)
  have BXp := Lib.hid (heap_below BXp.out hb1)
  have BXR := Lib.hid (heap_below BXR.out hb1)
  have N := Lib.hid hn1
  have D := Lib.hid hm1
  clear hn1 hm1
  clear hb1
  have hs := formN (!ng p) N.out D.out (by omega) (by omega) p.den_nz
  rw [q_neg] at hs
  have HS := Lib.hid hs; clear hs
  go_wp2_with fail
  (with_reducible refine HS.out.mono ?_); rintro e w2 ⟨v2, rfl, hb2, hn2⟩
  clear HS
  have HB2 := Lib.hid (HB1.out.step hb2)
  have Fp := Lib.hid (Fp.out.below hb2)
  have N := Lib.hid (N.out.below hb2)
  have D := Lib.hid (D.out.below hb2)
  have BXp := Lib.hid (heap_below BXp.out hb2)
  have BXR := Lib.hid (heap_below BXR.out hb2)
  have Q := Lib.hid hn2; clear hn2
  clear hb2
  obtain ⟨sQ, oQ, nQ, cQ, aQ, mQ, dQ, rfl⟩ := Q.out.shape
  obtain ⟨eR0, eR1, eR2⟩ := row3 BXR.out
  obtain ⟨fR0, fR1, fR2⟩ := froz3 BXR.out
  go_wp2_with fail
  clear eR0 eR1 eR2 fR0 fR1 fR2
  refine ret_rat rfl (w.heap.size + 1) _ _ _ rfl (put3_heap BXR.out) rfl ?_
  exact ⟨_, rfl, put3_below HB2.out (by omega) _ _ _, isR_put Q.out BXR.out⟩
set_option maxRecDepth 100000 in
set_option maxHeartbeats 3200000 in
theorem mulq_any (vp : Value) (p : Rat) (vq : Value) (q : Rat) (w : World) (hp : RatIs w vp p) (hq : RatIs w vq q)  :
    Calls Tryz.prog 51 #[vp, vq] w (RetR w (p * q)) := by
  obtain ⟨sp, op, np, cp, ap, mp, dp, rfl⟩ := hp.shape
  have hlp := hp.rl
  obtain ⟨sq, oq, nq, cq, aq, mq, dq, rfl⟩ := hq.shape
  have hlq := hq.rl
  have hb0 := ((((Below.refl w.heap.size w).alloc (by first | (simp; done) | (simp; omega)) (.cells #[.bool sp, .slice op np cp, .slice ap mp dp] 24)).alloc (by first | (simp; done) | (simp; omega)) (.cells #[.bool sq, .slice oq nq cq, .slice aq mq dq] 24)).alloc (by first | (simp; done) | (simp; omega)) (.cells #[.bool false, .slice none 0 0, .slice none 0 0] 24))
  have hxp := nest3_0 w (.cells #[.bool sp, .slice op np cp, .slice ap mp dp] 24) (.cells #[.bool sq, .slice oq nq cq, .slice aq mq dq] 24) (.cells #[.bool false, .slice none 0 0, .slice none 0 0] 24)
  have hxq := nest3_1 w (.cells #[.bool sp, .slice op np cp, .slice ap mp dp] 24) (.cells #[.bool sq, .slice oq nq cq, .slice aq mq dq] 24) (.cells #[.bool false, .slice none 0 0, .slice none 0 0] 24)
  have hxR := nest3_2 w (.cells #[.bool sp, .slice op np cp, .slice ap mp dp] 24) (.cells #[.bool sq, .slice oq nq cq, .slice aq mq dq] 24) (.cells #[.bool false, .slice none 0 0, .slice none 0 0] 24)
  have hpp := hp.below hb0
  have hpq := hq.below hb0
  obtain ⟨w0, hw0⟩ : ∃ w0, w0 = (((w.alloc (.cells #[.bool sp, .slice op np cp, .slice ap mp dp] 24)).alloc (.cells #[.bool sq, .slice oq nq cq, .slice aq mq dq] 24)).alloc (.cells #[.bool false, .slice none 0 0, .slice none 0 0] 24)) := ⟨_, rfl⟩
  rw [← hw0] at hb0 hxp hxq hxR hpp hpq
  have HB0 := Lib.hid hb0; have HW0 := Lib.hid hw0
  have BXp := Lib.hid hxp
  have BXq := Lib.hid hxq
  have BXR := Lib.hid hxR
  have Fp := Lib.hid hpp
  have Fq := Lib.hid hpq
  clear hb0 hw0 hxp hxq hxR hpp hp hpq hq
  have l1 := rl_n p; have l2 := rl_d p; have l3 := rl_n q; have l4 := rl_d q
  have L1 : (wd (nn p * nn q)).length ≤ 200000 := by have := wd_mul_len (nn p) (nn q); have := rl_n p; have := rl_n q; omega
  have L2 : (wd (p.den * q.den)).length ≤ 200000 := by have := wd_mul_len p.den q.den; have := rl_d p; have := rl_d q; omega
  go_enter Tryz.func51, Tryz.ntmps51
  have hs := parts_any _ p w0 Fp.out
  have HS := Lib.hid hs; clear hs
  go_wp2_with fail
  rw [← HW0.out]
  (with_reducible refine HS.out.mono ?_); rintro e w1 ⟨v1, u1, rfl, hb1, hn1, hm1⟩
  clear HS
  have HB1 := Lib.hid (HB0.out.step hb1)
  have Fp := Lib.hid (Fp.out.below hb1)
  have Fq := Lib.hid (Fq.out.below hb1)
  have BXp := Lib.hid (heap_below BXp.out hb1)
  have BXq := Lib.hid (heap_below BXq.out hb1)
  have BXR := Lib.hid (heap_below BXR.out hb1)
  have N := Lib.hid hn1
  have D := Lib.hid hm1
  clear hn1 hm1
  clear hb1
  have hs := parts_any _ q w1 Fq.out
  have HS := Lib.hid hs; clear hs
  obtain ⟨eq0, eq1, eq2⟩ := row3 BXq.out
  go_wp2_with fail
  clear eq0 eq1 eq2
  (with_reducible refine HS.out.mono ?_); rintro e w2 ⟨v2, u2, rfl, hb2, hn2, hm2⟩
  clear HS
  have HB2 := Lib.hid (HB1.out.step hb2)
  have Fp := Lib.hid (Fp.out.below hb2)
  have Fq := Lib.hid (Fq.out.below hb2)
  have N := Lib.hid (N.out.below hb2)
  have D := Lib.hid (D.out.below hb2)
  have BXp := Lib.hid (heap_below BXp.out hb2)
  have BXq := Lib.hid (heap_below BXq.out hb2)
  have BXR := Lib.hid (heap_below BXR.out hb2)
  have M := Lib.hid hn2
  have E := Lib.hid hm2
  clear hn2 hm2
  clear hb2
  have hs := mulN N.out M.out (by omega) (by omega)
  have HS := Lib.hid hs; clear hs
  go_wp2_with fail
  (with_reducible refine HS.out.mono ?_); rintro e w3 ⟨v3, rfl, hb3, hn3⟩
  clear HS
  have HB3 := Lib.hid (HB2.out.step hb3)
  have Fp := Lib.hid (Fp.out.below hb3)
  have Fq := Lib.hid (Fq.out.below hb3)
  have N := Lib.hid (N.out.below hb3)
  have D := Lib.hid (D.out.below hb3)
  have M := Lib.hid (M.out.below hb3)
  have E := Lib.hid (E.out.below hb3)
  have BXp := Lib.hid (heap_below BXp.out hb3)
  have BXq := Lib.hid (heap_below BXq.out hb3)
  have BXR := Lib.hid (heap_below BXR.out hb3)
  have NM := Lib.hid hn3; clear hn3
  clear hb3
  have hs := mulN D.out E.out (by omega) (by omega)
  have HS := Lib.hid hs; clear hs
  go_wp2_with fail
  (with_reducible refine HS.out.mono ?_); rintro e w4 ⟨v4, rfl, hb4, hn4⟩
  clear HS
  have HB4 := Lib.hid (HB3.out.step hb4)
  have Fp := Lib.hid (Fp.out.below hb4)
  have Fq := Lib.hid (Fq.out.below hb4)
  have N := Lib.hid (N.out.below hb4)
  have D := Lib.hid (D.out.below hb4)
  have M := Lib.hid (M.out.below hb4)
  have E := Lib.hid (E.out.below hb4)
  have NM := Lib.hid (NM.out.below hb4)
  have BXp := Lib.hid (heap_below BXp.out hb4)
  have BXq := Lib.hid (heap_below BXq.out hb4)
  have BXR := Lib.hid (heap_below BXR.out hb4)
  have DE := Lib.hid hn4; clear hn4
  clear hb4
  have hs := formN (!(ng p == ng q)) NM.out DE.out (by omega) (by omega) (den_mul_nz p.den_nz q.den_nz)
  rw [q_mul'] at hs
  have HS := Lib.hid hs; clear hs
  go_wp2_with fail
  (with_reducible refine HS.out.mono ?_); rintro e w5 ⟨v5, rfl, hb5, hn5⟩
  clear HS
  have HB5 := Lib.hid (HB4.out.step hb5)
  have Fp := Lib.hid (Fp.out.below hb5)
  have Fq := Lib.hid (Fq.out.below hb5)
  have N := Lib.hid (N.out.below hb5)
  have D := Lib.hid (D.out.below hb5)
  have M := Lib.hid (M.out.below hb5)
  have E := Lib.hid (E.out.below hb5)
  have NM := Lib.hid (NM.out.below hb5)
  have DE := Lib.hid (DE.out.below hb5)
  have BXp := Lib.hid (heap_below BXp.out hb5)
  have BXq := Lib.hid (heap_below BXq.out hb5)
  have BXR := Lib.hid (heap_below BXR.out hb5)
  have Q := Lib.hid hn5; clear hn5
  clear hb5
  obtain ⟨sQ, oQ, nQ, cQ, aQ, mQ, dQ, rfl⟩ := Q.out.shape
  obtain ⟨eR0, eR1, eR2⟩ := row3 BXR.out
  obtain ⟨fR0, fR1, fR2⟩ := froz3 BXR.out
  go_wp2_with fail
  clear eR0 eR1 eR2 fR0 fR1 fR2
  refine ret_rat rfl (w.heap.size + 2) _ _ _ rfl (put3_heap BXR.out) rfl ?_
  exact ⟨_, rfl, put3_below HB5.out (by omega) _ _ _, isR_put Q.out BXR.out⟩
set_option maxRecDepth 100000 in
set_option maxHeartbeats 3200000 in
theorem add_same (vp : Value) (p : Rat) (vq : Value) (q : Rat) (w : World) (hp : RatIs w vp p) (hq : RatIs w vq q) (hs : ng p = ng q) :
    Calls Tryz.prog 64 #[vp, vq] w (RetR w (p + q)) := by
  obtain ⟨sp, op, np, cp, ap, mp, dp, rfl⟩ := hp.shape
  have hlp := hp.rl
  obtain ⟨sq, oq, nq, cq, aq, mq, dq, rfl⟩ := hq.shape
  have hlq := hq.rl
  have hb0 := ((((Below.refl w.heap.size w).alloc (by first | (simp; done) | (simp; omega)) (.cells #[.bool sp, .slice op np cp, .slice ap mp dp] 24)).alloc (by first | (simp; done) | (simp; omega)) (.cells #[.bool sq, .slice oq nq cq, .slice aq mq dq] 24)).alloc (by first | (simp; done) | (simp; omega)) (.cells #[.bool false, .slice none 0 0, .slice none 0 0] 24))
  have hxp := nest3_0 w (.cells #[.bool sp, .slice op np cp, .slice ap mp dp] 24) (.cells #[.bool sq, .slice oq nq cq, .slice aq mq dq] 24) (.cells #[.bool false, .slice none 0 0, .slice none 0 0] 24)
  have hxq := nest3_1 w (.cells #[.bool sp, .slice op np cp, .slice ap mp dp] 24) (.cells #[.bool sq, .slice oq nq cq, .slice aq mq dq] 24) (.cells #[.bool false, .slice none 0 0, .slice none 0 0] 24)
  have hxR := nest3_2 w (.cells #[.bool sp, .slice op np cp, .slice ap mp dp] 24) (.cells #[.bool sq, .slice oq nq cq, .slice aq mq dq] 24) (.cells #[.bool false, .slice none 0 0, .slice none 0 0] 24)
  have hpp := hp.below hb0
  have hpq := hq.below hb0
  obtain ⟨w0, hw0⟩ : ∃ w0, w0 = (((w.alloc (.cells #[.bool sp, .slice op np cp, .slice ap mp dp] 24)).alloc (.cells #[.bool sq, .slice oq nq cq, .slice aq mq dq] 24)).alloc (.cells #[.bool false, .slice none 0 0, .slice none 0 0] 24)) := ⟨_, rfl⟩
  rw [← hw0] at hb0 hxp hxq hxR hpp hpq
  have HB0 := Lib.hid hb0; have HW0 := Lib.hid hw0
  have BXp := Lib.hid hxp
  have BXq := Lib.hid hxq
  have BXR := Lib.hid hxR
  have Fp := Lib.hid hpp
  have Fq := Lib.hid hpq
  clear hb0 hw0 hxp hxq hxR hpp hp hpq hq
  have l1 := rl_n p; have l2 := rl_d p; have l3 := rl_n q; have l4 := rl_d q
  have L1 : (wd (nn p * q.den)).length ≤ 200000 := by have := wd_mul_len (nn p) q.den; omega
  have L2 : (wd (nn q * p.den)).length ≤ 200000 := by have := wd_mul_len (nn q) p.den; omega
  have L3 : (wd (p.den * q.den)).length ≤ 200000 := by have := wd_mul_len p.den q.den; omega
  have heq := q_add_same p q hs
  have HEQ := Lib.hid heq; clear heq
  have L4 : (wd (nn p * q.den + nn q * p.den)).length ≤ 200001 := by have := wd_add_len (nn p * q.den) (nn q * p.den); omega
  have f1 : (ng p == ng q) = true := by rw [beq_iff_eq]; exact hs
  obtain ⟨x, hx⟩ : ∃ x, x = ng p := ⟨_, rfl⟩; obtain ⟨y, hy⟩ : ∃ y, y = ng q := ⟨_, rfl⟩
  rw [← hx, ← hy] at f1
  have HX := Lib.hid hx; have HY := Lib.hid hy; clear hx hy hs
  go_enter Tryz.func64, Tryz.ntmps64
  have hs := parts_any _ p w0 Fp.out
  have HS := Lib.hid hs; clear hs
  go_wp2_with fail
  rw [← HW0.out]
  (with_reducible refine HS.out.mono ?_); rintro e w1 ⟨v1, u1, rfl, hb1, hn1, hm1⟩
  clear HS
  have HB1 := Lib.hid (HB0.out.step hb1)
  have Fp := Lib.hid (Fp.out.below hb1)
  have Fq := Lib.hid (Fq.out.below hb1)
  have BXp := Lib.hid (heap_below BXp.out hb1)
  have BXq := Lib.hid (heap_below BXq.out hb1)
  have BXR := Lib.hid (heap_below BXR.out hb1)
  have N := Lib.hid hn1
  have D := Lib.hid hm1
  clear hn1 hm1
  clear hb1
  rw [← HX.out]
  have hs := parts_any _ q w1 Fq.out
  have HS := Lib.hid hs; clear hs
  obtain ⟨eq0, eq1, eq2⟩ := row3 BXq.out
  go_wp2_with fail
  clear eq0 eq1 eq2
  (with_reducible refine HS.out.mono ?_); rintro e w2 ⟨v2, u2, rfl, hb2, hn2, hm2⟩
  clear HS
  have HB2 := Lib.hid (HB1.out.step hb2)
  have Fp := Lib.hid (Fp.out.below hb2)
  have Fq := Lib.hid (Fq.out.below hb2)
  have N := Lib.hid (N.out.below hb2)
  have D := Lib.hid (D.out.below hb2)
  have BXp := Lib.hid (heap_below BXp.out hb2)
  have BXq := Lib.hid (heap_below BXq.out hb2)
  have BXR := Lib.hid (heap_below BXR.out hb2)
  have M := Lib.hid hn2
  have E := Lib.hid hm2
  clear hn2 hm2
  clear hb2
  rw [← HY.out]
  have hs := mulN N.out E.out (by omega) (by omega)
  have HS := Lib.hid hs; clear hs
  go_wp2_with fail
  (with_reducible refine HS.out.mono ?_); rintro e w3 ⟨v3, rfl, hb3, hn3⟩
  clear HS
  have HB3 := Lib.hid (HB2.out.step hb3)
  have Fp := Lib.hid (Fp.out.below hb3)
  have Fq := Lib.hid (Fq.out.below hb3)
  have N := Lib.hid (N.out.below hb3)
  have D := Lib.hid (D.out.below hb3)
  have M := Lib.hid (M.out.below hb3)
  have E := Lib.hid (E.out.below hb3)
  have BXp := Lib.hid (heap_below BXp.out hb3)
  have BXq := Lib.hid (heap_below BXq.out hb3)
  have BXR := Lib.hid (heap_below BXR.out hb3)
  have X := Lib.hid hn3; clear hn3
  clear hb3
  have hs := mulN M.out D.out (by omega) (by omega)
  have HS := Lib.hid hs; clear hs
  go_wp2_with fail
  (with_reducible refine HS.out.mono ?_); rintro e w4 ⟨v4, rfl, hb4, hn4⟩
  clear HS
  have HB4 := Lib.hid (HB3.out.step hb4)
  have Fp := Lib.hid (Fp.out.below hb4)
  have Fq := Lib.hid (Fq.out.below hb4)
  have N := Lib.hid (N.out.below hb4)
  have D := Lib.hid (D.out.below hb4)
  have M := Lib.hid (M.out.below hb4)
  have E := Lib.hid (E.out.below hb4)
  have X := Lib.hid (X.out.below hb4)
  have BXp := Lib.hid (heap_below BXp.out hb4)
  have BXq := Lib.hid (heap_below BXq.out hb4)
  have BXR := Lib.hid (heap_below BXR.out hb4)
  have Y := Lib.hid hn4; clear hn4
  clear hb4
  have hs := mulN D.out E.out (by omega) (by omega)
  have HS := Lib.hid hs; clear hs
  go_wp2_with fail
  (with_reducible refine HS.out.mono ?_); rintro e w5 ⟨v5, rfl, hb5, hn5⟩
  clear HS
  have HB5 := Lib.hid (HB4.out.step hb5)
  have Fp := Lib.hid (Fp.out.below hb5)
  have Fq := Lib.hid (Fq.out.below hb5)
  have N := Lib.hid (N.out.below hb5)
  have D := Lib.hid (D.out.below hb5)
  have M := Lib.hid (M.out.below hb5)
  have E := Lib.hid (E.out.below hb5)
  have X := Lib.hid (X.out.below hb5)
  have Y := Lib.hid (Y.out.below hb5)
  have BXp := Lib.hid (heap_below BXp.out hb5)
  have BXq := Lib.hid (heap_below BXq.out hb5)
  have BXR := Lib.hid (heap_below BXR.out hb5)
  have DE := Lib.hid hn5; clear hn5
  clear hb5
  have hs := addN X.out Y.out (by omega) (by omega)
  have HS := Lib.hid hs; clear hs
  go_wp2_with fail
  (with_reducible refine HS.out.mono ?_); rintro e w6 ⟨v6, rfl, hb6, hn6⟩
  clear HS
  have HB6 := Lib.hid (HB5.out.step hb6)
  have Fp := Lib.hid (Fp.out.below hb6)
  have Fq := Lib.hid (Fq.out.below hb6)
  have N := Lib.hid (N.out.below hb6)
  have D := Lib.hid (D.out.below hb6)
  have M := Lib.hid (M.out.below hb6)
  have E := Lib.hid (E.out.below hb6)
  have X := Lib.hid (X.out.below hb6)
  have Y := Lib.hid (Y.out.below hb6)
  have DE := Lib.hid (DE.out.below hb6)
  have BXp := Lib.hid (heap_below BXp.out hb6)
  have BXq := Lib.hid (heap_below BXq.out hb6)
  have BXR := Lib.hid (heap_below BXR.out hb6)
  have S := Lib.hid hn6; clear hn6
  clear hb6
  have hs := formN x S.out DE.out (by omega) (by omega) (den_mul_nz p.den_nz q.den_nz)
  have HS := Lib.hid hs; clear hs
  go_wp2_with fail
  (with_reducible refine HS.out.mono ?_); rintro e w7 ⟨v7, rfl, hb7, hn7⟩
  clear HS
  have HB7 := Lib.hid (HB6.out.step hb7)
  have Fp := Lib.hid (Fp.out.below hb7)
  have Fq := Lib.hid (Fq.out.below hb7)
  have N := Lib.hid (N.out.below hb7)
  have D := Lib.hid (D.out.below hb7)
  have M := Lib.hid (M.out.below hb7)
  have E := Lib.hid (E.out.below hb7)
  have X := Lib.hid (X.out.below hb7)
  have Y := Lib.hid (Y.out.below hb7)
  have DE := Lib.hid (DE.out.below hb7)
  have S := Lib.hid (S.out.below hb7)
  have BXp := Lib.hid (heap_below BXp.out hb7)
  have BXq := Lib.hid (heap_below BXq.out hb7)
  have BXR := Lib.hid (heap_below BXR.out hb7)
  have Q := Lib.hid hn7; clear hn7
  clear hb7
  have hq := Q.out; rw [HX.out, HEQ.out] at hq; have Q := Lib.hid hq; clear hq
  obtain ⟨sQ, oQ, nQ, cQ, aQ, mQ, dQ, rfl⟩ := Q.out.shape
  obtain ⟨eR0, eR1, eR2⟩ := row3 BXR.out
  obtain ⟨fR0, fR1, fR2⟩ := froz3 BXR.out
  go_wp2_with fail
  clear eR0 eR1 eR2 fR0 fR1 fR2
  refine ret_rat rfl (w.heap.size + 2) _ _ _ rfl (put3_heap BXR.out) rfl ?_
  exact ⟨_, rfl, put3_below HB7.out (by omega) _ _ _, isR_put Q.out BXR.out⟩
set_option maxRecDepth 100000 in
set_option maxHeartbeats 3200000 in
theorem add_diff (vp : Value) (p : Rat) (vq : Value) (q : Rat) (w : World) (hp : RatIs w vp p) (hq : RatIs w vq q) (hs : ng p ≠ ng q) (hle : nn q * p.den ≤ nn p * q.den) :
    Calls Tryz.prog 64 #[vp, vq] w (RetR w (p + q)) := by
  obtain ⟨sp, op, np, cp, ap, mp, dp, rfl⟩ := hp.shape
  have hlp := hp.rl
  obtain ⟨sq, oq, nq, cq, aq, mq, dq, rfl⟩ := hq.shape
  have hlq := hq.rl
  have hb0 := ((((Below.refl w.heap.size w).alloc (by first | (simp; done) | (simp; omega)) (.cells #[.bool sp, .slice op np cp, .slice ap mp dp] 24)).alloc (by first | (simp; done) | (simp; omega)) (.cells #[.bool sq, .slice oq nq cq, .slice aq mq dq] 24)).alloc (by first | (simp; done) | (simp; omega)) (.cells #[.bool false, .slice none 0 0, .slice none 0 0] 24))
  have hxp := nest3_0 w (.cells #[.bool sp, .slice op np cp, .slice ap mp dp] 24) (.cells #[.bool sq, .slice oq nq cq, .slice aq mq dq] 24) (.cells #[.bool false, .slice none 0 0, .slice none 0 0] 24)
  have hxq := nest3_1 w (.cells #[.bool sp, .slice op np cp, .slice ap mp dp] 24) (.cells #[.bool sq, .slice oq nq cq, .slice aq mq dq] 24) (.cells #[.bool false, .slice none 0 0, .slice none 0 0] 24)
  have hxR := nest3_2 w (.cells #[.bool sp, .slice op np cp, .slice ap mp dp] 24) (.cells #[.bool sq, .slice oq nq cq, .slice aq mq dq] 24) (.cells #[.bool false, .slice none 0 0, .slice none 0 0] 24)
  have hpp := hp.below hb0
  have hpq := hq.below hb0
  obtain ⟨w0, hw0⟩ : ∃ w0, w0 = (((w.alloc (.cells #[.bool sp, .slice op np cp, .slice ap mp dp] 24)).alloc (.cells #[.bool sq, .slice oq nq cq, .slice aq mq dq] 24)).alloc (.cells #[.bool false, .slice none 0 0, .slice none 0 0] 24)) := ⟨_, rfl⟩
  rw [← hw0] at hb0 hxp hxq hxR hpp hpq
  have HB0 := Lib.hid hb0; have HW0 := Lib.hid hw0
  have BXp := Lib.hid hxp
  have BXq := Lib.hid hxq
  have BXR := Lib.hid hxR
  have Fp := Lib.hid hpp
  have Fq := Lib.hid hpq
  clear hb0 hw0 hxp hxq hxR hpp hp hpq hq
  have l1 := rl_n p; have l2 := rl_d p; have l3 := rl_n q; have l4 := rl_d q
  have L1 : (wd (nn p * q.den)).length ≤ 200000 := by have := wd_mul_len (nn p) q.den; omega
  have L2 : (wd (nn q * p.den)).length ≤ 200000 := by have := wd_mul_len (nn q) p.den; omega
  have L3 : (wd (p.den * q.den)).length ≤ 200000 := by have := wd_mul_len p.den q.den; omega
  have heq := q_add_diff p q hs hle
  have HEQ := Lib.hid heq; clear heq
  have f1 : (ng p == ng q) = false := by rw [beq_eq_false_iff_ne]; exact hs
  obtain ⟨c, hc⟩ : ∃ c, c = cmpN (nn p * q.den) (nn q * p.den) := ⟨_, rfl⟩
  have L4 : (wd (nn p * q.den - nn q * p.den)).length ≤ 200000 := by exact Nat.le_trans (wd_length_mono (Nat.sub_le _ _)) L1
  have f2 : decide (0 ≤ c) = true := by rw [hc, decide_eq_true_eq]; unfold cmpN; rw [if_neg (by omega)]; split <;> decide
  have HC := Lib.hid hc; have HLE := Lib.hid hle; clear hc hle
  obtain ⟨x, hx⟩ : ∃ x, x = ng p := ⟨_, rfl⟩; obtain ⟨y, hy⟩ : ∃ y, y = ng q := ⟨_, rfl⟩
  rw [← hx, ← hy] at f1
  have HX := Lib.hid hx; have HY := Lib.hid hy; clear hx hy hs
  go_enter Tryz.func64, Tryz.ntmps64
  have hs := parts_any _ p w0 Fp.out
  have HS := Lib.hid hs; clear hs
  go_wp2_with fail
  rw [← HW0.out]
  (with_reducible refine HS.out.mono ?_); rintro e w1 ⟨v1, u1, rfl, hb1, hn1, hm1⟩
  clear HS
  have HB1 := Lib.hid (HB0.out.step hb1)
  have Fp := Lib.hid (Fp.out.below hb1)
  have Fq := Lib.hid (Fq.out.below hb1)
  have BXp := Lib.hid (heap_below BXp.out hb1)
  have BXq := Lib.hid (heap_below BXq.out hb1)
  have BXR := Lib.hid (heap_below BXR.out hb1)
  have N := Lib.hid hn1
  have D := Lib.hid hm1
  clear hn1 hm1
  clear hb1
  rw [← HX.out]
  have hs := parts_any _ q w1 Fq.out
  have HS := Lib.hid hs; clear hs
  obtain ⟨eq0, eq1, eq2⟩ := row3 BXq.out
  go_wp2_with fail
  clear eq0 eq1 eq2
  (with_reducible refine HS.out.mono ?_); rintro e w2 ⟨v2, u2, rfl, hb2, hn2, hm2⟩
  clear HS
  have HB2 := Lib.hid (HB1.out.step hb2)
  have Fp := Lib.hid (Fp.out.below hb2)
  have Fq := Lib.hid (Fq.out.below hb2)
  have N := Lib.hid (N.out.below hb2)
  have D := Lib.hid (D.out.below hb2)
  have BXp := Lib.hid (heap_below BXp.out hb2)
  have BXq := Lib.hid (heap_below BXq.out hb2)
  have BXR := Lib.hid (heap_below BXR.out hb2)
  have M := Lib.hid hn2
  have E := Lib.hid hm2
  clear hn2 hm2
  clear hb2
  rw [← HY.out]
  have hs := mulN N.out E.out (by omega) (by omega)
  have HS := Lib.hid hs; clear hs
  go_wp2_with fail
  (with_reducible refine HS.out.mono ?_); rintro e w3 ⟨v3, rfl, hb3, hn3⟩
  clear HS
  have HB3 := Lib.hid (HB2.out.step hb3)
  have Fp := Lib.hid (Fp.out.below hb3)
  have Fq := Lib.hid (Fq.out.below hb3)
  have N := Lib.hid (N.out.below hb3)
  have D := Lib.hid (D.out.below hb3)
  have M := Lib.hid (M.out.below hb3)
  have E := Lib.hid (E.out.below hb3)
  have BXp := Lib.hid (heap_below BXp.out hb3)
  have BXq := Lib.hid (heap_below BXq.out hb3)
  have BXR := Lib.hid (heap_below BXR.out hb3)
  have X := Lib.hid hn3; clear hn3
  clear hb3
  have hs := mulN M.out D.out (by omega) (by omega)
  have HS := Lib.hid hs; clear hs
  go_wp2_with fail
  (with_reducible refine HS.out.mono ?_); rintro e w4 ⟨v4, rfl, hb4, hn4⟩
  clear HS
  have HB4 := Lib.hid (HB3.out.step hb4)
  have Fp := Lib.hid (Fp.out.below hb4)
  have Fq := Lib.hid (Fq.out.below hb4)
  have N := Lib.hid (N.out.below hb4)
  have D := Lib.hid (D.out.below hb4)
  have M := Lib.hid (M.out.below hb4)
  have E := Lib.hid (E.out.below hb4)
  have X := Lib.hid (X.out.below hb4)
  have BXp := Lib.hid (heap_below BXp.out hb4)
  have BXq := Lib.hid (heap_below BXq.out hb4)
  have BXR := Lib.hid (heap_below BXR.out hb4)
  have Y := Lib.hid hn4; clear hn4
  clear hb4
  have hs := mulN D.out E.out (by omega) (by omega)
  have HS := Lib.hid hs; clear hs
  go_wp2_with fail
  (with_reducible refine HS.out.mono ?_); rintro e w5 ⟨v5, rfl, hb5, hn5⟩
  clear HS
  have HB5 := Lib.hid (HB4.out.step hb5)
  have Fp := Lib.hid (Fp.out.below hb5)
  have Fq := Lib.hid (Fq.out.below hb5)
  have N := Lib.hid (N.out.below hb5)
  have D := Lib.hid (D.out.below hb5)
  have M := Lib.hid (M.out.below hb5)
  have E := Lib.hid (E.out.below hb5)
  have X := Lib.hid (X.out.below hb5)
  have Y := Lib.hid (Y.out.below hb5)
  have BXp := Lib.hid (heap_below BXp.out hb5)
  have BXq := Lib.hid (heap_below BXq.out hb5)
  have BXR := Lib.hid (heap_below BXR.out hb5)
  have DE := Lib.hid hn5; clear hn5
  clear hb5
  have hs := cmpN_ X.out Y.out (by omega) (by omega)
  rw [← HC.out] at hs
  have HS := Lib.hid hs; clear hs
  go_wp2_with fail
  (with_reducible refine HS.out.mono ?_); rintro e w6 ⟨rfl, hb6⟩
  clear HS
  have HB6 := Lib.hid (HB5.out.step hb6)
  have Fp := Lib.hid (Fp.out.below hb6)
  have Fq := Lib.hid (Fq.out.below hb6)
  have N := Lib.hid (N.out.below hb6)
  have D := Lib.hid (D.out.below hb6)
  have M := Lib.hid (M.out.below hb6)
  have E := Lib.hid (E.out.below hb6)
  have X := Lib.hid (X.out.below hb6)
  have Y := Lib.hid (Y.out.below hb6)
  have DE := Lib.hid (DE.out.below hb6)
  have BXp := Lib.hid (heap_below BXp.out hb6)
  have BXq := Lib.hid (heap_below BXq.out hb6)
  have BXR := Lib.hid (heap_below BXR.out hb6)
  clear hb6
  have hs := subN X.out Y.out (by omega) (by omega) HLE.out
  have HS := Lib.hid hs; clear hs
  go_wp2_with fail
  (with_reducible refine HS.out.mono ?_); rintro e w7 ⟨v7, rfl, hb7, hn7⟩
  clear HS
  have HB7 := Lib.hid (HB6.out.step hb7)
  have Fp := Lib.hid (Fp.out.below hb7)
  have Fq := Lib.hid (Fq.out.below hb7)
  have N := Lib.hid (N.out.below hb7)
  have D := Lib.hid (D.out.below hb7)
  have M := Lib.hid (M.out.below hb7)
  have E := Lib.hid (E.out.below hb7)
  have X := Lib.hid (X.out.below hb7)
  have Y := Lib.hid (Y.out.below hb7)
  have DE := Lib.hid (DE.out.below hb7)
  have BXp := Lib.hid (heap_below BXp.out hb7)
  have BXq := Lib.hid (heap_below BXq.out hb7)
  have BXR := Lib.hid (heap_below BXR.out hb7)
  have S := Lib.hid hn7; clear hn7
  clear hb7
  have hs := formN x S.out DE.out (by omega) (by omega) (den_mul_nz p.den_nz q.den_nz)
  have HS := Lib.hid hs; clear hs
  go_wp2_with fail
  (with_reducible refine HS.out.mono ?_); rintro e w8 ⟨v8, rfl, hb8, hn8⟩
  clear HS
  have HB8 := Lib.hid (HB7.out.step hb8)
  have Fp := Lib.hid (Fp.out.below hb8)
  have Fq := Lib.hid (Fq.out.below hb8)
  have N := Lib.hid (N.out.below hb8)
  have D := Lib.hid (D.out.below hb8)
  have M := Lib.hid (M.out.below hb8)
  have E := Lib.hid (E.out.below hb8)
  have X := Lib.hid (X.out.below hb8)
  have Y := Lib.hid (Y.out.below hb8)
  have DE := Lib.hid (DE.out.below hb8)
  have S := Lib.hid (S.out.below hb8)
  have BXp := Lib.hid (heap_below BXp.out hb8)
  have BXq := Lib.hid (heap_below BXq.out hb8)
  have BXR := Lib.hid (heap_below BXR.out hb8)
  have Q := Lib.hid hn8; clear hn8
  clear hb8
  have hq := Q.out; rw [HX.out, HEQ.out] at hq; have Q := Lib.hid hq; clear hq
  obtain ⟨sQ, oQ, nQ, cQ, aQ, mQ, dQ, rfl⟩ := Q.out.shape
  obtain ⟨eR0, eR1, eR2⟩ := row3 BXR.out
  obtain ⟨fR0, fR1, fR2⟩ := froz3 BXR.out
  go_wp2_with fail
  clear eR0 eR1 eR2 fR0 fR1 fR2
  refine ret_rat rfl (w.heap.size + 2) _ _ _ rfl (put3_heap BXR.out) rfl ?_
  exact ⟨_, rfl, put3_below HB8.out (by omega) _ _ _, isR_put Q.out BXR.out⟩
set_option maxRecDepth 100000 in
set_option maxHeartbeats 3200000 in
theorem add_diff' (vp : Value) (p : Rat) (vq : Value) (q : Rat) (w : World) (hp : RatIs w vp p) (hq : RatIs w vq q) (hs : ng p ≠ ng q) (hle : nn p * q.den < nn q * p.den) :
    Calls Tryz.prog 64 #[vp, vq] w (RetR w (p + q)) := by
  obtain ⟨sp, op, np, cp, ap, mp, dp, rfl⟩ := hp.shape
  have hlp := hp.rl
  obtain ⟨sq, oq, nq, cq, aq, mq, dq, rfl⟩ := hq.shape
  have hlq := hq.rl
  have hb0 := ((((Below.refl w.heap.size w).alloc (by first | (simp; done) | (simp; omega)) (.cells #[.bool sp, .slice op np cp, .slice ap mp dp] 24)).alloc (by first | (simp; done) | (simp; omega)) (.cells #[.bool sq, .slice oq nq cq, .slice aq mq dq] 24)).alloc (by first | (simp; done) | (simp; omega)) (.cells #[.bool false, .slice none 0 0, .slice none 0 0] 24))
  have hxp := nest3_0 w (.cells #[.bool sp, .slice op np cp, .slice ap mp dp] 24) (.cells #[.bool sq, .slice oq nq cq, .slice aq mq dq] 24) (.cells #[.bool false, .slice none 0 0, .slice none 0 0] 24)
  have hxq := nest3_1 w (.cells #[.bool sp, .slice op np cp, .slice ap mp dp] 24) (.cells #[.bool sq, .slice oq nq cq, .slice aq mq dq] 24) (.cells #[.bool false, .slice none 0 0, .slice none 0 0] 24)
  have hxR := nest3_2 w (.cells #[.bool sp, .slice op np cp, .slice ap mp dp] 24) (.cells #[.bool sq, .slice oq nq cq, .slice aq mq dq] 24) (.cells #[.bool false, .slice none 0 0, .slice none 0 0] 24)
  have hpp := hp.below hb0
  have hpq := hq.below hb0
  obtain ⟨w0, hw0⟩ : ∃ w0, w0 = (((w.alloc (.cells #[.bool sp, .slice op np cp, .slice ap mp dp] 24)).alloc (.cells #[.bool sq, .slice oq nq cq, .slice aq mq dq] 24)).alloc (.cells #[.bool false, .slice none 0 0, .slice none 0 0] 24)) := ⟨_, rfl⟩
  rw [← hw0] at hb0 hxp hxq hxR hpp hpq
  have HB0 := Lib.hid hb0; have HW0 := Lib.hid hw0
  have BXp := Lib.hid hxp
  have BXq := Lib.hid hxq
  have BXR := Lib.hid hxR
  have Fp := Lib.hid hpp
  have Fq := Lib.hid hpq
  clear hb0 hw0 hxp hxq hxR hpp hp hpq hq
  have l1 := rl_n p; have l2 := rl_d p; have l3 := rl_n q; have l4 := rl_d q
  have L1 : (wd (nn p * q.den)).length ≤ 200000 := by have := wd_mul_len (nn p) q.den; omega
  have L2 : (wd (nn q * p.den)).length ≤ 200000 := by have := wd_mul_len (nn q) p.den; omega
  have L3 : (wd (p.den * q.den)).length ≤ 200000 := by have := wd_mul_len p.den q.den; omega
  have heq := q_add_diff' p q hs (Nat.le_of_lt hle)
  have HEQ := Lib.hid heq; clear heq
  have f1 : (ng p == ng q) = false := by rw [beq_eq_false_iff_ne]; exact hs
  obtain ⟨c, hc⟩ : ∃ c, c = cmpN (nn p * q.den) (nn q * p.den) := ⟨_, rfl⟩
  have L4 : (wd (nn q * p.den - nn p * q.den)).length ≤ 200000 := by exact Nat.le_trans (wd_length_mono (Nat.sub_le _ _)) L2
  have f2 : decide (0 ≤ c) = false := by rw [hc, decide_eq_false_iff_not]; unfold cmpN; rw [if_pos hle]; decide
  have HC := Lib.hid hc; have HLE := Lib.hid hle; clear hc hle
  obtain ⟨x, hx⟩ : ∃ x, x = ng p := ⟨_, rfl⟩; obtain ⟨y, hy⟩ : ∃ y, y = ng q := ⟨_, rfl⟩
  rw [← hx, ← hy] at f1
  have HX := Lib.hid hx; have HY := Lib.hid hy; clear hx hy hs
  go_enter Tryz.func64, Tryz.ntmps64
  have hs := parts_any _ p w0 Fp.out
  have HS := Lib.hid hs; clear hs
  go_wp2_with fail
  rw [← HW0.out]
  (with_reducible refine HS.out.mono ?_); rintro e w1 ⟨v1, u1, rfl, hb1, hn1, hm1⟩
  clear HS
  have HB1 := Lib.hid (HB0.out.step hb1)
  have Fp := Lib.hid (Fp.out.below hb1)
  have Fq := Lib.hid (Fq.out.below hb1)
  have BXp := Lib.hid (heap_below BXp.out hb1)
  have BXq := Lib.hid (heap_below BXq.out hb1)
  have BXR := Lib.hid (heap_below BXR.out hb1)
  have N := Lib.hid hn1
  have D := Lib.hid hm1
  clear hn1 hm1
  clear hb1
  rw [← HX.out]
  have hs := parts_any _ q w1 Fq.out
  have HS := Lib.hid hs; clear hs
  obtain ⟨eq0, eq1, eq2⟩ := row3 BXq.out
  go_wp2_with fail
  clear eq0 eq1 eq2
  (with_reducible refine HS.out.mono ?_); rintro e w2 ⟨v2, u2, rfl, hb2, hn2, hm2⟩
  clear HS
  have HB2 := Lib.hid (HB1.out.step hb2)
  have Fp := Lib.hid (Fp.out.below hb2)
  have Fq := Lib.hid (Fq.out.below hb2)
  have N := Lib.hid (N.out.below hb2)
  have D := Lib.hid (D.out.below hb2)
  have BXp := Lib.hid (heap_below BXp.out hb2)
  have BXq := Lib.hid (heap_below BXq.out hb2)
  have BXR := Lib.hid (heap_below BXR.out hb2)
  have M := Lib.hid hn2
  have E := Lib.hid hm2
  clear hn2 hm2
  clear hb2
  rw [← HY.out]
  have hs := mulN N.out E.out (by omega) (by omega)
  have HS := Lib.hid hs; clear hs
  go_wp2_with fail
  (with_reducible refine HS.out.mono ?_); rintro e w3 ⟨v3, rfl, hb3, hn3⟩
  clear HS
  have HB3 := Lib.hid (HB2.out.step hb3)
  have Fp := Lib.hid (Fp.out.below hb3)
  have Fq := Lib.hid (Fq.out.below hb3)
  have N := Lib.hid (N.out.below hb3)
  have D := Lib.hid (D.out.below hb3)
  have M := Lib.hid (M.out.below hb3)
  have E := Lib.hid (E.out.below hb3)
  have BXp := Lib.hid (heap_below BXp.out hb3)
  have BXq := Lib.hid (heap_below BXq.out hb3)
  have BXR := Lib.hid (heap_below BXR.out hb3)
  have X := Lib.hid hn3; clear hn3
  clear hb3
  have hs := mulN M.out D.out (by omega) (by omega)
  have HS := Lib.hid hs; clear hs
  go_wp2_with fail
  (with_reducible refine HS.out.mono ?_); rintro e w4 ⟨v4, rfl, hb4, hn4⟩
  clear HS
  have HB4 := Lib.hid (HB3.out.step hb4)
  have Fp := Lib.hid (Fp.out.below hb4)
  have Fq := Lib.hid (Fq.out.below hb4)
  have N := Lib.hid (N.out.below hb4)
  have D := Lib.hid (D.out.below hb4)
  have M := Lib.hid (M.out.below hb4)
  have E := Lib.hid (E.out.below hb4)
  have X := Lib.hid (X.out.below hb4)
  have BXp := Lib.hid (heap_below BXp.out hb4)
  have BXq := Lib.hid (heap_below BXq.out hb4)
  have BXR := Lib.hid (heap_below BXR.out hb4)
  have Y := Lib.hid hn4; clear hn4
  clear hb4
  have hs := mulN D.out E.out (by omega) (by omega)
  have HS := Lib.hid hs; clear hs
  go_wp2_with fail
  (with_reducible refine HS.out.mono ?_); rintro e w5 ⟨v5, rfl, hb5, hn5⟩
  clear HS
  have HB5 := Lib.hid (HB4.out.step hb5)
  have Fp := Lib.hid (Fp.out.below hb5)
  have Fq := Lib.hid (Fq.out.below hb5)
  have N := Lib.hid (N.out.below hb5)
  have D := Lib.hid (D.out.below hb5)
  have M := Lib.hid (M.out.below hb5)
  have E := Lib.hid (E.out.below hb5)
  have X := Lib.hid (X.out.below hb5)
  have Y := Lib.hid (Y.out.below hb5)
  have BXp := Lib.hid (heap_below BXp.out hb5)
  have BXq := Lib.hid (heap_below BXq.out hb5)
  have BXR := Lib.hid (heap_below BXR.out hb5)
  have DE := Lib.hid hn5; clear hn5
  clear hb5
  have hs := cmpN_ X.out Y.out (by omega) (by omega)
  rw [← HC.out] at hs
  have HS := Lib.hid hs; clear hs
  go_wp2_with fail
  (with_reducible refine HS.out.mono ?_); rintro e w6 ⟨rfl, hb6⟩
  clear HS
  have HB6 := Lib.hid (HB5.out.step hb6)
  have Fp := Lib.hid (Fp.out.below hb6)
  have Fq := Lib.hid (Fq.out.below hb6)
  have N := Lib.hid (N.out.below hb6)
  have D := Lib.hid (D.out.below hb6)
  have M := Lib.hid (M.out.below hb6)
  have E := Lib.hid (E.out.below hb6)
  have X := Lib.hid (X.out.below hb6)
  have Y := Lib.hid (Y.out.below hb6)
  have DE := Lib.hid (DE.out.below hb6)
  have BXp := Lib.hid (heap_below BXp.out hb6)
  have BXq := Lib.hid (heap_below BXq.out hb6)
  have BXR := Lib.hid (heap_below BXR.out hb6)
  clear hb6
  have hs := subN Y.out X.out (by omega) (by omega) (Nat.le_of_lt HLE.out)
  have HS := Lib.hid hs; clear hs
  go_wp2_with fail
  (with_reducible refine HS.out.mono ?_); rintro e w7 ⟨v7, rfl, hb7, hn7⟩
  clear HS
  have HB7 := Lib.hid (HB6.out.step hb7)
  have Fp := Lib.hid (Fp.out.below hb7)
  have Fq := Lib.hid (Fq.out.below hb7)
  have N := Lib.hid (N.out.below hb7)
  have D := Lib.hid (D.out.below hb7)
  have M := Lib.hid (M.out.below hb7)
  have E := Lib.hid (E.out.below hb7)
  have X := Lib.hid (X.out.below hb7)
  have Y := Lib.hid (Y.out.below hb7)
  have DE := Lib.hid (DE.out.below hb7)
  have BXp := Lib.hid (heap_below BXp.out hb7)
  have BXq := Lib.hid (heap_below BXq.out hb7)
  have BXR := Lib.hid (heap_below BXR.out hb7)
  have S := Lib.hid hn7; clear hn7
  clear hb7
  have hs := formN y S.out DE.out (by omega) (by omega) (den_mul_nz p.den_nz q.den_nz)
  have HS := Lib.hid hs; clear hs
  go_wp2_with fail
  (with_reducible refine HS.out.mono ?_); rintro e w8 ⟨v8, rfl, hb8, hn8⟩
  clear HS
  have HB8 := Lib.hid (HB7.out.step hb8)
  have Fp := Lib.hid (Fp.out.below hb8)
  have Fq := Lib.hid (Fq.out.below hb8)
  have N := Lib.hid (N.out.below hb8)
  have D := Lib.hid (D.out.below hb8)
  have M := Lib.hid (M.out.below hb8)
  have E := Lib.hid (E.out.below hb8)
  have X := Lib.hid (X.out.below hb8)
  have Y := Lib.hid (Y.out.below hb8)
  have DE := Lib.hid (DE.out.below hb8)
  have S := Lib.hid (S.out.below hb8)
  have BXp := Lib.hid (heap_below BXp.out hb8)
  have BXq := Lib.hid (heap_below BXq.out hb8)
  have BXR := Lib.hid (heap_below BXR.out hb8)
  have Q := Lib.hid hn8; clear hn8
  clear hb8
  have hq := Q.out; rw [HY.out, HEQ.out] at hq; have Q := Lib.hid hq; clear hq
  obtain ⟨sQ, oQ, nQ, cQ, aQ, mQ, dQ, rfl⟩ := Q.out.shape
  obtain ⟨eR0, eR1, eR2⟩ := row3 BXR.out
  obtain ⟨fR0, fR1, fR2⟩ := froz3 BXR.out
  go_wp2_with fail
  clear eR0 eR1 eR2 fR0 fR1 fR2
  refine ret_rat rfl (w.heap.size + 2) _ _ _ rfl (put3_heap BXR.out) rfl ?_
  exact ⟨_, rfl, put3_below HB8.out (by omega) _ _ _, isR_put Q.out BXR.out⟩
theorem addq_any (vp : Value) (p : Rat) (vq : Value) (q : Rat) (w : World) (hp : RatIs w vp p) (hq : RatIs w vq q) :
    Calls Tryz.prog 64 #[vp, vq] w (RetR w (p + q)) := by
  by_cases h : ng p = ng q
  · exact add_same vp p vq q w hp hq h
  · rcases Nat.lt_or_ge (nn p * q.den) (nn q * p.den) with h2 | h2
    · exact add_diff' vp p vq q w hp hq h h2
    · exact add_diff vp p vq q w hp hq h h2
end Go.Proofs.YtaefimegiobkmaaGreatDoor
/-
  rational.size, Of, Make, Sub, Sign, Cmp, same, Min, Max, Div: what they hand back.
  Conditions: each theorem's own.
-/
namespace Go.Proofs.YtaefimegiobkmaaGreatDoor
open Go.RowKit Go.ChangeShapes Go.WideShapes

theorem put6 {w : World} {g p q : Nat} {x y z a b c d e f : Value} (hp : p ≠ g) (hq : q ≠ g) (h : w.cell? ⟨p, 0, none⟩ = some a ∧ w.cell? ⟨p, 1, none⟩ = some b ∧ w.cell? ⟨p, 2, none⟩ = some c ∧ w.cell? ⟨q, 0, none⟩ = some d ∧ w.cell? ⟨q, 1, none⟩ = some e ∧ w.cell? ⟨q, 2, none⟩ = some f) :
    (put3 w g x y z).cell? ⟨p, 0, none⟩ = some a ∧ (put3 w g x y z).cell? ⟨p, 1, none⟩ = some b ∧ (put3 w g x y z).cell? ⟨p, 2, none⟩ = some c ∧ (put3 w g x y z).cell? ⟨q, 0, none⟩ = some d ∧ (put3 w g x y z).cell? ⟨q, 1, none⟩ = some e ∧ (put3 w g x y z).cell? ⟨q, 2, none⟩ = some f := by
  obtain ⟨h1, h2, h3, h4, h5, h6⟩ := h
  have e1 : (put3 w g x y z).heap[p]? = w.heap[p]? := by
    unfold put3; rw [Below.heap_setCell _ _ _ _ hp, Below.heap_setCell _ _ _ _ hp, Below.heap_setCell _ _ _ _ hp]
  have e2 : (put3 w g x y z).heap[q]? = w.heap[q]? := by
    unfold put3; rw [Below.heap_setCell _ _ _ _ hq, Below.heap_setCell _ _ _ _ hq, Below.heap_setCell _ _ _ _ hq]
  unfold World.cell? at *
  simp only [e1, e2]
  exact ⟨h1, h2, h3, h4, h5, h6⟩
theorem wd_two63 : wd 9223372036854775808 = [0, 2147483648] := by
  rw [wd_pos (by decide), show (9223372036854775808 : Nat) % 4294967296 = 0 from rfl, show (9223372036854775808 : Nat) / 4294967296 = 2147483648 from rfl, wd_one (by decide) (by decide)]
theorem wd_small {n : Nat} (h : n ≤ 9223372036854775808) : (wd n).length ≤ 2 := wd_length_of_lt (Nat.lt_of_le_of_lt h (by decide))
set_option maxRecDepth 100000 in
set_option maxHeartbeats 800000 in
theorem size_any (n : Int) (w : World) (h0 : -9223372036854775808 ≤ n) (h1 : n < 9223372036854775808) :
    Calls Tryz.prog 73 #[.int .i64 n] w (RetN w n.natAbs) := by
  by_cases h : n = -9223372036854775808
  · subst h
    go_enter Tryz.func73, Tryz.ntmps73
    go_wp2_with fail
    go_ret
    refine ⟨_, rfl, (Below.refl _ _).alloc (Nat.le_refl _) _, ?_⟩
    rw [show (-9223372036854775808 : Int).natAbs = 9223372036854775808 from rfl, wd_two63]
    exact num_lit w 76 _ [0, 2147483648] 2 (U32.cons (by decide) (U32.cons (by decide) U32.nil)) rfl (by simp) rfl
  · have f1 : (n == -9223372036854775808) = false := by rw [beq_eq_false_iff_ne]; exact h
    have hof := of_any (max n (-n)) w (by omega) (by omega)
    rw [show (max n (-n)).toNat = n.natAbs by omega] at hof
    have HO := Lib.hid hof
    have hwr : wrap64 (-n) = -n := by unfold wrap64; omega
    clear hof h
    go_enter Tryz.func73, Tryz.ntmps73
    go_wp2_with fail
    (with_reducible refine HO.out.mono ?_); rintro e w1 ⟨v1, l1, rfl, hb1, hn1, rfl⟩
    go_wp2_with fail
    go_ret
    exact ⟨_, rfl, hb1, hn1⟩
theorem sgn_int (n : Int) : sgn (decide (n < 0)) n.natAbs = n := by
  unfold sgn
  by_cases h : n < 0
  · rw [decide_eq_true h, if_pos rfl]; omega
  · rw [decide_eq_false h, if_neg (by decide)]; omega
theorem q_int (n : Int) : qm (decide (n < 0)) n.natAbs 1 = (n : Rat) := by rw [qm_one, sgn_int]
theorem q_ints (n d : Int) : qm (!(decide (n < 0) == decide (d < 0))) n.natAbs d.natAbs = (n : Rat) / (d : Rat) := by
  rw [show (!(decide (n < 0) == decide (d < 0))) = (decide (n < 0) != decide (d < 0)) from rfl, qm_eq_div]
  by_cases h : d = 0
  · subst h
    rw [show (0 : Int).natAbs = 0 from rfl, show ((0 : Nat) : Rat) = 0 from rfl, show ((0 : Int) : Rat) = 0 from rfl]; grind
  · have e : (d : Rat) = ((sgn (decide (d < 0)) d.natAbs : Int) : Rat) := by rw [sgn_int]
    have e2 : ((sgn (decide (n < 0) != decide (d < 0)) n.natAbs : Int) : Rat) * (d : Rat) = (n : Rat) * ((d.natAbs : Nat) : Rat) := by
      rw [← Rat.intCast_natCast, ← Rat.intCast_mul, ← Rat.intCast_mul]
      congr 1
      have st : ∀ m : Nat, sgn true m = -(m : Int) := fun _ => rfl
      have sf : ∀ m : Nat, sgn false m = (m : Int) := fun _ => rfl
      by_cases h1 : n < 0 <;> by_cases h2 : d < 0
      · rw [decide_eq_true h1, decide_eq_true h2, show (true != true) = false from rfl, sf, show ((d.natAbs : Nat) : Int) = -d by omega, show ((n.natAbs : Nat) : Int) = -n by omega]; simp [Int.neg_mul, Int.mul_neg]
      · rw [decide_eq_true h1, decide_eq_false h2, show (true != false) = true from rfl, st, show ((d.natAbs : Nat) : Int) = d by omega, show ((n.natAbs : Nat) : Int) = -n by omega]; simp
      · rw [decide_eq_false h1, decide_eq_true h2, show (false != true) = true from rfl, st, show ((d.natAbs : Nat) : Int) = -d by omega, show ((n.natAbs : Nat) : Int) = n by omega]; simp [Int.neg_mul, Int.mul_neg]
      · rw [decide_eq_false h1, decide_eq_false h2, show (false != false) = false from rfl, sf, show ((d.natAbs : Nat) : Int) = d by omega, show ((n.natAbs : Nat) : Int) = n by omega]
    have d1 : (d : Rat) ≠ 0 := fun e => h (Rat.intCast_eq_zero_iff.1 e)
    have d2 : ((d.natAbs : Nat) : Rat) ≠ 0 := fun e => by have := Rat.natCast_eq_zero_iff.1 e; omega
    grind

set_option maxRecDepth 100000 in
set_option maxHeartbeats 3200000 in
theorem ofq_any (n : Int) (w : World)  (h0 : -9223372036854775808 ≤ n) (h1 : n < 9223372036854775808) :
    Calls Tryz.prog 46 #[.int .i64 n] w (RetR w (n : Rat)) := by
  have hb0 := ((Below.refl w.heap.size w).alloc (by first | (simp; done) | (simp; omega)) (.cells #[.bool false, .slice none 0 0, .slice none 0 0] 24))
  have hxR := nest1_0 w (.cells #[.bool false, .slice none 0 0, .slice none 0 0] 24)
  obtain ⟨w0, hw0⟩ : ∃ w0, w0 = (w.alloc (.cells #[.bool false, .slice none 0 0, .slice none 0 0] 24)) := ⟨_, rfl⟩
  rw [← hw0] at hb0 hxR
  have HB0 := Lib.hid hb0; have HW0 := Lib.hid hw0
  have BXR := Lib.hid hxR
  clear hb0 hw0 hxR
  have L1 : (wd (n.natAbs)).length ≤ 2 := by exact wd_small (by omega)
  have L2 : (wd (1)).length ≤ 1 := by rw [wd_one_len]; exact Nat.le_refl _
  have BD := Lib.hid (And.intro h0 h1)
  go_enter Tryz.func46, Tryz.ntmps46
  have hs := size_any n w0 BD.out.1 BD.out.2
  have HS := Lib.hid hs; clear hs
  go_wp2_with fail
  rw [← HW0.out]
  (with_reducible refine HS.out.mono ?_); rintro e w1 ⟨v1, rfl, hb1, hn1⟩
  clear HS
  have HB1 := Lib.hid (HB0.out.step hb1)
  have BXR := Lib.hid (heap_below BXR.out hb1)
  have N := Lib.hid hn1; clear hn1
  clear hb1
  have hs := one_any w1
  have HS := Lib.hid hs; clear hs
  go_wp2_with fail
  (with_reducible refine HS.out.mono ?_); rintro e w2 ⟨v2, rfl, hb2, hn2⟩
  clear HS
  have HB2 := Lib.hid (HB1.out.step hb2)
  have N := Lib.hid (N.out.below hb2)
  have BXR := Lib.hid (heap_below BXR.out hb2)
  have O := Lib.hid hn2; clear hn2
  clear hb2
  have hs := formN (decide (n < 0)) N.out O.out (by omega) (by omega) (by decide)
  rw [q_int] at hs
  have HS := Lib.hid hs; clear hs
  go_wp2_with fail
  (with_reducible refine HS.out.mono ?_); rintro e w3 ⟨v3, rfl, hb3, hn3⟩
  clear HS
  have HB3 := Lib.hid (HB2.out.step hb3)
  have N := Lib.hid (N.out.below hb3)
  have O := Lib.hid (O.out.below hb3)
  have BXR := Lib.hid (heap_below BXR.out hb3)
  have Q := Lib.hid hn3; clear hn3
  clear hb3
  obtain ⟨sQ, oQ, nQ, cQ, aQ, mQ, dQ, rfl⟩ := Q.out.shape
  obtain ⟨eR0, eR1, eR2⟩ := row3 BXR.out
  obtain ⟨fR0, fR1, fR2⟩ := froz3 BXR.out
  go_wp2_with fail
  clear eR0 eR1 eR2 fR0 fR1 fR2
  refine ret_rat rfl w.heap.size _ _ _ rfl (put3_heap BXR.out) rfl ?_
  exact ⟨_, rfl, put3_below HB3.out (by omega) _ _ _, isR_put Q.out BXR.out⟩
set_option maxRecDepth 100000 in
set_option maxHeartbeats 3200000 in
theorem subq_any (vp : Value) (p : Rat) (vq : Value) (q : Rat) (w : World) (hp : RatIs w vp p) (hq : RatIs w vq q)  :
    Calls Tryz.prog 60 #[vp, vq] w (RetR w (p - q)) := by
  obtain ⟨sp, op, np, cp, ap, mp, dp, rfl⟩ := hp.shape
  have hlp := hp.rl
  obtain ⟨sq, oq, nq, cq, aq, mq, dq, rfl⟩ := hq.shape
  have hlq := hq.rl
  have hb0 := ((((Below.refl w.heap.size w).alloc (by first | (simp; done) | (simp; omega)) (.cells #[.bool sp, .slice op np cp, .slice ap mp dp] 24)).alloc (by first | (simp; done) | (simp; omega)) (.cells #[.bool sq, .slice oq nq cq, .slice aq mq dq] 24)).alloc (by first | (simp; done) | (simp; omega)) (.cells #[.bool false, .slice none 0 0, .slice none 0 0] 24))
  have hxp := nest3_0 w (.cells #[.bool sp, .slice op np cp, .slice ap mp dp] 24) (.cells #[.bool sq, .slice oq nq cq, .slice aq mq dq] 24) (.cells #[.bool false, .slice none 0 0, .slice none 0 0] 24)
  have hxq := nest3_1 w (.cells #[.bool sp, .slice op np cp, .slice ap mp dp] 24) (.cells #[.bool sq, .slice oq nq cq, .slice aq mq dq] 24) (.cells #[.bool false, .slice none 0 0, .slice none 0 0] 24)
  have hxR := nest3_2 w (.cells #[.bool sp, .slice op np cp, .slice ap mp dp] 24) (.cells #[.bool sq, .slice oq nq cq, .slice aq mq dq] 24) (.cells #[.bool false, .slice none 0 0, .slice none 0 0] 24)
  have hpp := hp.below hb0
  have hpq := hq.below hb0
  obtain ⟨w0, hw0⟩ : ∃ w0, w0 = (((w.alloc (.cells #[.bool sp, .slice op np cp, .slice ap mp dp] 24)).alloc (.cells #[.bool sq, .slice oq nq cq, .slice aq mq dq] 24)).alloc (.cells #[.bool false, .slice none 0 0, .slice none 0 0] 24)) := ⟨_, rfl⟩
  rw [← hw0] at hb0 hxp hxq hxR hpp hpq
  have HB0 := Lib.hid hb0; have HW0 := Lib.hid hw0
  have BXp := Lib.hid hxp
  have BXq := Lib.hid hxq
  have BXR := Lib.hid hxR
  have Fp := Lib.hid hpp
  have Fq := Lib.hid hpq
  clear hb0 hw0 hxp hxq hxR hpp hp hpq hq
  have hr : rl (-q) ≤ 100000 := by rw [rl_neg]; exact hlq
  have HD := Lib.hid ((Below.refl w0.heap.size w0).drew)
  have hng := neg_any _ q _ (Fq.out.below HD.out)
  have HNG := Lib.hid hng; clear hng
  have had := fun vs w1 (h1 : Below w0.heap.size w0 w1) (hs : IsR w1 vs (-q)) => addq_any _ p vs (-q) w1 (Fp.out.below h1) (hs.is hr)
  rw [← Rat.sub_eq_add_neg] at had
  have HAD := Lib.hid had; clear had
  have ZP := Lib.hid (fun w1 (h1 : Below w0.heap.size w0 w1) => row3 (heap_below BXp.out h1)); have ZQ := Lib.hid (fun w1 (h1 : Below w0.heap.size w0 w1) => row3 (heap_below BXq.out h1)); have ZR := Lib.hid (fun w1 (h1 : Below w0.heap.size w0 w1) => row3 (heap_below BXR.out h1)); have ZF := Lib.hid (fun w1 (h1 : Below w0.heap.size w0 w1) => froz3 (heap_below BXR.out h1))
  go_enter Tryz.func60, Tryz.ntmps60
  go_wp2_with fail
  rw [← HW0.out]
  obtain ⟨zp0, zp1, zp2⟩ := ZP.out _ HD.out; obtain ⟨zq0, zq1, zq2⟩ := ZQ.out _ HD.out
  go_region_held3 (fun wx => wx.cell? ⟨w.heap.size, 0, none⟩ = some (.bool sp) ∧ wx.cell? ⟨w.heap.size, 1, none⟩ = some (.slice op np cp) ∧ wx.cell? ⟨w.heap.size, 2, none⟩ = some (.slice ap mp dp) ∧ wx.cell? ⟨w.heap.size + 1, 0, none⟩ = some (.bool sq) ∧ wx.cell? ⟨w.heap.size + 1, 1, none⟩ = some (.slice oq nq cq) ∧ wx.cell? ⟨w.heap.size + 1, 2, none⟩ = some (.slice aq mq dq)) (first | exact ⟨zp0, zp1, zp2, zq0, zq1, zq2⟩ | exact put6 (by omega) (by omega) ⟨zp0, zp1, zp2, zq0, zq1, zq2⟩) (first
    | (go_at_call 65; (with_reducible refine HNG.out.mono ?_); rintro e w1 ⟨v1, rfl, hb1, hn1⟩; (have HB1 := Lib.hid (HD.out.step hb1)); (have HN1 := Lib.hid hn1); clear hb1 hn1; (obtain ⟨zp0, zp1, zp2⟩ := ZP.out _ HB1.out); (obtain ⟨zq0, zq1, zq2⟩ := ZQ.out _ HB1.out))
    | (go_at_call 64; (with_reducible refine (HAD.out _ _ HB1.out HN1.out).mono ?_); rintro e w2 ⟨v2, rfl, hb2, hn2⟩; (have HB2 := Lib.hid (HB1.out.step hb2)); (have HN2 := Lib.hid hn2); clear hb2 hn2; (obtain ⟨t1, t2, t3, t4, t5, t6, t7, rfl⟩ := HN2.out.shape); (obtain ⟨zp0, zp1, zp2⟩ := ZP.out _ HB2.out); (obtain ⟨zq0, zq1, zq2⟩ := ZQ.out _ HB2.out); (obtain ⟨zr0, zr1, zr2⟩ := ZR.out _ HB2.out); (obtain ⟨zf0, zf1, zf2⟩ := ZF.out _ HB2.out)))
  all_goals
    go_wp2_with fail
    have BXR2 := heap_below BXR.out HB2.out
    refine ret_rat rfl (w.heap.size + 2) _ _ _ rfl (put3_heap BXR2) rfl ?_
    exact ⟨_, rfl, put3_below (HB0.out.step HB2.out) (by omega) _ _ _, isR_put HN2.out BXR2⟩
set_option maxRecDepth 100000 in
set_option maxHeartbeats 3200000 in
theorem same_any (vp : Value) (p : Rat) (w : World) (hp : RatIs w vp p)  :
    Calls Tryz.prog 95 #[vp] w (RetR w p) := by
  obtain ⟨sp, op, np, cp, ap, mp, dp, rfl⟩ := hp.shape
  have hlp := hp.rl
  have hb0 := (((Below.refl w.heap.size w).alloc (by first | (simp; done) | (simp; omega)) (.cells #[.bool sp, .slice op np cp, .slice ap mp dp] 24)).alloc (by first | (simp; done) | (simp; omega)) (.cells #[.bool false, .slice none 0 0, .slice none 0 0] 24))
  have hxp := nest2_0 w (.cells #[.bool sp, .slice op np cp, .slice ap mp dp] 24) (.cells #[.bool false, .slice none 0 0, .slice none 0 0] 24)
  have hxR := nest2_1 w (.cells #[.bool sp, .slice op np cp, .slice ap mp dp] 24) (.cells #[.bool false, .slice none 0 0, .slice none 0 0] 24)
  have hpp := hp.below hb0
  obtain ⟨w0, hw0⟩ : ∃ w0, w0 = ((w.alloc (.cells #[.bool sp, .slice op np cp, .slice ap mp dp] 24)).alloc (.cells #[.bool false, .slice none 0 0, .slice none 0 0] 24)) := ⟨_, rfl⟩
  rw [← hw0] at hb0 hxp hxR hpp
  have HB0 := Lib.hid hb0; have HW0 := Lib.hid hw0
  have BXp := Lib.hid hxp
  have BXR := Lib.hid hxR
  have Fp := Lib.hid hpp
  clear hb0 hw0 hxp hxR hpp hp
  have l1 := rl_n p; have l2 := rl_d p
  go_enter Tryz.func95, Tryz.ntmps95
  have hs := parts_any _ p w0 Fp.out
  have HS := Lib.hid hs; clear hs
  go_wp2_with fail
  rw [← HW0.out]
  (with_reducible refine HS.out.mono ?_); rintro e w1 ⟨v1, u1, rfl, hb1, hn1, hm1⟩
  clear HS
  have HB1 := Lib.hid (HB0.out.step hb1)
  have Fp := Lib.hid (Fp.out.below hb1)
  have BXp := Lib.hid (heap_below BXp.out hb1)
  have BXR := Lib.hid (heap_below BXR.out hb1)
  have N := Lib.hid hn1
  have D := Lib.hid hm1
  clear hn1 hm1
  clear hb1
  have hs := formN (ng p) N.out D.out (by omega) (by omega) p.den_nz
  rw [qm_self] at hs
  have HS := Lib.hid hs; clear hs
  go_wp2_with fail
  (with_reducible refine HS.out.mono ?_); rintro e w2 ⟨v2, rfl, hb2, hn2⟩
  clear HS
  have HB2 := Lib.hid (HB1.out.step hb2)
  have Fp := Lib.hid (Fp.out.below hb2)
  have N := Lib.hid (N.out.below hb2)
  have D := Lib.hid (D.out.below hb2)
  have BXp := Lib.hid (heap_below BXp.out hb2)
  have BXR := Lib.hid (heap_below BXR.out hb2)
  have Q := Lib.hid hn2; clear hn2
  clear hb2
  obtain ⟨sQ, oQ, nQ, cQ, aQ, mQ, dQ, rfl⟩ := Q.out.shape
  obtain ⟨eR0, eR1, eR2⟩ := row3 BXR.out
  obtain ⟨fR0, fR1, fR2⟩ := froz3 BXR.out
  go_wp2_with fail
  clear eR0 eR1 eR2 fR0 fR1 fR2
  refine ret_rat rfl (w.heap.size + 1) _ _ _ rfl (put3_heap BXR.out) rfl ?_
  exact ⟨_, rfl, put3_below HB2.out (by omega) _ _ _, isR_put Q.out BXR.out⟩
set_option maxRecDepth 100000 in
set_option maxHeartbeats 3200000 in
theorem sign_any (vp : Value) (p : Rat) (w : World) (hp : RatIs w vp p)  :
    Calls Tryz.prog 80 #[vp] w (RetV w (.int .i64 (sg p))) := by
  obtain ⟨sp, op, np, cp, ap, mp, dp, rfl⟩ := hp.shape
  have hlp := hp.rl
  rw [sg_eq]
  have hb0 := ((Below.refl w.heap.size w).alloc (by first | (simp; done) | (simp; omega)) (.cells #[.bool sp, .slice op np cp, .slice ap mp dp] 24))
  have hxp := nest1_0 w (.cells #[.bool sp, .slice op np cp, .slice ap mp dp] 24)
  have hpp := hp.below hb0
  obtain ⟨w0, hw0⟩ : ∃ w0, w0 = (w.alloc (.cells #[.bool sp, .slice op np cp, .slice ap mp dp] 24)) := ⟨_, rfl⟩
  rw [← hw0] at hb0 hxp hpp
  have HB0 := Lib.hid hb0; have HW0 := Lib.hid hw0
  have BXp := Lib.hid hxp
  have Fp := Lib.hid hpp
  clear hb0 hw0 hxp hpp hp
  by_cases h0 : nn p = 0
  · rw [if_pos h0]
    have H0 := Lib.hid h0; clear h0
    go_enter Tryz.func80, Tryz.ntmps80
    have hs := parts_any _ p w0 Fp.out
    have HS := Lib.hid hs; clear hs
    go_wp2_with fail
    rw [← HW0.out]
    (with_reducible refine HS.out.mono ?_); rintro e w1 ⟨v1, u1, rfl, hb1, hn1, hm1⟩
    clear HS
    rw [H0.out, wd_zero] at hn1
    obtain ⟨no, nc, rfl, _, _, _⟩ := hn1.shape
    have HB1 := Lib.hid (HB0.out.step hb1)
    have Fp := Lib.hid (Fp.out.below hb1)
    have BXp := Lib.hid (heap_below BXp.out hb1)
    have N := Lib.hid hn1
    have D := Lib.hid hm1
    clear hn1 hm1
    clear hb1
    go_wp2_with fail
    go_ret
    exact ⟨rfl, HB1.out⟩
  · rw [if_neg h0]
    have hz : (((wd (nn p)).length : Int) == 0) = false := by rw [beq_eq_false_iff_ne]; intro h; exact wd_ne h0 (List.eq_nil_of_length_eq_zero (by omega))
    obtain ⟨L, hL⟩ : ∃ L, L = (wd (nn p)).length := ⟨_, rfl⟩
    rw [← hL] at hz
    have HL := Lib.hid hL; clear hL h0
    obtain ⟨x, hx⟩ : ∃ x, x = ng p := ⟨_, rfl⟩
    rw [← hx]
    have HX := Lib.hid hx; clear hx
    cases x
    · go_enter Tryz.func80, Tryz.ntmps80
      have hs := parts_any _ p w0 Fp.out
      have HS := Lib.hid hs; clear hs
      go_wp2_with fail
      rw [← HW0.out]
      (with_reducible refine HS.out.mono ?_); rintro e w1 ⟨v1, u1, rfl, hb1, hn1, hm1⟩
      clear HS
      rw [← HX.out]
      obtain ⟨no, nc, rfl, _, _, _⟩ := hn1.shape
      rw [← HL.out]
      have HB1 := Lib.hid (HB0.out.step hb1)
      have Fp := Lib.hid (Fp.out.below hb1)
      have BXp := Lib.hid (heap_below BXp.out hb1)
      have N := Lib.hid hn1
      have D := Lib.hid hm1
      clear hn1 hm1
      clear hb1
      go_wp2_with fail
      go_ret
      exact ⟨rfl, HB1.out⟩
    · go_enter Tryz.func80, Tryz.ntmps80
      have hs := parts_any _ p w0 Fp.out
      have HS := Lib.hid hs; clear hs
      go_wp2_with fail
      rw [← HW0.out]
      (with_reducible refine HS.out.mono ?_); rintro e w1 ⟨v1, u1, rfl, hb1, hn1, hm1⟩
      clear HS
      rw [← HX.out]
      obtain ⟨no, nc, rfl, _, _, _⟩ := hn1.shape
      rw [← HL.out]
      have HB1 := Lib.hid (HB0.out.step hb1)
      have Fp := Lib.hid (Fp.out.below hb1)
      have BXp := Lib.hid (heap_below BXp.out hb1)
      have N := Lib.hid hn1
      have D := Lib.hid hm1
      clear hn1 hm1
      clear hb1
      go_wp2_with fail
      go_ret
      exact ⟨rfl, HB1.out⟩
set_option maxRecDepth 100000 in
set_option maxHeartbeats 3200000 in
theorem cmpq_any (vp : Value) (p : Rat) (vq : Value) (q : Rat) (w : World) (hp : RatIs w vp p) (hq : RatIs w vq q) (hlp2 : rl p ≤ 40000) (hlq2 : rl q ≤ 40000)  :
    Calls Tryz.prog 54 #[vp, vq] w (RetV w (.int .i64 (cq p q))) := by
  obtain ⟨sp, op, np, cp, ap, mp, dp, rfl⟩ := hp.shape
  have hlp := hp.rl
  obtain ⟨sq, oq, nq, cq, aq, mq, dq, rfl⟩ := hq.shape
  have hlq := hq.rl
  have hb0 := (((Below.refl w.heap.size w).alloc (by first | (simp; done) | (simp; omega)) (.cells #[.bool sp, .slice op np cp, .slice ap mp dp] 24)).alloc (by first | (simp; done) | (simp; omega)) (.cells #[.bool sq, .slice oq nq cq, .slice aq mq dq] 24))
  have hxp := nest2_0 w (.cells #[.bool sp, .slice op np cp, .slice ap mp dp] 24) (.cells #[.bool sq, .slice oq nq cq, .slice aq mq dq] 24)
  have hxq := nest2_1 w (.cells #[.bool sp, .slice op np cp, .slice ap mp dp] 24) (.cells #[.bool sq, .slice oq nq cq, .slice aq mq dq] 24)
  have hpp := hp.below hb0
  have hpq := hq.below hb0
  obtain ⟨w0, hw0⟩ : ∃ w0, w0 = ((w.alloc (.cells #[.bool sp, .slice op np cp, .slice ap mp dp] 24)).alloc (.cells #[.bool sq, .slice oq nq cq, .slice aq mq dq] 24)) := ⟨_, rfl⟩
  rw [← hw0] at hb0 hxp hxq hpp hpq
  have HB0 := Lib.hid hb0; have HW0 := Lib.hid hw0
  have BXp := Lib.hid hxp
  have BXq := Lib.hid hxq
  have Fp := Lib.hid hpp
  have Fq := Lib.hid hpq
  clear hb0 hw0 hxp hxq hpp hp hpq hq
  have hr := rl_sub p q
  have hlp2 : rl p ≤ 40000 := hlp2; have hlq2 : rl q ≤ 40000 := hlq2
  go_enter Tryz.func54, Tryz.ntmps54
  have hs := subq_any _ p _ q w0 Fp.out Fq.out
  have HS := Lib.hid hs; clear hs
  go_wp2_with fail
  rw [← HW0.out]
  (with_reducible refine HS.out.mono ?_); rintro e w1 ⟨v1, rfl, hb1, hn1⟩
  clear HS
  have HB1 := Lib.hid (HB0.out.step hb1)
  have Fp := Lib.hid (Fp.out.below hb1)
  have Fq := Lib.hid (Fq.out.below hb1)
  have BXp := Lib.hid (heap_below BXp.out hb1)
  have BXq := Lib.hid (heap_below BXq.out hb1)
  have S := Lib.hid hn1; clear hn1
  clear hb1
  have SI := Lib.hid (S.out.is (by omega))
  obtain ⟨sS, oS, nS, cS, aS, mS, dS, rfl⟩ := S.out.shape
  have hs := sign_any _ (p - q) w1 SI.out
  rw [sg_sub] at hs
  have HS := Lib.hid hs; clear hs
  go_wp2_with fail
  (with_reducible refine HS.out.mono ?_); rintro e w2 ⟨rfl, hb2⟩
  clear HS
  have HB2 := Lib.hid (HB1.out.step hb2)
  have Fp := Lib.hid (Fp.out.below hb2)
  have Fq := Lib.hid (Fq.out.below hb2)
  have S := Lib.hid (S.out.below hb2)
  have SI := Lib.hid (SI.out.below hb2)
  have BXp := Lib.hid (heap_below BXp.out hb2)
  have BXq := Lib.hid (heap_below BXq.out hb2)
  clear hb2
  go_wp2_with fail
  go_ret
  exact ⟨rfl, HB2.out⟩
end Go.Proofs.YtaefimegiobkmaaGreatDoor
/-
  rational.Div, Floor, Round, Power: what they hand back.
  Conditions: each theorem's own.
-/
namespace Go.Proofs.YtaefimegiobkmaaGreatDoor
open Go.RowKit Go.ChangeShapes Go.WideShapes

/-- the number of the error of a division -/
def dc (q : Rat) : Nat := if q = 0 then 8 else 0
theorem div_zero_rat (p : Rat) : p / 0 = 0 := by grind
set_option maxRecDepth 100000 in
set_option maxHeartbeats 3200000 in
theorem div_ok (vp : Value) (p : Rat) (vq : Value) (q : Rat) (w : World) (hp : RatIs w vp p) (hq : RatIs w vq q) (h0 : q ≠ 0) :
    Calls Tryz.prog 47 #[vp, vq] w (RetRE w (p / q) (errV 0)) := by
  obtain ⟨sp, op, np, cp, ap, mp, dp, rfl⟩ := hp.shape
  have hlp := hp.rl
  obtain ⟨sq, oq, nq, cq, aq, mq, dq, rfl⟩ := hq.shape
  have hlq := hq.rl
  rw [errV_zero]
  have hb0 := ((((Below.refl w.heap.size w).alloc (by first | (simp; done) | (simp; omega)) (.cells #[.bool sp, .slice op np cp, .slice ap mp dp] 24)).alloc (by first | (simp; done) | (simp; omega)) (.cells #[.bool sq, .slice oq nq cq, .slice aq mq dq] 24)).alloc (by first | (simp; done) | (simp; omega)) (.cells #[.bool false, .slice none 0 0, .slice none 0 0] 24))
  have hxp := nest3_0 w (.cells #[.bool sp, .slice op np cp, .slice ap mp dp] 24) (.cells #[.bool sq, .slice oq nq cq, .slice aq mq dq] 24) (.cells #[.bool false, .slice none 0 0, .slice none 0 0] 24)
  have hxq := nest3_1 w (.cells #[.bool sp, .slice op np cp, .slice ap mp dp] 24) (.cells #[.bool sq, .slice oq nq cq, .slice aq mq dq] 24) (.cells #[.bool false, .slice none 0 0, .slice none 0 0] 24)
  have hxR := nest3_2 w (.cells #[.bool sp, .slice op np cp, .slice ap mp dp] 24) (.cells #[.bool sq, .slice oq nq cq, .slice aq mq dq] 24) (.cells #[.bool false, .slice none 0 0, .slice none 0 0] 24)
  have hpp := hp.below hb0
  have hpq := hq.below hb0
  obtain ⟨w0, hw0⟩ : ∃ w0, w0 = (((w.alloc (.cells #[.bool sp, .slice op np cp, .slice ap mp dp] 24)).alloc (.cells #[.bool sq, .slice oq nq cq, .slice aq mq dq] 24)).alloc (.cells #[.bool false, .slice none 0 0, .slice none 0 0] 24)) := ⟨_, rfl⟩
  rw [← hw0] at hb0 hxp hxq hxR hpp hpq
  have HB0 := Lib.hid hb0; have HW0 := Lib.hid hw0
  have BXp := Lib.hid hxp
  have BXq := Lib.hid hxq
  have BXR := Lib.hid hxR
  have Fp := Lib.hid hpp
  have Fq := Lib.hid hpq
  clear hb0 hw0 hxp hxq hxR hpp hp hpq hq
  have l1 := rl_n p; have l2 := rl_d p; have l3 := rl_n q; have l4 := rl_d q
  have L1 : (wd (nn p * q.den)).length ≤ 200000 := by have := wd_mul_len (nn p) q.den; omega
  have L2 : (wd (p.den * nn q)).length ≤ 200000 := by have := wd_mul_len p.den (nn q); omega
  have hn0 : nn q ≠ 0 := fun e => h0 (nn_eq_zero.1 e)
  have heq := q_div' p q h0
  have hz : (((wd (nn q)).length : Int) == 0) = false := by rw [beq_eq_false_iff_ne]; intro h; exact wd_ne hn0 (List.eq_nil_of_length_eq_zero (by omega))
  obtain ⟨L, hL⟩ : ∃ L, L = (wd (nn q)).length := ⟨_, rfl⟩
  rw [← hL] at hz
  have HL := Lib.hid hL; have HEQ := Lib.hid heq; have HN0 := Lib.hid hn0; clear hL heq hn0 h0
  go_enter Tryz.func47, Tryz.ntmps47
  have hs := parts_any _ p w0 Fp.out
  have HS := Lib.hid hs; clear hs
  go_wp2_with fail
  rw [← HW0.out]
  (with_reducible refine HS.out.mono ?_); rintro e w1 ⟨v1, u1, rfl, hb1, hn1, hm1⟩
  clear HS
  have HB1 := Lib.hid (HB0.out.step hb1)
  have Fp := Lib.hid (Fp.out.below hb1)
  have Fq := Lib.hid (Fq.out.below hb1)
  have BXp := Lib.hid (heap_below BXp.out hb1)
  have BXq := Lib.hid (heap_below BXq.out hb1)
  have BXR := Lib.hid (heap_below BXR.out hb1)
  have N := Lib.hid hn1
  have D := Lib.hid hm1
  clear hn1 hm1
  clear hb1
  have hs := parts_any _ q w1 Fq.out
  have HS := Lib.hid hs; clear hs
  obtain ⟨eq0, eq1, eq2⟩ := row3 BXq.out
  go_wp2_with fail
  clear eq0 eq1 eq2
  (with_reducible refine HS.out.mono ?_); rintro e w2 ⟨v2, u2, rfl, hb2, hn2, hm2⟩
  clear HS
  obtain ⟨mo, mc, rfl, _, _, _⟩ := hn2.shape
  rw [← HL.out] at hn2 ⊢
  have HB2 := Lib.hid (HB1.out.step hb2)
  have Fp := Lib.hid (Fp.out.below hb2)
  have Fq := Lib.hid (Fq.out.below hb2)
  have N := Lib.hid (N.out.below hb2)
  have D := Lib.hid (D.out.below hb2)
  have BXp := Lib.hid (heap_below BXp.out hb2)
  have BXq := Lib.hid (heap_below BXq.out hb2)
  have BXR := Lib.hid (heap_below BXR.out hb2)
  have M := Lib.hid hn2
  have E := Lib.hid hm2
  clear hn2 hm2
  clear hb2
  have hs := mulN N.out E.out (by omega) (by omega)
  have HS := Lib.hid hs; clear hs
  go_wp2_with fail
  (with_reducible refine HS.out.mono ?_); rintro e w3 ⟨v3, rfl, hb3, hn3⟩
  clear HS
  have HB3 := Lib.hid (HB2.out.step hb3)
  have Fp := Lib.hid (Fp.out.below hb3)
  have Fq := Lib.hid (Fq.out.below hb3)
  have N := Lib.hid (N.out.below hb3)
  have D := Lib.hid (D.out.below hb3)
  have M := Lib.hid (M.out.below hb3)
  have E := Lib.hid (E.out.below hb3)
  have BXp := Lib.hid (heap_below BXp.out hb3)
  have BXq := Lib.hid (heap_below BXq.out hb3)
  have BXR := Lib.hid (heap_below BXR.out hb3)
  have X := Lib.hid hn3; clear hn3
  clear hb3
  have hs := mulN D.out M.out (by omega) (by omega)
  have HS := Lib.hid hs; clear hs
  go_wp2_with fail
  (with_reducible refine HS.out.mono ?_); rintro e w4 ⟨v4, rfl, hb4, hn4⟩
  clear HS
  have HB4 := Lib.hid (HB3.out.step hb4)
  have Fp := Lib.hid (Fp.out.below hb4)
  have Fq := Lib.hid (Fq.out.below hb4)
  have N := Lib.hid (N.out.below hb4)
  have D := Lib.hid (D.out.below hb4)
  have M := Lib.hid (M.out.below hb4)
  have E := Lib.hid (E.out.below hb4)
  have X := Lib.hid (X.out.below hb4)
  have BXp := Lib.hid (heap_below BXp.out hb4)
  have BXq := Lib.hid (heap_below BXq.out hb4)
  have BXR := Lib.hid (heap_below BXR.out hb4)
  have Y := Lib.hid hn4; clear hn4
  clear hb4
  have hs := formN (!(ng p == ng q)) X.out Y.out (by omega) (by omega) (den_mul_nz p.den_nz HN0.out)
  rw [HEQ.out] at hs
  have HS := Lib.hid hs; clear hs
  go_wp2_with fail
  (with_reducible refine HS.out.mono ?_); rintro e w5 ⟨v5, rfl, hb5, hn5⟩
  clear HS
  have HB5 := Lib.hid (HB4.out.step hb5)
  have Fp := Lib.hid (Fp.out.below hb5)
  have Fq := Lib.hid (Fq.out.below hb5)
  have N := Lib.hid (N.out.below hb5)
  have D := Lib.hid (D.out.below hb5)
  have M := Lib.hid (M.out.below hb5)
  have E := Lib.hid (E.out.below hb5)
  have X := Lib.hid (X.out.below hb5)
  have Y := Lib.hid (Y.out.below hb5)
  have BXp := Lib.hid (heap_below BXp.out hb5)
  have BXq := Lib.hid (heap_below BXq.out hb5)
  have BXR := Lib.hid (heap_below BXR.out hb5)
  have Q := Lib.hid hn5; clear hn5
  clear hb5
  obtain ⟨sQ, oQ, nQ, cQ, aQ, mQ, dQ, rfl⟩ := Q.out.shape
  obtain ⟨eR0, eR1, eR2⟩ := row3 BXR.out
  obtain ⟨fR0, fR1, fR2⟩ := froz3 BXR.out
  go_wp2_with fail
  clear eR0 eR1 eR2 fR0 fR1 fR2
  refine ret_rat2 rfl (w.heap.size + 2) _ _ _ rfl (put3_heap BXR.out) rfl ?_
  exact ⟨_, rfl, put3_below HB5.out (by omega) _ _ _, isR_put Q.out BXR.out⟩
set_option maxRecDepth 100000 in
set_option maxHeartbeats 3200000 in
theorem div_none (vp : Value) (p : Rat) (vq : Value) (q : Rat) (w : World) (hp : RatIs w vp p) (hq : RatIs w vq q) (h0 : q = 0) :
    Calls Tryz.prog 47 #[vp, vq] w (RetRE w 0 (errV 8)) := by
  obtain ⟨sp, op, np, cp, ap, mp, dp, rfl⟩ := hp.shape
  have hlp := hp.rl
  obtain ⟨sq, oq, nq, cq, aq, mq, dq, rfl⟩ := hq.shape
  have hlq := hq.rl
  rw [errV_pos (by decide)]
  have hb0 := ((((Below.refl w.heap.size w).alloc (by first | (simp; done) | (simp; omega)) (.cells #[.bool sp, .slice op np cp, .slice ap mp dp] 24)).alloc (by first | (simp; done) | (simp; omega)) (.cells #[.bool sq, .slice oq nq cq, .slice aq mq dq] 24)).alloc (by first | (simp; done) | (simp; omega)) (.cells #[.bool false, .slice none 0 0, .slice none 0 0] 24))
  have hxp := nest3_0 w (.cells #[.bool sp, .slice op np cp, .slice ap mp dp] 24) (.cells #[.bool sq, .slice oq nq cq, .slice aq mq dq] 24) (.cells #[.bool false, .slice none 0 0, .slice none 0 0] 24)
  have hxq := nest3_1 w (.cells #[.bool sp, .slice op np cp, .slice ap mp dp] 24) (.cells #[.bool sq, .slice oq nq cq, .slice aq mq dq] 24) (.cells #[.bool false, .slice none 0 0, .slice none 0 0] 24)
  have hxR := nest3_2 w (.cells #[.bool sp, .slice op np cp, .slice ap mp dp] 24) (.cells #[.bool sq, .slice oq nq cq, .slice aq mq dq] 24) (.cells #[.bool false, .slice none 0 0, .slice none 0 0] 24)
  have hpp := hp.below hb0
  have hpq := hq.below hb0
  obtain ⟨w0, hw0⟩ : ∃ w0, w0 = (((w.alloc (.cells #[.bool sp, .slice op np cp, .slice ap mp dp] 24)).alloc (.cells #[.bool sq, .slice oq nq cq, .slice aq mq dq] 24)).alloc (.cells #[.bool false, .slice none 0 0, .slice none 0 0] 24)) := ⟨_, rfl⟩
  rw [← hw0] at hb0 hxp hxq hxR hpp hpq
  have HB0 := Lib.hid hb0; have HW0 := Lib.hid hw0
  have BXp := Lib.hid hxp
  have BXq := Lib.hid hxq
  have BXR := Lib.hid hxR
  have Fp := Lib.hid hpp
  have Fq := Lib.hid hpq
  clear hb0 hw0 hxp hxq hxR hpp hp hpq hq
  have H0 := Lib.hid h0; clear h0
  go_enter Tryz.func47, Tryz.ntmps47
  have hs := parts_any _ p w0 Fp.out
  have HS := Lib.hid hs; clear hs
  go_wp2_with fail
  rw [← HW0.out]
  (with_reducible refine HS.out.mono ?_); rintro e w1 ⟨v1, u1, rfl, hb1, hn1, hm1⟩
  clear HS
  have HB1 := Lib.hid (HB0.out.step hb1)
  have Fp := Lib.hid (Fp.out.below hb1)
  have Fq := Lib.hid (Fq.out.below hb1)
  have BXp := Lib.hid (heap_below BXp.out hb1)
  have BXq := Lib.hid (heap_below BXq.out hb1)
  have BXR := Lib.hid (heap_below BXR.out hb1)
  have N := Lib.hid hn1
  have D := Lib.hid hm1
  clear hn1 hm1
  clear hb1
  have hs := parts_any _ q w1 Fq.out
  have HS := Lib.hid hs; clear hs
  obtain ⟨eq0, eq1, eq2⟩ := row3 BXq.out
  go_wp2_with fail
  clear eq0 eq1 eq2
  (with_reducible refine HS.out.mono ?_); rintro e w2 ⟨v2, u2, rfl, hb2, hn2, hm2⟩
  clear HS
  rw [H0.out, nn_zero, wd_zero] at hn2
  obtain ⟨mo, mc, rfl, _, _, _⟩ := hn2.shape
  rw [List.length_nil] at hn2 ⊢
  have HB2 := Lib.hid (HB1.out.step hb2)
  have Fp := Lib.hid (Fp.out.below hb2)
  have Fq := Lib.hid (Fq.out.below hb2)
  have N := Lib.hid (N.out.below hb2)
  have D := Lib.hid (D.out.below hb2)
  have BXp := Lib.hid (heap_below BXp.out hb2)
  have BXq := Lib.hid (heap_below BXq.out hb2)
  have BXR := Lib.hid (heap_below BXR.out hb2)
  have M := Lib.hid hn2
  have E := Lib.hid hm2
  clear hn2 hm2
  clear hb2
  obtain ⟨eR0, eR1, eR2⟩ := row3 BXR.out
  obtain ⟨fR0, fR1, fR2⟩ := froz3 BXR.out
  go_wp2_with fail
  clear eR0 eR1 eR2 fR0 fR1 fR2
  refine ret_rat2 rfl (w.heap.size + 2) _ _ _ rfl (put3_heap BXR.out) rfl ?_
  exact ⟨_, rfl, put3_below HB2.out (by omega) _ _ _, isR_zero _⟩
theorem divq_any (vp : Value) (p : Rat) (vq : Value) (q : Rat) (w : World) (hp : RatIs w vp p) (hq : RatIs w vq q) :
    Calls Tryz.prog 47 #[vp, vq] w (RetRE w (p / q) (errV (dc q))) := by
  unfold dc
  by_cases h : q = 0
  · rw [if_pos h, h, div_zero_rat]; rw [h] at hq; exact div_none vp p vq 0 w hp hq rfl
  · rw [if_neg h]; exact div_ok vp p vq q w hp hq h
theorem rl_small {n : Int} (h0 : -9223372036854775808 ≤ n) (h1 : n < 9223372036854775808) : rl (n : Rat) ≤ 2 := by
  rw [rl_int]; have := wd_small (n := n.natAbs) (by omega); omega
end Go.Proofs.YtaefimegiobkmaaGreatDoor
/-
  Statements of open order over fractions: the facts that operations leave.
  Conditions: each theorem's own.
-/
namespace Go.Proofs.YtaefimegiobkmaaGreatDoor
open Go.RowKit Go.ChangeShapes Go.WideShapes

def KIs (q : Rat) : Value → World → Prop := fun v w => IsR w v q
theorem kIs (q : Rat) : MonoF (KIs q) := fun _ _ _ h hb => IsR.below h hb
theorem put3_ne {w : World} {g p : Nat} {x y z : Value} (h : p ≠ g) : (put3 w g x y z).heap[p]? = w.heap[p]? := by
  unfold put3; rw [Below.heap_setCell _ _ _ _ h, Below.heap_setCell _ _ _ _ h, Below.heap_setCell _ _ _ _ h]
theorem below_lt {w1 : World} {g : Nat} {o : Obj} (h : w1.heap[g]? = some o) : g < w1.heap.size := (Array.getElem?_eq_some_iff.1 h).1
/-! what a store of a fraction into a variable keeps -/
theorem putx {w w' : World} {g p : Nat} {x y z : Value} {o : Obj} (hw : w' = put3 w g x y z) (h : w.heap[p]? = some o) (hp : p ≠ g) : w'.heap[p]? = some o := by
  rw [hw, put3_ne hp]; exact h
theorem putb {w0 w w' : World} {B g : Nat} {x y z : Value} (hw : w' = put3 w g x y z) (h : Below B w0 w) (hg : B ≤ g) : Below B w0 w' := by
  rw [hw]; exact put3_below h hg x y z
section
variable {w w' : World} {g : Nat} {x y z v : Value} {s s' : Bool} {o p : Option Addr} {n c m d : Nat} {T : TypeId} {q : Rat} {a b : List Nat}
theorem putkI (hw : w' = put3 w g x y z) (h : IsR w v q) (hg : w.heap[g]? = some (.cells #[.bool s, .slice o n c, .slice p m d] T)) : IsR w' v q := by
  rw [hw]; exact isR_put h hg
theorem putkR (hw : w' = put3 w g x y z) (h : RatIs w v q) (hg : w.heap[g]? = some (.cells #[.bool s, .slice o n c, .slice p m d] T)) : RatIs w' v q := by
  rw [hw]; exact ratIs_put h hg
theorem putkV (hw : w' = put3 w g x y z) (h : RatV w v s' a b) (hg : w.heap[g]? = some (.cells #[.bool s, .slice o n c, .slice p m d] T)) : RatV w' v s' a b := by
  rw [hw]; exact ratV_put h hg (fun n e => by cases e) (fun n e => by cases e) (fun n e => by cases e)
end
end Go.Proofs.YtaefimegiobkmaaGreatDoor
/-
  The reference: Neg, Abs, Mul, Add, Sub, Sign, Cmp: what they hand back.
  Conditions: each theorem's own.
-/
namespace Go.Proofs.YtaefimegiobkmaaGreatDoor
open Go.RowKit Go.ChangeShapes Go.WideShapes

theorem rfromK {u v : Value} {m n : Nat} {w : World} (s : Bool) (h1 : Num w u (wd m)) (h2 : Num w v (wd n)) (l1 : (wd m).length ≤ 400000) (l2 : (wd n).length ≤ 400000) (h0 : n ≠ 0) :
    Calls Tryz.prog 78 #[.bool s, u, v] w (RetRE w (qm s m n) (.int .i64 0)) := by
  have h := rfromN s h1 h2 l1 l2
  unfold zc at h; rw [if_neg h0] at h; exact h
set_option maxRecDepth 100000 in
set_option maxHeartbeats 3200000 in
theorem rneg_any (vp : Value) (p : Rat) (w : World) (hp : RatIs w vp p)  :
    Calls Tryz.prog 90 #[vp] w (RetR w (-p)) := by
  obtain ⟨sp, op, np, cp, ap, mp, dp, rfl⟩ := hp.shape
  have hlp := hp.rl
  have hb0 := (((Below.refl w.heap.size w).alloc (by first | (simp; done) | (simp; omega)) (.cells #[.bool sp, .slice op np cp, .slice ap mp dp] 24)).alloc (by first | (simp; done) | (simp; omega)) (.cells #[.bool false, .slice none 0 0, .slice none 0 0] 24))
  have hxp := nest2_0 w (.cells #[.bool sp, .slice op np cp, .slice ap mp dp] 24) (.cells #[.bool false, .slice none 0 0, .slice none 0 0] 24)
  have hxR := nest2_1 w (.cells #[.bool sp, .slice op np cp, .slice ap mp dp] 24) (.cells #[.bool false, .slice none 0 0, .slice none 0 0] 24)
  have hpp := hp.below hb0
  obtain ⟨w0, hw0⟩ : ∃ w0, w0 = ((w.alloc (.cells #[.bool sp, .slice op np cp, .slice ap mp dp] 24)).alloc (.cells #[.bool false, .slice none 0 0, .slice none 0 0] 24)) := ⟨_, rfl⟩
  rw [← hw0] at hb0 hxp hxR hpp
  have HB0 := Lib.hid hb0; have HW0 := Lib.hid hw0
  have BXp := Lib.hid hxp
  have BXR := Lib.hid hxR
  have Fp := Lib.hid hpp
  clear hb0 hw0 hxp hxR hpp hp
  have l1 := rl_n p; have l2 := rl_d p
  go_enter Tryz.func90, Tryz.ntmps90
  have hs := rparts_any _ p w0 Fp.out
  have HS := Lib.hid hs; clear hs
  go_wp2_with fail
  rw [← HW0.out]
  (with_reducible refine HS.out.mono ?_); rintro e w1 ⟨v1, u1, rfl, hb1, hn1, hm1⟩
  clear HS
  have HB1 := Lib.hid (HB0.out.step hb1)
  have Fp := Lib.hid (Fp.out.below hb1)
  have BXp := Lib.hid (heap_below BXp.out hb1)
  have BXR := Lib.hid (heap_below BXR.out hb1)
  have N := Lib.hid hn1
  have D := Lib.hid hm1
  clear hn1 hm1
  clear hb1
  have hs := rfromK (!ng p) N.out D.out (by omega) (by omega) p.den_nz
  rw [q_neg] at hs
  have HS := Lib.hid hs; clear hs
  go_wp2_with fail
  (with_reducible refine HS.out.mono ?_); rintro e w2 ⟨v2, rfl, hb2, hn2⟩
  clear HS
  have HB2 := Lib.hid (HB1.out.step hb2)
  have Fp := Lib.hid (Fp.out.below hb2)
  have N := Lib.hid (N.out.below hb2)
  have D := Lib.hid (D.out.below hb2)
  have BXp := Lib.hid (heap_below BXp.out hb2)
  have BXR := Lib.hid (heap_below BXR.out hb2)
  have Q := Lib.hid hn2; clear hn2
  clear hb2
  obtain ⟨sQ, oQ, nQ, cQ, aQ, mQ, dQ, rfl⟩ := Q.out.shape
  have hal : Below w2.heap.size w2 (w2.alloc (.cells #[.bool sQ, .slice oQ nQ cQ, .slice aQ mQ dQ] 24)) := (Below.refl _ _).alloc (Nat.le_refl _) _
  have HXA := Lib.hid (heap_below BXR.out hal); have HAL := Lib.hid hal; clear hal
  obtain ⟨eR0, eR1, eR2⟩ := row3 HXA.out
  obtain ⟨fR0, fR1, fR2⟩ := froz3 HXA.out
  go_wp2_with fail
  refine ret_rat rfl (w.heap.size + 1) _ _ _ rfl (put3_heap HXA.out) rfl ?_
  exact ⟨_, rfl, put3_below (HB2.out.step HAL.out) (by omega) _ _ _, isR_put (Q.out.below HAL.out) HXA.out⟩
end Go.Proofs.YtaefimegiobkmaaGreatDoor
/-
  The reference: Add, Sub, Sign, Cmp: what they hand back.
  Conditions: each theorem's own.
-/
namespace Go.Proofs.YtaefimegiobkmaaGreatDoor
open Go.RowKit Go.ChangeShapes Go.WideShapes

set_option maxRecDepth 100000 in
set_option maxHeartbeats 3200000 in
theorem radd_same (vp : Value) (p : Rat) (vq : Value) (q : Rat) (w : World) (hp : RatIs w vp p) (hq : RatIs w vq q) (hs : ng p = ng q) :
    Calls Tryz.prog 58 #[vp, vq] w (RetR w (p + q)) := by
  obtain ⟨sp, op, np, cp, ap, mp, dp, rfl⟩ := hp.shape
  have hlp := hp.rl
  obtain ⟨sq, oq, nq, cq, aq, mq, dq, rfl⟩ := hq.shape
  have hlq := hq.rl
  have hb0 := ((((Below.refl w.heap.size w).alloc (by first | (simp; done) | (simp; omega)) (.cells #[.bool sp, .slice op np cp, .slice ap mp dp] 24)).alloc (by first | (simp; done) | (simp; omega)) (.cells #[.bool sq, .slice oq nq cq, .slice aq mq dq] 24)).alloc (by first | (simp; done) | (simp; omega)) (.cells #[.bool false, .slice none 0 0, .slice none 0 0] 24))
  have hxp := nest3_0 w (.cells #[.bool sp, .slice op np cp, .slice ap mp dp] 24) (.cells #[.bool sq, .slice oq nq cq, .slice aq mq dq] 24) (.cells #[.bool false, .slice none 0 0, .slice none 0 0] 24)
  have hxq := nest3_1 w (.cells #[.bool sp, .slice op np cp, .slice ap mp dp] 24) (.cells #[.bool sq, .slice oq nq cq, .slice aq mq dq] 24) (.cells #[.bool false, .slice none 0 0, .slice none 0 0] 24)
  have hxR := nest3_2 w (.cells #[.bool sp, .slice op np cp, .slice ap mp dp] 24) (.cells #[.bool sq, .slice oq nq cq, .slice aq mq dq] 24) (.cells #[.bool false, .slice none 0 0, .slice none 0 0] 24)
  have hpp := hp.below hb0
  have hpq := hq.below hb0
  obtain ⟨w0, hw0⟩ : ∃ w0, w0 = (((w.alloc (.cells #[.bool sp, .slice op np cp, .slice ap mp dp] 24)).alloc (.cells #[.bool sq, .slice oq nq cq, .slice aq mq dq] 24)).alloc (.cells #[.bool false, .slice none 0 0, .slice none 0 0] 24)) := ⟨_, rfl⟩
  rw [← hw0] at hb0 hxp hxq hxR hpp hpq
  have HB0 := Lib.hid hb0; have HW0 := Lib.hid hw0
  have BXp := Lib.hid hxp
  have BXq := Lib.hid hxq
  have BXR := Lib.hid hxR
  have Fp := Lib.hid hpp
  have Fq := Lib.hid hpq
  clear hb0 hw0 hxp hxq hxR hpp hp hpq hq
  have l1 := rl_n p; have l2 := rl_d p; have l3 := rl_n q; have l4 := rl_d q
  have L1 : (wd (nn p * q.den)).length ≤ 200000 := by have := wd_mul_len (nn p) q.den; omega
  have L2 : (wd (nn q * p.den)).length ≤ 200000 := by have := wd_mul_len (nn q) p.den; omega
  have L3 : (wd (p.den * q.den)).length ≤ 200000 := by have := wd_mul_len p.den q.den; omega
  have heq := q_add_same p q hs
  have HEQ := Lib.hid heq; clear heq
  have L4 : (wd (nn p * q.den + nn q * p.den)).length ≤ 200001 := by have := wd_add_len (nn p * q.den) (nn q * p.den); omega
  have f1 : (ng p == ng q) = true := by rw [beq_iff_eq]; exact hs
  obtain ⟨x, hx⟩ : ∃ x, x = ng p := ⟨_, rfl⟩; obtain ⟨y, hy⟩ : ∃ y, y = ng q := ⟨_, rfl⟩
  rw [← hx, ← hy] at f1
  have HX := Lib.hid hx; have HY := Lib.hid hy; clear hx hy hs
  go_enter Tryz.func58, Tryz.ntmps58
  have hs := rparts_any _ p w0 Fp.out
  have HS := Lib.hid hs; clear hs
  go_wp2_with fail
  rw [← HW0.out]
  (with_reducible refine HS.out.mono ?_); rintro e w1 ⟨v1, u1, rfl, hb1, hn1, hm1⟩
  clear HS
  have HB1 := Lib.hid (HB0.out.step hb1)
  have Fp := Lib.hid (Fp.out.below hb1)
  have Fq := Lib.hid (Fq.out.below hb1)
  have BXp := Lib.hid (heap_below BXp.out hb1)
  have BXq := Lib.hid (heap_below BXq.out hb1)
  have BXR := Lib.hid (heap_below BXR.out hb1)
  have N := Lib.hid hn1
  have D := Lib.hid hm1
  clear hn1 hm1
  clear hb1
  rw [← HX.out]
  have hs := rparts_any _ q w1 Fq.out
  have HS := Lib.hid hs; clear hs
  obtain ⟨eq0, eq1, eq2⟩ := row3 BXq.out
  go_wp2_with fail
  (with_reducible refine HS.out.mono ?_); rintro e w2 ⟨v2, u2, rfl, hb2, hn2, hm2⟩
  clear HS
  have HB2 := Lib.hid (HB1.out.step hb2)
  have Fp := Lib.hid (Fp.out.below hb2)
  have Fq := Lib.hid (Fq.out.below hb2)
  have N := Lib.hid (N.out.below hb2)
  have D := Lib.hid (D.out.below hb2)
  have BXp := Lib.hid (heap_below BXp.out hb2)
  have BXq := Lib.hid (heap_below BXq.out hb2)
  have BXR := Lib.hid (heap_below BXR.out hb2)
  have M := Lib.hid hn2
  have E := Lib.hid hm2
  clear hn2 hm2
  clear hb2
  rw [← HY.out]
  have hs := rmulN N.out E.out (by omega) (by omega)
  have HS := Lib.hid hs; clear hs
  go_wp2_with fail
  (with_reducible refine HS.out.mono ?_); rintro e w3 ⟨v3, rfl, hb3, hn3⟩
  clear HS
  have HB3 := Lib.hid (HB2.out.step hb3)
  have Fp := Lib.hid (Fp.out.below hb3)
  have Fq := Lib.hid (Fq.out.below hb3)
  have N := Lib.hid (N.out.below hb3)
  have D := Lib.hid (D.out.below hb3)
  have M := Lib.hid (M.out.below hb3)
  have E := Lib.hid (E.out.below hb3)
  have BXp := Lib.hid (heap_below BXp.out hb3)
  have BXq := Lib.hid (heap_below BXq.out hb3)
  have BXR := Lib.hid (heap_below BXR.out hb3)
  have X := Lib.hid hn3; clear hn3
  clear hb3
  have hs := rmulN M.out D.out (by omega) (by omega)
  have HS := Lib.hid hs; clear hs
  go_wp2_with fail
  (with_reducible refine HS.out.mono ?_); rintro e w4 ⟨v4, rfl, hb4, hn4⟩
  clear HS
  have HB4 := Lib.hid (HB3.out.step hb4)
  have Fp := Lib.hid (Fp.out.below hb4)
  have Fq := Lib.hid (Fq.out.below hb4)
  have N := Lib.hid (N.out.below hb4)
  have D := Lib.hid (D.out.below hb4)
  have M := Lib.hid (M.out.below hb4)
  have E := Lib.hid (E.out.below hb4)
  have X := Lib.hid (X.out.below hb4)
  have BXp := Lib.hid (heap_below BXp.out hb4)
  have BXq := Lib.hid (heap_below BXq.out hb4)
  have BXR := Lib.hid (heap_below BXR.out hb4)
  have Y := Lib.hid hn4; clear hn4
  clear hb4
  have hs := rmulN D.out E.out (by omega) (by omega)
  have HS := Lib.hid hs; clear hs
  go_wp2_with fail
  (with_reducible refine HS.out.mono ?_); rintro e w5 ⟨v5, rfl, hb5, hn5⟩
  clear HS
  have HB5 := Lib.hid (HB4.out.step hb5)
  have Fp := Lib.hid (Fp.out.below hb5)
  have Fq := Lib.hid (Fq.out.below hb5)
  have N := Lib.hid (N.out.below hb5)
  have D := Lib.hid (D.out.below hb5)
  have M := Lib.hid (M.out.below hb5)
  have E := Lib.hid (E.out.below hb5)
  have X := Lib.hid (X.out.below hb5)
  have Y := Lib.hid (Y.out.below hb5)
  have BXp := Lib.hid (heap_below BXp.out hb5)
  have BXq := Lib.hid (heap_below BXq.out hb5)
  have BXR := Lib.hid (heap_below BXR.out hb5)
  have DE := Lib.hid hn5; clear hn5
  clear hb5
  have hs := raddN X.out Y.out (by omega) (by omega)
  have HS := Lib.hid hs; clear hs
  go_wp2_with fail
  (with_reducible refine HS.out.mono ?_); rintro e w6 ⟨v6, rfl, hb6, hn6⟩
  clear HS
  have HB6 := Lib.hid (HB5.out.step hb6)
  have Fp := Lib.hid (Fp.out.below hb6)
  have Fq := Lib.hid (Fq.out.below hb6)
  have N := Lib.hid (N.out.below hb6)
  have D := Lib.hid (D.out.below hb6)
  have M := Lib.hid (M.out.below hb6)
  have E := Lib.hid (E.out.below hb6)
  have X := Lib.hid (X.out.below hb6)
  have Y := Lib.hid (Y.out.below hb6)
  have DE := Lib.hid (DE.out.below hb6)
  have BXp := Lib.hid (heap_below BXp.out hb6)
  have BXq := Lib.hid (heap_below BXq.out hb6)
  have BXR := Lib.hid (heap_below BXR.out hb6)
  have S := Lib.hid hn6; clear hn6
  clear hb6
  have hs := rfromK x S.out DE.out (by omega) (by omega) (den_mul_nz p.den_nz q.den_nz)
  have HS := Lib.hid hs; clear hs
  go_wp2_with fail
  (with_reducible refine HS.out.mono ?_); rintro e w7 ⟨v7, rfl, hb7, hn7⟩
  clear HS
  have HB7 := Lib.hid (HB6.out.step hb7)
  have Fp := Lib.hid (Fp.out.below hb7)
  have Fq := Lib.hid (Fq.out.below hb7)
  have N := Lib.hid (N.out.below hb7)
  have D := Lib.hid (D.out.below hb7)
  have M := Lib.hid (M.out.below hb7)
  have E := Lib.hid (E.out.below hb7)
  have X := Lib.hid (X.out.below hb7)
  have Y := Lib.hid (Y.out.below hb7)
  have DE := Lib.hid (DE.out.below hb7)
  have S := Lib.hid (S.out.below hb7)
  have BXp := Lib.hid (heap_below BXp.out hb7)
  have BXq := Lib.hid (heap_below BXq.out hb7)
  have BXR := Lib.hid (heap_below BXR.out hb7)
  have Q := Lib.hid hn7; clear hn7
  clear hb7
  have hq := Q.out; rw [HX.out, HEQ.out] at hq; have Q := Lib.hid hq; clear hq
  obtain ⟨sQ, oQ, nQ, cQ, aQ, mQ, dQ, rfl⟩ := Q.out.shape
  have hal : Below w7.heap.size w7 (w7.alloc (.cells #[.bool sQ, .slice oQ nQ cQ, .slice aQ mQ dQ] 24)) := (Below.refl _ _).alloc (Nat.le_refl _) _
  have HXA := Lib.hid (heap_below BXR.out hal); have HAL := Lib.hid hal; clear hal
  obtain ⟨eR0, eR1, eR2⟩ := row3 HXA.out
  obtain ⟨fR0, fR1, fR2⟩ := froz3 HXA.out
  go_wp2_with fail
  refine ret_rat rfl (w.heap.size + 2) _ _ _ rfl (put3_heap HXA.out) rfl ?_
  exact ⟨_, rfl, put3_below (HB7.out.step HAL.out) (by omega) _ _ _, isR_put (Q.out.below HAL.out) HXA.out⟩
set_option maxRecDepth 100000 in
set_option maxHeartbeats 3200000 in
theorem radd_diff (vp : Value) (p : Rat) (vq : Value) (q : Rat) (w : World) (hp : RatIs w vp p) (hq : RatIs w vq q) (hs : ng p ≠ ng q) (hle : nn q * p.den ≤ nn p * q.den) :
    Calls Tryz.prog 58 #[vp, vq] w (RetR w (p + q)) := by
  obtain ⟨sp, op, np, cp, ap, mp, dp, rfl⟩ := hp.shape
  have hlp := hp.rl
  obtain ⟨sq, oq, nq, cq, aq, mq, dq, rfl⟩ := hq.shape
  have hlq := hq.rl
  have hb0 := ((((Below.refl w.heap.size w).alloc (by first | (simp; done) | (simp; omega)) (.cells #[.bool sp, .slice op np cp, .slice ap mp dp] 24)).alloc (by first | (simp; done) | (simp; omega)) (.cells #[.bool sq, .slice oq nq cq, .slice aq mq dq] 24)).alloc (by first | (simp; done) | (simp; omega)) (.cells #[.bool false, .slice none 0 0, .slice none 0 0] 24))
  have hxp := nest3_0 w (.cells #[.bool sp, .slice op np cp, .slice ap mp dp] 24) (.cells #[.bool sq, .slice oq nq cq, .slice aq mq dq] 24) (.cells #[.bool false, .slice none 0 0, .slice none 0 0] 24)
  have hxq := nest3_1 w (.cells #[.bool sp, .slice op np cp, .slice ap mp dp] 24) (.cells #[.bool sq, .slice oq nq cq, .slice aq mq dq] 24) (.cells #[.bool false, .slice none 0 0, .slice none 0 0] 24)
  have hxR := nest3_2 w (.cells #[.bool sp, .slice op np cp, .slice ap mp dp] 24) (.cells #[.bool sq, .slice oq nq cq, .slice aq mq dq] 24) (.cells #[.bool false, .slice none 0 0, .slice none 0 0] 24)
  have hpp := hp.below hb0
  have hpq := hq.below hb0
  obtain ⟨w0, hw0⟩ : ∃ w0, w0 = (((w.alloc (.cells #[.bool sp, .slice op np cp, .slice ap mp dp] 24)).alloc (.cells #[.bool sq, .slice oq nq cq, .slice aq mq dq] 24)).alloc (.cells #[.bool false, .slice none 0 0, .slice none 0 0] 24)) := ⟨_, rfl⟩
  rw [← hw0] at hb0 hxp hxq hxR hpp hpq
  have HB0 := Lib.hid hb0; have HW0 := Lib.hid hw0
  have BXp := Lib.hid hxp
  have BXq := Lib.hid hxq
  have BXR := Lib.hid hxR
  have Fp := Lib.hid hpp
  have Fq := Lib.hid hpq
  clear hb0 hw0 hxp hxq hxR hpp hp hpq hq
  have l1 := rl_n p; have l2 := rl_d p; have l3 := rl_n q; have l4 := rl_d q
  have L1 : (wd (nn p * q.den)).length ≤ 200000 := by have := wd_mul_len (nn p) q.den; omega
  have L2 : (wd (nn q * p.den)).length ≤ 200000 := by have := wd_mul_len (nn q) p.den; omega
  have L3 : (wd (p.den * q.den)).length ≤ 200000 := by have := wd_mul_len p.den q.den; omega
  have heq := q_add_diff p q hs hle
  have HEQ := Lib.hid heq; clear heq
  have f1 : (ng p == ng q) = false := by rw [beq_eq_false_iff_ne]; exact hs
  obtain ⟨c, hc⟩ : ∃ c, c = cmpN (nn p * q.den) (nn q * p.den) := ⟨_, rfl⟩
  have L4 : (wd (nn p * q.den - nn q * p.den)).length ≤ 200000 := by exact Nat.le_trans (wd_length_mono (Nat.sub_le _ _)) L1
  have f2 : decide (c < 0) = false := by rw [hc, decide_eq_false_iff_not]; unfold cmpN; rw [if_neg (by omega)]; split <;> decide
  have HC := Lib.hid hc; have HLE := Lib.hid hle; clear hc hle
  obtain ⟨x, hx⟩ : ∃ x, x = ng p := ⟨_, rfl⟩; obtain ⟨y, hy⟩ : ∃ y, y = ng q := ⟨_, rfl⟩
  rw [← hx, ← hy] at f1
  have HX := Lib.hid hx; have HY := Lib.hid hy; clear hx hy hs
  go_enter Tryz.func58, Tryz.ntmps58
  have hs := rparts_any _ p w0 Fp.out
  have HS := Lib.hid hs; clear hs
  go_wp2_with fail
  rw [← HW0.out]
  (with_reducible refine HS.out.mono ?_); rintro e w1 ⟨v1, u1, rfl, hb1, hn1, hm1⟩
  clear HS
  have HB1 := Lib.hid (HB0.out.step hb1)
  have Fp := Lib.hid (Fp.out.below hb1)
  have Fq := Lib.hid (Fq.out.below hb1)
  have BXp := Lib.hid (heap_below BXp.out hb1)
  have BXq := Lib.hid (heap_below BXq.out hb1)
  have BXR := Lib.hid (heap_below BXR.out hb1)
  have N := Lib.hid hn1
  have D := Lib.hid hm1
  clear hn1 hm1
  clear hb1
  rw [← HX.out]
  have hs := rparts_any _ q w1 Fq.out
  have HS := Lib.hid hs; clear hs
  obtain ⟨eq0, eq1, eq2⟩ := row3 BXq.out
  go_wp2_with fail
  (with_reducible refine HS.out.mono ?_); rintro e w2 ⟨v2, u2, rfl, hb2, hn2, hm2⟩
  clear HS
  have HB2 := Lib.hid (HB1.out.step hb2)
  have Fp := Lib.hid (Fp.out.below hb2)
  have Fq := Lib.hid (Fq.out.below hb2)
  have N := Lib.hid (N.out.below hb2)
  have D := Lib.hid (D.out.below hb2)
  have BXp := Lib.hid (heap_below BXp.out hb2)
  have BXq := Lib.hid (heap_below BXq.out hb2)
  have BXR := Lib.hid (heap_below BXR.out hb2)
  have M := Lib.hid hn2
  have E := Lib.hid hm2
  clear hn2 hm2
  clear hb2
  rw [← HY.out]
  have hs := rmulN N.out E.out (by omega) (by omega)
  have HS := Lib.hid hs; clear hs
  go_wp2_with fail
  (with_reducible refine HS.out.mono ?_); rintro e w3 ⟨v3, rfl, hb3, hn3⟩
  clear HS
  have HB3 := Lib.hid (HB2.out.step hb3)
  have Fp := Lib.hid (Fp.out.below hb3)
  have Fq := Lib.hid (Fq.out.below hb3)
  have N := Lib.hid (N.out.below hb3)
  have D := Lib.hid (D.out.below hb3)
  have M := Lib.hid (M.out.below hb3)
  have E := Lib.hid (E.out.below hb3)
  have BXp := Lib.hid (heap_below BXp.out hb3)
  have BXq := Lib.hid (heap_below BXq.out hb3)
  have BXR := Lib.hid (heap_below BXR.out hb3)
  have X := Lib.hid hn3; clear hn3
  clear hb3
  have hs := rmulN M.out D.out (by omega) (by omega)
  have HS := Lib.hid hs; clear hs
  go_wp2_with fail
  (with_reducible refine HS.out.mono ?_); rintro e w4 ⟨v4, rfl, hb4, hn4⟩
  clear HS
  have HB4 := Lib.hid (HB3.out.step hb4)
  have Fp := Lib.hid (Fp.out.below hb4)
  have Fq := Lib.hid (Fq.out.below hb4)
  have N := Lib.hid (N.out.below hb4)
  have D := Lib.hid (D.out.below hb4)
  have M := Lib.hid (M.out.below hb4)
  have E := Lib.hid (E.out.below hb4)
  have X := Lib.hid (X.out.below hb4)
  have BXp := Lib.hid (heap_below BXp.out hb4)
  have BXq := Lib.hid (heap_below BXq.out hb4)
  have BXR := Lib.hid (heap_below BXR.out hb4)
  have Y := Lib.hid hn4; clear hn4
  clear hb4
  have hs := rmulN D.out E.out (by omega) (by omega)
  have HS := Lib.hid hs; clear hs
  go_wp2_with fail
  (with_reducible refine HS.out.mono ?_); rintro e w5 ⟨v5, rfl, hb5, hn5⟩
  clear HS
  have HB5 := Lib.hid (HB4.out.step hb5)
  have Fp := Lib.hid (Fp.out.below hb5)
  have Fq := Lib.hid (Fq.out.below hb5)
  have N := Lib.hid (N.out.below hb5)
  have D := Lib.hid (D.out.below hb5)
  have M := Lib.hid (M.out.below hb5)
  have E := Lib.hid (E.out.below hb5)
  have X := Lib.hid (X.out.below hb5)
  have Y := Lib.hid (Y.out.below hb5)
  have BXp := Lib.hid (heap_below BXp.out hb5)
  have BXq := Lib.hid (heap_below BXq.out hb5)
  have BXR := Lib.hid (heap_below BXR.out hb5)
  have DE := Lib.hid hn5; clear hn5
  clear hb5
  have hs := rcmpN_ X.out Y.out (by omega) (by omega)
  rw [← HC.out] at hs
  have HS := Lib.hid hs; clear hs
  go_wp2_with fail
  (with_reducible refine HS.out.mono ?_); rintro e wx ⟨rfl, rfl⟩
  clear HS
  have hs := rsubN X.out Y.out (by omega) (by omega) HLE.out
  have HS := Lib.hid hs; clear hs
  go_wp2_with fail
  (with_reducible refine HS.out.mono ?_); rintro e w7 ⟨v7, rfl, hb7, hn7⟩
  clear HS
  have HB7 := Lib.hid (HB5.out.step hb7)
  have Fp := Lib.hid (Fp.out.below hb7)
  have Fq := Lib.hid (Fq.out.below hb7)
  have N := Lib.hid (N.out.below hb7)
  have D := Lib.hid (D.out.below hb7)
  have M := Lib.hid (M.out.below hb7)
  have E := Lib.hid (E.out.below hb7)
  have X := Lib.hid (X.out.below hb7)
  have Y := Lib.hid (Y.out.below hb7)
  have DE := Lib.hid (DE.out.below hb7)
  have BXp := Lib.hid (heap_below BXp.out hb7)
  have BXq := Lib.hid (heap_below BXq.out hb7)
  have BXR := Lib.hid (heap_below BXR.out hb7)
  have S := Lib.hid hn7; clear hn7
  clear hb7
  have hs := rfromK x S.out DE.out (by omega) (by omega) (den_mul_nz p.den_nz q.den_nz)
  have HS := Lib.hid hs; clear hs
  go_wp2_with fail
  (with_reducible refine HS.out.mono ?_); rintro e w8 ⟨v8, rfl, hb8, hn8⟩
  clear HS
  have HB8 := Lib.hid (HB7.out.step hb8)
  have Fp := Lib.hid (Fp.out.below hb8)
  have Fq := Lib.hid (Fq.out.below hb8)
  have N := Lib.hid (N.out.below hb8)
  have D := Lib.hid (D.out.below hb8)
  have M := Lib.hid (M.out.below hb8)
  have E := Lib.hid (E.out.below hb8)
  have X := Lib.hid (X.out.below hb8)
  have Y := Lib.hid (Y.out.below hb8)
  have DE := Lib.hid (DE.out.below hb8)
  have S := Lib.hid (S.out.below hb8)
  have BXp := Lib.hid (heap_below BXp.out hb8)
  have BXq := Lib.hid (heap_below BXq.out hb8)
  have BXR := Lib.hid (heap_below BXR.out hb8)
  have Q := Lib.hid hn8; clear hn8
  clear hb8
  have hq := Q.out; rw [HX.out, HEQ.out] at hq; have Q := Lib.hid hq; clear hq
  obtain ⟨sQ, oQ, nQ, cQ, aQ, mQ, dQ, rfl⟩ := Q.out.shape
  have hal : Below w8.heap.size w8 (w8.alloc (.cells #[.bool sQ, .slice oQ nQ cQ, .slice aQ mQ dQ] 24)) := (Below.refl _ _).alloc (Nat.le_refl _) _
  have HXA := Lib.hid (heap_below BXR.out hal); have HAL := Lib.hid hal; clear hal
  obtain ⟨eR0, eR1, eR2⟩ := row3 HXA.out
  obtain ⟨fR0, fR1, fR2⟩ := froz3 HXA.out
  go_wp2_with fail
  refine ret_rat rfl (w.heap.size + 2) _ _ _ rfl (put3_heap HXA.out) rfl ?_
  exact ⟨_, rfl, put3_below (HB8.out.step HAL.out) (by omega) _ _ _, isR_put (Q.out.below HAL.out) HXA.out⟩
set_option maxRecDepth 100000 in
set_option maxHeartbeats 3200000 in
theorem radd_diff' (vp : Value) (p : Rat) (vq : Value) (q : Rat) (w : World) (hp : RatIs w vp p) (hq : RatIs w vq q) (hs : ng p ≠ ng q) (hle : nn p * q.den < nn q * p.den) :
    Calls Tryz.prog 58 #[vp, vq] w (RetR w (p + q)) := by
  obtain ⟨sp, op, np, cp, ap, mp, dp, rfl⟩ := hp.shape
  have hlp := hp.rl
  obtain ⟨sq, oq, nq, cq, aq, mq, dq, rfl⟩ := hq.shape
  have hlq := hq.rl
  have hb0 := ((((Below.refl w.heap.size w).alloc (by first | (simp; done) | (simp; omega)) (.cells #[.bool sp, .slice op np cp, .slice ap mp dp] 24)).alloc (by first | (simp; done) | (simp; omega)) (.cells #[.bool sq, .slice oq nq cq, .slice aq mq dq] 24)).alloc (by first | (simp; done) | (simp; omega)) (.cells #[.bool false, .slice none 0 0, .slice none 0 0] 24))
  have hxp := nest3_0 w (.cells #[.bool sp, .slice op np cp, .slice ap mp dp] 24) (.cells #[.bool sq, .slice oq nq cq, .slice aq mq dq] 24) (.cells #[.bool false, .slice none 0 0, .slice none 0 0] 24)
  have hxq := nest3_1 w (.cells #[.bool sp, .slice op np cp, .slice ap mp dp] 24) (.cells #[.bool sq, .slice oq nq cq, .slice aq mq dq] 24) (.cells #[.bool false, .slice none 0 0, .slice none 0 0] 24)
  have hxR := nest3_2 w (.cells #[.bool sp, .slice op np cp, .slice ap mp dp] 24) (.cells #[.bool sq, .slice oq nq cq, .slice aq mq dq] 24) (.cells #[.bool false, .slice none 0 0, .slice none 0 0] 24)
  have hpp := hp.below hb0
  have hpq := hq.below hb0
  obtain ⟨w0, hw0⟩ : ∃ w0, w0 = (((w.alloc (.cells #[.bool sp, .slice op np cp, .slice ap mp dp] 24)).alloc (.cells #[.bool sq, .slice oq nq cq, .slice aq mq dq] 24)).alloc (.cells #[.bool false, .slice none 0 0, .slice none 0 0] 24)) := ⟨_, rfl⟩
  rw [← hw0] at hb0 hxp hxq hxR hpp hpq
  have HB0 := Lib.hid hb0; have HW0 := Lib.hid hw0
  have BXp := Lib.hid hxp
  have BXq := Lib.hid hxq
  have BXR := Lib.hid hxR
  have Fp := Lib.hid hpp
  have Fq := Lib.hid hpq
  clear hb0 hw0 hxp hxq hxR hpp hp hpq hq
  have l1 := rl_n p; have l2 := rl_d p; have l3 := rl_n q; have l4 := rl_d q
  have L1 : (wd (nn p * q.den)).length ≤ 200000 := by have := wd_mul_len (nn p) q.den; omega
  have L2 : (wd (nn q * p.den)).length ≤ 200000 := by have := wd_mul_len (nn q) p.den; omega
  have L3 : (wd (p.den * q.den)).length ≤ 200000 := by have := wd_mul_len p.den q.den; omega
  have heq := q_add_diff' p q hs (Nat.le_of_lt hle)
  have HEQ := Lib.hid heq; clear heq
  have f1 : (ng p == ng q) = false := by rw [beq_eq_false_iff_ne]; exact hs
  obtain ⟨c, hc⟩ : ∃ c, c = cmpN (nn p * q.den) (nn q * p.den) := ⟨_, rfl⟩
  have L4 : (wd (nn q * p.den - nn p * q.den)).length ≤ 200000 := by exact Nat.le_trans (wd_length_mono (Nat.sub_le _ _)) L2
  have f2 : decide (c < 0) = true := by rw [hc, decide_eq_true_eq]; unfold cmpN; rw [if_pos hle]; decide
  have HC := Lib.hid hc; have HLE := Lib.hid hle; clear hc hle
  obtain ⟨x, hx⟩ : ∃ x, x = ng p := ⟨_, rfl⟩; obtain ⟨y, hy⟩ : ∃ y, y = ng q := ⟨_, rfl⟩
  rw [← hx, ← hy] at f1
  have HX := Lib.hid hx; have HY := Lib.hid hy; clear hx hy hs
  go_enter Tryz.func58, Tryz.ntmps58
  have hs := rparts_any _ p w0 Fp.out
  have HS := Lib.hid hs; clear hs
  go_wp2_with fail
  rw [← HW0.out]
  (with_reducible refine HS.out.mono ?_); rintro e w1 ⟨v1, u1, rfl, hb1, hn1, hm1⟩
  clear HS
  have HB1 := Lib.hid (HB0.out.step hb1)
  have Fp := Lib.hid (Fp.out.below hb1)
  have Fq := Lib.hid (Fq.out.below hb1)
  have BXp := Lib.hid (heap_below BXp.out hb1)
  have BXq := Lib.hid (heap_below BXq.out hb1)
  have BXR := Lib.hid (heap_below BXR.out hb1)
  have N := Lib.hid hn1
  have D := Lib.hid hm1
  clear hn1 hm1
  clear hb1
  rw [← HX.out]
  have hs := rparts_any _ q w1 Fq.out
  have HS := Lib.hid hs; clear hs
  obtain ⟨eq0, eq1, eq2⟩ := row3 BXq.out
  go_wp2_with fail
  (with_reducible refine HS.out.mono ?_); rintro e w2 ⟨v2, u2, rfl, hb2, hn2, hm2⟩
  clear HS
  have HB2 := Lib.hid (HB1.out.step hb2)
  have Fp := Lib.hid (Fp.out.below hb2)
  have Fq := Lib.hid (Fq.out.below hb2)
  have N := Lib.hid (N.out.below hb2)
  have D := Lib.hid (D.out.below hb2)
  have BXp := Lib.hid (heap_below BXp.out hb2)
  have BXq := Lib.hid (heap_below BXq.out hb2)
  have BXR := Lib.hid (heap_below BXR.out hb2)
  have M := Lib.hid hn2
  have E := Lib.hid hm2
  clear hn2 hm2
  clear hb2
  rw [← HY.out]
  have hs := rmulN N.out E.out (by omega) (by omega)
  have HS := Lib.hid hs; clear hs
  go_wp2_with fail
  (with_reducible refine HS.out.mono ?_); rintro e w3 ⟨v3, rfl, hb3, hn3⟩
  clear HS
  have HB3 := Lib.hid (HB2.out.step hb3)
  have Fp := Lib.hid (Fp.out.below hb3)
  have Fq := Lib.hid (Fq.out.below hb3)
  have N := Lib.hid (N.out.below hb3)
  have D := Lib.hid (D.out.below hb3)
  have M := Lib.hid (M.out.below hb3)
  have E := Lib.hid (E.out.below hb3)
  have BXp := Lib.hid (heap_below BXp.out hb3)
  have BXq := Lib.hid (heap_below BXq.out hb3)
  have BXR := Lib.hid (heap_below BXR.out hb3)
  have X := Lib.hid hn3; clear hn3
  clear hb3
  have hs := rmulN M.out D.out (by omega) (by omega)
  have HS := Lib.hid hs; clear hs
  go_wp2_with fail
  (with_reducible refine HS.out.mono ?_); rintro e w4 ⟨v4, rfl, hb4, hn4⟩
  clear HS
  have HB4 := Lib.hid (HB3.out.step hb4)
  have Fp := Lib.hid (Fp.out.below hb4)
  have Fq := Lib.hid (Fq.out.below hb4)
  have N := Lib.hid (N.out.below hb4)
  have D := Lib.hid (D.out.below hb4)
  have M := Lib.hid (M.out.below hb4)
  have E := Lib.hid (E.out.below hb4)
  have X := Lib.hid (X.out.below hb4)
  have BXp := Lib.hid (heap_below BXp.out hb4)
  have BXq := Lib.hid (heap_below BXq.out hb4)
  have BXR := Lib.hid (heap_below BXR.out hb4)
  have Y := Lib.hid hn4; clear hn4
  clear hb4
  have hs := rmulN D.out E.out (by omega) (by omega)
  have HS := Lib.hid hs; clear hs
  go_wp2_with fail
  (with_reducible refine HS.out.mono ?_); rintro e w5 ⟨v5, rfl, hb5, hn5⟩
  clear HS
  have HB5 := Lib.hid (HB4.out.step hb5)
  have Fp := Lib.hid (Fp.out.below hb5)
  have Fq := Lib.hid (Fq.out.below hb5)
  have N := Lib.hid (N.out.below hb5)
  have D := Lib.hid (D.out.below hb5)
  have M := Lib.hid (M.out.below hb5)
  have E := Lib.hid (E.out.below hb5)
  have X := Lib.hid (X.out.below hb5)
  have Y := Lib.hid (Y.out.below hb5)
  have BXp := Lib.hid (heap_below BXp.out hb5)
  have BXq := Lib.hid (heap_below BXq.out hb5)
  have BXR := Lib.hid (heap_below BXR.out hb5)
  have DE := Lib.hid hn5; clear hn5
  clear hb5
  have hs := rcmpN_ X.out Y.out (by omega) (by omega)
  rw [← HC.out] at hs
  have HS := Lib.hid hs; clear hs
  go_wp2_with fail
  (with_reducible refine HS.out.mono ?_); rintro e wx ⟨rfl, rfl⟩
  clear HS
  have hs := rsubN Y.out X.out (by omega) (by omega) (Nat.le_of_lt HLE.out)
  have HS := Lib.hid hs; clear hs
  go_wp2_with fail
  (with_reducible refine HS.out.mono ?_); rintro e w7 ⟨v7, rfl, hb7, hn7⟩
  clear HS
  have HB7 := Lib.hid (HB5.out.step hb7)
  have Fp := Lib.hid (Fp.out.below hb7)
  have Fq := Lib.hid (Fq.out.below hb7)
  have N := Lib.hid (N.out.below hb7)
  have D := Lib.hid (D.out.below hb7)
  have M := Lib.hid (M.out.below hb7)
  have E := Lib.hid (E.out.below hb7)
  have X := Lib.hid (X.out.below hb7)
  have Y := Lib.hid (Y.out.below hb7)
  have DE := Lib.hid (DE.out.below hb7)
  have BXp := Lib.hid (heap_below BXp.out hb7)
  have BXq := Lib.hid (heap_below BXq.out hb7)
  have BXR := Lib.hid (heap_below BXR.out hb7)
  have S := Lib.hid hn7; clear hn7
  clear hb7
  have hs := rfromK y S.out DE.out (by omega) (by omega) (den_mul_nz p.den_nz q.den_nz)
  have HS := Lib.hid hs; clear hs
  go_wp2_with fail
  (with_reducible refine HS.out.mono ?_); rintro e w8 ⟨v8, rfl, hb8, hn8⟩
  clear HS
  have HB8 := Lib.hid (HB7.out.step hb8)
  have Fp := Lib.hid (Fp.out.below hb8)
  have Fq := Lib.hid (Fq.out.below hb8)
  have N := Lib.hid (N.out.below hb8)
  have D := Lib.hid (D.out.below hb8)
  have M := Lib.hid (M.out.below hb8)
  have E := Lib.hid (E.out.below hb8)
  have X := Lib.hid (X.out.below hb8)
  have Y := Lib.hid (Y.out.below hb8)
  have DE := Lib.hid (DE.out.below hb8)
  have S := Lib.hid (S.out.below hb8)
  have BXp := Lib.hid (heap_below BXp.out hb8)
  have BXq := Lib.hid (heap_below BXq.out hb8)
  have BXR := Lib.hid (heap_below BXR.out hb8)
  have Q := Lib.hid hn8; clear hn8
  clear hb8
  have hq := Q.out; rw [HY.out, HEQ.out] at hq; have Q := Lib.hid hq; clear hq
  obtain ⟨sQ, oQ, nQ, cQ, aQ, mQ, dQ, rfl⟩ := Q.out.shape
  have hal : Below w8.heap.size w8 (w8.alloc (.cells #[.bool sQ, .slice oQ nQ cQ, .slice aQ mQ dQ] 24)) := (Below.refl _ _).alloc (Nat.le_refl _) _
  have HXA := Lib.hid (heap_below BXR.out hal); have HAL := Lib.hid hal; clear hal
  obtain ⟨eR0, eR1, eR2⟩ := row3 HXA.out
  obtain ⟨fR0, fR1, fR2⟩ := froz3 HXA.out
  go_wp2_with fail
  refine ret_rat rfl (w.heap.size + 2) _ _ _ rfl (put3_heap HXA.out) rfl ?_
  exact ⟨_, rfl, put3_below (HB8.out.step HAL.out) (by omega) _ _ _, isR_put (Q.out.below HAL.out) HXA.out⟩
theorem raddq_any (vp : Value) (p : Rat) (vq : Value) (q : Rat) (w : World) (hp : RatIs w vp p) (hq : RatIs w vq q) :
    Calls Tryz.prog 58 #[vp, vq] w (RetR w (p + q)) := by
  by_cases h : ng p = ng q
  · exact radd_same vp p vq q w hp hq h
  · rcases Nat.lt_or_ge (nn p * q.den) (nn q * p.den) with h2 | h2
    · exact radd_diff' vp p vq q w hp hq h h2
    · exact radd_diff vp p vq q w hp hq h h2
set_option maxRecDepth 100000 in
set_option maxHeartbeats 3200000 in
theorem rsubq_any (vp : Value) (p : Rat) (vq : Value) (q : Rat) (w : World) (hp : RatIs w vp p) (hq : RatIs w vq q)  :
    Calls Tryz.prog 61 #[vp, vq] w (RetR w (p - q)) := by
  obtain ⟨sp, op, np, cp, ap, mp, dp, rfl⟩ := hp.shape
  have hlp := hp.rl
  obtain ⟨sq, oq, nq, cq, aq, mq, dq, rfl⟩ := hq.shape
  have hlq := hq.rl
  have hb0 := ((((Below.refl w.heap.size w).alloc (by first | (simp; done) | (simp; omega)) (.cells #[.bool sp, .slice op np cp, .slice ap mp dp] 24)).alloc (by first | (simp; done) | (simp; omega)) (.cells #[.bool sq, .slice oq nq cq, .slice aq mq dq] 24)).alloc (by first | (simp; done) | (simp; omega)) (.cells #[.bool false, .slice none 0 0, .slice none 0 0] 24))
  have hxp := nest3_0 w (.cells #[.bool sp, .slice op np cp, .slice ap mp dp] 24) (.cells #[.bool sq, .slice oq nq cq, .slice aq mq dq] 24) (.cells #[.bool false, .slice none 0 0, .slice none 0 0] 24)
  have hxq := nest3_1 w (.cells #[.bool sp, .slice op np cp, .slice ap mp dp] 24) (.cells #[.bool sq, .slice oq nq cq, .slice aq mq dq] 24) (.cells #[.bool false, .slice none 0 0, .slice none 0 0] 24)
  have hxR := nest3_2 w (.cells #[.bool sp, .slice op np cp, .slice ap mp dp] 24) (.cells #[.bool sq, .slice oq nq cq, .slice aq mq dq] 24) (.cells #[.bool false, .slice none 0 0, .slice none 0 0] 24)
  have hpp := hp.below hb0
  have hpq := hq.below hb0
  obtain ⟨w0, hw0⟩ : ∃ w0, w0 = (((w.alloc (.cells #[.bool sp, .slice op np cp, .slice ap mp dp] 24)).alloc (.cells #[.bool sq, .slice oq nq cq, .slice aq mq dq] 24)).alloc (.cells #[.bool false, .slice none 0 0, .slice none 0 0] 24)) := ⟨_, rfl⟩
  rw [← hw0] at hb0 hxp hxq hxR hpp hpq
  have HB0 := Lib.hid hb0; have HW0 := Lib.hid hw0
  have BXp := Lib.hid hxp
  have BXq := Lib.hid hxq
  have BXR := Lib.hid hxR
  have Fp := Lib.hid hpp
  have Fq := Lib.hid hpq
  clear hb0 hw0 hxp hxq hxR hpp hp hpq hq
  have hr : rl (-q) ≤ 100000 := by rw [rl_neg]; exact hlq
  have HD := Lib.hid ((Below.refl w0.heap.size w0).drew)
  have hng := rneg_any _ q _ (Fq.out.below HD.out)
  have HNG := Lib.hid hng; clear hng
  have had := fun vs w1 (h1 : Below w0.heap.size w0 w1) (hs : IsR w1 vs (-q)) => raddq_any _ p vs (-q) w1 (Fp.out.below h1) (hs.is hr)
  rw [← Rat.sub_eq_add_neg] at had
  have HAD := Lib.hid had; clear had
  have ZP := Lib.hid (fun w1 (h1 : Below w0.heap.size w0 w1) => row3 (heap_below BXp.out h1)); have ZQ := Lib.hid (fun w1 (h1 : Below w0.heap.size w0 w1) => row3 (heap_below BXq.out h1)); have ZR := Lib.hid (fun w1 (h1 : Below w0.heap.size w0 w1) => row3 (heap_below BXR.out h1)); have ZF := Lib.hid (fun w1 (h1 : Below w0.heap.size w0 w1) => froz3 (heap_below BXR.out h1))
  go_enter Tryz.func61, Tryz.ntmps61
  go_wp2_with fail
  rw [← HW0.out]
  obtain ⟨zp0, zp1, zp2⟩ := ZP.out _ HD.out; obtain ⟨zq0, zq1, zq2⟩ := ZQ.out _ HD.out
  go_region_held3 (fun wx => wx.cell? ⟨w.heap.size, 0, none⟩ = some (.bool sp) ∧ wx.cell? ⟨w.heap.size, 1, none⟩ = some (.slice op np cp) ∧ wx.cell? ⟨w.heap.size, 2, none⟩ = some (.slice ap mp dp) ∧ wx.cell? ⟨w.heap.size + 1, 0, none⟩ = some (.bool sq) ∧ wx.cell? ⟨w.heap.size + 1, 1, none⟩ = some (.slice oq nq cq) ∧ wx.cell? ⟨w.heap.size + 1, 2, none⟩ = some (.slice aq mq dq)) (first | exact ⟨zp0, zp1, zp2, zq0, zq1, zq2⟩ | exact put6 (by omega) (by omega) ⟨zp0, zp1, zp2, zq0, zq1, zq2⟩) (first
    | (go_at_call 90; (with_reducible refine HNG.out.mono ?_); rintro e w1 ⟨v1, rfl, hb1, hn1⟩; (have HB1 := Lib.hid (HD.out.step hb1)); (have HN1 := Lib.hid hn1); clear hb1 hn1; (obtain ⟨zp0, zp1, zp2⟩ := ZP.out _ HB1.out); (obtain ⟨zq0, zq1, zq2⟩ := ZQ.out _ HB1.out))
    | (go_at_call 58; (with_reducible refine (HAD.out _ _ HB1.out HN1.out).mono ?_); rintro e w2 ⟨v2, rfl, hb2, hn2⟩; (have HB2 := Lib.hid (HB1.out.step hb2)); (have HN2 := Lib.hid hn2); clear hb2 hn2; (obtain ⟨t1, t2, t3, t4, t5, t6, t7, rfl⟩ := HN2.out.shape); (obtain ⟨zp0, zp1, zp2⟩ := ZP.out _ HB2.out); (obtain ⟨zq0, zq1, zq2⟩ := ZQ.out _ HB2.out); (obtain ⟨zr0, zr1, zr2⟩ := ZR.out _ HB2.out); (obtain ⟨zf0, zf1, zf2⟩ := ZF.out _ HB2.out)))
  all_goals
    go_wp2_with fail
    have BXR2 := heap_below BXR.out HB2.out
    refine ret_rat rfl (w.heap.size + 2) _ _ _ rfl (put3_heap BXR2) rfl ?_
    exact ⟨_, rfl, put3_below (HB0.out.step HB2.out) (by omega) _ _ _, isR_put HN2.out BXR2⟩
set_option maxRecDepth 100000 in
set_option maxHeartbeats 3200000 in
theorem rsign_any (vp : Value) (p : Rat) (w : World) (hp : RatIs w vp p)  :
    Calls Tryz.prog 81 #[vp] w (RetV w (.int .i64 (sg p))) := by
  obtain ⟨sp, op, np, cp, ap, mp, dp, rfl⟩ := hp.shape
  have hlp := hp.rl
  rw [sg_eq]
  have hb0 := ((Below.refl w.heap.size w).alloc (by first | (simp; done) | (simp; omega)) (.cells #[.bool sp, .slice op np cp, .slice ap mp dp] 24))
  have hxp := nest1_0 w (.cells #[.bool sp, .slice op np cp, .slice ap mp dp] 24)
  have hpp := hp.below hb0
  obtain ⟨w0, hw0⟩ : ∃ w0, w0 = (w.alloc (.cells #[.bool sp, .slice op np cp, .slice ap mp dp] 24)) := ⟨_, rfl⟩
  rw [← hw0] at hb0 hxp hpp
  have HB0 := Lib.hid hb0; have HW0 := Lib.hid hw0
  have BXp := Lib.hid hxp
  have Fp := Lib.hid hpp
  clear hb0 hw0 hxp hpp hp
  by_cases h0 : nn p = 0
  · rw [if_pos h0]
    have H0 := Lib.hid h0; clear h0
    go_enter Tryz.func81, Tryz.ntmps81
    have hs := rparts_any _ p w0 Fp.out
    have HS := Lib.hid hs; clear hs
    go_wp2_with fail
    rw [← HW0.out]
    (with_reducible refine HS.out.mono ?_); rintro e w1 ⟨v1, u1, rfl, hb1, hn1, hm1⟩
    clear HS
    rw [H0.out, wd_zero] at hn1
    obtain ⟨no, nc, rfl, _, _, _⟩ := hn1.shape
    have HB1 := Lib.hid (HB0.out.step hb1)
    have Fp := Lib.hid (Fp.out.below hb1)
    have BXp := Lib.hid (heap_below BXp.out hb1)
    have N := Lib.hid hn1
    have D := Lib.hid hm1
    clear hn1 hm1
    clear hb1
    go_wp2_with fail
    go_ret
    exact ⟨rfl, HB1.out⟩
  · rw [if_neg h0]
    have hz : (((wd (nn p)).length : Int) == 0) = false := by rw [beq_eq_false_iff_ne]; intro h; exact wd_ne h0 (List.eq_nil_of_length_eq_zero (by omega))
    obtain ⟨L, hL⟩ : ∃ L, L = (wd (nn p)).length := ⟨_, rfl⟩
    rw [← hL] at hz
    have HL := Lib.hid hL; clear hL h0
    obtain ⟨x, hx⟩ : ∃ x, x = ng p := ⟨_, rfl⟩
    rw [← hx]
    have HX := Lib.hid hx; clear hx
    cases x
    · go_enter Tryz.func81, Tryz.ntmps81
      have hs := rparts_any _ p w0 Fp.out
      have HS := Lib.hid hs; clear hs
      go_wp2_with fail
      rw [← HW0.out]
      (with_reducible refine HS.out.mono ?_); rintro e w1 ⟨v1, u1, rfl, hb1, hn1, hm1⟩
      clear HS
      rw [← HX.out]
      obtain ⟨no, nc, rfl, _, _, _⟩ := hn1.shape
      rw [← HL.out]
      have HB1 := Lib.hid (HB0.out.step hb1)
      have Fp := Lib.hid (Fp.out.below hb1)
      have BXp := Lib.hid (heap_below BXp.out hb1)
      have N := Lib.hid hn1
      have D := Lib.hid hm1
      clear hn1 hm1
      clear hb1
      go_wp2_with fail
      go_ret
      exact ⟨rfl, HB1.out⟩
    · go_enter Tryz.func81, Tryz.ntmps81
      have hs := rparts_any _ p w0 Fp.out
      have HS := Lib.hid hs; clear hs
      go_wp2_with fail
      rw [← HW0.out]
      (with_reducible refine HS.out.mono ?_); rintro e w1 ⟨v1, u1, rfl, hb1, hn1, hm1⟩
      clear HS
      rw [← HX.out]
      obtain ⟨no, nc, rfl, _, _, _⟩ := hn1.shape
      rw [← HL.out]
      have HB1 := Lib.hid (HB0.out.step hb1)
      have Fp := Lib.hid (Fp.out.below hb1)
      have BXp := Lib.hid (heap_below BXp.out hb1)
      have N := Lib.hid hn1
      have D := Lib.hid hm1
      clear hn1 hm1
      clear hb1
      go_wp2_with fail
      go_ret
      exact ⟨rfl, HB1.out⟩
set_option maxRecDepth 100000 in
set_option maxHeartbeats 3200000 in
theorem rcmpq_any (vp : Value) (p : Rat) (vq : Value) (q : Rat) (w : World) (hp : RatIs w vp p) (hq : RatIs w vq q) (hlp2 : rl p ≤ 40000) (hlq2 : rl q ≤ 40000)  :
    Calls Tryz.prog 55 #[vp, vq] w (RetV w (.int .i64 (cq p q))) := by
  obtain ⟨sp, op, np, cp, ap, mp, dp, rfl⟩ := hp.shape
  have hlp := hp.rl
  obtain ⟨sq, oq, nq, cq, aq, mq, dq, rfl⟩ := hq.shape
  have hlq := hq.rl
  have hb0 := (((Below.refl w.heap.size w).alloc (by first | (simp; done) | (simp; omega)) (.cells #[.bool sp, .slice op np cp, .slice ap mp dp] 24)).alloc (by first | (simp; done) | (simp; omega)) (.cells #[.bool sq, .slice oq nq cq, .slice aq mq dq] 24))
  have hxp := nest2_0 w (.cells #[.bool sp, .slice op np cp, .slice ap mp dp] 24) (.cells #[.bool sq, .slice oq nq cq, .slice aq mq dq] 24)
  have hxq := nest2_1 w (.cells #[.bool sp, .slice op np cp, .slice ap mp dp] 24) (.cells #[.bool sq, .slice oq nq cq, .slice aq mq dq] 24)
  have hpp := hp.below hb0
  have hpq := hq.below hb0
  obtain ⟨w0, hw0⟩ : ∃ w0, w0 = ((w.alloc (.cells #[.bool sp, .slice op np cp, .slice ap mp dp] 24)).alloc (.cells #[.bool sq, .slice oq nq cq, .slice aq mq dq] 24)) := ⟨_, rfl⟩
  rw [← hw0] at hb0 hxp hxq hpp hpq
  have HB0 := Lib.hid hb0; have HW0 := Lib.hid hw0
  have BXp := Lib.hid hxp
  have BXq := Lib.hid hxq
  have Fp := Lib.hid hpp
  have Fq := Lib.hid hpq
  clear hb0 hw0 hxp hxq hpp hp hpq hq
  have hr := rl_sub p q
  go_enter Tryz.func55, Tryz.ntmps55
  have hs := rsubq_any _ p _ q w0 Fp.out Fq.out
  have HS := Lib.hid hs; clear hs
  go_wp2_with fail
  rw [← HW0.out]
  (with_reducible refine HS.out.mono ?_); rintro e w1 ⟨v1, rfl, hb1, hn1⟩
  clear HS
  have HB1 := Lib.hid (HB0.out.step hb1)
  have Fp := Lib.hid (Fp.out.below hb1)
  have Fq := Lib.hid (Fq.out.below hb1)
  have BXp := Lib.hid (heap_below BXp.out hb1)
  have BXq := Lib.hid (heap_below BXq.out hb1)
  have S := Lib.hid hn1; clear hn1
  clear hb1
  have SI := Lib.hid (S.out.is (by omega))
  obtain ⟨sS, oS, nS, cS, aS, mS, dS, rfl⟩ := S.out.shape
  have hs := rsign_any _ (p - q) w1 SI.out
  rw [sg_sub] at hs
  have HS := Lib.hid hs; clear hs
  go_wp2_with fail
  (with_reducible refine HS.out.mono ?_); rintro e w2 ⟨rfl, hb2⟩
  clear HS
  have HB2 := Lib.hid (HB1.out.step hb2)
  have Fp := Lib.hid (Fp.out.below hb2)
  have Fq := Lib.hid (Fq.out.below hb2)
  have S := Lib.hid (S.out.below hb2)
  have SI := Lib.hid (SI.out.below hb2)
  have BXp := Lib.hid (heap_below BXp.out hb2)
  have BXq := Lib.hid (heap_below BXq.out hb2)
  clear hb2
  go_wp2_with fail
  go_ret
  exact ⟨rfl, HB2.out⟩
end Go.Proofs.YtaefimegiobkmaaGreatDoor
