/-
  The texts Rat1, Rat2, Rat4, Rat5, FmC, FmMath2, FmMath3, TrMath, Tr0, OpenF, SpanMath, Draw, Rat6, Rat7, DrawR, Span0, Step, one behind the other (what the laws lean on).
  Conditions: each theorem's own.
-/
import Derived.Deep.Slices
import Derived.Deep.Strs
import Derived.Deep.MidRow
import Derived.Test.YthhgfhdmfhnklaaGreatDoorMW2
/-
  rational.one, plain, Valid: what they hand back.
  Conditions: each theorem's own.
-/
namespace Go.Proofs.YthhgfhdmfhnklaaGreatDoor
open Go.RowKit Go.ChangeShapes Go.WideShapes

/-- a boxed value's cells stay behind a call -/
theorem box_kept {w w1 : World} {cs : Array Value} {T : TypeId} (hb : Below (w.alloc (.cells cs T)).heap.size (w.alloc (.cells cs T)) w1) (j : Nat) :
    w1.cell? ⟨w.heap.size, j, none⟩ = cs[j]? := by
  rw [hb.cell (p := ⟨w.heap.size, j, none⟩) (by simp), cell_of_row _ _ _ _ _ _ (heap_alloc_new _ _)]

set_option maxRecDepth 100000 in
set_option maxHeartbeats 400000 in
theorem one_any (w : World) : Calls Tryz.prog 76 #[] w (RetN w 1) := by
  go_enter Tryz.func76, Tryz.ntmps76
  go_wp2_with fail
  go_ret
  refine ⟨_, rfl, (Below.refl _ _).alloc (Nat.le_refl _) _, ?_⟩
  rw [wd_one (by decide) (by decide)]
  exact num_one w 156 1 (by decide)
set_option maxRecDepth 100000 in
set_option maxHeartbeats 1600000 in
theorem plain_any (va : Value) (a : List Nat) (w : World) (ha : Num w va a) :
    Calls Tryz.prog 144 #[va] w (RetS w (.bool (decide (a ≠ [] ∧ Clean a)))) := by
  obtain ⟨ao, ca, rfl, hca, hca2, _⟩ := ha.shape
  by_cases h0 : a.length = 0
  · obtain rfl := List.eq_nil_of_length_eq_zero h0
    clear ha
    go_enter Tryz.func144, Tryz.ntmps144
    go_wp2_with fail
    go_ret
    exact ⟨rfl, rfl⟩
  · obtain ⟨b, off, rfl, _, hcell⟩ := ha.at (by omega)
    obtain ⟨m, hm⟩ : ∃ m, m = a.length := ⟨_, rfl⟩
    rw [← hm] at h0 hca hcell ⊢
    have hx := hcell (m - 1) (by omega)
    obtain ⟨x, hxe⟩ : ∃ x, x = gd a (m - 1) := ⟨_, rfl⟩
    rw [← hxe] at hx
    have hcl : (decide (a ≠ [] ∧ Clean a)) = decide (x ≠ 0) := by
      rw [decide_eq_decide, hxe, hm]
      unfold Clean
      have hne : a ≠ [] := fun e => by rw [e] at hm; simp at hm; omega
      constructor
      · rintro ⟨h, h | h⟩
        · exact absurd h hne
        · exact h
      · intro h; exact ⟨hne, .inr h⟩
    rw [hcl]
    have hm0 : decide ((0 : Int) < (m : Int)) = true := decide_eq_true (by omega)
    have hxl : x < 4294967296 := by rw [hxe]; exact ha.lt _
    by_cases hx0 : x = 0
    · subst hx0
      clear hcell hxe hm ha hcl
      go_enter Tryz.func144, Tryz.ntmps144
      go_wp2_with fail
      go_ret
      exact ⟨rfl, rfl⟩
    · have hne : (bne (x : Int) 0) = true := by simp; omega
      have hd : decide (x ≠ 0) = true := decide_eq_true hx0
      rw [hd]
      clear hcell hxe hm ha hcl hd
      go_enter Tryz.func144, Tryz.ntmps144
      go_wp2_with fail
      go_ret
      exact ⟨rfl, rfl⟩

/-- what Valid comes to where the fields are not both empty -/
theorem vld_parts {s : Bool} {a b : List Nat} (h : ¬ (a = [] ∧ b = [])) : Vld s a b ↔ (a ≠ [] ∧ Clean a) ∧ (b ≠ [] ∧ Clean b) ∧ Nat.gcd (val a) (val b) = 1 := by
  unfold Vld
  constructor
  · rintro (⟨h1, h2, _⟩ | ⟨h1, h2, h3, h4, h5⟩)
    · exact absurd ⟨h1, h2⟩ h
    · exact ⟨⟨h1, h3⟩, ⟨h2, h4⟩, h5⟩
  · rintro ⟨⟨h1, h3⟩, ⟨h2, h4⟩, h5⟩
    exact .inr ⟨h1, h2, h3, h4, h5⟩
set_option maxRecDepth 100000 in
set_option maxHeartbeats 3200000 in
theorem valid_any (v : Value) (s : Bool) (a b : List Nat) (w : World) (h : RatV w v s a b) (hla : a.length ≤ 400000) (hlb : b.length ≤ 400000) :
    Calls Tryz.prog 111 #[v] w (RetV w (.bool (decide (Vld s a b)))) := by
  obtain ⟨va, vb, rfl, ha, hb⟩ := h
  obtain ⟨ao, ca, rfl, hca, hca2, _⟩ := ha.shape
  obtain ⟨bo, cb, rfl, hcb, hcb2, _⟩ := hb.shape
  by_cases h0 : a = [] ∧ b = []
  · obtain ⟨rfl, rfl⟩ := h0
    have e : decide (Vld s [] []) = !s := by cases s <;> rfl
    rw [e]
    clear ha hb e
    go_enter Tryz.func111, Tryz.ntmps111
    go_wp2_with fail
    go_ret
    exact ⟨rfl, (Below.refl _ _).alloc (Nat.le_refl _) _⟩
  · have e := vld_parts (s := s) h0
    have hd : decide (Vld s a b) = decide ((a ≠ [] ∧ Clean a) ∧ (b ≠ [] ∧ Clean b) ∧ Nat.gcd (val a) (val b) = 1) := decide_eq_decide.2 e
    rw [hd]
    have hab : ((a.length : Int) == 0) = false ∨ ((a.length : Int) == 0) = true ∧ ((b.length : Int) == 0) = false := by
      by_cases h1 : a.length = 0
      · right
        refine ⟨by rw [h1]; rfl, ?_⟩
        rw [beq_eq_false_iff_ne]
        intro h2
        exact h0 ⟨List.eq_nil_of_length_eq_zero h1, List.eq_nil_of_length_eq_zero (by omega)⟩
      · left; rw [beq_eq_false_iff_ne]; omega
    have hbx : Below w.heap.size w (w.alloc (.cells #[.bool s, .slice ao a.length ca, .slice bo b.length cb] 54)) := (Below.refl _ _).alloc (Nat.le_refl _) _
    have hp1 := plain_any _ a _ (ha.below hbx)
    have hp2 := plain_any _ b _ (hb.below hbx)
    have HBX := Lib.hid hbx; have HA := Lib.hid (ha.below hbx); have HB := Lib.hid (hb.below hbx)
    clear e hd h0 ha hb hbx
    by_cases c1 : a ≠ [] ∧ Clean a
    · by_cases c2 : b ≠ [] ∧ Clean b
      · have hg := gcd_any _ _ _ _ _ HA.out HB.out (by omega) (by omega)
        have hgl : (wd (Nat.gcd (val a) (val b))).length ≤ 400000 := by
          have h1 := wd_length_le HA.out.lt
          have h2 : val a ≠ 0 := val_ne HA.out.lt c1.2 c1.1
          have h3 := wd_length_mono (Nat.le_of_dvd (Nat.pos_of_ne_zero h2) (Nat.gcd_dvd_left (val a) (val b)))
          omega
        obtain ⟨g, hge⟩ : ∃ g, g = Nat.gcd (val a) (val b) := ⟨_, rfl⟩
        rw [← hge] at hg hgl
        have hres : decide ((a ≠ [] ∧ Clean a) ∧ (b ≠ [] ∧ Clean b) ∧ Nat.gcd (val a) (val b) = 1) = decide (g = 1) := by
          rw [decide_eq_decide, hge]; exact ⟨fun h => h.2.2, fun h => ⟨c1, c2, h⟩⟩
        rw [hres]
        rw [decide_eq_true c1] at hp1
        rw [decide_eq_true c2] at hp2
        have HP1 := Lib.hid hp1; have HP2 := Lib.hid hp2; have HG := Lib.hid hg
        clear hp1 hp2 hg hge hres c1 c2
        rcases hab with hab | ⟨hab, hab2⟩
        · go_enter Tryz.func111, Tryz.ntmps111
          go_wp2_with fail
          (with_reducible refine HP1.out.mono ?_); rintro e wx ⟨rfl, rfl⟩
          go_wp2_with fail
          (with_reducible refine HP2.out.mono ?_); rintro e wx ⟨rfl, rfl⟩
          go_wp2_with fail
          (with_reducible refine HG.out.mono ?_); rintro e w1 ⟨v1, l1, rfl, hb1, hn1, rfl⟩
          have HN1 := Lib.hid hn1; have HB1 := Lib.hid (HBX.out.step hb1); clear hn1 hb1
          go_wp2_with fail
          (with_reducible refine (one_any _).mono ?_); rintro e w2 ⟨v2, rfl, hb2, hn2⟩
          have hcm := cmp_any _ _ _ _ w2 (HN1.out.below hb2) hn2 (by omega) (by rw [wd_one (by decide) (by decide)]; simp)
          rw [val_wd, val_wd] at hcm
          have HCM := Lib.hid hcm; have HB2 := Lib.hid (HB1.out.step hb2); clear hcm hn2 hb2
          by_cases hg1 : g = 1
          · have hc0 : cmpN g 1 = 0 := cmpN_eq hg1
            rw [hc0] at HCM
            have hd : decide (g = 1) = true := decide_eq_true hg1
            rw [hd]
            have HG1 := Lib.hid hg1
            clear hc0 hg1 hd
            go_wp2_with fail
            (with_reducible refine HCM.out.mono ?_); rintro e w3 ⟨rfl, hb3⟩
            go_wp2_with fail
            go_ret
            exact ⟨by first | rfl | (simp; done) | (simp; exact HG1.out), HB2.out.step hb3⟩
          · have hd : decide (g = 1) = false := decide_eq_false hg1
            rw [hd]
            obtain ⟨c, hc⟩ : ∃ c, c = cmpN g 1 := ⟨_, rfl⟩
            rw [← hc] at HCM
            have hc0 : (c == 0) = false := by
              rw [beq_eq_false_iff_ne, hc]; unfold cmpN; split
              · decide
              · split
                · decide
                · omega
            have HG1 := Lib.hid hg1
            clear hc hg1 hd
            go_wp2_with fail
            (with_reducible refine HCM.out.mono ?_); rintro e w3 ⟨rfl, hb3⟩
            go_wp2_with fail
            go_ret
            exact ⟨by first | rfl | (simp; done) | (simp; exact HG1.out), HB2.out.step hb3⟩
        · go_enter Tryz.func111, Tryz.ntmps111
          go_wp2_with fail
          (with_reducible refine HP1.out.mono ?_); rintro e wx ⟨rfl, rfl⟩
          go_wp2_with fail
          (with_reducible refine HP2.out.mono ?_); rintro e wx ⟨rfl, rfl⟩
          go_wp2_with fail
          (with_reducible refine HG.out.mono ?_); rintro e w1 ⟨v1, l1, rfl, hb1, hn1, rfl⟩
          have HN1 := Lib.hid hn1; have HB1 := Lib.hid (HBX.out.step hb1); clear hn1 hb1
          go_wp2_with fail
          (with_reducible refine (one_any _).mono ?_); rintro e w2 ⟨v2, rfl, hb2, hn2⟩
          have hcm := cmp_any _ _ _ _ w2 (HN1.out.below hb2) hn2 (by omega) (by rw [wd_one (by decide) (by decide)]; simp)
          rw [val_wd, val_wd] at hcm
          have HCM := Lib.hid hcm; have HB2 := Lib.hid (HB1.out.step hb2); clear hcm hn2 hb2
          by_cases hg1 : g = 1
          · have hc0 : cmpN g 1 = 0 := cmpN_eq hg1
            rw [hc0] at HCM
            have hd : decide (g = 1) = true := decide_eq_true hg1
            rw [hd]
            have HG1 := Lib.hid hg1
            clear hc0 hg1 hd
            go_wp2_with fail
            (with_reducible refine HCM.out.mono ?_); rintro e w3 ⟨rfl, hb3⟩
            go_wp2_with fail
            go_ret
            exact ⟨by first | rfl | (simp; done) | (simp; exact HG1.out), HB2.out.step hb3⟩
          · have hd : decide (g = 1) = false := decide_eq_false hg1
            rw [hd]
            obtain ⟨c, hc⟩ : ∃ c, c = cmpN g 1 := ⟨_, rfl⟩
            rw [← hc] at HCM
            have hc0 : (c == 0) = false := by
              rw [beq_eq_false_iff_ne, hc]; unfold cmpN; split
              · decide
              · split
                · decide
                · omega
            have HG1 := Lib.hid hg1
            clear hc hg1 hd
            go_wp2_with fail
            (with_reducible refine HCM.out.mono ?_); rintro e w3 ⟨rfl, hb3⟩
            go_wp2_with fail
            go_ret
            exact ⟨by first | rfl | (simp; done) | (simp; exact HG1.out), HB2.out.step hb3⟩
      · have hres : decide ((a ≠ [] ∧ Clean a) ∧ (b ≠ [] ∧ Clean b) ∧ Nat.gcd (val a) (val b) = 1) = false := decide_eq_false fun h => c2 h.2.1
        rw [hres]
        rw [decide_eq_true c1] at hp1
        rw [decide_eq_false c2] at hp2
        have HP1 := Lib.hid hp1; have HP2 := Lib.hid hp2
        clear hp1 hp2 hres
        rcases hab with hab | ⟨hab, hab2⟩
        · go_enter Tryz.func111, Tryz.ntmps111
          go_wp2_with fail
          (with_reducible refine HP1.out.mono ?_); rintro e wx ⟨rfl, rfl⟩
          go_wp2_with fail
          (with_reducible refine HP2.out.mono ?_); rintro e wx ⟨rfl, rfl⟩
          go_wp2_with fail
          go_ret
          exact ⟨rfl, HBX.out⟩
        · go_enter Tryz.func111, Tryz.ntmps111
          go_wp2_with fail
          (with_reducible refine HP1.out.mono ?_); rintro e wx ⟨rfl, rfl⟩
          go_wp2_with fail
          (with_reducible refine HP2.out.mono ?_); rintro e wx ⟨rfl, rfl⟩
          go_wp2_with fail
          go_ret
          exact ⟨rfl, HBX.out⟩
    · have hres : decide ((a ≠ [] ∧ Clean a) ∧ (b ≠ [] ∧ Clean b) ∧ Nat.gcd (val a) (val b) = 1) = false := decide_eq_false fun h => c1 h.1
      rw [hres]
      rw [decide_eq_false c1] at hp1
      have HP1 := Lib.hid hp1; have HP2 := Lib.hid hp2
      clear hp1 hp2 hres
      rcases hab with hab | ⟨hab, hab2⟩
      · go_enter Tryz.func111, Tryz.ntmps111
        go_wp2_with fail
        (with_reducible refine HP1.out.mono ?_); rintro e wx ⟨rfl, rfl⟩
        go_wp2_with fail
        go_ret
        exact ⟨rfl, HBX.out⟩
      · go_enter Tryz.func111, Tryz.ntmps111
        go_wp2_with fail
        (with_reducible refine HP1.out.mono ?_); rintro e wx ⟨rfl, rfl⟩
        go_wp2_with fail
        go_ret
        exact ⟨rfl, HBX.out⟩
end Go.Proofs.YthhgfhdmfhnklaaGreatDoor
/-
  rational.parts, form: what they hand back.
  Conditions: each theorem's own.
-/
namespace Go.Proofs.YthhgfhdmfhnklaaGreatDoor
open Go.RowKit Go.ChangeShapes Go.WideShapes

/-- hands back the sign, numerator and denominator of q -/
def RetParts (w : World) (q : Rat) (e : Ending) (w' : World) : Prop := ∃ vn vd, e = .returned (.tuple #[.bool (ng q), vn, vd]) ∧ Below w.heap.size w w' ∧ Num w' vn (wd (nn q)) ∧ Num w' vd (wd q.den)

set_option maxRecDepth 100000 in
set_option maxHeartbeats 1600000 in
theorem parts_any (v : Value) (q : Rat) (w : World) (h : RatIs w v q) :
    Calls Tryz.prog 73 #[v] w (RetParts w q) := by
  obtain ⟨s, a, b, hv, rfl, hla, hlb⟩ := h
  obtain ⟨va, vb, rfl, ha, hb⟩ := hv
  obtain ⟨ao, ca, rfl, hca, hca2, _⟩ := ha.shape
  obtain ⟨bo, cb, rfl, hcb, hcb2, _⟩ := hb.shape
  have hbx : Below w.heap.size w (w.alloc (.cells #[.bool s, .slice ao a.length ca, .slice bo b.length cb] 54)) := (Below.refl _ _).alloc (Nat.le_refl _) _
  have hvl := valid_any _ s a b _ (⟨_, _, rfl, ha.below hbx, hb.below hbx⟩ : RatV (w.alloc (.cells #[.bool s, .slice ao a.length ca, .slice bo b.length cb] 54)) _ s a b) (by omega) (by omega)
  by_cases h0 : rq s a b = 0
  · rw [h0]
    have hbad : decide (Vld s a b) = false ∨ decide (Vld s a b) = true ∧ a.length = 0 := by
      by_cases hv : Vld s a b
      · right
        obtain ⟨_, e, _⟩ := vld_fields ha.lt hb.lt hv
        rw [h0, nn_zero, wd_zero] at e
        exact ⟨decide_eq_true hv, by rw [e]; rfl⟩
      · left; exact decide_eq_false hv
    have HBX := Lib.hid hbx; clear hbx h0
    rcases hbad with hd | ⟨hd, hl⟩
    · rw [hd] at hvl
      have HV := Lib.hid hvl; clear hvl hd ha hb
      go_enter Tryz.func73, Tryz.ntmps73
      go_wp2_with fail
      (with_reducible refine HV.out.mono ?_); rintro e w1 ⟨rfl, hb1⟩
      go_wp2_with fail
      (with_reducible refine (one_any _).mono ?_); rintro e w2 ⟨v2, rfl, hb2, hn2⟩
      go_wp2_with fail
      go_ret3
      exact ⟨_, _, rfl, (HBX.out.step hb1).step hb2, by rw [nn_zero, wd_zero]; exact Num.nil _, hn2⟩
    · rw [hd] at hvl
      have c1 := fun w1 (h : Below _ _ w1) => box_kept (w := w) (cs := #[.bool s, .slice ao a.length ca, .slice bo b.length cb]) (T := 54) (w1 := w1) h 1
      have C1 := Lib.hid c1
      have HV := Lib.hid hvl; have HL := Lib.hid hl; clear hvl hd c1 ha hb hl
      go_enter Tryz.func73, Tryz.ntmps73
      go_wp2_with fail
      (with_reducible refine HV.out.mono ?_); rintro e w1 ⟨rfl, hb1⟩
      have c1 : w1.cell? ⟨w.heap.size, 1, none⟩ = some (.slice ao a.length ca) := C1.out w1 hb1
      rw [HL.out] at c1
      go_wp2_with fail
      (with_reducible refine (one_any _).mono ?_); rintro e w2 ⟨v2, rfl, hb2, hn2⟩
      go_wp2_with fail
      go_ret3
      exact ⟨_, _, rfl, (HBX.out.step hb1).step hb2, by rw [nn_zero, wd_zero]; exact Num.nil _, hn2⟩
  · have hv : Vld s a b := Decidable.byContradiction fun h => h0 (rq_invalid h)
    obtain ⟨e1, e2, e3⟩ := vld_fields ha.lt hb.lt hv
    rw [dn_pos h0] at e3
    have hl : ((a.length : Int) == 0) = false := by
      rw [beq_eq_false_iff_ne]
      intro h
      have : a = [] := List.eq_nil_of_length_eq_zero (by omega)
      rw [e2] at this
      exact wd_ne (fun e => h0 (nn_eq_zero.1 e)) this
    rw [decide_eq_true hv] at hvl
    have HE := Lib.hid (And.intro e1 (And.intro e2 e3)); have HBX := Lib.hid hbx; have HA := Lib.hid (ha.below hbx); have HB := Lib.hid (hb.below hbx); have HV := Lib.hid hvl
    have bk := fun w1 (h : Below _ _ w1) j => box_kept (w := w) (cs := #[.bool s, .slice ao a.length ca, .slice bo b.length cb]) (T := 54) (w1 := w1) h j
    have BK := Lib.hid bk
    clear e1 e2 e3 hbx ha hb hv hvl bk h0
    go_enter Tryz.func73, Tryz.ntmps73
    go_wp2_with fail
    (with_reducible refine HV.out.mono ?_); rintro e w1 ⟨rfl, hb1⟩
    have c0 : w1.cell? ⟨w.heap.size, 0, none⟩ = some (.bool s) := BK.out w1 hb1 0
    have c1 : w1.cell? ⟨w.heap.size, 1, none⟩ = some (.slice ao a.length ca) := BK.out w1 hb1 1
    have c2 : w1.cell? ⟨w.heap.size, 2, none⟩ = some (.slice bo b.length cb) := BK.out w1 hb1 2
    go_wp2_with fail
    go_quiet (fail)
    go_wp2_with fail
    go_ret3
    obtain ⟨e1, e2, e3⟩ := HE.out
    refine ⟨.slice ao a.length ca, .slice bo b.length cb, by rw [← e1]; rfl, below_drewN (HBX.out.step hb1) _, ?_, ?_⟩
    · rw [← e2]; exact (HA.out.below hb1).below (below_drewN (Below.refl _ _) _)
    · rw [← e3]; exact (HB.out.below hb1).below (below_drewN (Below.refl _ _) _)

theorem frozen_kept {w w1 : World} {cs : Array Value} {T : TypeId} (hb : Below (w.alloc (.cells cs T)).heap.size (w.alloc (.cells cs T)) w1) (j : Nat) :
    w1.frozen? ⟨w.heap.size, j, none⟩ = false := by
  have h : w1.heap[w.heap.size]? = some (.cells cs T) := by
    rw [hb.block _ (by simp)]; exact heap_alloc_new w _
  simp [World.frozen?, h]

theorem heap_kept {w w1 : World} {o : Obj} (hb : Below (w.alloc o).heap.size (w.alloc o) w1) : w1.heap[w.heap.size]? = some o := by
  rw [hb.block _ (by simp)]; exact heap_alloc_new w _
/-- a fraction's three cells are written -/
def put3 (w : World) (g : Nat) (x y z : Value) : World := ((w.setCell ⟨g, 0, none⟩ x).setCell ⟨g, 1, none⟩ y).setCell ⟨g, 2, none⟩ z
theorem put3_heap {w : World} {g : Nat} {a b c x y z : Value} {T : TypeId} (h : w.heap[g]? = some (.cells #[a, b, c] T)) : (put3 w g x y z).heap[g]? = some (.cells #[x, y, z] T) := by
  unfold put3 World.setCell
  simp [Array.getElem?_modify, h]
theorem put3_below {w0 w : World} {B g : Nat} (h : Below B w0 w) (hg : B ≤ g) (x y z : Value) : Below B w0 (put3 w g x y z) :=
  ((h.setCell hg x).setCell hg y).setCell hg z
theorem put3_num {w : World} {g : Nat} {v : Value} {l : List Nat} {x y z : Value} {a b c : Value} {T : TypeId} (hn : Num w v l) (h : w.heap[g]? = some (.cells #[a, b, c] T)) (ha : ∀ n : Int, a ≠ .int .u32 n) (hb : ∀ n : Int, b ≠ .int .u32 n) (hc : ∀ n : Int, c ≠ .int .u32 n) : Num (put3 w g x y z) v l := by
  obtain ⟨ao, k, rfl, h1, h2, h3, h4, h5⟩ := hn
  refine ⟨ao, k, rfl, h1, h2, h3, ?_, h5⟩
  intro b' off s hs
  obtain ⟨k1, k2⟩ := h4 b' off s hs
  have hsz : (put3 w g x y z).heap.size = w.heap.size := by simp [put3, World.setCell]
  refine ⟨fun h0 => by rw [hsz]; exact k1 h0, fun j hj => ?_⟩
  by_cases he : b' = g
  · subst he
    have := k2 j hj
    rw [cell_of_row w b' (off + j) _ _ _ h] at this
    have hsz3 : off + j < 3 := by
      have := (Array.getElem?_eq_some_iff.1 this).1; simpa using this
    have e : off + j = 0 ∨ off + j = 1 ∨ off + j = 2 := by omega
    rcases e with e | e | e <;> rw [e] at this <;> simp at this
    · exact absurd this (ha _)
    · exact absurd this (hb _)
    · exact absurd this (hc _)
  · rw [← k2 j hj]
    unfold World.cell?
    have e : (put3 w g x y z).heap[b']? = w.heap[b']? := by
      unfold put3
      rw [Below.heap_setCell _ _ _ _ he, Below.heap_setCell _ _ _ _ he, Below.heap_setCell _ _ _ _ he]
    simp only [e]
theorem rat_info : (Tryz.prog.info? 54).map (·.size) = some 3 := by kernel_rfl
/-- a function that hands back a fraction in a variable of its own -/
theorem ret_rat {fn : Func} {R : Ending → World → Prop} {a : Act} {w : World} {p : Tmp} (h : fn.results = #[.cell p 54]) (g : Nat) (x y z : Value)
    (hp : a.tmps.getD p undef = .pointer (some ⟨g, 0, none⟩)) (hg : w.heap[g]? = some (.cells #[x, y, z] 54)) (hd : a.defers = []) (hR : R (.returned (.agg #[x, y, z])) w) : bodyPost Tryz.prog fn R .ret a w :=
  bodyPost_ret (results_cell_row h a.tmps w g 54 _ _ _ hp hg Tryz.underlying54 rfl rat_info) hd hR
/-- .. and an error (or its number) -/
theorem ret_rat2 {fn : Func} {R : Ending → World → Prop} {a : Act} {w : World} {p u : Tmp} (h : fn.results = #[.cell p 54, .tmp u]) (g : Nat) (x y z : Value)
    (hp : a.tmps.getD p undef = .pointer (some ⟨g, 0, none⟩)) (hg : w.heap[g]? = some (.cells #[x, y, z] 54)) (hd : a.defers = []) (hR : R (.returned (.tuple #[.agg #[x, y, z], a.tmps.getD u undef])) w) : bodyPost Tryz.prog fn R .ret a w := by
  refine bodyPost_ret (v := .tuple #[.agg #[x, y, z], a.tmps.getD u undef]) ?_ hd hR
  rw [results_cell_tmp h, hp]
  simp only [asAddr, Sem.run_pure, Result.andThen, run_loadVar_row w g 54 54 _ _ _ hg Tryz.underlying54 rfl rat_info]

set_option maxRecDepth 100000 in
set_option maxHeartbeats 3200000 in
theorem form_any (s : Bool) (vn vd : Value) (a b : List Nat) (w : World) (ha : Num w vn a) (hb : Num w vd b) (hla : a.length ≤ 400000) (hlb : b.length ≤ 400000) (hd : val b ≠ 0) :
    Calls Tryz.prog 88 #[.bool s, vn, vd] w (RetR w (qm s (val a) (val b))) := by
  have hbx : Below w.heap.size w (w.alloc (.cells #[.bool false, .slice none 0 0, .slice none 0 0] 54)) := (Below.refl _ _).alloc (Nat.le_refl _) _
  have hbits := bits_any vn a _ (ha.below hbx) (by omega)
  have HBX := Lib.hid hbx
  by_cases h0 : val a = 0
  · rw [h0, blen_zero] at hbits
    rw [h0, qm_zero]
    have HB := Lib.hid hbits; clear hbits h0 ha hb hbx
    go_enter Tryz.func88, Tryz.ntmps88
    go_wp2_with fail
    (with_reducible refine HB.out.mono ?_); rintro e w1 ⟨rfl, rfl⟩
    go_wp2_with fail
    refine ret_rat rfl w.heap.size _ _ _ rfl (heap_alloc_new w _) rfl ?_
    exact ⟨_, rfl, HBX.out, isR_zero _⟩
  · have hz : ((blen (val a) : Int) == 0) = false := by
      rw [beq_eq_false_iff_ne]; have := blen_pos.2 h0; omega
    have hgd := gcd_any vn vd a b _ (ha.below hbx) (hb.below hbx) (by omega) (by omega)
    obtain ⟨bl, hbl⟩ : ∃ bl, bl = blen (val a) := ⟨_, rfl⟩
    rw [← hbl] at hbits hz
    have hl1 := wd_length_le ha.lt
    have hl2 := wd_length_le hb.lt
    have hgl : (wd (Nat.gcd (val a) (val b))).length ≤ 400000 := by
      have h3 := wd_length_mono (Nat.le_of_dvd (Nat.pos_of_ne_zero h0) (Nat.gcd_dvd_left (val a) (val b)))
      omega
    have hg0 : Nat.gcd (val a) (val b) ≠ 0 := fun h => h0 (Nat.eq_zero_of_gcd_eq_zero_left h)
    have hR : ng (qm s (val a) (val b)) = s ∧ nn (qm s (val a) (val b)) = val a / Nat.gcd (val a) (val b) ∧ dn (qm s (val a) (val b)) = val b / Nat.gcd (val a) (val b) :=
      ⟨ng_qm hd h0, nn_qm hd, dn_qm hd h0⟩
    obtain ⟨q, hq⟩ : ∃ q, q = qm s (val a) (val b) := ⟨_, rfl⟩
    rw [← hq] at hR ⊢
    obtain ⟨g, hg⟩ : ∃ g, g = Nat.gcd (val a) (val b) := ⟨_, rfl⟩
    rw [← hg] at hgd hgl hg0 hR
    have HR := Lib.hid hR; have HBI := Lib.hid hbits; have HGD := Lib.hid hgd; have HA := Lib.hid (ha.below hbx); have HB := Lib.hid (hb.below hbx); have HG0 := Lib.hid hg0
    clear hR hbits hgd ha hb hg0 hg hq hbl hbx h0
    go_enter Tryz.func88, Tryz.ntmps88
    go_wp2_with fail
    (with_reducible refine HBI.out.mono ?_); rintro e w1 ⟨rfl, rfl⟩
    go_wp2_with fail
    (with_reducible refine HGD.out.mono ?_); rintro e w1 ⟨v1, l1, rfl, hb1, hn1, rfl⟩
    have hd1 := div_any vn v1 a _ w1 (HA.out.below hb1) hn1 (by omega) (by omega) (by rw [val_wd]; exact HG0.out)
    rw [val_wd, errV_zero] at hd1
    have HD1 := Lib.hid hd1; have HB1 := Lib.hid hb1; have HN1 := Lib.hid hn1
    clear hd1 hn1
    go_wp2_with fail
    (with_reducible refine HD1.out.mono ?_); rintro e w2 ⟨v2, u2, rfl, hb2, hn2, _⟩
    have hd2 := div_any vd v1 b _ w2 ((HB.out.below hb1).below hb2) (HN1.out.below hb2) (by omega) (by omega) (by rw [val_wd]; exact HG0.out)
    rw [val_wd, errV_zero] at hd2
    have HD2 := Lib.hid hd2; have HB2 := Lib.hid (HB1.out.step hb2); have HN2 := Lib.hid hn2
    clear hd2 hn2 hb1
    go_wp2_with fail
    (with_reducible refine HD2.out.mono ?_); rintro e w3 ⟨v3, u3, rfl, hb3, hn3, _⟩
    have HB3 := Lib.hid (HB2.out.step hb3); have HN2 := Lib.hid (HN2.out.below hb3); have HN3 := Lib.hid hn3
    clear hn3 hb2
    obtain ⟨o2, k2, rfl, _, _, _⟩ := HN2.out.shape
    obtain ⟨o3, k3, rfl, _, _, _⟩ := HN3.out.shape
    have f0 := frozen_kept HB3.out 0
    have f1 := frozen_kept HB3.out 1
    have f2 := frozen_kept HB3.out 2
    have c0 : w3.cell? ⟨w.heap.size, 0, none⟩ = some (.bool false) := box_kept HB3.out 0
    have c1 : w3.cell? ⟨w.heap.size, 1, none⟩ = some (.slice none 0 0) := box_kept HB3.out 1
    have c2 : w3.cell? ⟨w.heap.size, 2, none⟩ = some (.slice none 0 0) := box_kept HB3.out 2
    have hh := heap_kept HB3.out
    have HH := Lib.hid hh; clear hh
    go_wp2_with fail
    refine ret_rat rfl w.heap.size _ _ _ rfl (put3_heap HH.out) rfl ?_
    refine ⟨_, rfl, put3_below (HBX.out.trans (HB3.out.mono (by simp))) (Nat.le_refl _) _ _ _, ?_⟩
    obtain ⟨e1, e2, e3⟩ := HR.out
    unfold IsR
    rw [e1, e2, e3]
    exact ⟨_, _, rfl, put3_num HN2.out HH.out (fun _ h => by cases h) (fun _ h => by cases h) (fun _ h => by cases h), put3_num HN3.out HH.out (fun _ h => by cases h) (fun _ h => by cases h) (fun _ h => by cases h)⟩
end Go.Proofs.YthhgfhdmfhnklaaGreatDoor
/-
  The reference's Parts, From, and rational.From: what they hand back.
  Conditions: each theorem's own.
-/
namespace Go.Proofs.YthhgfhdmfhnklaaGreatDoor
open Go.RowKit Go.ChangeShapes Go.WideShapes

theorem wd_one_len : (wd 1).length = 1 := by rw [wd_one (by decide) (by decide)]; rfl
/-- the number of the error of a denominator -/
def zc (d : Nat) : Nat := if d = 0 then 8 else 0
theorem qm_den0 (s : Bool) (n : Nat) : qm s n 0 = 0 := by unfold qm; rw [Rat.mkRat_zero]
set_option maxRecDepth 100000 in
set_option maxHeartbeats 3200000 in
theorem rfrom_ok (s : Bool) (vn vd : Value) (a b : List Nat) (w : World) (ha : Num w vn a) (hb : Num w vd b) (hla : a.length ≤ 400000) (hlb : b.length ≤ 400000) (hd : val b ≠ 0) :
    Calls Tryz.prog 107 #[.bool s, vn, vd] w (RetRE w (qm s (val a) (val b)) (.int .i64 0)) := by
  have hbx : Below w.heap.size w (w.alloc (.cells #[.bool false, .slice none 0 0, .slice none 0 0] 54)) := (Below.refl _ _).alloc (Nat.le_refl _) _
  have hbits := rbits_any vn a _ (ha.below hbx) (by omega)
  have hbd := rbits_any vd b _ (hb.below hbx) (by omega)
  have hdz : ((blen (val b) : Int) == 0) = false := by
    rw [beq_eq_false_iff_ne]; have := blen_pos.2 hd; omega
  obtain ⟨bd, hbde⟩ : ∃ bd, bd = blen (val b) := ⟨_, rfl⟩
  rw [← hbde] at hbd hdz
  have HBD := Lib.hid hbd
  clear hbde hbd
  have HBX := Lib.hid hbx
  by_cases h0 : val a = 0
  · rw [h0, blen_zero] at hbits
    rw [h0, qm_zero]
    have HB := Lib.hid hbits; clear hbits h0 ha hb hbx
    go_enter Tryz.func107, Tryz.ntmps107
    go_wp2_with fail
    (with_reducible refine HBD.out.mono ?_); rintro e w1 ⟨rfl, rfl⟩
    go_wp2_with fail
    (with_reducible refine HB.out.mono ?_); rintro e w1 ⟨rfl, rfl⟩
    go_wp2_with fail
    refine ret_rat2 rfl w.heap.size _ _ _ rfl (heap_alloc_new w _) rfl ?_
    exact ⟨_, rfl, HBX.out, isR_zero _⟩
  · have hz : ((blen (val a) : Int) == 0) = false := by
      rw [beq_eq_false_iff_ne]; have := blen_pos.2 h0; omega
    have hgd := rgcd_any vn vd a b _ (ha.below hbx) (hb.below hbx) (by omega) (by omega)
    obtain ⟨bl, hbl⟩ : ∃ bl, bl = blen (val a) := ⟨_, rfl⟩
    rw [← hbl] at hbits hz
    have hl1 := wd_length_le ha.lt
    have hl2 := wd_length_le hb.lt
    have hgl : (wd (Nat.gcd (val a) (val b))).length ≤ 400000 := by
      have h3 := wd_length_mono (Nat.le_of_dvd (Nat.pos_of_ne_zero h0) (Nat.gcd_dvd_left (val a) (val b)))
      omega
    have hg0 : Nat.gcd (val a) (val b) ≠ 0 := fun h => h0 (Nat.eq_zero_of_gcd_eq_zero_left h)
    have hR : ng (qm s (val a) (val b)) = s ∧ nn (qm s (val a) (val b)) = val a / Nat.gcd (val a) (val b) ∧ dn (qm s (val a) (val b)) = val b / Nat.gcd (val a) (val b) :=
      ⟨ng_qm hd h0, nn_qm hd, dn_qm hd h0⟩
    obtain ⟨q, hq⟩ : ∃ q, q = qm s (val a) (val b) := ⟨_, rfl⟩
    rw [← hq] at hR ⊢
    obtain ⟨g, hg⟩ : ∃ g, g = Nat.gcd (val a) (val b) := ⟨_, rfl⟩
    rw [← hg] at hgd hgl hg0 hR
    have HR := Lib.hid hR; have HBI := Lib.hid hbits; have HGD := Lib.hid hgd; have HA := Lib.hid (ha.below hbx); have HB := Lib.hid (hb.below hbx); have HG0 := Lib.hid hg0
    clear hR hbits hgd ha hb hg0 hg hq hbl hbx h0
    go_enter Tryz.func107, Tryz.ntmps107
    go_wp2_with fail
    (with_reducible refine HBD.out.mono ?_); rintro e w1 ⟨rfl, rfl⟩
    go_wp2_with fail
    (with_reducible refine HBI.out.mono ?_); rintro e w1 ⟨rfl, rfl⟩
    go_wp2_with fail
    (with_reducible refine HGD.out.mono ?_); rintro e w1 ⟨v1, l1, rfl, hb1, hn1, rfl⟩
    have hd1 := rdiv_any vn v1 a _ w1 (HA.out.below hb1) hn1 (by omega) (by omega) (by rw [val_wd]; exact HG0.out)
    rw [val_wd] at hd1
    have HD1 := Lib.hid hd1; have HB1 := Lib.hid hb1; have HN1 := Lib.hid hn1
    clear hd1 hn1
    go_wp2_with fail
    (with_reducible refine HD1.out.mono ?_); rintro e w2 ⟨v2, u2, rfl, hb2, hn2, _⟩
    have hd2 := rdiv_any vd v1 b _ w2 ((HB.out.below hb1).below hb2) (HN1.out.below hb2) (by omega) (by omega) (by rw [val_wd]; exact HG0.out)
    rw [val_wd] at hd2
    have HD2 := Lib.hid hd2; have HB2 := Lib.hid (HB1.out.step hb2); have HN2 := Lib.hid hn2
    clear hd2 hn2 hb1
    go_wp2_with fail
    (with_reducible refine HD2.out.mono ?_); rintro e w3 ⟨v3, u3, rfl, hb3, hn3, _⟩
    have HB3 := Lib.hid (HB2.out.step hb3); have HN2 := Lib.hid (HN2.out.below hb3); have HN3 := Lib.hid hn3
    clear hn3 hb2
    obtain ⟨o2, k2, rfl, _, _, _⟩ := HN2.out.shape
    obtain ⟨o3, k3, rfl, _, _, _⟩ := HN3.out.shape
    have f0 := frozen_kept HB3.out 0
    have f1 := frozen_kept HB3.out 1
    have f2 := frozen_kept HB3.out 2
    have c0 : w3.cell? ⟨w.heap.size, 0, none⟩ = some (.bool false) := box_kept HB3.out 0
    have c1 : w3.cell? ⟨w.heap.size, 1, none⟩ = some (.slice none 0 0) := box_kept HB3.out 1
    have c2 : w3.cell? ⟨w.heap.size, 2, none⟩ = some (.slice none 0 0) := box_kept HB3.out 2
    have hh := heap_kept HB3.out
    have HH := Lib.hid hh; clear hh
    go_wp2_with fail
    refine ret_rat2 rfl w.heap.size _ _ _ rfl (put3_heap HH.out) rfl ?_
    refine ⟨_, rfl, put3_below (HBX.out.trans (HB3.out.mono (by simp))) (Nat.le_refl _) _ _ _, ?_⟩
    obtain ⟨e1, e2, e3⟩ := HR.out
    unfold IsR
    rw [e1, e2, e3]
    exact ⟨_, _, rfl, put3_num HN2.out HH.out (fun _ h => by cases h) (fun _ h => by cases h) (fun _ h => by cases h), put3_num HN3.out HH.out (fun _ h => by cases h) (fun _ h => by cases h) (fun _ h => by cases h)⟩
set_option maxRecDepth 100000 in
set_option maxHeartbeats 800000 in
theorem rfrom_zero (s : Bool) (vn vd : Value) (b : List Nat) (w : World) (hb : Num w vd b) (hlb : b.length ≤ 400000) (hd : val b = 0) :
    Calls Tryz.prog 107 #[.bool s, vn, vd] w (RetRE w 0 (.int .i64 8)) := by
  have hbx : Below w.heap.size w (w.alloc (.cells #[.bool false, .slice none 0 0, .slice none 0 0] 54)) := (Below.refl _ _).alloc (Nat.le_refl _) _
  have hbd := rbits_any vd b _ (hb.below hbx) (by omega)
  rw [hd, blen_zero] at hbd
  have HB := Lib.hid hbd; have HBX := Lib.hid hbx; clear hbd hd hb hbx
  go_enter Tryz.func107, Tryz.ntmps107
  go_wp2_with fail
  (with_reducible refine HB.out.mono ?_); rintro e w1 ⟨rfl, rfl⟩
  go_wp2_with fail
  refine ret_rat2 rfl w.heap.size _ _ _ rfl (heap_alloc_new w _) rfl ?_
  exact ⟨_, rfl, HBX.out, isR_zero _⟩
theorem rfrom_any (s : Bool) (vn vd : Value) (a b : List Nat) (w : World) (ha : Num w vn a) (hb : Num w vd b) (hla : a.length ≤ 400000) (hlb : b.length ≤ 400000) :
    Calls Tryz.prog 107 #[.bool s, vn, vd] w (RetRE w (qm s (val a) (val b)) (.int .i64 (zc (val b) : Nat))) := by
  unfold zc
  by_cases hd : val b = 0
  · rw [hd, if_pos rfl, qm_den0]; exact rfrom_zero s vn vd b w hb hlb hd
  · rw [if_neg hd]; exact rfrom_ok s vn vd a b w ha hb hla hlb hd
end Go.Proofs.YthhgfhdmfhnklaaGreatDoor
/-
  Contracts on numbers by what they stand for; a fraction's cells behind a call.
  Conditions: each theorem's own.
-/
namespace Go.Proofs.YthhgfhdmfhnklaaGreatDoor
open Go.RowKit Go.ChangeShapes Go.WideShapes

theorem heap_below {w w1 : World} {g : Nat} {o : Obj} (h : w.heap[g]? = some o) (hb : Below w.heap.size w w1) : w1.heap[g]? = some o := by
  rw [hb.block _ (Array.getElem?_eq_some_iff.1 h).1]; exact h
theorem row3 {w : World} {g : Nat} {x y z : Value} {T : TypeId} (h : w.heap[g]? = some (.cells #[x, y, z] T)) :
    w.cell? ⟨g, 0, none⟩ = some x ∧ w.cell? ⟨g, 1, none⟩ = some y ∧ w.cell? ⟨g, 2, none⟩ = some z :=
  ⟨cell_of_row _ _ _ _ _ _ h, cell_of_row _ _ _ _ _ _ h, cell_of_row _ _ _ _ _ _ h⟩
theorem froz3 {w : World} {g : Nat} {x y z : Value} {T : TypeId} (h : w.heap[g]? = some (.cells #[x, y, z] T)) :
    w.frozen? ⟨g, 0, none⟩ = false ∧ w.frozen? ⟨g, 1, none⟩ = false ∧ w.frozen? ⟨g, 2, none⟩ = false := by
  refine ⟨?_, ?_, ?_⟩ <;> simp [World.frozen?, h]
theorem RatIs.shape {w : World} {v : Value} {q : Rat} (h : RatIs w v q) : ∃ s ao n c bo m d, v = .agg #[.bool s, .slice ao n c, .slice bo m d] := by
  obtain ⟨s, a, b, ⟨va, vb, rfl, h1, h2⟩, _⟩ := h
  obtain ⟨ao, c, rfl, _⟩ := h1.shape
  obtain ⟨bo, d, rfl, _⟩ := h2.shape
  exact ⟨s, ao, _, c, bo, _, d, rfl⟩
theorem IsR.shape {w : World} {v : Value} {q : Rat} (h : IsR w v q) : ∃ s ao n c bo m d, v = .agg #[.bool s, .slice ao n c, .slice bo m d] := by
  obtain ⟨va, vb, rfl, h1, h2⟩ := h
  obtain ⟨ao, c, rfl, _⟩ := h1.shape
  obtain ⟨bo, d, rfl, _⟩ := h2.shape
  exact ⟨_, ao, _, c, bo, _, d, rfl⟩
/-- cells of a fraction hold no words -/
theorem ratV_put {w : World} {g : Nat} {v : Value} {s : Bool} {a b : List Nat} {x y z p q r : Value} {T : TypeId} (h : RatV w v s a b) (hg : w.heap[g]? = some (.cells #[p, q, r] T))
    (hp : ∀ n : Int, p ≠ .int .u32 n) (hq : ∀ n : Int, q ≠ .int .u32 n) (hr : ∀ n : Int, r ≠ .int .u32 n) : RatV (put3 w g x y z) v s a b := by
  obtain ⟨va, vb, rfl, h1, h2⟩ := h
  exact ⟨va, vb, rfl, put3_num h1 hg hp hq hr, put3_num h2 hg hp hq hr⟩
theorem isR_put {w : World} {g : Nat} {v : Value} {u : Rat} {x y z : Value} {s : Bool} {ao bo : Option Addr} {n c m d : Nat} {T : TypeId} (h : IsR w v u) (hg : w.heap[g]? = some (.cells #[.bool s, .slice ao n c, .slice bo m d] T)) : IsR (put3 w g x y z) v u :=
  ratV_put h hg (fun _ h => by cases h) (fun _ h => by cases h) (fun _ h => by cases h)
section
variable {u v : Value} {m n : Nat} {w : World}
theorem addN (h1 : Num w u (wd m)) (h2 : Num w v (wd n)) (l1 : (wd m).length ≤ 400000) (l2 : (wd n).length ≤ 400000) : Calls Tryz.prog 105 #[u, v] w (RetN w (m + n)) := by
  have h := add_any u v _ _ w h1 h2 (by omega) (by omega)
  rw [val_wd, val_wd] at h; exact h.mono fun _ _ => RetNum.n
theorem mulN (h1 : Num w u (wd m)) (h2 : Num w v (wd n)) (l1 : (wd m).length ≤ 400000) (l2 : (wd n).length ≤ 400000) : Calls Tryz.prog 104 #[u, v] w (RetN w (m * n)) := by
  have h := mul_any u v _ _ w h1 h2 (by omega) (by omega)
  rw [val_wd, val_wd] at h; exact h.mono fun _ _ => RetNum.n
theorem cmpN_ (h1 : Num w u (wd m)) (h2 : Num w v (wd n)) (l1 : (wd m).length ≤ 400000) (l2 : (wd n).length ≤ 400000) : Calls Tryz.prog 75 #[u, v] w (RetV w (.int .i64 (cmpN m n))) := by
  have h := cmp_any u v _ _ w h1 h2 (by omega) (by omega)
  rw [val_wd, val_wd] at h; exact h
theorem subN (h1 : Num w u (wd m)) (h2 : Num w v (wd n)) (l1 : (wd m).length ≤ 400000) (l2 : (wd n).length ≤ 400000) (hle : n ≤ m) : Calls Tryz.prog 106 #[u, v] w (RetNE w (m - n) .nilIface) := by
  have h := sub_ge u v _ _ w h1 h2 (by omega) (by omega) (by rw [val_wd, val_wd]; exact hle)
  rw [val_wd, val_wd, errV_zero] at h; exact h
theorem formN (s : Bool) (h1 : Num w u (wd m)) (h2 : Num w v (wd n)) (l1 : (wd m).length ≤ 400000) (l2 : (wd n).length ≤ 400000) (h0 : n ≠ 0) : Calls Tryz.prog 88 #[.bool s, u, v] w (RetR w (qm s m n)) := by
  have h := form_any s u v _ _ w h1 h2 l1 l2 (by rw [val_wd]; exact h0)
  rw [val_wd, val_wd] at h; exact h
end
end Go.Proofs.YthhgfhdmfhnklaaGreatDoor
/-
  formula.Check and the reference's Check: the number of the first error of a formula.
  Conditions: each theorem's own.
-/
namespace Go.Proofs.YthhgfhdmfhnklaaGreatDoor
open Go.RowKit Go.ChangeShapes Go.WideShapes

theorem ndsErr_dropC {v : Int} {l : List Nd} {q : Nat} {x : Nd} (hq : l[q]? = some x) : ndsErr v q (l.drop q) = if ndErr v q x = 0 then ndsErr v (q + 1) (l.drop (q + 1)) else ndErr v q x := by
  obtain ⟨h1, h2⟩ := List.getElem?_eq_some_iff.1 hq
  rw [List.drop_eq_getElem_cons h1, h2]; simp only [ndsErr]
theorem fm_range {f : Fm} (h : f.vars < 0 ∨ 24 < f.vars) : fmErr f = 3 := by unfold fmErr; rw [if_pos h]
theorem fm_large {f : Fm} (h : ¬ (f.vars < 0 ∨ 24 < f.vars)) (h2 : 128 < f.nodes.length) : fmErr f = 4 := by unfold fmErr; rw [if_neg h, if_pos h2]
theorem fm_node {f : Fm} (h : ¬ (f.vars < 0 ∨ 24 < f.vars)) (h2 : ¬ 128 < f.nodes.length) (h3 : ndsErr f.vars 0 f.nodes ≠ 0) : fmErr f = ndsErr f.vars 0 f.nodes := by unfold fmErr; rw [if_neg h, if_neg h2, if_pos h3]
theorem fm_top {f : Fm} (h : ¬ (f.vars < 0 ∨ 24 < f.vars)) (h2 : ¬ 128 < f.nodes.length) (h3 : ndsErr f.vars 0 f.nodes = 0) : fmErr f = if argOK f f.top then 0 else 10 := by unfold fmErr; rw [if_neg h, if_neg h2, if_neg (by rw [h3]; exact fun h => h rfl)]

set_option maxRecDepth 100000 in
set_option maxHeartbeats 4000000 in
theorem fcheck_any (vf : Value) (f : Fm) (w : World) (hf : FmV w vf f) :
    Calls Tryz.prog 43 #[vf] w (RetV w (errV (fmErr f))) := by
  obtain ⟨nv, rfl, hn, hv, ht⟩ := hf
  obtain ⟨ao, c, rfl, hc, hc2, _⟩ := hn.shape
  have HF := Lib.hid (show FmV w _ f from ⟨_, rfl, hn, hv, ht⟩)
  obtain ⟨v, ns, top⟩ := f
  simp only at hv hc ht hn ⊢
  unfold I64 at hv
  have hbW : Below w.heap.size w (w.alloc (.cells #[.int .i64 v, .slice ao ns.length c, .int .i64 top] 24)) := (Below.refl _ _).alloc (Nat.le_refl _) _
  by_cases e1 : v < 0
  · have R := Lib.hid (fm_range (f := ⟨v, ns, top⟩) (.inl e1))
    go_enter Tryz.func43, Tryz.ntmps43
    go_wp2
    go_ret
    exact ⟨by rw [R.out]; rfl, hbW⟩
  by_cases e2 : 24 < v
  · have R := Lib.hid (fm_range (f := ⟨v, ns, top⟩) (.inr e2))
    go_enter Tryz.func43, Tryz.ntmps43
    go_wp2
    go_ret
    exact ⟨by rw [R.out]; rfl, hbW⟩
  have E12 := Lib.hid (show ¬ (v < 0 ∨ 24 < v) by omega)
  by_cases e3 : 128 < ns.length
  · have R := Lib.hid (fm_large (f := ⟨v, ns, top⟩) E12.out e3)
    have e3' : (128 : Int) < (ns.length : Int) := by omega
    go_enter Tryz.func43, Tryz.ntmps43
    go_wp2
    go_ret
    exact ⟨by rw [R.out]; rfl, hbW⟩
  have E3 := Lib.hid e3
  have e3' : (ns.length : Int) ≤ 128 := by omega
  have RN := Lib.hid (fm_node (f := ⟨v, ns, top⟩) E12.out e3)
  have RT := Lib.hid (fm_top (f := ⟨v, ns, top⟩) E12.out e3)
  have HN := Lib.hid hn; clear hn
  obtain ⟨w0, hw0⟩ : ∃ w0, w0 = (w.alloc (.cells #[.int .i64 v, .slice ao ns.length c, .int .i64 top] 24)) := ⟨_, rfl⟩
  rw [← hw0] at hbW
  have hg : w0.heap[w.heap.size]? = some (.cells #[.int .i64 v, .slice ao ns.length c, .int .i64 top] 24) := by rw [hw0]; exact heap_alloc_new w _
  have HG := Lib.hid hg; clear hg
  have hlt : w.heap.size < w0.heap.size := by rw [hw0]; simp
  go_enter Tryz.func43, Tryz.ntmps43
  go_wp2_with fail
  rw [← hw0]; clear hw0
  go_loopw [22] (fun i' wx => ∃ q : Nat, q ≤ ns.length ∧ i' = .int .i64 q ∧ Below w0.heap.size w0 wx ∧ Hid (ndsErr v 0 ns = ndsErr v q (ns.drop q))) (fun i' _ => ns.length - (intOf i').toNat)
  case atStart => exact ⟨0, Nat.zero_le _, rfl, Below.refl _ _, Lib.hid rfl⟩
  case round =>
    obtain ⟨q, hq, rfl, hbx, G⟩ := hrel
    obtain ⟨wo, rfl⟩ : ∃ wo : World, wo = wr := ⟨_, rfl⟩
    obtain ⟨x0, x1, x2⟩ := row3 (heap_below HG.out hbx)
    have hb1 := hbW.trans (hbx.mono hbW.size)
    by_cases hlt2 : q < ns.length
    · obtain ⟨x, hx⟩ : ∃ x, ns[q]? = some x := ⟨ns[q], List.getElem?_eq_getElem hlt2⟩
      have hlt3 : (q : Int) < (ns.length : Int) := by omega
      have hk := checkNode_any _ ⟨v, ns, top⟩ q x wo (HF.out.below hb1) hx (by simp only; omega) (by omega)
      simp only at hk
      have HK := Lib.hid hk; clear hk
      have D := Lib.hid (ndsErr_dropC (v := v) hx); clear hx
      have HBX := Lib.hid hbx; have HB1 := Lib.hid hb1; clear hbx hb1
      go_wp2_with fail
      (with_reducible refine HK.out.mono ?_); rintro e w1 ⟨rfl, hb2⟩
      have hb3 := HBX.out.trans (hb2.mono HBX.out.size)
      have hb4 := HB1.out.trans (hb2.mono HB1.out.size)
      clear x0 x1 x2 hb2
      by_cases E : ndErr v q x = 0
      · rw [E, errV_zero]
        go_wp2_with fail
        go_roundw
        case rel => exact ⟨q + 1, by omega, by go_num, hb3, Lib.hid (by rw [G.out, D.out, if_pos E])⟩
        case measure => simp [intOf]; omega
      · have E' : ¬ ((ndErr v q x : Nat) : Int) = 0 := by omega
        have R : ndsErr v 0 ns = ndErr v q x := by rw [G.out, D.out, if_neg E]
        have RR := Lib.hid (RN.out (by rw [R]; exact E))
        have R := Lib.hid R
        rw [errV_pos E]
        go_wp2_with fail
        go_ret
        exact ⟨by rw [RR.out, R.out]; rw [errV_pos E]; rfl, hb4⟩
    · have hq' : q = ns.length := by omega
      subst hq'
      have R : ndsErr v 0 ns = 0 := by rw [G.out, List.drop_length]; rfl
      have RR := Lib.hid (RT.out R)
      clear R
      have hk := fvalid_any _ ⟨v, ns, top⟩ top wo (HF.out.below hb1) ht
      have HK := Lib.hid hk; clear hk
      skip
      obtain ⟨ok, hok⟩ : ∃ ok, ok = argOK ⟨v, ns, top⟩ top := ⟨_, rfl⟩
      rw [← hok] at HK RR; clear hok
      have HB1 := Lib.hid hb1; clear hb1 hbx
      go_wp2_with fail
      (with_reducible refine HK.out.mono ?_); rintro e w1 ⟨rfl, hb2⟩
      have hb4 := HB1.out.trans (hb2.mono HB1.out.size)
      clear x0 x1 x2 hb2
      cases ok with
      | true =>
        go_wp2_with fail
        go_ret
        exact ⟨by rw [RR.out]; rfl, hb4⟩
      | false =>
        go_wp2_with fail
        go_ret
        exact ⟨by rw [RR.out]; rfl, hb4⟩

set_option maxRecDepth 100000 in
set_option maxHeartbeats 4000000 in
theorem rfcheck_any (vf : Value) (f : Fm) (w : World) (hf : FmV w vf f) :
    Calls Tryz.prog 34 #[vf] w (RetV w (.int .i64 (fmErr f : Nat))) := by
  obtain ⟨nv, rfl, hn, hv, ht⟩ := hf
  obtain ⟨ao, c, rfl, hc, hc2, _⟩ := hn.shape
  have HF := Lib.hid (show FmV w _ f from ⟨_, rfl, hn, hv, ht⟩)
  obtain ⟨v, ns, top⟩ := f
  simp only at hv hc ht hn ⊢
  unfold I64 at hv
  have hbW : Below w.heap.size w (w.alloc (.cells #[.int .i64 v, .slice ao ns.length c, .int .i64 top] 24)) := (Below.refl _ _).alloc (Nat.le_refl _) _
  by_cases e1 : v < 0
  · have R := Lib.hid (fm_range (f := ⟨v, ns, top⟩) (.inl e1))
    go_enter Tryz.func34, Tryz.ntmps34
    go_wp2
    go_ret
    exact ⟨by rw [R.out]; rfl, hbW⟩
  by_cases e2 : 24 < v
  · have R := Lib.hid (fm_range (f := ⟨v, ns, top⟩) (.inr e2))
    go_enter Tryz.func34, Tryz.ntmps34
    go_wp2
    go_ret
    exact ⟨by rw [R.out]; rfl, hbW⟩
  have E12 := Lib.hid (show ¬ (v < 0 ∨ 24 < v) by omega)
  by_cases e3 : 128 < ns.length
  · have R := Lib.hid (fm_large (f := ⟨v, ns, top⟩) E12.out e3)
    have e3' : (128 : Int) < (ns.length : Int) := by omega
    go_enter Tryz.func34, Tryz.ntmps34
    go_wp2
    go_ret
    exact ⟨by rw [R.out]; rfl, hbW⟩
  have E3 := Lib.hid e3
  have e3' : (ns.length : Int) ≤ 128 := by omega
  have RN := Lib.hid (fm_node (f := ⟨v, ns, top⟩) E12.out e3)
  have RT := Lib.hid (fm_top (f := ⟨v, ns, top⟩) E12.out e3)
  have HN := Lib.hid hn; clear hn
  obtain ⟨w0, hw0⟩ : ∃ w0, w0 = (w.alloc (.cells #[.int .i64 v, .slice ao ns.length c, .int .i64 top] 24)) := ⟨_, rfl⟩
  rw [← hw0] at hbW
  have hg : w0.heap[w.heap.size]? = some (.cells #[.int .i64 v, .slice ao ns.length c, .int .i64 top] 24) := by rw [hw0]; exact heap_alloc_new w _
  have HG := Lib.hid hg; clear hg
  have hlt : w.heap.size < w0.heap.size := by rw [hw0]; simp
  go_enter Tryz.func34, Tryz.ntmps34
  go_wp2_with fail
  rw [← hw0]; clear hw0
  go_loopw [20] (fun i' wx => ∃ q : Nat, q ≤ ns.length ∧ i' = .int .i64 q ∧ Below w0.heap.size w0 wx ∧ Hid (ndsErr v 0 ns = ndsErr v q (ns.drop q))) (fun i' _ => ns.length - (intOf i').toNat)
  case atStart => exact ⟨0, Nat.zero_le _, rfl, Below.refl _ _, Lib.hid rfl⟩
  case round =>
    obtain ⟨q, hq, rfl, hbx, G⟩ := hrel
    obtain ⟨wo, rfl⟩ : ∃ wo : World, wo = wr := ⟨_, rfl⟩
    obtain ⟨x0, x1, x2⟩ := row3 (heap_below HG.out hbx)
    have hb1 := hbW.trans (hbx.mono hbW.size)
    by_cases hlt2 : q < ns.length
    · obtain ⟨x, hx⟩ : ∃ x, ns[q]? = some x := ⟨ns[q], List.getElem?_eq_getElem hlt2⟩
      have hlt3 : (q : Int) < (ns.length : Int) := by omega
      have hk := rnode_any _ ⟨v, ns, top⟩ q x wo (HF.out.below hb1) hx (by simp only; omega) (by omega)
      simp only at hk
      have HK := Lib.hid hk; clear hk
      have D := Lib.hid (ndsErr_dropC (v := v) hx); clear hx
      have HBX := Lib.hid hbx; have HB1 := Lib.hid hb1; clear hbx hb1
      go_wp2_with fail
      (with_reducible refine HK.out.mono ?_); rintro e w1 ⟨rfl, hb2⟩
      have hb3 := HBX.out.trans (hb2.mono HBX.out.size)
      have hb4 := HB1.out.trans (hb2.mono HB1.out.size)
      clear x0 x1 x2 hb2
      by_cases E : ndErr v q x = 0
      · rw [show ((ndErr v q x : Nat) : Int) = 0 from by omega]
        go_wp2_with fail
        go_roundw
        case rel => exact ⟨q + 1, by omega, by go_num, hb3, Lib.hid (by rw [G.out, D.out, if_pos E])⟩
        case measure => simp [intOf]; omega
      · have E' : ¬ ((ndErr v q x : Nat) : Int) = 0 := by omega
        have R : ndsErr v 0 ns = ndErr v q x := by rw [G.out, D.out, if_neg E]
        have RR := Lib.hid (RN.out (by rw [R]; exact E))
        have R := Lib.hid R
        
        go_wp2_with fail
        go_ret
        exact ⟨by rw [RR.out, R.out]; rfl, hb4⟩
    · have hq' : q = ns.length := by omega
      subst hq'
      have R : ndsErr v 0 ns = 0 := by rw [G.out, List.drop_length]; rfl
      have RR := Lib.hid (RT.out R)
      clear R
      have hk := rfvalid_any _ ⟨v, ns, top⟩ top wo (HF.out.below hb1) ht
      have HK := Lib.hid hk; clear hk
      skip
      obtain ⟨ok, hok⟩ : ∃ ok, ok = argOK ⟨v, ns, top⟩ top := ⟨_, rfl⟩
      rw [← hok] at HK RR; clear hok
      have HB1 := Lib.hid hb1; clear hb1 hbx
      go_wp2_with fail
      (with_reducible refine HK.out.mono ?_); rintro e w1 ⟨rfl, hb2⟩
      have hb4 := HB1.out.trans (hb2.mono HB1.out.size)
      clear x0 x1 x2 hb2
      cases ok with
      | true =>
        go_wp2_with fail
        go_ret
        exact ⟨by rw [RR.out]; rfl, hb4⟩
      | false =>
        go_wp2_with fail
        go_ret
        exact ⟨by rw [RR.out]; rfl, hb4⟩
end Go.Proofs.YthhgfhdmfhnklaaGreatDoor
/-
  Formulas: what is known of a value stays when more events are known; where all are known, all values are.
  Conditions: none.
-/
namespace Go.Proofs.YthhgfhdmfhnklaaGreatDoor

/-- what is known at a is known at b -/
def fits3 (a b : Nat) : Prop := a ≠ 2 → b = a
theorem cnt_all (vs : List Nat) (hv : ∀ j, gd vs j ≤ 2) (args : List Int) : cntV vs args 0 + cntV vs args 1 + cntV vs args 2 = args.length := by
  unfold cntV
  induction args with
  | nil => rfl
  | cons a xs ih =>
    have h := hv a.toNat
    rcases (by omega : gd vs a.toNat = 0 ∨ gd vs a.toNat = 1 ∨ gd vs a.toNat = 2) with k | k | k <;>
      · simp only [List.filter_cons, k, List.length_cons]
        simp
        omega
theorem cnt_le {vs ws : List Nat} (h : ∀ j, fits3 (gd vs j) (gd ws j)) (args : List Int) (k : Nat) (hk : k ≠ 2) : cntV vs args k ≤ cntV ws args k := by
  unfold cntV
  induction args with
  | nil => simp
  | cons a xs ih =>
    have h1 := h a.toNat
    simp only [List.filter_cons]
    by_cases e : gd vs a.toNat = k
    · have e2 : gd ws a.toNat = k := by rw [h1 (by rw [e]; exact hk), e]
      simp only [e, e2, decide_true, if_true, List.length_cons]; omega
    · by_cases e2 : gd ws a.toNat = k <;> simp [e, e2] <;> omega
theorem nd_fits {x : Nd} {a0 a1 a2 b0 b1 b2 : Nat} (hn : ndArgs x.kind x.args.length = true) (h0 : a0 ≤ b0) (h1 : a1 ≤ b1) (ha : a0 + a1 + a2 = x.args.length) (hb : b0 + b1 + b2 = x.args.length) :
    fits3 (ndVal x a0 a1 a2) (ndVal x b0 b1 b2) := by
  intro h
  obtain ⟨n, hx⟩ : ∃ n, n = x.args.length := ⟨_, rfl⟩
  rw [← hx] at hn ha hb
  unfold ndVal lev at h ⊢
  unfold ndArgs at hn
  rw [← hx] at h ⊢
  by_cases k0 : x.kind = 0
  · simp only [k0, if_true]
  by_cases k1 : x.kind = 1
  · simp only [k1] at hn h ⊢
    simp at hn h ⊢
    split at h
    · rw [if_pos (by omega)]; rw [if_pos (by omega)]
    · split at h
      · rw [if_neg (by omega), if_pos (by omega)]; rw [if_neg (by omega), if_pos (by omega)]
      · exact absurd rfl h
  by_cases k2 : x.kind = 2
  · simp only [k2] at h ⊢
    simp at h ⊢
    split at h
    · rw [if_pos (by omega)]; rw [if_pos (by omega)]
    · split at h
      · rw [if_neg (by omega), if_pos (by omega)]; rw [if_neg (by omega), if_pos (by omega)]
      · exact absurd rfl h
  by_cases k3 : x.kind = 3
  · simp only [k3] at h ⊢
    simp at h ⊢
    split at h
    · rw [if_pos (by omega)]; rw [if_pos (by omega)]
    · split at h
      · rw [if_neg (by omega), if_pos (by omega)]; rw [if_neg (by omega), if_pos (by omega)]
      · exact absurd rfl h
  by_cases k4 : x.kind = 4
  · simp only [k4] at h ⊢
    simp at h ⊢
    split at h
    · rw [if_pos (by omega)]; rw [if_pos (by omega)]
    · split at h
      · rw [if_neg (by omega), if_pos (by omega)]; rw [if_neg (by omega), if_pos (by omega)]
      · exact absurd rfl h
  · simp only [k0, k1, k2, k3, k4, if_false] at h ⊢
    simp at h ⊢
    split at h
    · rename_i q; rw [if_pos (by omega)]; rw [if_pos (by omega)]
    · split at h
      · rename_i q; rw [if_neg (by omega), if_pos (by omega)]; rw [if_neg (by omega), if_pos (by omega)]
      · exact absurd rfl h
theorem lev_le (a b : Bool) : lev a b ≤ 2 := by unfold lev; split <;> (try split) <;> decide
/-- nodes that have no error at their places -/
def ndsOK (vars : Int) (i : Nat) (l : List Nd) : Prop := ndsErr vars i l = 0
theorem ndErr_args {vars : Int} {i : Nat} {x : Nd} (h : ndErr vars i x = 0) : ndArgs x.kind x.args.length = true := by
  unfold ndErr at h
  split at h
  · cases h
  split at h
  · cases h
  · rename_i k; simpa using k
theorem ndErr_K {vars : Int} {i : Nat} {x : Nd} (h : ndErr vars i x = 0) (h0 : x.kind = 0) : x.K = 0 ∨ x.K = 1 := by
  unfold ndErr at h
  split at h
  · cases h
  split at h
  · cases h
  split at h
  · cases h
  first | rw [if_pos h0] at h | skip
  split at h
  · cases h
  · omega
theorem ndVal_le {vars : Int} {i : Nat} {x : Nd} (h : ndErr vars i x = 0) (a b c : Nat) : ndVal x a b c ≤ 2 := by
  unfold ndVal
  split
  · rename_i k; rcases ndErr_K h k with e | e <;> rw [e] <;> decide
  repeat' split
  all_goals exact lev_le _ _
theorem ndsOK_cons {vars : Int} {i : Nat} {x : Nd} {xs : List Nd} (h : ndsOK vars i (x :: xs)) : ndErr vars i x = 0 ∧ ndsOK vars (i + 1) xs := by
  unfold ndsOK at h ⊢
  by_cases k : ndErr vars i x = 0
  · rw [ndsErr_cons k] at h; exact ⟨k, h⟩
  · rw [ndsErr_bad k] at h; exact absurd h k
theorem gd_snoc (vs : List Nat) (x j : Nat) : gd (vs ++ [x]) j = if j < vs.length then gd vs j else if j = vs.length then x else 0 := by
  rw [gd_append]
  split
  · rfl
  split
  · rename_i e; rw [e, Nat.sub_self]; rfl
  · rw [gd_over]; simp; omega
theorem valsN_fits {vars : Int} : ∀ (l : List Nd) (i : Nat) (vs ws : List Nat), ndsOK vars i l → vs.length = ws.length → (∀ j, gd vs j ≤ 2) → (∀ j, gd ws j ≤ 2) → (∀ j, fits3 (gd vs j) (gd ws j)) →
    (∀ j, gd (valsN vs l) j ≤ 2) ∧ (∀ j, gd (valsN ws l) j ≤ 2) ∧ ∀ j, fits3 (gd (valsN vs l) j) (gd (valsN ws l) j)
  | [], _, vs, ws, _, _, h1, h2, h3 => ⟨h1, h2, h3⟩
  | x :: xs, i, vs, ws, ok, hl, h1, h2, h3 => by
    obtain ⟨hx, hxs⟩ := ndsOK_cons ok
    simp only [valsN]
    refine valsN_fits xs (i + 1) _ _ hxs (by simp [hl]) ?_ ?_ ?_
    · intro j; rw [gd_snoc]; split
      · exact h1 j
      split
      · exact ndVal_le hx _ _ _
      · decide
    · intro j; rw [gd_snoc]; split
      · exact h2 j
      split
      · exact ndVal_le hx _ _ _
      · decide
    · intro j; rw [gd_snoc, gd_snoc, hl]; split
      · exact h3 j
      split
      · exact nd_fits (ndErr_args hx) (cnt_le h3 _ 0 (by decide)) (cnt_le h3 _ 1 (by decide)) (cnt_all vs h1 _) (cnt_all ws h2 _)
      · exact fun _ => rfl
theorem ev3_le (yes no i : Nat) : ev3 yes no i ≤ 2 := by unfold ev3; split <;> (try split) <;> decide
theorem valsE_gd (vars yes no j : Nat) : gd (valsE vars yes no) j = if j < vars then ev3 yes no j else 0 := by
  unfold valsE gd
  rw [List.getD_eq_getElem?_getD, List.getElem?_map]
  split
  · rename_i h; rw [List.getElem?_range h]; rfl
  · rename_i h; rw [List.getElem?_eq_none (by simp; omega)]; rfl
theorem valsE_length (vars yes no : Nat) : (valsE vars yes no).length = vars := by simp [valsE]
theorem fmVal_le {f : Fm} (h : ndsOK f.vars 0 f.nodes) (yes no : Nat) : fmVal f yes no ≤ 2 := by
  have e : ∀ j, gd (valsE f.vars.toNat yes no) j ≤ 2 := fun j => by
    rw [valsE_gd]; split
    · exact ev3_le _ _ _
    · decide
  exact (valsN_fits f.nodes 0 _ _ h rfl e e (fun _ _ => rfl)).1 _
end Go.Proofs.YthhgfhdmfhnklaaGreatDoor
/-
  Formulas: where all events are known, all values are; the next event is an unknown one.
  Conditions: none.
-/
namespace Go.Proofs.YthhgfhdmfhnklaaGreatDoor

theorem cnt_none {vs : List Nat} {args : List Int} (h : ∀ a ∈ args, gd vs a.toNat ≠ 2) : cntV vs args 2 = 0 := by
  unfold cntV
  rw [List.length_eq_zero_iff, List.filter_eq_nil_iff]
  intro a ha; simpa using h a ha
theorem nd_known {x : Nd} {c0 c1 : Nat} (hn : ndArgs x.kind x.args.length = true) (hK : x.kind = 0 → x.K = 0 ∨ x.K = 1) (hc : c0 + c1 = x.args.length) : ndVal x c0 c1 0 ≠ 2 := by
  obtain ⟨n, hx⟩ : ∃ n, n = x.args.length := ⟨_, rfl⟩
  rw [← hx] at hn hc
  unfold ndVal lev
  unfold ndArgs at hn
  rw [← hx]
  by_cases k0 : x.kind = 0
  · rw [if_pos k0]; rcases hK k0 with e | e <;> rw [e] <;> decide
  by_cases k1 : x.kind = 1
  · simp only [k1] at hn ⊢
    simp at hn ⊢
    rcases (by omega : c0 = 1 ∨ c1 = 1) with e | e
    · rw [if_pos e]; decide
    · rw [if_neg (by omega), if_pos e]; decide
  by_cases k2 : x.kind = 2
  · simp only [k2]
    simp
    rcases (by omega : c1 = n ∨ 0 < c0) with e | e
    · rw [if_pos e]; decide
    · rw [if_neg (by omega), if_pos e]; decide
  by_cases k3 : x.kind = 3
  · simp only [k3]
    simp
    rcases (by omega : 0 < c1 ∨ c0 = n) with e | e
    · rw [if_pos e]; decide
    · rw [if_neg (by omega), if_pos e]; decide
  by_cases k4 : x.kind = 4
  · simp only [k4]
    simp
    rcases (by omega : x.K ≤ c1 ∨ (c1 : Int) < x.K) with e | e
    · rw [if_pos e]; decide
    · rw [if_neg (by omega), if_pos e]; decide
  · simp only [k0, k1, k2, k3, k4, if_false]
    simp
    rcases (by omega : c1 % 2 = 1 ∨ c1 % 2 = 0) with e | e
    · rw [if_pos e]; decide
    · rw [if_neg (by omega), if_pos e]; decide
theorem nd_known' {vars : Int} {i : Nat} {x : Nd} {vs : List Nat} (h : ndErr vars i x = 0) (hv : ∀ j, gd vs j ≤ 2) (hk : ∀ a ∈ x.args, gd vs a.toNat ≠ 2) :
    ndVal x (cntV vs x.args 0) (cntV vs x.args 1) (cntV vs x.args 2) ≠ 2 := by
  have h2 := cnt_none hk
  have ha := cnt_all vs hv x.args
  rw [h2] at ha ⊢
  exact nd_known (ndErr_args h) (ndErr_K h) (by omega)
/-- the first argument that is unknown -/
def firstUnk (vs : List Nat) (args : List Int) : Nat := match args.find? (fun a => decide (gd vs a.toNat = 2)) with
  | some a => a.toNat
  | none => 0
def ndOf (l : List Nd) (i : Nat) : Nd := l.getD i ⟨0, 0, []⟩
def nextAt (vars : Nat) (nodes : List Nd) (vs : List Nat) : Nat → Nat → Nat
  | 0, a => a
  | n + 1, a => if a < vars then a else nextAt vars nodes vs n (firstUnk vs (ndOf nodes (a - vars)).args)
def fmNext (f : Fm) (yes no : Nat) : Nat := nextAt f.vars.toNat f.nodes (valsF f yes no) (f.nodes.length + 1) f.top.toNat
theorem firstUnk_ok {vs : List Nat} {args : List Int} (h : ∃ a ∈ args, gd vs a.toNat = 2) : ∃ a ∈ args, firstUnk vs args = a.toNat ∧ gd vs a.toNat = 2 := by
  unfold firstUnk
  cases hf : args.find? (fun a => decide (gd vs a.toNat = 2)) with
  | none =>
    obtain ⟨a, ha, h2⟩ := h
    have := List.find?_eq_none.1 hf a ha
    simp [h2] at this
  | some a => exact ⟨a, List.mem_of_find?_eq_some hf, rfl, by simpa using List.find?_some hf⟩
theorem ndErr_arg {vars : Int} {i : Nat} {x : Nd} (h : ndErr vars i x = 0) : ∀ a ∈ x.args, 0 ≤ a ∧ a < vars + i := by
  unfold ndErr at h
  split at h
  · cases h
  split at h
  · cases h
  split at h
  · cases h
  rename_i _ _ k
  intro a ha
  have : argBad vars i a = false := by
    cases e : argBad vars i a with
    | false => rfl
    | true => exact absurd (List.any_eq_true.2 ⟨a, ha, e⟩) k
  unfold argBad at this
  simp at this
  omega
theorem cnt_congr {vs ws : List Nat} {args : List Int} (h : ∀ a ∈ args, gd vs a.toNat = gd ws a.toNat) (k : Nat) : cntV vs args k = cntV ws args k := by
  unfold cntV
  congr 1
  apply List.filter_congr
  intro a ha; rw [h a ha]
/-- what stands at node i's place -/
theorem valsN_at {vars : Int} (hv : 0 ≤ vars) : ∀ (l : List Nd) (i : Nat) (vs : List Nat), ndsOK vars i l → vs.length = vars.toNat + i → ∀ j (x : Nd), l[j]? = some x →
    gd (valsN vs l) (vs.length + j) = ndVal x (cntV (valsN vs l) x.args 0) (cntV (valsN vs l) x.args 1) (cntV (valsN vs l) x.args 2) ∧ ndErr vars (i + j) x = 0
  | [], _, _, _, _, j, x, h => by simp at h
  | y :: ys, i, vs, ok, hl, j, x, h => by
    obtain ⟨hx, hxs⟩ := ndsOK_cons ok
    cases j with
    | zero =>
      have e : y = x := by simpa using h
      subst e
      simp only [valsN, Nat.add_zero]
      refine ⟨?_, hx⟩
      rw [valsN_pre _ _ _ (by simp), gd_snoc, if_neg (by omega), if_pos rfl]
      have hc : ∀ k, cntV vs y.args k = cntV (valsN (vs ++ [ndVal y (cntV vs y.args 0) (cntV vs y.args 1) (cntV vs y.args 2)]) ys) y.args k := fun k => by
        apply cnt_congr
        intro a ha
        have := ndErr_arg hx a ha
        rw [valsN_pre _ _ _ (by simp; omega), gd_snoc, if_pos (by omega)]
      rw [← hc, ← hc, ← hc]
    | succ j =>
      simp only [List.getElem?_cons_succ] at h
      have ih := valsN_at hv ys (i + 1) (vs ++ [ndVal y (cntV vs y.args 0) (cntV vs y.args 1) (cntV vs y.args 2)]) hxs (by simp; omega) j x h
      simp only [valsN]
      rw [show vs.length + (j + 1) = (vs ++ [ndVal y (cntV vs y.args 0) (cntV vs y.args 1) (cntV vs y.args 2)]).length + j from by simp; omega, show i + (j + 1) = i + 1 + j from by omega]
      exact ih
/-- the next event is an event and unknown -/
theorem nextAt_ok {f : Fm} (hv : 0 ≤ f.vars) (h : ndsOK f.vars 0 f.nodes) (yes no : Nat) : ∀ (n a : Nat), a < f.vars.toNat + n → a < f.vars.toNat + f.nodes.length → gd (valsF f yes no) a = 2 →
    nextAt f.vars.toNat f.nodes (valsF f yes no) (n + 1) a < f.vars.toNat ∧ ev3 yes no (nextAt f.vars.toNat f.nodes (valsF f yes no) (n + 1) a) = 2
  | n, a, hn, ha, h2 => by
    unfold nextAt
    by_cases hlt : a < f.vars.toNat
    · rw [if_pos hlt]
      refine ⟨hlt, ?_⟩
      unfold valsF at h2
      rw [valsN_pre _ _ _ (by rw [valsE_length]; exact hlt), valsE_gd, if_pos hlt] at h2
      exact h2
    · rw [if_neg hlt]
      obtain ⟨m, rfl⟩ : ∃ m, n = m + 1 := ⟨n - 1, by omega⟩
      obtain ⟨x, hx⟩ : ∃ x, f.nodes[a - f.vars.toNat]? = some x := ⟨f.nodes[a - f.vars.toNat]'(by omega), List.getElem?_eq_getElem (by omega)⟩
      have hnd : ndOf f.nodes (a - f.vars.toNat) = x := by unfold ndOf; rw [List.getD_eq_getElem?_getD, hx]; rfl
      rw [hnd]
      obtain ⟨k1, k2⟩ := valsN_at hv f.nodes 0 (valsE f.vars.toNat yes no) h (by rw [valsE_length]; rfl) _ x hx
      rw [valsE_length, show f.vars.toNat + (a - f.vars.toNat) = a from by omega] at k1
      have hle : ∀ j, gd (valsF f yes no) j ≤ 2 := by
        have e : ∀ j, gd (valsE f.vars.toNat yes no) j ≤ 2 := fun j => by
          rw [valsE_gd]; split
          · exact ev3_le _ _ _
          · decide
        exact (valsN_fits f.nodes 0 _ _ h rfl e e (fun _ _ => rfl)).1
      have hex : ∃ b ∈ x.args, gd (valsF f yes no) b.toNat = 2 := by
        by_cases q : ∃ b ∈ x.args, gd (valsF f yes no) b.toNat = 2
        · exact q
        · exfalso
          have := nd_known' k2 hle (fun b hb e => q ⟨b, hb, e⟩)
          unfold valsF at this h2
          rw [← k1] at this
          exact this h2
      obtain ⟨b, hb, hb1, hb2⟩ := firstUnk_ok hex
      rw [hb1]
      have hr := ndErr_arg k2 b hb
      exact nextAt_ok hv h yes no m b.toNat (by omega) (by omega) hb2
  termination_by n => n
theorem fmNext_ok {f : Fm} (h : fmErr f = 0) {yes no : Nat} (h2 : fmVal f yes no = 2) : fmNext f yes no < f.vars.toNat ∧ ev3 yes no (fmNext f yes no) = 2 := by
  unfold fmErr at h
  split at h
  · cases h
  split at h
  · cases h
  split at h
  · rename_i k; exact absurd h k
  rename_i k1 _ k3
  split at h
  · rename_i k4
    unfold argOK at k4
    simp at k4
    have hds : ndsOK f.vars 0 f.nodes := by unfold ndsOK; omega
    exact nextAt_ok (by omega) hds yes no f.nodes.length f.top.toNat (by omega) (by omega) h2
  · cases h
end Go.Proofs.YthhgfhdmfhnklaaGreatDoor
/-
  Split trees in plain words: errors, leaves; weights of cubes: a cube's weight is its halves' sum.
  Conditions: none.
-/
namespace Go.Proofs.YthhgfhdmfhnklaaGreatDoor

mutual
/-- the nodes counted so far and the number of the error -/
def trErr (vars : Int) : Tr → Nat → Nat → Nat × Nat
  | .mk v ks r, above, n =>
    if 4096 < n + 1 then (n + 1, 4)
    else if ks.length ≠ 0 ∧ ks.length ≠ 2 then (n + 1, 11)
    else if ks.length = 0 then (n + 1, if v ≠ 0 then 2 else 0)
    else if v < 0 ∨ vars ≤ v then (n + 1, 3)
    else if above.testBit v.toNat then (n + 1, 6)
    else if r ≠ 0 then (n + 1, 2)
    else trsErr vars ks (above ||| 1 <<< v.toNat) (n + 1)
def trsErr (vars : Int) : List Tr → Nat → Nat → Nat × Nat
  | [], _, n => (n, 0)
  | t :: ts, above, n => if (trErr vars t above n).2 ≠ 0 then trErr vars t above n else trsErr vars ts above (trErr vars t above n).1
end
/-- a leaf: its cube, its reason -/
structure Lf where
  yes : Nat
  no : Nat
  reason : Int
def trLeaves : Tr → Nat → Nat → List Lf
  | .mk v [a, b] _, y, n => trLeaves a y (n ||| 1 <<< v.toNat) ++ trLeaves b (y ||| 1 <<< v.toNat) n
  | .mk _ _ r, y, n => [⟨y, n, r⟩]

/-- an event's factor -/
def wtAt (p : Rat) (y n : Bool) : Rat := if y then p else if n then 1 - p else 1
def wtL : List Rat → Nat → Nat → Nat → Rat
  | [], _, _, _ => 1
  | p :: ps, i, y, n => wtAt p (y.testBit i) (n.testBit i) * wtL ps (i + 1) y n
def wt (ps : List Rat) (y n : Nat) : Rat := wtL ps 0 y n
theorem bit_or (x v j : Nat) : (x ||| 1 <<< v).testBit j = (x.testBit j || decide (j = v)) := by
  rw [Nat.testBit_or, Nat.one_shiftLeft, Nat.testBit_two_pow]
  congr 1
  by_cases h : v = j
  · simp [h]
  · simp [h, Ne.symm h]
end Go.Proofs.YthhgfhdmfhnklaaGreatDoor
/-
  Split trees in memory.
  Conditions: none.
-/
namespace Go.Proofs.YthhgfhdmfhnklaaGreatDoor
open Go.RowKit Go.ChangeShapes Go.WideShapes

mutual
/-- three cells read as a tree -/
def TrAt (w : World) (b off : Nat) : Tr → Prop
  | .mk v ks r => w.cell? ⟨b, off, none⟩ = some (.int .i64 v) ∧ w.cell? ⟨b, off + 2, none⟩ = some (.int .i64 r) ∧ I64 v ∧ I64 r ∧
      ∃ ao c, w.cell? ⟨b, off + 1, none⟩ = some (.slice ao ks.length c) ∧ ks.length ≤ c ∧ c ≤ 9223372036854775807 ∧ (ao = none → c = 0) ∧
        ∀ b' o' s, ao = some ⟨b', o', s⟩ → (0 < ks.length → b' < w.heap.size ∧ s = none) ∧ KidsAt w b' o' ks
/-- trees one behind the other -/
def KidsAt (w : World) (b off : Nat) : List Tr → Prop
  | [] => True
  | t :: ts => TrAt w b off t ∧ KidsAt w b (off + 3) ts
end
/-- a slice of trees -/
def KidsV (w : World) (v : Value) (ks : List Tr) : Prop :=
  ∃ ao c, v = .slice ao ks.length c ∧ ks.length ≤ c ∧ c ≤ 9223372036854775807 ∧ (ao = none → c = 0) ∧
    ∀ b' o' s, ao = some ⟨b', o', s⟩ → (0 < ks.length → b' < w.heap.size ∧ s = none) ∧ KidsAt w b' o' ks
/-- the value reads as a tree -/
def TrV (w : World) (x : Value) : Tr → Prop
  | .mk v ks r => ∃ kv, x = .agg #[.int .i64 v, kv, .int .i64 r] ∧ KidsV w kv ks ∧ I64 v ∧ I64 r
theorem TrAt.parts {w : World} {b off : Nat} {v r : Int} {ks : List Tr} (h : TrAt w b off (.mk v ks r)) :
    w.cell? ⟨b, off, none⟩ = some (.int .i64 v) ∧ w.cell? ⟨b, off + 2, none⟩ = some (.int .i64 r) ∧ I64 v ∧ I64 r ∧ ∃ kv, w.cell? ⟨b, off + 1, none⟩ = some kv ∧ KidsV w kv ks := by
  simp only [TrAt] at h
  obtain ⟨h1, h2, h3, h4, ao, c, h5, h6, h7, h8, h9⟩ := h
  exact ⟨h1, h2, h3, h4, _, h5, ao, c, rfl, h6, h7, h8, h9⟩
mutual
theorem TrAt.mono {w w' : World} {B : Nat} (hb : Below B w w') (hB : w.heap.size ≤ B) : ∀ (t : Tr) (b off : Nat), b < B → TrAt w b off t → TrAt w' b off t
  | .mk v ks r, b, off, hlt, h => by
    simp only [TrAt] at h ⊢
    obtain ⟨h1, h2, h3, h4, ao, c, h5, h6, h7, h8, h9⟩ := h
    refine ⟨?_, ?_, h3, h4, ao, c, ?_, h6, h7, h8, ?_⟩
    · rw [hb.cell (p := ⟨b, _, none⟩) hlt]; exact h1
    · rw [hb.cell (p := ⟨b, _, none⟩) hlt]; exact h2
    · rw [hb.cell (p := ⟨b, _, none⟩) hlt]; exact h5
    · intro b' o' s hs
      obtain ⟨k1, k2⟩ := h9 b' o' s hs
      refine ⟨fun h0 => ⟨Nat.lt_of_lt_of_le (k1 h0).1 hb.size, (k1 h0).2⟩, ?_⟩
      cases ks with
      | nil => simp only [KidsAt]
      | cons t ts => exact KidsAt.mono hb hB (t :: ts) b' o' (Nat.lt_of_lt_of_le (k1 (by simp)).1 hB) k2
theorem KidsAt.mono {w w' : World} {B : Nat} (hb : Below B w w') (hB : w.heap.size ≤ B) : ∀ (ts : List Tr) (b off : Nat), b < B → KidsAt w b off ts → KidsAt w' b off ts
  | [], _, _, _, _ => by simp only [KidsAt]
  | t :: ts, b, off, hlt, h => by
    simp only [KidsAt] at h ⊢
    exact ⟨TrAt.mono hb hB t b off hlt h.1, KidsAt.mono hb hB ts b (off + 3) hlt h.2⟩
end
theorem KidsV.below {w w' : World} {v : Value} {ks : List Tr} (h : KidsV w v ks) (hb : Below w.heap.size w w') : KidsV w' v ks := by
  obtain ⟨ao, c, h1, h2, h3, h4, h5⟩ := h
  refine ⟨ao, c, h1, h2, h3, h4, fun b' o' s hs => ?_⟩
  obtain ⟨k1, k2⟩ := h5 b' o' s hs
  refine ⟨fun h0 => ⟨Nat.lt_of_lt_of_le (k1 h0).1 hb.size, (k1 h0).2⟩, ?_⟩
  cases ks with
  | nil => simp only [KidsAt]
  | cons t ts => exact KidsAt.mono hb (Nat.le_refl _) (t :: ts) b' o' (k1 (by simp)).1 k2
theorem TrV.below {w w' : World} {x : Value} {t : Tr} (h : TrV w x t) (hb : Below w.heap.size w w') : TrV w' x t := by
  cases t with
  | mk v ks r =>
    obtain ⟨kv, h1, h2, h3, h4⟩ := h
    exact ⟨kv, h1, h2.below hb, h3, h4⟩
theorem KidsAt.get {w : World} {b : Nat} : ∀ (ts : List Tr) (off j : Nat) (t : Tr), KidsAt w b off ts → ts[j]? = some t → TrAt w b (off + j * 3) t
  | [], _, j, t, _, h => by simp at h
  | x :: xs, off, j, t, hk, h => by
    simp only [KidsAt] at hk
    cases j with
    | zero => simp at h; subst h; simpa using hk.1
    | succ j =>
      simp only [List.getElem?_cons_succ] at h
      have := KidsAt.get xs (off + 3) j t hk.2 h
      rw [show off + (j + 1) * 3 = off + 3 + j * 3 from by omega]; exact this
end Go.Proofs.YthhgfhdmfhnklaaGreatDoor
/-
  Arguments that are formulas and trees, whatever the program's numbers of types.
  Conditions: each theorem's own.
-/
namespace Go.Proofs.YthhgfhdmfhnklaaGreatDoor
open Go.RowKit Go.ChangeShapes Go.WideShapes Go.Deep

theorem i64_wf {n : Int} (h : (Lit.int .i64 n).wf = true) : I64 n := by
  simp only [Lit.wf, Bool.and_eq_true, decide_eq_true_eq] at h
  have h1 : IntKind.i64.min = -9223372036854775808 := by decide
  have h2 : IntKind.i64.max = 9223372036854775807 := by decide
  rw [h1, h2] at h
  exact h
theorem addr_add (b off j : Nat) : (⟨b, off, none⟩ : Addr).add j = ⟨b, off + j, none⟩ := by unfold Addr.add; split <;> simp_all
theorem cell_none {W : World} {b off j : Nat} {s : Option Nat} {x : Value} (h : W.cell? ((⟨b, off, s⟩ : Addr).add j) = some x) (hj : j = 0) : b < W.heap.size ∧ s = none := by
  subst hj
  have e0 : (⟨b, off, s⟩ : Addr).add 0 = ⟨b, off, s⟩ := by simp [Addr.add]
  rw [e0] at h
  refine ⟨World.block_lt_of_cell? W _ h, ?_⟩
  cases s with
  | none => rfl
  | some x =>
    unfold World.cell? at h
    split at h <;> simp at h
instance : Inhabited (Nd × Value) := ⟨(⟨0, 0, []⟩, .nilIface)⟩
section
variable {H : Type} {enc : TypeId × Value → H} {P : Program} {W : World}
theorem open_ints_cell {t e : TypeId} {v : Value} {x : DataW H × List MemPlace} {fuel : Nat} (ht : P.underlying t = some (.slice e)) (he : P.underlying e = some (.int .i64)) (hc : P.cellsOf e = 1)
    (hf : DataW.trod enc P W 0 (fun _ => true) true fuel t [v] = some x) : ∃ l : List Int, IntsV W v l := by
  rcases open_ints ht he hc hf with ⟨hcs, hx⟩ | ⟨a, len', cap', zs, hcs, _, hl, hm, hz, hx, hcell, hwz⟩
  · have hcs' : v = .slice none 0 0 := by simpa using hcs
    rw [hcs']; exact ⟨[], none, 0, rfl, Nat.le_refl _, by omega, fun _ => rfl, (fun b off s h => by cases h), (fun x hx => by cases hx)⟩
  · have hcs' : v = .slice (some a) len' cap' := by simpa using hcs
    rw [hcs']
    have hz' : len' ≤ zs.length := by rw [hz]; simp; exact hl
    have hlen : (zs.take len').length = len' := by rw [List.length_take]; omega
    refine ⟨zs.take len', some a, cap', by rw [hlen], by omega, by unfold maxLen at hm; omega, by simp, ?_, fun x hx => i64_wf (hwz x (List.mem_of_mem_take hx))⟩
    intro b off s hs
    obtain rfl : a = ⟨b, off, s⟩ := Option.some.inj hs
    have h0 : 0 < len' → b < W.heap.size ∧ s = none := fun h0 => cell_none (hcell 0 (by omega)) rfl
    refine ⟨fun hh => h0 (by omega), fun j x hj => ?_⟩
    have hjl : j < len' := by
      have := getElem?_pos hj
      rcases Nat.lt_or_ge j (zs.take len').length with q | q
      · omega
      · rw [List.getElem?_eq_none q] at hj; cases hj
    obtain ⟨_, rfl⟩ := h0 (by omega)
    have := hcell j (by omega)
    rw [addr_add] at this
    rw [this]
    congr 2
    rw [List.getElem?_take, if_pos hjl] at hj
    rw [List.getD_eq_getElem?_getD, hj]; rfl
/-- the numbers of the types of nodes -/
structure NodeTys (P : Program) (ti tis tn : TypeId) : Prop where
  hi : P.underlying ti = some (.int .i64)
  ci : P.cellsOf ti = 1
  his : P.underlying tis = some (.slice ti)
  cis : P.cellsOf tis = 1
  cn : P.cellsOf tn = 3
  hn : ∃ f0 f1 f2 : Field, P.underlying tn = some (.struct #[f0, f1, f2]) ∧ f0.type = ti ∧ f1.type = ti ∧ f2.type = tis ∧ f0.offset = 0 ∧ f1.offset = 1 ∧ f2.offset = 2
theorem open_node {ti tis tn : TypeId} (T : NodeTys P ti tis tn) {cs : List Value} {x : DataW H × List MemPlace} {fuel : Nat} (h : DataW.trod enc P W 0 (fun _ => true) true fuel tn cs = some x) :
    ∃ (n : Nd) (av : Value), cs = [.int .i64 n.kind, .int .i64 n.K, av] ∧ IntsV W av n.args ∧ I64 n.kind ∧ I64 n.K := by
  obtain ⟨f0, f1, f2, hu, t0, t1, t2, o0, o1, o2⟩ := T.hn
  obtain ⟨y0, y1, y2, m, _, hl, h0, h1, h2⟩ := trod_struct3 hu h
  rw [T.cn] at hl
  rw [t0, o0, T.ci] at h0; rw [t1, o1, T.ci] at h1; rw [t2, o2, T.cis] at h2
  match cs, hl with
  | [c0, c1, c2], _ =>
    simp only [List.drop, List.take] at h0 h1 h2
    obtain ⟨k0, e0, _, w0⟩ := DataW.trod_int T.hi h0
    obtain ⟨k1, e1, _, w1⟩ := DataW.trod_int T.hi h1
    obtain ⟨l, hL⟩ := open_ints_cell T.his T.hi T.ci h2
    simp only [List.cons.injEq, and_true] at e0 e1
    exact ⟨⟨k0, k1, l⟩, c2, by rw [e0, e1], hL, i64_wf w0, i64_wf w1⟩
theorem open_nodes {ti tis tn tns : TypeId} (T : NodeTys P ti tis tn) (hns : P.underlying tns = some (.slice tn)) {v : Value} {x : DataW H × List MemPlace} {fuel : Nat}
    (h : DataW.trod enc P W 0 (fun _ => true) true fuel tns [v] = some x) : ∃ l : List Nd, NdsV W v l := by
  rcases open_slice hns h with ⟨hcs, _⟩ | ⟨a, len, cap, m, n, D, Pl, hcs, _, hl, hm, hmm, _, hel⟩
  · have hcs' : v = .slice none 0 0 := by simpa using hcs
    rw [hcs']; exact ⟨[], none, 0, rfl, Nat.le_refl _, by omega, fun _ => rfl, fun b off s h => by cases h⟩
  · have hcs' : v = .slice (some a) len cap := by simpa using hcs
    rw [hcs']
    simp only [if_true] at hmm
    subst hmm
    rw [T.cn] at hel
    obtain ⟨F, hF⟩ := choose_lt (α := Nd × Value) (n := len) (p := fun i q => W.cell? (a.add (i * 3)) = some (.int .i64 q.1.kind) ∧ W.cell? ((a.add (i * 3)).add 1) = some (.int .i64 q.1.K) ∧ W.cell? ((a.add (i * 3)).add 2) = some q.2 ∧ IntsV W q.2 q.1.args ∧ I64 q.1.kind ∧ I64 q.1.K) (fun i hi => by
      obtain ⟨cs', h1, h2⟩ := hel i (by omega)
      obtain ⟨nd, av, rfl, k1, k2, k3⟩ := open_node T h2
      obtain ⟨_, _, hc⟩ := World.cells?_some h1
      refine ⟨(nd, av), ?_, hc 1 (by omega), hc 2 (by omega), k1, k2, k3⟩
      have := hc 0 (by omega)
      rw [show (a.add (i * 3)).add 0 = a.add (i * 3) from by simp [Addr.add]] at this
      exact this)
    refine ⟨(List.range len).map fun i => (F i).1, some a, m, by simp, by simp; omega, by unfold maxLen at hm; omega, by simp, ?_⟩
    intro b off s hs
    obtain rfl : a = ⟨b, off, s⟩ := Option.some.inj hs
    have h0 : 0 < len → b < W.heap.size ∧ s = none := fun h0 => by
      have := (hF 0 h0).1
      rw [Nat.zero_mul] at this
      exact cell_none this rfl
    refine ⟨fun hh => h0 (by simpa using hh), fun j z hj => ?_⟩
    have hjl : j < len := by
      rcases Nat.lt_or_ge j len with q | q
      · exact q
      · rw [List.getElem?_eq_none (by simpa using q)] at hj; cases hj
    rw [List.getElem?_map, List.getElem?_range hjl] at hj
    have hz : (F j).1 = z := by simpa using hj
    subst hz
    obtain ⟨_, rfl⟩ := h0 (by omega)
    obtain ⟨k1, k2, k3, k4, k5, k6⟩ := hF j hjl
    rw [addr_add] at k1 k2 k3
    rw [addr_add] at k2 k3
    exact ⟨k1, k2, ⟨_, k3, k4⟩, k5, k6⟩
instance : Inhabited Tr := ⟨.mk 0 [] 0⟩
theorem trAt_mk {w : World} {b off : Nat} {v r : Int} {ks : List Tr} {kv : Value} (h1 : w.cell? ⟨b, off, none⟩ = some (.int .i64 v)) (h2 : w.cell? ⟨b, off + 1, none⟩ = some kv) (h3 : w.cell? ⟨b, off + 2, none⟩ = some (.int .i64 r))
    (hk : KidsV w kv ks) (h4 : I64 v) (h5 : I64 r) : TrAt w b off (.mk v ks r) := by
  obtain ⟨ao, c, rfl, k2, k3, k4, k5⟩ := hk
  simp only [TrAt]
  exact ⟨h1, h3, h4, h5, ao, c, h2, k2, k3, k4, k5⟩
end
end Go.Proofs.YthhgfhdmfhnklaaGreatDoor
/-
  Closed intervals of rational numbers: least and greatest, sums, products, quotients, hulls and common parts.
  Conditions: none.
-/
namespace Go.Proofs.YthhgfhdmfhnklaaGreatDoor

/-- the lesser, the greater one -/
def mn (p q : Rat) : Rat := if p ≤ q then p else q
def mx (p q : Rat) : Rat := if q ≤ p then p else q
/-- the number x lies in the interval a -/
def inS (a : Rat × Rat) (x : Rat) : Prop := a.1 ≤ x ∧ x ≤ a.2
instance (a : Rat × Rat) (x : Rat) : Decidable (inS a x) := by unfold inS; exact inferInstance
def subS (a b : Rat × Rat) : Prop := inS b a.1 ∧ inS b a.2
instance (a b : Rat × Rat) : Decidable (subS a b) := by unfold subS; exact inferInstance
end Go.Proofs.YthhgfhdmfhnklaaGreatDoor
/-
  A statement that leaves its order open and holds calls and new variables: one walk, whatever the order: each operation leaves a fact that later operations keep.
  Conditions: each theorem's own.
-/
namespace Go.Proofs.YthhgfhdmfhnklaaGreatDoor
open Go.RowKit Go.ChangeShapes Go.WideShapes

section
variable {P : Program} {ops : Array Oper} {md : Region.Mode}

/-- the slot that operation j writes -/
def dstOf (ops : Array Oper) (j : Nat) : Option Tmp := (ops[j]?).bind (·.dst)
/-- the frame behind the first n operations' values, of those that are listed -/
def putsTo (ops : Array Oper) (listed : Nat → Bool) (vals : Nat → Value) (a : Act) : Nat → Act
  | 0 => a
  | n + 1 => if listed n then (putsTo ops listed vals a n).put (dstOf ops n) (vals n) else putsTo ops listed vals a n
theorem putsTo_congr {l l' : Nat → Bool} {v v' : Nat → Value} {a : Act} {n : Nat} (h : ∀ j, j < n → l j = l' j ∧ (l j = true → v j = v' j)) : putsTo ops l v a n = putsTo ops l' v' a n := by
  induction n with
  | zero => rfl
  | succ n ih =>
    obtain ⟨h1, h2⟩ := h n (by omega)
    unfold putsTo
    rw [ih (fun j hj => h j (by omega)), ← h1]
    by_cases hl : l n = true
    · rw [if_pos hl, if_pos hl, h2 hl]
    · rw [if_neg hl, if_neg hl]
theorem putsTo_set {l : Nat → Bool} {vals : Nat → Value} {a : Act} {i : Nat} {v : Value} (hi : l i = false) :
    ∀ n, i < n → (∀ j, j < n → j ≠ i → ∀ d, dstOf ops i = some d → dstOf ops j ≠ some d) →
    putsTo ops (fun j => if j = i then true else l j) (fun j => if j = i then v else vals j) a n = (putsTo ops l vals a n).put (dstOf ops i) v := by
  intro n
  induction n with
  | zero => intro h; omega
  | succ n ih =>
    intro hin hd
    unfold putsTo
    by_cases hn : n = i
    · subst hn
      have e := putsTo_congr (ops := ops) (l := fun j => if j = n then true else l j) (l' := l) (v := fun j => if j = n then v else vals j) (v' := vals) (a := a) (n := n) (fun j hj => by
        have : j ≠ n := by omega
        exact ⟨by show (if j = n then true else l j) = l j; rw [if_neg this], fun _ => by show (if j = n then v else vals j) = vals j; rw [if_neg this]⟩)
      rw [e]
      simp only [if_true, hi, Bool.false_eq_true, if_false]
    · rw [if_neg hn, if_neg hn, ih (by omega) (fun j hj => hd j (by omega))]
      by_cases hl : l n = true
      · rw [if_pos hl, if_pos hl, Act.put_comm _ v (vals n) (hd n (by omega) hn)]
      · rw [if_neg hl, if_neg hl]
theorem getD_set_self (t : Array Value) (d : Nat) (v u : Value) : (t.setIfInBounds d v).getD d u = if d < t.size then v else u := by
  by_cases h : d < t.size <;> simp [h]
theorem putsTo_eval {l : Nat → Bool} {vals : Nat → Value} {a : Act} {x : Operand} : ∀ n, (∀ t, x = .tmp t → ∀ j, j < n → dstOf ops j = some t → l j = true) →
    (putsTo ops l vals a n).eval x = (putsTo ops (fun _ => true) vals a n).eval x ∧ (putsTo ops l vals a n).tmps.size = (putsTo ops (fun _ => true) vals a n).tmps.size := by
  have hsz : ∀ (a : Act) (d : Option Tmp) (v : Value), (a.put d v).tmps.size = a.tmps.size := fun a d v => by cases d <;> simp [Act.put]
  intro n
  induction n with
  | zero => intro _; exact ⟨rfl, rfl⟩
  | succ n ih =>
    intro h
    obtain ⟨h1, h2⟩ := ih (fun t ht j hj => h t ht j (by omega))
    unfold putsTo
    rw [if_pos rfl]
    by_cases hl : l n = true
    · rw [if_pos hl, hsz, hsz]
      refine ⟨?_, h2⟩
      cases hd : dstOf ops n with
      | none => exact h1
      | some d =>
        cases x with
        | tmp t =>
          by_cases htd : d = t
          · subst htd
            show ((putsTo ops l vals a n).tmps.setIfInBounds d (vals n)).getD d undef = ((putsTo ops (fun _ => true) vals a n).tmps.setIfInBounds d (vals n)).getD d undef
            rw [getD_set_self, getD_set_self, h2]
          · rw [Act.eval_put (fun e he hx => htd (by cases he; cases hx; rfl)), Act.eval_put (fun e he hx => htd (by cases he; cases hx; rfl))]; exact h1
        | _ => exact h1
    · rw [if_neg hl, hsz]
      refine ⟨?_, h2⟩
      rw [Act.eval_put (fun d hd hx => hl (h d hx n (by omega) hd))]; exact h1

/-- an operation, run at a frame, yields a value and a world as R says -/
def StepOK (P : Program) (o : Oper) (a : Act) (w : World) (R : Value → World → Prop) : Prop :=
  match (execOp a.eval o).run P w with
  | .ok (.value v) w' => R v w'
  | .ok (.enter f args) w' => Calls P f args w' fun e w'' => ∃ v, e = .returned v ∧ R v w''
  | _ => False
/-- an operation under its guard -/
def StepG (P : Program) (ops : Array Oper) (o : Oper) (a : Act) (w : World) (R : Value → World → Prop) : Prop :=
  if Region.wanted o (yielded ops a.tmps) = true then StepOK P o a w R else R undef w
theorem wpOp_of_stepG {o : Oper} {a a' : Act} {w : World} {i : Nat} {R : Value → World → Prop} {Q : Exit → Act → World → Prop} {K : Act → World → Prop} (hi : ops[i]? = some o)
    (hg : Region.wanted o (yielded ops a.tmps) = Region.wanted o (yielded ops a'.tmps))
    (he : execOp a.eval o = execOp a'.eval o) (h : StepG P ops o a' w R) (hK : ∀ v w', R v w' → K (a.put o.dst v) w') : wpOp P ops Q i K a w := by
  unfold wpOp
  simp only [hi]
  unfold StepG at h
  rw [hg]
  by_cases hw : Region.wanted o (yielded ops a'.tmps) = true
  · rw [if_pos hw] at h ⊢
    left
    unfold StepOK at h
    unfold Oper.wp
    rw [he]
    generalize (execOp a'.eval o).run P w = r at h
    cases r with
    | ok n w' =>
      cases n <;> simp only [Oper.upon] at h ⊢
      case value v => exact hK _ _ h
      case enter f args => exact h.mono fun e w'' ⟨v, hv, hr⟩ => by subst hv; exact hK _ _ hr
      all_goals exact h.elim
    | halt x w' => simp at h
  · rw [if_neg hw] at h ⊢
    exact hK _ _ h
theorem putsTo_wanted {l : Nat → Bool} {vals : Nat → Value} {a : Act} {o : Oper} (n : Nat) (h : ∀ g b, o.guard = some (g, b) → ∀ t, dstOf ops g = some t → ∀ j, j < n → dstOf ops j = some t → l j = true) :
    Region.wanted o (yielded ops (putsTo ops l vals a n).tmps) = Region.wanted o (yielded ops (putsTo ops (fun _ => true) vals a n).tmps) := by
  unfold Region.wanted
  cases hg : o.guard with
  | none => rfl
  | some gw =>
    obtain ⟨g, want⟩ := gw
    have hy : yielded ops (putsTo ops l vals a n).tmps g = yielded ops (putsTo ops (fun _ => true) vals a n).tmps g := by
      unfold yielded
      cases ht : (ops[g]?).bind (·.dst) with
      | none => rfl
      | some t =>
        obtain ⟨h1, h2⟩ := putsTo_eval (ops := ops) (l := l) (vals := vals) (a := a) (x := .tmp t) n (fun t' ht' j hj hd => h g want hg t ht j hj (by rw [hd]; cases ht'; rfl))
        have h3 : (putsTo ops l vals a n).tmps[t]? = (putsTo ops (fun _ => true) vals a n).tmps[t]? := by
          have h4 : (putsTo ops l vals a n).tmps.getD t undef = (putsTo ops (fun _ => true) vals a n).tmps.getD t undef := h1
          rcases Nat.lt_or_ge t (putsTo ops l vals a n).tmps.size with hl | hl
          · have hl2 : t < (putsTo ops (fun _ => true) vals a n).tmps.size := by rw [← h2]; exact hl
            rw [Array.getElem?_eq_getElem hl, Array.getElem?_eq_getElem hl2]
            simp [hl, hl2] at h4
            rw [h4]
          · rw [Array.getElem?_eq_none hl, Array.getElem?_eq_none (by omega)]
        show (match (some t).bind ((putsTo ops l vals a n).tmps[·]?) with | some (.bool b) => some b | _ => none) = (match (some t).bind ((putsTo ops (fun _ => true) vals a n).tmps[·]?) with | some (.bool b) => some b | _ => none)
        simp only [Option.bind_some, h3]
    simp only [hy]

/-- each operation of the head but the floating ones has a later one of the head, or the first behind it, that waits for it and does not float -/
def sinkF (md : Region.Mode) (ops : Array Oper) (fl : List Nat) (n : Nat) : Bool :=
  (List.range n).all fun i => fl.contains i || (List.range (n + 1)).any fun j => decide (i < j) && !fl.contains j && Region.waitsFor md ops j i
/-- a floating operation is out of all others' way -/
def floatB (md : Region.Mode) (ops : Array Oper) (fl : List Nat) : Bool :=
  fl.all fun i => match ops[i]? with
    | none => false
    | some oi => oi.guard.isNone && (List.range ops.size).all fun j => j == i || Region.waitsFor md ops j i || Region.waitsFor md ops i j || match ops[j]? with
      | some oj => oi.apart ops oj
      | none => true
/-- what the law asks of a region: n operations of its head wait for earlier ones alone, write slots of their own and read what they wait for; the rest stands behind them in one order -/
def headB (md : Region.Mode) (ops : Array Oper) (fl : List Nat) (n : Nat) : Bool :=
  Region.noSelect ops && decide (n < ops.size) && (sinkF md ops fl n && floatB md ops fl && fl.all (fun i => decide (i < n))) && Region.chainB md ops n &&
  ((List.range n).all fun k => match ops[k]? with
    | none => false
    | some o => (match o.guard with | none => true | some (g, _) => decide (g < n) && Region.waitsFor md ops k g) && (o.after.all fun e => !Region.binds md e || decide (e.on < k)) &&
      ((List.range n).all fun j => (j == k || o.dst.isNone || decide (dstOf ops j ≠ o.dst)) &&
        (o.op.operands.all fun x => match x with
          | .tmp t => decide (dstOf ops j ≠ some t) || Region.waitsFor md ops k j
          | _ => true))) &&
  Region.seqB md ops (ops.size - n) n ((Array.range ops.size).map fun i => decide (i < n))
/-- while something of the head that does not float is not listed, nothing behind the head comes up -/
theorem tail_waitsF {n : Nat} {fl : List Nat} {listed : Array Bool} (hs : sinkF md ops fl n = true) (hc : Region.chainB md ops n = true) (hn : n < ops.size) (inv : HeadInv md ops n listed) :
    ∀ (d i : Nat), n - i = d → i < n → fl.contains i = false → listed.getD i true = false → ∀ t, n ≤ t → t ∉ Region.ready md ops listed := by
  intro d
  induction d using Nat.strongRecOn with
  | _ d ih =>
    intro i hd hi hfi hun t ht hr
    obtain ⟨_, ot, hot, hall⟩ := mem_ready.1 hr
    have htlt : t < ops.size := (Array.getElem?_eq_some_iff.1 hot).1
    by_cases htn : t = n
    · subst htn
      have h1 := List.all_eq_true.1 hs i (List.mem_range.2 hi)
      rw [hfi, Bool.false_or] at h1
      obtain ⟨j, hj, hj2⟩ := List.any_eq_true.1 h1
      simp only [Bool.and_eq_true, decide_eq_true_eq, Bool.not_eq_true'] at hj2
      obtain ⟨oj, hoj, e, he, hb, hon⟩ := Region.waitsFor_spec hj2.2
      have hjle : j ≤ t := by have := List.mem_range.1 hj; omega
      by_cases hjt : j = t
      · subst hjt
        have : oj = ot := Option.some.inj (hoj.symm.trans hot)
        subst this
        have h2 := hall e he hb
        rw [hon, getD_both hun] at h2
        cases h2
      · cases hl : listed.getD j false with
        | true =>
          have h2 := inv.closed j oj hoj hl e he hb
          rw [hon, getD_both hun] at h2
          cases h2
        | false =>
          have hjs : j < listed.size := by rw [inv.size]; omega
          exact ih (t - j) (by omega) j rfl (by omega) hj2.1.2 (getD_in hjs hl) t (Nat.le_refl _) hr
    · have h1 := List.all_eq_true.1 hc t (List.mem_range.2 htlt)
      simp only [Bool.or_eq_true, decide_eq_true_eq] at h1
      rcases h1 with h1 | h1
      · omega
      · obtain ⟨o', ho', e, he, hb, hon⟩ := Region.waitsFor_spec h1
        have : o' = ot := Option.some.inj (ho'.symm.trans hot)
        subst this
        have h2 := hall e he hb
        rw [hon, getD_both (inv.tail (t - 1) (by omega) (by omega))] at h2
        cases h2

structure HeadOK (md : Region.Mode) (ops : Array Oper) (n k : Nat) (o : Oper) : Prop where
  guard : ∀ g b, o.guard = some (g, b) → g < n ∧ Region.waitsFor md ops k g = true
  early : ∀ e ∈ o.after, Region.binds md e = true → e.on < k
  dst : ∀ j, j < n → j ≠ k → ∀ d, o.dst = some d → dstOf ops j ≠ some d
  reads : ∀ x ∈ o.op.operands, ∀ t, x = .tmp t → ∀ j, j < n → dstOf ops j = some t → Region.waitsFor md ops k j = true
theorem headB_ok {n k : Nat} {fl : List Nat} {o : Oper} (h : headB md ops fl n = true) (hk : k < n) (ho : ops[k]? = some o) : HeadOK md ops n k o := by
  unfold headB at h
  simp only [Bool.and_eq_true] at h
  have h1 := List.all_eq_true.1 h.1.2 k (List.mem_range.2 hk)
  rw [ho] at h1
  simp only [Bool.and_eq_true, List.all_eq_true, List.mem_range] at h1
  obtain ⟨⟨g1, g2⟩, g3⟩ := h1
  refine ⟨fun g b hg => by
    rw [hg] at g1
    simpa using g1, fun e he hb => ?_, fun j hj hjk d hd => ?_, fun x hx t ht j hj hd => ?_⟩
  · have := Array.all_eq_true_iff_forall_mem.1 g2 e he
    rw [hb] at this; simpa using this
  · have := (g3 j hj).1
    rw [hd] at this
    simp only [Bool.or_eq_true, beq_iff_eq, Option.isNone_some, Bool.false_eq_true, or_false, decide_eq_true_eq] at this
    rcases this with h | h
    · exact absurd h hjk
    · exact h
  · have := Array.all_eq_true_iff_forall_mem.1 (g3 j hj).2 x hx
    subst ht
    simp only [Bool.or_eq_true, decide_eq_true_eq] at this
    rcases this with h | h
    · exact absurd hd h
    · exact h

/-- what stands behind some listed operations -/
structure DrawInv (md : Region.Mode) (ops : Array Oper) (n : Nat) (F : Nat → Value → World → Prop) (AL : Nat → Bool) (w0 : World) (a0 : Act) (listed : Array Bool) (a : Act) (w : World) : Prop where
  head : HeadInv md ops n listed
  below : Below w0.heap.size w0 w
  vals : ∃ vals : Nat → Value, a = putsTo ops (fun j => listed.getD j false) vals a0 n ∧ (∀ j, j < n → listed.getD j false = true → F j (vals j) w) ∧
    (∀ j, j < n → listed.getD j false = true → AL j = true → ∃ g, vals j = .pointer (some ⟨g, 0, none⟩) ∧ g < w.heap.size) ∧
    (∀ j k, j < n → k < n → j ≠ k → listed.getD j false = true → listed.getD k false = true → AL j = true → AL k = true → vals j ≠ vals k)

/-- how many of the first n are not listed -/
def unl (listed : Array Bool) : Nat → Nat
  | 0 => 0
  | n + 1 => unl listed n + if listed.getD n false then 0 else 1
theorem unl_zero {listed : Array Bool} : ∀ n, unl listed n = 0 → ∀ j, j < n → listed.getD j false = true
  | 0, _, j, hj => by omega
  | n + 1, h, j, hj => by
    unfold unl at h
    by_cases hn : listed.getD n false = true
    · rw [if_pos hn] at h
      by_cases hjn : j = n
      · subst hjn; exact hn
      · exact unl_zero n (by omega) j (by omega)
    · rw [if_neg hn] at h; omega
theorem unl_first {listed : Array Bool} : ∀ n, unl listed n ≠ 0 → ∃ k, k < n ∧ listed.getD k false = false ∧ ∀ j, j < k → listed.getD j false = true
  | 0, h => absurd rfl h
  | n + 1, h => by
    by_cases hz : unl listed n = 0
    · unfold unl at h
      refine ⟨n, by omega, ?_, unl_zero n hz⟩
      cases hn : listed.getD n false with
      | false => rfl
      | true => rw [hz, hn] at h; simp at h
    · obtain ⟨k, h1, h2⟩ := unl_first n hz
      exact ⟨k, by omega, h2⟩
theorem unl_congr {l l' : Array Bool} : ∀ n, (∀ j, j < n → l.getD j false = l'.getD j false) → unl l n = unl l' n
  | 0, _ => rfl
  | n + 1, h => by
    unfold unl
    rw [unl_congr n (fun j hj => h j (by omega)), h n (by omega)]
theorem unl_set {listed : Array Bool} {i : Nat} (hs : i < listed.size) (hi : listed.getD i false = false) : ∀ n, i < n → unl (listed.setIfInBounds i true) n + 1 = unl listed n
  | 0, h => by omega
  | n + 1, h => by
    unfold unl
    by_cases hn : n = i
    · subst hn
      rw [unl_congr (l' := listed) n (fun j hj => getD_set_ne false (by omega)), hi]
      have : (listed.setIfInBounds n true).getD n false = true := by simp [hs]
      rw [this]; simp
    · have ih := unl_set hs hi n (by omega)
      rw [getD_set_ne false (Ne.symm hn)]; omega

/-- a step that yields in whatever world -/
def StepPure (P : Program) (o : Oper) (a : Act) (R : Value → Prop) : Prop := ∃ v, (∀ w, (execOp a.eval o).run P w = .ok (.value v) w) ∧ R v
/-- what a step leaves -/
def Leaves (F : Nat → Value → World → Prop) (AL : Nat → Bool) (i : Nat) (w1 : World) (v : Value) (w2 : World) : Prop :=
  Below w1.heap.size w1 w2 ∧ F i v w2 ∧ (AL i = true → v = .pointer (some ⟨w1.heap.size, 0, none⟩) ∧ w1.heap.size < w2.heap.size)
theorem leaves_mk {F : Nat → Value → World → Prop} {AL : Nat → Bool} {i : Nat} {w1 w2 : World} {v : Value} (hb : Below w1.heap.size w1 w2) (hf : F i v w2) (hal : AL i = true → v = .pointer (some ⟨w1.heap.size, 0, none⟩) ∧ w1.heap.size < w2.heap.size) : Leaves F AL i w1 v w2 := ⟨hb, hf, hal⟩
theorem DrawInv.next {n i : Nat} {oi : Oper} {fl : List Nat} {F : Nat → Value → World → Prop} {AL : Nat → Bool} {w0 w w' : World} {a0 a : Act} {listed : Array Bool} {v : Value} (hB : headB md ops fl n = true)
    (hF : ∀ i v w1 w2, F i v w1 → Below w1.heap.size w1 w2 → F i v w2) (inv : DrawInv md ops n F AL w0 a0 listed a w) (hi : i ∈ Region.ready md ops listed) (hin : i < n) (hoi : ops[i]? = some oi)
    (h : Leaves F AL i w v w') : DrawInv md ops n F AL w0 a0 (listed.setIfInBounds i true) (a.put oi.dst v) w' := by
  obtain ⟨hiu, oi', hoi', hdeps⟩ := mem_ready.1 hi
  have : oi' = oi := Option.some.inj (hoi'.symm.trans hoi)
  subst this
  have hiu' := getD_both hiu
  have ok := headB_ok hB hin hoi
  have his : i < listed.size := by rw [inv.head.size]; exact (Array.getElem?_eq_some_iff.1 hoi).1
  have hdst : dstOf ops i = oi'.dst := by unfold dstOf; rw [hoi]; rfl
  obtain ⟨vals, rfl, hv, hg, hd⟩ := inv.vals
  obtain ⟨hb, hf, hal⟩ := h
  refine ⟨inv.head.set hi hin, inv.below.trans (hb.mono inv.below.size), fun j => if j = i then v else vals j, ?_, ?_, ?_, ?_⟩
  · rw [← hdst, ← putsTo_set hiu' n hin (fun j hj hji => by rw [hdst]; exact ok.dst j hj hji)]
    refine putsTo_congr fun j hj => ⟨?_, fun _ => rfl⟩
    by_cases hji : j = i
    · subst hji; rw [if_pos rfl]; simp [his]
    · rw [if_neg hji, getD_set_ne false (Ne.symm hji)]
  · intro j hj hl
    show F j (if j = i then v else vals j) w'
    by_cases hji : j = i
    · subst hji; rw [if_pos rfl]; exact hf
    · rw [if_neg hji]
      rw [getD_set_ne false (Ne.symm hji)] at hl
      exact hF _ _ _ _ (hv j hj hl) hb
  · intro j hj hl aj
    show ∃ g, (if j = i then v else vals j) = _ ∧ _
    by_cases hji : j = i
    · subst hji; rw [if_pos rfl]
      obtain ⟨e1, e2⟩ := hal aj
      exact ⟨_, e1, e2⟩
    · rw [if_neg hji]
      rw [getD_set_ne false (Ne.symm hji)] at hl
      obtain ⟨g, e1, e2⟩ := hg j hj hl aj
      exact ⟨g, e1, Nat.lt_of_lt_of_le e2 hb.size⟩
  · intro j k' hj hk' hjk hl hl' aj ak
    show (if j = i then v else vals j) ≠ (if k' = i then v else vals k')
    by_cases hji : j = i
    · subst hji
      have hki : k' ≠ j := fun e => hjk e.symm
      rw [if_pos rfl, if_neg hki]
      rw [getD_set_ne false (Ne.symm hki)] at hl'
      obtain ⟨e1, e2⟩ := hal aj
      obtain ⟨g, e3, e4⟩ := hg k' hk' hl' ak
      rw [e1, e3]
      intro h
      cases h; omega
    · rw [if_neg hji]
      rw [getD_set_ne false (Ne.symm hji)] at hl
      by_cases hki : k' = i
      · subst hki
        rw [if_pos rfl]
        obtain ⟨e1, e2⟩ := hal ak
        obtain ⟨g, e3, e4⟩ := hg j hj hl aj
        rw [e1, e3]
        intro h
        cases h; omega
      · rw [if_neg hki]
        rw [getD_set_ne false (Ne.symm hki)] at hl'
        exact hd j k' hj hk' hjk hl hl' aj ak

theorem wpAny_of_facts {n : Nat} {fl : List Nat} {Q : Exit → Act → World → Prop} {F : Nat → Value → World → Prop} {AL : Nat → Bool} {w0 : World} {a0 : Act} (hB : headB md ops fl n = true)
    (hQ : ∀ c (a : Act) (d : Tmp) v w, Q (.panic c) (a.put (some d) v) w → Q (.panic c) a w)
    (hF : ∀ i v w1 w2, F i v w1 → Below w1.heap.size w1 w2 → F i v w2)
    (hstep : ∀ i o, i < n → ops[i]? = some o → ∀ (vals : Nat → Value) (w1 : World), Below w0.heap.size w0 w1 → (∀ j, Region.waitsFor md ops i j = true → F j (vals j) w1) →
      if fl.contains i then StepPure P o (putsTo ops (fun _ => true) vals a0 n) (fun v => Leaves F AL i w1 v w1) else StepG P ops o (putsTo ops (fun _ => true) vals a0 n) w1 (Leaves F AL i w1))
    (hend : ∀ (vals : Nat → Value) (w1 : World), Below w0.heap.size w0 w1 → (∀ i, i < n → F i (vals i) w1) → (∀ i j, i < n → j < n → i ≠ j → AL i = true → AL j = true → vals i ≠ vals j) →
      wpList P ops Q (ops.toList.drop n) (putsTo ops (fun _ => true) vals a0 n) w1) :
    ∀ (m : Nat) (listed : Array Bool) (a : Act) (w : World), unl listed n = m → DrawInv md ops n F AL w0 a0 listed a w → wpAny P md ops Q (m + (ops.size - n)) listed a w := by
  have hB' := hB
  unfold headB at hB'
  simp only [Bool.and_eq_true, decide_eq_true_eq] at hB'
  obtain ⟨⟨⟨⟨⟨hsel, hn⟩, ⟨hs, hfb⟩, hfn⟩, hc⟩, _⟩, hseq⟩ := hB'
  intro m
  induction m with
  | zero =>
    intro listed a w hm inv
    have hall := unl_zero n hm
    obtain ⟨vals, rfl, hv, _, hd⟩ := inv.vals
    have hl : listed = (Array.range ops.size).map fun i => decide (i < n) := by
      apply Array.ext
      · simp [inv.head.size]
      · intro j h1 h2
        simp only [Array.getElem_map, Array.getElem_range]
        by_cases hj : j < n
        · have := hall j hj
          simp [h1] at this; rw [this, decide_eq_true hj]
        · have hjs : j < ops.size := by rw [← inv.head.size]; exact h1
          have := inv.head.tail j (by omega) hjs
          simp [h1] at this; rw [this, decide_eq_false hj]
    have hend' := hend vals w inv.below (fun i hi => hv i hi (hall i hi)) (fun i j hi hj hij ai aj => hd i j hi hj hij (hall i hi) (hall j hj) ai aj)
    rw [putsTo_congr (l' := fun _ => true) (v' := vals) (fun j hj => ⟨hall j hj, fun _ => rfl⟩)]
    rw [Nat.zero_add]
    have hlen : (ops.toList.drop n).length = ops.size - n := by simp
    have := wpAny_of_seq (P := P) (md := md) (Q' := Q) (ops.toList.drop n) n listed (putsTo ops (fun _ => true) vals a0 n) w (fun j => by simp [List.getElem?_drop]) (by rw [hlen, hl]; exact hseq) hend'
    rwa [hlen] at this
  | succ m ih =>
    intro listed a w hm inv
    have step : ∀ i oi, i ∈ Region.ready md ops listed → i < n → ops[i]? = some oi →
        (execOp a.eval oi = execOp (putsTo ops (fun _ => true) (Classical.choose inv.vals) a0 n).eval oi ∧ Region.wanted oi (yielded ops a.tmps) = Region.wanted oi (yielded ops (putsTo ops (fun _ => true) (Classical.choose inv.vals) a0 n).tmps)) ∧ (∀ j, Region.waitsFor md ops i j = true → F j (Classical.choose inv.vals j) w) ∧ unl (listed.setIfInBounds i true) n = m := by
      intro i oi hi hin hoi
      obtain ⟨ha, hv, _, _⟩ := Classical.choose_spec inv.vals
      obtain ⟨hiu, oi', hoi', hdeps⟩ := mem_ready.1 hi
      have : oi' = oi := Option.some.inj (hoi'.symm.trans hoi)
      subst this
      have ok := headB_ok hB hin hoi
      have his : i < listed.size := by rw [inv.head.size]; exact (Array.getElem?_eq_some_iff.1 hoi).1
      have hwl : ∀ j, Region.waitsFor md ops i j = true → listed.getD j false = true := fun j hj => by
        obtain ⟨o', ho', e, he, hb, hon⟩ := Region.waitsFor_spec hj
        have : o' = oi' := Option.some.inj (ho'.symm.trans hoi)
        subst this
        rw [← hon]; exact hdeps e he hb
      have hwn : ∀ j, Region.waitsFor md ops i j = true → j < n := fun j hj => by
        obtain ⟨o', ho', e, he, hb, hon⟩ := Region.waitsFor_spec hj
        have : o' = oi' := Option.some.inj (ho'.symm.trans hoi)
        subst this
        have := ok.early e he hb; omega
      refine ⟨?_, fun j hj => hv j (hwn j hj) (hwl j hj), by have := unl_set his (getD_both hiu) n hin; omega⟩
      have e := execOp_congr oi' (ρ := (putsTo ops (fun j => listed.getD j false) (Classical.choose inv.vals) a0 n).eval) (ρ' := (putsTo ops (fun _ => true) (Classical.choose inv.vals) a0 n).eval) (fun cs b => Region.noSelect_spec hsel i oi' cs b hoi)
        fun x hx => (putsTo_eval n (fun t ht j hj hdj => hwl j (ok.reads x hx t ht j hj hdj))).1
      have e2 := putsTo_wanted (ops := ops) (l := fun j => listed.getD j false) (vals := Classical.choose inv.vals) (a := a0) (o := oi') n (fun g b hg t ht j hj hdj => by
        obtain ⟨hgn, hw⟩ := ok.guard g b hg
        by_cases hjg : j = g
        · subst hjg; exact hwl _ hw
        · exfalso
          have hgs : g < ops.size := by omega
          have okg := headB_ok hB hgn (Array.getElem?_eq_getElem hgs)
          refine okg.dst j hj hjg t ?_ hdj
          unfold dstOf at ht
          rw [Array.getElem?_eq_getElem hgs] at ht; exact ht)
      rw [← ha] at e e2; exact ⟨e, e2⟩
    obtain ⟨k, hk, hku, hkl⟩ := unl_first (listed := listed) n (by omega)
    have hks : k < listed.size := by rw [inv.head.size]; omega
    have hkt := getD_in hks hku
    have hready : k ∈ Region.ready md ops listed := by
      rw [mem_ready]
      refine ⟨hkt, ops[k]'(by omega), by rw [Array.getElem?_eq_getElem], fun e he hb => ?_⟩
      exact hkl _ ((headB_ok hB hk (Array.getElem?_eq_getElem (by omega))).early e he hb)
    rw [show m + 1 + (ops.size - n) = (m + (ops.size - n)) + 1 by omega]
    by_cases hfl : ∃ i, i < n ∧ i ∈ Region.ready md ops listed ∧ fl.contains i = true
    · obtain ⟨i, hin, hi, hif⟩ := hfl
      obtain ⟨_, oi, hoi, _⟩ := mem_ready.1 hi
      obtain ⟨he, hdp, hu⟩ := step i oi hi hin hoi
      have st := hstep i oi hin hoi (Classical.choose inv.vals) w inv.below hdp
      rw [if_pos hif] at st
      obtain ⟨v, hv, hL⟩ := st
      have hfi := List.all_eq_true.1 hfb i (by simpa using hif)
      rw [hoi] at hfi
      simp only [Bool.and_eq_true] at hfi
      obtain ⟨hgn, hfi⟩ := hfi
      have hgn : oi.guard = none := by simpa using hgn
      refine wpAny_first hoi (Region.noSelect_spec hsel) (fun c a w h => by
        cases hd : oi.dst with
        | none => rw [hd] at h; exact h
        | some d => rw [hd] at h; exact hQ c a d v w h) _ listed a w ?_ hi (.inl ⟨by simp [Region.wanted, hgn], fun w' => by rw [he.1]; exact hv w'⟩) (ih _ _ _ hu (inv.next hB hF hi hin hoi hL))
      intro j oj hj hji hun hno
      have h1 := List.all_eq_true.1 hfi j (List.mem_range.2 (Array.getElem?_eq_some_iff.1 hj).1)
      rw [hj] at h1
      simp only [Bool.or_eq_true, beq_iff_eq, hji, false_or] at h1
      rcases h1 with (h1 | h1) | h1
      · obtain ⟨o', ho', e, he, hb, hon⟩ := Region.waitsFor_spec h1
        have : o' = oj := Option.some.inj (ho'.symm.trans hj)
        subst this
        exact absurd hon (hno e he hb)
      · obtain ⟨o', ho', e, he, hb, hon⟩ := Region.waitsFor_spec h1
        obtain ⟨_, o2, ho2, hall⟩ := mem_ready.1 hi
        have : o' = o2 := Option.some.inj (ho'.symm.trans ho2)
        subst this
        have := hall e he hb
        rw [hon, getD_both hun] at this; cases this
      · exact h1
    · have hkf : fl.contains k = false := by
        cases h : fl.contains k with
        | false => rfl
        | true => exact absurd ⟨k, hk, hready, h⟩ hfl
      refine ⟨fun h0 => (by rw [h0] at hready; cases hready), fun i hi => ?_⟩
      have hin : i < n := by
        rcases Nat.lt_or_ge i n with h | h
        · exact h
        · exact absurd hi (tail_waitsF hs hc hn inv.head _ k rfl hk hkf hkt i h)
      obtain ⟨_, oi, hoi, _⟩ := mem_ready.1 hi
      obtain ⟨he, hdp, hu⟩ := step i oi hi hin hoi
      have st := hstep i oi hin hoi (Classical.choose inv.vals) w inv.below hdp
      rw [if_neg (fun h => hfl ⟨i, hin, hi, h⟩)] at st
      refine wpOp_of_stepG hoi he.2 he.1 st ?_
      intro v w' hL
      exact ih _ _ _ hu (inv.next hB hF hi hin hoi hL)

/-- a list of facts, one for each operation from number i on; A: the frame with all values of the head -/
def stepsOK (P : Program) (md : Region.Mode) (ops : Array Oper) (fl : List Nat) (F : Nat → Value → World → Prop) (AL : Nat → Bool) (w0 : World) (A : (Nat → Value) → Act) : List Oper → Nat → Prop
  | [], _ => True
  | o :: l, i => (∀ (vals : Nat → Value) (w1 : World), Below w0.heap.size w0 w1 → (∀ j, Region.waitsFor md ops i j = true → F j (vals j) w1) →
      if fl.contains i then StepPure P o (A vals) (fun v => Leaves F AL i w1 v w1) else StepG P ops o (A vals) w1 (Leaves F AL i w1)) ∧
    stepsOK P md ops fl F AL w0 A l (i + 1)
theorem stepsOK_at {fl : List Nat} {F : Nat → Value → World → Prop} {AL : Nat → Bool} {w0 : World} {A : (Nat → Value) → Act} : ∀ (l : List Oper) (i : Nat), stepsOK P md ops fl F AL w0 A l i → ∀ k o, l[k]? = some o →
    ∀ (vals : Nat → Value) (w1 : World), Below w0.heap.size w0 w1 → (∀ j, Region.waitsFor md ops (i + k) j = true → F j (vals j) w1) →
      if fl.contains (i + k) then StepPure P o (A vals) (fun v => Leaves F AL (i + k) w1 v w1) else StepG P ops o (A vals) w1 (Leaves F AL (i + k) w1)
  | [], _, _, k, o, h => by simp at h
  | x :: l, i, hs, 0, o, h => by
    simp at h; subst h
    exact hs.1
  | x :: l, i, hs, k + 1, o, h => by
    have := stepsOK_at l (i + 1) hs.2 k o (by simpa using h)
    rw [show i + 1 + k = i + (k + 1) by omega] at this
    exact this
/-- the law: whatever the order, each operation of the head leaves its fact; behind them the rest is walked -/
theorem wp_region_facts {id : Nat} {Q : Exit → Act → World → Prop} {a : Act} {w : World} {l : List Oper} {A : (Nat → Value) → Act} (n : Nat) (fl : List Nat) (hm : P.follows .mixedOrders = true) (F : Nat → Value → World → Prop) (AL : Nat → Bool)
    (hB : headB .any l.toArray fl n = true)
    (hQ : ∀ c (a : Act) (d : Tmp) v w, Q (.panic c) (a.put (some d) v) w → Q (.panic c) a w)
    (hF : ∀ i v w1 w2, F i v w1 → Below w1.heap.size w1 w2 → F i v w2)
    (hA : ∀ vals : Nat → Value, putsTo l.toArray (fun _ => true) vals a n = A vals)
    (hstep : stepsOK P .any l.toArray fl F AL w A (l.take n) 0)
    (hend : ∀ (vals : Nat → Value) (w1 : World), Below w.heap.size w w1 → (∀ i, i < n → F i (vals i) w1) → (∀ i j, i < n → j < n → i ≠ j → AL i = true → AL j = true → vals i ≠ vals j) →
      wpList P l.toArray Q (l.drop n) (A vals) w1) : (Code.region id l.toArray true).wp P Q a w := by
  refine wp_region_any hm ?_
  have hB' := hB
  unfold headB at hB'
  simp only [Bool.and_eq_true, decide_eq_true_eq] at hB'
  have hn : n < l.toArray.size := hB'.1.1.1.1.2
  have hu : ∀ k, unl (Array.replicate l.toArray.size false) k = k := fun k => by
    induction k with
    | zero => rfl
    | succ k ih => unfold unl; rw [ih, getD_replicate_false]; rfl
  have key := wpAny_of_facts (P := P) (Q := Q) (F := F) (AL := AL) (w0 := w) (a0 := a) hB hQ hF (fun i o hi ho vals w1 hb hd => by
      have := stepsOK_at (l.take n) 0 hstep i o (by
        rw [List.getElem?_take, if_pos hi]; simpa using ho)
      rw [Nat.zero_add] at this; rw [hA]; exact this vals w1 hb hd) (fun vals w1 hb hf hd => by rw [hA]; simpa using hend vals w1 hb hf hd) n (Array.replicate l.toArray.size false) a { w with drawn := w.drawn + 1 } (hu n)
    ⟨⟨by simp, fun j oj _ hl => (by rw [getD_replicate_false] at hl; cases hl), fun t _ ht => getD_in (by simpa using ht) (getD_replicate_false _ _)⟩,
      (Below.refl w.heap.size w).drew, fun _ => undef, by
        have : ∀ k, putsTo l.toArray (fun j => (Array.replicate l.toArray.size false).getD j false) (fun _ => undef) a k = a := fun k => by
          induction k with
          | zero => rfl
          | succ k ih => unfold putsTo; rw [if_neg (by rw [getD_replicate_false]; decide), ih]
        exact (this n).symm, fun j _ hl => (by rw [getD_replicate_false] at hl; cases hl), fun j _ hl => (by rw [getD_replicate_false] at hl; cases hl), fun j _ _ _ _ hl => (by rw [getD_replicate_false] at hl; cases hl)⟩
  rw [show n + (l.toArray.size - n) = l.toArray.size by omega] at key
  exact key
section
variable {fl : List Nat} {F : Nat → Value → World → Prop} {AL : Nat → Bool} {w0 : World} {A : (Nat → Value) → Act} {i : Nat} {o : Oper} {l : List Oper}
theorem stepsOK_nil : stepsOK P md ops fl F AL w0 A [] i := trivial
theorem stepsOK_cons (hi : fl.contains i = false) (hg : o.guard = none)
    (h : ∀ (vals : Nat → Value) (w1 : World), Below w0.heap.size w0 w1 → (∀ j, Region.waitsFor md ops i j = true → F j (vals j) w1) → StepOK P o (A vals) w1 (Leaves F AL i w1))
    (hl : stepsOK P md ops fl F AL w0 A l (i + 1)) : stepsOK P md ops fl F AL w0 A (o :: l) i := ⟨fun vals w1 hb hd => by rw [if_neg (by rw [hi]; decide)]; unfold StepG; rw [if_pos (by simp [Region.wanted, hg])]; exact h vals w1 hb hd, hl⟩
theorem stepsOK_pure (hi : fl.contains i = true)
    (h : ∀ (vals : Nat → Value) (w1 : World), Below w0.heap.size w0 w1 → (∀ j, Region.waitsFor md ops i j = true → F j (vals j) w1) → StepPure P o (A vals) (fun v => Leaves F AL i w1 v w1))
    (hl : stepsOK P md ops fl F AL w0 A l (i + 1)) : stepsOK P md ops fl F AL w0 A (o :: l) i := ⟨fun vals w1 hb hd => by rw [if_pos hi]; exact h vals w1 hb hd, hl⟩
theorem stepsOK_guard (hi : fl.contains i = false)
    (h : ∀ (vals : Nat → Value) (w1 : World), Below w0.heap.size w0 w1 → (∀ j, Region.waitsFor md ops i j = true → F j (vals j) w1) → StepG P ops o (A vals) w1 (Leaves F AL i w1))
    (hl : stepsOK P md ops fl F AL w0 A l (i + 1)) : stepsOK P md ops fl F AL w0 A (o :: l) i := ⟨fun vals w1 hb hd => by rw [if_neg (by rw [hi]; decide)]; exact h vals w1 hb hd, hl⟩
end
theorem wanted_of {o : Oper} {tmps : Array Value} {g : Nat} {t : Tmp} {b want : Bool} (hg : o.guard = some (g, want)) (hd : (ops[g]?).bind (·.dst) = some t) (ht : tmps[t]? = some (.bool b)) (hb : (b == want) = true) : Region.wanted o (yielded ops tmps) = true := by
  have hy : yielded ops tmps g = some b := by unfold yielded; rw [hd]; show (match tmps[t]? with | some (.bool b) => some b | _ => none) = some b; rw [ht]
  unfold Region.wanted; rw [hg]
  have : b = want := by simpa using hb
  subst this
  simp [hy]
theorem unwanted_of {o : Oper} {tmps : Array Value} {g : Nat} {t : Tmp} {b want : Bool} (hg : o.guard = some (g, want)) (hd : (ops[g]?).bind (·.dst) = some t) (ht : tmps[t]? = some (.bool b)) (hb : (b == want) = false) : Region.wanted o (yielded ops tmps) = false := by
  have hy : yielded ops tmps g = some b := by unfold yielded; rw [hd]; show (match tmps[t]? with | some (.bool b) => some b | _ => none) = some b; rw [ht]
  unfold Region.wanted; rw [hg]
  have : b ≠ want := by simpa using hb
  simp [hy, this]
theorem stepG_yes {o : Oper} {a : Act} {w : World} {R : Value → World → Prop} (hw : Region.wanted o (yielded ops a.tmps) = true) (h : StepOK P o a w R) : StepG P ops o a w R := by
  unfold StepG; rw [if_pos hw]; exact h
theorem stepG_no {o : Oper} {a : Act} {w : World} {R : Value → World → Prop} (hw : Region.wanted o (yielded ops a.tmps) = false) (h : R undef w) : StepG P ops o a w R := by
  unfold StepG; rw [if_neg (by rw [hw]; decide)]; exact h
theorem stepPure_value {o : Oper} {a : Act} {v : Value} {R : Value → Prop} (h : ∀ w, (execOp a.eval o).run P w = .ok (.value v) w) (hR : R v) : StepPure P o a R := ⟨v, h, hR⟩
theorem stepOK_value {o : Oper} {a : Act} {w w' : World} {v : Value} {R : Value → World → Prop} (h : (execOp a.eval o).run P w = .ok (.value v) w') (hR : R v w') : StepOK P o a w R := by
  unfold StepOK; rw [h]; exact hR
theorem stepOK_call {o : Oper} {a : Act} {w w' : World} {f : FuncId} {args : Array Value} {R : Value → World → Prop} (h : (execOp a.eval o).run P w = .ok (.enter f args) w')
    (hR : Calls P f args w' fun e w'' => ∃ v, e = .returned v ∧ R v w'') : StepOK P o a w R := by
  unfold StepOK; rw [h]; exact hR
end
/-- facts that later operations keep -/
def MonoF (p : Value → World → Prop) : Prop := ∀ v w1 w2, p v w1 → Below w1.heap.size w1 w2 → p v w2
def Fl (l : List (Value → World → Prop)) (i : Nat) : Value → World → Prop := l.getD i fun _ _ => True
theorem monoL {l : List (Value → World → Prop)} (h : ∀ p ∈ l, MonoF p) (i : Nat) (v : Value) (w1 w2 : World) (h1 : Fl l i v w1) (hb : Below w1.heap.size w1 w2) : Fl l i v w2 := by
  unfold Fl at *
  rw [List.getD_eq_getElem?_getD] at *
  cases hi : l[i]? with
  | none => trivial
  | some p =>
    rw [hi] at h1
    exact h p (List.mem_of_getElem? hi) v w1 w2 h1 hb
theorem monoN : ∀ p ∈ ([] : List (Value → World → Prop)), MonoF p := fun _ h => by cases h
theorem monoC {p : Value → World → Prop} {l : List (Value → World → Prop)} (hp : MonoF p) (h : ∀ p ∈ l, MonoF p) : ∀ q ∈ p :: l, MonoF q := fun q hq => by
  rcases List.mem_cons.1 hq with rfl | hq
  · exact hp
  · exact h q hq
def KEq (c : Value) : Value → World → Prop := fun v _ => v = c
theorem kEq (c : Value) : MonoF (KEq c) := fun _ _ _ h _ => h
def KAny : Value → World → Prop := fun _ _ => True
theorem kAny : MonoF KAny := fun _ _ _ h _ => h
end Go.Proofs.YthhgfhdmfhnklaaGreatDoor
/-
  rational.Neg, Abs, Mul, Add: what they hand back.
  Conditions: each theorem's own.
-/
namespace Go.Proofs.YthhgfhdmfhnklaaGreatDoor
open Go.RowKit Go.ChangeShapes Go.WideShapes

theorem nest1_0 (w : World) (a : Obj) : (w.alloc a).heap[w.heap.size]? = some a := heap_alloc_new w a
theorem nest2_0 (w : World) (a b : Obj) : ((w.alloc a).alloc b).heap[w.heap.size]? = some a := by
  rw [heap_alloc_old _ _ (by simp), heap_alloc_new]
theorem nest2_1 (w : World) (a b : Obj) : ((w.alloc a).alloc b).heap[w.heap.size + 1]? = some b := by
  rw [show w.heap.size + 1 = (w.alloc a).heap.size from by simp, heap_alloc_new]
theorem nest3_0 (w : World) (a b c : Obj) : (((w.alloc a).alloc b).alloc c).heap[w.heap.size]? = some a := by
  rw [heap_alloc_old _ _ (by simp; omega), nest2_0]
theorem nest3_1 (w : World) (a b c : Obj) : (((w.alloc a).alloc b).alloc c).heap[w.heap.size + 1]? = some b := by
  rw [heap_alloc_old _ _ (by simp), nest2_1]
theorem nest3_2 (w : World) (a b c : Obj) : (((w.alloc a).alloc b).alloc c).heap[w.heap.size + 2]? = some c := by
  rw [show w.heap.size + 2 = ((w.alloc a).alloc b).heap.size from by simp, heap_alloc_new]
theorem q_mul' (p q : Rat) : qm (!(ng p == ng q)) (nn p * nn q) (p.den * q.den) = p * q := q_mul p q
set_option maxRecDepth 100000 in
set_option maxHeartbeats 3200000 in
theorem neg_any (vp : Value) (p : Rat) (w : World) (hp : RatIs w vp p)  :
    Calls Tryz.prog 87 #[vp] w (RetR w (-p)) := by
  obtain ⟨sp, op, np, cp, ap, mp, dp, rfl⟩ := hp.shape
  have hlp := hp.rl
  have hb0 := (((Below.refl w.heap.size w).alloc (by first | (simp; done) | (simp; omega)) (.cells #[.bool sp, .slice op np cp, .slice ap mp dp] 54)).alloc (by first | (simp; done) | (simp; omega)) (.cells #[.bool false, .slice none 0 0, .slice none 0 0] 54))
  have hxp := nest2_0 w (.cells #[.bool sp, .slice op np cp, .slice ap mp dp] 54) (.cells #[.bool false, .slice none 0 0, .slice none 0 0] 54)
  have hxR := nest2_1 w (.cells #[.bool sp, .slice op np cp, .slice ap mp dp] 54) (.cells #[.bool false, .slice none 0 0, .slice none 0 0] 54)
  have hpp := hp.below hb0
  obtain ⟨w0, hw0⟩ : ∃ w0, w0 = ((w.alloc (.cells #[.bool sp, .slice op np cp, .slice ap mp dp] 54)).alloc (.cells #[.bool false, .slice none 0 0, .slice none 0 0] 54)) := ⟨_, rfl⟩
  rw [← hw0] at hb0 hxp hxR hpp
  have HB0 := Lib.hid hb0; have HW0 := Lib.hid hw0
  have BXp := Lib.hid hxp
  have BXR := Lib.hid hxR
  have Fp := Lib.hid hpp
  clear hb0 hw0 hxp hxR hpp hp
  have l1 := rl_n p; have l2 := rl_d p
  go_enter Tryz.func87, Tryz.ntmps87
  have hs := parts_any _ p w0 Fp.out
  have HS := Lib.hid hs; clear hs
  go_wp2_with fail
  rw [← HW0.out]
  (with_reducible refine HS.out.mono ?_); rintro e w1 ⟨v1, u1, rfl, hb1, hn1, hm1⟩
  clear HS
  have HB1 := Lib.hid (HB0.out.step hb1)
  have Fp := Lib.hid (Fp.out.below hb1)
  have BXp := Lib.hid (heap_below BXp.out hb1)
  have BXR := Lib.hid (heap_below BXR.out hb1)
  have N := Lib.hid hn1
  have D := Lib.hid hm1
  clear hn1 hm1
  clear hb1
  have hs := formN (!ng p) N.out D.out (by omega) (by omega) p.den_nz
  rw [q_neg] at hs
  have HS := Lib.hid hs; clear hs
  go_wp2_with fail
  (with_reducible refine HS.out.mono ?_); rintro e w2 ⟨v2, rfl, hb2, hn2⟩
  clear HS
  have HB2 := Lib.hid (HB1.out.step hb2)
  have Fp := Lib.hid (Fp.out.below hb2)
  have N := Lib.hid (N.out.below hb2)
  have D := Lib.hid (D.out.below hb2)
  have BXp := Lib.hid (heap_below BXp.out hb2)
  have BXR := Lib.hid (heap_below BXR.out hb2)
  have Q := Lib.hid hn2; clear hn2
  clear hb2
  obtain ⟨sQ, oQ, nQ, cQ, aQ, mQ, dQ, rfl⟩ := Q.out.shape
  obtain ⟨eR0, eR1, eR2⟩ := row3 BXR.out
  obtain ⟨fR0, fR1, fR2⟩ := froz3 BXR.out
  go_wp2_with fail
  clear eR0 eR1 eR2 fR0 fR1 fR2
  refine ret_rat rfl (w.heap.size + 1) _ _ _ rfl (put3_heap BXR.out) rfl ?_
  exact ⟨_, rfl, put3_below HB2.out (by omega) _ _ _, isR_put Q.out BXR.out⟩
set_option maxRecDepth 100000 in
set_option maxHeartbeats 3200000 in
theorem mulq_any (vp : Value) (p : Rat) (vq : Value) (q : Rat) (w : World) (hp : RatIs w vp p) (hq : RatIs w vq q)  :
    Calls Tryz.prog 93 #[vp, vq] w (RetR w (p * q)) := by
  obtain ⟨sp, op, np, cp, ap, mp, dp, rfl⟩ := hp.shape
  have hlp := hp.rl
  obtain ⟨sq, oq, nq, cq, aq, mq, dq, rfl⟩ := hq.shape
  have hlq := hq.rl
  have hb0 := ((((Below.refl w.heap.size w).alloc (by first | (simp; done) | (simp; omega)) (.cells #[.bool sp, .slice op np cp, .slice ap mp dp] 54)).alloc (by first | (simp; done) | (simp; omega)) (.cells #[.bool sq, .slice oq nq cq, .slice aq mq dq] 54)).alloc (by first | (simp; done) | (simp; omega)) (.cells #[.bool false, .slice none 0 0, .slice none 0 0] 54))
  have hxp := nest3_0 w (.cells #[.bool sp, .slice op np cp, .slice ap mp dp] 54) (.cells #[.bool sq, .slice oq nq cq, .slice aq mq dq] 54) (.cells #[.bool false, .slice none 0 0, .slice none 0 0] 54)
  have hxq := nest3_1 w (.cells #[.bool sp, .slice op np cp, .slice ap mp dp] 54) (.cells #[.bool sq, .slice oq nq cq, .slice aq mq dq] 54) (.cells #[.bool false, .slice none 0 0, .slice none 0 0] 54)
  have hxR := nest3_2 w (.cells #[.bool sp, .slice op np cp, .slice ap mp dp] 54) (.cells #[.bool sq, .slice oq nq cq, .slice aq mq dq] 54) (.cells #[.bool false, .slice none 0 0, .slice none 0 0] 54)
  have hpp := hp.below hb0
  have hpq := hq.below hb0
  obtain ⟨w0, hw0⟩ : ∃ w0, w0 = (((w.alloc (.cells #[.bool sp, .slice op np cp, .slice ap mp dp] 54)).alloc (.cells #[.bool sq, .slice oq nq cq, .slice aq mq dq] 54)).alloc (.cells #[.bool false, .slice none 0 0, .slice none 0 0] 54)) := ⟨_, rfl⟩
  rw [← hw0] at hb0 hxp hxq hxR hpp hpq
  have HB0 := Lib.hid hb0; have HW0 := Lib.hid hw0
  have BXp := Lib.hid hxp
  have BXq := Lib.hid hxq
  have BXR := Lib.hid hxR
  have Fp := Lib.hid hpp
  have Fq := Lib.hid hpq
  clear hb0 hw0 hxp hxq hxR hpp hp hpq hq
  have l1 := rl_n p; have l2 := rl_d p; have l3 := rl_n q; have l4 := rl_d q
  have L1 : (wd (nn p * nn q)).length ≤ 200000 := by have := wd_mul_len (nn p) (nn q); have := rl_n p; have := rl_n q; omega
  have L2 : (wd (p.den * q.den)).length ≤ 200000 := by have := wd_mul_len p.den q.den; have := rl_d p; have := rl_d q; omega
  go_enter Tryz.func93, Tryz.ntmps93
  have hs := parts_any _ p w0 Fp.out
  have HS := Lib.hid hs; clear hs
  go_wp2_with fail
  rw [← HW0.out]
  (with_reducible refine HS.out.mono ?_); rintro e w1 ⟨v1, u1, rfl, hb1, hn1, hm1⟩
  clear HS
  have HB1 := Lib.hid (HB0.out.step hb1)
  have Fp := Lib.hid (Fp.out.below hb1)
  have Fq := Lib.hid (Fq.out.below hb1)
  have BXp := Lib.hid (heap_below BXp.out hb1)
  have BXq := Lib.hid (heap_below BXq.out hb1)
  have BXR := Lib.hid (heap_below BXR.out hb1)
  have N := Lib.hid hn1
  have D := Lib.hid hm1
  clear hn1 hm1
  clear hb1
  have hs := parts_any _ q w1 Fq.out
  have HS := Lib.hid hs; clear hs
  obtain ⟨eq0, eq1, eq2⟩ := row3 BXq.out
  go_wp2_with fail
  clear eq0 eq1 eq2
  (with_reducible refine HS.out.mono ?_); rintro e w2 ⟨v2, u2, rfl, hb2, hn2, hm2⟩
  clear HS
  have HB2 := Lib.hid (HB1.out.step hb2)
  have Fp := Lib.hid (Fp.out.below hb2)
  have Fq := Lib.hid (Fq.out.below hb2)
  have N := Lib.hid (N.out.below hb2)
  have D := Lib.hid (D.out.below hb2)
  have BXp := Lib.hid (heap_below BXp.out hb2)
  have BXq := Lib.hid (heap_below BXq.out hb2)
  have BXR := Lib.hid (heap_below BXR.out hb2)
  have M := Lib.hid hn2
  have E := Lib.hid hm2
  clear hn2 hm2
  clear hb2
  have hs := mulN N.out M.out (by omega) (by omega)
  have HS := Lib.hid hs; clear hs
  go_wp2_with fail
  (with_reducible refine HS.out.mono ?_); rintro e w3 ⟨v3, rfl, hb3, hn3⟩
  clear HS
  have HB3 := Lib.hid (HB2.out.step hb3)
  have Fp := Lib.hid (Fp.out.below hb3)
  have Fq := Lib.hid (Fq.out.below hb3)
  have N := Lib.hid (N.out.below hb3)
  have D := Lib.hid (D.out.below hb3)
  have M := Lib.hid (M.out.below hb3)
  have E := Lib.hid (E.out.below hb3)
  have BXp := Lib.hid (heap_below BXp.out hb3)
  have BXq := Lib.hid (heap_below BXq.out hb3)
  have BXR := Lib.hid (heap_below BXR.out hb3)
  have NM := Lib.hid hn3; clear hn3
  clear hb3
  have hs := mulN D.out E.out (by omega) (by omega)
  have HS := Lib.hid hs; clear hs
  go_wp2_with fail
  (with_reducible refine HS.out.mono ?_); rintro e w4 ⟨v4, rfl, hb4, hn4⟩
  clear HS
  have HB4 := Lib.hid (HB3.out.step hb4)
  have Fp := Lib.hid (Fp.out.below hb4)
  have Fq := Lib.hid (Fq.out.below hb4)
  have N := Lib.hid (N.out.below hb4)
  have D := Lib.hid (D.out.below hb4)
  have M := Lib.hid (M.out.below hb4)
  have E := Lib.hid (E.out.below hb4)
  have NM := Lib.hid (NM.out.below hb4)
  have BXp := Lib.hid (heap_below BXp.out hb4)
  have BXq := Lib.hid (heap_below BXq.out hb4)
  have BXR := Lib.hid (heap_below BXR.out hb4)
  have DE := Lib.hid hn4; clear hn4
  clear hb4
  have hs := formN (!(ng p == ng q)) NM.out DE.out (by omega) (by omega) (den_mul_nz p.den_nz q.den_nz)
  rw [q_mul'] at hs
  have HS := Lib.hid hs; clear hs
  go_wp2_with fail
  (with_reducible refine HS.out.mono ?_); rintro e w5 ⟨v5, rfl, hb5, hn5⟩
  clear HS
  have HB5 := Lib.hid (HB4.out.step hb5)
  have Fp := Lib.hid (Fp.out.below hb5)
  have Fq := Lib.hid (Fq.out.below hb5)
  have N := Lib.hid (N.out.below hb5)
  have D := Lib.hid (D.out.below hb5)
  have M := Lib.hid (M.out.below hb5)
  have E := Lib.hid (E.out.below hb5)
  have NM := Lib.hid (NM.out.below hb5)
  have DE := Lib.hid (DE.out.below hb5)
  have BXp := Lib.hid (heap_below BXp.out hb5)
  have BXq := Lib.hid (heap_below BXq.out hb5)
  have BXR := Lib.hid (heap_below BXR.out hb5)
  have Q := Lib.hid hn5; clear hn5
  clear hb5
  obtain ⟨sQ, oQ, nQ, cQ, aQ, mQ, dQ, rfl⟩ := Q.out.shape
  obtain ⟨eR0, eR1, eR2⟩ := row3 BXR.out
  obtain ⟨fR0, fR1, fR2⟩ := froz3 BXR.out
  go_wp2_with fail
  clear eR0 eR1 eR2 fR0 fR1 fR2
  refine ret_rat rfl (w.heap.size + 2) _ _ _ rfl (put3_heap BXR.out) rfl ?_
  exact ⟨_, rfl, put3_below HB5.out (by omega) _ _ _, isR_put Q.out BXR.out⟩
set_option maxRecDepth 100000 in
set_option maxHeartbeats 3200000 in
theorem add_same (vp : Value) (p : Rat) (vq : Value) (q : Rat) (w : World) (hp : RatIs w vp p) (hq : RatIs w vq q) (hs : ng p = ng q) :
    Calls Tryz.prog 65 #[vp, vq] w (RetR w (p + q)) := by
  obtain ⟨sp, op, np, cp, ap, mp, dp, rfl⟩ := hp.shape
  have hlp := hp.rl
  obtain ⟨sq, oq, nq, cq, aq, mq, dq, rfl⟩ := hq.shape
  have hlq := hq.rl
  have hb0 := ((((Below.refl w.heap.size w).alloc (by first | (simp; done) | (simp; omega)) (.cells #[.bool sp, .slice op np cp, .slice ap mp dp] 54)).alloc (by first | (simp; done) | (simp; omega)) (.cells #[.bool sq, .slice oq nq cq, .slice aq mq dq] 54)).alloc (by first | (simp; done) | (simp; omega)) (.cells #[.bool false, .slice none 0 0, .slice none 0 0] 54))
  have hxp := nest3_0 w (.cells #[.bool sp, .slice op np cp, .slice ap mp dp] 54) (.cells #[.bool sq, .slice oq nq cq, .slice aq mq dq] 54) (.cells #[.bool false, .slice none 0 0, .slice none 0 0] 54)
  have hxq := nest3_1 w (.cells #[.bool sp, .slice op np cp, .slice ap mp dp] 54) (.cells #[.bool sq, .slice oq nq cq, .slice aq mq dq] 54) (.cells #[.bool false, .slice none 0 0, .slice none 0 0] 54)
  have hxR := nest3_2 w (.cells #[.bool sp, .slice op np cp, .slice ap mp dp] 54) (.cells #[.bool sq, .slice oq nq cq, .slice aq mq dq] 54) (.cells #[.bool false, .slice none 0 0, .slice none 0 0] 54)
  have hpp := hp.below hb0
  have hpq := hq.below hb0
  obtain ⟨w0, hw0⟩ : ∃ w0, w0 = (((w.alloc (.cells #[.bool sp, .slice op np cp, .slice ap mp dp] 54)).alloc (.cells #[.bool sq, .slice oq nq cq, .slice aq mq dq] 54)).alloc (.cells #[.bool false, .slice none 0 0, .slice none 0 0] 54)) := ⟨_, rfl⟩
  rw [← hw0] at hb0 hxp hxq hxR hpp hpq
  have HB0 := Lib.hid hb0; have HW0 := Lib.hid hw0
  have BXp := Lib.hid hxp
  have BXq := Lib.hid hxq
  have BXR := Lib.hid hxR
  have Fp := Lib.hid hpp
  have Fq := Lib.hid hpq
  clear hb0 hw0 hxp hxq hxR hpp hp hpq hq
  have l1 := rl_n p; have l2 := rl_d p; have l3 := rl_n q; have l4 := rl_d q
  have L1 : (wd (nn p * q.den)).length ≤ 200000 := by have := wd_mul_len (nn p) q.den; omega
  have L2 : (wd (nn q * p.den)).length ≤ 200000 := by have := wd_mul_len (nn q) p.den; omega
  have L3 : (wd (p.den * q.den)).length ≤ 200000 := by have := wd_mul_len p.den q.den; omega
  have heq := q_add_same p q hs
  have HEQ := Lib.hid heq; clear heq
  have L4 : (wd (nn p * q.den + nn q * p.den)).length ≤ 200001 := by have := wd_add_len (nn p * q.den) (nn q * p.den); omega
  have f1 : (ng p == ng q) = true := by rw [beq_iff_eq]; exact hs
  obtain ⟨x, hx⟩ : ∃ x, x = ng p := ⟨_, rfl⟩; obtain ⟨y, hy⟩ : ∃ y, y = ng q := ⟨_, rfl⟩
  rw [← hx, ← hy] at f1
  have HX := Lib.hid hx; have HY := Lib.hid hy; clear hx hy hs
  go_enter Tryz.func65, Tryz.ntmps65
  have hs := parts_any _ p w0 Fp.out
  have HS := Lib.hid hs; clear hs
  go_wp2_with fail
  rw [← HW0.out]
  (with_reducible refine HS.out.mono ?_); rintro e w1 ⟨v1, u1, rfl, hb1, hn1, hm1⟩
  clear HS
  have HB1 := Lib.hid (HB0.out.step hb1)
  have Fp := Lib.hid (Fp.out.below hb1)
  have Fq := Lib.hid (Fq.out.below hb1)
  have BXp := Lib.hid (heap_below BXp.out hb1)
  have BXq := Lib.hid (heap_below BXq.out hb1)
  have BXR := Lib.hid (heap_below BXR.out hb1)
  have N := Lib.hid hn1
  have D := Lib.hid hm1
  clear hn1 hm1
  clear hb1
  rw [← HX.out]
  have hs := parts_any _ q w1 Fq.out
  have HS := Lib.hid hs; clear hs
  obtain ⟨eq0, eq1, eq2⟩ := row3 BXq.out
  go_wp2_with fail
  clear eq0 eq1 eq2
  (with_reducible refine HS.out.mono ?_); rintro e w2 ⟨v2, u2, rfl, hb2, hn2, hm2⟩
  clear HS
  have HB2 := Lib.hid (HB1.out.step hb2)
  have Fp := Lib.hid (Fp.out.below hb2)
  have Fq := Lib.hid (Fq.out.below hb2)
  have N := Lib.hid (N.out.below hb2)
  have D := Lib.hid (D.out.below hb2)
  have BXp := Lib.hid (heap_below BXp.out hb2)
  have BXq := Lib.hid (heap_below BXq.out hb2)
  have BXR := Lib.hid (heap_below BXR.out hb2)
  have M := Lib.hid hn2
  have E := Lib.hid hm2
  clear hn2 hm2
  clear hb2
  rw [← HY.out]
  have hs := mulN N.out E.out (by omega) (by omega)
  have HS := Lib.hid hs; clear hs
  go_wp2_with fail
  (with_reducible refine HS.out.mono ?_); rintro e w3 ⟨v3, rfl, hb3, hn3⟩
  clear HS
  have HB3 := Lib.hid (HB2.out.step hb3)
  have Fp := Lib.hid (Fp.out.below hb3)
  have Fq := Lib.hid (Fq.out.below hb3)
  have N := Lib.hid (N.out.below hb3)
  have D := Lib.hid (D.out.below hb3)
  have M := Lib.hid (M.out.below hb3)
  have E := Lib.hid (E.out.below hb3)
  have BXp := Lib.hid (heap_below BXp.out hb3)
  have BXq := Lib.hid (heap_below BXq.out hb3)
  have BXR := Lib.hid (heap_below BXR.out hb3)
  have X := Lib.hid hn3; clear hn3
  clear hb3
  have hs := mulN M.out D.out (by omega) (by omega)
  have HS := Lib.hid hs; clear hs
  go_wp2_with fail
  (with_reducible refine HS.out.mono ?_); rintro e w4 ⟨v4, rfl, hb4, hn4⟩
  clear HS
  have HB4 := Lib.hid (HB3.out.step hb4)
  have Fp := Lib.hid (Fp.out.below hb4)
  have Fq := Lib.hid (Fq.out.below hb4)
  have N := Lib.hid (N.out.below hb4)
  have D := Lib.hid (D.out.below hb4)
  have M := Lib.hid (M.out.below hb4)
  have E := Lib.hid (E.out.below hb4)
  have X := Lib.hid (X.out.below hb4)
  have BXp := Lib.hid (heap_below BXp.out hb4)
  have BXq := Lib.hid (heap_below BXq.out hb4)
  have BXR := Lib.hid (heap_below BXR.out hb4)
  have Y := Lib.hid hn4; clear hn4
  clear hb4
  have hs := mulN D.out E.out (by omega) (by omega)
  have HS := Lib.hid hs; clear hs
  go_wp2_with fail
  (with_reducible refine HS.out.mono ?_); rintro e w5 ⟨v5, rfl, hb5, hn5⟩
  clear HS
  have HB5 := Lib.hid (HB4.out.step hb5)
  have Fp := Lib.hid (Fp.out.below hb5)
  have Fq := Lib.hid (Fq.out.below hb5)
  have N := Lib.hid (N.out.below hb5)
  have D := Lib.hid (D.out.below hb5)
  have M := Lib.hid (M.out.below hb5)
  have E := Lib.hid (E.out.below hb5)
  have X := Lib.hid (X.out.below hb5)
  have Y := Lib.hid (Y.out.below hb5)
  have BXp := Lib.hid (heap_below BXp.out hb5)
  have BXq := Lib.hid (heap_below BXq.out hb5)
  have BXR := Lib.hid (heap_below BXR.out hb5)
  have DE := Lib.hid hn5; clear hn5
  clear hb5
  have hs := addN X.out Y.out (by omega) (by omega)
  have HS := Lib.hid hs; clear hs
  go_wp2_with fail
  (with_reducible refine HS.out.mono ?_); rintro e w6 ⟨v6, rfl, hb6, hn6⟩
  clear HS
  have HB6 := Lib.hid (HB5.out.step hb6)
  have Fp := Lib.hid (Fp.out.below hb6)
  have Fq := Lib.hid (Fq.out.below hb6)
  have N := Lib.hid (N.out.below hb6)
  have D := Lib.hid (D.out.below hb6)
  have M := Lib.hid (M.out.below hb6)
  have E := Lib.hid (E.out.below hb6)
  have X := Lib.hid (X.out.below hb6)
  have Y := Lib.hid (Y.out.below hb6)
  have DE := Lib.hid (DE.out.below hb6)
  have BXp := Lib.hid (heap_below BXp.out hb6)
  have BXq := Lib.hid (heap_below BXq.out hb6)
  have BXR := Lib.hid (heap_below BXR.out hb6)
  have S := Lib.hid hn6; clear hn6
  clear hb6
  have hs := formN x S.out DE.out (by omega) (by omega) (den_mul_nz p.den_nz q.den_nz)
  have HS := Lib.hid hs; clear hs
  go_wp2_with fail
  (with_reducible refine HS.out.mono ?_); rintro e w7 ⟨v7, rfl, hb7, hn7⟩
  clear HS
  have HB7 := Lib.hid (HB6.out.step hb7)
  have Fp := Lib.hid (Fp.out.below hb7)
  have Fq := Lib.hid (Fq.out.below hb7)
  have N := Lib.hid (N.out.below hb7)
  have D := Lib.hid (D.out.below hb7)
  have M := Lib.hid (M.out.below hb7)
  have E := Lib.hid (E.out.below hb7)
  have X := Lib.hid (X.out.below hb7)
  have Y := Lib.hid (Y.out.below hb7)
  have DE := Lib.hid (DE.out.below hb7)
  have S := Lib.hid (S.out.below hb7)
  have BXp := Lib.hid (heap_below BXp.out hb7)
  have BXq := Lib.hid (heap_below BXq.out hb7)
  have BXR := Lib.hid (heap_below BXR.out hb7)
  have Q := Lib.hid hn7; clear hn7
  clear hb7
  have hq := Q.out; rw [HX.out, HEQ.out] at hq; have Q := Lib.hid hq; clear hq
  obtain ⟨sQ, oQ, nQ, cQ, aQ, mQ, dQ, rfl⟩ := Q.out.shape
  obtain ⟨eR0, eR1, eR2⟩ := row3 BXR.out
  obtain ⟨fR0, fR1, fR2⟩ := froz3 BXR.out
  go_wp2_with fail
  clear eR0 eR1 eR2 fR0 fR1 fR2
  refine ret_rat rfl (w.heap.size + 2) _ _ _ rfl (put3_heap BXR.out) rfl ?_
  exact ⟨_, rfl, put3_below HB7.out (by omega) _ _ _, isR_put Q.out BXR.out⟩
set_option maxRecDepth 100000 in
set_option maxHeartbeats 3200000 in
theorem add_diff (vp : Value) (p : Rat) (vq : Value) (q : Rat) (w : World) (hp : RatIs w vp p) (hq : RatIs w vq q) (hs : ng p ≠ ng q) (hle : nn q * p.den ≤ nn p * q.den) :
    Calls Tryz.prog 65 #[vp, vq] w (RetR w (p + q)) := by
  obtain ⟨sp, op, np, cp, ap, mp, dp, rfl⟩ := hp.shape
  have hlp := hp.rl
  obtain ⟨sq, oq, nq, cq, aq, mq, dq, rfl⟩ := hq.shape
  have hlq := hq.rl
  have hb0 := ((((Below.refl w.heap.size w).alloc (by first | (simp; done) | (simp; omega)) (.cells #[.bool sp, .slice op np cp, .slice ap mp dp] 54)).alloc (by first | (simp; done) | (simp; omega)) (.cells #[.bool sq, .slice oq nq cq, .slice aq mq dq] 54)).alloc (by first | (simp; done) | (simp; omega)) (.cells #[.bool false, .slice none 0 0, .slice none 0 0] 54))
  have hxp := nest3_0 w (.cells #[.bool sp, .slice op np cp, .slice ap mp dp] 54) (.cells #[.bool sq, .slice oq nq cq, .slice aq mq dq] 54) (.cells #[.bool false, .slice none 0 0, .slice none 0 0] 54)
  have hxq := nest3_1 w (.cells #[.bool sp, .slice op np cp, .slice ap mp dp] 54) (.cells #[.bool sq, .slice oq nq cq, .slice aq mq dq] 54) (.cells #[.bool false, .slice none 0 0, .slice none 0 0] 54)
  have hxR := nest3_2 w (.cells #[.bool sp, .slice op np cp, .slice ap mp dp] 54) (.cells #[.bool sq, .slice oq nq cq, .slice aq mq dq] 54) (.cells #[.bool false, .slice none 0 0, .slice none 0 0] 54)
  have hpp := hp.below hb0
  have hpq := hq.below hb0
  obtain ⟨w0, hw0⟩ : ∃ w0, w0 = (((w.alloc (.cells #[.bool sp, .slice op np cp, .slice ap mp dp] 54)).alloc (.cells #[.bool sq, .slice oq nq cq, .slice aq mq dq] 54)).alloc (.cells #[.bool false, .slice none 0 0, .slice none 0 0] 54)) := ⟨_, rfl⟩
  rw [← hw0] at hb0 hxp hxq hxR hpp hpq
  have HB0 := Lib.hid hb0; have HW0 := Lib.hid hw0
  have BXp := Lib.hid hxp
  have BXq := Lib.hid hxq
  have BXR := Lib.hid hxR
  have Fp := Lib.hid hpp
  have Fq := Lib.hid hpq
  clear hb0 hw0 hxp hxq hxR hpp hp hpq hq
  have l1 := rl_n p; have l2 := rl_d p; have l3 := rl_n q; have l4 := rl_d q
  have L1 : (wd (nn p * q.den)).length ≤ 200000 := by have := wd_mul_len (nn p) q.den; omega
  have L2 : (wd (nn q * p.den)).length ≤ 200000 := by have := wd_mul_len (nn q) p.den; omega
  have L3 : (wd (p.den * q.den)).length ≤ 200000 := by have := wd_mul_len p.den q.den; omega
  have heq := q_add_diff p q hs hle
  have HEQ := Lib.hid heq; clear heq
  have f1 : (ng p == ng q) = false := by rw [beq_eq_false_iff_ne]; exact hs
  obtain ⟨c, hc⟩ : ∃ c, c = cmpN (nn p * q.den) (nn q * p.den) := ⟨_, rfl⟩
  have L4 : (wd (nn p * q.den - nn q * p.den)).length ≤ 200000 := by exact Nat.le_trans (wd_length_mono (Nat.sub_le _ _)) L1
  have f2 : decide (0 ≤ c) = true := by rw [hc, decide_eq_true_eq]; unfold cmpN; rw [if_neg (by omega)]; split <;> decide
  have HC := Lib.hid hc; have HLE := Lib.hid hle; clear hc hle
  obtain ⟨x, hx⟩ : ∃ x, x = ng p := ⟨_, rfl⟩; obtain ⟨y, hy⟩ : ∃ y, y = ng q := ⟨_, rfl⟩
  rw [← hx, ← hy] at f1
  have HX := Lib.hid hx; have HY := Lib.hid hy; clear hx hy hs
  go_enter Tryz.func65, Tryz.ntmps65
  have hs := parts_any _ p w0 Fp.out
  have HS := Lib.hid hs; clear hs
  go_wp2_with fail
  rw [← HW0.out]
  (with_reducible refine HS.out.mono ?_); rintro e w1 ⟨v1, u1, rfl, hb1, hn1, hm1⟩
  clear HS
  have HB1 := Lib.hid (HB0.out.step hb1)
  have Fp := Lib.hid (Fp.out.below hb1)
  have Fq := Lib.hid (Fq.out.below hb1)
  have BXp := Lib.hid (heap_below BXp.out hb1)
  have BXq := Lib.hid (heap_below BXq.out hb1)
  have BXR := Lib.hid (heap_below BXR.out hb1)
  have N := Lib.hid hn1
  have D := Lib.hid hm1
  clear hn1 hm1
  clear hb1
  rw [← HX.out]
  have hs := parts_any _ q w1 Fq.out
  have HS := Lib.hid hs; clear hs
  obtain ⟨eq0, eq1, eq2⟩ := row3 BXq.out
  go_wp2_with fail
  clear eq0 eq1 eq2
  (with_reducible refine HS.out.mono ?_); rintro e w2 ⟨v2, u2, rfl, hb2, hn2, hm2⟩
  clear HS
  have HB2 := Lib.hid (HB1.out.step hb2)
  have Fp := Lib.hid (Fp.out.below hb2)
  have Fq := Lib.hid (Fq.out.below hb2)
  have N := Lib.hid (N.out.below hb2)
  have D := Lib.hid (D.out.below hb2)
  have BXp := Lib.hid (heap_below BXp.out hb2)
  have BXq := Lib.hid (heap_below BXq.out hb2)
  have BXR := Lib.hid (heap_below BXR.out hb2)
  have M := Lib.hid hn2
  have E := Lib.hid hm2
  clear hn2 hm2
  clear hb2
  rw [← HY.out]
  have hs := mulN N.out E.out (by omega) (by omega)
  have HS := Lib.hid hs; clear hs
  go_wp2_with fail
  (with_reducible refine HS.out.mono ?_); rintro e w3 ⟨v3, rfl, hb3, hn3⟩
  clear HS
  have HB3 := Lib.hid (HB2.out.step hb3)
  have Fp := Lib.hid (Fp.out.below hb3)
  have Fq := Lib.hid (Fq.out.below hb3)
  have N := Lib.hid (N.out.below hb3)
  have D := Lib.hid (D.out.below hb3)
  have M := Lib.hid (M.out.below hb3)
  have E := Lib.hid (E.out.below hb3)
  have BXp := Lib.hid (heap_below BXp.out hb3)
  have BXq := Lib.hid (heap_below BXq.out hb3)
  have BXR := Lib.hid (heap_below BXR.out hb3)
  have X := Lib.hid hn3; clear hn3
  clear hb3
  have hs := mulN M.out D.out (by omega) (by omega)
  have HS := Lib.hid hs; clear hs
  go_wp2_with fail
  (with_reducible refine HS.out.mono ?_); rintro e w4 ⟨v4, rfl, hb4, hn4⟩
  clear HS
  have HB4 := Lib.hid (HB3.out.step hb4)
  have Fp := Lib.hid (Fp.out.below hb4)
  have Fq := Lib.hid (Fq.out.below hb4)
  have N := Lib.hid (N.out.below hb4)
  have D := Lib.hid (D.out.below hb4)
  have M := Lib.hid (M.out.below hb4)
  have E := Lib.hid (E.out.below hb4)
  have X := Lib.hid (X.out.below hb4)
  have BXp := Lib.hid (heap_below BXp.out hb4)
  have BXq := Lib.hid (heap_below BXq.out hb4)
  have BXR := Lib.hid (heap_below BXR.out hb4)
  have Y := Lib.hid hn4; clear hn4
  clear hb4
  have hs := mulN D.out E.out (by omega) (by omega)
  have HS := Lib.hid hs; clear hs
  go_wp2_with fail
  (with_reducible refine HS.out.mono ?_); rintro e w5 ⟨v5, rfl, hb5, hn5⟩
  clear HS
  have HB5 := Lib.hid (HB4.out.step hb5)
  have Fp := Lib.hid (Fp.out.below hb5)
  have Fq := Lib.hid (Fq.out.below hb5)
  have N := Lib.hid (N.out.below hb5)
  have D := Lib.hid (D.out.below hb5)
  have M := Lib.hid (M.out.below hb5)
  have E := Lib.hid (E.out.below hb5)
  have X := Lib.hid (X.out.below hb5)
  have Y := Lib.hid (Y.out.below hb5)
  have BXp := Lib.hid (heap_below BXp.out hb5)
  have BXq := Lib.hid (heap_below BXq.out hb5)
  have BXR := Lib.hid (heap_below BXR.out hb5)
  have DE := Lib.hid hn5; clear hn5
  clear hb5
  have hs := cmpN_ X.out Y.out (by omega) (by omega)
  rw [← HC.out] at hs
  have HS := Lib.hid hs; clear hs
  go_wp2_with fail
  (with_reducible refine HS.out.mono ?_); rintro e w6 ⟨rfl, hb6⟩
  clear HS
  have HB6 := Lib.hid (HB5.out.step hb6)
  have Fp := Lib.hid (Fp.out.below hb6)
  have Fq := Lib.hid (Fq.out.below hb6)
  have N := Lib.hid (N.out.below hb6)
  have D := Lib.hid (D.out.below hb6)
  have M := Lib.hid (M.out.below hb6)
  have E := Lib.hid (E.out.below hb6)
  have X := Lib.hid (X.out.below hb6)
  have Y := Lib.hid (Y.out.below hb6)
  have DE := Lib.hid (DE.out.below hb6)
  have BXp := Lib.hid (heap_below BXp.out hb6)
  have BXq := Lib.hid (heap_below BXq.out hb6)
  have BXR := Lib.hid (heap_below BXR.out hb6)
  clear hb6
  have hs := subN X.out Y.out (by omega) (by omega) HLE.out
  have HS := Lib.hid hs; clear hs
  go_wp2_with fail
  (with_reducible refine HS.out.mono ?_); rintro e w7 ⟨v7, rfl, hb7, hn7⟩
  clear HS
  have HB7 := Lib.hid (HB6.out.step hb7)
  have Fp := Lib.hid (Fp.out.below hb7)
  have Fq := Lib.hid (Fq.out.below hb7)
  have N := Lib.hid (N.out.below hb7)
  have D := Lib.hid (D.out.below hb7)
  have M := Lib.hid (M.out.below hb7)
  have E := Lib.hid (E.out.below hb7)
  have X := Lib.hid (X.out.below hb7)
  have Y := Lib.hid (Y.out.below hb7)
  have DE := Lib.hid (DE.out.below hb7)
  have BXp := Lib.hid (heap_below BXp.out hb7)
  have BXq := Lib.hid (heap_below BXq.out hb7)
  have BXR := Lib.hid (heap_below BXR.out hb7)
  have S := Lib.hid hn7; clear hn7
  clear hb7
  have hs := formN x S.out DE.out (by omega) (by omega) (den_mul_nz p.den_nz q.den_nz)
  have HS := Lib.hid hs; clear hs
  go_wp2_with fail
  (with_reducible refine HS.out.mono ?_); rintro e w8 ⟨v8, rfl, hb8, hn8⟩
  clear HS
  have HB8 := Lib.hid (HB7.out.step hb8)
  have Fp := Lib.hid (Fp.out.below hb8)
  have Fq := Lib.hid (Fq.out.below hb8)
  have N := Lib.hid (N.out.below hb8)
  have D := Lib.hid (D.out.below hb8)
  have M := Lib.hid (M.out.below hb8)
  have E := Lib.hid (E.out.below hb8)
  have X := Lib.hid (X.out.below hb8)
  have Y := Lib.hid (Y.out.below hb8)
  have DE := Lib.hid (DE.out.below hb8)
  have S := Lib.hid (S.out.below hb8)
  have BXp := Lib.hid (heap_below BXp.out hb8)
  have BXq := Lib.hid (heap_below BXq.out hb8)
  have BXR := Lib.hid (heap_below BXR.out hb8)
  have Q := Lib.hid hn8; clear hn8
  clear hb8
  have hq := Q.out; rw [HX.out, HEQ.out] at hq; have Q := Lib.hid hq; clear hq
  obtain ⟨sQ, oQ, nQ, cQ, aQ, mQ, dQ, rfl⟩ := Q.out.shape
  obtain ⟨eR0, eR1, eR2⟩ := row3 BXR.out
  obtain ⟨fR0, fR1, fR2⟩ := froz3 BXR.out
  go_wp2_with fail
  clear eR0 eR1 eR2 fR0 fR1 fR2
  refine ret_rat rfl (w.heap.size + 2) _ _ _ rfl (put3_heap BXR.out) rfl ?_
  exact ⟨_, rfl, put3_below HB8.out (by omega) _ _ _, isR_put Q.out BXR.out⟩
set_option maxRecDepth 100000 in
set_option maxHeartbeats 3200000 in
theorem add_diff' (vp : Value) (p : Rat) (vq : Value) (q : Rat) (w : World) (hp : RatIs w vp p) (hq : RatIs w vq q) (hs : ng p ≠ ng q) (hle : nn p * q.den < nn q * p.den) :
    Calls Tryz.prog 65 #[vp, vq] w (RetR w (p + q)) := by
  obtain ⟨sp, op, np, cp, ap, mp, dp, rfl⟩ := hp.shape
  have hlp := hp.rl
  obtain ⟨sq, oq, nq, cq, aq, mq, dq, rfl⟩ := hq.shape
  have hlq := hq.rl
  have hb0 := ((((Below.refl w.heap.size w).alloc (by first | (simp; done) | (simp; omega)) (.cells #[.bool sp, .slice op np cp, .slice ap mp dp] 54)).alloc (by first | (simp; done) | (simp; omega)) (.cells #[.bool sq, .slice oq nq cq, .slice aq mq dq] 54)).alloc (by first | (simp; done) | (simp; omega)) (.cells #[.bool false, .slice none 0 0, .slice none 0 0] 54))
  have hxp := nest3_0 w (.cells #[.bool sp, .slice op np cp, .slice ap mp dp] 54) (.cells #[.bool sq, .slice oq nq cq, .slice aq mq dq] 54) (.cells #[.bool false, .slice none 0 0, .slice none 0 0] 54)
  have hxq := nest3_1 w (.cells #[.bool sp, .slice op np cp, .slice ap mp dp] 54) (.cells #[.bool sq, .slice oq nq cq, .slice aq mq dq] 54) (.cells #[.bool false, .slice none 0 0, .slice none 0 0] 54)
  have hxR := nest3_2 w (.cells #[.bool sp, .slice op np cp, .slice ap mp dp] 54) (.cells #[.bool sq, .slice oq nq cq, .slice aq mq dq] 54) (.cells #[.bool false, .slice none 0 0, .slice none 0 0] 54)
  have hpp := hp.below hb0
  have hpq := hq.below hb0
  obtain ⟨w0, hw0⟩ : ∃ w0, w0 = (((w.alloc (.cells #[.bool sp, .slice op np cp, .slice ap mp dp] 54)).alloc (.cells #[.bool sq, .slice oq nq cq, .slice aq mq dq] 54)).alloc (.cells #[.bool false, .slice none 0 0, .slice none 0 0] 54)) := ⟨_, rfl⟩
  rw [← hw0] at hb0 hxp hxq hxR hpp hpq
  have HB0 := Lib.hid hb0; have HW0 := Lib.hid hw0
  have BXp := Lib.hid hxp
  have BXq := Lib.hid hxq
  have BXR := Lib.hid hxR
  have Fp := Lib.hid hpp
  have Fq := Lib.hid hpq
  clear hb0 hw0 hxp hxq hxR hpp hp hpq hq
  have l1 := rl_n p; have l2 := rl_d p; have l3 := rl_n q; have l4 := rl_d q
  have L1 : (wd (nn p * q.den)).length ≤ 200000 := by have := wd_mul_len (nn p) q.den; omega
  have L2 : (wd (nn q * p.den)).length ≤ 200000 := by have := wd_mul_len (nn q) p.den; omega
  have L3 : (wd (p.den * q.den)).length ≤ 200000 := by have := wd_mul_len p.den q.den; omega
  have heq := q_add_diff' p q hs (Nat.le_of_lt hle)
  have HEQ := Lib.hid heq; clear heq
  have f1 : (ng p == ng q) = false := by rw [beq_eq_false_iff_ne]; exact hs
  obtain ⟨c, hc⟩ : ∃ c, c = cmpN (nn p * q.den) (nn q * p.den) := ⟨_, rfl⟩
  have L4 : (wd (nn q * p.den - nn p * q.den)).length ≤ 200000 := by exact Nat.le_trans (wd_length_mono (Nat.sub_le _ _)) L2
  have f2 : decide (0 ≤ c) = false := by rw [hc, decide_eq_false_iff_not]; unfold cmpN; rw [if_pos hle]; decide
  have HC := Lib.hid hc; have HLE := Lib.hid hle; clear hc hle
  obtain ⟨x, hx⟩ : ∃ x, x = ng p := ⟨_, rfl⟩; obtain ⟨y, hy⟩ : ∃ y, y = ng q := ⟨_, rfl⟩
  rw [← hx, ← hy] at f1
  have HX := Lib.hid hx; have HY := Lib.hid hy; clear hx hy hs
  go_enter Tryz.func65, Tryz.ntmps65
  have hs := parts_any _ p w0 Fp.out
  have HS := Lib.hid hs; clear hs
  go_wp2_with fail
  rw [← HW0.out]
  (with_reducible refine HS.out.mono ?_); rintro e w1 ⟨v1, u1, rfl, hb1, hn1, hm1⟩
  clear HS
  have HB1 := Lib.hid (HB0.out.step hb1)
  have Fp := Lib.hid (Fp.out.below hb1)
  have Fq := Lib.hid (Fq.out.below hb1)
  have BXp := Lib.hid (heap_below BXp.out hb1)
  have BXq := Lib.hid (heap_below BXq.out hb1)
  have BXR := Lib.hid (heap_below BXR.out hb1)
  have N := Lib.hid hn1
  have D := Lib.hid hm1
  clear hn1 hm1
  clear hb1
  rw [← HX.out]
  have hs := parts_any _ q w1 Fq.out
  have HS := Lib.hid hs; clear hs
  obtain ⟨eq0, eq1, eq2⟩ := row3 BXq.out
  go_wp2_with fail
  clear eq0 eq1 eq2
  (with_reducible refine HS.out.mono ?_); rintro e w2 ⟨v2, u2, rfl, hb2, hn2, hm2⟩
  clear HS
  have HB2 := Lib.hid (HB1.out.step hb2)
  have Fp := Lib.hid (Fp.out.below hb2)
  have Fq := Lib.hid (Fq.out.below hb2)
  have N := Lib.hid (N.out.below hb2)
  have D := Lib.hid (D.out.below hb2)
  have BXp := Lib.hid (heap_below BXp.out hb2)
  have BXq := Lib.hid (heap_below BXq.out hb2)
  have BXR := Lib.hid (heap_below BXR.out hb2)
  have M := Lib.hid hn2
  have E := Lib.hid hm2
  clear hn2 hm2
  clear hb2
  rw [← HY.out]
  have hs := mulN N.out E.out (by omega) (by omega)
  have HS := Lib.hid hs; clear hs
  go_wp2_with fail
  (with_reducible refine HS.out.mono ?_); rintro e w3 ⟨v3, rfl, hb3, hn3⟩
  clear HS
  have HB3 := Lib.hid (HB2.out.step hb3)
  have Fp := Lib.hid (Fp.out.below hb3)
  have Fq := Lib.hid (Fq.out.below hb3)
  have N := Lib.hid (N.out.below hb3)
  have D := Lib.hid (D.out.below hb3)
  have M := Lib.hid (M.out.below hb3)
  have E := Lib.hid (E.out.below hb3)
  have BXp := Lib.hid (heap_below BXp.out hb3)
  have BXq := Lib.hid (heap_below BXq.out hb3)
  have BXR := Lib.hid (heap_below BXR.out hb3)
  have X := Lib.hid hn3; clear hn3
  clear hb3
  have hs := mulN M.out D.out (by omega) (by omega)
  have HS := Lib.hid hs; clear hs
  go_wp2_with fail
  (with_reducible refine HS.out.mono ?_); rintro e w4 ⟨v4, rfl, hb4, hn4⟩
  clear HS
  have HB4 := Lib.hid (HB3.out.step hb4)
  have Fp := Lib.hid (Fp.out.below hb4)
  have Fq := Lib.hid (Fq.out.below hb4)
  have N := Lib.hid (N.out.below hb4)
  have D := Lib.hid (D.out.below hb4)
  have M := Lib.hid (M.out.below hb4)
  have E := Lib.hid (E.out.below hb4)
  have X := Lib.hid (X.out.below hb4)
  have BXp := Lib.hid (heap_below BXp.out hb4)
  have BXq := Lib.hid (heap_below BXq.out hb4)
  have BXR := Lib.hid (heap_below BXR.out hb4)
  have Y := Lib.hid hn4; clear hn4
  clear hb4
  have hs := mulN D.out E.out (by omega) (by omega)
  have HS := Lib.hid hs; clear hs
  go_wp2_with fail
  (with_reducible refine HS.out.mono ?_); rintro e w5 ⟨v5, rfl, hb5, hn5⟩
  clear HS
  have HB5 := Lib.hid (HB4.out.step hb5)
  have Fp := Lib.hid (Fp.out.below hb5)
  have Fq := Lib.hid (Fq.out.below hb5)
  have N := Lib.hid (N.out.below hb5)
  have D := Lib.hid (D.out.below hb5)
  have M := Lib.hid (M.out.below hb5)
  have E := Lib.hid (E.out.below hb5)
  have X := Lib.hid (X.out.below hb5)
  have Y := Lib.hid (Y.out.below hb5)
  have BXp := Lib.hid (heap_below BXp.out hb5)
  have BXq := Lib.hid (heap_below BXq.out hb5)
  have BXR := Lib.hid (heap_below BXR.out hb5)
  have DE := Lib.hid hn5; clear hn5
  clear hb5
  have hs := cmpN_ X.out Y.out (by omega) (by omega)
  rw [← HC.out] at hs
  have HS := Lib.hid hs; clear hs
  go_wp2_with fail
  (with_reducible refine HS.out.mono ?_); rintro e w6 ⟨rfl, hb6⟩
  clear HS
  have HB6 := Lib.hid (HB5.out.step hb6)
  have Fp := Lib.hid (Fp.out.below hb6)
  have Fq := Lib.hid (Fq.out.below hb6)
  have N := Lib.hid (N.out.below hb6)
  have D := Lib.hid (D.out.below hb6)
  have M := Lib.hid (M.out.below hb6)
  have E := Lib.hid (E.out.below hb6)
  have X := Lib.hid (X.out.below hb6)
  have Y := Lib.hid (Y.out.below hb6)
  have DE := Lib.hid (DE.out.below hb6)
  have BXp := Lib.hid (heap_below BXp.out hb6)
  have BXq := Lib.hid (heap_below BXq.out hb6)
  have BXR := Lib.hid (heap_below BXR.out hb6)
  clear hb6
  have hs := subN Y.out X.out (by omega) (by omega) (Nat.le_of_lt HLE.out)
  have HS := Lib.hid hs; clear hs
  go_wp2_with fail
  (with_reducible refine HS.out.mono ?_); rintro e w7 ⟨v7, rfl, hb7, hn7⟩
  clear HS
  have HB7 := Lib.hid (HB6.out.step hb7)
  have Fp := Lib.hid (Fp.out.below hb7)
  have Fq := Lib.hid (Fq.out.below hb7)
  have N := Lib.hid (N.out.below hb7)
  have D := Lib.hid (D.out.below hb7)
  have M := Lib.hid (M.out.below hb7)
  have E := Lib.hid (E.out.below hb7)
  have X := Lib.hid (X.out.below hb7)
  have Y := Lib.hid (Y.out.below hb7)
  have DE := Lib.hid (DE.out.below hb7)
  have BXp := Lib.hid (heap_below BXp.out hb7)
  have BXq := Lib.hid (heap_below BXq.out hb7)
  have BXR := Lib.hid (heap_below BXR.out hb7)
  have S := Lib.hid hn7; clear hn7
  clear hb7
  have hs := formN y S.out DE.out (by omega) (by omega) (den_mul_nz p.den_nz q.den_nz)
  have HS := Lib.hid hs; clear hs
  go_wp2_with fail
  (with_reducible refine HS.out.mono ?_); rintro e w8 ⟨v8, rfl, hb8, hn8⟩
  clear HS
  have HB8 := Lib.hid (HB7.out.step hb8)
  have Fp := Lib.hid (Fp.out.below hb8)
  have Fq := Lib.hid (Fq.out.below hb8)
  have N := Lib.hid (N.out.below hb8)
  have D := Lib.hid (D.out.below hb8)
  have M := Lib.hid (M.out.below hb8)
  have E := Lib.hid (E.out.below hb8)
  have X := Lib.hid (X.out.below hb8)
  have Y := Lib.hid (Y.out.below hb8)
  have DE := Lib.hid (DE.out.below hb8)
  have S := Lib.hid (S.out.below hb8)
  have BXp := Lib.hid (heap_below BXp.out hb8)
  have BXq := Lib.hid (heap_below BXq.out hb8)
  have BXR := Lib.hid (heap_below BXR.out hb8)
  have Q := Lib.hid hn8; clear hn8
  clear hb8
  have hq := Q.out; rw [HY.out, HEQ.out] at hq; have Q := Lib.hid hq; clear hq
  obtain ⟨sQ, oQ, nQ, cQ, aQ, mQ, dQ, rfl⟩ := Q.out.shape
  obtain ⟨eR0, eR1, eR2⟩ := row3 BXR.out
  obtain ⟨fR0, fR1, fR2⟩ := froz3 BXR.out
  go_wp2_with fail
  clear eR0 eR1 eR2 fR0 fR1 fR2
  refine ret_rat rfl (w.heap.size + 2) _ _ _ rfl (put3_heap BXR.out) rfl ?_
  exact ⟨_, rfl, put3_below HB8.out (by omega) _ _ _, isR_put Q.out BXR.out⟩
theorem addq_any (vp : Value) (p : Rat) (vq : Value) (q : Rat) (w : World) (hp : RatIs w vp p) (hq : RatIs w vq q) :
    Calls Tryz.prog 65 #[vp, vq] w (RetR w (p + q)) := by
  by_cases h : ng p = ng q
  · exact add_same vp p vq q w hp hq h
  · rcases Nat.lt_or_ge (nn p * q.den) (nn q * p.den) with h2 | h2
    · exact add_diff' vp p vq q w hp hq h h2
    · exact add_diff vp p vq q w hp hq h h2
end Go.Proofs.YthhgfhdmfhnklaaGreatDoor
/-
  rational.size, Of, Make, Sub, Sign, Cmp, same, Min, Max, Div: what they hand back.
  Conditions: each theorem's own.
-/
namespace Go.Proofs.YthhgfhdmfhnklaaGreatDoor
open Go.RowKit Go.ChangeShapes Go.WideShapes

theorem put6 {w : World} {g p q : Nat} {x y z a b c d e f : Value} (hp : p ≠ g) (hq : q ≠ g) (h : w.cell? ⟨p, 0, none⟩ = some a ∧ w.cell? ⟨p, 1, none⟩ = some b ∧ w.cell? ⟨p, 2, none⟩ = some c ∧ w.cell? ⟨q, 0, none⟩ = some d ∧ w.cell? ⟨q, 1, none⟩ = some e ∧ w.cell? ⟨q, 2, none⟩ = some f) :
    (put3 w g x y z).cell? ⟨p, 0, none⟩ = some a ∧ (put3 w g x y z).cell? ⟨p, 1, none⟩ = some b ∧ (put3 w g x y z).cell? ⟨p, 2, none⟩ = some c ∧ (put3 w g x y z).cell? ⟨q, 0, none⟩ = some d ∧ (put3 w g x y z).cell? ⟨q, 1, none⟩ = some e ∧ (put3 w g x y z).cell? ⟨q, 2, none⟩ = some f := by
  obtain ⟨h1, h2, h3, h4, h5, h6⟩ := h
  have e1 : (put3 w g x y z).heap[p]? = w.heap[p]? := by
    unfold put3; rw [Below.heap_setCell _ _ _ _ hp, Below.heap_setCell _ _ _ _ hp, Below.heap_setCell _ _ _ _ hp]
  have e2 : (put3 w g x y z).heap[q]? = w.heap[q]? := by
    unfold put3; rw [Below.heap_setCell _ _ _ _ hq, Below.heap_setCell _ _ _ _ hq, Below.heap_setCell _ _ _ _ hq]
  unfold World.cell? at *
  simp only [e1, e2]
  exact ⟨h1, h2, h3, h4, h5, h6⟩
theorem wd_two63 : wd 9223372036854775808 = [0, 2147483648] := by
  rw [wd_pos (by decide), show (9223372036854775808 : Nat) % 4294967296 = 0 from rfl, show (9223372036854775808 : Nat) / 4294967296 = 2147483648 from rfl, wd_one (by decide) (by decide)]
theorem wd_small {n : Nat} (h : n ≤ 9223372036854775808) : (wd n).length ≤ 2 := wd_length_of_lt (Nat.lt_of_le_of_lt h (by decide))
set_option maxRecDepth 100000 in
set_option maxHeartbeats 800000 in
theorem size_any (n : Int) (w : World) (h0 : -9223372036854775808 ≤ n) (h1 : n < 9223372036854775808) :
    Calls Tryz.prog 89 #[.int .i64 n] w (RetN w n.natAbs) := by
  by_cases h : n = -9223372036854775808
  · subst h
    go_enter Tryz.func89, Tryz.ntmps89
    go_wp2_with fail
    go_ret
    refine ⟨_, rfl, (Below.refl _ _).alloc (Nat.le_refl _) _, ?_⟩
    rw [show (-9223372036854775808 : Int).natAbs = 9223372036854775808 from rfl, wd_two63]
    exact num_lit w 156 _ [0, 2147483648] 2 (U32.cons (by decide) (U32.cons (by decide) U32.nil)) rfl (by simp) rfl
  · have f1 : (n == -9223372036854775808) = false := by rw [beq_eq_false_iff_ne]; exact h
    have hof := of_any (max n (-n)) w (by omega) (by omega)
    rw [show (max n (-n)).toNat = n.natAbs by omega] at hof
    have HO := Lib.hid hof
    have hwr : wrap64 (-n) = -n := by unfold wrap64; omega
    clear hof h
    go_enter Tryz.func89, Tryz.ntmps89
    go_wp2_with fail
    (with_reducible refine HO.out.mono ?_); rintro e w1 ⟨v1, l1, rfl, hb1, hn1, rfl⟩
    go_wp2_with fail
    go_ret
    exact ⟨_, rfl, hb1, hn1⟩
theorem sgn_int (n : Int) : sgn (decide (n < 0)) n.natAbs = n := by
  unfold sgn
  by_cases h : n < 0
  · rw [decide_eq_true h, if_pos rfl]; omega
  · rw [decide_eq_false h, if_neg (by decide)]; omega
theorem q_int (n : Int) : qm (decide (n < 0)) n.natAbs 1 = (n : Rat) := by rw [qm_one, sgn_int]
theorem q_ints (n d : Int) : qm (!(decide (n < 0) == decide (d < 0))) n.natAbs d.natAbs = (n : Rat) / (d : Rat) := by
  rw [show (!(decide (n < 0) == decide (d < 0))) = (decide (n < 0) != decide (d < 0)) from rfl, qm_eq_div]
  by_cases h : d = 0
  · subst h
    rw [show (0 : Int).natAbs = 0 from rfl, show ((0 : Nat) : Rat) = 0 from rfl, show ((0 : Int) : Rat) = 0 from rfl]; grind
  · have e : (d : Rat) = ((sgn (decide (d < 0)) d.natAbs : Int) : Rat) := by rw [sgn_int]
    have e2 : ((sgn (decide (n < 0) != decide (d < 0)) n.natAbs : Int) : Rat) * (d : Rat) = (n : Rat) * ((d.natAbs : Nat) : Rat) := by
      rw [← Rat.intCast_natCast, ← Rat.intCast_mul, ← Rat.intCast_mul]
      congr 1
      have st : ∀ m : Nat, sgn true m = -(m : Int) := fun _ => rfl
      have sf : ∀ m : Nat, sgn false m = (m : Int) := fun _ => rfl
      by_cases h1 : n < 0 <;> by_cases h2 : d < 0
      · rw [decide_eq_true h1, decide_eq_true h2, show (true != true) = false from rfl, sf, show ((d.natAbs : Nat) : Int) = -d by omega, show ((n.natAbs : Nat) : Int) = -n by omega]; simp [Int.neg_mul, Int.mul_neg]
      · rw [decide_eq_true h1, decide_eq_false h2, show (true != false) = true from rfl, st, show ((d.natAbs : Nat) : Int) = d by omega, show ((n.natAbs : Nat) : Int) = -n by omega]; simp
      · rw [decide_eq_false h1, decide_eq_true h2, show (false != true) = true from rfl, st, show ((d.natAbs : Nat) : Int) = -d by omega, show ((n.natAbs : Nat) : Int) = n by omega]; simp [Int.neg_mul, Int.mul_neg]
      · rw [decide_eq_false h1, decide_eq_false h2, show (false != false) = false from rfl, sf, show ((d.natAbs : Nat) : Int) = d by omega, show ((n.natAbs : Nat) : Int) = n by omega]
    have d1 : (d : Rat) ≠ 0 := fun e => h (Rat.intCast_eq_zero_iff.1 e)
    have d2 : ((d.natAbs : Nat) : Rat) ≠ 0 := fun e => by have := Rat.natCast_eq_zero_iff.1 e; omega
    grind

set_option maxRecDepth 100000 in
set_option maxHeartbeats 3200000 in
theorem ofq_any (n : Int) (w : World)  (h0 : -9223372036854775808 ≤ n) (h1 : n < 9223372036854775808) :
    Calls Tryz.prog 51 #[.int .i64 n] w (RetR w (n : Rat)) := by
  have hb0 := ((Below.refl w.heap.size w).alloc (by first | (simp; done) | (simp; omega)) (.cells #[.bool false, .slice none 0 0, .slice none 0 0] 54))
  have hxR := nest1_0 w (.cells #[.bool false, .slice none 0 0, .slice none 0 0] 54)
  obtain ⟨w0, hw0⟩ : ∃ w0, w0 = (w.alloc (.cells #[.bool false, .slice none 0 0, .slice none 0 0] 54)) := ⟨_, rfl⟩
  rw [← hw0] at hb0 hxR
  have HB0 := Lib.hid hb0; have HW0 := Lib.hid hw0
  have BXR := Lib.hid hxR
  clear hb0 hw0 hxR
  have L1 : (wd (n.natAbs)).length ≤ 2 := by exact wd_small (by omega)
  have L2 : (wd (1)).length ≤ 1 := by rw [wd_one_len]; exact Nat.le_refl _
  have BD := Lib.hid (And.intro h0 h1)
  go_enter Tryz.func51, Tryz.ntmps51
  have hs := size_any n w0 BD.out.1 BD.out.2
  have HS := Lib.hid hs; clear hs
  go_wp2_with fail
  rw [← HW0.out]
  (with_reducible refine HS.out.mono ?_); rintro e w1 ⟨v1, rfl, hb1, hn1⟩
  clear HS
  have HB1 := Lib.hid (HB0.out.step hb1)
  have BXR := Lib.hid (heap_below BXR.out hb1)
  have N := Lib.hid hn1; clear hn1
  clear hb1
  have hs := one_any w1
  have HS := Lib.hid hs; clear hs
  go_wp2_with fail
  (with_reducible refine HS.out.mono ?_); rintro e w2 ⟨v2, rfl, hb2, hn2⟩
  clear HS
  have HB2 := Lib.hid (HB1.out.step hb2)
  have N := Lib.hid (N.out.below hb2)
  have BXR := Lib.hid (heap_below BXR.out hb2)
  have O := Lib.hid hn2; clear hn2
  clear hb2
  have hs := formN (decide (n < 0)) N.out O.out (by omega) (by omega) (by decide)
  rw [q_int] at hs
  have HS := Lib.hid hs; clear hs
  go_wp2_with fail
  (with_reducible refine HS.out.mono ?_); rintro e w3 ⟨v3, rfl, hb3, hn3⟩
  clear HS
  have HB3 := Lib.hid (HB2.out.step hb3)
  have N := Lib.hid (N.out.below hb3)
  have O := Lib.hid (O.out.below hb3)
  have BXR := Lib.hid (heap_below BXR.out hb3)
  have Q := Lib.hid hn3; clear hn3
  clear hb3
  obtain ⟨sQ, oQ, nQ, cQ, aQ, mQ, dQ, rfl⟩ := Q.out.shape
  obtain ⟨eR0, eR1, eR2⟩ := row3 BXR.out
  obtain ⟨fR0, fR1, fR2⟩ := froz3 BXR.out
  go_wp2_with fail
  clear eR0 eR1 eR2 fR0 fR1 fR2
  refine ret_rat rfl w.heap.size _ _ _ rfl (put3_heap BXR.out) rfl ?_
  exact ⟨_, rfl, put3_below HB3.out (by omega) _ _ _, isR_put Q.out BXR.out⟩
set_option maxRecDepth 100000 in
set_option maxHeartbeats 3200000 in
theorem subq_any (vp : Value) (p : Rat) (vq : Value) (q : Rat) (w : World) (hp : RatIs w vp p) (hq : RatIs w vq q)  :
    Calls Tryz.prog 50 #[vp, vq] w (RetR w (p - q)) := by
  obtain ⟨sp, op, np, cp, ap, mp, dp, rfl⟩ := hp.shape
  have hlp := hp.rl
  obtain ⟨sq, oq, nq, cq, aq, mq, dq, rfl⟩ := hq.shape
  have hlq := hq.rl
  have hb0 := ((((Below.refl w.heap.size w).alloc (by first | (simp; done) | (simp; omega)) (.cells #[.bool sp, .slice op np cp, .slice ap mp dp] 54)).alloc (by first | (simp; done) | (simp; omega)) (.cells #[.bool sq, .slice oq nq cq, .slice aq mq dq] 54)).alloc (by first | (simp; done) | (simp; omega)) (.cells #[.bool false, .slice none 0 0, .slice none 0 0] 54))
  have hxp := nest3_0 w (.cells #[.bool sp, .slice op np cp, .slice ap mp dp] 54) (.cells #[.bool sq, .slice oq nq cq, .slice aq mq dq] 54) (.cells #[.bool false, .slice none 0 0, .slice none 0 0] 54)
  have hxq := nest3_1 w (.cells #[.bool sp, .slice op np cp, .slice ap mp dp] 54) (.cells #[.bool sq, .slice oq nq cq, .slice aq mq dq] 54) (.cells #[.bool false, .slice none 0 0, .slice none 0 0] 54)
  have hxR := nest3_2 w (.cells #[.bool sp, .slice op np cp, .slice ap mp dp] 54) (.cells #[.bool sq, .slice oq nq cq, .slice aq mq dq] 54) (.cells #[.bool false, .slice none 0 0, .slice none 0 0] 54)
  have hpp := hp.below hb0
  have hpq := hq.below hb0
  obtain ⟨w0, hw0⟩ : ∃ w0, w0 = (((w.alloc (.cells #[.bool sp, .slice op np cp, .slice ap mp dp] 54)).alloc (.cells #[.bool sq, .slice oq nq cq, .slice aq mq dq] 54)).alloc (.cells #[.bool false, .slice none 0 0, .slice none 0 0] 54)) := ⟨_, rfl⟩
  rw [← hw0] at hb0 hxp hxq hxR hpp hpq
  have HB0 := Lib.hid hb0; have HW0 := Lib.hid hw0
  have BXp := Lib.hid hxp
  have BXq := Lib.hid hxq
  have BXR := Lib.hid hxR
  have Fp := Lib.hid hpp
  have Fq := Lib.hid hpq
  clear hb0 hw0 hxp hxq hxR hpp hp hpq hq
  have hr : rl (-q) ≤ 100000 := by rw [rl_neg]; exact hlq
  have HD := Lib.hid ((Below.refl w0.heap.size w0).drew)
  have hng := neg_any _ q _ (Fq.out.below HD.out)
  have HNG := Lib.hid hng; clear hng
  have had := fun vs w1 (h1 : Below w0.heap.size w0 w1) (hs : IsR w1 vs (-q)) => addq_any _ p vs (-q) w1 (Fp.out.below h1) (hs.is hr)
  rw [← Rat.sub_eq_add_neg] at had
  have HAD := Lib.hid had; clear had
  have ZP := Lib.hid (fun w1 (h1 : Below w0.heap.size w0 w1) => row3 (heap_below BXp.out h1)); have ZQ := Lib.hid (fun w1 (h1 : Below w0.heap.size w0 w1) => row3 (heap_below BXq.out h1)); have ZR := Lib.hid (fun w1 (h1 : Below w0.heap.size w0 w1) => row3 (heap_below BXR.out h1)); have ZF := Lib.hid (fun w1 (h1 : Below w0.heap.size w0 w1) => froz3 (heap_below BXR.out h1))
  go_enter Tryz.func50, Tryz.ntmps50
  go_wp2_with fail
  rw [← HW0.out]
  obtain ⟨zp0, zp1, zp2⟩ := ZP.out _ HD.out; obtain ⟨zq0, zq1, zq2⟩ := ZQ.out _ HD.out
  go_region_held3 (fun wx => wx.cell? ⟨w.heap.size, 0, none⟩ = some (.bool sp) ∧ wx.cell? ⟨w.heap.size, 1, none⟩ = some (.slice op np cp) ∧ wx.cell? ⟨w.heap.size, 2, none⟩ = some (.slice ap mp dp) ∧ wx.cell? ⟨w.heap.size + 1, 0, none⟩ = some (.bool sq) ∧ wx.cell? ⟨w.heap.size + 1, 1, none⟩ = some (.slice oq nq cq) ∧ wx.cell? ⟨w.heap.size + 1, 2, none⟩ = some (.slice aq mq dq)) (first | exact ⟨zp0, zp1, zp2, zq0, zq1, zq2⟩ | exact put6 (by omega) (by omega) ⟨zp0, zp1, zp2, zq0, zq1, zq2⟩) (first
    | (go_at_call 87; (with_reducible refine HNG.out.mono ?_); rintro e w1 ⟨v1, rfl, hb1, hn1⟩; (have HB1 := Lib.hid (HD.out.step hb1)); (have HN1 := Lib.hid hn1); clear hb1 hn1; (obtain ⟨zp0, zp1, zp2⟩ := ZP.out _ HB1.out); (obtain ⟨zq0, zq1, zq2⟩ := ZQ.out _ HB1.out))
    | (go_at_call 65; (with_reducible refine (HAD.out _ _ HB1.out HN1.out).mono ?_); rintro e w2 ⟨v2, rfl, hb2, hn2⟩; (have HB2 := Lib.hid (HB1.out.step hb2)); (have HN2 := Lib.hid hn2); clear hb2 hn2; (obtain ⟨t1, t2, t3, t4, t5, t6, t7, rfl⟩ := HN2.out.shape); (obtain ⟨zp0, zp1, zp2⟩ := ZP.out _ HB2.out); (obtain ⟨zq0, zq1, zq2⟩ := ZQ.out _ HB2.out); (obtain ⟨zr0, zr1, zr2⟩ := ZR.out _ HB2.out); (obtain ⟨zf0, zf1, zf2⟩ := ZF.out _ HB2.out)))
  all_goals
    go_wp2_with fail
    have BXR2 := heap_below BXR.out HB2.out
    refine ret_rat rfl (w.heap.size + 2) _ _ _ rfl (put3_heap BXR2) rfl ?_
    exact ⟨_, rfl, put3_below (HB0.out.step HB2.out) (by omega) _ _ _, isR_put HN2.out BXR2⟩
end Go.Proofs.YthhgfhdmfhnklaaGreatDoor
/-
  Statements of open order over fractions: the facts that operations leave.
  Conditions: each theorem's own.
-/
namespace Go.Proofs.YthhgfhdmfhnklaaGreatDoor
open Go.RowKit Go.ChangeShapes Go.WideShapes

def KIs (q : Rat) : Value → World → Prop := fun v w => IsR w v q
theorem kIs (q : Rat) : MonoF (KIs q) := fun _ _ _ h hb => IsR.below h hb
theorem below_lt {w1 : World} {g : Nat} {o : Obj} (h : w1.heap[g]? = some o) : g < w1.heap.size := (Array.getElem?_eq_some_iff.1 h).1
/-! what a store of a fraction into a variable keeps -/
section
variable {w w' : World} {g : Nat} {x y z v : Value} {s s' : Bool} {o p : Option Addr} {n c m d : Nat} {T : TypeId} {q : Rat} {a b : List Nat}
end
end Go.Proofs.YthhgfhdmfhnklaaGreatDoor
/-
  Intervals in memory: what a value reads as, what a call hands back; six cells side by side.
  Conditions: none beyond each theorem's own.
-/
namespace Go.Proofs.YthhgfhdmfhnklaaGreatDoor
open Go.RowKit Go.ChangeShapes Go.WideShapes

/-- the value reads as two fractions with these fields -/
def SpV (w : World) (v : Value) (s : Bool) (a b : List Nat) (t : Bool) (c d : List Nat) : Prop :=
  ∃ x0 x1 x2 x3 x4 x5, v = .agg #[x0, x1, x2, x3, x4, x5] ∧ RatV w (.agg #[x0, x1, x2]) s a b ∧ RatV w (.agg #[x3, x4, x5]) t c d
/-- the interval as which the fields count -/
def sq (s : Bool) (a b : List Nat) (t : Bool) (c d : List Nat) : Rat × Rat :=
  if Vld s a b ∧ Vld t c d ∧ rq s a b ≤ rq t c d then (rq s a b, rq t c d) else (0, 0)
/-- the value reads as the valid form of the interval -/
def IsSp (w : World) (v : Value) (S : Rat × Rat) : Prop :=
  ∃ x0 x1 x2 x3 x4 x5, v = .agg #[x0, x1, x2, x3, x4, x5] ∧ IsR w (.agg #[x0, x1, x2]) S.1 ∧ IsR w (.agg #[x3, x4, x5]) S.2
/-- the value reads as an interval of any fields that counts as S, its words not too many -/
def SpIs (w : World) (v : Value) (S : Rat × Rat) : Prop :=
  ∃ s a b t c d, SpV w v s a b t c d ∧ sq s a b t c d = S ∧ a.length ≤ 40000 ∧ b.length ≤ 40000 ∧ c.length ≤ 40000 ∧ d.length ≤ 40000
theorem SpV.below {w w' : World} {v : Value} {s t : Bool} {a b c d : List Nat} (h : SpV w v s a b t c d) (hb : Below w.heap.size w w') : SpV w' v s a b t c d := by
  obtain ⟨x0, x1, x2, x3, x4, x5, e, h1, h2⟩ := h
  exact ⟨x0, x1, x2, x3, x4, x5, e, h1.below hb, h2.below hb⟩
theorem IsSp.below {w w' : World} {v : Value} {S : Rat × Rat} (h : IsSp w v S) (hb : Below w.heap.size w w') : IsSp w' v S := by
  obtain ⟨x0, x1, x2, x3, x4, x5, e, h1, h2⟩ := h
  exact ⟨x0, x1, x2, x3, x4, x5, e, h1.below hb, h2.below hb⟩
theorem SpIs.below {w w' : World} {v : Value} {S : Rat × Rat} (h : SpIs w v S) (hb : Below w.heap.size w w') : SpIs w' v S := by
  obtain ⟨s, a, b, t, c, d, h1, h2⟩ := h
  exact ⟨s, a, b, t, c, d, h1.below hb, h2⟩
theorem sq_ok (s : Bool) (a b : List Nat) (t : Bool) (c d : List Nat) : (sq s a b t c d).1 ≤ (sq s a b t c d).2 := by
  unfold sq; split
  · rename_i h; exact h.2.2
  · exact Rat.le_refl
theorem SpIs.ok {w : World} {v : Value} {S : Rat × Rat} (h : SpIs w v S) : S.1 ≤ S.2 := by
  obtain ⟨s, a, b, t, c, d, h1, h2, _⟩ := h
  rw [← h2]; exact sq_ok _ _ _ _ _ _
theorem IsSp.is {w : World} {v : Value} {S : Rat × Rat} (h : IsSp w v S) (hle : S.1 ≤ S.2) (l1 : rl S.1 ≤ 40000) (l2 : rl S.2 ≤ 40000) : SpIs w v S := by
  obtain ⟨x0, x1, x2, x3, x4, x5, e, h1, h2⟩ := h
  refine ⟨_, _, _, _, _, _, ⟨x0, x1, x2, x3, x4, x5, e, h1, h2⟩, ?_, Nat.le_trans (rl_n _) l1, Nat.le_trans (dn_len _) l1, Nat.le_trans (rl_n _) l2, Nat.le_trans (dn_len _) l2⟩
  obtain ⟨v1, e1⟩ := vld_self S.1
  obtain ⟨v2, e2⟩ := vld_self S.2
  unfold sq
  rw [e1, e2, if_pos ⟨v1, v2, hle⟩]
theorem SpV.lt {w : World} {v : Value} {s t : Bool} {a b c d : List Nat} (h : SpV w v s a b t c d) : (U32 a ∧ U32 b) ∧ U32 c ∧ U32 d := by
  obtain ⟨x0, x1, x2, x3, x4, x5, e, h1, h2⟩ := h
  exact ⟨h1.lt, h2.lt⟩
theorem rl_sq {s t : Bool} {a b c d : List Nat} {L : Nat} (ha : U32 a) (hb : U32 b) (hc : U32 c) (hd : U32 d) (h1 : a.length ≤ L) (h2 : b.length ≤ L) (h3 : c.length ≤ L) (h4 : d.length ≤ L) (hL : 1 ≤ L) : rl (sq s a b t c d).1 ≤ L ∧ rl (sq s a b t c d).2 ≤ L := by
  unfold sq; split
  · exact ⟨rl_rq ha hb h1 h2 hL, rl_rq hc hd h3 h4 hL⟩
  · show rl 0 ≤ L ∧ rl 0 ≤ L
    rw [rl_zero]; exact ⟨hL, hL⟩
theorem SpIs.rl {w : World} {v : Value} {S : Rat × Rat} (h : SpIs w v S) : rl S.1 ≤ 40000 ∧ rl S.2 ≤ 40000 := by
  obtain ⟨s, a, b, t, c, d, h0, rfl, h1, h2, h3, h4⟩ := h
  obtain ⟨⟨u1, u2⟩, u3, u4⟩ := h0.lt
  exact rl_sq u1 u2 u3 u4 h1 h2 h3 h4 (by decide)
theorem SpV.shape {w : World} {v : Value} {s₀ t₀ : Bool} {a₀ b₀ c₀ d₀ : List Nat} (h : SpV w v s₀ a₀ b₀ t₀ c₀ d₀) : ∃ s ao n c bo m d s' ao' n' c' bo' m' d', v = .agg #[.bool s, .slice ao n c, .slice bo m d, .bool s', .slice ao' n' c', .slice bo' m' d'] := by
  obtain ⟨x0, x1, x2, x3, x4, x5, e, ⟨va, vb, e1, h1, h2⟩, ⟨vc, vd, e2, h3, h4⟩⟩ := h
  have e1' : x0 = .bool s₀ ∧ x1 = va ∧ x2 = vb := by simpa using e1
  have e2' : x3 = .bool t₀ ∧ x4 = vc ∧ x5 = vd := by simpa using e2
  obtain ⟨rfl, rfl, rfl⟩ := e1'
  obtain ⟨rfl, rfl, rfl⟩ := e2'
  obtain ⟨o1, c1, rfl, _⟩ := h1.shape
  obtain ⟨o2, c2, rfl, _⟩ := h2.shape
  obtain ⟨o3, c3, rfl, _⟩ := h3.shape
  obtain ⟨o4, c4, rfl, _⟩ := h4.shape
  exact ⟨_, _, _, _, _, _, _, _, _, _, _, _, _, _, e⟩
theorem SpIs.shape {w : World} {v : Value} {S : Rat × Rat} (h : SpIs w v S) : ∃ s ao n c bo m d s' ao' n' c' bo' m' d', v = .agg #[.bool s, .slice ao n c, .slice bo m d, .bool s', .slice ao' n' c', .slice bo' m' d'] := by
  obtain ⟨s, a, b, t, c, d, h1, _⟩ := h
  exact h1.shape
theorem IsSp.shape {w : World} {v : Value} {S : Rat × Rat} (h : IsSp w v S) : ∃ s ao n c bo m d s' ao' n' c' bo' m' d', v = .agg #[.bool s, .slice ao n c, .slice bo m d, .bool s', .slice ao' n' c', .slice bo' m' d'] := SpV.shape h
theorem isSp_ends {w : World} {x0 x1 x2 x3 x4 x5 : Value} {S : Rat × Rat} (h : IsSp w (.agg #[x0, x1, x2, x3, x4, x5]) S) : IsR w (.agg #[x0, x1, x2]) S.1 ∧ IsR w (.agg #[x3, x4, x5]) S.2 := by
  obtain ⟨y0, y1, y2, y3, y4, y5, e, h1, h2⟩ := h
  have e' : x0 = y0 ∧ x1 = y1 ∧ x2 = y2 ∧ x3 = y3 ∧ x4 = y4 ∧ x5 = y5 := by simpa using e
  obtain ⟨rfl, rfl, rfl, rfl, rfl, rfl⟩ := e'
  exact ⟨h1, h2⟩
theorem isSp_of {w : World} {x0 x1 x2 x3 x4 x5 : Value} {p q : Rat} (h1 : IsR w (.agg #[x0, x1, x2]) p) (h2 : IsR w (.agg #[x3, x4, x5]) q) : IsSp w (.agg #[x0, x1, x2, x3, x4, x5]) (p, q) :=
  ⟨_, _, _, _, _, _, rfl, h1, h2⟩
/-! six cells -/
theorem row6 {w : World} {g : Nat} {x0 x1 x2 x3 x4 x5 : Value} {T : TypeId} (h : w.heap[g]? = some (.cells #[x0, x1, x2, x3, x4, x5] T)) :
    w.cell? ⟨g, 0, none⟩ = some x0 ∧ w.cell? ⟨g, 1, none⟩ = some x1 ∧ w.cell? ⟨g, 2, none⟩ = some x2 ∧ w.cell? ⟨g, 3, none⟩ = some x3 ∧ w.cell? ⟨g, 4, none⟩ = some x4 ∧ w.cell? ⟨g, 5, none⟩ = some x5 :=
  ⟨cell_of_row _ _ _ _ _ _ h, cell_of_row _ _ _ _ _ _ h, cell_of_row _ _ _ _ _ _ h, cell_of_row _ _ _ _ _ _ h, cell_of_row _ _ _ _ _ _ h, cell_of_row _ _ _ _ _ _ h⟩
/-- cells from a place on are written -/
def putL (w : World) (g : Nat) : Nat → List Value → World
  | _, [] => w
  | off, x :: l => putL (w.setCell ⟨g, off, none⟩ x) g (off + 1) l
theorem putL_ne {g p : Nat} (h : p ≠ g) : ∀ (l : List Value) (w : World) (off : Nat), (putL w g off l).heap[p]? = w.heap[p]?
  | [], _, _ => rfl
  | x :: l, w, off => by
    unfold putL; rw [putL_ne h l, Below.heap_setCell _ _ _ _ h]
theorem putL_size : ∀ (l : List Value) (w : World) (g off : Nat), (putL w g off l).heap.size = w.heap.size
  | [], _, _, _ => rfl
  | x :: l, w, g, off => by
    unfold putL; rw [putL_size l]; simp [World.setCell]
theorem putL_below {w0 : World} {B g : Nat} (hg : B ≤ g) : ∀ (l : List Value) (w : World) (off : Nat), Below B w0 w → Below B w0 (putL w g off l)
  | [], _, _, h => h
  | x :: l, w, off, h => by
    unfold putL; exact putL_below hg l _ _ (h.setCell hg x)
/-- cells that hold no words -/
def noW (cs : Array Value) : Prop := ∀ (j : Nat) (n : Int), cs[j]? ≠ some (.int .u32 n)
theorem putL_num {w w' : World} {g off : Nat} {l : List Value} {cs : Array Value} {T : TypeId} {v : Value} {k : List Nat} (hw : w' = putL w g off l) (hn : Num w v k) (h : w.heap[g]? = some (.cells cs T)) (hc : noW cs) : Num w' v k := by
  obtain ⟨ao, c, rfl, h1, h2, h3, h4, h5⟩ := hn
  refine ⟨ao, c, rfl, h1, h2, h3, ?_, h5⟩
  intro b' o s hs
  obtain ⟨k1, k2⟩ := h4 b' o s hs
  have hsz : w'.heap.size = w.heap.size := by rw [hw, putL_size]
  refine ⟨fun h0 => by rw [hsz]; exact k1 h0, fun j hj => ?_⟩
  by_cases he : b' = g
  · subst he
    have := k2 j hj
    have hx : w.cell? ⟨b', o + j, none⟩ = cs[o + j]? := by
      unfold World.cell?; simp only [h]; rfl
    rw [hx] at this
    exact absurd this (hc _ _)
  · rw [← k2 j hj]
    unfold World.cell?
    have e : w'.heap[b']? = w.heap[b']? := by rw [hw, putL_ne he]
    simp only [e]
section
variable {w w' : World} {g off : Nat} {l : List Value} {cs : Array Value} {T : TypeId} {v : Value} {q : Rat} {s t : Bool} {a b c d : List Nat} {S : Rat × Rat}
theorem putL_V (hw : w' = putL w g off l) (h : RatV w v s a b) (hg : w.heap[g]? = some (.cells cs T)) (hc : noW cs) : RatV w' v s a b := by
  obtain ⟨va, vb, e, h1, h2⟩ := h
  exact ⟨va, vb, e, putL_num hw h1 hg hc, putL_num hw h2 hg hc⟩
theorem putL_I (hw : w' = putL w g off l) (h : IsR w v q) (hg : w.heap[g]? = some (.cells cs T)) (hc : noW cs) : IsR w' v q := putL_V hw h hg hc
end
theorem noW3 {s : Bool} {o p : Option Addr} {n c m d : Nat} : noW #[.bool s, .slice o n c, .slice p m d] := by
  intro j n; match j with
  | 0 => simp
  | 1 => simp
  | 2 => simp
  | j + 3 => simp
theorem noW6 {s t : Bool} {o p o' p' : Option Addr} {n c m d n' c' m' d' : Nat} : noW #[.bool s, .slice o n c, .slice p m d, .bool t, .slice o' n' c', .slice p' m' d'] := by
  intro j n; match j with
  | 0 => simp
  | 1 => simp
  | 2 => simp
  | 3 => simp
  | 4 => simp
  | 5 => simp
  | j + 6 => simp
theorem putL_6 {w : World} {g : Nat} {x0 x1 x2 x3 x4 x5 y0 y1 y2 y3 y4 y5 : Value} {T : TypeId} (h : w.heap[g]? = some (.cells #[x0, x1, x2, x3, x4, x5] T)) : (putL w g 0 [y0, y1, y2, y3, y4, y5]).heap[g]? = some (.cells #[y0, y1, y2, y3, y4, y5] T) := by
  simp [putL, World.setCell, Array.getElem?_modify, h]
theorem putLx {w w' : World} {g p off : Nat} {l : List Value} {o : Obj} (hw : w' = putL w g off l) (h : w.heap[p]? = some o) (hp : p ≠ g) : w'.heap[p]? = some o := by
  rw [hw, putL_ne hp]; exact h
theorem putLb {w0 w w' : World} {B g off : Nat} {l : List Value} (hw : w' = putL w g off l) (h : Below B w0 w) (hg : B ≤ g) : Below B w0 w' := by
  rw [hw]; exact putL_below hg _ _ _ h
/-- a new variable, in a block from B on -/
def KNew (B : Nat) (cs : Array Value) (T : TypeId) : Value → World → Prop := fun v w => ∃ g, B ≤ g ∧ v = .pointer (some ⟨g, 0, none⟩) ∧ w.heap[g]? = some (.cells cs T)
theorem kNew (B : Nat) (cs : Array Value) (T : TypeId) : MonoF (KNew B cs T) := fun _ _ _ ⟨g, h1, h2, h3⟩ hb => ⟨g, h1, h2, heap_below h3 hb⟩
/-- a new list -/
def KLst (B n : Nat) (cs : Array Value) (T : TypeId) : Value → World → Prop := fun v w => ∃ g, B ≤ g ∧ v = .slice (some ⟨g, 0, none⟩) n n ∧ w.heap[g]? = some (.cells cs T)
theorem kLst (B n : Nat) (cs : Array Value) (T : TypeId) : MonoF (KLst B n cs T) := fun _ _ _ ⟨g, h1, h2, h3⟩ hb => ⟨g, h1, h2, heap_below h3 hb⟩
theorem span_info : (Tryz.prog.info? 56).map (·.size) = some 6 := by kernel_rfl
/-- .. and an error (or its number) -/
theorem ret_span2 {fn : Func} {R : Ending → World → Prop} {a : Act} {w : World} {p u : Tmp} (h : fn.results = #[.cell p 56, .tmp u]) (g : Nat) (x0 x1 x2 x3 x4 x5 : Value)
    (hp : a.tmps.getD p undef = .pointer (some ⟨g, 0, none⟩)) (hg : w.heap[g]? = some (.cells #[x0, x1, x2, x3, x4, x5] 56)) (hd : a.defers = []) (hR : R (.returned (.tuple #[.agg #[x0, x1, x2, x3, x4, x5], a.tmps.getD u undef])) w) : bodyPost Tryz.prog fn R .ret a w := by
  refine bodyPost_ret (v := .tuple #[.agg #[x0, x1, x2, x3, x4, x5], a.tmps.getD u undef]) ?_ hd hR
  rw [results_cell_tmp h, hp]
  simp only [asAddr, Sem.run_pure, Result.andThen, run_loadVar_row w g 56 56 _ _ _ hg Tryz.underlying56 rfl span_info]
end Go.Proofs.YthhgfhdmfhnklaaGreatDoor
/-
  Stores of several cells, one operation at a time: the walk stands before a store, the store's law names the world behind it.
  Conditions: each theorem's own.
-/
namespace Go.Proofs.YthhgfhdmfhnklaaGreatDoor
open Go.RowKit Go.ChangeShapes Go.WideShapes

/-- the walk stands here -/
def Pause (p : Prop) : Prop := p
theorem Pause.mk {p : Prop} (h : p) : Pause p := h
theorem wpList_pauseS {P : Program} {ops : Array Oper} {rest : List Oper} {a : Act} {w : World} {Q : Exit → Act → World → Prop} {d : Option Tmp} {ty tt : TypeId} {x y : Operand} {pos : String} {af : Array Edge}
    (h : Pause (wpList P ops Q (⟨d, .store ty x y, tt, pos, af, none⟩ :: rest) a w)) : wpList P ops Q (⟨d, .store ty x y, tt, pos, af, none⟩ :: rest) a w := h
theorem putL_eq : ∀ (l : List Value) (w : World) (g off : Nat), w.setCells g off l = putL w g off l
  | [], _, _, _ => rfl
  | x :: l, w, g, off => by unfold putL World.setCells; exact putL_eq l _ _ _
theorem there_row {w : World} {g : Nat} {cs : Array Value} {T : TypeId} (h : w.heap[g]? = some (.cells cs T)) {off n : Nat} (hn : off + n ≤ cs.size) : w.there g off n := by
  intro j hj
  refine ⟨?_, ?_⟩
  · rw [cell_of_row w g (off + j) cs T (0, 0) h, Array.getElem?_eq_getElem (show off + j < cs.size by omega)]; rfl
  · simp [World.frozen?, h]
theorem wpList_stL {P : Program} {ops : Array Oper} {rest : List Oper} {a : Act} {w : World} {Q : Exit → Act → World → Prop} {ty tt : TypeId} {x y : Operand} {pos : String} {af : Array Edge}
    (g off : Nat) (l : List Value) {cs : Array Value} {T : TypeId} (hg : w.heap[g]? = some (.cells cs T)) (hx : a.eval x = .pointer (some ⟨g, off, none⟩)) (hy : a.eval y = .agg l.toArray)
    (hle : off + l.length ≤ cs.size) (hi : (P.info? ty).map (·.size) = some l.length) (h1 : l.all (fun v => v.oneCell') = true) (hK : ∀ w', w' = putL w g off l → wpList P ops Q rest a w') :
    Pause (wpList P ops Q (⟨none, .store ty x y, tt, pos, af, none⟩ :: rest) a w) := by
  refine wpList_store_mid rfl ty x y rfl g off l.toArray hx hy (there_row hg (by simpa using hle)) (by simpa using hi) (all_oneCell_toArray (fun v hv => List.all_eq_true.1 h1 v hv)) ?_
  exact hK _ (putL_eq _ _ _ _)
theorem pauseCall {P : Program} {f : FuncId} {args : Array Value} {w : World} {R : Ending → World → Prop} (h : Pause (Calls P f args w R)) : Calls P f args w R := h
theorem pauseLoop {P : Program} {b : Code} {Q : Exit → Act → World → Prop} {a : Act} {w : World} (h : Pause (Code.wp P (.loop b) Q a w)) : Code.wp P (.loop b) Q a w := h
theorem pauseDraw {P : Program} {n : Nat} {ops : Array Oper} {Q : Exit → Act → World → Prop} {a : Act} {w : World} (h : Pause (Code.wp P (.region n ops true) Q a w)) : Code.wp P (.region n ops true) Q a w := h
theorem pauseBody {P : Program} {fn : Func} {R : Ending → World → Prop} {x : Exit} {a : Act} {w : World} (h : Pause (bodyPost P fn R x a w)) : bodyPost P fn R x a w := h
theorem pauseRounds {P : Program} {b : Code} {Q : Exit → Act → World → Prop} {n : Nat} {a : Act} {w : World} (h : Pause (Code.rounds P b Q n a w)) : Code.rounds P b Q n a w := h
end Go.Proofs.YthhgfhdmfhnklaaGreatDoor
