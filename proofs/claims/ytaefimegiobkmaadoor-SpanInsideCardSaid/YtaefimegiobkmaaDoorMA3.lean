/-
  The texts Rat1, Rat2, Rat4, Rat5, Rat6, Rat7, Rat8, DrawR, Span0, SpanMath2, Rat12, Span1, Rat14, Step, one behind the other (what the law leans on).
  Conditions: each theorem's own.
-/
import Derived.Deep.MidRow
import Derived.Test.YtaefimegiobkmaaDoorMA2
/-
  rational.one, plain, Valid: what they hand back.
  Conditions: each theorem's own.
-/
namespace Go.Proofs.YtaefimegiobkmaaDoor
open Go.RowKit Go.ChangeShapes Go.WideShapes

/-- a boxed value's cells stay behind a call -/
theorem box_kept {w w1 : World} {cs : Array Value} {T : TypeId} (hb : Below (w.alloc (.cells cs T)).heap.size (w.alloc (.cells cs T)) w1) (j : Nat) :
    w1.cell? ⟨w.heap.size, j, none⟩ = cs[j]? := by
  rw [hb.cell (p := ⟨w.heap.size, j, none⟩) (by simp), cell_of_row _ _ _ _ _ _ (heap_alloc_new _ _)]

set_option maxRecDepth 100000 in
set_option maxHeartbeats 400000 in
theorem one_any (w : World) : Calls Tryd.prog 51 #[] w (RetN w 1) := by
  go_enter Tryd.func51, Tryd.ntmps51
  go_wp2_with fail
  go_ret
  refine ⟨_, rfl, (Below.refl _ _).alloc (Nat.le_refl _) _, ?_⟩
  rw [wd_one (by decide) (by decide)]
  exact num_one w 78 1 (by decide)
set_option maxRecDepth 100000 in
set_option maxHeartbeats 1600000 in
theorem plain_any (va : Value) (a : List Nat) (w : World) (ha : Num w va a) :
    Calls Tryd.prog 55 #[va] w (RetS w (.bool (decide (a ≠ [] ∧ Clean a)))) := by
  obtain ⟨ao, ca, rfl, hca, hca2, _⟩ := ha.shape
  by_cases h0 : a.length = 0
  · obtain rfl := List.eq_nil_of_length_eq_zero h0
    clear ha
    go_enter Tryd.func55, Tryd.ntmps55
    go_wp2_with fail
    go_ret
    exact ⟨rfl, rfl⟩
  · obtain ⟨b, off, rfl, _, hcell⟩ := ha.at (by omega)
    obtain ⟨m, hm⟩ : ∃ m, m = a.length := ⟨_, rfl⟩
    rw [← hm] at h0 hca hcell ⊢
    have hx := hcell (m - 1) (by omega)
    obtain ⟨x, hxe⟩ : ∃ x, x = gd a (m - 1) := ⟨_, rfl⟩
    rw [← hxe] at hx
    have hcl : (decide (a ≠ [] ∧ Clean a)) = decide (x ≠ 0) := by
      rw [decide_eq_decide, hxe, hm]
      unfold Clean
      have hne : a ≠ [] := fun e => by rw [e] at hm; simp at hm; omega
      constructor
      · rintro ⟨h, h | h⟩
        · exact absurd h hne
        · exact h
      · intro h; exact ⟨hne, .inr h⟩
    rw [hcl]
    have hm0 : decide ((0 : Int) < (m : Int)) = true := decide_eq_true (by omega)
    have hxl : x < 4294967296 := by rw [hxe]; exact ha.lt _
    by_cases hx0 : x = 0
    · subst hx0
      clear hcell hxe hm ha hcl
      go_enter Tryd.func55, Tryd.ntmps55
      go_wp2_with fail
      go_ret
      exact ⟨rfl, rfl⟩
    · have hne : (bne (x : Int) 0) = true := by simp; omega
      have hd : decide (x ≠ 0) = true := decide_eq_true hx0
      rw [hd]
      clear hcell hxe hm ha hcl hd
      go_enter Tryd.func55, Tryd.ntmps55
      go_wp2_with fail
      go_ret
      exact ⟨rfl, rfl⟩

/-- what Valid comes to where the fields are not both empty -/
theorem vld_parts {s : Bool} {a b : List Nat} (h : ¬ (a = [] ∧ b = [])) : Vld s a b ↔ (a ≠ [] ∧ Clean a) ∧ (b ≠ [] ∧ Clean b) ∧ Nat.gcd (val a) (val b) = 1 := by
  unfold Vld
  constructor
  · rintro (⟨h1, h2, _⟩ | ⟨h1, h2, h3, h4, h5⟩)
    · exact absurd ⟨h1, h2⟩ h
    · exact ⟨⟨h1, h3⟩, ⟨h2, h4⟩, h5⟩
  · rintro ⟨⟨h1, h3⟩, ⟨h2, h4⟩, h5⟩
    exact .inr ⟨h1, h2, h3, h4, h5⟩
set_option maxRecDepth 100000 in
set_option maxHeartbeats 3200000 in
theorem valid_any (v : Value) (s : Bool) (a b : List Nat) (w : World) (h : RatV w v s a b) (hla : a.length ≤ 400000) (hlb : b.length ≤ 400000) :
    Calls Tryd.prog 34 #[v] w (RetV w (.bool (decide (Vld s a b)))) := by
  obtain ⟨va, vb, rfl, ha, hb⟩ := h
  obtain ⟨ao, ca, rfl, hca, hca2, _⟩ := ha.shape
  obtain ⟨bo, cb, rfl, hcb, hcb2, _⟩ := hb.shape
  by_cases h0 : a = [] ∧ b = []
  · obtain ⟨rfl, rfl⟩ := h0
    have e : decide (Vld s [] []) = !s := by cases s <;> rfl
    rw [e]
    clear ha hb e
    go_enter Tryd.func34, Tryd.ntmps34
    go_wp2_with fail
    go_ret
    exact ⟨rfl, (Below.refl _ _).alloc (Nat.le_refl _) _⟩
  · have e := vld_parts (s := s) h0
    have hd : decide (Vld s a b) = decide ((a ≠ [] ∧ Clean a) ∧ (b ≠ [] ∧ Clean b) ∧ Nat.gcd (val a) (val b) = 1) := decide_eq_decide.2 e
    rw [hd]
    have hab : ((a.length : Int) == 0) = false ∨ ((a.length : Int) == 0) = true ∧ ((b.length : Int) == 0) = false := by
      by_cases h1 : a.length = 0
      · right
        refine ⟨by rw [h1]; rfl, ?_⟩
        rw [beq_eq_false_iff_ne]
        intro h2
        exact h0 ⟨List.eq_nil_of_length_eq_zero h1, List.eq_nil_of_length_eq_zero (by omega)⟩
      · left; rw [beq_eq_false_iff_ne]; omega
    have hbx : Below w.heap.size w (w.alloc (.cells #[.bool s, .slice ao a.length ca, .slice bo b.length cb] 24)) := (Below.refl _ _).alloc (Nat.le_refl _) _
    have hp1 := plain_any _ a _ (ha.below hbx)
    have hp2 := plain_any _ b _ (hb.below hbx)
    have HBX := Lib.hid hbx; have HA := Lib.hid (ha.below hbx); have HB := Lib.hid (hb.below hbx)
    clear e hd h0 ha hb hbx
    by_cases c1 : a ≠ [] ∧ Clean a
    · by_cases c2 : b ≠ [] ∧ Clean b
      · have hg := gcd_any _ _ _ _ _ HA.out HB.out (by omega) (by omega)
        have hgl : (wd (Nat.gcd (val a) (val b))).length ≤ 400000 := by
          have h1 := wd_length_le HA.out.lt
          have h2 : val a ≠ 0 := val_ne HA.out.lt c1.2 c1.1
          have h3 := wd_length_mono (Nat.le_of_dvd (Nat.pos_of_ne_zero h2) (Nat.gcd_dvd_left (val a) (val b)))
          omega
        obtain ⟨g, hge⟩ : ∃ g, g = Nat.gcd (val a) (val b) := ⟨_, rfl⟩
        rw [← hge] at hg hgl
        have hres : decide ((a ≠ [] ∧ Clean a) ∧ (b ≠ [] ∧ Clean b) ∧ Nat.gcd (val a) (val b) = 1) = decide (g = 1) := by
          rw [decide_eq_decide, hge]; exact ⟨fun h => h.2.2, fun h => ⟨c1, c2, h⟩⟩
        rw [hres]
        rw [decide_eq_true c1] at hp1
        rw [decide_eq_true c2] at hp2
        have HP1 := Lib.hid hp1; have HP2 := Lib.hid hp2; have HG := Lib.hid hg
        clear hp1 hp2 hg hge hres c1 c2
        rcases hab with hab | ⟨hab, hab2⟩
        · go_enter Tryd.func34, Tryd.ntmps34
          go_wp2_with fail
          (with_reducible refine HP1.out.mono ?_); rintro e wx ⟨rfl, rfl⟩
          go_wp2_with fail
          (with_reducible refine HP2.out.mono ?_); rintro e wx ⟨rfl, rfl⟩
          go_wp2_with fail
          (with_reducible refine HG.out.mono ?_); rintro e w1 ⟨v1, l1, rfl, hb1, hn1, rfl⟩
          have HN1 := Lib.hid hn1; have HB1 := Lib.hid (HBX.out.step hb1); clear hn1 hb1
          go_wp2_with fail
          (with_reducible refine (one_any _).mono ?_); rintro e w2 ⟨v2, rfl, hb2, hn2⟩
          have hcm := cmp_any _ _ _ _ w2 (HN1.out.below hb2) hn2 (by omega) (by rw [wd_one (by decide) (by decide)]; simp)
          rw [val_wd, val_wd] at hcm
          have HCM := Lib.hid hcm; have HB2 := Lib.hid (HB1.out.step hb2); clear hcm hn2 hb2
          by_cases hg1 : g = 1
          · have hc0 : cmpN g 1 = 0 := cmpN_eq hg1
            rw [hc0] at HCM
            have hd : decide (g = 1) = true := decide_eq_true hg1
            rw [hd]
            have HG1 := Lib.hid hg1
            clear hc0 hg1 hd
            go_wp2_with fail
            (with_reducible refine HCM.out.mono ?_); rintro e w3 ⟨rfl, hb3⟩
            go_wp2_with fail
            go_ret
            exact ⟨by first | rfl | (simp; done) | (simp; exact HG1.out), HB2.out.step hb3⟩
          · have hd : decide (g = 1) = false := decide_eq_false hg1
            rw [hd]
            obtain ⟨c, hc⟩ : ∃ c, c = cmpN g 1 := ⟨_, rfl⟩
            rw [← hc] at HCM
            have hc0 : (c == 0) = false := by
              rw [beq_eq_false_iff_ne, hc]; unfold cmpN; split
              · decide
              · split
                · decide
                · omega
            have HG1 := Lib.hid hg1
            clear hc hg1 hd
            go_wp2_with fail
            (with_reducible refine HCM.out.mono ?_); rintro e w3 ⟨rfl, hb3⟩
            go_wp2_with fail
            go_ret
            exact ⟨by first | rfl | (simp; done) | (simp; exact HG1.out), HB2.out.step hb3⟩
        · go_enter Tryd.func34, Tryd.ntmps34
          go_wp2_with fail
          (with_reducible refine HP1.out.mono ?_); rintro e wx ⟨rfl, rfl⟩
          go_wp2_with fail
          (with_reducible refine HP2.out.mono ?_); rintro e wx ⟨rfl, rfl⟩
          go_wp2_with fail
          (with_reducible refine HG.out.mono ?_); rintro e w1 ⟨v1, l1, rfl, hb1, hn1, rfl⟩
          have HN1 := Lib.hid hn1; have HB1 := Lib.hid (HBX.out.step hb1); clear hn1 hb1
          go_wp2_with fail
          (with_reducible refine (one_any _).mono ?_); rintro e w2 ⟨v2, rfl, hb2, hn2⟩
          have hcm := cmp_any _ _ _ _ w2 (HN1.out.below hb2) hn2 (by omega) (by rw [wd_one (by decide) (by decide)]; simp)
          rw [val_wd, val_wd] at hcm
          have HCM := Lib.hid hcm; have HB2 := Lib.hid (HB1.out.step hb2); clear hcm hn2 hb2
          by_cases hg1 : g = 1
          · have hc0 : cmpN g 1 = 0 := cmpN_eq hg1
            rw [hc0] at HCM
            have hd : decide (g = 1) = true := decide_eq_true hg1
            rw [hd]
            have HG1 := Lib.hid hg1
            clear hc0 hg1 hd
            go_wp2_with fail
            (with_reducible refine HCM.out.mono ?_); rintro e w3 ⟨rfl, hb3⟩
            go_wp2_with fail
            go_ret
            exact ⟨by first | rfl | (simp; done) | (simp; exact HG1.out), HB2.out.step hb3⟩
          · have hd : decide (g = 1) = false := decide_eq_false hg1
            rw [hd]
            obtain ⟨c, hc⟩ : ∃ c, c = cmpN g 1 := ⟨_, rfl⟩
            rw [← hc] at HCM
            have hc0 : (c == 0) = false := by
              rw [beq_eq_false_iff_ne, hc]; unfold cmpN; split
              · decide
              · split
                · decide
                · omega
            have HG1 := Lib.hid hg1
            clear hc hg1 hd
            go_wp2_with fail
            (with_reducible refine HCM.out.mono ?_); rintro e w3 ⟨rfl, hb3⟩
            go_wp2_with fail
            go_ret
            exact ⟨by first | rfl | (simp; done) | (simp; exact HG1.out), HB2.out.step hb3⟩
      · have hres : decide ((a ≠ [] ∧ Clean a) ∧ (b ≠ [] ∧ Clean b) ∧ Nat.gcd (val a) (val b) = 1) = false := decide_eq_false fun h => c2 h.2.1
        rw [hres]
        rw [decide_eq_true c1] at hp1
        rw [decide_eq_false c2] at hp2
        have HP1 := Lib.hid hp1; have HP2 := Lib.hid hp2
        clear hp1 hp2 hres
        rcases hab with hab | ⟨hab, hab2⟩
        · go_enter Tryd.func34, Tryd.ntmps34
          go_wp2_with fail
          (with_reducible refine HP1.out.mono ?_); rintro e wx ⟨rfl, rfl⟩
          go_wp2_with fail
          (with_reducible refine HP2.out.mono ?_); rintro e wx ⟨rfl, rfl⟩
          go_wp2_with fail
          go_ret
          exact ⟨rfl, HBX.out⟩
        · go_enter Tryd.func34, Tryd.ntmps34
          go_wp2_with fail
          (with_reducible refine HP1.out.mono ?_); rintro e wx ⟨rfl, rfl⟩
          go_wp2_with fail
          (with_reducible refine HP2.out.mono ?_); rintro e wx ⟨rfl, rfl⟩
          go_wp2_with fail
          go_ret
          exact ⟨rfl, HBX.out⟩
    · have hres : decide ((a ≠ [] ∧ Clean a) ∧ (b ≠ [] ∧ Clean b) ∧ Nat.gcd (val a) (val b) = 1) = false := decide_eq_false fun h => c1 h.1
      rw [hres]
      rw [decide_eq_false c1] at hp1
      have HP1 := Lib.hid hp1; have HP2 := Lib.hid hp2
      clear hp1 hp2 hres
      rcases hab with hab | ⟨hab, hab2⟩
      · go_enter Tryd.func34, Tryd.ntmps34
        go_wp2_with fail
        (with_reducible refine HP1.out.mono ?_); rintro e wx ⟨rfl, rfl⟩
        go_wp2_with fail
        go_ret
        exact ⟨rfl, HBX.out⟩
      · go_enter Tryd.func34, Tryd.ntmps34
        go_wp2_with fail
        (with_reducible refine HP1.out.mono ?_); rintro e wx ⟨rfl, rfl⟩
        go_wp2_with fail
        go_ret
        exact ⟨rfl, HBX.out⟩
end Go.Proofs.YtaefimegiobkmaaDoor
/-
  rational.parts, form: what they hand back.
  Conditions: each theorem's own.
-/
namespace Go.Proofs.YtaefimegiobkmaaDoor
open Go.RowKit Go.ChangeShapes Go.WideShapes

/-- hands back the sign, numerator and denominator of q -/
def RetParts (w : World) (q : Rat) (e : Ending) (w' : World) : Prop := ∃ vn vd, e = .returned (.tuple #[.bool (ng q), vn, vd]) ∧ Below w.heap.size w w' ∧ Num w' vn (wd (nn q)) ∧ Num w' vd (wd q.den)

set_option maxRecDepth 100000 in
set_option maxHeartbeats 1600000 in
theorem parts_any (v : Value) (q : Rat) (w : World) (h : RatIs w v q) :
    Calls Tryd.prog 41 #[v] w (RetParts w q) := by
  obtain ⟨s, a, b, hv, rfl, hla, hlb⟩ := h
  obtain ⟨va, vb, rfl, ha, hb⟩ := hv
  obtain ⟨ao, ca, rfl, hca, hca2, _⟩ := ha.shape
  obtain ⟨bo, cb, rfl, hcb, hcb2, _⟩ := hb.shape
  have hbx : Below w.heap.size w (w.alloc (.cells #[.bool s, .slice ao a.length ca, .slice bo b.length cb] 24)) := (Below.refl _ _).alloc (Nat.le_refl _) _
  have hvl := valid_any _ s a b _ (⟨_, _, rfl, ha.below hbx, hb.below hbx⟩ : RatV (w.alloc (.cells #[.bool s, .slice ao a.length ca, .slice bo b.length cb] 24)) _ s a b) (by omega) (by omega)
  by_cases h0 : rq s a b = 0
  · rw [h0]
    have hbad : decide (Vld s a b) = false ∨ decide (Vld s a b) = true ∧ a.length = 0 := by
      by_cases hv : Vld s a b
      · right
        obtain ⟨_, e, _⟩ := vld_fields ha.lt hb.lt hv
        rw [h0, nn_zero, wd_zero] at e
        exact ⟨decide_eq_true hv, by rw [e]; rfl⟩
      · left; exact decide_eq_false hv
    have HBX := Lib.hid hbx; clear hbx h0
    rcases hbad with hd | ⟨hd, hl⟩
    · rw [hd] at hvl
      have HV := Lib.hid hvl; clear hvl hd ha hb
      go_enter Tryd.func41, Tryd.ntmps41
      go_wp2_with fail
      (with_reducible refine HV.out.mono ?_); rintro e w1 ⟨rfl, hb1⟩
      go_wp2_with fail
      (with_reducible refine (one_any _).mono ?_); rintro e w2 ⟨v2, rfl, hb2, hn2⟩
      go_wp2_with fail
      go_ret3
      exact ⟨_, _, rfl, (HBX.out.step hb1).step hb2, by rw [nn_zero, wd_zero]; exact Num.nil _, hn2⟩
    · rw [hd] at hvl
      have c1 := fun w1 (h : Below _ _ w1) => box_kept (w := w) (cs := #[.bool s, .slice ao a.length ca, .slice bo b.length cb]) (T := 24) (w1 := w1) h 1
      have C1 := Lib.hid c1
      have HV := Lib.hid hvl; have HL := Lib.hid hl; clear hvl hd c1 ha hb hl
      go_enter Tryd.func41, Tryd.ntmps41
      go_wp2_with fail
      (with_reducible refine HV.out.mono ?_); rintro e w1 ⟨rfl, hb1⟩
      have c1 : w1.cell? ⟨w.heap.size, 1, none⟩ = some (.slice ao a.length ca) := C1.out w1 hb1
      rw [HL.out] at c1
      go_wp2_with fail
      (with_reducible refine (one_any _).mono ?_); rintro e w2 ⟨v2, rfl, hb2, hn2⟩
      go_wp2_with fail
      go_ret3
      exact ⟨_, _, rfl, (HBX.out.step hb1).step hb2, by rw [nn_zero, wd_zero]; exact Num.nil _, hn2⟩
  · have hv : Vld s a b := Decidable.byContradiction fun h => h0 (rq_invalid h)
    obtain ⟨e1, e2, e3⟩ := vld_fields ha.lt hb.lt hv
    rw [dn_pos h0] at e3
    have hl : ((a.length : Int) == 0) = false := by
      rw [beq_eq_false_iff_ne]
      intro h
      have : a = [] := List.eq_nil_of_length_eq_zero (by omega)
      rw [e2] at this
      exact wd_ne (fun e => h0 (nn_eq_zero.1 e)) this
    rw [decide_eq_true hv] at hvl
    have HE := Lib.hid (And.intro e1 (And.intro e2 e3)); have HBX := Lib.hid hbx; have HA := Lib.hid (ha.below hbx); have HB := Lib.hid (hb.below hbx); have HV := Lib.hid hvl
    have bk := fun w1 (h : Below _ _ w1) j => box_kept (w := w) (cs := #[.bool s, .slice ao a.length ca, .slice bo b.length cb]) (T := 24) (w1 := w1) h j
    have BK := Lib.hid bk
    clear e1 e2 e3 hbx ha hb hv hvl bk h0
    go_enter Tryd.func41, Tryd.ntmps41
    go_wp2_with fail
    (with_reducible refine HV.out.mono ?_); rintro e w1 ⟨rfl, hb1⟩
    have c0 : w1.cell? ⟨w.heap.size, 0, none⟩ = some (.bool s) := BK.out w1 hb1 0
    have c1 : w1.cell? ⟨w.heap.size, 1, none⟩ = some (.slice ao a.length ca) := BK.out w1 hb1 1
    have c2 : w1.cell? ⟨w.heap.size, 2, none⟩ = some (.slice bo b.length cb) := BK.out w1 hb1 2
    go_wp2_with fail
    go_quiet (fail)
    go_wp2_with fail
    go_ret3
    obtain ⟨e1, e2, e3⟩ := HE.out
    refine ⟨.slice ao a.length ca, .slice bo b.length cb, by rw [← e1]; rfl, below_drewN (HBX.out.step hb1) _, ?_, ?_⟩
    · rw [← e2]; exact (HA.out.below hb1).below (below_drewN (Below.refl _ _) _)
    · rw [← e3]; exact (HB.out.below hb1).below (below_drewN (Below.refl _ _) _)

theorem frozen_kept {w w1 : World} {cs : Array Value} {T : TypeId} (hb : Below (w.alloc (.cells cs T)).heap.size (w.alloc (.cells cs T)) w1) (j : Nat) :
    w1.frozen? ⟨w.heap.size, j, none⟩ = false := by
  have h : w1.heap[w.heap.size]? = some (.cells cs T) := by
    rw [hb.block _ (by simp)]; exact heap_alloc_new w _
  simp [World.frozen?, h]

theorem heap_kept {w w1 : World} {o : Obj} (hb : Below (w.alloc o).heap.size (w.alloc o) w1) : w1.heap[w.heap.size]? = some o := by
  rw [hb.block _ (by simp)]; exact heap_alloc_new w _
/-- a fraction's three cells are written -/
def put3 (w : World) (g : Nat) (x y z : Value) : World := ((w.setCell ⟨g, 0, none⟩ x).setCell ⟨g, 1, none⟩ y).setCell ⟨g, 2, none⟩ z
theorem put3_heap {w : World} {g : Nat} {a b c x y z : Value} {T : TypeId} (h : w.heap[g]? = some (.cells #[a, b, c] T)) : (put3 w g x y z).heap[g]? = some (.cells #[x, y, z] T) := by
  unfold put3 World.setCell
  simp [Array.getElem?_modify, h]
theorem put3_below {w0 w : World} {B g : Nat} (h : Below B w0 w) (hg : B ≤ g) (x y z : Value) : Below B w0 (put3 w g x y z) :=
  ((h.setCell hg x).setCell hg y).setCell hg z
theorem put3_num {w : World} {g : Nat} {v : Value} {l : List Nat} {x y z : Value} {a b c : Value} {T : TypeId} (hn : Num w v l) (h : w.heap[g]? = some (.cells #[a, b, c] T)) (ha : ∀ n : Int, a ≠ .int .u32 n) (hb : ∀ n : Int, b ≠ .int .u32 n) (hc : ∀ n : Int, c ≠ .int .u32 n) : Num (put3 w g x y z) v l := by
  obtain ⟨ao, k, rfl, h1, h2, h3, h4, h5⟩ := hn
  refine ⟨ao, k, rfl, h1, h2, h3, ?_, h5⟩
  intro b' off s hs
  obtain ⟨k1, k2⟩ := h4 b' off s hs
  have hsz : (put3 w g x y z).heap.size = w.heap.size := by simp [put3, World.setCell]
  refine ⟨fun h0 => by rw [hsz]; exact k1 h0, fun j hj => ?_⟩
  by_cases he : b' = g
  · subst he
    have := k2 j hj
    rw [cell_of_row w b' (off + j) _ _ _ h] at this
    have hsz3 : off + j < 3 := by
      have := (Array.getElem?_eq_some_iff.1 this).1; simpa using this
    have e : off + j = 0 ∨ off + j = 1 ∨ off + j = 2 := by omega
    rcases e with e | e | e <;> rw [e] at this <;> simp at this
    · exact absurd this (ha _)
    · exact absurd this (hb _)
    · exact absurd this (hc _)
  · rw [← k2 j hj]
    unfold World.cell?
    have e : (put3 w g x y z).heap[b']? = w.heap[b']? := by
      unfold put3
      rw [Below.heap_setCell _ _ _ _ he, Below.heap_setCell _ _ _ _ he, Below.heap_setCell _ _ _ _ he]
    simp only [e]
theorem rat_info : (Tryd.prog.info? 24).map (·.size) = some 3 := by kernel_rfl
/-- a function that hands back a fraction in a variable of its own -/
theorem ret_rat {fn : Func} {R : Ending → World → Prop} {a : Act} {w : World} {p : Tmp} (h : fn.results = #[.cell p 24]) (g : Nat) (x y z : Value)
    (hp : a.tmps.getD p undef = .pointer (some ⟨g, 0, none⟩)) (hg : w.heap[g]? = some (.cells #[x, y, z] 24)) (hd : a.defers = []) (hR : R (.returned (.agg #[x, y, z])) w) : bodyPost Tryd.prog fn R .ret a w :=
  bodyPost_ret (results_cell_row h a.tmps w g 24 _ _ _ hp hg Tryd.underlying24 rfl rat_info) hd hR
/-- .. and an error (or its number) -/
theorem ret_rat2 {fn : Func} {R : Ending → World → Prop} {a : Act} {w : World} {p u : Tmp} (h : fn.results = #[.cell p 24, .tmp u]) (g : Nat) (x y z : Value)
    (hp : a.tmps.getD p undef = .pointer (some ⟨g, 0, none⟩)) (hg : w.heap[g]? = some (.cells #[x, y, z] 24)) (hd : a.defers = []) (hR : R (.returned (.tuple #[.agg #[x, y, z], a.tmps.getD u undef])) w) : bodyPost Tryd.prog fn R .ret a w := by
  refine bodyPost_ret (v := .tuple #[.agg #[x, y, z], a.tmps.getD u undef]) ?_ hd hR
  rw [results_cell_tmp h, hp]
  simp only [asAddr, Sem.run_pure, Result.andThen, run_loadVar_row w g 24 24 _ _ _ hg Tryd.underlying24 rfl rat_info]

set_option maxRecDepth 100000 in
set_option maxHeartbeats 3200000 in
theorem form_any (s : Bool) (vn vd : Value) (a b : List Nat) (w : World) (ha : Num w vn a) (hb : Num w vd b) (hla : a.length ≤ 400000) (hlb : b.length ≤ 400000) (hd : val b ≠ 0) :
    Calls Tryd.prog 43 #[.bool s, vn, vd] w (RetR w (qm s (val a) (val b))) := by
  have hbx : Below w.heap.size w (w.alloc (.cells #[.bool false, .slice none 0 0, .slice none 0 0] 24)) := (Below.refl _ _).alloc (Nat.le_refl _) _
  have hbits := bits_any vn a _ (ha.below hbx) (by omega)
  have HBX := Lib.hid hbx
  by_cases h0 : val a = 0
  · rw [h0, blen_zero] at hbits
    rw [h0, qm_zero]
    have HB := Lib.hid hbits; clear hbits h0 ha hb hbx
    go_enter Tryd.func43, Tryd.ntmps43
    go_wp2_with fail
    (with_reducible refine HB.out.mono ?_); rintro e w1 ⟨rfl, rfl⟩
    go_wp2_with fail
    refine ret_rat rfl w.heap.size _ _ _ rfl (heap_alloc_new w _) rfl ?_
    exact ⟨_, rfl, HBX.out, isR_zero _⟩
  · have hz : ((blen (val a) : Int) == 0) = false := by
      rw [beq_eq_false_iff_ne]; have := blen_pos.2 h0; omega
    have hgd := gcd_any vn vd a b _ (ha.below hbx) (hb.below hbx) (by omega) (by omega)
    obtain ⟨bl, hbl⟩ : ∃ bl, bl = blen (val a) := ⟨_, rfl⟩
    rw [← hbl] at hbits hz
    have hl1 := wd_length_le ha.lt
    have hl2 := wd_length_le hb.lt
    have hgl : (wd (Nat.gcd (val a) (val b))).length ≤ 400000 := by
      have h3 := wd_length_mono (Nat.le_of_dvd (Nat.pos_of_ne_zero h0) (Nat.gcd_dvd_left (val a) (val b)))
      omega
    have hg0 : Nat.gcd (val a) (val b) ≠ 0 := fun h => h0 (Nat.eq_zero_of_gcd_eq_zero_left h)
    have hR : ng (qm s (val a) (val b)) = s ∧ nn (qm s (val a) (val b)) = val a / Nat.gcd (val a) (val b) ∧ dn (qm s (val a) (val b)) = val b / Nat.gcd (val a) (val b) :=
      ⟨ng_qm hd h0, nn_qm hd, dn_qm hd h0⟩
    obtain ⟨q, hq⟩ : ∃ q, q = qm s (val a) (val b) := ⟨_, rfl⟩
    rw [← hq] at hR ⊢
    obtain ⟨g, hg⟩ : ∃ g, g = Nat.gcd (val a) (val b) := ⟨_, rfl⟩
    rw [← hg] at hgd hgl hg0 hR
    have HR := Lib.hid hR; have HBI := Lib.hid hbits; have HGD := Lib.hid hgd; have HA := Lib.hid (ha.below hbx); have HB := Lib.hid (hb.below hbx); have HG0 := Lib.hid hg0
    clear hR hbits hgd ha hb hg0 hg hq hbl hbx h0
    go_enter Tryd.func43, Tryd.ntmps43
    go_wp2_with fail
    (with_reducible refine HBI.out.mono ?_); rintro e w1 ⟨rfl, rfl⟩
    go_wp2_with fail
    (with_reducible refine HGD.out.mono ?_); rintro e w1 ⟨v1, l1, rfl, hb1, hn1, rfl⟩
    have hd1 := div_any vn v1 a _ w1 (HA.out.below hb1) hn1 (by omega) (by omega) (by rw [val_wd]; exact HG0.out)
    rw [val_wd, errV_zero] at hd1
    have HD1 := Lib.hid hd1; have HB1 := Lib.hid hb1; have HN1 := Lib.hid hn1
    clear hd1 hn1
    go_wp2_with fail
    (with_reducible refine HD1.out.mono ?_); rintro e w2 ⟨v2, u2, rfl, hb2, hn2, _⟩
    have hd2 := div_any vd v1 b _ w2 ((HB.out.below hb1).below hb2) (HN1.out.below hb2) (by omega) (by omega) (by rw [val_wd]; exact HG0.out)
    rw [val_wd, errV_zero] at hd2
    have HD2 := Lib.hid hd2; have HB2 := Lib.hid (HB1.out.step hb2); have HN2 := Lib.hid hn2
    clear hd2 hn2 hb1
    go_wp2_with fail
    (with_reducible refine HD2.out.mono ?_); rintro e w3 ⟨v3, u3, rfl, hb3, hn3, _⟩
    have HB3 := Lib.hid (HB2.out.step hb3); have HN2 := Lib.hid (HN2.out.below hb3); have HN3 := Lib.hid hn3
    clear hn3 hb2
    obtain ⟨o2, k2, rfl, _, _, _⟩ := HN2.out.shape
    obtain ⟨o3, k3, rfl, _, _, _⟩ := HN3.out.shape
    have f0 := frozen_kept HB3.out 0
    have f1 := frozen_kept HB3.out 1
    have f2 := frozen_kept HB3.out 2
    have c0 : w3.cell? ⟨w.heap.size, 0, none⟩ = some (.bool false) := box_kept HB3.out 0
    have c1 : w3.cell? ⟨w.heap.size, 1, none⟩ = some (.slice none 0 0) := box_kept HB3.out 1
    have c2 : w3.cell? ⟨w.heap.size, 2, none⟩ = some (.slice none 0 0) := box_kept HB3.out 2
    have hh := heap_kept HB3.out
    have HH := Lib.hid hh; clear hh
    go_wp2_with fail
    refine ret_rat rfl w.heap.size _ _ _ rfl (put3_heap HH.out) rfl ?_
    refine ⟨_, rfl, put3_below (HBX.out.trans (HB3.out.mono (by simp))) (Nat.le_refl _) _ _ _, ?_⟩
    obtain ⟨e1, e2, e3⟩ := HR.out
    unfold IsR
    rw [e1, e2, e3]
    exact ⟨_, _, rfl, put3_num HN2.out HH.out (fun _ h => by cases h) (fun _ h => by cases h) (fun _ h => by cases h), put3_num HN3.out HH.out (fun _ h => by cases h) (fun _ h => by cases h) (fun _ h => by cases h)⟩
end Go.Proofs.YtaefimegiobkmaaDoor
/-
  The reference's Parts, From, and rational.From: what they hand back.
  Conditions: each theorem's own.
-/
namespace Go.Proofs.YtaefimegiobkmaaDoor
open Go.RowKit Go.ChangeShapes Go.WideShapes

theorem wd_one_len : (wd 1).length = 1 := by rw [wd_one (by decide) (by decide)]; rfl
/-- the number of the error of a denominator -/
def zc (d : Nat) : Nat := if d = 0 then 8 else 0
theorem qm_den0 (s : Bool) (n : Nat) : qm s n 0 = 0 := by unfold qm; rw [Rat.mkRat_zero]
set_option maxRecDepth 100000 in
set_option maxHeartbeats 3200000 in
theorem rfrom_ok (s : Bool) (vn vd : Value) (a b : List Nat) (w : World) (ha : Num w vn a) (hb : Num w vd b) (hla : a.length ≤ 400000) (hlb : b.length ≤ 400000) (hd : val b ≠ 0) :
    Calls Tryd.prog 64 #[.bool s, vn, vd] w (RetRE w (qm s (val a) (val b)) (.int .i64 0)) := by
  have hbx : Below w.heap.size w (w.alloc (.cells #[.bool false, .slice none 0 0, .slice none 0 0] 24)) := (Below.refl _ _).alloc (Nat.le_refl _) _
  have hbits := rbits_any vn a _ (ha.below hbx) (by omega)
  have hbd := rbits_any vd b _ (hb.below hbx) (by omega)
  have hdz : ((blen (val b) : Int) == 0) = false := by
    rw [beq_eq_false_iff_ne]; have := blen_pos.2 hd; omega
  obtain ⟨bd, hbde⟩ : ∃ bd, bd = blen (val b) := ⟨_, rfl⟩
  rw [← hbde] at hbd hdz
  have HBD := Lib.hid hbd
  clear hbde hbd
  have HBX := Lib.hid hbx
  by_cases h0 : val a = 0
  · rw [h0, blen_zero] at hbits
    rw [h0, qm_zero]
    have HB := Lib.hid hbits; clear hbits h0 ha hb hbx
    go_enter Tryd.func64, Tryd.ntmps64
    go_wp2_with fail
    (with_reducible refine HBD.out.mono ?_); rintro e w1 ⟨rfl, rfl⟩
    go_wp2_with fail
    (with_reducible refine HB.out.mono ?_); rintro e w1 ⟨rfl, rfl⟩
    go_wp2_with fail
    refine ret_rat2 rfl w.heap.size _ _ _ rfl (heap_alloc_new w _) rfl ?_
    exact ⟨_, rfl, HBX.out, isR_zero _⟩
  · have hz : ((blen (val a) : Int) == 0) = false := by
      rw [beq_eq_false_iff_ne]; have := blen_pos.2 h0; omega
    have hgd := rgcd_any vn vd a b _ (ha.below hbx) (hb.below hbx) (by omega) (by omega)
    obtain ⟨bl, hbl⟩ : ∃ bl, bl = blen (val a) := ⟨_, rfl⟩
    rw [← hbl] at hbits hz
    have hl1 := wd_length_le ha.lt
    have hl2 := wd_length_le hb.lt
    have hgl : (wd (Nat.gcd (val a) (val b))).length ≤ 400000 := by
      have h3 := wd_length_mono (Nat.le_of_dvd (Nat.pos_of_ne_zero h0) (Nat.gcd_dvd_left (val a) (val b)))
      omega
    have hg0 : Nat.gcd (val a) (val b) ≠ 0 := fun h => h0 (Nat.eq_zero_of_gcd_eq_zero_left h)
    have hR : ng (qm s (val a) (val b)) = s ∧ nn (qm s (val a) (val b)) = val a / Nat.gcd (val a) (val b) ∧ dn (qm s (val a) (val b)) = val b / Nat.gcd (val a) (val b) :=
      ⟨ng_qm hd h0, nn_qm hd, dn_qm hd h0⟩
    obtain ⟨q, hq⟩ : ∃ q, q = qm s (val a) (val b) := ⟨_, rfl⟩
    rw [← hq] at hR ⊢
    obtain ⟨g, hg⟩ : ∃ g, g = Nat.gcd (val a) (val b) := ⟨_, rfl⟩
    rw [← hg] at hgd hgl hg0 hR
    have HR := Lib.hid hR; have HBI := Lib.hid hbits; have HGD := Lib.hid hgd; have HA := Lib.hid (ha.below hbx); have HB := Lib.hid (hb.below hbx); have HG0 := Lib.hid hg0
    clear hR hbits hgd ha hb hg0 hg hq hbl hbx h0
    go_enter Tryd.func64, Tryd.ntmps64
    go_wp2_with fail
    (with_reducible refine HBD.out.mono ?_); rintro e w1 ⟨rfl, rfl⟩
    go_wp2_with fail
    (with_reducible refine HBI.out.mono ?_); rintro e w1 ⟨rfl, rfl⟩
    go_wp2_with fail
    (with_reducible refine HGD.out.mono ?_); rintro e w1 ⟨v1, l1, rfl, hb1, hn1, rfl⟩
    have hd1 := rdiv_any vn v1 a _ w1 (HA.out.below hb1) hn1 (by omega) (by omega) (by rw [val_wd]; exact HG0.out)
    rw [val_wd] at hd1
    have HD1 := Lib.hid hd1; have HB1 := Lib.hid hb1; have HN1 := Lib.hid hn1
    clear hd1 hn1
    go_wp2_with fail
    (with_reducible refine HD1.out.mono ?_); rintro e w2 ⟨v2, u2, rfl, hb2, hn2, _⟩
    have hd2 := rdiv_any vd v1 b _ w2 ((HB.out.below hb1).below hb2) (HN1.out.below hb2) (by omega) (by omega) (by rw [val_wd]; exact HG0.out)
    rw [val_wd] at hd2
    have HD2 := Lib.hid hd2; have HB2 := Lib.hid (HB1.out.step hb2); have HN2 := Lib.hid hn2
    clear hd2 hn2 hb1
    go_wp2_with fail
    (with_reducible refine HD2.out.mono ?_); rintro e w3 ⟨v3, u3, rfl, hb3, hn3, _⟩
    have HB3 := Lib.hid (HB2.out.step hb3); have HN2 := Lib.hid (HN2.out.below hb3); have HN3 := Lib.hid hn3
    clear hn3 hb2
    obtain ⟨o2, k2, rfl, _, _, _⟩ := HN2.out.shape
    obtain ⟨o3, k3, rfl, _, _, _⟩ := HN3.out.shape
    have f0 := frozen_kept HB3.out 0
    have f1 := frozen_kept HB3.out 1
    have f2 := frozen_kept HB3.out 2
    have c0 : w3.cell? ⟨w.heap.size, 0, none⟩ = some (.bool false) := box_kept HB3.out 0
    have c1 : w3.cell? ⟨w.heap.size, 1, none⟩ = some (.slice none 0 0) := box_kept HB3.out 1
    have c2 : w3.cell? ⟨w.heap.size, 2, none⟩ = some (.slice none 0 0) := box_kept HB3.out 2
    have hh := heap_kept HB3.out
    have HH := Lib.hid hh; clear hh
    go_wp2_with fail
    refine ret_rat2 rfl w.heap.size _ _ _ rfl (put3_heap HH.out) rfl ?_
    refine ⟨_, rfl, put3_below (HBX.out.trans (HB3.out.mono (by simp))) (Nat.le_refl _) _ _ _, ?_⟩
    obtain ⟨e1, e2, e3⟩ := HR.out
    unfold IsR
    rw [e1, e2, e3]
    exact ⟨_, _, rfl, put3_num HN2.out HH.out (fun _ h => by cases h) (fun _ h => by cases h) (fun _ h => by cases h), put3_num HN3.out HH.out (fun _ h => by cases h) (fun _ h => by cases h) (fun _ h => by cases h)⟩
set_option maxRecDepth 100000 in
set_option maxHeartbeats 800000 in
theorem rfrom_zero (s : Bool) (vn vd : Value) (b : List Nat) (w : World) (hb : Num w vd b) (hlb : b.length ≤ 400000) (hd : val b = 0) :
    Calls Tryd.prog 64 #[.bool s, vn, vd] w (RetRE w 0 (.int .i64 8)) := by
  have hbx : Below w.heap.size w (w.alloc (.cells #[.bool false, .slice none 0 0, .slice none 0 0] 24)) := (Below.refl _ _).alloc (Nat.le_refl _) _
  have hbd := rbits_any vd b _ (hb.below hbx) (by omega)
  rw [hd, blen_zero] at hbd
  have HB := Lib.hid hbd; have HBX := Lib.hid hbx; clear hbd hd hb hbx
  go_enter Tryd.func64, Tryd.ntmps64
  go_wp2_with fail
  (with_reducible refine HB.out.mono ?_); rintro e w1 ⟨rfl, rfl⟩
  go_wp2_with fail
  refine ret_rat2 rfl w.heap.size _ _ _ rfl (heap_alloc_new w _) rfl ?_
  exact ⟨_, rfl, HBX.out, isR_zero _⟩
theorem rfrom_any (s : Bool) (vn vd : Value) (a b : List Nat) (w : World) (ha : Num w vn a) (hb : Num w vd b) (hla : a.length ≤ 400000) (hlb : b.length ≤ 400000) :
    Calls Tryd.prog 64 #[.bool s, vn, vd] w (RetRE w (qm s (val a) (val b)) (.int .i64 (zc (val b) : Nat))) := by
  unfold zc
  by_cases hd : val b = 0
  · rw [hd, if_pos rfl, qm_den0]; exact rfrom_zero s vn vd b w hb hlb hd
  · rw [if_neg hd]; exact rfrom_ok s vn vd a b w ha hb hla hlb hd
end Go.Proofs.YtaefimegiobkmaaDoor
/-
  Contracts on numbers by what they stand for; a fraction's cells behind a call.
  Conditions: each theorem's own.
-/
namespace Go.Proofs.YtaefimegiobkmaaDoor
open Go.RowKit Go.ChangeShapes Go.WideShapes

theorem heap_below {w w1 : World} {g : Nat} {o : Obj} (h : w.heap[g]? = some o) (hb : Below w.heap.size w w1) : w1.heap[g]? = some o := by
  rw [hb.block _ (Array.getElem?_eq_some_iff.1 h).1]; exact h
theorem row3 {w : World} {g : Nat} {x y z : Value} {T : TypeId} (h : w.heap[g]? = some (.cells #[x, y, z] T)) :
    w.cell? ⟨g, 0, none⟩ = some x ∧ w.cell? ⟨g, 1, none⟩ = some y ∧ w.cell? ⟨g, 2, none⟩ = some z :=
  ⟨cell_of_row _ _ _ _ _ _ h, cell_of_row _ _ _ _ _ _ h, cell_of_row _ _ _ _ _ _ h⟩
theorem froz3 {w : World} {g : Nat} {x y z : Value} {T : TypeId} (h : w.heap[g]? = some (.cells #[x, y, z] T)) :
    w.frozen? ⟨g, 0, none⟩ = false ∧ w.frozen? ⟨g, 1, none⟩ = false ∧ w.frozen? ⟨g, 2, none⟩ = false := by
  refine ⟨?_, ?_, ?_⟩ <;> simp [World.frozen?, h]
theorem RatIs.shape {w : World} {v : Value} {q : Rat} (h : RatIs w v q) : ∃ s ao n c bo m d, v = .agg #[.bool s, .slice ao n c, .slice bo m d] := by
  obtain ⟨s, a, b, ⟨va, vb, rfl, h1, h2⟩, _⟩ := h
  obtain ⟨ao, c, rfl, _⟩ := h1.shape
  obtain ⟨bo, d, rfl, _⟩ := h2.shape
  exact ⟨s, ao, _, c, bo, _, d, rfl⟩
theorem IsR.shape {w : World} {v : Value} {q : Rat} (h : IsR w v q) : ∃ s ao n c bo m d, v = .agg #[.bool s, .slice ao n c, .slice bo m d] := by
  obtain ⟨va, vb, rfl, h1, h2⟩ := h
  obtain ⟨ao, c, rfl, _⟩ := h1.shape
  obtain ⟨bo, d, rfl, _⟩ := h2.shape
  exact ⟨_, ao, _, c, bo, _, d, rfl⟩
/-- cells of a fraction hold no words -/
theorem ratV_put {w : World} {g : Nat} {v : Value} {s : Bool} {a b : List Nat} {x y z p q r : Value} {T : TypeId} (h : RatV w v s a b) (hg : w.heap[g]? = some (.cells #[p, q, r] T))
    (hp : ∀ n : Int, p ≠ .int .u32 n) (hq : ∀ n : Int, q ≠ .int .u32 n) (hr : ∀ n : Int, r ≠ .int .u32 n) : RatV (put3 w g x y z) v s a b := by
  obtain ⟨va, vb, rfl, h1, h2⟩ := h
  exact ⟨va, vb, rfl, put3_num h1 hg hp hq hr, put3_num h2 hg hp hq hr⟩
theorem isR_put {w : World} {g : Nat} {v : Value} {u : Rat} {x y z : Value} {s : Bool} {ao bo : Option Addr} {n c m d : Nat} {T : TypeId} (h : IsR w v u) (hg : w.heap[g]? = some (.cells #[.bool s, .slice ao n c, .slice bo m d] T)) : IsR (put3 w g x y z) v u :=
  ratV_put h hg (fun _ h => by cases h) (fun _ h => by cases h) (fun _ h => by cases h)
section
variable {u v : Value} {m n : Nat} {w : World}
theorem addN (h1 : Num w u (wd m)) (h2 : Num w v (wd n)) (l1 : (wd m).length ≤ 400000) (l2 : (wd n).length ≤ 400000) : Calls Tryd.prog 44 #[u, v] w (RetN w (m + n)) := by
  have h := add_any u v _ _ w h1 h2 (by omega) (by omega)
  rw [val_wd, val_wd] at h; exact h.mono fun _ _ => RetNum.n
theorem mulN (h1 : Num w u (wd m)) (h2 : Num w v (wd n)) (l1 : (wd m).length ≤ 400000) (l2 : (wd n).length ≤ 400000) : Calls Tryd.prog 42 #[u, v] w (RetN w (m * n)) := by
  have h := mul_any u v _ _ w h1 h2 (by omega) (by omega)
  rw [val_wd, val_wd] at h; exact h.mono fun _ _ => RetNum.n
theorem cmpN_ (h1 : Num w u (wd m)) (h2 : Num w v (wd n)) (l1 : (wd m).length ≤ 400000) (l2 : (wd n).length ≤ 400000) : Calls Tryd.prog 45 #[u, v] w (RetV w (.int .i64 (cmpN m n))) := by
  have h := cmp_any u v _ _ w h1 h2 (by omega) (by omega)
  rw [val_wd, val_wd] at h; exact h
theorem subN (h1 : Num w u (wd m)) (h2 : Num w v (wd n)) (l1 : (wd m).length ≤ 400000) (l2 : (wd n).length ≤ 400000) (hle : n ≤ m) : Calls Tryd.prog 46 #[u, v] w (RetNE w (m - n) .nilIface) := by
  have h := sub_ge u v _ _ w h1 h2 (by omega) (by omega) (by rw [val_wd, val_wd]; exact hle)
  rw [val_wd, val_wd, errV_zero] at h; exact h
theorem formN (s : Bool) (h1 : Num w u (wd m)) (h2 : Num w v (wd n)) (l1 : (wd m).length ≤ 400000) (l2 : (wd n).length ≤ 400000) (h0 : n ≠ 0) : Calls Tryd.prog 43 #[.bool s, u, v] w (RetR w (qm s m n)) := by
  have h := form_any s u v _ _ w h1 h2 l1 l2 (by rw [val_wd]; exact h0)
  rw [val_wd, val_wd] at h; exact h
end
end Go.Proofs.YtaefimegiobkmaaDoor
/-
  rational.Neg, Abs, Mul, Add: what they hand back.
  Conditions: each theorem's own.
-/
namespace Go.Proofs.YtaefimegiobkmaaDoor
open Go.RowKit Go.ChangeShapes Go.WideShapes

theorem nest1_0 (w : World) (a : Obj) : (w.alloc a).heap[w.heap.size]? = some a := heap_alloc_new w a
theorem nest2_0 (w : World) (a b : Obj) : ((w.alloc a).alloc b).heap[w.heap.size]? = some a := by
  rw [heap_alloc_old _ _ (by simp), heap_alloc_new]
theorem nest2_1 (w : World) (a b : Obj) : ((w.alloc a).alloc b).heap[w.heap.size + 1]? = some b := by
  rw [show w.heap.size + 1 = (w.alloc a).heap.size from by simp, heap_alloc_new]
theorem nest3_0 (w : World) (a b c : Obj) : (((w.alloc a).alloc b).alloc c).heap[w.heap.size]? = some a := by
  rw [heap_alloc_old _ _ (by simp; omega), nest2_0]
theorem nest3_1 (w : World) (a b c : Obj) : (((w.alloc a).alloc b).alloc c).heap[w.heap.size + 1]? = some b := by
  rw [heap_alloc_old _ _ (by simp), nest2_1]
theorem nest3_2 (w : World) (a b c : Obj) : (((w.alloc a).alloc b).alloc c).heap[w.heap.size + 2]? = some c := by
  rw [show w.heap.size + 2 = ((w.alloc a).alloc b).heap.size from by simp, heap_alloc_new]
theorem q_mul' (p q : Rat) : qm (!(ng p == ng q)) (nn p * nn q) (p.den * q.den) = p * q := q_mul p q
theorem q_div' (p q : Rat) (h : q ≠ 0) : qm (!(ng p == ng q)) (nn p * q.den) (p.den * nn q) = p / q := q_div p q h

set_option maxRecDepth 100000 in
set_option maxHeartbeats 3200000 in
theorem neg_any (vp : Value) (p : Rat) (w : World) (hp : RatIs w vp p)  :
    Calls Tryd.prog 38 #[vp] w (RetR w (-p)) := by
  obtain ⟨sp, op, np, cp, ap, mp, dp, rfl⟩ := hp.shape
  have hlp := hp.rl
  have hb0 := (((Below.refl w.heap.size w).alloc (by first | (simp; done) | (simp; omega)) (.cells #[.bool sp, .slice op np cp, .slice ap mp dp] 24)).alloc (by first | (simp; done) | (simp; omega)) (.cells #[.bool false, .slice none 0 0, .slice none 0 0] 24))
  have hxp := nest2_0 w (.cells #[.bool sp, .slice op np cp, .slice ap mp dp] 24) (.cells #[.bool false, .slice none 0 0, .slice none 0 0] 24)
  have hxR := nest2_1 w (.cells #[.bool sp, .slice op np cp, .slice ap mp dp] 24) (.cells #[.bool false, .slice none 0 0, .slice none 0 0] 24)
  have hpp := hp.below hb0
  obtain ⟨w0, hw0⟩ : ∃ w0, w0 = ((w.alloc (.cells #[.bool sp, .slice op np cp, .slice ap mp dp] 24)).alloc (.cells #[.bool false, .slice none 0 0, .slice none 0 0] 24)) := ⟨_, rfl⟩
  rw [← hw0] at hb0 hxp hxR hpp
  have HB0 := Lib.hid hb0; have HW0 := Lib.hid hw0
  have BXp := Lib.hid hxp
  have BXR := Lib.hid hxR
  have Fp := Lib.hid hpp
  clear hb0 hw0 hxp hxR hpp hp
  have l1 := rl_n p; have l2 := rl_d p
  go_enter Tryd.func38, Tryd.ntmps38
  have hs := parts_any _ p w0 Fp.out
  have HS := Lib.hid hs; clear hs
  go_wp2_with fail
  rw [← HW0.out]
  (with_reducible refine HS.out.mono ?_); rintro e w1 ⟨v1, u1, rfl, hb1, hn1, hm1⟩
  clear HS
  have HB1 := Lib.hid (HB0.out.step hb1)
  have Fp := Lib.hid (Fp.out.below hb1)
  have BXp := Lib.hid (heap_below BXp.out hb1)
  have BXR := Lib.hid (heap_below BXR.out hb1)
  have N := Lib.hid hn1
  have D := Lib.hid hm1
  clear hn1 hm1
  clear hb1
  have hs := formN (!ng p) N.out D.out (by omega) (by omega) p.den_nz
  rw [q_neg] at hs
  have HS := Lib.hid hs; clear hs
  go_wp2_with fail
  (with_reducible refine HS.out.mono ?_); rintro e w2 ⟨v2, rfl, hb2, hn2⟩
  clear HS
  have HB2 := Lib.hid (HB1.out.step hb2)
  have Fp := Lib.hid (Fp.out.below hb2)
  have N := Lib.hid (N.out.below hb2)
  have D := Lib.hid (D.out.below hb2)
  have BXp := Lib.hid (heap_below BXp.out hb2)
  have BXR := Lib.hid (heap_below BXR.out hb2)
  have Q := Lib.hid hn2; clear hn2
  clear hb2
  obtain ⟨sQ, oQ, nQ, cQ, aQ, mQ, dQ, rfl⟩ := Q.out.shape
  obtain ⟨eR0, eR1, eR2⟩ := row3 BXR.out
  obtain ⟨fR0, fR1, fR2⟩ := froz3 BXR.out
  go_wp2_with fail
  clear eR0 eR1 eR2 fR0 fR1 fR2
  refine ret_rat rfl (w.heap.size + 1) _ _ _ rfl (put3_heap BXR.out) rfl ?_
  exact ⟨_, rfl, put3_below HB2.out (by omega) _ _ _, isR_put Q.out BXR.out⟩
set_option maxRecDepth 100000 in
set_option maxHeartbeats 3200000 in
theorem mulq_any (vp : Value) (p : Rat) (vq : Value) (q : Rat) (w : World) (hp : RatIs w vp p) (hq : RatIs w vq q)  :
    Calls Tryd.prog 26 #[vp, vq] w (RetR w (p * q)) := by
  obtain ⟨sp, op, np, cp, ap, mp, dp, rfl⟩ := hp.shape
  have hlp := hp.rl
  obtain ⟨sq, oq, nq, cq, aq, mq, dq, rfl⟩ := hq.shape
  have hlq := hq.rl
  have hb0 := ((((Below.refl w.heap.size w).alloc (by first | (simp; done) | (simp; omega)) (.cells #[.bool sp, .slice op np cp, .slice ap mp dp] 24)).alloc (by first | (simp; done) | (simp; omega)) (.cells #[.bool sq, .slice oq nq cq, .slice aq mq dq] 24)).alloc (by first | (simp; done) | (simp; omega)) (.cells #[.bool false, .slice none 0 0, .slice none 0 0] 24))
  have hxp := nest3_0 w (.cells #[.bool sp, .slice op np cp, .slice ap mp dp] 24) (.cells #[.bool sq, .slice oq nq cq, .slice aq mq dq] 24) (.cells #[.bool false, .slice none 0 0, .slice none 0 0] 24)
  have hxq := nest3_1 w (.cells #[.bool sp, .slice op np cp, .slice ap mp dp] 24) (.cells #[.bool sq, .slice oq nq cq, .slice aq mq dq] 24) (.cells #[.bool false, .slice none 0 0, .slice none 0 0] 24)
  have hxR := nest3_2 w (.cells #[.bool sp, .slice op np cp, .slice ap mp dp] 24) (.cells #[.bool sq, .slice oq nq cq, .slice aq mq dq] 24) (.cells #[.bool false, .slice none 0 0, .slice none 0 0] 24)
  have hpp := hp.below hb0
  have hpq := hq.below hb0
  obtain ⟨w0, hw0⟩ : ∃ w0, w0 = (((w.alloc (.cells #[.bool sp, .slice op np cp, .slice ap mp dp] 24)).alloc (.cells #[.bool sq, .slice oq nq cq, .slice aq mq dq] 24)).alloc (.cells #[.bool false, .slice none 0 0, .slice none 0 0] 24)) := ⟨_, rfl⟩
  rw [← hw0] at hb0 hxp hxq hxR hpp hpq
  have HB0 := Lib.hid hb0; have HW0 := Lib.hid hw0
  have BXp := Lib.hid hxp
  have BXq := Lib.hid hxq
  have BXR := Lib.hid hxR
  have Fp := Lib.hid hpp
  have Fq := Lib.hid hpq
  clear hb0 hw0 hxp hxq hxR hpp hp hpq hq
  have l1 := rl_n p; have l2 := rl_d p; have l3 := rl_n q; have l4 := rl_d q
  have L1 : (wd (nn p * nn q)).length ≤ 200000 := by have := wd_mul_len (nn p) (nn q); have := rl_n p; have := rl_n q; omega
  have L2 : (wd (p.den * q.den)).length ≤ 200000 := by have := wd_mul_len p.den q.den; have := rl_d p; have := rl_d q; omega
  go_enter Tryd.func26, Tryd.ntmps26
  have hs := parts_any _ p w0 Fp.out
  have HS := Lib.hid hs; clear hs
  go_wp2_with fail
  rw [← HW0.out]
  (with_reducible refine HS.out.mono ?_); rintro e w1 ⟨v1, u1, rfl, hb1, hn1, hm1⟩
  clear HS
  have HB1 := Lib.hid (HB0.out.step hb1)
  have Fp := Lib.hid (Fp.out.below hb1)
  have Fq := Lib.hid (Fq.out.below hb1)
  have BXp := Lib.hid (heap_below BXp.out hb1)
  have BXq := Lib.hid (heap_below BXq.out hb1)
  have BXR := Lib.hid (heap_below BXR.out hb1)
  have N := Lib.hid hn1
  have D := Lib.hid hm1
  clear hn1 hm1
  clear hb1
  have hs := parts_any _ q w1 Fq.out
  have HS := Lib.hid hs; clear hs
  obtain ⟨eq0, eq1, eq2⟩ := row3 BXq.out
  go_wp2_with fail
  clear eq0 eq1 eq2
  (with_reducible refine HS.out.mono ?_); rintro e w2 ⟨v2, u2, rfl, hb2, hn2, hm2⟩
  clear HS
  have HB2 := Lib.hid (HB1.out.step hb2)
  have Fp := Lib.hid (Fp.out.below hb2)
  have Fq := Lib.hid (Fq.out.below hb2)
  have N := Lib.hid (N.out.below hb2)
  have D := Lib.hid (D.out.below hb2)
  have BXp := Lib.hid (heap_below BXp.out hb2)
  have BXq := Lib.hid (heap_below BXq.out hb2)
  have BXR := Lib.hid (heap_below BXR.out hb2)
  have M := Lib.hid hn2
  have E := Lib.hid hm2
  clear hn2 hm2
  clear hb2
  have hs := mulN N.out M.out (by omega) (by omega)
  have HS := Lib.hid hs; clear hs
  go_wp2_with fail
  (with_reducible refine HS.out.mono ?_); rintro e w3 ⟨v3, rfl, hb3, hn3⟩
  clear HS
  have HB3 := Lib.hid (HB2.out.step hb3)
  have Fp := Lib.hid (Fp.out.below hb3)
  have Fq := Lib.hid (Fq.out.below hb3)
  have N := Lib.hid (N.out.below hb3)
  have D := Lib.hid (D.out.below hb3)
  have M := Lib.hid (M.out.below hb3)
  have E := Lib.hid (E.out.below hb3)
  have BXp := Lib.hid (heap_below BXp.out hb3)
  have BXq := Lib.hid (heap_below BXq.out hb3)
  have BXR := Lib.hid (heap_below BXR.out hb3)
  have NM := Lib.hid hn3; clear hn3
  clear hb3
  have hs := mulN D.out E.out (by omega) (by omega)
  have HS := Lib.hid hs; clear hs
  go_wp2_with fail
  (with_reducible refine HS.out.mono ?_); rintro e w4 ⟨v4, rfl, hb4, hn4⟩
  clear HS
  have HB4 := Lib.hid (HB3.out.step hb4)
  have Fp := Lib.hid (Fp.out.below hb4)
  have Fq := Lib.hid (Fq.out.below hb4)
  have N := Lib.hid (N.out.below hb4)
  have D := Lib.hid (D.out.below hb4)
  have M := Lib.hid (M.out.below hb4)
  have E := Lib.hid (E.out.below hb4)
  have NM := Lib.hid (NM.out.below hb4)
  have BXp := Lib.hid (heap_below BXp.out hb4)
  have BXq := Lib.hid (heap_below BXq.out hb4)
  have BXR := Lib.hid (heap_below BXR.out hb4)
  have DE := Lib.hid hn4; clear hn4
  clear hb4
  have hs := formN (!(ng p == ng q)) NM.out DE.out (by omega) (by omega) (den_mul_nz p.den_nz q.den_nz)
  rw [q_mul'] at hs
  have HS := Lib.hid hs; clear hs
  go_wp2_with fail
  (with_reducible refine HS.out.mono ?_); rintro e w5 ⟨v5, rfl, hb5, hn5⟩
  clear HS
  have HB5 := Lib.hid (HB4.out.step hb5)
  have Fp := Lib.hid (Fp.out.below hb5)
  have Fq := Lib.hid (Fq.out.below hb5)
  have N := Lib.hid (N.out.below hb5)
  have D := Lib.hid (D.out.below hb5)
  have M := Lib.hid (M.out.below hb5)
  have E := Lib.hid (E.out.below hb5)
  have NM := Lib.hid (NM.out.below hb5)
  have DE := Lib.hid (DE.out.below hb5)
  have BXp := Lib.hid (heap_below BXp.out hb5)
  have BXq := Lib.hid (heap_below BXq.out hb5)
  have BXR := Lib.hid (heap_below BXR.out hb5)
  have Q := Lib.hid hn5; clear hn5
  clear hb5
  obtain ⟨sQ, oQ, nQ, cQ, aQ, mQ, dQ, rfl⟩ := Q.out.shape
  obtain ⟨eR0, eR1, eR2⟩ := row3 BXR.out
  obtain ⟨fR0, fR1, fR2⟩ := froz3 BXR.out
  go_wp2_with fail
  clear eR0 eR1 eR2 fR0 fR1 fR2
  refine ret_rat rfl (w.heap.size + 2) _ _ _ rfl (put3_heap BXR.out) rfl ?_
  exact ⟨_, rfl, put3_below HB5.out (by omega) _ _ _, isR_put Q.out BXR.out⟩
set_option maxRecDepth 100000 in
set_option maxHeartbeats 3200000 in
theorem add_same (vp : Value) (p : Rat) (vq : Value) (q : Rat) (w : World) (hp : RatIs w vp p) (hq : RatIs w vq q) (hs : ng p = ng q) :
    Calls Tryd.prog 17 #[vp, vq] w (RetR w (p + q)) := by
  obtain ⟨sp, op, np, cp, ap, mp, dp, rfl⟩ := hp.shape
  have hlp := hp.rl
  obtain ⟨sq, oq, nq, cq, aq, mq, dq, rfl⟩ := hq.shape
  have hlq := hq.rl
  have hb0 := ((((Below.refl w.heap.size w).alloc (by first | (simp; done) | (simp; omega)) (.cells #[.bool sp, .slice op np cp, .slice ap mp dp] 24)).alloc (by first | (simp; done) | (simp; omega)) (.cells #[.bool sq, .slice oq nq cq, .slice aq mq dq] 24)).alloc (by first | (simp; done) | (simp; omega)) (.cells #[.bool false, .slice none 0 0, .slice none 0 0] 24))
  have hxp := nest3_0 w (.cells #[.bool sp, .slice op np cp, .slice ap mp dp] 24) (.cells #[.bool sq, .slice oq nq cq, .slice aq mq dq] 24) (.cells #[.bool false, .slice none 0 0, .slice none 0 0] 24)
  have hxq := nest3_1 w (.cells #[.bool sp, .slice op np cp, .slice ap mp dp] 24) (.cells #[.bool sq, .slice oq nq cq, .slice aq mq dq] 24) (.cells #[.bool false, .slice none 0 0, .slice none 0 0] 24)
  have hxR := nest3_2 w (.cells #[.bool sp, .slice op np cp, .slice ap mp dp] 24) (.cells #[.bool sq, .slice oq nq cq, .slice aq mq dq] 24) (.cells #[.bool false, .slice none 0 0, .slice none 0 0] 24)
  have hpp := hp.below hb0
  have hpq := hq.below hb0
  obtain ⟨w0, hw0⟩ : ∃ w0, w0 = (((w.alloc (.cells #[.bool sp, .slice op np cp, .slice ap mp dp] 24)).alloc (.cells #[.bool sq, .slice oq nq cq, .slice aq mq dq] 24)).alloc (.cells #[.bool false, .slice none 0 0, .slice none 0 0] 24)) := ⟨_, rfl⟩
  rw [← hw0] at hb0 hxp hxq hxR hpp hpq
  have HB0 := Lib.hid hb0; have HW0 := Lib.hid hw0
  have BXp := Lib.hid hxp
  have BXq := Lib.hid hxq
  have BXR := Lib.hid hxR
  have Fp := Lib.hid hpp
  have Fq := Lib.hid hpq
  clear hb0 hw0 hxp hxq hxR hpp hp hpq hq
  have l1 := rl_n p; have l2 := rl_d p; have l3 := rl_n q; have l4 := rl_d q
  have L1 : (wd (nn p * q.den)).length ≤ 200000 := by have := wd_mul_len (nn p) q.den; omega
  have L2 : (wd (nn q * p.den)).length ≤ 200000 := by have := wd_mul_len (nn q) p.den; omega
  have L3 : (wd (p.den * q.den)).length ≤ 200000 := by have := wd_mul_len p.den q.den; omega
  have heq := q_add_same p q hs
  have HEQ := Lib.hid heq; clear heq
  have L4 : (wd (nn p * q.den + nn q * p.den)).length ≤ 200001 := by have := wd_add_len (nn p * q.den) (nn q * p.den); omega
  have f1 : (ng p == ng q) = true := by rw [beq_iff_eq]; exact hs
  obtain ⟨x, hx⟩ : ∃ x, x = ng p := ⟨_, rfl⟩; obtain ⟨y, hy⟩ : ∃ y, y = ng q := ⟨_, rfl⟩
  rw [← hx, ← hy] at f1
  have HX := Lib.hid hx; have HY := Lib.hid hy; clear hx hy hs
  go_enter Tryd.func17, Tryd.ntmps17
  have hs := parts_any _ p w0 Fp.out
  have HS := Lib.hid hs; clear hs
  go_wp2_with fail
  rw [← HW0.out]
  (with_reducible refine HS.out.mono ?_); rintro e w1 ⟨v1, u1, rfl, hb1, hn1, hm1⟩
  clear HS
  have HB1 := Lib.hid (HB0.out.step hb1)
  have Fp := Lib.hid (Fp.out.below hb1)
  have Fq := Lib.hid (Fq.out.below hb1)
  have BXp := Lib.hid (heap_below BXp.out hb1)
  have BXq := Lib.hid (heap_below BXq.out hb1)
  have BXR := Lib.hid (heap_below BXR.out hb1)
  have N := Lib.hid hn1
  have D := Lib.hid hm1
  clear hn1 hm1
  clear hb1
  rw [← HX.out]
  have hs := parts_any _ q w1 Fq.out
  have HS := Lib.hid hs; clear hs
  obtain ⟨eq0, eq1, eq2⟩ := row3 BXq.out
  go_wp2_with fail
  clear eq0 eq1 eq2
  (with_reducible refine HS.out.mono ?_); rintro e w2 ⟨v2, u2, rfl, hb2, hn2, hm2⟩
  clear HS
  have HB2 := Lib.hid (HB1.out.step hb2)
  have Fp := Lib.hid (Fp.out.below hb2)
  have Fq := Lib.hid (Fq.out.below hb2)
  have N := Lib.hid (N.out.below hb2)
  have D := Lib.hid (D.out.below hb2)
  have BXp := Lib.hid (heap_below BXp.out hb2)
  have BXq := Lib.hid (heap_below BXq.out hb2)
  have BXR := Lib.hid (heap_below BXR.out hb2)
  have M := Lib.hid hn2
  have E := Lib.hid hm2
  clear hn2 hm2
  clear hb2
  rw [← HY.out]
  have hs := mulN N.out E.out (by omega) (by omega)
  have HS := Lib.hid hs; clear hs
  go_wp2_with fail
  (with_reducible refine HS.out.mono ?_); rintro e w3 ⟨v3, rfl, hb3, hn3⟩
  clear HS
  have HB3 := Lib.hid (HB2.out.step hb3)
  have Fp := Lib.hid (Fp.out.below hb3)
  have Fq := Lib.hid (Fq.out.below hb3)
  have N := Lib.hid (N.out.below hb3)
  have D := Lib.hid (D.out.below hb3)
  have M := Lib.hid (M.out.below hb3)
  have E := Lib.hid (E.out.below hb3)
  have BXp := Lib.hid (heap_below BXp.out hb3)
  have BXq := Lib.hid (heap_below BXq.out hb3)
  have BXR := Lib.hid (heap_below BXR.out hb3)
  have X := Lib.hid hn3; clear hn3
  clear hb3
  have hs := mulN M.out D.out (by omega) (by omega)
  have HS := Lib.hid hs; clear hs
  go_wp2_with fail
  (with_reducible refine HS.out.mono ?_); rintro e w4 ⟨v4, rfl, hb4, hn4⟩
  clear HS
  have HB4 := Lib.hid (HB3.out.step hb4)
  have Fp := Lib.hid (Fp.out.below hb4)
  have Fq := Lib.hid (Fq.out.below hb4)
  have N := Lib.hid (N.out.below hb4)
  have D := Lib.hid (D.out.below hb4)
  have M := Lib.hid (M.out.below hb4)
  have E := Lib.hid (E.out.below hb4)
  have X := Lib.hid (X.out.below hb4)
  have BXp := Lib.hid (heap_below BXp.out hb4)
  have BXq := Lib.hid (heap_below BXq.out hb4)
  have BXR := Lib.hid (heap_below BXR.out hb4)
  have Y := Lib.hid hn4; clear hn4
  clear hb4
  have hs := mulN D.out E.out (by omega) (by omega)
  have HS := Lib.hid hs; clear hs
  go_wp2_with fail
  (with_reducible refine HS.out.mono ?_); rintro e w5 ⟨v5, rfl, hb5, hn5⟩
  clear HS
  have HB5 := Lib.hid (HB4.out.step hb5)
  have Fp := Lib.hid (Fp.out.below hb5)
  have Fq := Lib.hid (Fq.out.below hb5)
  have N := Lib.hid (N.out.below hb5)
  have D := Lib.hid (D.out.below hb5)
  have M := Lib.hid (M.out.below hb5)
  have E := Lib.hid (E.out.below hb5)
  have X := Lib.hid (X.out.below hb5)
  have Y := Lib.hid (Y.out.below hb5)
  have BXp := Lib.hid (heap_below BXp.out hb5)
  have BXq := Lib.hid (heap_below BXq.out hb5)
  have BXR := Lib.hid (heap_below BXR.out hb5)
  have DE := Lib.hid hn5; clear hn5
  clear hb5
  have hs := addN X.out Y.out (by omega) (by omega)
  have HS := Lib.hid hs; clear hs
  go_wp2_with fail
  (with_reducible refine HS.out.mono ?_); rintro e w6 ⟨v6, rfl, hb6, hn6⟩
  clear HS
  have HB6 := Lib.hid (HB5.out.step hb6)
  have Fp := Lib.hid (Fp.out.below hb6)
  have Fq := Lib.hid (Fq.out.below hb6)
  have N := Lib.hid (N.out.below hb6)
  have D := Lib.hid (D.out.below hb6)
  have M := Lib.hid (M.out.below hb6)
  have E := Lib.hid (E.out.below hb6)
  have X := Lib.hid (X.out.below hb6)
  have Y := Lib.hid (Y.out.below hb6)
  have DE := Lib.hid (DE.out.below hb6)
  have BXp := Lib.hid (heap_below BXp.out hb6)
  have BXq := Lib.hid (heap_below BXq.out hb6)
  have BXR := Lib.hid (heap_below BXR.out hb6)
  have S := Lib.hid hn6; clear hn6
  clear hb6
  have hs := formN x S.out DE.out (by omega) (by omega) (den_mul_nz p.den_nz q.den_nz)
  have HS := Lib.hid hs; clear hs
  go_wp2_with fail
  (with_reducible refine HS.out.mono ?_); rintro e w7 ⟨v7, rfl, hb7, hn7⟩
  clear HS
  have HB7 := Lib.hid (HB6.out.step hb7)
  have Fp := Lib.hid (Fp.out.below hb7)
  have Fq := Lib.hid (Fq.out.below hb7)
  have N := Lib.hid (N.out.below hb7)
  have D := Lib.hid (D.out.below hb7)
  have M := Lib.hid (M.out.below hb7)
  have E := Lib.hid (E.out.below hb7)
  have X := Lib.hid (X.out.below hb7)
  have Y := Lib.hid (Y.out.below hb7)
  have DE := Lib.hid (DE.out.below hb7)
  have S := Lib.hid (S.out.below hb7)
  have BXp := Lib.hid (heap_below BXp.out hb7)
  have BXq := Lib.hid (heap_below BXq.out hb7)
  have BXR := Lib.hid (heap_below BXR.out hb7)
  have Q := Lib.hid hn7; clear hn7
  clear hb7
  have hq := Q.out; rw [HX.out, HEQ.out] at hq; have Q := Lib.hid hq; clear hq
  obtain ⟨sQ, oQ, nQ, cQ, aQ, mQ, dQ, rfl⟩ := Q.out.shape
  obtain ⟨eR0, eR1, eR2⟩ := row3 BXR.out
  obtain ⟨fR0, fR1, fR2⟩ := froz3 BXR.out
  go_wp2_with fail
  clear eR0 eR1 eR2 fR0 fR1 fR2
  refine ret_rat rfl (w.heap.size + 2) _ _ _ rfl (put3_heap BXR.out) rfl ?_
  exact ⟨_, rfl, put3_below HB7.out (by omega) _ _ _, isR_put Q.out BXR.out⟩
set_option maxRecDepth 100000 in
set_option maxHeartbeats 3200000 in
theorem add_diff (vp : Value) (p : Rat) (vq : Value) (q : Rat) (w : World) (hp : RatIs w vp p) (hq : RatIs w vq q) (hs : ng p ≠ ng q) (hle : nn q * p.den ≤ nn p * q.den) :
    Calls Tryd.prog 17 #[vp, vq] w (RetR w (p + q)) := by
  obtain ⟨sp, op, np, cp, ap, mp, dp, rfl⟩ := hp.shape
  have hlp := hp.rl
  obtain ⟨sq, oq, nq, cq, aq, mq, dq, rfl⟩ := hq.shape
  have hlq := hq.rl
  have hb0 := ((((Below.refl w.heap.size w).alloc (by first | (simp; done) | (simp; omega)) (.cells #[.bool sp, .slice op np cp, .slice ap mp dp] 24)).alloc (by first | (simp; done) | (simp; omega)) (.cells #[.bool sq, .slice oq nq cq, .slice aq mq dq] 24)).alloc (by first | (simp; done) | (simp; omega)) (.cells #[.bool false, .slice none 0 0, .slice none 0 0] 24))
  have hxp := nest3_0 w (.cells #[.bool sp, .slice op np cp, .slice ap mp dp] 24) (.cells #[.bool sq, .slice oq nq cq, .slice aq mq dq] 24) (.cells #[.bool false, .slice none 0 0, .slice none 0 0] 24)
  have hxq := nest3_1 w (.cells #[.bool sp, .slice op np cp, .slice ap mp dp] 24) (.cells #[.bool sq, .slice oq nq cq, .slice aq mq dq] 24) (.cells #[.bool false, .slice none 0 0, .slice none 0 0] 24)
  have hxR := nest3_2 w (.cells #[.bool sp, .slice op np cp, .slice ap mp dp] 24) (.cells #[.bool sq, .slice oq nq cq, .slice aq mq dq] 24) (.cells #[.bool false, .slice none 0 0, .slice none 0 0] 24)
  have hpp := hp.below hb0
  have hpq := hq.below hb0
  obtain ⟨w0, hw0⟩ : ∃ w0, w0 = (((w.alloc (.cells #[.bool sp, .slice op np cp, .slice ap mp dp] 24)).alloc (.cells #[.bool sq, .slice oq nq cq, .slice aq mq dq] 24)).alloc (.cells #[.bool false, .slice none 0 0, .slice none 0 0] 24)) := ⟨_, rfl⟩
  rw [← hw0] at hb0 hxp hxq hxR hpp hpq
  have HB0 := Lib.hid hb0; have HW0 := Lib.hid hw0
  have BXp := Lib.hid hxp
  have BXq := Lib.hid hxq
  have BXR := Lib.hid hxR
  have Fp := Lib.hid hpp
  have Fq := Lib.hid hpq
  clear hb0 hw0 hxp hxq hxR hpp hp hpq hq
  have l1 := rl_n p; have l2 := rl_d p; have l3 := rl_n q; have l4 := rl_d q
  have L1 : (wd (nn p * q.den)).length ≤ 200000 := by have := wd_mul_len (nn p) q.den; omega
  have L2 : (wd (nn q * p.den)).length ≤ 200000 := by have := wd_mul_len (nn q) p.den; omega
  have L3 : (wd (p.den * q.den)).length ≤ 200000 := by have := wd_mul_len p.den q.den; omega
  have heq := q_add_diff p q hs hle
  have HEQ := Lib.hid heq; clear heq
  have f1 : (ng p == ng q) = false := by rw [beq_eq_false_iff_ne]; exact hs
  obtain ⟨c, hc⟩ : ∃ c, c = cmpN (nn p * q.den) (nn q * p.den) := ⟨_, rfl⟩
  have L4 : (wd (nn p * q.den - nn q * p.den)).length ≤ 200000 := by exact Nat.le_trans (wd_length_mono (Nat.sub_le _ _)) L1
  have f2 : decide (0 ≤ c) = true := by rw [hc, decide_eq_true_eq]; unfold cmpN; rw [if_neg (by omega)]; split <;> decide
  have HC := Lib.hid hc; have HLE := Lib.hid hle; clear hc hle
  obtain ⟨x, hx⟩ : ∃ x, x = ng p := ⟨_, rfl⟩; obtain ⟨y, hy⟩ : ∃ y, y = ng q := ⟨_, rfl⟩
  rw [← hx, ← hy] at f1
  have HX := Lib.hid hx; have HY := Lib.hid hy; clear hx hy hs
  go_enter Tryd.func17, Tryd.ntmps17
  have hs := parts_any _ p w0 Fp.out
  have HS := Lib.hid hs; clear hs
  go_wp2_with fail
  rw [← HW0.out]
  (with_reducible refine HS.out.mono ?_); rintro e w1 ⟨v1, u1, rfl, hb1, hn1, hm1⟩
  clear HS
  have HB1 := Lib.hid (HB0.out.step hb1)
  have Fp := Lib.hid (Fp.out.below hb1)
  have Fq := Lib.hid (Fq.out.below hb1)
  have BXp := Lib.hid (heap_below BXp.out hb1)
  have BXq := Lib.hid (heap_below BXq.out hb1)
  have BXR := Lib.hid (heap_below BXR.out hb1)
  have N := Lib.hid hn1
  have D := Lib.hid hm1
  clear hn1 hm1
  clear hb1
  rw [← HX.out]
  have hs := parts_any _ q w1 Fq.out
  have HS := Lib.hid hs; clear hs
  obtain ⟨eq0, eq1, eq2⟩ := row3 BXq.out
  go_wp2_with fail
  clear eq0 eq1 eq2
  (with_reducible refine HS.out.mono ?_); rintro e w2 ⟨v2, u2, rfl, hb2, hn2, hm2⟩
  clear HS
  have HB2 := Lib.hid (HB1.out.step hb2)
  have Fp := Lib.hid (Fp.out.below hb2)
  have Fq := Lib.hid (Fq.out.below hb2)
  have N := Lib.hid (N.out.below hb2)
  have D := Lib.hid (D.out.below hb2)
  have BXp := Lib.hid (heap_below BXp.out hb2)
  have BXq := Lib.hid (heap_below BXq.out hb2)
  have BXR := Lib.hid (heap_below BXR.out hb2)
  have M := Lib.hid hn2
  have E := Lib.hid hm2
  clear hn2 hm2
  clear hb2
  rw [← HY.out]
  have hs := mulN N.out E.out (by omega) (by omega)
  have HS := Lib.hid hs; clear hs
  go_wp2_with fail
  (with_reducible refine HS.out.mono ?_); rintro e w3 ⟨v3, rfl, hb3, hn3⟩
  clear HS
  have HB3 := Lib.hid (HB2.out.step hb3)
  have Fp := Lib.hid (Fp.out.below hb3)
  have Fq := Lib.hid (Fq.out.below hb3)
  have N := Lib.hid (N.out.below hb3)
  have D := Lib.hid (D.out.below hb3)
  have M := Lib.hid (M.out.below hb3)
  have E := Lib.hid (E.out.below hb3)
  have BXp := Lib.hid (heap_below BXp.out hb3)
  have BXq := Lib.hid (heap_below BXq.out hb3)
  have BXR := Lib.hid (heap_below BXR.out hb3)
  have X := Lib.hid hn3; clear hn3
  clear hb3
  have hs := mulN M.out D.out (by omega) (by omega)
  have HS := Lib.hid hs; clear hs
  go_wp2_with fail
  (with_reducible refine HS.out.mono ?_); rintro e w4 ⟨v4, rfl, hb4, hn4⟩
  clear HS
  have HB4 := Lib.hid (HB3.out.step hb4)
  have Fp := Lib.hid (Fp.out.below hb4)
  have Fq := Lib.hid (Fq.out.below hb4)
  have N := Lib.hid (N.out.below hb4)
  have D := Lib.hid (D.out.below hb4)
  have M := Lib.hid (M.out.below hb4)
  have E := Lib.hid (E.out.below hb4)
  have X := Lib.hid (X.out.below hb4)
  have BXp := Lib.hid (heap_below BXp.out hb4)
  have BXq := Lib.hid (heap_below BXq.out hb4)
  have BXR := Lib.hid (heap_below BXR.out hb4)
  have Y := Lib.hid hn4; clear hn4
  clear hb4
  have hs := mulN D.out E.out (by omega) (by omega)
  have HS := Lib.hid hs; clear hs
  go_wp2_with fail
  (with_reducible refine HS.out.mono ?_); rintro e w5 ⟨v5, rfl, hb5, hn5⟩
  clear HS
  have HB5 := Lib.hid (HB4.out.step hb5)
  have Fp := Lib.hid (Fp.out.below hb5)
  have Fq := Lib.hid (Fq.out.below hb5)
  have N := Lib.hid (N.out.below hb5)
  have D := Lib.hid (D.out.below hb5)
  have M := Lib.hid (M.out.below hb5)
  have E := Lib.hid (E.out.below hb5)
  have X := Lib.hid (X.out.below hb5)
  have Y := Lib.hid (Y.out.below hb5)
  have BXp := Lib.hid (heap_below BXp.out hb5)
  have BXq := Lib.hid (heap_below BXq.out hb5)
  have BXR := Lib.hid (heap_below BXR.out hb5)
  have DE := Lib.hid hn5; clear hn5
  clear hb5
  have hs := cmpN_ X.out Y.out (by omega) (by omega)
  rw [← HC.out] at hs
  have HS := Lib.hid hs; clear hs
  go_wp2_with fail
  (with_reducible refine HS.out.mono ?_); rintro e w6 ⟨rfl, hb6⟩
  clear HS
  have HB6 := Lib.hid (HB5.out.step hb6)
  have Fp := Lib.hid (Fp.out.below hb6)
  have Fq := Lib.hid (Fq.out.below hb6)
  have N := Lib.hid (N.out.below hb6)
  have D := Lib.hid (D.out.below hb6)
  have M := Lib.hid (M.out.below hb6)
  have E := Lib.hid (E.out.below hb6)
  have X := Lib.hid (X.out.below hb6)
  have Y := Lib.hid (Y.out.below hb6)
  have DE := Lib.hid (DE.out.below hb6)
  have BXp := Lib.hid (heap_below BXp.out hb6)
  have BXq := Lib.hid (heap_below BXq.out hb6)
  have BXR := Lib.hid (heap_below BXR.out hb6)
  clear hb6
  have hs := subN X.out Y.out (by omega) (by omega) HLE.out
  have HS := Lib.hid hs; clear hs
  go_wp2_with fail
  (with_reducible refine HS.out.mono ?_); rintro e w7 ⟨v7, rfl, hb7, hn7⟩
  clear HS
  have HB7 := Lib.hid (HB6.out.step hb7)
  have Fp := Lib.hid (Fp.out.below hb7)
  have Fq := Lib.hid (Fq.out.below hb7)
  have N := Lib.hid (N.out.below hb7)
  have D := Lib.hid (D.out.below hb7)
  have M := Lib.hid (M.out.below hb7)
  have E := Lib.hid (E.out.below hb7)
  have X := Lib.hid (X.out.below hb7)
  have Y := Lib.hid (Y.out.below hb7)
  have DE := Lib.hid (DE.out.below hb7)
  have BXp := Lib.hid (heap_below BXp.out hb7)
  have BXq := Lib.hid (heap_below BXq.out hb7)
  have BXR := Lib.hid (heap_below BXR.out hb7)
  have S := Lib.hid hn7; clear hn7
  clear hb7
  have hs := formN x S.out DE.out (by omega) (by omega) (den_mul_nz p.den_nz q.den_nz)
  have HS := Lib.hid hs; clear hs
  go_wp2_with fail
  (with_reducible refine HS.out.mono ?_); rintro e w8 ⟨v8, rfl, hb8, hn8⟩
  clear HS
  have HB8 := Lib.hid (HB7.out.step hb8)
  have Fp := Lib.hid (Fp.out.below hb8)
  have Fq := Lib.hid (Fq.out.below hb8)
  have N := Lib.hid (N.out.below hb8)
  have D := Lib.hid (D.out.below hb8)
  have M := Lib.hid (M.out.below hb8)
  have E := Lib.hid (E.out.below hb8)
  have X := Lib.hid (X.out.below hb8)
  have Y := Lib.hid (Y.out.below hb8)
  have DE := Lib.hid (DE.out.below hb8)
  have S := Lib.hid (S.out.below hb8)
  have BXp := Lib.hid (heap_below BXp.out hb8)
  have BXq := Lib.hid (heap_below BXq.out hb8)
  have BXR := Lib.hid (heap_below BXR.out hb8)
  have Q := Lib.hid hn8; clear hn8
  clear hb8
  have hq := Q.out; rw [HX.out, HEQ.out] at hq; have Q := Lib.hid hq; clear hq
  obtain ⟨sQ, oQ, nQ, cQ, aQ, mQ, dQ, rfl⟩ := Q.out.shape
  obtain ⟨eR0, eR1, eR2⟩ := row3 BXR.out
  obtain ⟨fR0, fR1, fR2⟩ := froz3 BXR.out
  go_wp2_with fail
  clear eR0 eR1 eR2 fR0 fR1 fR2
  refine ret_rat rfl (w.heap.size + 2) _ _ _ rfl (put3_heap BXR.out) rfl ?_
  exact ⟨_, rfl, put3_below HB8.out (by omega) _ _ _, isR_put Q.out BXR.out⟩
set_option maxRecDepth 100000 in
set_option maxHeartbeats 3200000 in
theorem add_diff' (vp : Value) (p : Rat) (vq : Value) (q : Rat) (w : World) (hp : RatIs w vp p) (hq : RatIs w vq q) (hs : ng p ≠ ng q) (hle : nn p * q.den < nn q * p.den) :
    Calls Tryd.prog 17 #[vp, vq] w (RetR w (p + q)) := by
  obtain ⟨sp, op, np, cp, ap, mp, dp, rfl⟩ := hp.shape
  have hlp := hp.rl
  obtain ⟨sq, oq, nq, cq, aq, mq, dq, rfl⟩ := hq.shape
  have hlq := hq.rl
  have hb0 := ((((Below.refl w.heap.size w).alloc (by first | (simp; done) | (simp; omega)) (.cells #[.bool sp, .slice op np cp, .slice ap mp dp] 24)).alloc (by first | (simp; done) | (simp; omega)) (.cells #[.bool sq, .slice oq nq cq, .slice aq mq dq] 24)).alloc (by first | (simp; done) | (simp; omega)) (.cells #[.bool false, .slice none 0 0, .slice none 0 0] 24))
  have hxp := nest3_0 w (.cells #[.bool sp, .slice op np cp, .slice ap mp dp] 24) (.cells #[.bool sq, .slice oq nq cq, .slice aq mq dq] 24) (.cells #[.bool false, .slice none 0 0, .slice none 0 0] 24)
  have hxq := nest3_1 w (.cells #[.bool sp, .slice op np cp, .slice ap mp dp] 24) (.cells #[.bool sq, .slice oq nq cq, .slice aq mq dq] 24) (.cells #[.bool false, .slice none 0 0, .slice none 0 0] 24)
  have hxR := nest3_2 w (.cells #[.bool sp, .slice op np cp, .slice ap mp dp] 24) (.cells #[.bool sq, .slice oq nq cq, .slice aq mq dq] 24) (.cells #[.bool false, .slice none 0 0, .slice none 0 0] 24)
  have hpp := hp.below hb0
  have hpq := hq.below hb0
  obtain ⟨w0, hw0⟩ : ∃ w0, w0 = (((w.alloc (.cells #[.bool sp, .slice op np cp, .slice ap mp dp] 24)).alloc (.cells #[.bool sq, .slice oq nq cq, .slice aq mq dq] 24)).alloc (.cells #[.bool false, .slice none 0 0, .slice none 0 0] 24)) := ⟨_, rfl⟩
  rw [← hw0] at hb0 hxp hxq hxR hpp hpq
  have HB0 := Lib.hid hb0; have HW0 := Lib.hid hw0
  have BXp := Lib.hid hxp
  have BXq := Lib.hid hxq
  have BXR := Lib.hid hxR
  have Fp := Lib.hid hpp
  have Fq := Lib.hid hpq
  clear hb0 hw0 hxp hxq hxR hpp hp hpq hq
  have l1 := rl_n p; have l2 := rl_d p; have l3 := rl_n q; have l4 := rl_d q
  have L1 : (wd (nn p * q.den)).length ≤ 200000 := by have := wd_mul_len (nn p) q.den; omega
  have L2 : (wd (nn q * p.den)).length ≤ 200000 := by have := wd_mul_len (nn q) p.den; omega
  have L3 : (wd (p.den * q.den)).length ≤ 200000 := by have := wd_mul_len p.den q.den; omega
  have heq := q_add_diff' p q hs (Nat.le_of_lt hle)
  have HEQ := Lib.hid heq; clear heq
  have f1 : (ng p == ng q) = false := by rw [beq_eq_false_iff_ne]; exact hs
  obtain ⟨c, hc⟩ : ∃ c, c = cmpN (nn p * q.den) (nn q * p.den) := ⟨_, rfl⟩
  have L4 : (wd (nn q * p.den - nn p * q.den)).length ≤ 200000 := by exact Nat.le_trans (wd_length_mono (Nat.sub_le _ _)) L2
  have f2 : decide (0 ≤ c) = false := by rw [hc, decide_eq_false_iff_not]; unfold cmpN; rw [if_pos hle]; decide
  have HC := Lib.hid hc; have HLE := Lib.hid hle; clear hc hle
  obtain ⟨x, hx⟩ : ∃ x, x = ng p := ⟨_, rfl⟩; obtain ⟨y, hy⟩ : ∃ y, y = ng q := ⟨_, rfl⟩
  rw [← hx, ← hy] at f1
  have HX := Lib.hid hx; have HY := Lib.hid hy; clear hx hy hs
  go_enter Tryd.func17, Tryd.ntmps17
  have hs := parts_any _ p w0 Fp.out
  have HS := Lib.hid hs; clear hs
  go_wp2_with fail
  rw [← HW0.out]
  (with_reducible refine HS.out.mono ?_); rintro e w1 ⟨v1, u1, rfl, hb1, hn1, hm1⟩
  clear HS
  have HB1 := Lib.hid (HB0.out.step hb1)
  have Fp := Lib.hid (Fp.out.below hb1)
  have Fq := Lib.hid (Fq.out.below hb1)
  have BXp := Lib.hid (heap_below BXp.out hb1)
  have BXq := Lib.hid (heap_below BXq.out hb1)
  have BXR := Lib.hid (heap_below BXR.out hb1)
  have N := Lib.hid hn1
  have D := Lib.hid hm1
  clear hn1 hm1
  clear hb1
  rw [← HX.out]
  have hs := parts_any _ q w1 Fq.out
  have HS := Lib.hid hs; clear hs
  obtain ⟨eq0, eq1, eq2⟩ := row3 BXq.out
  go_wp2_with fail
  clear eq0 eq1 eq2
  (with_reducible refine HS.out.mono ?_); rintro e w2 ⟨v2, u2, rfl, hb2, hn2, hm2⟩
  clear HS
  have HB2 := Lib.hid (HB1.out.step hb2)
  have Fp := Lib.hid (Fp.out.below hb2)
  have Fq := Lib.hid (Fq.out.below hb2)
  have N := Lib.hid (N.out.below hb2)
  have D := Lib.hid (D.out.below hb2)
  have BXp := Lib.hid (heap_below BXp.out hb2)
  have BXq := Lib.hid (heap_below BXq.out hb2)
  have BXR := Lib.hid (heap_below BXR.out hb2)
  have M := Lib.hid hn2
  have E := Lib.hid hm2
  clear hn2 hm2
  clear hb2
  rw [← HY.out]
  have hs := mulN N.out E.out (by omega) (by omega)
  have HS := Lib.hid hs; clear hs
  go_wp2_with fail
  (with_reducible refine HS.out.mono ?_); rintro e w3 ⟨v3, rfl, hb3, hn3⟩
  clear HS
  have HB3 := Lib.hid (HB2.out.step hb3)
  have Fp := Lib.hid (Fp.out.below hb3)
  have Fq := Lib.hid (Fq.out.below hb3)
  have N := Lib.hid (N.out.below hb3)
  have D := Lib.hid (D.out.below hb3)
  have M := Lib.hid (M.out.below hb3)
  have E := Lib.hid (E.out.below hb3)
  have BXp := Lib.hid (heap_below BXp.out hb3)
  have BXq := Lib.hid (heap_below BXq.out hb3)
  have BXR := Lib.hid (heap_below BXR.out hb3)
  have X := Lib.hid hn3; clear hn3
  clear hb3
  have hs := mulN M.out D.out (by omega) (by omega)
  have HS := Lib.hid hs; clear hs
  go_wp2_with fail
  (with_reducible refine HS.out.mono ?_); rintro e w4 ⟨v4, rfl, hb4, hn4⟩
  clear HS
  have HB4 := Lib.hid (HB3.out.step hb4)
  have Fp := Lib.hid (Fp.out.below hb4)
  have Fq := Lib.hid (Fq.out.below hb4)
  have N := Lib.hid (N.out.below hb4)
  have D := Lib.hid (D.out.below hb4)
  have M := Lib.hid (M.out.below hb4)
  have E := Lib.hid (E.out.below hb4)
  have X := Lib.hid (X.out.below hb4)
  have BXp := Lib.hid (heap_below BXp.out hb4)
  have BXq := Lib.hid (heap_below BXq.out hb4)
  have BXR := Lib.hid (heap_below BXR.out hb4)
  have Y := Lib.hid hn4; clear hn4
  clear hb4
  have hs := mulN D.out E.out (by omega) (by omega)
  have HS := Lib.hid hs; clear hs
  go_wp2_with fail
  (with_reducible refine HS.out.mono ?_); rintro e w5 ⟨v5, rfl, hb5, hn5⟩
  clear HS
  have HB5 := Lib.hid (HB4.out.step hb5)
  have Fp := Lib.hid (Fp.out.below hb5)
  have Fq := Lib.hid (Fq.out.below hb5)
  have N := Lib.hid (N.out.below hb5)
  have D := Lib.hid (D.out.below hb5)
  have M := Lib.hid (M.out.below hb5)
  have E := Lib.hid (E.out.below hb5)
  have X := Lib.hid (X.out.below hb5)
  have Y := Lib.hid (Y.out.below hb5)
  have BXp := Lib.hid (heap_below BXp.out hb5)
  have BXq := Lib.hid (heap_below BXq.out hb5)
  have BXR := Lib.hid (heap_below BXR.out hb5)
  have DE := Lib.hid hn5; clear hn5
  clear hb5
  have hs := cmpN_ X.out Y.out (by omega) (by omega)
  rw [← HC.out] at hs
  have HS := Lib.hid hs; clear hs
  go_wp2_with fail
  (with_reducible refine HS.out.mono ?_); rintro e w6 ⟨rfl, hb6⟩
  clear HS
  have HB6 := Lib.hid (HB5.out.step hb6)
  have Fp := Lib.hid (Fp.out.below hb6)
  have Fq := Lib.hid (Fq.out.below hb6)
  have N := Lib.hid (N.out.below hb6)
  have D := Lib.hid (D.out.below hb6)
  have M := Lib.hid (M.out.below hb6)
  have E := Lib.hid (E.out.below hb6)
  have X := Lib.hid (X.out.below hb6)
  have Y := Lib.hid (Y.out.below hb6)
  have DE := Lib.hid (DE.out.below hb6)
  have BXp := Lib.hid (heap_below BXp.out hb6)
  have BXq := Lib.hid (heap_below BXq.out hb6)
  have BXR := Lib.hid (heap_below BXR.out hb6)
  clear hb6
  have hs := subN Y.out X.out (by omega) (by omega) (Nat.le_of_lt HLE.out)
  have HS := Lib.hid hs; clear hs
  go_wp2_with fail
  (with_reducible refine HS.out.mono ?_); rintro e w7 ⟨v7, rfl, hb7, hn7⟩
  clear HS
  have HB7 := Lib.hid (HB6.out.step hb7)
  have Fp := Lib.hid (Fp.out.below hb7)
  have Fq := Lib.hid (Fq.out.below hb7)
  have N := Lib.hid (N.out.below hb7)
  have D := Lib.hid (D.out.below hb7)
  have M := Lib.hid (M.out.below hb7)
  have E := Lib.hid (E.out.below hb7)
  have X := Lib.hid (X.out.below hb7)
  have Y := Lib.hid (Y.out.below hb7)
  have DE := Lib.hid (DE.out.below hb7)
  have BXp := Lib.hid (heap_below BXp.out hb7)
  have BXq := Lib.hid (heap_below BXq.out hb7)
  have BXR := Lib.hid (heap_below BXR.out hb7)
  have S := Lib.hid hn7; clear hn7
  clear hb7
  have hs := formN y S.out DE.out (by omega) (by omega) (den_mul_nz p.den_nz q.den_nz)
  have HS := Lib.hid hs; clear hs
  go_wp2_with fail
  (with_reducible refine HS.out.mono ?_); rintro e w8 ⟨v8, rfl, hb8, hn8⟩
  clear HS
  have HB8 := Lib.hid (HB7.out.step hb8)
  have Fp := Lib.hid (Fp.out.below hb8)
  have Fq := Lib.hid (Fq.out.below hb8)
  have N := Lib.hid (N.out.below hb8)
  have D := Lib.hid (D.out.below hb8)
  have M := Lib.hid (M.out.below hb8)
  have E := Lib.hid (E.out.below hb8)
  have X := Lib.hid (X.out.below hb8)
  have Y := Lib.hid (Y.out.below hb8)
  have DE := Lib.hid (DE.out.below hb8)
  have S := Lib.hid (S.out.below hb8)
  have BXp := Lib.hid (heap_below BXp.out hb8)
  have BXq := Lib.hid (heap_below BXq.out hb8)
  have BXR := Lib.hid (heap_below BXR.out hb8)
  have Q := Lib.hid hn8; clear hn8
  clear hb8
  have hq := Q.out; rw [HY.out, HEQ.out] at hq; have Q := Lib.hid hq; clear hq
  obtain ⟨sQ, oQ, nQ, cQ, aQ, mQ, dQ, rfl⟩ := Q.out.shape
  obtain ⟨eR0, eR1, eR2⟩ := row3 BXR.out
  obtain ⟨fR0, fR1, fR2⟩ := froz3 BXR.out
  go_wp2_with fail
  clear eR0 eR1 eR2 fR0 fR1 fR2
  refine ret_rat rfl (w.heap.size + 2) _ _ _ rfl (put3_heap BXR.out) rfl ?_
  exact ⟨_, rfl, put3_below HB8.out (by omega) _ _ _, isR_put Q.out BXR.out⟩
theorem addq_any (vp : Value) (p : Rat) (vq : Value) (q : Rat) (w : World) (hp : RatIs w vp p) (hq : RatIs w vq q) :
    Calls Tryd.prog 17 #[vp, vq] w (RetR w (p + q)) := by
  by_cases h : ng p = ng q
  · exact add_same vp p vq q w hp hq h
  · rcases Nat.lt_or_ge (nn p * q.den) (nn q * p.den) with h2 | h2
    · exact add_diff' vp p vq q w hp hq h h2
    · exact add_diff vp p vq q w hp hq h h2
end Go.Proofs.YtaefimegiobkmaaDoor
/-
  rational.size, Of, Make, Sub, Sign, Cmp, same, Min, Max, Div: what they hand back.
  Conditions: each theorem's own.
-/
namespace Go.Proofs.YtaefimegiobkmaaDoor
open Go.RowKit Go.ChangeShapes Go.WideShapes

theorem put6 {w : World} {g p q : Nat} {x y z a b c d e f : Value} (hp : p ≠ g) (hq : q ≠ g) (h : w.cell? ⟨p, 0, none⟩ = some a ∧ w.cell? ⟨p, 1, none⟩ = some b ∧ w.cell? ⟨p, 2, none⟩ = some c ∧ w.cell? ⟨q, 0, none⟩ = some d ∧ w.cell? ⟨q, 1, none⟩ = some e ∧ w.cell? ⟨q, 2, none⟩ = some f) :
    (put3 w g x y z).cell? ⟨p, 0, none⟩ = some a ∧ (put3 w g x y z).cell? ⟨p, 1, none⟩ = some b ∧ (put3 w g x y z).cell? ⟨p, 2, none⟩ = some c ∧ (put3 w g x y z).cell? ⟨q, 0, none⟩ = some d ∧ (put3 w g x y z).cell? ⟨q, 1, none⟩ = some e ∧ (put3 w g x y z).cell? ⟨q, 2, none⟩ = some f := by
  obtain ⟨h1, h2, h3, h4, h5, h6⟩ := h
  have e1 : (put3 w g x y z).heap[p]? = w.heap[p]? := by
    unfold put3; rw [Below.heap_setCell _ _ _ _ hp, Below.heap_setCell _ _ _ _ hp, Below.heap_setCell _ _ _ _ hp]
  have e2 : (put3 w g x y z).heap[q]? = w.heap[q]? := by
    unfold put3; rw [Below.heap_setCell _ _ _ _ hq, Below.heap_setCell _ _ _ _ hq, Below.heap_setCell _ _ _ _ hq]
  unfold World.cell? at *
  simp only [e1, e2]
  exact ⟨h1, h2, h3, h4, h5, h6⟩
theorem wd_two63 : wd 9223372036854775808 = [0, 2147483648] := by
  rw [wd_pos (by decide), show (9223372036854775808 : Nat) % 4294967296 = 0 from rfl, show (9223372036854775808 : Nat) / 4294967296 = 2147483648 from rfl, wd_one (by decide) (by decide)]
theorem wd_small {n : Nat} (h : n ≤ 9223372036854775808) : (wd n).length ≤ 2 := wd_length_of_lt (Nat.lt_of_le_of_lt h (by decide))
set_option maxRecDepth 100000 in
set_option maxHeartbeats 800000 in
theorem size_any (n : Int) (w : World) (h0 : -9223372036854775808 ≤ n) (h1 : n < 9223372036854775808) :
    Calls Tryd.prog 50 #[.int .i64 n] w (RetN w n.natAbs) := by
  by_cases h : n = -9223372036854775808
  · subst h
    go_enter Tryd.func50, Tryd.ntmps50
    go_wp2_with fail
    go_ret
    refine ⟨_, rfl, (Below.refl _ _).alloc (Nat.le_refl _) _, ?_⟩
    rw [show (-9223372036854775808 : Int).natAbs = 9223372036854775808 from rfl, wd_two63]
    exact num_lit w 78 _ [0, 2147483648] 2 (U32.cons (by decide) (U32.cons (by decide) U32.nil)) rfl (by simp) rfl
  · have f1 : (n == -9223372036854775808) = false := by rw [beq_eq_false_iff_ne]; exact h
    have hof := of_any (max n (-n)) w (by omega) (by omega)
    rw [show (max n (-n)).toNat = n.natAbs by omega] at hof
    have HO := Lib.hid hof
    have hwr : wrap64 (-n) = -n := by unfold wrap64; omega
    clear hof h
    go_enter Tryd.func50, Tryd.ntmps50
    go_wp2_with fail
    (with_reducible refine HO.out.mono ?_); rintro e w1 ⟨v1, l1, rfl, hb1, hn1, rfl⟩
    go_wp2_with fail
    go_ret
    exact ⟨_, rfl, hb1, hn1⟩
theorem sgn_int (n : Int) : sgn (decide (n < 0)) n.natAbs = n := by
  unfold sgn
  by_cases h : n < 0
  · rw [decide_eq_true h, if_pos rfl]; omega
  · rw [decide_eq_false h, if_neg (by decide)]; omega
theorem q_int (n : Int) : qm (decide (n < 0)) n.natAbs 1 = (n : Rat) := by rw [qm_one, sgn_int]
theorem q_ints (n d : Int) : qm (!(decide (n < 0) == decide (d < 0))) n.natAbs d.natAbs = (n : Rat) / (d : Rat) := by
  rw [show (!(decide (n < 0) == decide (d < 0))) = (decide (n < 0) != decide (d < 0)) from rfl, qm_eq_div]
  by_cases h : d = 0
  · subst h
    rw [show (0 : Int).natAbs = 0 from rfl, show ((0 : Nat) : Rat) = 0 from rfl, show ((0 : Int) : Rat) = 0 from rfl]; grind
  · have e : (d : Rat) = ((sgn (decide (d < 0)) d.natAbs : Int) : Rat) := by rw [sgn_int]
    have e2 : ((sgn (decide (n < 0) != decide (d < 0)) n.natAbs : Int) : Rat) * (d : Rat) = (n : Rat) * ((d.natAbs : Nat) : Rat) := by
      rw [← Rat.intCast_natCast, ← Rat.intCast_mul, ← Rat.intCast_mul]
      congr 1
      have st : ∀ m : Nat, sgn true m = -(m : Int) := fun _ => rfl
      have sf : ∀ m : Nat, sgn false m = (m : Int) := fun _ => rfl
      by_cases h1 : n < 0 <;> by_cases h2 : d < 0
      · rw [decide_eq_true h1, decide_eq_true h2, show (true != true) = false from rfl, sf, show ((d.natAbs : Nat) : Int) = -d by omega, show ((n.natAbs : Nat) : Int) = -n by omega]; simp [Int.neg_mul, Int.mul_neg]
      · rw [decide_eq_true h1, decide_eq_false h2, show (true != false) = true from rfl, st, show ((d.natAbs : Nat) : Int) = d by omega, show ((n.natAbs : Nat) : Int) = -n by omega]; simp
      · rw [decide_eq_false h1, decide_eq_true h2, show (false != true) = true from rfl, st, show ((d.natAbs : Nat) : Int) = -d by omega, show ((n.natAbs : Nat) : Int) = n by omega]; simp [Int.neg_mul, Int.mul_neg]
      · rw [decide_eq_false h1, decide_eq_false h2, show (false != false) = false from rfl, sf, show ((d.natAbs : Nat) : Int) = d by omega, show ((n.natAbs : Nat) : Int) = n by omega]
    have d1 : (d : Rat) ≠ 0 := fun e => h (Rat.intCast_eq_zero_iff.1 e)
    have d2 : ((d.natAbs : Nat) : Rat) ≠ 0 := fun e => by have := Rat.natCast_eq_zero_iff.1 e; omega
    grind

set_option maxRecDepth 100000 in
set_option maxHeartbeats 3200000 in
theorem ofq_any (n : Int) (w : World)  (h0 : -9223372036854775808 ≤ n) (h1 : n < 9223372036854775808) :
    Calls Tryd.prog 27 #[.int .i64 n] w (RetR w (n : Rat)) := by
  have hb0 := ((Below.refl w.heap.size w).alloc (by first | (simp; done) | (simp; omega)) (.cells #[.bool false, .slice none 0 0, .slice none 0 0] 24))
  have hxR := nest1_0 w (.cells #[.bool false, .slice none 0 0, .slice none 0 0] 24)
  obtain ⟨w0, hw0⟩ : ∃ w0, w0 = (w.alloc (.cells #[.bool false, .slice none 0 0, .slice none 0 0] 24)) := ⟨_, rfl⟩
  rw [← hw0] at hb0 hxR
  have HB0 := Lib.hid hb0; have HW0 := Lib.hid hw0
  have BXR := Lib.hid hxR
  clear hb0 hw0 hxR
  have L1 : (wd (n.natAbs)).length ≤ 2 := by exact wd_small (by omega)
  have L2 : (wd (1)).length ≤ 1 := by rw [wd_one_len]; exact Nat.le_refl _
  have BD := Lib.hid (And.intro h0 h1)
  go_enter Tryd.func27, Tryd.ntmps27
  have hs := size_any n w0 BD.out.1 BD.out.2
  have HS := Lib.hid hs; clear hs
  go_wp2_with fail
  rw [← HW0.out]
  (with_reducible refine HS.out.mono ?_); rintro e w1 ⟨v1, rfl, hb1, hn1⟩
  clear HS
  have HB1 := Lib.hid (HB0.out.step hb1)
  have BXR := Lib.hid (heap_below BXR.out hb1)
  have N := Lib.hid hn1; clear hn1
  clear hb1
  have hs := one_any w1
  have HS := Lib.hid hs; clear hs
  go_wp2_with fail
  (with_reducible refine HS.out.mono ?_); rintro e w2 ⟨v2, rfl, hb2, hn2⟩
  clear HS
  have HB2 := Lib.hid (HB1.out.step hb2)
  have N := Lib.hid (N.out.below hb2)
  have BXR := Lib.hid (heap_below BXR.out hb2)
  have O := Lib.hid hn2; clear hn2
  clear hb2
  have hs := formN (decide (n < 0)) N.out O.out (by omega) (by omega) (by decide)
  rw [q_int] at hs
  have HS := Lib.hid hs; clear hs
  go_wp2_with fail
  (with_reducible refine HS.out.mono ?_); rintro e w3 ⟨v3, rfl, hb3, hn3⟩
  clear HS
  have HB3 := Lib.hid (HB2.out.step hb3)
  have N := Lib.hid (N.out.below hb3)
  have O := Lib.hid (O.out.below hb3)
  have BXR := Lib.hid (heap_below BXR.out hb3)
  have Q := Lib.hid hn3; clear hn3
  clear hb3
  obtain ⟨sQ, oQ, nQ, cQ, aQ, mQ, dQ, rfl⟩ := Q.out.shape
  obtain ⟨eR0, eR1, eR2⟩ := row3 BXR.out
  obtain ⟨fR0, fR1, fR2⟩ := froz3 BXR.out
  go_wp2_with fail
  clear eR0 eR1 eR2 fR0 fR1 fR2
  refine ret_rat rfl w.heap.size _ _ _ rfl (put3_heap BXR.out) rfl ?_
  exact ⟨_, rfl, put3_below HB3.out (by omega) _ _ _, isR_put Q.out BXR.out⟩
set_option maxRecDepth 100000 in
set_option maxHeartbeats 3200000 in
theorem make_ok (n : Int) (d : Int) (w : World)  (h0 : -9223372036854775808 ≤ n) (h1 : n < 9223372036854775808) (g0 : -9223372036854775808 ≤ d) (g1 : d < 9223372036854775808) (hd : d ≠ 0) :
    Calls Tryd.prog 49 #[.int .i64 n, .int .i64 d] w (RetRE w ((n : Rat) / (d : Rat)) (errV 0)) := by
  rw [errV_zero]
  have hb0 := ((Below.refl w.heap.size w).alloc (by first | (simp; done) | (simp; omega)) (.cells #[.bool false, .slice none 0 0, .slice none 0 0] 24))
  have hxR := nest1_0 w (.cells #[.bool false, .slice none 0 0, .slice none 0 0] 24)
  obtain ⟨w0, hw0⟩ : ∃ w0, w0 = (w.alloc (.cells #[.bool false, .slice none 0 0, .slice none 0 0] 24)) := ⟨_, rfl⟩
  rw [← hw0] at hb0 hxR
  have HB0 := Lib.hid hb0; have HW0 := Lib.hid hw0
  have BXR := Lib.hid hxR
  clear hb0 hw0 hxR
  have L1 : (wd (n.natAbs)).length ≤ 2 := by exact wd_small (by omega)
  have L2 : (wd (d.natAbs)).length ≤ 2 := by exact wd_small (by omega)
  have f1 : (d == 0) = false := by rw [beq_eq_false_iff_ne]; exact hd
  have hd0 : d.natAbs ≠ 0 := by omega
  have HD0 := Lib.hid hd0; clear hd0 hd
  have BD := Lib.hid (And.intro h0 h1); have BG := Lib.hid (And.intro g0 g1)
  go_enter Tryd.func49, Tryd.ntmps49
  have hs := size_any n w0 BD.out.1 BD.out.2
  have HS := Lib.hid hs; clear hs
  go_wp2_with fail
  rw [← HW0.out]
  (with_reducible refine HS.out.mono ?_); rintro e w1 ⟨v1, rfl, hb1, hn1⟩
  clear HS
  have HB1 := Lib.hid (HB0.out.step hb1)
  have BXR := Lib.hid (heap_below BXR.out hb1)
  have N := Lib.hid hn1; clear hn1
  clear hb1
  have hs := size_any d w1 BG.out.1 BG.out.2
  have HS := Lib.hid hs; clear hs
  go_wp2_with fail
  (with_reducible refine HS.out.mono ?_); rintro e w2 ⟨v2, rfl, hb2, hn2⟩
  clear HS
  have HB2 := Lib.hid (HB1.out.step hb2)
  have N := Lib.hid (N.out.below hb2)
  have BXR := Lib.hid (heap_below BXR.out hb2)
  have D := Lib.hid hn2; clear hn2
  clear hb2
  have hs := formN (!(decide (n < 0) == decide (d < 0))) N.out D.out (by omega) (by omega) HD0.out
  rw [q_ints] at hs
  have HS := Lib.hid hs; clear hs
  go_wp2_with fail
  (with_reducible refine HS.out.mono ?_); rintro e w3 ⟨v3, rfl, hb3, hn3⟩
  clear HS
  have HB3 := Lib.hid (HB2.out.step hb3)
  have N := Lib.hid (N.out.below hb3)
  have D := Lib.hid (D.out.below hb3)
  have BXR := Lib.hid (heap_below BXR.out hb3)
  have Q := Lib.hid hn3; clear hn3
  clear hb3
  obtain ⟨sQ, oQ, nQ, cQ, aQ, mQ, dQ, rfl⟩ := Q.out.shape
  obtain ⟨eR0, eR1, eR2⟩ := row3 BXR.out
  obtain ⟨fR0, fR1, fR2⟩ := froz3 BXR.out
  go_wp2_with fail
  clear eR0 eR1 eR2 fR0 fR1 fR2
  refine ret_rat2 rfl w.heap.size _ _ _ rfl (put3_heap BXR.out) rfl ?_
  exact ⟨_, rfl, put3_below HB3.out (by omega) _ _ _, isR_put Q.out BXR.out⟩
set_option maxRecDepth 100000 in
set_option maxHeartbeats 3200000 in
theorem make_zero (n : Int) (w : World)   :
    Calls Tryd.prog 49 #[.int .i64 n, .int .i64 0] w (RetRE w 0 (errV 8)) := by
  rw [errV_pos (by decide)]
  have hb0 := ((Below.refl w.heap.size w).alloc (by first | (simp; done) | (simp; omega)) (.cells #[.bool false, .slice none 0 0, .slice none 0 0] 24))
  have hxR := nest1_0 w (.cells #[.bool false, .slice none 0 0, .slice none 0 0] 24)
  obtain ⟨w0, hw0⟩ : ∃ w0, w0 = (w.alloc (.cells #[.bool false, .slice none 0 0, .slice none 0 0] 24)) := ⟨_, rfl⟩
  rw [← hw0] at hb0 hxR
  have HB0 := Lib.hid hb0; have HW0 := Lib.hid hw0
  have BXR := Lib.hid hxR
  clear hb0 hw0 hxR
  go_enter Tryd.func49, Tryd.ntmps49
  go_wp2_with fail
  rw [← HW0.out]
  refine ret_rat2 rfl w.heap.size _ _ _ rfl BXR.out rfl ?_
  exact ⟨_, rfl, HB0.out, isR_zero _⟩
theorem make_any (n d : Int) (w : World) (h0 : -9223372036854775808 ≤ n) (h1 : n < 9223372036854775808) (g0 : -9223372036854775808 ≤ d) (g1 : d < 9223372036854775808) :
    Calls Tryd.prog 49 #[.int .i64 n, .int .i64 d] w (RetRE w ((n : Rat) / (d : Rat)) (errV (zc d.natAbs))) := by
  by_cases h : d = 0
  · subst h
    rw [show ((0 : Int) : Rat) = 0 from rfl, show (n : Rat) / 0 = 0 by grind]; exact make_zero n w
  · unfold zc; rw [if_neg (by omega)]; exact make_ok n d w h0 h1 g0 g1 h
set_option maxRecDepth 100000 in
set_option maxHeartbeats 3200000 in
theorem subq_any (vp : Value) (p : Rat) (vq : Value) (q : Rat) (w : World) (hp : RatIs w vp p) (hq : RatIs w vq q)  :
    Calls Tryd.prog 24 #[vp, vq] w (RetR w (p - q)) := by
  obtain ⟨sp, op, np, cp, ap, mp, dp, rfl⟩ := hp.shape
  have hlp := hp.rl
  obtain ⟨sq, oq, nq, cq, aq, mq, dq, rfl⟩ := hq.shape
  have hlq := hq.rl
  have hb0 := ((((Below.refl w.heap.size w).alloc (by first | (simp; done) | (simp; omega)) (.cells #[.bool sp, .slice op np cp, .slice ap mp dp] 24)).alloc (by first | (simp; done) | (simp; omega)) (.cells #[.bool sq, .slice oq nq cq, .slice aq mq dq] 24)).alloc (by first | (simp; done) | (simp; omega)) (.cells #[.bool false, .slice none 0 0, .slice none 0 0] 24))
  have hxp := nest3_0 w (.cells #[.bool sp, .slice op np cp, .slice ap mp dp] 24) (.cells #[.bool sq, .slice oq nq cq, .slice aq mq dq] 24) (.cells #[.bool false, .slice none 0 0, .slice none 0 0] 24)
  have hxq := nest3_1 w (.cells #[.bool sp, .slice op np cp, .slice ap mp dp] 24) (.cells #[.bool sq, .slice oq nq cq, .slice aq mq dq] 24) (.cells #[.bool false, .slice none 0 0, .slice none 0 0] 24)
  have hxR := nest3_2 w (.cells #[.bool sp, .slice op np cp, .slice ap mp dp] 24) (.cells #[.bool sq, .slice oq nq cq, .slice aq mq dq] 24) (.cells #[.bool false, .slice none 0 0, .slice none 0 0] 24)
  have hpp := hp.below hb0
  have hpq := hq.below hb0
  obtain ⟨w0, hw0⟩ : ∃ w0, w0 = (((w.alloc (.cells #[.bool sp, .slice op np cp, .slice ap mp dp] 24)).alloc (.cells #[.bool sq, .slice oq nq cq, .slice aq mq dq] 24)).alloc (.cells #[.bool false, .slice none 0 0, .slice none 0 0] 24)) := ⟨_, rfl⟩
  rw [← hw0] at hb0 hxp hxq hxR hpp hpq
  have HB0 := Lib.hid hb0; have HW0 := Lib.hid hw0
  have BXp := Lib.hid hxp
  have BXq := Lib.hid hxq
  have BXR := Lib.hid hxR
  have Fp := Lib.hid hpp
  have Fq := Lib.hid hpq
  clear hb0 hw0 hxp hxq hxR hpp hp hpq hq
  have hr : rl (-q) ≤ 100000 := by rw [rl_neg]; exact hlq
  have HD := Lib.hid ((Below.refl w0.heap.size w0).drew)
  have hng := neg_any _ q _ (Fq.out.below HD.out)
  have HNG := Lib.hid hng; clear hng
  have had := fun vs w1 (h1 : Below w0.heap.size w0 w1) (hs : IsR w1 vs (-q)) => addq_any _ p vs (-q) w1 (Fp.out.below h1) (hs.is hr)
  rw [← Rat.sub_eq_add_neg] at had
  have HAD := Lib.hid had; clear had
  have ZP := Lib.hid (fun w1 (h1 : Below w0.heap.size w0 w1) => row3 (heap_below BXp.out h1)); have ZQ := Lib.hid (fun w1 (h1 : Below w0.heap.size w0 w1) => row3 (heap_below BXq.out h1)); have ZR := Lib.hid (fun w1 (h1 : Below w0.heap.size w0 w1) => row3 (heap_below BXR.out h1)); have ZF := Lib.hid (fun w1 (h1 : Below w0.heap.size w0 w1) => froz3 (heap_below BXR.out h1))
  go_enter Tryd.func24, Tryd.ntmps24
  go_wp2_with fail
  rw [← HW0.out]
  obtain ⟨zp0, zp1, zp2⟩ := ZP.out _ HD.out; obtain ⟨zq0, zq1, zq2⟩ := ZQ.out _ HD.out
  go_region_held3 (fun wx => wx.cell? ⟨w.heap.size, 0, none⟩ = some (.bool sp) ∧ wx.cell? ⟨w.heap.size, 1, none⟩ = some (.slice op np cp) ∧ wx.cell? ⟨w.heap.size, 2, none⟩ = some (.slice ap mp dp) ∧ wx.cell? ⟨w.heap.size + 1, 0, none⟩ = some (.bool sq) ∧ wx.cell? ⟨w.heap.size + 1, 1, none⟩ = some (.slice oq nq cq) ∧ wx.cell? ⟨w.heap.size + 1, 2, none⟩ = some (.slice aq mq dq)) (first | exact ⟨zp0, zp1, zp2, zq0, zq1, zq2⟩ | exact put6 (by omega) (by omega) ⟨zp0, zp1, zp2, zq0, zq1, zq2⟩) (first
    | (go_at_call 38; (with_reducible refine HNG.out.mono ?_); rintro e w1 ⟨v1, rfl, hb1, hn1⟩; (have HB1 := Lib.hid (HD.out.step hb1)); (have HN1 := Lib.hid hn1); clear hb1 hn1; (obtain ⟨zp0, zp1, zp2⟩ := ZP.out _ HB1.out); (obtain ⟨zq0, zq1, zq2⟩ := ZQ.out _ HB1.out))
    | (go_at_call 17; (with_reducible refine (HAD.out _ _ HB1.out HN1.out).mono ?_); rintro e w2 ⟨v2, rfl, hb2, hn2⟩; (have HB2 := Lib.hid (HB1.out.step hb2)); (have HN2 := Lib.hid hn2); clear hb2 hn2; (obtain ⟨t1, t2, t3, t4, t5, t6, t7, rfl⟩ := HN2.out.shape); (obtain ⟨zp0, zp1, zp2⟩ := ZP.out _ HB2.out); (obtain ⟨zq0, zq1, zq2⟩ := ZQ.out _ HB2.out); (obtain ⟨zr0, zr1, zr2⟩ := ZR.out _ HB2.out); (obtain ⟨zf0, zf1, zf2⟩ := ZF.out _ HB2.out)))
  all_goals
    go_wp2_with fail
    have BXR2 := heap_below BXR.out HB2.out
    refine ret_rat rfl (w.heap.size + 2) _ _ _ rfl (put3_heap BXR2) rfl ?_
    exact ⟨_, rfl, put3_below (HB0.out.step HB2.out) (by omega) _ _ _, isR_put HN2.out BXR2⟩
set_option maxRecDepth 100000 in
set_option maxHeartbeats 3200000 in
theorem same_any (vp : Value) (p : Rat) (w : World) (hp : RatIs w vp p)  :
    Calls Tryd.prog 62 #[vp] w (RetR w p) := by
  obtain ⟨sp, op, np, cp, ap, mp, dp, rfl⟩ := hp.shape
  have hlp := hp.rl
  have hb0 := (((Below.refl w.heap.size w).alloc (by first | (simp; done) | (simp; omega)) (.cells #[.bool sp, .slice op np cp, .slice ap mp dp] 24)).alloc (by first | (simp; done) | (simp; omega)) (.cells #[.bool false, .slice none 0 0, .slice none 0 0] 24))
  have hxp := nest2_0 w (.cells #[.bool sp, .slice op np cp, .slice ap mp dp] 24) (.cells #[.bool false, .slice none 0 0, .slice none 0 0] 24)
  have hxR := nest2_1 w (.cells #[.bool sp, .slice op np cp, .slice ap mp dp] 24) (.cells #[.bool false, .slice none 0 0, .slice none 0 0] 24)
  have hpp := hp.below hb0
  obtain ⟨w0, hw0⟩ : ∃ w0, w0 = ((w.alloc (.cells #[.bool sp, .slice op np cp, .slice ap mp dp] 24)).alloc (.cells #[.bool false, .slice none 0 0, .slice none 0 0] 24)) := ⟨_, rfl⟩
  rw [← hw0] at hb0 hxp hxR hpp
  have HB0 := Lib.hid hb0; have HW0 := Lib.hid hw0
  have BXp := Lib.hid hxp
  have BXR := Lib.hid hxR
  have Fp := Lib.hid hpp
  clear hb0 hw0 hxp hxR hpp hp
  have l1 := rl_n p; have l2 := rl_d p
  go_enter Tryd.func62, Tryd.ntmps62
  have hs := parts_any _ p w0 Fp.out
  have HS := Lib.hid hs; clear hs
  go_wp2_with fail
  rw [← HW0.out]
  (with_reducible refine HS.out.mono ?_); rintro e w1 ⟨v1, u1, rfl, hb1, hn1, hm1⟩
  clear HS
  have HB1 := Lib.hid (HB0.out.step hb1)
  have Fp := Lib.hid (Fp.out.below hb1)
  have BXp := Lib.hid (heap_below BXp.out hb1)
  have BXR := Lib.hid (heap_below BXR.out hb1)
  have N := Lib.hid hn1
  have D := Lib.hid hm1
  clear hn1 hm1
  clear hb1
  have hs := formN (ng p) N.out D.out (by omega) (by omega) p.den_nz
  rw [qm_self] at hs
  have HS := Lib.hid hs; clear hs
  go_wp2_with fail
  (with_reducible refine HS.out.mono ?_); rintro e w2 ⟨v2, rfl, hb2, hn2⟩
  clear HS
  have HB2 := Lib.hid (HB1.out.step hb2)
  have Fp := Lib.hid (Fp.out.below hb2)
  have N := Lib.hid (N.out.below hb2)
  have D := Lib.hid (D.out.below hb2)
  have BXp := Lib.hid (heap_below BXp.out hb2)
  have BXR := Lib.hid (heap_below BXR.out hb2)
  have Q := Lib.hid hn2; clear hn2
  clear hb2
  obtain ⟨sQ, oQ, nQ, cQ, aQ, mQ, dQ, rfl⟩ := Q.out.shape
  obtain ⟨eR0, eR1, eR2⟩ := row3 BXR.out
  obtain ⟨fR0, fR1, fR2⟩ := froz3 BXR.out
  go_wp2_with fail
  clear eR0 eR1 eR2 fR0 fR1 fR2
  refine ret_rat rfl (w.heap.size + 1) _ _ _ rfl (put3_heap BXR.out) rfl ?_
  exact ⟨_, rfl, put3_below HB2.out (by omega) _ _ _, isR_put Q.out BXR.out⟩
set_option maxRecDepth 100000 in
set_option maxHeartbeats 3200000 in
theorem sign_any (vp : Value) (p : Rat) (w : World) (hp : RatIs w vp p)  :
    Calls Tryd.prog 40 #[vp] w (RetV w (.int .i64 (sg p))) := by
  obtain ⟨sp, op, np, cp, ap, mp, dp, rfl⟩ := hp.shape
  have hlp := hp.rl
  rw [sg_eq]
  have hb0 := ((Below.refl w.heap.size w).alloc (by first | (simp; done) | (simp; omega)) (.cells #[.bool sp, .slice op np cp, .slice ap mp dp] 24))
  have hxp := nest1_0 w (.cells #[.bool sp, .slice op np cp, .slice ap mp dp] 24)
  have hpp := hp.below hb0
  obtain ⟨w0, hw0⟩ : ∃ w0, w0 = (w.alloc (.cells #[.bool sp, .slice op np cp, .slice ap mp dp] 24)) := ⟨_, rfl⟩
  rw [← hw0] at hb0 hxp hpp
  have HB0 := Lib.hid hb0; have HW0 := Lib.hid hw0
  have BXp := Lib.hid hxp
  have Fp := Lib.hid hpp
  clear hb0 hw0 hxp hpp hp
  by_cases h0 : nn p = 0
  · rw [if_pos h0]
    have H0 := Lib.hid h0; clear h0
    go_enter Tryd.func40, Tryd.ntmps40
    have hs := parts_any _ p w0 Fp.out
    have HS := Lib.hid hs; clear hs
    go_wp2_with fail
    rw [← HW0.out]
    (with_reducible refine HS.out.mono ?_); rintro e w1 ⟨v1, u1, rfl, hb1, hn1, hm1⟩
    clear HS
    rw [H0.out, wd_zero] at hn1
    obtain ⟨no, nc, rfl, _, _, _⟩ := hn1.shape
    have HB1 := Lib.hid (HB0.out.step hb1)
    have Fp := Lib.hid (Fp.out.below hb1)
    have BXp := Lib.hid (heap_below BXp.out hb1)
    have N := Lib.hid hn1
    have D := Lib.hid hm1
    clear hn1 hm1
    clear hb1
    go_wp2_with fail
    go_ret
    exact ⟨rfl, HB1.out⟩
  · rw [if_neg h0]
    have hz : (((wd (nn p)).length : Int) == 0) = false := by rw [beq_eq_false_iff_ne]; intro h; exact wd_ne h0 (List.eq_nil_of_length_eq_zero (by omega))
    obtain ⟨L, hL⟩ : ∃ L, L = (wd (nn p)).length := ⟨_, rfl⟩
    rw [← hL] at hz
    have HL := Lib.hid hL; clear hL h0
    obtain ⟨x, hx⟩ : ∃ x, x = ng p := ⟨_, rfl⟩
    rw [← hx]
    have HX := Lib.hid hx; clear hx
    cases x
    · go_enter Tryd.func40, Tryd.ntmps40
      have hs := parts_any _ p w0 Fp.out
      have HS := Lib.hid hs; clear hs
      go_wp2_with fail
      rw [← HW0.out]
      (with_reducible refine HS.out.mono ?_); rintro e w1 ⟨v1, u1, rfl, hb1, hn1, hm1⟩
      clear HS
      rw [← HX.out]
      obtain ⟨no, nc, rfl, _, _, _⟩ := hn1.shape
      rw [← HL.out]
      have HB1 := Lib.hid (HB0.out.step hb1)
      have Fp := Lib.hid (Fp.out.below hb1)
      have BXp := Lib.hid (heap_below BXp.out hb1)
      have N := Lib.hid hn1
      have D := Lib.hid hm1
      clear hn1 hm1
      clear hb1
      go_wp2_with fail
      go_ret
      exact ⟨rfl, HB1.out⟩
    · go_enter Tryd.func40, Tryd.ntmps40
      have hs := parts_any _ p w0 Fp.out
      have HS := Lib.hid hs; clear hs
      go_wp2_with fail
      rw [← HW0.out]
      (with_reducible refine HS.out.mono ?_); rintro e w1 ⟨v1, u1, rfl, hb1, hn1, hm1⟩
      clear HS
      rw [← HX.out]
      obtain ⟨no, nc, rfl, _, _, _⟩ := hn1.shape
      rw [← HL.out]
      have HB1 := Lib.hid (HB0.out.step hb1)
      have Fp := Lib.hid (Fp.out.below hb1)
      have BXp := Lib.hid (heap_below BXp.out hb1)
      have N := Lib.hid hn1
      have D := Lib.hid hm1
      clear hn1 hm1
      clear hb1
      go_wp2_with fail
      go_ret
      exact ⟨rfl, HB1.out⟩
set_option maxRecDepth 100000 in
set_option maxHeartbeats 3200000 in
theorem cmpq_any (vp : Value) (p : Rat) (vq : Value) (q : Rat) (w : World) (hp : RatIs w vp p) (hq : RatIs w vq q) (hlp2 : rl p ≤ 40000) (hlq2 : rl q ≤ 40000)  :
    Calls Tryd.prog 15 #[vp, vq] w (RetV w (.int .i64 (cq p q))) := by
  obtain ⟨sp, op, np, cp, ap, mp, dp, rfl⟩ := hp.shape
  have hlp := hp.rl
  obtain ⟨sq, oq, nq, cq, aq, mq, dq, rfl⟩ := hq.shape
  have hlq := hq.rl
  have hb0 := (((Below.refl w.heap.size w).alloc (by first | (simp; done) | (simp; omega)) (.cells #[.bool sp, .slice op np cp, .slice ap mp dp] 24)).alloc (by first | (simp; done) | (simp; omega)) (.cells #[.bool sq, .slice oq nq cq, .slice aq mq dq] 24))
  have hxp := nest2_0 w (.cells #[.bool sp, .slice op np cp, .slice ap mp dp] 24) (.cells #[.bool sq, .slice oq nq cq, .slice aq mq dq] 24)
  have hxq := nest2_1 w (.cells #[.bool sp, .slice op np cp, .slice ap mp dp] 24) (.cells #[.bool sq, .slice oq nq cq, .slice aq mq dq] 24)
  have hpp := hp.below hb0
  have hpq := hq.below hb0
  obtain ⟨w0, hw0⟩ : ∃ w0, w0 = ((w.alloc (.cells #[.bool sp, .slice op np cp, .slice ap mp dp] 24)).alloc (.cells #[.bool sq, .slice oq nq cq, .slice aq mq dq] 24)) := ⟨_, rfl⟩
  rw [← hw0] at hb0 hxp hxq hpp hpq
  have HB0 := Lib.hid hb0; have HW0 := Lib.hid hw0
  have BXp := Lib.hid hxp
  have BXq := Lib.hid hxq
  have Fp := Lib.hid hpp
  have Fq := Lib.hid hpq
  clear hb0 hw0 hxp hxq hpp hp hpq hq
  have hr := rl_sub p q
  have hlp2 : rl p ≤ 40000 := hlp2; have hlq2 : rl q ≤ 40000 := hlq2
  go_enter Tryd.func15, Tryd.ntmps15
  have hs := subq_any _ p _ q w0 Fp.out Fq.out
  have HS := Lib.hid hs; clear hs
  go_wp2_with fail
  rw [← HW0.out]
  (with_reducible refine HS.out.mono ?_); rintro e w1 ⟨v1, rfl, hb1, hn1⟩
  clear HS
  have HB1 := Lib.hid (HB0.out.step hb1)
  have Fp := Lib.hid (Fp.out.below hb1)
  have Fq := Lib.hid (Fq.out.below hb1)
  have BXp := Lib.hid (heap_below BXp.out hb1)
  have BXq := Lib.hid (heap_below BXq.out hb1)
  have S := Lib.hid hn1; clear hn1
  clear hb1
  have SI := Lib.hid (S.out.is (by omega))
  obtain ⟨sS, oS, nS, cS, aS, mS, dS, rfl⟩ := S.out.shape
  have hs := sign_any _ (p - q) w1 SI.out
  rw [sg_sub] at hs
  have HS := Lib.hid hs; clear hs
  go_wp2_with fail
  (with_reducible refine HS.out.mono ?_); rintro e w2 ⟨rfl, hb2⟩
  clear HS
  have HB2 := Lib.hid (HB1.out.step hb2)
  have Fp := Lib.hid (Fp.out.below hb2)
  have Fq := Lib.hid (Fq.out.below hb2)
  have S := Lib.hid (S.out.below hb2)
  have SI := Lib.hid (SI.out.below hb2)
  have BXp := Lib.hid (heap_below BXp.out hb2)
  have BXq := Lib.hid (heap_below BXq.out hb2)
  clear hb2
  go_wp2_with fail
  go_ret
  exact ⟨rfl, HB2.out⟩
end Go.Proofs.YtaefimegiobkmaaDoor
/-
  rational.Div, Floor, Round, Power: what they hand back.
  Conditions: each theorem's own.
-/
namespace Go.Proofs.YtaefimegiobkmaaDoor
open Go.RowKit Go.ChangeShapes Go.WideShapes

/-- the number of the error of a division -/
def dc (q : Rat) : Nat := if q = 0 then 8 else 0
theorem div_zero_rat (p : Rat) : p / 0 = 0 := by grind
set_option maxRecDepth 100000 in
set_option maxHeartbeats 3200000 in
theorem div_ok (vp : Value) (p : Rat) (vq : Value) (q : Rat) (w : World) (hp : RatIs w vp p) (hq : RatIs w vq q) (h0 : q ≠ 0) :
    Calls Tryd.prog 29 #[vp, vq] w (RetRE w (p / q) (errV 0)) := by
  obtain ⟨sp, op, np, cp, ap, mp, dp, rfl⟩ := hp.shape
  have hlp := hp.rl
  obtain ⟨sq, oq, nq, cq, aq, mq, dq, rfl⟩ := hq.shape
  have hlq := hq.rl
  rw [errV_zero]
  have hb0 := ((((Below.refl w.heap.size w).alloc (by first | (simp; done) | (simp; omega)) (.cells #[.bool sp, .slice op np cp, .slice ap mp dp] 24)).alloc (by first | (simp; done) | (simp; omega)) (.cells #[.bool sq, .slice oq nq cq, .slice aq mq dq] 24)).alloc (by first | (simp; done) | (simp; omega)) (.cells #[.bool false, .slice none 0 0, .slice none 0 0] 24))
  have hxp := nest3_0 w (.cells #[.bool sp, .slice op np cp, .slice ap mp dp] 24) (.cells #[.bool sq, .slice oq nq cq, .slice aq mq dq] 24) (.cells #[.bool false, .slice none 0 0, .slice none 0 0] 24)
  have hxq := nest3_1 w (.cells #[.bool sp, .slice op np cp, .slice ap mp dp] 24) (.cells #[.bool sq, .slice oq nq cq, .slice aq mq dq] 24) (.cells #[.bool false, .slice none 0 0, .slice none 0 0] 24)
  have hxR := nest3_2 w (.cells #[.bool sp, .slice op np cp, .slice ap mp dp] 24) (.cells #[.bool sq, .slice oq nq cq, .slice aq mq dq] 24) (.cells #[.bool false, .slice none 0 0, .slice none 0 0] 24)
  have hpp := hp.below hb0
  have hpq := hq.below hb0
  obtain ⟨w0, hw0⟩ : ∃ w0, w0 = (((w.alloc (.cells #[.bool sp, .slice op np cp, .slice ap mp dp] 24)).alloc (.cells #[.bool sq, .slice oq nq cq, .slice aq mq dq] 24)).alloc (.cells #[.bool false, .slice none 0 0, .slice none 0 0] 24)) := ⟨_, rfl⟩
  rw [← hw0] at hb0 hxp hxq hxR hpp hpq
  have HB0 := Lib.hid hb0; have HW0 := Lib.hid hw0
  have BXp := Lib.hid hxp
  have BXq := Lib.hid hxq
  have BXR := Lib.hid hxR
  have Fp := Lib.hid hpp
  have Fq := Lib.hid hpq
  clear hb0 hw0 hxp hxq hxR hpp hp hpq hq
  have l1 := rl_n p; have l2 := rl_d p; have l3 := rl_n q; have l4 := rl_d q
  have L1 : (wd (nn p * q.den)).length ≤ 200000 := by have := wd_mul_len (nn p) q.den; omega
  have L2 : (wd (p.den * nn q)).length ≤ 200000 := by have := wd_mul_len p.den (nn q); omega
  have hn0 : nn q ≠ 0 := fun e => h0 (nn_eq_zero.1 e)
  have heq := q_div' p q h0
  have hz : (((wd (nn q)).length : Int) == 0) = false := by rw [beq_eq_false_iff_ne]; intro h; exact wd_ne hn0 (List.eq_nil_of_length_eq_zero (by omega))
  obtain ⟨L, hL⟩ : ∃ L, L = (wd (nn q)).length := ⟨_, rfl⟩
  rw [← hL] at hz
  have HL := Lib.hid hL; have HEQ := Lib.hid heq; have HN0 := Lib.hid hn0; clear hL heq hn0 h0
  go_enter Tryd.func29, Tryd.ntmps29
  have hs := parts_any _ p w0 Fp.out
  have HS := Lib.hid hs; clear hs
  go_wp2_with fail
  rw [← HW0.out]
  (with_reducible refine HS.out.mono ?_); rintro e w1 ⟨v1, u1, rfl, hb1, hn1, hm1⟩
  clear HS
  have HB1 := Lib.hid (HB0.out.step hb1)
  have Fp := Lib.hid (Fp.out.below hb1)
  have Fq := Lib.hid (Fq.out.below hb1)
  have BXp := Lib.hid (heap_below BXp.out hb1)
  have BXq := Lib.hid (heap_below BXq.out hb1)
  have BXR := Lib.hid (heap_below BXR.out hb1)
  have N := Lib.hid hn1
  have D := Lib.hid hm1
  clear hn1 hm1
  clear hb1
  have hs := parts_any _ q w1 Fq.out
  have HS := Lib.hid hs; clear hs
  obtain ⟨eq0, eq1, eq2⟩ := row3 BXq.out
  go_wp2_with fail
  clear eq0 eq1 eq2
  (with_reducible refine HS.out.mono ?_); rintro e w2 ⟨v2, u2, rfl, hb2, hn2, hm2⟩
  clear HS
  obtain ⟨mo, mc, rfl, _, _, _⟩ := hn2.shape
  rw [← HL.out] at hn2 ⊢
  have HB2 := Lib.hid (HB1.out.step hb2)
  have Fp := Lib.hid (Fp.out.below hb2)
  have Fq := Lib.hid (Fq.out.below hb2)
  have N := Lib.hid (N.out.below hb2)
  have D := Lib.hid (D.out.below hb2)
  have BXp := Lib.hid (heap_below BXp.out hb2)
  have BXq := Lib.hid (heap_below BXq.out hb2)
  have BXR := Lib.hid (heap_below BXR.out hb2)
  have M := Lib.hid hn2
  have E := Lib.hid hm2
  clear hn2 hm2
  clear hb2
  have hs := mulN N.out E.out (by omega) (by omega)
  have HS := Lib.hid hs; clear hs
  go_wp2_with fail
  (with_reducible refine HS.out.mono ?_); rintro e w3 ⟨v3, rfl, hb3, hn3⟩
  clear HS
  have HB3 := Lib.hid (HB2.out.step hb3)
  have Fp := Lib.hid (Fp.out.below hb3)
  have Fq := Lib.hid (Fq.out.below hb3)
  have N := Lib.hid (N.out.below hb3)
  have D := Lib.hid (D.out.below hb3)
  have M := Lib.hid (M.out.below hb3)
  have E := Lib.hid (E.out.below hb3)
  have BXp := Lib.hid (heap_below BXp.out hb3)
  have BXq := Lib.hid (heap_below BXq.out hb3)
  have BXR := Lib.hid (heap_below BXR.out hb3)
  have X := Lib.hid hn3; clear hn3
  clear hb3
  have hs := mulN D.out M.out (by omega) (by omega)
  have HS := Lib.hid hs; clear hs
  go_wp2_with fail
  (with_reducible refine HS.out.mono ?_); rintro e w4 ⟨v4, rfl, hb4, hn4⟩
  clear HS
  have HB4 := Lib.hid (HB3.out.step hb4)
  have Fp := Lib.hid (Fp.out.below hb4)
  have Fq := Lib.hid (Fq.out.below hb4)
  have N := Lib.hid (N.out.below hb4)
  have D := Lib.hid (D.out.below hb4)
  have M := Lib.hid (M.out.below hb4)
  have E := Lib.hid (E.out.below hb4)
  have X := Lib.hid (X.out.below hb4)
  have BXp := Lib.hid (heap_below BXp.out hb4)
  have BXq := Lib.hid (heap_below BXq.out hb4)
  have BXR := Lib.hid (heap_below BXR.out hb4)
  have Y := Lib.hid hn4; clear hn4
  clear hb4
  have hs := formN (!(ng p == ng q)) X.out Y.out (by omega) (by omega) (den_mul_nz p.den_nz HN0.out)
  rw [HEQ.out] at hs
  have HS := Lib.hid hs; clear hs
  go_wp2_with fail
  (with_reducible refine HS.out.mono ?_); rintro e w5 ⟨v5, rfl, hb5, hn5⟩
  clear HS
  have HB5 := Lib.hid (HB4.out.step hb5)
  have Fp := Lib.hid (Fp.out.below hb5)
  have Fq := Lib.hid (Fq.out.below hb5)
  have N := Lib.hid (N.out.below hb5)
  have D := Lib.hid (D.out.below hb5)
  have M := Lib.hid (M.out.below hb5)
  have E := Lib.hid (E.out.below hb5)
  have X := Lib.hid (X.out.below hb5)
  have Y := Lib.hid (Y.out.below hb5)
  have BXp := Lib.hid (heap_below BXp.out hb5)
  have BXq := Lib.hid (heap_below BXq.out hb5)
  have BXR := Lib.hid (heap_below BXR.out hb5)
  have Q := Lib.hid hn5; clear hn5
  clear hb5
  obtain ⟨sQ, oQ, nQ, cQ, aQ, mQ, dQ, rfl⟩ := Q.out.shape
  obtain ⟨eR0, eR1, eR2⟩ := row3 BXR.out
  obtain ⟨fR0, fR1, fR2⟩ := froz3 BXR.out
  go_wp2_with fail
  clear eR0 eR1 eR2 fR0 fR1 fR2
  refine ret_rat2 rfl (w.heap.size + 2) _ _ _ rfl (put3_heap BXR.out) rfl ?_
  exact ⟨_, rfl, put3_below HB5.out (by omega) _ _ _, isR_put Q.out BXR.out⟩
set_option maxRecDepth 100000 in
set_option maxHeartbeats 3200000 in
theorem div_none (vp : Value) (p : Rat) (vq : Value) (q : Rat) (w : World) (hp : RatIs w vp p) (hq : RatIs w vq q) (h0 : q = 0) :
    Calls Tryd.prog 29 #[vp, vq] w (RetRE w 0 (errV 8)) := by
  obtain ⟨sp, op, np, cp, ap, mp, dp, rfl⟩ := hp.shape
  have hlp := hp.rl
  obtain ⟨sq, oq, nq, cq, aq, mq, dq, rfl⟩ := hq.shape
  have hlq := hq.rl
  rw [errV_pos (by decide)]
  have hb0 := ((((Below.refl w.heap.size w).alloc (by first | (simp; done) | (simp; omega)) (.cells #[.bool sp, .slice op np cp, .slice ap mp dp] 24)).alloc (by first | (simp; done) | (simp; omega)) (.cells #[.bool sq, .slice oq nq cq, .slice aq mq dq] 24)).alloc (by first | (simp; done) | (simp; omega)) (.cells #[.bool false, .slice none 0 0, .slice none 0 0] 24))
  have hxp := nest3_0 w (.cells #[.bool sp, .slice op np cp, .slice ap mp dp] 24) (.cells #[.bool sq, .slice oq nq cq, .slice aq mq dq] 24) (.cells #[.bool false, .slice none 0 0, .slice none 0 0] 24)
  have hxq := nest3_1 w (.cells #[.bool sp, .slice op np cp, .slice ap mp dp] 24) (.cells #[.bool sq, .slice oq nq cq, .slice aq mq dq] 24) (.cells #[.bool false, .slice none 0 0, .slice none 0 0] 24)
  have hxR := nest3_2 w (.cells #[.bool sp, .slice op np cp, .slice ap mp dp] 24) (.cells #[.bool sq, .slice oq nq cq, .slice aq mq dq] 24) (.cells #[.bool false, .slice none 0 0, .slice none 0 0] 24)
  have hpp := hp.below hb0
  have hpq := hq.below hb0
  obtain ⟨w0, hw0⟩ : ∃ w0, w0 = (((w.alloc (.cells #[.bool sp, .slice op np cp, .slice ap mp dp] 24)).alloc (.cells #[.bool sq, .slice oq nq cq, .slice aq mq dq] 24)).alloc (.cells #[.bool false, .slice none 0 0, .slice none 0 0] 24)) := ⟨_, rfl⟩
  rw [← hw0] at hb0 hxp hxq hxR hpp hpq
  have HB0 := Lib.hid hb0; have HW0 := Lib.hid hw0
  have BXp := Lib.hid hxp
  have BXq := Lib.hid hxq
  have BXR := Lib.hid hxR
  have Fp := Lib.hid hpp
  have Fq := Lib.hid hpq
  clear hb0 hw0 hxp hxq hxR hpp hp hpq hq
  have H0 := Lib.hid h0; clear h0
  go_enter Tryd.func29, Tryd.ntmps29
  have hs := parts_any _ p w0 Fp.out
  have HS := Lib.hid hs; clear hs
  go_wp2_with fail
  rw [← HW0.out]
  (with_reducible refine HS.out.mono ?_); rintro e w1 ⟨v1, u1, rfl, hb1, hn1, hm1⟩
  clear HS
  have HB1 := Lib.hid (HB0.out.step hb1)
  have Fp := Lib.hid (Fp.out.below hb1)
  have Fq := Lib.hid (Fq.out.below hb1)
  have BXp := Lib.hid (heap_below BXp.out hb1)
  have BXq := Lib.hid (heap_below BXq.out hb1)
  have BXR := Lib.hid (heap_below BXR.out hb1)
  have N := Lib.hid hn1
  have D := Lib.hid hm1
  clear hn1 hm1
  clear hb1
  have hs := parts_any _ q w1 Fq.out
  have HS := Lib.hid hs; clear hs
  obtain ⟨eq0, eq1, eq2⟩ := row3 BXq.out
  go_wp2_with fail
  clear eq0 eq1 eq2
  (with_reducible refine HS.out.mono ?_); rintro e w2 ⟨v2, u2, rfl, hb2, hn2, hm2⟩
  clear HS
  rw [H0.out, nn_zero, wd_zero] at hn2
  obtain ⟨mo, mc, rfl, _, _, _⟩ := hn2.shape
  rw [List.length_nil] at hn2 ⊢
  have HB2 := Lib.hid (HB1.out.step hb2)
  have Fp := Lib.hid (Fp.out.below hb2)
  have Fq := Lib.hid (Fq.out.below hb2)
  have N := Lib.hid (N.out.below hb2)
  have D := Lib.hid (D.out.below hb2)
  have BXp := Lib.hid (heap_below BXp.out hb2)
  have BXq := Lib.hid (heap_below BXq.out hb2)
  have BXR := Lib.hid (heap_below BXR.out hb2)
  have M := Lib.hid hn2
  have E := Lib.hid hm2
  clear hn2 hm2
  clear hb2
  obtain ⟨eR0, eR1, eR2⟩ := row3 BXR.out
  obtain ⟨fR0, fR1, fR2⟩ := froz3 BXR.out
  go_wp2_with fail
  clear eR0 eR1 eR2 fR0 fR1 fR2
  refine ret_rat2 rfl (w.heap.size + 2) _ _ _ rfl (put3_heap BXR.out) rfl ?_
  exact ⟨_, rfl, put3_below HB2.out (by omega) _ _ _, isR_zero _⟩
theorem divq_any (vp : Value) (p : Rat) (vq : Value) (q : Rat) (w : World) (hp : RatIs w vp p) (hq : RatIs w vq q) :
    Calls Tryd.prog 29 #[vp, vq] w (RetRE w (p / q) (errV (dc q))) := by
  unfold dc
  by_cases h : q = 0
  · rw [if_pos h, h, div_zero_rat]; rw [h] at hq; exact div_none vp p vq 0 w hp hq rfl
  · rw [if_neg h]; exact div_ok vp p vq q w hp hq h
theorem rl_small {n : Int} (h0 : -9223372036854775808 ≤ n) (h1 : n < 9223372036854775808) : rl (n : Rat) ≤ 2 := by
  rw [rl_int]; have := wd_small (n := n.natAbs) (by omega); omega
end Go.Proofs.YtaefimegiobkmaaDoor
/-
  Statements of open order over fractions: the facts that operations leave.
  Conditions: each theorem's own.
-/
namespace Go.Proofs.YtaefimegiobkmaaDoor
open Go.RowKit Go.ChangeShapes Go.WideShapes

def KIs (q : Rat) : Value → World → Prop := fun v w => IsR w v q
theorem kIs (q : Rat) : MonoF (KIs q) := fun _ _ _ h hb => IsR.below h hb
theorem below_lt {w1 : World} {g : Nat} {o : Obj} (h : w1.heap[g]? = some o) : g < w1.heap.size := (Array.getElem?_eq_some_iff.1 h).1
/-! what a store of a fraction into a variable keeps -/
section
variable {w w' : World} {g : Nat} {x y z v : Value} {s s' : Bool} {o p : Option Addr} {n c m d : Nat} {T : TypeId} {q : Rat} {a b : List Nat}
end
end Go.Proofs.YtaefimegiobkmaaDoor
/-
  Intervals in memory: what a value reads as, what a call hands back; six cells side by side.
  Conditions: none beyond each theorem's own.
-/
namespace Go.Proofs.YtaefimegiobkmaaDoor
open Go.RowKit Go.ChangeShapes Go.WideShapes

/-- the value reads as two fractions with these fields -/
def SpV (w : World) (v : Value) (s : Bool) (a b : List Nat) (t : Bool) (c d : List Nat) : Prop :=
  ∃ x0 x1 x2 x3 x4 x5, v = .agg #[x0, x1, x2, x3, x4, x5] ∧ RatV w (.agg #[x0, x1, x2]) s a b ∧ RatV w (.agg #[x3, x4, x5]) t c d
/-- the interval as which the fields count -/
def sq (s : Bool) (a b : List Nat) (t : Bool) (c d : List Nat) : Rat × Rat :=
  if Vld s a b ∧ Vld t c d ∧ rq s a b ≤ rq t c d then (rq s a b, rq t c d) else (0, 0)
/-- the value reads as the valid form of the interval -/
def IsSp (w : World) (v : Value) (S : Rat × Rat) : Prop :=
  ∃ x0 x1 x2 x3 x4 x5, v = .agg #[x0, x1, x2, x3, x4, x5] ∧ IsR w (.agg #[x0, x1, x2]) S.1 ∧ IsR w (.agg #[x3, x4, x5]) S.2
/-- the value reads as an interval of any fields that counts as S, its words not too many -/
def SpIs (w : World) (v : Value) (S : Rat × Rat) : Prop :=
  ∃ s a b t c d, SpV w v s a b t c d ∧ sq s a b t c d = S ∧ a.length ≤ 40000 ∧ b.length ≤ 40000 ∧ c.length ≤ 40000 ∧ d.length ≤ 40000
theorem SpV.below {w w' : World} {v : Value} {s t : Bool} {a b c d : List Nat} (h : SpV w v s a b t c d) (hb : Below w.heap.size w w') : SpV w' v s a b t c d := by
  obtain ⟨x0, x1, x2, x3, x4, x5, e, h1, h2⟩ := h
  exact ⟨x0, x1, x2, x3, x4, x5, e, h1.below hb, h2.below hb⟩
theorem IsSp.below {w w' : World} {v : Value} {S : Rat × Rat} (h : IsSp w v S) (hb : Below w.heap.size w w') : IsSp w' v S := by
  obtain ⟨x0, x1, x2, x3, x4, x5, e, h1, h2⟩ := h
  exact ⟨x0, x1, x2, x3, x4, x5, e, h1.below hb, h2.below hb⟩
theorem SpIs.below {w w' : World} {v : Value} {S : Rat × Rat} (h : SpIs w v S) (hb : Below w.heap.size w w') : SpIs w' v S := by
  obtain ⟨s, a, b, t, c, d, h1, h2⟩ := h
  exact ⟨s, a, b, t, c, d, h1.below hb, h2⟩
theorem sq_ok (s : Bool) (a b : List Nat) (t : Bool) (c d : List Nat) : (sq s a b t c d).1 ≤ (sq s a b t c d).2 := by
  unfold sq; split
  · rename_i h; exact h.2.2
  · exact Rat.le_refl
theorem SpIs.ok {w : World} {v : Value} {S : Rat × Rat} (h : SpIs w v S) : S.1 ≤ S.2 := by
  obtain ⟨s, a, b, t, c, d, h1, h2, _⟩ := h
  rw [← h2]; exact sq_ok _ _ _ _ _ _
theorem IsSp.is {w : World} {v : Value} {S : Rat × Rat} (h : IsSp w v S) (hle : S.1 ≤ S.2) (l1 : rl S.1 ≤ 40000) (l2 : rl S.2 ≤ 40000) : SpIs w v S := by
  obtain ⟨x0, x1, x2, x3, x4, x5, e, h1, h2⟩ := h
  refine ⟨_, _, _, _, _, _, ⟨x0, x1, x2, x3, x4, x5, e, h1, h2⟩, ?_, Nat.le_trans (rl_n _) l1, Nat.le_trans (dn_len _) l1, Nat.le_trans (rl_n _) l2, Nat.le_trans (dn_len _) l2⟩
  obtain ⟨v1, e1⟩ := vld_self S.1
  obtain ⟨v2, e2⟩ := vld_self S.2
  unfold sq
  rw [e1, e2, if_pos ⟨v1, v2, hle⟩]
theorem SpV.lt {w : World} {v : Value} {s t : Bool} {a b c d : List Nat} (h : SpV w v s a b t c d) : (U32 a ∧ U32 b) ∧ U32 c ∧ U32 d := by
  obtain ⟨x0, x1, x2, x3, x4, x5, e, h1, h2⟩ := h
  exact ⟨h1.lt, h2.lt⟩
theorem rl_sq {s t : Bool} {a b c d : List Nat} {L : Nat} (ha : U32 a) (hb : U32 b) (hc : U32 c) (hd : U32 d) (h1 : a.length ≤ L) (h2 : b.length ≤ L) (h3 : c.length ≤ L) (h4 : d.length ≤ L) (hL : 1 ≤ L) : rl (sq s a b t c d).1 ≤ L ∧ rl (sq s a b t c d).2 ≤ L := by
  unfold sq; split
  · exact ⟨rl_rq ha hb h1 h2 hL, rl_rq hc hd h3 h4 hL⟩
  · show rl 0 ≤ L ∧ rl 0 ≤ L
    rw [rl_zero]; exact ⟨hL, hL⟩
theorem SpIs.rl {w : World} {v : Value} {S : Rat × Rat} (h : SpIs w v S) : rl S.1 ≤ 40000 ∧ rl S.2 ≤ 40000 := by
  obtain ⟨s, a, b, t, c, d, h0, rfl, h1, h2, h3, h4⟩ := h
  obtain ⟨⟨u1, u2⟩, u3, u4⟩ := h0.lt
  exact rl_sq u1 u2 u3 u4 h1 h2 h3 h4 (by decide)
theorem isSp_zero (w : World) : IsSp w (.agg #[.bool false, .slice none 0 0, .slice none 0 0, .bool false, .slice none 0 0, .slice none 0 0]) (0, 0) :=
  ⟨_, _, _, _, _, _, rfl, isR_zero w, isR_zero w⟩
theorem SpV.shape {w : World} {v : Value} {s₀ t₀ : Bool} {a₀ b₀ c₀ d₀ : List Nat} (h : SpV w v s₀ a₀ b₀ t₀ c₀ d₀) : ∃ s ao n c bo m d s' ao' n' c' bo' m' d', v = .agg #[.bool s, .slice ao n c, .slice bo m d, .bool s', .slice ao' n' c', .slice bo' m' d'] := by
  obtain ⟨x0, x1, x2, x3, x4, x5, e, ⟨va, vb, e1, h1, h2⟩, ⟨vc, vd, e2, h3, h4⟩⟩ := h
  have e1' : x0 = .bool s₀ ∧ x1 = va ∧ x2 = vb := by simpa using e1
  have e2' : x3 = .bool t₀ ∧ x4 = vc ∧ x5 = vd := by simpa using e2
  obtain ⟨rfl, rfl, rfl⟩ := e1'
  obtain ⟨rfl, rfl, rfl⟩ := e2'
  obtain ⟨o1, c1, rfl, _⟩ := h1.shape
  obtain ⟨o2, c2, rfl, _⟩ := h2.shape
  obtain ⟨o3, c3, rfl, _⟩ := h3.shape
  obtain ⟨o4, c4, rfl, _⟩ := h4.shape
  exact ⟨_, _, _, _, _, _, _, _, _, _, _, _, _, _, e⟩
theorem SpIs.shape {w : World} {v : Value} {S : Rat × Rat} (h : SpIs w v S) : ∃ s ao n c bo m d s' ao' n' c' bo' m' d', v = .agg #[.bool s, .slice ao n c, .slice bo m d, .bool s', .slice ao' n' c', .slice bo' m' d'] := by
  obtain ⟨s, a, b, t, c, d, h1, _⟩ := h
  exact h1.shape
theorem IsSp.shape {w : World} {v : Value} {S : Rat × Rat} (h : IsSp w v S) : ∃ s ao n c bo m d s' ao' n' c' bo' m' d', v = .agg #[.bool s, .slice ao n c, .slice bo m d, .bool s', .slice ao' n' c', .slice bo' m' d'] := SpV.shape h
theorem isSp_ends {w : World} {x0 x1 x2 x3 x4 x5 : Value} {S : Rat × Rat} (h : IsSp w (.agg #[x0, x1, x2, x3, x4, x5]) S) : IsR w (.agg #[x0, x1, x2]) S.1 ∧ IsR w (.agg #[x3, x4, x5]) S.2 := by
  obtain ⟨y0, y1, y2, y3, y4, y5, e, h1, h2⟩ := h
  have e' : x0 = y0 ∧ x1 = y1 ∧ x2 = y2 ∧ x3 = y3 ∧ x4 = y4 ∧ x5 = y5 := by simpa using e
  obtain ⟨rfl, rfl, rfl, rfl, rfl, rfl⟩ := e'
  exact ⟨h1, h2⟩
theorem isSp_of {w : World} {x0 x1 x2 x3 x4 x5 : Value} {p q : Rat} (h1 : IsR w (.agg #[x0, x1, x2]) p) (h2 : IsR w (.agg #[x3, x4, x5]) q) : IsSp w (.agg #[x0, x1, x2, x3, x4, x5]) (p, q) :=
  ⟨_, _, _, _, _, _, rfl, h1, h2⟩
theorem spV_ends {w : World} {x0 x1 x2 x3 x4 x5 : Value} {s t : Bool} {a b c d : List Nat} (h : SpV w (.agg #[x0, x1, x2, x3, x4, x5]) s a b t c d) : RatV w (.agg #[x0, x1, x2]) s a b ∧ RatV w (.agg #[x3, x4, x5]) t c d := by
  obtain ⟨y0, y1, y2, y3, y4, y5, e, h1, h2⟩ := h
  have e' : x0 = y0 ∧ x1 = y1 ∧ x2 = y2 ∧ x3 = y3 ∧ x4 = y4 ∧ x5 = y5 := by simpa using e
  obtain ⟨rfl, rfl, rfl, rfl, rfl, rfl⟩ := e'
  exact ⟨h1, h2⟩
/-- hands back the valid form of the interval -/
def RetSp (w : World) (S : Rat × Rat) (e : Ending) (w' : World) : Prop := ∃ v, e = .returned v ∧ Below w.heap.size w w' ∧ IsSp w' v S
/-- .. with an error (or its number) -/
def RetSpE (w : World) (S : Rat × Rat) (er : Value) (e : Ending) (w' : World) : Prop := ∃ v, e = .returned (.tuple #[v, er]) ∧ Below w.heap.size w w' ∧ IsSp w' v S

/-! six cells -/
theorem row6 {w : World} {g : Nat} {x0 x1 x2 x3 x4 x5 : Value} {T : TypeId} (h : w.heap[g]? = some (.cells #[x0, x1, x2, x3, x4, x5] T)) :
    w.cell? ⟨g, 0, none⟩ = some x0 ∧ w.cell? ⟨g, 1, none⟩ = some x1 ∧ w.cell? ⟨g, 2, none⟩ = some x2 ∧ w.cell? ⟨g, 3, none⟩ = some x3 ∧ w.cell? ⟨g, 4, none⟩ = some x4 ∧ w.cell? ⟨g, 5, none⟩ = some x5 :=
  ⟨cell_of_row _ _ _ _ _ _ h, cell_of_row _ _ _ _ _ _ h, cell_of_row _ _ _ _ _ _ h, cell_of_row _ _ _ _ _ _ h, cell_of_row _ _ _ _ _ _ h, cell_of_row _ _ _ _ _ _ h⟩
/-- cells from a place on are written -/
def putL (w : World) (g : Nat) : Nat → List Value → World
  | _, [] => w
  | off, x :: l => putL (w.setCell ⟨g, off, none⟩ x) g (off + 1) l
theorem putL_ne {g p : Nat} (h : p ≠ g) : ∀ (l : List Value) (w : World) (off : Nat), (putL w g off l).heap[p]? = w.heap[p]?
  | [], _, _ => rfl
  | x :: l, w, off => by
    unfold putL; rw [putL_ne h l, Below.heap_setCell _ _ _ _ h]
theorem putL_size : ∀ (l : List Value) (w : World) (g off : Nat), (putL w g off l).heap.size = w.heap.size
  | [], _, _, _ => rfl
  | x :: l, w, g, off => by
    unfold putL; rw [putL_size l]; simp [World.setCell]
theorem putL_below {w0 : World} {B g : Nat} (hg : B ≤ g) : ∀ (l : List Value) (w : World) (off : Nat), Below B w0 w → Below B w0 (putL w g off l)
  | [], _, _, h => h
  | x :: l, w, off, h => by
    unfold putL; exact putL_below hg l _ _ (h.setCell hg x)
/-- cells that hold no words -/
def noW (cs : Array Value) : Prop := ∀ (j : Nat) (n : Int), cs[j]? ≠ some (.int .u32 n)
theorem putL_num {w w' : World} {g off : Nat} {l : List Value} {cs : Array Value} {T : TypeId} {v : Value} {k : List Nat} (hw : w' = putL w g off l) (hn : Num w v k) (h : w.heap[g]? = some (.cells cs T)) (hc : noW cs) : Num w' v k := by
  obtain ⟨ao, c, rfl, h1, h2, h3, h4, h5⟩ := hn
  refine ⟨ao, c, rfl, h1, h2, h3, ?_, h5⟩
  intro b' o s hs
  obtain ⟨k1, k2⟩ := h4 b' o s hs
  have hsz : w'.heap.size = w.heap.size := by rw [hw, putL_size]
  refine ⟨fun h0 => by rw [hsz]; exact k1 h0, fun j hj => ?_⟩
  by_cases he : b' = g
  · subst he
    have := k2 j hj
    have hx : w.cell? ⟨b', o + j, none⟩ = cs[o + j]? := by
      unfold World.cell?; simp only [h]; rfl
    rw [hx] at this
    exact absurd this (hc _ _)
  · rw [← k2 j hj]
    unfold World.cell?
    have e : w'.heap[b']? = w.heap[b']? := by rw [hw, putL_ne he]
    simp only [e]
section
variable {w w' : World} {g off : Nat} {l : List Value} {cs : Array Value} {T : TypeId} {v : Value} {q : Rat} {s t : Bool} {a b c d : List Nat} {S : Rat × Rat}
theorem putL_V (hw : w' = putL w g off l) (h : RatV w v s a b) (hg : w.heap[g]? = some (.cells cs T)) (hc : noW cs) : RatV w' v s a b := by
  obtain ⟨va, vb, e, h1, h2⟩ := h
  exact ⟨va, vb, e, putL_num hw h1 hg hc, putL_num hw h2 hg hc⟩
theorem putL_I (hw : w' = putL w g off l) (h : IsR w v q) (hg : w.heap[g]? = some (.cells cs T)) (hc : noW cs) : IsR w' v q := putL_V hw h hg hc
theorem putL_R (hw : w' = putL w g off l) (h : RatIs w v q) (hg : w.heap[g]? = some (.cells cs T)) (hc : noW cs) : RatIs w' v q := by
  obtain ⟨s, a, b, h1, h2⟩ := h
  exact ⟨s, a, b, putL_V hw h1 hg hc, h2⟩
theorem putL_SV (hw : w' = putL w g off l) (h : SpV w v s a b t c d) (hg : w.heap[g]? = some (.cells cs T)) (hc : noW cs) : SpV w' v s a b t c d := by
  obtain ⟨x0, x1, x2, x3, x4, x5, e, h1, h2⟩ := h
  exact ⟨x0, x1, x2, x3, x4, x5, e, putL_V hw h1 hg hc, putL_V hw h2 hg hc⟩
theorem putL_SI (hw : w' = putL w g off l) (h : IsSp w v S) (hg : w.heap[g]? = some (.cells cs T)) (hc : noW cs) : IsSp w' v S := by
  obtain ⟨x0, x1, x2, x3, x4, x5, e, h1, h2⟩ := h
  exact ⟨x0, x1, x2, x3, x4, x5, e, putL_I hw h1 hg hc, putL_I hw h2 hg hc⟩
theorem putL_SS (hw : w' = putL w g off l) (h : SpIs w v S) (hg : w.heap[g]? = some (.cells cs T)) (hc : noW cs) : SpIs w' v S := by
  obtain ⟨s, a, b, t, c, d, h1, h2⟩ := h
  exact ⟨s, a, b, t, c, d, putL_SV hw h1 hg hc, h2⟩
end
theorem noW3 {s : Bool} {o p : Option Addr} {n c m d : Nat} : noW #[.bool s, .slice o n c, .slice p m d] := by
  intro j n; match j with
  | 0 => simp
  | 1 => simp
  | 2 => simp
  | j + 3 => simp
theorem noW6 {s t : Bool} {o p o' p' : Option Addr} {n c m d n' c' m' d' : Nat} : noW #[.bool s, .slice o n c, .slice p m d, .bool t, .slice o' n' c', .slice p' m' d'] := by
  intro j n; match j with
  | 0 => simp
  | 1 => simp
  | 2 => simp
  | 3 => simp
  | 4 => simp
  | 5 => simp
  | j + 6 => simp
theorem putL_0 {w : World} {g : Nat} {x0 x1 x2 x3 x4 x5 y0 y1 y2 : Value} {T : TypeId} (h : w.heap[g]? = some (.cells #[x0, x1, x2, x3, x4, x5] T)) : (putL w g 0 [y0, y1, y2]).heap[g]? = some (.cells #[y0, y1, y2, x3, x4, x5] T) := by
  simp [putL, World.setCell, Array.getElem?_modify, h]
theorem putL_3 {w : World} {g : Nat} {x0 x1 x2 x3 x4 x5 y0 y1 y2 : Value} {T : TypeId} (h : w.heap[g]? = some (.cells #[x0, x1, x2, x3, x4, x5] T)) : (putL w g 3 [y0, y1, y2]).heap[g]? = some (.cells #[x0, x1, x2, y0, y1, y2] T) := by
  simp [putL, World.setCell, Array.getElem?_modify, h]
theorem putL_6 {w : World} {g : Nat} {x0 x1 x2 x3 x4 x5 y0 y1 y2 y3 y4 y5 : Value} {T : TypeId} (h : w.heap[g]? = some (.cells #[x0, x1, x2, x3, x4, x5] T)) : (putL w g 0 [y0, y1, y2, y3, y4, y5]).heap[g]? = some (.cells #[y0, y1, y2, y3, y4, y5] T) := by
  simp [putL, World.setCell, Array.getElem?_modify, h]
theorem putL_r {w : World} {g : Nat} {x0 x1 x2 y0 y1 y2 : Value} {T : TypeId} (h : w.heap[g]? = some (.cells #[x0, x1, x2] T)) : (putL w g 0 [y0, y1, y2]).heap[g]? = some (.cells #[y0, y1, y2] T) := by
  simp [putL, World.setCell, Array.getElem?_modify, h]
theorem putLx {w w' : World} {g p off : Nat} {l : List Value} {o : Obj} (hw : w' = putL w g off l) (h : w.heap[p]? = some o) (hp : p ≠ g) : w'.heap[p]? = some o := by
  rw [hw, putL_ne hp]; exact h
theorem putLb {w0 w w' : World} {B g off : Nat} {l : List Value} (hw : w' = putL w g off l) (h : Below B w0 w) (hg : B ≤ g) : Below B w0 w' := by
  rw [hw]; exact putL_below hg _ _ _ h
def KSp (S : Rat × Rat) : Value → World → Prop := fun v w => IsSp w v S
theorem kSp (S : Rat × Rat) : MonoF (KSp S) := fun _ _ _ h hb => IsSp.below h hb
def KSpE (S : Rat × Rat) (er : Value) : Value → World → Prop := fun v w => ∃ b, v = .tuple #[b, er] ∧ IsSp w b S
theorem kSpE (S : Rat × Rat) (er : Value) : MonoF (KSpE S er) := fun _ _ _ ⟨b, h1, h2⟩ hb => ⟨b, h1, h2.below hb⟩
/-- a new variable, in a block from B on -/
def KNew (B : Nat) (cs : Array Value) (T : TypeId) : Value → World → Prop := fun v w => ∃ g, B ≤ g ∧ v = .pointer (some ⟨g, 0, none⟩) ∧ w.heap[g]? = some (.cells cs T)
theorem kNew (B : Nat) (cs : Array Value) (T : TypeId) : MonoF (KNew B cs T) := fun _ _ _ ⟨g, h1, h2, h3⟩ hb => ⟨g, h1, h2, heap_below h3 hb⟩
/-- a new list -/
def KLst (B n : Nat) (cs : Array Value) (T : TypeId) : Value → World → Prop := fun v w => ∃ g, B ≤ g ∧ v = .slice (some ⟨g, 0, none⟩) n n ∧ w.heap[g]? = some (.cells cs T)
theorem kLst (B n : Nat) (cs : Array Value) (T : TypeId) : MonoF (KLst B n cs T) := fun _ _ _ ⟨g, h1, h2, h3⟩ hb => ⟨g, h1, h2, heap_below h3 hb⟩
theorem span_info : (Tryd.prog.info? 26).map (·.size) = some 6 := by kernel_rfl
/-- a function that hands back an interval in a variable of its own -/
theorem ret_span {fn : Func} {R : Ending → World → Prop} {a : Act} {w : World} {p : Tmp} (h : fn.results = #[.cell p 26]) (g : Nat) (x0 x1 x2 x3 x4 x5 : Value)
    (hp : a.tmps.getD p undef = .pointer (some ⟨g, 0, none⟩)) (hg : w.heap[g]? = some (.cells #[x0, x1, x2, x3, x4, x5] 26)) (hd : a.defers = []) (hR : R (.returned (.agg #[x0, x1, x2, x3, x4, x5])) w) : bodyPost Tryd.prog fn R .ret a w :=
  bodyPost_ret (results_cell_row h a.tmps w g 26 _ _ _ hp hg Tryd.underlying26 rfl span_info) hd hR
/-- .. and an error (or its number) -/
theorem ret_span2 {fn : Func} {R : Ending → World → Prop} {a : Act} {w : World} {p u : Tmp} (h : fn.results = #[.cell p 26, .tmp u]) (g : Nat) (x0 x1 x2 x3 x4 x5 : Value)
    (hp : a.tmps.getD p undef = .pointer (some ⟨g, 0, none⟩)) (hg : w.heap[g]? = some (.cells #[x0, x1, x2, x3, x4, x5] 26)) (hd : a.defers = []) (hR : R (.returned (.tuple #[.agg #[x0, x1, x2, x3, x4, x5], a.tmps.getD u undef])) w) : bodyPost Tryd.prog fn R .ret a w := by
  refine bodyPost_ret (v := .tuple #[.agg #[x0, x1, x2, x3, x4, x5], a.tmps.getD u undef]) ?_ hd hR
  rw [results_cell_tmp h, hp]
  simp only [asAddr, Sem.run_pure, Result.andThen, run_loadVar_row w g 26 26 _ _ _ hg Tryd.underlying26 rfl span_info]
end Go.Proofs.YtaefimegiobkmaaDoor
/-
  Intervals: their ends' lengths, their order, what sums and products of ends come to.
  Conditions: none beyond each theorem's own.
-/
namespace Go.Proofs.YtaefimegiobkmaaDoor

theorem div_zero_q (p : Rat) : p / 0 = 0 := by grind
theorem rl_div' (p q : Rat) : rl (p / q) ≤ rl p + rl q := by
  by_cases h : q = 0
  · subst h; rw [div_zero_q, rl_zero]; have := rl_pos p; omega
  · exact rl_div p q h
def sNot (a : Rat × Rat) : Rat × Rat := (1 - a.2, 1 - a.1)
theorem rl_around2 (p q : Rat) : rl (around2 p q).1 ≤ max (rl p) (rl q) ∧ rl (around2 p q).2 ≤ max (rl p) (rl q) := ⟨rl_mn _ _, rl_mx _ _⟩
theorem rl_around4 (p q r s : Rat) : rl (around4 p q r s).1 ≤ max (max (max (rl p) (rl q)) (rl r)) (rl s) ∧ rl (around4 p q r s).2 ≤ max (max (max (rl p) (rl q)) (rl r)) (rl s) := by
  unfold around4
  have h1 := rl_mn p q; have h2 := rl_mn (mn p q) r; have h3 := rl_mn (mn (mn p q) r) s
  have g1 := rl_mx p q; have g2 := rl_mx (mx p q) r; have g3 := rl_mx (mx (mx p q) r) s
  show rl (mn (mn (mn p q) r) s) ≤ _ ∧ rl (mx (mx (mx p q) r) s) ≤ _
  omega
theorem rl_sNeg (a : Rat × Rat) : rl (sNeg a).1 = rl a.2 ∧ rl (sNeg a).2 = rl a.1 := ⟨rl_neg _, rl_neg _⟩
theorem rl_sNot (a : Rat × Rat) : rl (sNot a).1 ≤ rl a.2 + 2 ∧ rl (sNot a).2 ≤ rl a.1 + 2 := by
  have h1 := rl_sub 1 a.2; have h2 := rl_sub 1 a.1
  rw [rl_one] at h1 h2
  show rl (1 - a.2) ≤ _ ∧ rl (1 - a.1) ≤ _
  omega
theorem rl_sAdd (a b : Rat × Rat) : rl (sAdd a b).1 ≤ rl a.1 + rl b.1 + 1 ∧ rl (sAdd a b).2 ≤ rl a.2 + rl b.2 + 1 := ⟨rl_add _ _, rl_add _ _⟩
theorem rl_sSub (a b : Rat × Rat) : rl (sSub a b).1 ≤ rl a.1 + rl b.2 + 1 ∧ rl (sSub a b).2 ≤ rl a.2 + rl b.1 + 1 := ⟨rl_sub _ _, rl_sub _ _⟩
theorem rl_sHull (a b : Rat × Rat) : rl (sHull a b).1 ≤ max (max (max (rl a.1) (rl a.2)) (rl b.1)) (rl b.2) ∧ rl (sHull a b).2 ≤ max (max (max (rl a.1) (rl a.2)) (rl b.1)) (rl b.2) := rl_around4 _ _ _ _
theorem rl_sMul (a b : Rat × Rat) : rl (sMul a b).1 ≤ max (rl a.1) (rl a.2) + max (rl b.1) (rl b.2) ∧ rl (sMul a b).2 ≤ max (rl a.1) (rl a.2) + max (rl b.1) (rl b.2) := by
  have h := rl_around4 (a.1 * b.1) (a.1 * b.2) (a.2 * b.1) (a.2 * b.2)
  have h1 := rl_mul a.1 b.1; have h2 := rl_mul a.1 b.2; have h3 := rl_mul a.2 b.1; have h4 := rl_mul a.2 b.2
  unfold sMul
  omega
theorem rl_inv (p : Rat) : rl (1 / p) ≤ rl p + 1 := by
  have := rl_div' 1 p; rw [rl_one] at this; omega
theorem rl_sDiv (a b : Rat × Rat) : rl (sDiv a b).1 ≤ max (rl a.1) (rl a.2) + max (rl b.1) (rl b.2) + 1 ∧ rl (sDiv a b).2 ≤ max (rl a.1) (rl a.2) + max (rl b.1) (rl b.2) + 1 := by
  have h := rl_sMul a (around2 (1 / b.1) (1 / b.2))
  have h1 := rl_around2 (1 / b.1) (1 / b.2)
  have h2 := rl_inv b.1; have h3 := rl_inv b.2
  unfold sDiv
  omega
theorem rl_clip (p : Rat) : rl (clip p) ≤ max (rl p) 1 := by
  have h1 := rl_mx 0 (mn p 1); have h2 := rl_mn p 1
  rw [rl_zero] at h1; rw [rl_one] at h2
  unfold clip; omega
theorem rl_sClip (a : Rat × Rat) : rl (sClip a).1 ≤ max (rl a.1) 1 ∧ rl (sClip a).2 ≤ max (rl a.2) 1 := ⟨rl_clip _, rl_clip _⟩
theorem sNeg_ok {a : Rat × Rat} (h : a.1 ≤ a.2) : (sNeg a).1 ≤ (sNeg a).2 := by show -a.2 ≤ -a.1; grind
theorem sNot_ok {a : Rat × Rat} (h : a.1 ≤ a.2) : (sNot a).1 ≤ (sNot a).2 := by show 1 - a.2 ≤ 1 - a.1; grind
theorem sAdd_ok {a b : Rat × Rat} (h : a.1 ≤ a.2) (k : b.1 ≤ b.2) : (sAdd a b).1 ≤ (sAdd a b).2 := by show a.1 + b.1 ≤ a.2 + b.2; grind
theorem sSub_ok {a b : Rat × Rat} (h : a.1 ≤ a.2) (k : b.1 ≤ b.2) : (sSub a b).1 ≤ (sSub a b).2 := by show a.1 - b.2 ≤ a.2 - b.1; grind
theorem sClip_ok {a : Rat × Rat} (h : a.1 ≤ a.2) : (sClip a).1 ≤ (sClip a).2 := clip_mono h
theorem neg_around {a : Rat × Rat} (h : a.1 ≤ a.2) : around2 (-a.1) (-a.2) = sNeg a := around2_ge (by grind)
theorem add_around {a b : Rat × Rat} (h : a.1 ≤ a.2) (k : b.1 ≤ b.2) : around2 (a.1 + b.1) (a.2 + b.2) = sAdd a b := around2_le (by grind)
theorem add_neg {a b : Rat × Rat} : sAdd a (sNeg b) = sSub a b := by
  unfold sAdd sNeg sSub; rw [Rat.sub_eq_add_neg, Rat.sub_eq_add_neg]
theorem one_sub {a : Rat × Rat} : sSub ((((1 : Int) : Rat)), (((1 : Int) : Rat))) a = sNot a := rfl
theorem clip_around {a : Rat × Rat} (h : a.1 ≤ a.2) : around2 (clip a.1) (clip a.2) = sClip a := around2_le (clip_mono h)
/-- an interval of given ends, the number of its error -/
def smV (p u : Rat) : Rat × Rat := if p ≤ u then (p, u) else (0, 0)
def smC (p u : Rat) : Nat := if p ≤ u then 0 else 3
theorem smV_ok (p u : Rat) : (smV p u).1 ≤ (smV p u).2 := by unfold smV; split <;> grind
theorem rl_smV (p u : Rat) : rl (smV p u).1 ≤ rl p ∧ rl (smV p u).2 ≤ rl u := by
  unfold smV; split
  · exact ⟨Nat.le_refl _, Nat.le_refl _⟩
  · show rl 0 ≤ _ ∧ rl 0 ≤ _
    rw [rl_zero]; exact ⟨rl_pos _, rl_pos _⟩
/-- quotients, the number of the error -/
def sdV (a b : Rat × Rat) : Rat × Rat := if inS b 0 then (0, 0) else sDiv a b
def sdC (b : Rat × Rat) : Nat := if inS b 0 then 8 else 0
theorem sdV_ok (a b : Rat × Rat) : (sdV a b).1 ≤ (sdV a b).2 := by
  unfold sdV; split
  · exact Rat.le_refl
  · exact around4_ok _ _ _ _
theorem rl_sdV (a b : Rat × Rat) : rl (sdV a b).1 ≤ max (rl a.1) (rl a.2) + max (rl b.1) (rl b.2) + 1 ∧ rl (sdV a b).2 ≤ max (rl a.1) (rl a.2) + max (rl b.1) (rl b.2) + 1 := by
  unfold sdV; split
  · show rl 0 ≤ _ ∧ rl 0 ≤ _
    rw [rl_zero]; omega
  · exact rl_sDiv a b
/-- the common part, the number of the error -/
def stV (a b : Rat × Rat) : Rat × Rat := if (sMeet a b).1 ≤ (sMeet a b).2 then sMeet a b else (0, 0)
def stC (a b : Rat × Rat) : Nat := if (sMeet a b).1 ≤ (sMeet a b).2 then 0 else 17
theorem stV_ok (a b : Rat × Rat) : (stV a b).1 ≤ (stV a b).2 := by
  unfold stV; split
  · assumption
  · exact Rat.le_refl
theorem rl_sMeet (a b : Rat × Rat) : rl (sMeet a b).1 ≤ max (rl a.1) (rl b.1) ∧ rl (sMeet a b).2 ≤ max (rl a.2) (rl b.2) := ⟨rl_mx _ _, rl_mn _ _⟩
theorem rl_stV (a b : Rat × Rat) : rl (stV a b).1 ≤ max (rl a.1) (rl b.1) ∧ rl (stV a b).2 ≤ max (rl a.2) (rl b.2) := by
  unfold stV; split
  · exact rl_sMeet a b
  · show rl 0 ≤ _ ∧ rl 0 ≤ _
    have := rl_pos a.1; have := rl_pos a.2
    rw [rl_zero]; omega
theorem inS_zero_ends {b : Rat × Rat} (ho : b.1 ≤ b.2) (h : ¬ inS b 0) : b.1 ≠ 0 ∧ b.2 ≠ 0 := by
  unfold inS at h; constructor <;> intro e <;> rw [e] at h <;> grind
end Go.Proofs.YtaefimegiobkmaaDoor
/-
  The reference: size, Make, Of, Floor, Round: what they hand back.
  Conditions: each theorem's own.
-/
namespace Go.Proofs.YtaefimegiobkmaaDoor
open Go.RowKit Go.ChangeShapes Go.WideShapes

/-- two words of a number -/
def RetTwo (w : World) (n : Nat) (e : Ending) (w' : World) : Prop := ∃ v l, e = .returned v ∧ Below w.heap.size w w' ∧ Num w' v l ∧ val l = n ∧ l.length = 2
theorem two_words (n : Nat) : val [n % 4294967296, n / 4294967296] = n := by
  simp only [val]; omega
set_option maxRecDepth 100000 in
set_option maxHeartbeats 800000 in
theorem rsize_any (n : Int) (w : World) (h0 : -9223372036854775808 ≤ n) (h1 : n < 9223372036854775808) :
    Calls Tryd.prog 65 #[.int .i64 n] w (RetTwo w n.natAbs) := by
  obtain ⟨m, hm⟩ : ∃ m, m = n.natAbs := ⟨_, rfl⟩
  rw [← hm]
  have hmb : m ≤ 9223372036854775808 := by omega
  have hlo := num_lit w 78 #[.int .u32 ((m % 4294967296 : Nat) : Int), .int .u32 ((m / 4294967296 : Nat) : Int)] [m % 4294967296, m / 4294967296] 2 (U32.cons (by omega) (U32.cons (by omega) U32.nil)) rfl (by simp) rfl
  have HLO := Lib.hid hlo
  have e0 : ((m % 4294967296 : Nat) : Int) = (m : Int) % 4294967296 := by omega
  have e1 : ((m / 4294967296 : Nat) : Int) = (m : Int) / 4294967296 := by omega
  rw [e0, e1] at HLO
  by_cases h : n < 0
  · have hn : n = -(m : Int) := by omega
    subst hn
    have f1 : decide (-(m : Int) < 0) = true := decide_eq_true h
    have f2 : decide (0 < m) = true := decide_eq_true (by omega)
    have hwr : IntKind.u64.wrap (-IntKind.u64.wrap (-(m : Int))) = (m : Int) := by
      have e : ∀ n : Int, IntKind.u64.wrap n = n % 18446744073709551616 := fun n => rfl
      rw [e, e]; omega
    clear hm hlo e0 e1
    go_enter Tryd.func65, Tryd.ntmps65
    go_wp2_with fail
    go_ret
    exact ⟨_, _, rfl, (Below.refl _ _).alloc (Nat.le_refl _) _, HLO.out, two_words m, rfl⟩
  · have hn : n = (m : Int) := by omega
    subst hn
    have f1 : decide ((m : Int) < 0) = false := decide_eq_false h
    clear hm hlo e0 e1
    go_enter Tryd.func65, Tryd.ntmps65
    go_wp2_with fail
    go_ret
    exact ⟨_, _, rfl, (Below.refl _ _).alloc (Nat.le_refl _) _, HLO.out, two_words m, rfl⟩
set_option maxRecDepth 100000 in
set_option maxHeartbeats 3200000 in
theorem rmake_any (n : Int) (d : Int) (w : World)  (h0 : -9223372036854775808 ≤ n) (h1 : n < 9223372036854775808) (g0 : -9223372036854775808 ≤ d) (g1 : d < 9223372036854775808) :
    Calls Tryd.prog 53 #[.int .i64 n, .int .i64 d] w (RetRE w ((n : Rat) / (d : Rat)) (.int .i64 (zc d.natAbs : Nat))) := by
  have hb0 := ((Below.refl w.heap.size w).alloc (by first | (simp; done) | (simp; omega)) (.cells #[.bool false, .slice none 0 0, .slice none 0 0] 24))
  have hxR := nest1_0 w (.cells #[.bool false, .slice none 0 0, .slice none 0 0] 24)
  obtain ⟨w0, hw0⟩ : ∃ w0, w0 = (w.alloc (.cells #[.bool false, .slice none 0 0, .slice none 0 0] 24)) := ⟨_, rfl⟩
  rw [← hw0] at hb0 hxR
  have HB0 := Lib.hid hb0; have HW0 := Lib.hid hw0
  have BXR := Lib.hid hxR
  clear hb0 hw0 hxR
  have BD := Lib.hid (And.intro h0 h1); have BG := Lib.hid (And.intro g0 g1)
  obtain ⟨z, hz⟩ : ∃ z, z = zc d.natAbs := ⟨_, rfl⟩
  rw [← hz]
  have HZ := Lib.hid hz; clear hz
  go_enter Tryd.func53, Tryd.ntmps53
  have hs := rsize_any n w0 BD.out.1 BD.out.2
  have HS := Lib.hid hs; clear hs
  go_wp2_with fail
  rw [← HW0.out]
  (with_reducible refine HS.out.mono ?_); rintro e w1 ⟨v1, l1, rfl, hb1, hn1, hv1, hl1⟩
  clear HS
  have HB1 := Lib.hid (HB0.out.step hb1)
  have BXR := Lib.hid (heap_below BXR.out hb1)
  have N := Lib.hid hn1; have VN := Lib.hid hv1; have LN := Lib.hid hl1; clear hn1 hb1 hv1 hl1
  have hs := rsize_any d w1 BG.out.1 BG.out.2
  have HS := Lib.hid hs; clear hs
  go_wp2_with fail
  (with_reducible refine HS.out.mono ?_); rintro e w2 ⟨v2, l2, rfl, hb2, hn2, hv2, hl2⟩
  clear HS
  have HB2 := Lib.hid (HB1.out.step hb2)
  have N := Lib.hid (N.out.below hb2)
  have BXR := Lib.hid (heap_below BXR.out hb2)
  have D := Lib.hid hn2; have VD := Lib.hid hv2; have LD := Lib.hid hl2; clear hn2 hb2 hv2 hl2
  have hs := rfrom_any (!(decide (n < 0) == decide (d < 0))) _ _ _ _ w2 N.out D.out (by rw [LN.out]; decide) (by rw [LD.out]; decide)
  rw [VN.out, VD.out, q_ints, ← HZ.out] at hs
  have HS := Lib.hid hs; clear hs
  go_wp2_with fail
  (with_reducible refine HS.out.mono ?_); rintro e w3 ⟨v3, rfl, hb3, hn3⟩
  clear HS
  have HB3 := Lib.hid (HB2.out.step hb3)
  have N := Lib.hid (N.out.below hb3)
  have D := Lib.hid (D.out.below hb3)
  have BXR := Lib.hid (heap_below BXR.out hb3)
  have Q := Lib.hid hn3; clear hn3
  clear hb3
  obtain ⟨sQ, oQ, nQ, cQ, aQ, mQ, dQ, rfl⟩ := Q.out.shape
  obtain ⟨eR0, eR1, eR2⟩ := row3 BXR.out
  obtain ⟨fR0, fR1, fR2⟩ := froz3 BXR.out
  go_wp2_with fail
  refine ret_rat2 rfl w.heap.size _ _ _ rfl (put3_heap BXR.out) rfl ?_
  exact ⟨_, rfl, put3_below HB3.out (by omega) _ _ _, isR_put Q.out BXR.out⟩
set_option maxRecDepth 100000 in
set_option maxHeartbeats 3200000 in
theorem rofq_any (n : Int) (w : World)  (h0 : -9223372036854775808 ≤ n) (h1 : n < 9223372036854775808) :
    Calls Tryd.prog 32 #[.int .i64 n] w (RetR w (n : Rat)) := by
  have hb0 := ((Below.refl w.heap.size w).alloc (by first | (simp; done) | (simp; omega)) (.cells #[.bool false, .slice none 0 0, .slice none 0 0] 24))
  have hxR := nest1_0 w (.cells #[.bool false, .slice none 0 0, .slice none 0 0] 24)
  obtain ⟨w0, hw0⟩ : ∃ w0, w0 = (w.alloc (.cells #[.bool false, .slice none 0 0, .slice none 0 0] 24)) := ⟨_, rfl⟩
  rw [← hw0] at hb0 hxR
  have HB0 := Lib.hid hb0; have HW0 := Lib.hid hw0
  have BXR := Lib.hid hxR
  clear hb0 hw0 hxR
  have BD := Lib.hid (And.intro h0 h1)
  have hq1 : (n : Rat) / ((1 : Int) : Rat) = (n : Rat) := by rw [show ((1 : Int) : Rat) = 1 from rfl]; grind
  have HQ1 := Lib.hid hq1; clear hq1
  go_enter Tryd.func32, Tryd.ntmps32
  have hs := rmake_any n 1 w0 BD.out.1 BD.out.2 (by decide) (by decide)
  rw [HQ1.out, show zc (1 : Int).natAbs = 0 from rfl] at hs
  have HS := Lib.hid hs; clear hs
  go_wp2_with fail
  rw [← HW0.out]
  (with_reducible refine HS.out.mono ?_); rintro e w1 ⟨v1, rfl, hb1, hn1⟩
  clear HS
  have HB1 := Lib.hid (HB0.out.step hb1)
  have BXR := Lib.hid (heap_below BXR.out hb1)
  have Q := Lib.hid hn1; clear hn1
  clear hb1
  obtain ⟨sQ, oQ, nQ, cQ, aQ, mQ, dQ, rfl⟩ := Q.out.shape
  have hal : Below w1.heap.size w1 (w1.alloc (.cells #[.bool sQ, .slice oQ nQ cQ, .slice aQ mQ dQ] 24)) := (Below.refl _ _).alloc (Nat.le_refl _) _
  have HXA := Lib.hid (heap_below BXR.out hal); have HAL := Lib.hid hal; clear hal
  obtain ⟨eR0, eR1, eR2⟩ := row3 HXA.out
  obtain ⟨fR0, fR1, fR2⟩ := froz3 HXA.out
  go_wp2_with fail
  refine ret_rat rfl w.heap.size _ _ _ rfl (put3_heap HXA.out) rfl ?_
  exact ⟨_, rfl, put3_below (HB1.out.step HAL.out) (by omega) _ _ _, isR_put (Q.out.below HAL.out) HXA.out⟩
end Go.Proofs.YtaefimegiobkmaaDoor
/-
  span.Valid, span.norm and the reference's: what they hand back.
  Conditions: each theorem's own.
-/
namespace Go.Proofs.YtaefimegiobkmaaDoor
open Go.RowKit Go.ChangeShapes Go.WideShapes

set_option maxRecDepth 100000 in
set_option maxHeartbeats 3200000 in
theorem svalid_1 (va : Value) (sa : Bool) (aa ba : List Nat) (ta : Bool) (ca da : List Nat) (w : World) (ha : SpV w va sa aa ba ta ca da) (la : aa.length ≤ 40000) (lb : ba.length ≤ 40000) (_lc : ca.length ≤ 40000) (_ld : da.length ≤ 40000) (hv : ¬ Vld sa aa ba) :
    Calls Tryd.prog 9 #[va] w (RetV w (.bool (decide (Vld sa aa ba ∧ Vld ta ca da ∧ rq sa aa ba ≤ rq ta ca da)))) := by
  have HBW := Lib.hid (Below.refl w.heap.size w)
  obtain ⟨qa, oa, na, ka, pa, ma, ra, qax, oax, nax, kax, pax, max, rax, rfl⟩ := ha.shape
  rw [show decide (Vld sa aa ba ∧ Vld ta ca da ∧ rq sa aa ba ≤ rq ta ca da) = false from decide_eq_false (fun k => hv k.1)]
  have HV1 := Lib.hid (decide_eq_false hv); clear hv
  have Fa := Lib.hid ha; clear ha
  have Fal := Lib.hid (spV_ends Fa.out).1; have Fah := Lib.hid (spV_ends Fa.out).2
  obtain ⟨w1, hw1⟩ : ∃ w1, w1 = w.alloc (.cells #[.bool qa, .slice oa na ka, .slice pa ma ra, .bool qax, .slice oax nax kax, .slice pax max rax] 26) := ⟨_, rfl⟩
  have hb1 : Below w.heap.size w w1 := by rw [hw1]; exact (Below.refl _ _).alloc (Nat.le_refl _) _
  have hx1 := heap_alloc_new w (.cells #[.bool qa, .slice oa na ka, .slice pa ma ra, .bool qax, .slice oax nax kax, .slice pax max rax] 26)
  obtain ⟨g1, hg1⟩ : ∃ g, g = w.heap.size := ⟨_, rfl⟩
  rw [← hw1, ← hg1] at hx1
  have lw1 : w.heap.size ≤ g1 := by rw [hg1]; exact HBW.out.size
  have HW1 := Lib.hid hw1; have HG1 := Lib.hid hg1; clear hw1 hg1
  have HB1 := Lib.hid (HBW.out.step hb1)
  have Fa := Lib.hid (Fa.out.below hb1)
  have Fal := Lib.hid (Fal.out.below hb1)
  have Fah := Lib.hid (Fah.out.below hb1)
  have BX1 := Lib.hid hx1; clear hb1 hx1
  go_enter Tryd.func9, Tryd.ntmps9
  obtain ⟨x1_0, x1_1, x1_2, x1_3, x1_4, x1_5⟩ := row6 BX1.out
  have hs := valid_any _ sa aa ba w1 Fal.out (by omega) (by omega)
  rw [HV1.out] at hs
  have HS := Lib.hid hs; clear hs
  try rw [HW1.out] at x1_0
  try rw [HG1.out] at x1_0
  try rw [HW1.out] at x1_1
  try rw [HG1.out] at x1_1
  try rw [HW1.out] at x1_2
  try rw [HG1.out] at x1_2
  try rw [HW1.out] at x1_3
  try rw [HG1.out] at x1_3
  try rw [HW1.out] at x1_4
  try rw [HG1.out] at x1_4
  try rw [HW1.out] at x1_5
  try rw [HG1.out] at x1_5
  go_wp2_with fail
  try rw [← HW1.out]
  try rw [← HG1.out]
  clear x1_0 x1_1 x1_2 x1_3 x1_4 x1_5
  (with_reducible refine HS.out.mono ?_); rintro e w2 ⟨rfl, hb2⟩
  clear HS
  have HB2 := Lib.hid (HB1.out.step hb2)
  have Fa := Lib.hid (Fa.out.below hb2)
  have Fal := Lib.hid (Fal.out.below hb2)
  have Fah := Lib.hid (Fah.out.below hb2)
  have BX1 := Lib.hid (heap_below BX1.out hb2)
  clear hb2
  go_wp2_with fail
  go_ret
  exact ⟨by first | rfl | (simp; done), HB2.out⟩
set_option maxRecDepth 100000 in
set_option maxHeartbeats 3200000 in
theorem svalid_2 (va : Value) (sa : Bool) (aa ba : List Nat) (ta : Bool) (ca da : List Nat) (w : World) (ha : SpV w va sa aa ba ta ca da) (la : aa.length ≤ 40000) (lb : ba.length ≤ 40000) (lc : ca.length ≤ 40000) (ld : da.length ≤ 40000) (hv : Vld sa aa ba) (hu : ¬ Vld ta ca da) :
    Calls Tryd.prog 9 #[va] w (RetV w (.bool (decide (Vld sa aa ba ∧ Vld ta ca da ∧ rq sa aa ba ≤ rq ta ca da)))) := by
  have HBW := Lib.hid (Below.refl w.heap.size w)
  obtain ⟨qa, oa, na, ka, pa, ma, ra, qax, oax, nax, kax, pax, max, rax, rfl⟩ := ha.shape
  rw [show decide (Vld sa aa ba ∧ Vld ta ca da ∧ rq sa aa ba ≤ rq ta ca da) = false from decide_eq_false (fun k => hu k.2.1)]
  have HV1 := Lib.hid (decide_eq_true hv); have HV2 := Lib.hid (decide_eq_false hu); clear hv hu
  have Fa := Lib.hid ha; clear ha
  have Fal := Lib.hid (spV_ends Fa.out).1; have Fah := Lib.hid (spV_ends Fa.out).2
  obtain ⟨w1, hw1⟩ : ∃ w1, w1 = w.alloc (.cells #[.bool qa, .slice oa na ka, .slice pa ma ra, .bool qax, .slice oax nax kax, .slice pax max rax] 26) := ⟨_, rfl⟩
  have hb1 : Below w.heap.size w w1 := by rw [hw1]; exact (Below.refl _ _).alloc (Nat.le_refl _) _
  have hx1 := heap_alloc_new w (.cells #[.bool qa, .slice oa na ka, .slice pa ma ra, .bool qax, .slice oax nax kax, .slice pax max rax] 26)
  obtain ⟨g1, hg1⟩ : ∃ g, g = w.heap.size := ⟨_, rfl⟩
  rw [← hw1, ← hg1] at hx1
  have lw1 : w.heap.size ≤ g1 := by rw [hg1]; exact HBW.out.size
  have HW1 := Lib.hid hw1; have HG1 := Lib.hid hg1; clear hw1 hg1
  have HB1 := Lib.hid (HBW.out.step hb1)
  have Fa := Lib.hid (Fa.out.below hb1)
  have Fal := Lib.hid (Fal.out.below hb1)
  have Fah := Lib.hid (Fah.out.below hb1)
  have BX1 := Lib.hid hx1; clear hb1 hx1
  go_enter Tryd.func9, Tryd.ntmps9
  obtain ⟨x1_0, x1_1, x1_2, x1_3, x1_4, x1_5⟩ := row6 BX1.out
  have hs := valid_any _ sa aa ba w1 Fal.out (by omega) (by omega)
  rw [HV1.out] at hs
  have HS := Lib.hid hs; clear hs
  try rw [HW1.out] at x1_0
  try rw [HG1.out] at x1_0
  try rw [HW1.out] at x1_1
  try rw [HG1.out] at x1_1
  try rw [HW1.out] at x1_2
  try rw [HG1.out] at x1_2
  try rw [HW1.out] at x1_3
  try rw [HG1.out] at x1_3
  try rw [HW1.out] at x1_4
  try rw [HG1.out] at x1_4
  try rw [HW1.out] at x1_5
  try rw [HG1.out] at x1_5
  go_wp2_with fail
  try rw [← HW1.out]
  try rw [← HG1.out]
  clear x1_0 x1_1 x1_2 x1_3 x1_4 x1_5
  (with_reducible refine HS.out.mono ?_); rintro e w2 ⟨rfl, hb2⟩
  clear HS
  have HB2 := Lib.hid (HB1.out.step hb2)
  have Fa := Lib.hid (Fa.out.below hb2)
  have Fal := Lib.hid (Fal.out.below hb2)
  have Fah := Lib.hid (Fah.out.below hb2)
  have BX1 := Lib.hid (heap_below BX1.out hb2)
  clear hb2
  obtain ⟨x2_0, x2_1, x2_2, x2_3, x2_4, x2_5⟩ := row6 BX1.out
  have hs := valid_any _ ta ca da w2 Fah.out (by omega) (by omega)
  rw [HV2.out] at hs
  have HS := Lib.hid hs; clear hs
  go_wp2_with fail
  clear x2_0 x2_1 x2_2 x2_3 x2_4 x2_5
  (with_reducible refine HS.out.mono ?_); rintro e w3 ⟨rfl, hb3⟩
  clear HS
  have HB3 := Lib.hid (HB2.out.step hb3)
  have Fa := Lib.hid (Fa.out.below hb3)
  have Fal := Lib.hid (Fal.out.below hb3)
  have Fah := Lib.hid (Fah.out.below hb3)
  have BX1 := Lib.hid (heap_below BX1.out hb3)
  clear hb3
  go_wp2_with fail
  go_ret
  exact ⟨by first | rfl | (simp; done), HB3.out⟩
set_option maxRecDepth 100000 in
set_option maxHeartbeats 3200000 in
theorem svalid_3 (va : Value) (sa : Bool) (aa ba : List Nat) (ta : Bool) (ca da : List Nat) (w : World) (ha : SpV w va sa aa ba ta ca da) (la : aa.length ≤ 40000) (lb : ba.length ≤ 40000) (lc : ca.length ≤ 40000) (ld : da.length ≤ 40000) (hv : Vld sa aa ba) (hu : Vld ta ca da) :
    Calls Tryd.prog 9 #[va] w (RetV w (.bool (decide (Vld sa aa ba ∧ Vld ta ca da ∧ rq sa aa ba ≤ rq ta ca da)))) := by
  have HBW := Lib.hid (Below.refl w.heap.size w)
  obtain ⟨qa, oa, na, ka, pa, ma, ra, qax, oax, nax, kax, pax, max, rax, rfl⟩ := ha.shape
  rw [show decide (Vld sa aa ba ∧ Vld ta ca da ∧ rq sa aa ba ≤ rq ta ca da) = decide (cq (rq sa aa ba) (rq ta ca da) ≤ 0) from by rw [decide_eq_decide, cq_le]; exact ⟨fun k => k.2.2, fun k => ⟨hv, hu, k⟩⟩]
  obtain ⟨n, hn⟩ : ∃ n, n = cq (rq sa aa ba) (rq ta ca da) := ⟨_, rfl⟩
  rw [← hn]; have HN := Lib.hid hn; clear hn
  have HV1 := Lib.hid (decide_eq_true hv); have HV2 := Lib.hid (decide_eq_true hu); clear hv hu
  have k1 : rl (rq sa aa ba) ≤ 40000 := rl_rq ha.lt.1.1 ha.lt.1.2 la lb (by decide); have k2 : rl (rq ta ca da) ≤ 40000 := rl_rq ha.lt.2.1 ha.lt.2.2 lc ld (by decide)
  have Fa := Lib.hid ha; clear ha
  have Fal := Lib.hid (spV_ends Fa.out).1; have Fah := Lib.hid (spV_ends Fa.out).2
  obtain ⟨w1, hw1⟩ : ∃ w1, w1 = w.alloc (.cells #[.bool qa, .slice oa na ka, .slice pa ma ra, .bool qax, .slice oax nax kax, .slice pax max rax] 26) := ⟨_, rfl⟩
  have hb1 : Below w.heap.size w w1 := by rw [hw1]; exact (Below.refl _ _).alloc (Nat.le_refl _) _
  have hx1 := heap_alloc_new w (.cells #[.bool qa, .slice oa na ka, .slice pa ma ra, .bool qax, .slice oax nax kax, .slice pax max rax] 26)
  obtain ⟨g1, hg1⟩ : ∃ g, g = w.heap.size := ⟨_, rfl⟩
  rw [← hw1, ← hg1] at hx1
  have lw1 : w.heap.size ≤ g1 := by rw [hg1]; exact HBW.out.size
  have HW1 := Lib.hid hw1; have HG1 := Lib.hid hg1; clear hw1 hg1
  have HB1 := Lib.hid (HBW.out.step hb1)
  have Fa := Lib.hid (Fa.out.below hb1)
  have Fal := Lib.hid (Fal.out.below hb1)
  have Fah := Lib.hid (Fah.out.below hb1)
  have BX1 := Lib.hid hx1; clear hb1 hx1
  go_enter Tryd.func9, Tryd.ntmps9
  obtain ⟨x1_0, x1_1, x1_2, x1_3, x1_4, x1_5⟩ := row6 BX1.out
  have hs := valid_any _ sa aa ba w1 Fal.out (by omega) (by omega)
  rw [HV1.out] at hs
  have HS := Lib.hid hs; clear hs
  try rw [HW1.out] at x1_0
  try rw [HG1.out] at x1_0
  try rw [HW1.out] at x1_1
  try rw [HG1.out] at x1_1
  try rw [HW1.out] at x1_2
  try rw [HG1.out] at x1_2
  try rw [HW1.out] at x1_3
  try rw [HG1.out] at x1_3
  try rw [HW1.out] at x1_4
  try rw [HG1.out] at x1_4
  try rw [HW1.out] at x1_5
  try rw [HG1.out] at x1_5
  go_wp2_with fail
  try rw [← HW1.out]
  try rw [← HG1.out]
  clear x1_0 x1_1 x1_2 x1_3 x1_4 x1_5
  (with_reducible refine HS.out.mono ?_); rintro e w2 ⟨rfl, hb2⟩
  clear HS
  have HB2 := Lib.hid (HB1.out.step hb2)
  have Fa := Lib.hid (Fa.out.below hb2)
  have Fal := Lib.hid (Fal.out.below hb2)
  have Fah := Lib.hid (Fah.out.below hb2)
  have BX1 := Lib.hid (heap_below BX1.out hb2)
  clear hb2
  obtain ⟨x2_0, x2_1, x2_2, x2_3, x2_4, x2_5⟩ := row6 BX1.out
  have hs := valid_any _ ta ca da w2 Fah.out (by omega) (by omega)
  rw [HV2.out] at hs
  have HS := Lib.hid hs; clear hs
  go_wp2_with fail
  clear x2_0 x2_1 x2_2 x2_3 x2_4 x2_5
  (with_reducible refine HS.out.mono ?_); rintro e w3 ⟨rfl, hb3⟩
  clear HS
  have HB3 := Lib.hid (HB2.out.step hb3)
  have Fa := Lib.hid (Fa.out.below hb3)
  have Fal := Lib.hid (Fal.out.below hb3)
  have Fah := Lib.hid (Fah.out.below hb3)
  have BX1 := Lib.hid (heap_below BX1.out hb3)
  clear hb3
  obtain ⟨x3_0, x3_1, x3_2, x3_3, x3_4, x3_5⟩ := row6 BX1.out
  obtain ⟨x4_0, x4_1, x4_2, x4_3, x4_4, x4_5⟩ := row6 BX1.out
  have hs := cmpq_any _ (rq sa aa ba) _ (rq ta ca da) w3 (Fal.out.is (by omega) (by omega)) (Fah.out.is (by omega) (by omega)) (by omega) (by omega)
  rw [← HN.out] at hs
  have HS := Lib.hid hs; clear hs
  go_wp2_with fail
  clear x3_0 x3_1 x3_2 x3_3 x3_4 x3_5 x4_0 x4_1 x4_2 x4_3 x4_4 x4_5
  (with_reducible refine HS.out.mono ?_); rintro e w4 ⟨rfl, hb4⟩
  clear HS
  have HB4 := Lib.hid (HB3.out.step hb4)
  have Fa := Lib.hid (Fa.out.below hb4)
  have Fal := Lib.hid (Fal.out.below hb4)
  have Fah := Lib.hid (Fah.out.below hb4)
  have BX1 := Lib.hid (heap_below BX1.out hb4)
  clear hb4
  go_wp2_with fail
  go_ret
  exact ⟨by first | rfl | (simp; done), HB4.out⟩
theorem svalid_any (va : Value) (sa : Bool) (aa ba : List Nat) (ta : Bool) (ca da : List Nat) (w : World) (ha : SpV w va sa aa ba ta ca da) (la : aa.length ≤ 40000) (lb : ba.length ≤ 40000) (lc : ca.length ≤ 40000) (ld : da.length ≤ 40000) :
    Calls Tryd.prog 9 #[va] w (RetV w (.bool (decide (Vld sa aa ba ∧ Vld ta ca da ∧ rq sa aa ba ≤ rq ta ca da)))) := by
  by_cases hv : Vld sa aa ba
  · by_cases hu : Vld ta ca da
    · exact svalid_3 va sa aa ba ta ca da w ha la lb lc ld hv hu
    · exact svalid_2 va sa aa ba ta ca da w ha la lb lc ld hv hu
  · exact svalid_1 va sa aa ba ta ca da w ha la lb lc ld hv
end Go.Proofs.YtaefimegiobkmaaDoor
/-
  Min, Max and the reference's: what they hand back.
  Conditions: each theorem's own.
-/
namespace Go.Proofs.YtaefimegiobkmaaDoor
open Go.RowKit Go.ChangeShapes Go.WideShapes

set_option maxRecDepth 100000 in
set_option maxHeartbeats 3200000 in
theorem minq_a (vp : Value) (p : Rat) (vu : Value) (u : Rat) (w : World) (hp : RatIs w vp p) (hu : RatIs w vu u) (hp2 : rl p ≤ 40000) (hu2 : rl u ≤ 40000) (hc : p ≤ u) :
    Calls Tryd.prog 48 #[vp, vu] w (RetR w p) := by
  obtain ⟨sp, op, np, cp, ap, mp, dp, rfl⟩ := hp.shape
  have hlp := hp.rl
  obtain ⟨su, ou, nu, cu, au, mu, du, rfl⟩ := hu.shape
  have hlu := hu.rl
  have hb0 := ((((Below.refl w.heap.size w).alloc (by first | (simp; done) | (simp; omega)) (.cells #[.bool sp, .slice op np cp, .slice ap mp dp] 24)).alloc (by first | (simp; done) | (simp; omega)) (.cells #[.bool su, .slice ou nu cu, .slice au mu du] 24)).alloc (by first | (simp; done) | (simp; omega)) (.cells #[.bool false, .slice none 0 0, .slice none 0 0] 24))
  have hxp := nest3_0 w (.cells #[.bool sp, .slice op np cp, .slice ap mp dp] 24) (.cells #[.bool su, .slice ou nu cu, .slice au mu du] 24) (.cells #[.bool false, .slice none 0 0, .slice none 0 0] 24)
  have hxu := nest3_1 w (.cells #[.bool sp, .slice op np cp, .slice ap mp dp] 24) (.cells #[.bool su, .slice ou nu cu, .slice au mu du] 24) (.cells #[.bool false, .slice none 0 0, .slice none 0 0] 24)
  have hxR := nest3_2 w (.cells #[.bool sp, .slice op np cp, .slice ap mp dp] 24) (.cells #[.bool su, .slice ou nu cu, .slice au mu du] 24) (.cells #[.bool false, .slice none 0 0, .slice none 0 0] 24)
  have hpp := hp.below hb0
  have hpu := hu.below hb0
  obtain ⟨w0, hw0⟩ : ∃ w0, w0 = (((w.alloc (.cells #[.bool sp, .slice op np cp, .slice ap mp dp] 24)).alloc (.cells #[.bool su, .slice ou nu cu, .slice au mu du] 24)).alloc (.cells #[.bool false, .slice none 0 0, .slice none 0 0] 24)) := ⟨_, rfl⟩
  rw [← hw0] at hb0 hxp hxu hxR hpp hpu
  have HB0 := Lib.hid hb0; have HW0 := Lib.hid hw0
  have BXp := Lib.hid hxp
  have BXu := Lib.hid hxu
  have BXR := Lib.hid hxR
  have Fp := Lib.hid hpp
  have Fu := Lib.hid hpu
  clear hb0 hw0 hxp hxu hxR hpp hp hpu hu
  have hc2 : cq p u ≤ 0 := by rw [cq_le]; exact hc
  obtain ⟨n, hn⟩ : ∃ n, n = cq p u := ⟨_, rfl⟩
  rw [← hn] at hc2
  have f1 : decide (n ≤ 0) = true := decide_eq_true hc2
  have HN := Lib.hid hn; clear hn hc hc2
  go_enter Tryd.func48, Tryd.ntmps48
  have hs := cmpq_any _ p _ u w0 Fp.out Fu.out hp2 hu2
  rw [← HN.out] at hs
  have HS := Lib.hid hs; clear hs
  go_wp2_with fail
  rw [← HW0.out]
  (with_reducible refine HS.out.mono ?_); rintro e w1 ⟨rfl, hb1⟩
  clear HS
  have HB1 := Lib.hid (HB0.out.step hb1)
  have Fp := Lib.hid (Fp.out.below hb1)
  have Fu := Lib.hid (Fu.out.below hb1)
  have BXp := Lib.hid (heap_below BXp.out hb1)
  have BXu := Lib.hid (heap_below BXu.out hb1)
  have BXR := Lib.hid (heap_below BXR.out hb1)
  clear hb1
  have hs := same_any _ p w1 Fp.out
  have HS := Lib.hid hs; clear hs
  obtain ⟨ep0, ep1, ep2⟩ := row3 BXp.out
  go_wp2_with fail
  clear ep0 ep1 ep2
  (with_reducible refine HS.out.mono ?_); rintro e w2 ⟨v2, rfl, hb2, hn2⟩
  clear HS
  have HB2 := Lib.hid (HB1.out.step hb2)
  have Fp := Lib.hid (Fp.out.below hb2)
  have Fu := Lib.hid (Fu.out.below hb2)
  have BXp := Lib.hid (heap_below BXp.out hb2)
  have BXu := Lib.hid (heap_below BXu.out hb2)
  have BXR := Lib.hid (heap_below BXR.out hb2)
  have Q := Lib.hid hn2; clear hn2
  clear hb2
  obtain ⟨sQ, oQ, nQ, cQ, aQ, mQ, dQ, rfl⟩ := Q.out.shape
  obtain ⟨eR0, eR1, eR2⟩ := row3 BXR.out
  obtain ⟨fR0, fR1, fR2⟩ := froz3 BXR.out
  go_wp2_with fail
  clear eR0 eR1 eR2 fR0 fR1 fR2
  refine ret_rat rfl (w.heap.size + 2) _ _ _ rfl (put3_heap BXR.out) rfl ?_
  exact ⟨_, rfl, put3_below HB2.out (by omega) _ _ _, isR_put Q.out BXR.out⟩
set_option maxRecDepth 100000 in
set_option maxHeartbeats 3200000 in
theorem minq_b (vp : Value) (p : Rat) (vu : Value) (u : Rat) (w : World) (hp : RatIs w vp p) (hu : RatIs w vu u) (hp2 : rl p ≤ 40000) (hu2 : rl u ≤ 40000) (hc : ¬ p ≤ u) :
    Calls Tryd.prog 48 #[vp, vu] w (RetR w u) := by
  obtain ⟨sp, op, np, cp, ap, mp, dp, rfl⟩ := hp.shape
  have hlp := hp.rl
  obtain ⟨su, ou, nu, cu, au, mu, du, rfl⟩ := hu.shape
  have hlu := hu.rl
  have hb0 := ((((Below.refl w.heap.size w).alloc (by first | (simp; done) | (simp; omega)) (.cells #[.bool sp, .slice op np cp, .slice ap mp dp] 24)).alloc (by first | (simp; done) | (simp; omega)) (.cells #[.bool su, .slice ou nu cu, .slice au mu du] 24)).alloc (by first | (simp; done) | (simp; omega)) (.cells #[.bool false, .slice none 0 0, .slice none 0 0] 24))
  have hxp := nest3_0 w (.cells #[.bool sp, .slice op np cp, .slice ap mp dp] 24) (.cells #[.bool su, .slice ou nu cu, .slice au mu du] 24) (.cells #[.bool false, .slice none 0 0, .slice none 0 0] 24)
  have hxu := nest3_1 w (.cells #[.bool sp, .slice op np cp, .slice ap mp dp] 24) (.cells #[.bool su, .slice ou nu cu, .slice au mu du] 24) (.cells #[.bool false, .slice none 0 0, .slice none 0 0] 24)
  have hxR := nest3_2 w (.cells #[.bool sp, .slice op np cp, .slice ap mp dp] 24) (.cells #[.bool su, .slice ou nu cu, .slice au mu du] 24) (.cells #[.bool false, .slice none 0 0, .slice none 0 0] 24)
  have hpp := hp.below hb0
  have hpu := hu.below hb0
  obtain ⟨w0, hw0⟩ : ∃ w0, w0 = (((w.alloc (.cells #[.bool sp, .slice op np cp, .slice ap mp dp] 24)).alloc (.cells #[.bool su, .slice ou nu cu, .slice au mu du] 24)).alloc (.cells #[.bool false, .slice none 0 0, .slice none 0 0] 24)) := ⟨_, rfl⟩
  rw [← hw0] at hb0 hxp hxu hxR hpp hpu
  have HB0 := Lib.hid hb0; have HW0 := Lib.hid hw0
  have BXp := Lib.hid hxp
  have BXu := Lib.hid hxu
  have BXR := Lib.hid hxR
  have Fp := Lib.hid hpp
  have Fu := Lib.hid hpu
  clear hb0 hw0 hxp hxu hxR hpp hp hpu hu
  have hc2 : ¬ cq p u ≤ 0 := by rw [cq_le]; exact hc
  obtain ⟨n, hn⟩ : ∃ n, n = cq p u := ⟨_, rfl⟩
  rw [← hn] at hc2
  have f1 : decide (n ≤ 0) = false := decide_eq_false hc2
  have HN := Lib.hid hn; clear hn hc hc2
  go_enter Tryd.func48, Tryd.ntmps48
  have hs := cmpq_any _ p _ u w0 Fp.out Fu.out hp2 hu2
  rw [← HN.out] at hs
  have HS := Lib.hid hs; clear hs
  go_wp2_with fail
  rw [← HW0.out]
  (with_reducible refine HS.out.mono ?_); rintro e w1 ⟨rfl, hb1⟩
  clear HS
  have HB1 := Lib.hid (HB0.out.step hb1)
  have Fp := Lib.hid (Fp.out.below hb1)
  have Fu := Lib.hid (Fu.out.below hb1)
  have BXp := Lib.hid (heap_below BXp.out hb1)
  have BXu := Lib.hid (heap_below BXu.out hb1)
  have BXR := Lib.hid (heap_below BXR.out hb1)
  clear hb1
  have hs := same_any _ u w1 Fu.out
  have HS := Lib.hid hs; clear hs
  obtain ⟨eu0, eu1, eu2⟩ := row3 BXu.out
  go_wp2_with fail
  clear eu0 eu1 eu2
  (with_reducible refine HS.out.mono ?_); rintro e w2 ⟨v2, rfl, hb2, hn2⟩
  clear HS
  have HB2 := Lib.hid (HB1.out.step hb2)
  have Fp := Lib.hid (Fp.out.below hb2)
  have Fu := Lib.hid (Fu.out.below hb2)
  have BXp := Lib.hid (heap_below BXp.out hb2)
  have BXu := Lib.hid (heap_below BXu.out hb2)
  have BXR := Lib.hid (heap_below BXR.out hb2)
  have Q := Lib.hid hn2; clear hn2
  clear hb2
  obtain ⟨sQ, oQ, nQ, cQ, aQ, mQ, dQ, rfl⟩ := Q.out.shape
  obtain ⟨eR0, eR1, eR2⟩ := row3 BXR.out
  obtain ⟨fR0, fR1, fR2⟩ := froz3 BXR.out
  go_wp2_with fail
  clear eR0 eR1 eR2 fR0 fR1 fR2
  refine ret_rat rfl (w.heap.size + 2) _ _ _ rfl (put3_heap BXR.out) rfl ?_
  exact ⟨_, rfl, put3_below HB2.out (by omega) _ _ _, isR_put Q.out BXR.out⟩
theorem minq_any (vp : Value) (p : Rat) (vu : Value) (u : Rat) (w : World) (hp : RatIs w vp p) (hu : RatIs w vu u) (hlp2 : rl p ≤ 40000) (hlu2 : rl u ≤ 40000) :
    Calls Tryd.prog 48 #[vp, vu] w (RetR w (mn p u)) := by
  unfold mn
  by_cases h : p ≤ u
  · rw [if_pos h]; exact minq_a vp p vu u w hp hu hlp2 hlu2 h
  · rw [if_neg h]; exact minq_b vp p vu u w hp hu hlp2 hlu2 h
set_option maxRecDepth 100000 in
set_option maxHeartbeats 3200000 in
theorem maxq_a (vp : Value) (p : Rat) (vu : Value) (u : Rat) (w : World) (hp : RatIs w vp p) (hu : RatIs w vu u) (hp2 : rl p ≤ 40000) (hu2 : rl u ≤ 40000) (hc : u ≤ p) :
    Calls Tryd.prog 47 #[vp, vu] w (RetR w p) := by
  obtain ⟨sp, op, np, cp, ap, mp, dp, rfl⟩ := hp.shape
  have hlp := hp.rl
  obtain ⟨su, ou, nu, cu, au, mu, du, rfl⟩ := hu.shape
  have hlu := hu.rl
  have hb0 := ((((Below.refl w.heap.size w).alloc (by first | (simp; done) | (simp; omega)) (.cells #[.bool sp, .slice op np cp, .slice ap mp dp] 24)).alloc (by first | (simp; done) | (simp; omega)) (.cells #[.bool su, .slice ou nu cu, .slice au mu du] 24)).alloc (by first | (simp; done) | (simp; omega)) (.cells #[.bool false, .slice none 0 0, .slice none 0 0] 24))
  have hxp := nest3_0 w (.cells #[.bool sp, .slice op np cp, .slice ap mp dp] 24) (.cells #[.bool su, .slice ou nu cu, .slice au mu du] 24) (.cells #[.bool false, .slice none 0 0, .slice none 0 0] 24)
  have hxu := nest3_1 w (.cells #[.bool sp, .slice op np cp, .slice ap mp dp] 24) (.cells #[.bool su, .slice ou nu cu, .slice au mu du] 24) (.cells #[.bool false, .slice none 0 0, .slice none 0 0] 24)
  have hxR := nest3_2 w (.cells #[.bool sp, .slice op np cp, .slice ap mp dp] 24) (.cells #[.bool su, .slice ou nu cu, .slice au mu du] 24) (.cells #[.bool false, .slice none 0 0, .slice none 0 0] 24)
  have hpp := hp.below hb0
  have hpu := hu.below hb0
  obtain ⟨w0, hw0⟩ : ∃ w0, w0 = (((w.alloc (.cells #[.bool sp, .slice op np cp, .slice ap mp dp] 24)).alloc (.cells #[.bool su, .slice ou nu cu, .slice au mu du] 24)).alloc (.cells #[.bool false, .slice none 0 0, .slice none 0 0] 24)) := ⟨_, rfl⟩
  rw [← hw0] at hb0 hxp hxu hxR hpp hpu
  have HB0 := Lib.hid hb0; have HW0 := Lib.hid hw0
  have BXp := Lib.hid hxp
  have BXu := Lib.hid hxu
  have BXR := Lib.hid hxR
  have Fp := Lib.hid hpp
  have Fu := Lib.hid hpu
  clear hb0 hw0 hxp hxu hxR hpp hp hpu hu
  have hc2 : 0 ≤ cq p u := by rw [cq_ge]; exact hc
  obtain ⟨n, hn⟩ : ∃ n, n = cq p u := ⟨_, rfl⟩
  rw [← hn] at hc2
  have f1 : decide (0 ≤ n) = true := decide_eq_true hc2
  have HN := Lib.hid hn; clear hn hc hc2
  go_enter Tryd.func47, Tryd.ntmps47
  have hs := cmpq_any _ p _ u w0 Fp.out Fu.out hp2 hu2
  rw [← HN.out] at hs
  have HS := Lib.hid hs; clear hs
  go_wp2_with fail
  rw [← HW0.out]
  (with_reducible refine HS.out.mono ?_); rintro e w1 ⟨rfl, hb1⟩
  clear HS
  have HB1 := Lib.hid (HB0.out.step hb1)
  have Fp := Lib.hid (Fp.out.below hb1)
  have Fu := Lib.hid (Fu.out.below hb1)
  have BXp := Lib.hid (heap_below BXp.out hb1)
  have BXu := Lib.hid (heap_below BXu.out hb1)
  have BXR := Lib.hid (heap_below BXR.out hb1)
  clear hb1
  have hs := same_any _ p w1 Fp.out
  have HS := Lib.hid hs; clear hs
  obtain ⟨ep0, ep1, ep2⟩ := row3 BXp.out
  go_wp2_with fail
  clear ep0 ep1 ep2
  (with_reducible refine HS.out.mono ?_); rintro e w2 ⟨v2, rfl, hb2, hn2⟩
  clear HS
  have HB2 := Lib.hid (HB1.out.step hb2)
  have Fp := Lib.hid (Fp.out.below hb2)
  have Fu := Lib.hid (Fu.out.below hb2)
  have BXp := Lib.hid (heap_below BXp.out hb2)
  have BXu := Lib.hid (heap_below BXu.out hb2)
  have BXR := Lib.hid (heap_below BXR.out hb2)
  have Q := Lib.hid hn2; clear hn2
  clear hb2
  obtain ⟨sQ, oQ, nQ, cQ, aQ, mQ, dQ, rfl⟩ := Q.out.shape
  obtain ⟨eR0, eR1, eR2⟩ := row3 BXR.out
  obtain ⟨fR0, fR1, fR2⟩ := froz3 BXR.out
  go_wp2_with fail
  clear eR0 eR1 eR2 fR0 fR1 fR2
  refine ret_rat rfl (w.heap.size + 2) _ _ _ rfl (put3_heap BXR.out) rfl ?_
  exact ⟨_, rfl, put3_below HB2.out (by omega) _ _ _, isR_put Q.out BXR.out⟩
set_option maxRecDepth 100000 in
set_option maxHeartbeats 3200000 in
theorem maxq_b (vp : Value) (p : Rat) (vu : Value) (u : Rat) (w : World) (hp : RatIs w vp p) (hu : RatIs w vu u) (hp2 : rl p ≤ 40000) (hu2 : rl u ≤ 40000) (hc : ¬ u ≤ p) :
    Calls Tryd.prog 47 #[vp, vu] w (RetR w u) := by
  obtain ⟨sp, op, np, cp, ap, mp, dp, rfl⟩ := hp.shape
  have hlp := hp.rl
  obtain ⟨su, ou, nu, cu, au, mu, du, rfl⟩ := hu.shape
  have hlu := hu.rl
  have hb0 := ((((Below.refl w.heap.size w).alloc (by first | (simp; done) | (simp; omega)) (.cells #[.bool sp, .slice op np cp, .slice ap mp dp] 24)).alloc (by first | (simp; done) | (simp; omega)) (.cells #[.bool su, .slice ou nu cu, .slice au mu du] 24)).alloc (by first | (simp; done) | (simp; omega)) (.cells #[.bool false, .slice none 0 0, .slice none 0 0] 24))
  have hxp := nest3_0 w (.cells #[.bool sp, .slice op np cp, .slice ap mp dp] 24) (.cells #[.bool su, .slice ou nu cu, .slice au mu du] 24) (.cells #[.bool false, .slice none 0 0, .slice none 0 0] 24)
  have hxu := nest3_1 w (.cells #[.bool sp, .slice op np cp, .slice ap mp dp] 24) (.cells #[.bool su, .slice ou nu cu, .slice au mu du] 24) (.cells #[.bool false, .slice none 0 0, .slice none 0 0] 24)
  have hxR := nest3_2 w (.cells #[.bool sp, .slice op np cp, .slice ap mp dp] 24) (.cells #[.bool su, .slice ou nu cu, .slice au mu du] 24) (.cells #[.bool false, .slice none 0 0, .slice none 0 0] 24)
  have hpp := hp.below hb0
  have hpu := hu.below hb0
  obtain ⟨w0, hw0⟩ : ∃ w0, w0 = (((w.alloc (.cells #[.bool sp, .slice op np cp, .slice ap mp dp] 24)).alloc (.cells #[.bool su, .slice ou nu cu, .slice au mu du] 24)).alloc (.cells #[.bool false, .slice none 0 0, .slice none 0 0] 24)) := ⟨_, rfl⟩
  rw [← hw0] at hb0 hxp hxu hxR hpp hpu
  have HB0 := Lib.hid hb0; have HW0 := Lib.hid hw0
  have BXp := Lib.hid hxp
  have BXu := Lib.hid hxu
  have BXR := Lib.hid hxR
  have Fp := Lib.hid hpp
  have Fu := Lib.hid hpu
  clear hb0 hw0 hxp hxu hxR hpp hp hpu hu
  have hc2 : ¬ 0 ≤ cq p u := by rw [cq_ge]; exact hc
  obtain ⟨n, hn⟩ : ∃ n, n = cq p u := ⟨_, rfl⟩
  rw [← hn] at hc2
  have f1 : decide (0 ≤ n) = false := decide_eq_false hc2
  have HN := Lib.hid hn; clear hn hc hc2
  go_enter Tryd.func47, Tryd.ntmps47
  have hs := cmpq_any _ p _ u w0 Fp.out Fu.out hp2 hu2
  rw [← HN.out] at hs
  have HS := Lib.hid hs; clear hs
  go_wp2_with fail
  rw [← HW0.out]
  (with_reducible refine HS.out.mono ?_); rintro e w1 ⟨rfl, hb1⟩
  clear HS
  have HB1 := Lib.hid (HB0.out.step hb1)
  have Fp := Lib.hid (Fp.out.below hb1)
  have Fu := Lib.hid (Fu.out.below hb1)
  have BXp := Lib.hid (heap_below BXp.out hb1)
  have BXu := Lib.hid (heap_below BXu.out hb1)
  have BXR := Lib.hid (heap_below BXR.out hb1)
  clear hb1
  have hs := same_any _ u w1 Fu.out
  have HS := Lib.hid hs; clear hs
  obtain ⟨eu0, eu1, eu2⟩ := row3 BXu.out
  go_wp2_with fail
  clear eu0 eu1 eu2
  (with_reducible refine HS.out.mono ?_); rintro e w2 ⟨v2, rfl, hb2, hn2⟩
  clear HS
  have HB2 := Lib.hid (HB1.out.step hb2)
  have Fp := Lib.hid (Fp.out.below hb2)
  have Fu := Lib.hid (Fu.out.below hb2)
  have BXp := Lib.hid (heap_below BXp.out hb2)
  have BXu := Lib.hid (heap_below BXu.out hb2)
  have BXR := Lib.hid (heap_below BXR.out hb2)
  have Q := Lib.hid hn2; clear hn2
  clear hb2
  obtain ⟨sQ, oQ, nQ, cQ, aQ, mQ, dQ, rfl⟩ := Q.out.shape
  obtain ⟨eR0, eR1, eR2⟩ := row3 BXR.out
  obtain ⟨fR0, fR1, fR2⟩ := froz3 BXR.out
  go_wp2_with fail
  clear eR0 eR1 eR2 fR0 fR1 fR2
  refine ret_rat rfl (w.heap.size + 2) _ _ _ rfl (put3_heap BXR.out) rfl ?_
  exact ⟨_, rfl, put3_below HB2.out (by omega) _ _ _, isR_put Q.out BXR.out⟩
theorem maxq_any (vp : Value) (p : Rat) (vu : Value) (u : Rat) (w : World) (hp : RatIs w vp p) (hu : RatIs w vu u) (hlp2 : rl p ≤ 40000) (hlu2 : rl u ≤ 40000) :
    Calls Tryd.prog 47 #[vp, vu] w (RetR w (mx p u)) := by
  unfold mx
  by_cases h : u ≤ p
  · rw [if_pos h]; exact maxq_a vp p vu u w hp hu hlp2 hlu2 h
  · rw [if_neg h]; exact maxq_b vp p vu u w hp hu hlp2 hlu2 h
end Go.Proofs.YtaefimegiobkmaaDoor
/-
  Stores of several cells, one operation at a time: the walk stands before a store, the store's law names the world behind it.
  Conditions: each theorem's own.
-/
namespace Go.Proofs.YtaefimegiobkmaaDoor
open Go.RowKit Go.ChangeShapes Go.WideShapes

/-- the walk stands here -/
def Pause (p : Prop) : Prop := p
theorem Pause.mk {p : Prop} (h : p) : Pause p := h
theorem wpList_pauseS {P : Program} {ops : Array Oper} {rest : List Oper} {a : Act} {w : World} {Q : Exit → Act → World → Prop} {d : Option Tmp} {ty tt : TypeId} {x y : Operand} {pos : String} {af : Array Edge}
    (h : Pause (wpList P ops Q (⟨d, .store ty x y, tt, pos, af, none⟩ :: rest) a w)) : wpList P ops Q (⟨d, .store ty x y, tt, pos, af, none⟩ :: rest) a w := h
theorem putL_eq : ∀ (l : List Value) (w : World) (g off : Nat), w.setCells g off l = putL w g off l
  | [], _, _, _ => rfl
  | x :: l, w, g, off => by unfold putL World.setCells; exact putL_eq l _ _ _
theorem there_row {w : World} {g : Nat} {cs : Array Value} {T : TypeId} (h : w.heap[g]? = some (.cells cs T)) {off n : Nat} (hn : off + n ≤ cs.size) : w.there g off n := by
  intro j hj
  refine ⟨?_, ?_⟩
  · rw [cell_of_row w g (off + j) cs T (0, 0) h, Array.getElem?_eq_getElem (show off + j < cs.size by omega)]; rfl
  · simp [World.frozen?, h]
theorem wpList_stL {P : Program} {ops : Array Oper} {rest : List Oper} {a : Act} {w : World} {Q : Exit → Act → World → Prop} {ty tt : TypeId} {x y : Operand} {pos : String} {af : Array Edge}
    (g off : Nat) (l : List Value) {cs : Array Value} {T : TypeId} (hg : w.heap[g]? = some (.cells cs T)) (hx : a.eval x = .pointer (some ⟨g, off, none⟩)) (hy : a.eval y = .agg l.toArray)
    (hle : off + l.length ≤ cs.size) (hi : (P.info? ty).map (·.size) = some l.length) (h1 : l.all (fun v => v.oneCell') = true) (hK : ∀ w', w' = putL w g off l → wpList P ops Q rest a w') :
    Pause (wpList P ops Q (⟨none, .store ty x y, tt, pos, af, none⟩ :: rest) a w) := by
  refine wpList_store_mid rfl ty x y rfl g off l.toArray hx hy (there_row hg (by simpa using hle)) (by simpa using hi) (all_oneCell_toArray (fun v hv => List.all_eq_true.1 h1 v hv)) ?_
  exact hK _ (putL_eq _ _ _ _)
theorem pauseCall {P : Program} {f : FuncId} {args : Array Value} {w : World} {R : Ending → World → Prop} (h : Pause (Calls P f args w R)) : Calls P f args w R := h
theorem pauseLoop {P : Program} {b : Code} {Q : Exit → Act → World → Prop} {a : Act} {w : World} (h : Pause (Code.wp P (.loop b) Q a w)) : Code.wp P (.loop b) Q a w := h
theorem pauseDraw {P : Program} {n : Nat} {ops : Array Oper} {Q : Exit → Act → World → Prop} {a : Act} {w : World} (h : Pause (Code.wp P (.region n ops true) Q a w)) : Code.wp P (.region n ops true) Q a w := h
theorem pauseBody {P : Program} {fn : Func} {R : Ending → World → Prop} {x : Exit} {a : Act} {w : World} (h : Pause (bodyPost P fn R x a w)) : bodyPost P fn R x a w := h
theorem pauseRounds {P : Program} {b : Code} {Q : Exit → Act → World → Prop} {n : Nat} {a : Act} {w : World} (h : Pause (Code.rounds P b Q n a w)) : Code.rounds P b Q n a w := h
end Go.Proofs.YtaefimegiobkmaaDoor
