/-
  The texts Nat4, RatMath, Rat3, Rat4, Rat5, FmMath2, TrMath, SpanMath, Rat7, Rat8, Rat10, Rat11, Span0, TrMath2, TrMath3, TrMath4, TrMath9, Rat12, Rat14, Rat15p, OpenR, Close, Vl, Pd0, SpanMath2, Span1, one behind the other (what the law leans on, the rest).
  Conditions: each theorem's own.
-/
import Derived.Test.YthhgfhdmfhnklaaGreatDoorMW7
/-
  The reference's Add, natural.Sub and the reference's: what they hand back.
  Conditions: each theorem's own.
-/
namespace Go.Proofs.YthhgfhdmfhnklaaGreatDoor
open Go.RowKit Go.ChangeShapes Go.WideShapes

set_option maxRecDepth 100000 in
set_option maxHeartbeats 800000 in
theorem radd_any (va vb : Value) (a b : List Nat) (w : World) (ha : Num w va a) (hb : Num w vb b) (hla : a.length ≤ 900000) (hlb : b.length ≤ 900000) :
    Calls Tryz.prog 134 #[va, vb] w (RetNum w fun r => r = wd (val a + val b)) := by
  obtain ⟨ao, ca, rfl, hca, hca2, _⟩ := ha.shape
  obtain ⟨bo, cb, rfl, hcb, hcb2, _⟩ := hb.shape
  obtain ⟨n, hn⟩ : ∃ n, n = max a.length b.length + 1 := ⟨_, rfl⟩
  have hnb : n ≤ 900001 := by omega
  have hni : max (a.length : Int) (b.length : Int) + 1 = (n : Int) := by omega
  have HN := Lib.hid hn
  have HA := Lib.hid ha; have HB := Lib.hid hb
  clear hn ha hb
  go_enter Tryz.func134, Tryz.ntmps134
  go_wp2_with fail
  have HNI := Lib.hid hni; clear hni
  go_loopw [5, 6, 15] (fun v c i wr => ∃ (k cc : Nat) (l : List Nat), k ≤ n ∧ i = .int .i64 k ∧ c = .int .u64 cc ∧ cc ≤ 1 ∧ OwnW 156 wr w.heap.size v l ∧ Hid (l.length = k) ∧ Below w.heap.size w wr ∧
      Hid (val l + 4294967296 ^ k * cc = val (a.take k) + val (b.take k))) (fun _ _ i _ => n - (intOf i).toNat)
  case atStart => exact ⟨0, 0, [], Nat.zero_le _, rfl, rfl, by omega, OwnW.nil _ _ _, Lib.hid rfl, Below.refl _ _, Lib.hid (by simp [val])⟩
  case round =>
    obtain ⟨k, cc, l, hk, rfl, rfl, hcc, hOr, hll, hBr, hinv⟩ := hrel
    have hak := HA.out.lt k
    have hbk := HB.out.lt k
    have har := Lib.hid (HA.out.below hBr)
    have hbr := Lib.hid (HB.out.below hBr)
    by_cases hkn : k < n
    · obtain ⟨x, hx⟩ : ∃ x, x = gd a k := ⟨_, rfl⟩
      obtain ⟨y, hy⟩ : ∃ y, y = gd b k := ⟨_, rfl⟩
      have hwa := rword_any _ a k wr har.out (by omega) (by omega)
      have hwb := rword_any _ b k wr hbr.out (by omega) (by omega)
      rw [Int.toNat_natCast, ← hx] at hwa
      rw [Int.toNat_natCast, ← hy] at hwb
      rw [← hx] at hak
      rw [← hy] at hbk
      have HWA := Lib.hid hwa; have HWB := Lib.hid hwb; have HX := Lib.hid hx; have HY := Lib.hid hy; clear hwa hwb hx hy
      have HO := Lib.hid hOr
      obtain ⟨s1, s2⟩ := add_bounds hcc hak hbk
      have h1 := num_one wr 156 ((cc + (x + y)) % 4294967296) s2
      have S2 := Lib.hid s2; have S1 := Lib.hid s1
      have hszr := hBr.size
      have H1 := Lib.hid h1
      have e1 : cc + (x + y) = x + y + cc := by omega
      have E1 := Lib.hid e1
      clear hOr s1 s2 h1 e1
      rw [E1.out] at H1 S1 S2
      go_wp2_with (first | (go_at_call 159; (with_reducible refine HWA.out.mono ?_); rintro e w' ⟨rfl, rfl⟩) | (go_at_call 159; (with_reducible refine HWB.out.mono ?_); rintro e w' ⟨rfl, rfl⟩) |
        (at_builtin; refine wpList_appendN Tryz.wordsTy rfl (.tmp 27) (.tmp 30) rfl w.heap.size _ _ l [(x + y + cc) % 4294967296] rfl rfl (HO.out.alloc _) H1.out ?c1 ?c2 ?_))
      case c1 => rw [hll.out]; simp; omega
      case c2 => simp; omega
      intro v' w1 h1 h2 h3
      have h4 := h2 w (hBr.alloc hszr _)
      go_wp2_with fail
      go_roundw
      case rel =>
        exact ⟨k + 1, (x + y + cc) / 4294967296, l ++ [(x + y + cc) % 4294967296], by omega, by go_num, rfl, S1.out, h1, Lib.hid (by rw [List.length_append, hll.out]; rfl), h4,
          Lib.hid (by rw [val_snoc, hll.out, Nat.pow_succ, ← E1.out, add_step hinv.out, val_take_succ, val_take_succ, ← HX.out, ← HY.out])⟩
      case measure => simp [intOf]; omega
    · obtain rfl : k = n := by omega
      have hnum := hOr.num
      have hv : val l = val a + val b := by
        have := hinv.out
        rw [val_take_full a (by rw [HN.out]; omega), val_take_full b (by rw [HN.out]; omega)] at this
        exact add_end HA.out.lt HB.out.lt (by rw [HN.out]; omega) this
      have htr := rtrim_any _ _ _ hnum (by rw [hll.out]; omega)
      rw [hv] at htr
      have HT := Lib.hid htr; clear hnum hv htr
      have HL := hll.out
      go_wp2_with (go_at_call 160; (with_reducible refine HT.out.mono ?_); rintro e w' ⟨v', l', rfl, hB', hN', hl'⟩)
      go_ret
      exact ⟨_, _, rfl, hBr.trans (hB'.mono hBr.size), hN', hl'⟩

end Go.Proofs.YthhgfhdmfhnklaaGreatDoor
/-
  Fractions as rational numbers of Lean's core: sign, numerator, denominator, and what the operations on them give.
  Conditions: none.
-/
namespace Go.Proofs.YthhgfhdmfhnklaaGreatDoor

/-- the sign of a number -/
def sg (q : Rat) : Int := if q < 0 then -1 else if q = 0 then 0 else 1
theorem sg_eq (p : Rat) : sg p = if nn p = 0 then 0 else if ng p = true then -1 else 1 := by
  unfold sg ng
  by_cases h : p < 0
  · have : p ≠ 0 := by grind
    rw [if_pos h, if_neg (fun e => this (nn_eq_zero.1 e)), if_pos (decide_eq_true h)]
  · rw [if_neg h]
    by_cases h2 : p = 0
    · rw [if_pos h2, if_pos (nn_eq_zero.2 h2)]
    · rw [if_neg h2, if_neg (fun e => h2 (nn_eq_zero.1 e)), if_neg (by simp [h])]
theorem sg_sub (p q : Rat) : sg (p - q) = cq p q := by
  unfold sg cq; grind
theorem cq_ge (p q : Rat) : 0 ≤ cq p q ↔ q ≤ p := by
  unfold cq; split
  · grind
  · split <;> grind
end Go.Proofs.YthhgfhdmfhnklaaGreatDoor
/-
  The reference's Valid, Parts, From: what they hand back.
  Conditions: each theorem's own.
-/
namespace Go.Proofs.YthhgfhdmfhnklaaGreatDoor
open Go.RowKit Go.ChangeShapes Go.WideShapes

theorem blen_one_iff (g : Nat) : blen g = 1 ↔ g = 1 := by
  constructor
  · intro h
    have h0 : g ≠ 0 := fun e => by rw [e, blen_zero] at h; cases h
    have h1 := lt_two_blen g
    rw [h] at h1
    have : (2 : Nat) ^ 1 = 2 := rfl
    omega
  · intro h; subst h; decide
/-- what the reference's Valid reads -/
theorem vld_tops {s : Bool} {a b : List Nat} (ha : 0 < a.length) (hb : 0 < b.length) : Vld s a b ↔ gd a (a.length - 1) ≠ 0 ∧ gd b (b.length - 1) ≠ 0 ∧ Nat.gcd (val a) (val b) = 1 := by
  have na : a ≠ [] := fun e => by rw [e] at ha; simp at ha
  have nb : b ≠ [] := fun e => by rw [e] at hb; simp at hb
  rw [vld_parts (fun h => na h.1)]
  unfold Clean
  constructor
  · rintro ⟨⟨_, h1⟩, ⟨_, h2⟩, h3⟩
    exact ⟨h1.resolve_left na, h2.resolve_left nb, h3⟩
  · rintro ⟨h1, h2, h3⟩
    exact ⟨⟨na, .inr h1⟩, ⟨nb, .inr h2⟩, h3⟩
theorem vld_half {s : Bool} {a b : List Nat} (h : a = [] ∧ b ≠ [] ∨ a ≠ [] ∧ b = []) : ¬ Vld s a b := by
  rintro (⟨h1, h2, _⟩ | ⟨h1, h2, _⟩)
  · rcases h with ⟨_, h⟩ | ⟨h, _⟩
    · exact h h2
    · exact h h1
  · rcases h with ⟨h, _⟩ | ⟨_, h⟩
    · exact h1 h
    · exact h2 h

set_option maxRecDepth 100000 in
set_option maxHeartbeats 3200000 in
theorem rvalid_any (v : Value) (s : Bool) (a b : List Nat) (w : World) (h : RatV w v s a b) (hla : a.length ≤ 400000) (hlb : b.length ≤ 400000) :
    Calls Tryz.prog 123 #[v] w (RetV w (.bool (decide (Vld s a b)))) := by
  obtain ⟨va, vb, rfl, ha, hb⟩ := h
  obtain ⟨ao, ca, rfl, hca, hca2, _⟩ := ha.shape
  obtain ⟨bo, cb, rfl, hcb, hcb2, _⟩ := hb.shape
  have hbx : Below w.heap.size w (w.alloc (.cells #[.bool s, .slice ao a.length ca, .slice bo b.length cb] 54)) := (Below.refl _ _).alloc (Nat.le_refl _) _
  have HBX := Lib.hid hbx
  by_cases h1 : a.length = 0
  · obtain rfl := List.eq_nil_of_length_eq_zero h1
    by_cases h2 : b.length = 0
    · obtain rfl := List.eq_nil_of_length_eq_zero h2
      have e : decide (Vld s [] []) = !s := by cases s <;> rfl
      rw [e]
      clear ha hb e hbx h1 h2
      go_enter Tryz.func123, Tryz.ntmps123
      go_wp2_with fail
      go_quiet (fail)
      go_wp2_with fail
      go_ret
      exact ⟨rfl, below_drewN HBX.out _⟩
    · have hd : decide (Vld s [] b) = false := decide_eq_false (vld_half (.inl ⟨rfl, fun e => h2 (by rw [e]; rfl)⟩))
      rw [hd]
      have f1 : ((b.length : Int) == 0) = false := by rw [beq_eq_false_iff_ne]; omega
      clear ha hb hbx h1 h2 hd
      go_enter Tryz.func123, Tryz.ntmps123
      go_wp2_with fail
      go_quiet (fail)
      go_wp2_with fail
      go_ret
      exact ⟨rfl, below_drewN HBX.out _⟩
  · have f0 : ((a.length : Int) == 0) = false := by rw [beq_eq_false_iff_ne]; omega
    by_cases h2 : b.length = 0
    · obtain rfl := List.eq_nil_of_length_eq_zero h2
      have hd : decide (Vld s a []) = false := decide_eq_false (vld_half (.inr ⟨fun e => h1 (by rw [e]; rfl), rfl⟩))
      rw [hd]
      clear ha hb hbx h1 h2 hd
      go_enter Tryz.func123, Tryz.ntmps123
      go_wp2_with fail
      go_quiet (fail)
      go_wp2_with fail
      go_ret
      exact ⟨rfl, below_drewN HBX.out _⟩
    · have f1 : ((b.length : Int) == 0) = false := by rw [beq_eq_false_iff_ne]; omega
      have hd : decide (Vld s a b) = decide (gd a (a.length - 1) ≠ 0 ∧ gd b (b.length - 1) ≠ 0 ∧ Nat.gcd (val a) (val b) = 1) := decide_eq_decide.2 (vld_tops (by omega) (by omega))
      rw [hd]
      have HA := Lib.hid (ha.below hbx); have HB := Lib.hid (hb.below hbx)
      obtain ⟨ba, fa, rfl, _, hca'⟩ := ha.at (by omega)
      obtain ⟨bb, fb, rfl, _, hcb'⟩ := hb.at (by omega)
      have hxl := ha.lt (a.length - 1)
      have hyl := hb.lt (b.length - 1)
      have hxc : ∀ n, ((w.alloc (.cells #[.bool s, .slice (some ⟨ba, fa, none⟩) a.length ca, .slice (some ⟨bb, fb, none⟩) b.length cb] 54)).drewN n).cell? ⟨ba, fa + (a.length - 1), none⟩ = some (.int .u32 (gd a (a.length - 1) : Nat)) := fun n => by
        obtain ⟨b', o', e', _, h'⟩ := (((ha.below hbx).below (below_drewN (Below.refl _ _) n))).at (by omega)
        cases e'
        exact h' _ (by omega)
      have hyc : ∀ n, ((w.alloc (.cells #[.bool s, .slice (some ⟨ba, fa, none⟩) a.length ca, .slice (some ⟨bb, fb, none⟩) b.length cb] 54)).drewN n).cell? ⟨bb, fb + (b.length - 1), none⟩ = some (.int .u32 (gd b (b.length - 1) : Nat)) := fun n => by
        obtain ⟨b', o', e', _, h'⟩ := (((hb.below hbx).below (below_drewN (Below.refl _ _) n))).at (by omega)
        cases e'
        exact h' _ (by omega)
      obtain ⟨x, hx⟩ : ∃ x, x = gd a (a.length - 1) := ⟨_, rfl⟩
      obtain ⟨y, hy⟩ : ∃ y, y = gd b (b.length - 1) := ⟨_, rfl⟩
      rw [← hx] at hxc hxl
      rw [← hy] at hyc hyl
      rw [← hx, ← hy]
      have HXC := Lib.hid hxc; have HYC := Lib.hid hyc
      have hl1 := wd_length_le HA.out.lt
      have hg0 : x ≠ 0 → val a ≠ 0 := fun h e => by
        have := clean_eq HA.out.lt (.inr (by rw [← hx]; exact h))
        rw [e, wd_zero] at this; rw [this] at h1; simp at h1
      have HG0 := Lib.hid hg0
      clear ha hb hbx hd hx hy hca' hcb' hxc hyc hg0
      by_cases hx0 : x = 0
      · subst hx0
        have hd : decide ((0 : Nat) ≠ 0 ∧ y ≠ 0 ∧ Nat.gcd (val a) (val b) = 1) = false := decide_eq_false fun h => h.1 rfl
        rw [hd]
        clear hd
        go_enter Tryz.func123, Tryz.ntmps123
        go_wp2_with fail
        go_quiet (fail)
        have hxc := HXC.out nq; have hyc := HYC.out nq
        go_wp2_with fail
        go_ret
        exact ⟨rfl, below_drewN HBX.out _⟩
      · have fx : (bne (x : Int) 0) = true := by rw [bne_iff_ne]; omega
        by_cases hy0 : y = 0
        · subst hy0
          have hd : decide (x ≠ 0 ∧ (0 : Nat) ≠ 0 ∧ Nat.gcd (val a) (val b) = 1) = false := decide_eq_false fun h => h.2.1 rfl
          rw [hd]
          clear hd
          go_enter Tryz.func123, Tryz.ntmps123
          go_wp2_with fail
          go_quiet (fail)
          have hxc := HXC.out nq; have hyc := HYC.out nq
          go_wp2_with fail
          go_ret
          exact ⟨rfl, below_drewN HBX.out _⟩
        · have fy : (bne (y : Int) 0) = true := by rw [bne_iff_ne]; omega
          have hv0 := HG0.out hx0
          have hgl : (wd (Nat.gcd (val a) (val b))).length ≤ 400000 := by
            have h3 := wd_length_mono (Nat.le_of_dvd (Nat.pos_of_ne_zero hv0) (Nat.gcd_dvd_left (val a) (val b)))
            omega
          have hd : decide (x ≠ 0 ∧ y ≠ 0 ∧ Nat.gcd (val a) (val b) = 1) = decide (blen (Nat.gcd (val a) (val b)) = 1) := by
            rw [decide_eq_decide, blen_one_iff]; exact ⟨fun h => h.2.2, fun h => ⟨hx0, hy0, h⟩⟩
          rw [hd]
          have hg := fun n => rgcd_any _ _ _ _ _ (HA.out.below (below_drewN (Below.refl _ _) n)) (HB.out.below (below_drewN (Below.refl _ _) n)) (by omega) (by omega)
          obtain ⟨g, hge⟩ : ∃ g, g = Nat.gcd (val a) (val b) := ⟨_, rfl⟩
          rw [← hge] at hg hgl ⊢
          have HG := Lib.hid hg
          clear hd hge hg hv0 hx0 hy0
          go_enter Tryz.func123, Tryz.ntmps123
          go_wp2_with fail
          go_quiet (fail)
          have hxc := HXC.out nq; have hyc := HYC.out nq
          go_wp2_with fail
          (with_reducible refine (HG.out _).mono ?_); rintro e w1 ⟨v1, l1, rfl, hb1, hn1, rfl⟩
          have hbi := rbits_any _ _ w1 hn1 (by omega)
          rw [val_wd] at hbi
          obtain ⟨bl, hbl⟩ : ∃ bl, bl = blen g := ⟨_, rfl⟩
          rw [← hbl] at hbi
          have HBI := Lib.hid hbi; have HB1 := Lib.hid ((below_drewN HBX.out nq).step hb1); have HBL := Lib.hid hbl
          clear hbi hn1 hb1 hbl hxc hyc
          by_cases hb1 : bl = 1
          · subst hb1
            go_wp2_with fail
            (with_reducible refine HBI.out.mono ?_); rintro e w2 ⟨rfl, rfl⟩
            go_wp2_with fail
            go_ret
            exact ⟨by rw [decide_eq_true HBL.out.symm]; rfl, HB1.out⟩
          · have hbz : ((bl : Int) == 1) = false := by rw [beq_eq_false_iff_ne]; omega
            go_wp2_with fail
            (with_reducible refine HBI.out.mono ?_); rintro e w2 ⟨rfl, rfl⟩
            go_wp2_with fail
            go_ret
            exact ⟨by rw [decide_eq_false (fun e => hb1 (HBL.out.trans e))]; first | rfl | (simp; done) | (simp [hbz]; done), HB1.out⟩
end Go.Proofs.YthhgfhdmfhnklaaGreatDoor
/-
  The reference's Parts, From, and rational.From: what they hand back.
  Conditions: each theorem's own.
-/
namespace Go.Proofs.YthhgfhdmfhnklaaGreatDoor
open Go.RowKit Go.ChangeShapes Go.WideShapes

theorem num_one1 (w : World) : Num (w.alloc (.cells #[.int .u32 1] 156)) (.slice (some ⟨w.heap.size, 0, none⟩) 1 1) (wd 1) := by
  rw [wd_one (by decide) (by decide)]; exact num_one w 156 1 (by decide)
set_option maxRecDepth 100000 in
set_option maxHeartbeats 1600000 in
theorem rparts_any (v : Value) (q : Rat) (w : World) (h : RatIs w v q) :
    Calls Tryz.prog 132 #[v] w (RetParts w q) := by
  obtain ⟨s, a, b, hv, rfl, hla, hlb⟩ := h
  obtain ⟨va, vb, rfl, ha, hb⟩ := hv
  obtain ⟨ao, ca, rfl, hca, hca2, _⟩ := ha.shape
  obtain ⟨bo, cb, rfl, hcb, hcb2, _⟩ := hb.shape
  have hbx : Below w.heap.size w (w.alloc (.cells #[.bool s, .slice ao a.length ca, .slice bo b.length cb] 54)) := (Below.refl _ _).alloc (Nat.le_refl _) _
  have hvl := rvalid_any _ s a b _ (⟨_, _, rfl, ha.below hbx, hb.below hbx⟩ : RatV (w.alloc (.cells #[.bool s, .slice ao a.length ca, .slice bo b.length cb] 54)) _ s a b) (by omega) (by omega)
  by_cases h0 : rq s a b = 0
  · rw [h0]
    have hbad : decide (Vld s a b) = false ∨ decide (Vld s a b) = true ∧ a.length = 0 := by
      by_cases hv : Vld s a b
      · right
        obtain ⟨_, e, _⟩ := vld_fields ha.lt hb.lt hv
        rw [h0, nn_zero, wd_zero] at e
        exact ⟨decide_eq_true hv, by rw [e]; rfl⟩
      · left; exact decide_eq_false hv
    have HBX := Lib.hid hbx; clear hbx h0
    rcases hbad with hd | ⟨hd, hl⟩
    · rw [hd] at hvl
      have HV := Lib.hid hvl; clear hvl hd ha hb
      go_enter Tryz.func132, Tryz.ntmps132
      go_wp2_with fail
      (with_reducible refine HV.out.mono ?_); rintro e w1 ⟨rfl, hb1⟩
      go_wp2_with fail
      go_ret3
      exact ⟨_, _, rfl, (HBX.out.step hb1).alloc (HBX.out.step hb1).size _, by rw [nn_zero, wd_zero]; exact Num.nil _, num_one1 _⟩
    · rw [hd] at hvl
      have c1 := fun w1 (h : Below _ _ w1) => box_kept (w := w) (cs := #[.bool s, .slice ao a.length ca, .slice bo b.length cb]) (T := 54) (w1 := w1) h 1
      have C1 := Lib.hid c1
      have HV := Lib.hid hvl; have HL := Lib.hid hl; clear hvl hd c1 ha hb hl
      go_enter Tryz.func132, Tryz.ntmps132
      go_wp2_with fail
      (with_reducible refine HV.out.mono ?_); rintro e w1 ⟨rfl, hb1⟩
      have c1 : w1.cell? ⟨w.heap.size, 1, none⟩ = some (.slice ao a.length ca) := C1.out w1 hb1
      rw [HL.out] at c1
      go_wp2_with fail
      go_ret3
      exact ⟨_, _, rfl, (HBX.out.step hb1).alloc (HBX.out.step hb1).size _, by rw [nn_zero, wd_zero]; exact Num.nil _, num_one1 _⟩
  · have hv : Vld s a b := Decidable.byContradiction fun h => h0 (rq_invalid h)
    obtain ⟨e1, e2, e3⟩ := vld_fields ha.lt hb.lt hv
    rw [dn_pos h0] at e3
    have hl : ((a.length : Int) == 0) = false := by
      rw [beq_eq_false_iff_ne]
      intro h
      have : a = [] := List.eq_nil_of_length_eq_zero (by omega)
      rw [e2] at this
      exact wd_ne (fun e => h0 (nn_eq_zero.1 e)) this
    rw [decide_eq_true hv] at hvl
    have HE := Lib.hid (And.intro e1 (And.intro e2 e3)); have HBX := Lib.hid hbx; have HA := Lib.hid (ha.below hbx); have HB := Lib.hid (hb.below hbx); have HV := Lib.hid hvl
    have bk := fun w1 (h : Below _ _ w1) j => box_kept (w := w) (cs := #[.bool s, .slice ao a.length ca, .slice bo b.length cb]) (T := 54) (w1 := w1) h j
    have BK := Lib.hid bk
    clear e1 e2 e3 hbx ha hb hv hvl bk h0
    go_enter Tryz.func132, Tryz.ntmps132
    go_wp2_with fail
    (with_reducible refine HV.out.mono ?_); rintro e w1 ⟨rfl, hb1⟩
    have c0 : w1.cell? ⟨w.heap.size, 0, none⟩ = some (.bool s) := BK.out w1 hb1 0
    have c1 : w1.cell? ⟨w.heap.size, 1, none⟩ = some (.slice ao a.length ca) := BK.out w1 hb1 1
    have c2 : w1.cell? ⟨w.heap.size, 2, none⟩ = some (.slice bo b.length cb) := BK.out w1 hb1 2
    go_wp2_with fail
    go_quiet (fail)
    go_wp2_with fail
    go_ret3
    obtain ⟨e1, e2, e3⟩ := HE.out
    refine ⟨.slice ao a.length ca, .slice bo b.length cb, by rw [← e1]; rfl, below_drewN (HBX.out.step hb1) _, ?_, ?_⟩
    · rw [← e2]; exact (HA.out.below hb1).below (below_drewN (Below.refl _ _) _)
    · rw [← e3]; exact (HB.out.below hb1).below (below_drewN (Below.refl _ _) _)
end Go.Proofs.YthhgfhdmfhnklaaGreatDoor
/-
  Contracts on numbers by what they stand for; a fraction's cells behind a call.
  Conditions: each theorem's own.
-/
namespace Go.Proofs.YthhgfhdmfhnklaaGreatDoor
open Go.RowKit Go.ChangeShapes Go.WideShapes

section
variable {u v : Value} {m n : Nat} {w : World}
theorem raddN (h1 : Num w u (wd m)) (h2 : Num w v (wd n)) (l1 : (wd m).length ≤ 400000) (l2 : (wd n).length ≤ 400000) : Calls Tryz.prog 134 #[u, v] w (RetN w (m + n)) := by
  have h := radd_any u v _ _ w h1 h2 (by omega) (by omega)
  rw [val_wd, val_wd] at h; exact h.mono fun _ _ => RetNum.n
theorem rmulN (h1 : Num w u (wd m)) (h2 : Num w v (wd n)) (l1 : (wd m).length ≤ 400000) (l2 : (wd n).length ≤ 400000) : Calls Tryz.prog 133 #[u, v] w (RetN w (m * n)) := by
  have h := rmul_any u v _ _ w h1 h2 (by omega) (by omega)
  rw [val_wd, val_wd] at h; exact h.mono fun _ _ => RetNum.n
theorem rcmpN_ (h1 : Num w u (wd m)) (h2 : Num w v (wd n)) (l1 : (wd m).length ≤ 400000) (l2 : (wd n).length ≤ 400000) : Calls Tryz.prog 135 #[u, v] w (RetS w (.int .i64 (cmpN m n))) := by
  have h := rcmp_any u v _ _ w h1 h2 (by omega) (by omega)
  rw [val_wd, val_wd] at h; exact h
theorem rsubN (h1 : Num w u (wd m)) (h2 : Num w v (wd n)) (l1 : (wd m).length ≤ 400000) (l2 : (wd n).length ≤ 400000) (hle : n ≤ m) : Calls Tryz.prog 136 #[u, v] w (RetNE w (m - n) (.int .i64 0)) := by
  have h := rsub_ge u v _ _ w h1 h2 (by omega) (by omega) (by rw [val_wd, val_wd]; exact hle)
  rw [val_wd, val_wd] at h; exact h
theorem rfromN (s : Bool) (h1 : Num w u (wd m)) (h2 : Num w v (wd n)) (l1 : (wd m).length ≤ 400000) (l2 : (wd n).length ≤ 400000) : Calls Tryz.prog 107 #[.bool s, u, v] w (RetRE w (qm s m n) (.int .i64 (zc n : Nat))) := by
  have h := rfrom_any s u v _ _ w h1 h2 l1 l2
  rw [val_wd, val_wd] at h; exact h
end
end Go.Proofs.YthhgfhdmfhnklaaGreatDoor
/-
  Formulas: what is known of a value stays when more events are known; where all are known, all values are.
  Conditions: none.
-/
namespace Go.Proofs.YthhgfhdmfhnklaaGreatDoor

/-- a cube holds what another one holds, and no event twice -/
def cubeIn (yes no yes' no' : Nat) : Prop := (∀ i, yes.testBit i = true → yes'.testBit i = true) ∧ (∀ i, no.testBit i = true → no'.testBit i = true) ∧ ∀ i, yes'.testBit i = true → no'.testBit i = false
theorem ev3_fits {yes no yes' no' : Nat} (h : cubeIn yes no yes' no') (i : Nat) : fits3 (ev3 yes no i) (ev3 yes' no' i) := by
  obtain ⟨h1, h2, h3⟩ := h
  intro k
  unfold ev3 at k ⊢
  split at k
  · rename_i e; rw [if_pos e, if_pos (h1 i e)]
  · rename_i e
    split at k
    · rename_i e2
      have n1 := h2 i e2
      have n2 : ¬ yes'.testBit i = true := fun y => by rw [h3 i y] at n1; cases n1
      rw [if_neg e, if_pos e2, if_neg n2, if_pos n1]
    · exact absurd rfl k
/-- what a cube decides stays decided so -/
theorem fmVal_fits {f : Fm} (h : ndsOK f.vars 0 f.nodes) {yes no yes' no' : Nat} (hc : cubeIn yes no yes' no') : fits3 (fmVal f yes no) (fmVal f yes' no') := by
  have e : ∀ y n j, gd (valsE f.vars.toNat y n) j ≤ 2 := fun y n j => by
    rw [valsE_gd]; split
    · exact ev3_le _ _ _
    · decide
  exact (valsN_fits f.nodes 0 _ _ h (by rw [valsE_length, valsE_length]) (e _ _) (e _ _) (fun j => by
    rw [valsE_gd, valsE_gd]; split
    · exact ev3_fits hc j
    · exact fun _ => rfl)).2.2 _
end Go.Proofs.YthhgfhdmfhnklaaGreatDoor
/-
  Split trees in plain words: errors, leaves; weights of cubes: a cube's weight is its halves' sum.
  Conditions: none.
-/
namespace Go.Proofs.YthhgfhdmfhnklaaGreatDoor

theorem wtL_congr : ∀ (ps : List Rat) (i : Nat) (y n y' n' : Nat), (∀ j, i ≤ j → y.testBit j = y'.testBit j ∧ n.testBit j = n'.testBit j) → wtL ps i y n = wtL ps i y' n'
  | [], _, _, _, _, _, _ => rfl
  | p :: ps, i, y, n, y', n', h => by
    simp only [wtL]
    rw [(h i (Nat.le_refl _)).1, (h i (Nat.le_refl _)).2, wtL_congr ps (i + 1) y n y' n' (fun j hj => h j (by omega))]
theorem wtL_split : ∀ (ps : List Rat) (i y n v : Nat), i ≤ v → v < i + ps.length → y.testBit v = false → n.testBit v = false →
    wtL ps i y (n ||| 1 <<< v) + wtL ps i (y ||| 1 <<< v) n = wtL ps i y n
  | [], i, y, n, v, h1, h2, _, _ => by simp at h2; omega
  | p :: ps, i, y, n, v, h1, h2, hy, hn => by
    simp only [wtL]
    by_cases e : i = v
    · subst e
      have c1 : wtL ps (i + 1) y (n ||| 1 <<< i) = wtL ps (i + 1) y n := wtL_congr _ _ _ _ _ _ (fun j hj => ⟨rfl, by rw [bit_or]; simp; omega⟩)
      have c2 : wtL ps (i + 1) (y ||| 1 <<< i) n = wtL ps (i + 1) y n := wtL_congr _ _ _ _ _ _ (fun j hj => ⟨by rw [bit_or]; simp; omega, rfl⟩)
      rw [c1, c2, bit_or, bit_or, hy, hn]
      simp [wtAt]
      grind
    · have ih := wtL_split ps (i + 1) y n v (by omega) (by simp at h2; omega) hy hn
      have b1 : (n ||| 1 <<< v).testBit i = n.testBit i := by rw [bit_or]; simp [e]
      have b2 : (y ||| 1 <<< v).testBit i = y.testBit i := by rw [bit_or]; simp [e]
      rw [b1, b2, ← ih]
      grind
/-- the halves of a cube weigh what it weighs -/
theorem wt_split {ps : List Rat} {y n v : Nat} (hv : v < ps.length) (hy : y.testBit v = false) (hn : n.testBit v = false) :
    wt ps y (n ||| 1 <<< v) + wt ps (y ||| 1 <<< v) n = wt ps y n := wtL_split ps 0 y n v (Nat.zero_le _) (by omega) hy hn
theorem wtAt_range {p : Rat} (h0 : 0 ≤ p) (h1 : p ≤ 1) (a b : Bool) : 0 ≤ wtAt p a b ∧ wtAt p a b ≤ 1 := by
  unfold wtAt
  cases a <;> cases b <;> simp <;> constructor <;> grind
theorem mul_range {a b : Rat} (ha : 0 ≤ a ∧ a ≤ 1) (hb : 0 ≤ b ∧ b ≤ 1) : 0 ≤ a * b ∧ a * b ≤ 1 := by
  refine ⟨Rat.mul_nonneg ha.1 hb.1, ?_⟩
  have h1 : a * b ≤ 1 * b := Rat.mul_le_mul_of_nonneg_right ha.2 hb.1
  grind
theorem wtL_range : ∀ (ps : List Rat) (i y n : Nat), (∀ p ∈ ps, 0 ≤ p ∧ p ≤ 1) → 0 ≤ wtL ps i y n ∧ wtL ps i y n ≤ 1
  | [], _, _, _, _ => by simp only [wtL]; constructor <;> decide
  | p :: ps, i, y, n, h => by
    simp only [wtL]
    have hp := h p (List.mem_cons_self ..)
    exact mul_range (wtAt_range hp.1 hp.2 _ _) (wtL_range ps (i + 1) y n (fun q hq => h q (List.mem_cons_of_mem _ hq)))
/-- the weights of leaves with a test -/
def sumL (ps : List Rat) (t : Lf → Bool) : List Lf → Rat
  | [] => 0
  | x :: xs => (if t x then wt ps x.yes x.no else 0) + sumL ps t xs
theorem sumL_app (ps : List Rat) (t : Lf → Bool) : ∀ a b, sumL ps t (a ++ b) = sumL ps t a + sumL ps t b
  | [], b => by simp [sumL, Rat.zero_add]
  | x :: xs, b => by simp only [List.cons_append, sumL]; rw [sumL_app ps t xs b]; grind
theorem sumL_nonneg {ps : List Rat} (hp : ∀ p ∈ ps, 0 ≤ p ∧ p ≤ 1) (t : Lf → Bool) : ∀ l, 0 ≤ sumL ps t l
  | [] => by simp only [sumL]; decide
  | x :: xs => by
    simp only [sumL]
    have h1 := sumL_nonneg hp t xs
    have h2 := (wtL_range ps 0 x.yes x.no hp).1
    unfold wt
    split <;> grind
end Go.Proofs.YthhgfhdmfhnklaaGreatDoor
/-
  Closed intervals of rational numbers: least and greatest, sums, products, quotients, hulls and common parts.
  Conditions: none.
-/
namespace Go.Proofs.YthhgfhdmfhnklaaGreatDoor

theorem mn_self (p : Rat) : mn p p = p := by unfold mn; split <;> rfl
theorem mx_self (p : Rat) : mx p p = p := by unfold mx; split <;> rfl
theorem mn_of_le {p q : Rat} (h : p ≤ q) : mn p q = p := by unfold mn; rw [if_pos h]
theorem mx_of_le {p q : Rat} (h : p ≤ q) : mx p q = q := by unfold mx; split <;> grind
theorem rl_mn (p q : Rat) : rl (mn p q) ≤ max (rl p) (rl q) := by unfold mn; split <;> omega
theorem rl_mx (p q : Rat) : rl (mx p q) ≤ max (rl p) (rl q) := by unfold mx; split <;> omega

def around2 (p q : Rat) : Rat × Rat := (mn p q, mx p q)
theorem around2_le {p q : Rat} (h : p ≤ q) : around2 p q = (p, q) := by unfold around2; rw [mn_of_le h, mx_of_le h]
end Go.Proofs.YthhgfhdmfhnklaaGreatDoor
/-
  rational.size, Of, Make, Sub, Sign, Cmp, same, Min, Max, Div: what they hand back.
  Conditions: each theorem's own.
-/
namespace Go.Proofs.YthhgfhdmfhnklaaGreatDoor
open Go.RowKit Go.ChangeShapes Go.WideShapes

set_option maxRecDepth 100000 in
set_option maxHeartbeats 3200000 in
theorem same_any (vp : Value) (p : Rat) (w : World) (hp : RatIs w vp p)  :
    Calls Tryz.prog 158 #[vp] w (RetR w p) := by
  obtain ⟨sp, op, np, cp, ap, mp, dp, rfl⟩ := hp.shape
  have hlp := hp.rl
  have hb0 := (((Below.refl w.heap.size w).alloc (by first | (simp; done) | (simp; omega)) (.cells #[.bool sp, .slice op np cp, .slice ap mp dp] 54)).alloc (by first | (simp; done) | (simp; omega)) (.cells #[.bool false, .slice none 0 0, .slice none 0 0] 54))
  have hxp := nest2_0 w (.cells #[.bool sp, .slice op np cp, .slice ap mp dp] 54) (.cells #[.bool false, .slice none 0 0, .slice none 0 0] 54)
  have hxR := nest2_1 w (.cells #[.bool sp, .slice op np cp, .slice ap mp dp] 54) (.cells #[.bool false, .slice none 0 0, .slice none 0 0] 54)
  have hpp := hp.below hb0
  obtain ⟨w0, hw0⟩ : ∃ w0, w0 = ((w.alloc (.cells #[.bool sp, .slice op np cp, .slice ap mp dp] 54)).alloc (.cells #[.bool false, .slice none 0 0, .slice none 0 0] 54)) := ⟨_, rfl⟩
  rw [← hw0] at hb0 hxp hxR hpp
  have HB0 := Lib.hid hb0; have HW0 := Lib.hid hw0
  have BXp := Lib.hid hxp
  have BXR := Lib.hid hxR
  have Fp := Lib.hid hpp
  clear hb0 hw0 hxp hxR hpp hp
  have l1 := rl_n p; have l2 := rl_d p
  go_enter Tryz.func158, Tryz.ntmps158
  have hs := parts_any _ p w0 Fp.out
  have HS := Lib.hid hs; clear hs
  go_wp2_with fail
  rw [← HW0.out]
  (with_reducible refine HS.out.mono ?_); rintro e w1 ⟨v1, u1, rfl, hb1, hn1, hm1⟩
  clear HS
  have HB1 := Lib.hid (HB0.out.step hb1)
  have Fp := Lib.hid (Fp.out.below hb1)
  have BXp := Lib.hid (heap_below BXp.out hb1)
  have BXR := Lib.hid (heap_below BXR.out hb1)
  have N := Lib.hid hn1
  have D := Lib.hid hm1
  clear hn1 hm1
  clear hb1
  have hs := formN (ng p) N.out D.out (by omega) (by omega) p.den_nz
  rw [qm_self] at hs
  have HS := Lib.hid hs; clear hs
  go_wp2_with fail
  (with_reducible refine HS.out.mono ?_); rintro e w2 ⟨v2, rfl, hb2, hn2⟩
  clear HS
  have HB2 := Lib.hid (HB1.out.step hb2)
  have Fp := Lib.hid (Fp.out.below hb2)
  have N := Lib.hid (N.out.below hb2)
  have D := Lib.hid (D.out.below hb2)
  have BXp := Lib.hid (heap_below BXp.out hb2)
  have BXR := Lib.hid (heap_below BXR.out hb2)
  have Q := Lib.hid hn2; clear hn2
  clear hb2
  obtain ⟨sQ, oQ, nQ, cQ, aQ, mQ, dQ, rfl⟩ := Q.out.shape
  obtain ⟨eR0, eR1, eR2⟩ := row3 BXR.out
  obtain ⟨fR0, fR1, fR2⟩ := froz3 BXR.out
  go_wp2_with fail
  clear eR0 eR1 eR2 fR0 fR1 fR2
  refine ret_rat rfl (w.heap.size + 1) _ _ _ rfl (put3_heap BXR.out) rfl ?_
  exact ⟨_, rfl, put3_below HB2.out (by omega) _ _ _, isR_put Q.out BXR.out⟩
set_option maxRecDepth 100000 in
set_option maxHeartbeats 3200000 in
theorem sign_any (vp : Value) (p : Rat) (w : World) (hp : RatIs w vp p)  :
    Calls Tryz.prog 66 #[vp] w (RetV w (.int .i64 (sg p))) := by
  obtain ⟨sp, op, np, cp, ap, mp, dp, rfl⟩ := hp.shape
  have hlp := hp.rl
  rw [sg_eq]
  have hb0 := ((Below.refl w.heap.size w).alloc (by first | (simp; done) | (simp; omega)) (.cells #[.bool sp, .slice op np cp, .slice ap mp dp] 54))
  have hxp := nest1_0 w (.cells #[.bool sp, .slice op np cp, .slice ap mp dp] 54)
  have hpp := hp.below hb0
  obtain ⟨w0, hw0⟩ : ∃ w0, w0 = (w.alloc (.cells #[.bool sp, .slice op np cp, .slice ap mp dp] 54)) := ⟨_, rfl⟩
  rw [← hw0] at hb0 hxp hpp
  have HB0 := Lib.hid hb0; have HW0 := Lib.hid hw0
  have BXp := Lib.hid hxp
  have Fp := Lib.hid hpp
  clear hb0 hw0 hxp hpp hp
  by_cases h0 : nn p = 0
  · rw [if_pos h0]
    have H0 := Lib.hid h0; clear h0
    go_enter Tryz.func66, Tryz.ntmps66
    have hs := parts_any _ p w0 Fp.out
    have HS := Lib.hid hs; clear hs
    go_wp2_with fail
    rw [← HW0.out]
    (with_reducible refine HS.out.mono ?_); rintro e w1 ⟨v1, u1, rfl, hb1, hn1, hm1⟩
    clear HS
    rw [H0.out, wd_zero] at hn1
    obtain ⟨no, nc, rfl, _, _, _⟩ := hn1.shape
    have HB1 := Lib.hid (HB0.out.step hb1)
    have Fp := Lib.hid (Fp.out.below hb1)
    have BXp := Lib.hid (heap_below BXp.out hb1)
    have N := Lib.hid hn1
    have D := Lib.hid hm1
    clear hn1 hm1
    clear hb1
    go_wp2_with fail
    go_ret
    exact ⟨rfl, HB1.out⟩
  · rw [if_neg h0]
    have hz : (((wd (nn p)).length : Int) == 0) = false := by rw [beq_eq_false_iff_ne]; intro h; exact wd_ne h0 (List.eq_nil_of_length_eq_zero (by omega))
    obtain ⟨L, hL⟩ : ∃ L, L = (wd (nn p)).length := ⟨_, rfl⟩
    rw [← hL] at hz
    have HL := Lib.hid hL; clear hL h0
    obtain ⟨x, hx⟩ : ∃ x, x = ng p := ⟨_, rfl⟩
    rw [← hx]
    have HX := Lib.hid hx; clear hx
    cases x
    · go_enter Tryz.func66, Tryz.ntmps66
      have hs := parts_any _ p w0 Fp.out
      have HS := Lib.hid hs; clear hs
      go_wp2_with fail
      rw [← HW0.out]
      (with_reducible refine HS.out.mono ?_); rintro e w1 ⟨v1, u1, rfl, hb1, hn1, hm1⟩
      clear HS
      rw [← HX.out]
      obtain ⟨no, nc, rfl, _, _, _⟩ := hn1.shape
      rw [← HL.out]
      have HB1 := Lib.hid (HB0.out.step hb1)
      have Fp := Lib.hid (Fp.out.below hb1)
      have BXp := Lib.hid (heap_below BXp.out hb1)
      have N := Lib.hid hn1
      have D := Lib.hid hm1
      clear hn1 hm1
      clear hb1
      go_wp2_with fail
      go_ret
      exact ⟨rfl, HB1.out⟩
    · go_enter Tryz.func66, Tryz.ntmps66
      have hs := parts_any _ p w0 Fp.out
      have HS := Lib.hid hs; clear hs
      go_wp2_with fail
      rw [← HW0.out]
      (with_reducible refine HS.out.mono ?_); rintro e w1 ⟨v1, u1, rfl, hb1, hn1, hm1⟩
      clear HS
      rw [← HX.out]
      obtain ⟨no, nc, rfl, _, _, _⟩ := hn1.shape
      rw [← HL.out]
      have HB1 := Lib.hid (HB0.out.step hb1)
      have Fp := Lib.hid (Fp.out.below hb1)
      have BXp := Lib.hid (heap_below BXp.out hb1)
      have N := Lib.hid hn1
      have D := Lib.hid hm1
      clear hn1 hm1
      clear hb1
      go_wp2_with fail
      go_ret
      exact ⟨rfl, HB1.out⟩
set_option maxRecDepth 100000 in
set_option maxHeartbeats 3200000 in
theorem cmpq_any (vp : Value) (p : Rat) (vq : Value) (q : Rat) (w : World) (hp : RatIs w vp p) (hq : RatIs w vq q) (hlp2 : rl p ≤ 40000) (hlq2 : rl q ≤ 40000)  :
    Calls Tryz.prog 32 #[vp, vq] w (RetV w (.int .i64 (cq p q))) := by
  obtain ⟨sp, op, np, cp, ap, mp, dp, rfl⟩ := hp.shape
  have hlp := hp.rl
  obtain ⟨sq, oq, nq, cq, aq, mq, dq, rfl⟩ := hq.shape
  have hlq := hq.rl
  have hb0 := (((Below.refl w.heap.size w).alloc (by first | (simp; done) | (simp; omega)) (.cells #[.bool sp, .slice op np cp, .slice ap mp dp] 54)).alloc (by first | (simp; done) | (simp; omega)) (.cells #[.bool sq, .slice oq nq cq, .slice aq mq dq] 54))
  have hxp := nest2_0 w (.cells #[.bool sp, .slice op np cp, .slice ap mp dp] 54) (.cells #[.bool sq, .slice oq nq cq, .slice aq mq dq] 54)
  have hxq := nest2_1 w (.cells #[.bool sp, .slice op np cp, .slice ap mp dp] 54) (.cells #[.bool sq, .slice oq nq cq, .slice aq mq dq] 54)
  have hpp := hp.below hb0
  have hpq := hq.below hb0
  obtain ⟨w0, hw0⟩ : ∃ w0, w0 = ((w.alloc (.cells #[.bool sp, .slice op np cp, .slice ap mp dp] 54)).alloc (.cells #[.bool sq, .slice oq nq cq, .slice aq mq dq] 54)) := ⟨_, rfl⟩
  rw [← hw0] at hb0 hxp hxq hpp hpq
  have HB0 := Lib.hid hb0; have HW0 := Lib.hid hw0
  have BXp := Lib.hid hxp
  have BXq := Lib.hid hxq
  have Fp := Lib.hid hpp
  have Fq := Lib.hid hpq
  clear hb0 hw0 hxp hxq hpp hp hpq hq
  have hr := rl_sub p q
  have hlp2 : rl p ≤ 40000 := hlp2; have hlq2 : rl q ≤ 40000 := hlq2
  go_enter Tryz.func32, Tryz.ntmps32
  have hs := subq_any _ p _ q w0 Fp.out Fq.out
  have HS := Lib.hid hs; clear hs
  go_wp2_with fail
  rw [← HW0.out]
  (with_reducible refine HS.out.mono ?_); rintro e w1 ⟨v1, rfl, hb1, hn1⟩
  clear HS
  have HB1 := Lib.hid (HB0.out.step hb1)
  have Fp := Lib.hid (Fp.out.below hb1)
  have Fq := Lib.hid (Fq.out.below hb1)
  have BXp := Lib.hid (heap_below BXp.out hb1)
  have BXq := Lib.hid (heap_below BXq.out hb1)
  have S := Lib.hid hn1; clear hn1
  clear hb1
  have SI := Lib.hid (S.out.is (by omega))
  obtain ⟨sS, oS, nS, cS, aS, mS, dS, rfl⟩ := S.out.shape
  have hs := sign_any _ (p - q) w1 SI.out
  rw [sg_sub] at hs
  have HS := Lib.hid hs; clear hs
  go_wp2_with fail
  (with_reducible refine HS.out.mono ?_); rintro e w2 ⟨rfl, hb2⟩
  clear HS
  have HB2 := Lib.hid (HB1.out.step hb2)
  have Fp := Lib.hid (Fp.out.below hb2)
  have Fq := Lib.hid (Fq.out.below hb2)
  have S := Lib.hid (S.out.below hb2)
  have SI := Lib.hid (SI.out.below hb2)
  have BXp := Lib.hid (heap_below BXp.out hb2)
  have BXq := Lib.hid (heap_below BXq.out hb2)
  clear hb2
  go_wp2_with fail
  go_ret
  exact ⟨rfl, HB2.out⟩
end Go.Proofs.YthhgfhdmfhnklaaGreatDoor
/-
  rational.Div, Floor, Round, Power: what they hand back.
  Conditions: each theorem's own.
-/
namespace Go.Proofs.YthhgfhdmfhnklaaGreatDoor
open Go.RowKit Go.ChangeShapes Go.WideShapes

theorem rl_small {n : Int} (h0 : -9223372036854775808 ≤ n) (h1 : n < 9223372036854775808) : rl (n : Rat) ≤ 2 := by
  rw [rl_int]; have := wd_small (n := n.natAbs) (by omega); omega
end Go.Proofs.YthhgfhdmfhnklaaGreatDoor
/-
  The reference: Neg, Abs, Mul, Add, Sub, Sign, Cmp: what they hand back.
  Conditions: each theorem's own.
-/
namespace Go.Proofs.YthhgfhdmfhnklaaGreatDoor
open Go.RowKit Go.ChangeShapes Go.WideShapes

theorem rfromK {u v : Value} {m n : Nat} {w : World} (s : Bool) (h1 : Num w u (wd m)) (h2 : Num w v (wd n)) (l1 : (wd m).length ≤ 400000) (l2 : (wd n).length ≤ 400000) (h0 : n ≠ 0) :
    Calls Tryz.prog 107 #[.bool s, u, v] w (RetRE w (qm s m n) (.int .i64 0)) := by
  have h := rfromN s h1 h2 l1 l2
  unfold zc at h; rw [if_neg h0] at h; exact h
set_option maxRecDepth 100000 in
set_option maxHeartbeats 3200000 in
theorem rneg_any (vp : Value) (p : Rat) (w : World) (hp : RatIs w vp p)  :
    Calls Tryz.prog 97 #[vp] w (RetR w (-p)) := by
  obtain ⟨sp, op, np, cp, ap, mp, dp, rfl⟩ := hp.shape
  have hlp := hp.rl
  have hb0 := (((Below.refl w.heap.size w).alloc (by first | (simp; done) | (simp; omega)) (.cells #[.bool sp, .slice op np cp, .slice ap mp dp] 54)).alloc (by first | (simp; done) | (simp; omega)) (.cells #[.bool false, .slice none 0 0, .slice none 0 0] 54))
  have hxp := nest2_0 w (.cells #[.bool sp, .slice op np cp, .slice ap mp dp] 54) (.cells #[.bool false, .slice none 0 0, .slice none 0 0] 54)
  have hxR := nest2_1 w (.cells #[.bool sp, .slice op np cp, .slice ap mp dp] 54) (.cells #[.bool false, .slice none 0 0, .slice none 0 0] 54)
  have hpp := hp.below hb0
  obtain ⟨w0, hw0⟩ : ∃ w0, w0 = ((w.alloc (.cells #[.bool sp, .slice op np cp, .slice ap mp dp] 54)).alloc (.cells #[.bool false, .slice none 0 0, .slice none 0 0] 54)) := ⟨_, rfl⟩
  rw [← hw0] at hb0 hxp hxR hpp
  have HB0 := Lib.hid hb0; have HW0 := Lib.hid hw0
  have BXp := Lib.hid hxp
  have BXR := Lib.hid hxR
  have Fp := Lib.hid hpp
  clear hb0 hw0 hxp hxR hpp hp
  have l1 := rl_n p; have l2 := rl_d p
  go_enter Tryz.func97, Tryz.ntmps97
  have hs := rparts_any _ p w0 Fp.out
  have HS := Lib.hid hs; clear hs
  go_wp2_with fail
  rw [← HW0.out]
  (with_reducible refine HS.out.mono ?_); rintro e w1 ⟨v1, u1, rfl, hb1, hn1, hm1⟩
  clear HS
  have HB1 := Lib.hid (HB0.out.step hb1)
  have Fp := Lib.hid (Fp.out.below hb1)
  have BXp := Lib.hid (heap_below BXp.out hb1)
  have BXR := Lib.hid (heap_below BXR.out hb1)
  have N := Lib.hid hn1
  have D := Lib.hid hm1
  clear hn1 hm1
  clear hb1
  have hs := rfromK (!ng p) N.out D.out (by omega) (by omega) p.den_nz
  rw [q_neg] at hs
  have HS := Lib.hid hs; clear hs
  go_wp2_with fail
  (with_reducible refine HS.out.mono ?_); rintro e w2 ⟨v2, rfl, hb2, hn2⟩
  clear HS
  have HB2 := Lib.hid (HB1.out.step hb2)
  have Fp := Lib.hid (Fp.out.below hb2)
  have N := Lib.hid (N.out.below hb2)
  have D := Lib.hid (D.out.below hb2)
  have BXp := Lib.hid (heap_below BXp.out hb2)
  have BXR := Lib.hid (heap_below BXR.out hb2)
  have Q := Lib.hid hn2; clear hn2
  clear hb2
  obtain ⟨sQ, oQ, nQ, cQ, aQ, mQ, dQ, rfl⟩ := Q.out.shape
  have hal : Below w2.heap.size w2 (w2.alloc (.cells #[.bool sQ, .slice oQ nQ cQ, .slice aQ mQ dQ] 54)) := (Below.refl _ _).alloc (Nat.le_refl _) _
  have HXA := Lib.hid (heap_below BXR.out hal); have HAL := Lib.hid hal; clear hal
  obtain ⟨eR0, eR1, eR2⟩ := row3 HXA.out
  obtain ⟨fR0, fR1, fR2⟩ := froz3 HXA.out
  go_wp2_with fail
  refine ret_rat rfl (w.heap.size + 1) _ _ _ rfl (put3_heap HXA.out) rfl ?_
  exact ⟨_, rfl, put3_below (HB2.out.step HAL.out) (by omega) _ _ _, isR_put (Q.out.below HAL.out) HXA.out⟩
end Go.Proofs.YthhgfhdmfhnklaaGreatDoor
/-
  The reference: Add, Sub, Sign, Cmp: what they hand back.
  Conditions: each theorem's own.
-/
namespace Go.Proofs.YthhgfhdmfhnklaaGreatDoor
open Go.RowKit Go.ChangeShapes Go.WideShapes

set_option maxRecDepth 100000 in
set_option maxHeartbeats 3200000 in
theorem radd_same (vp : Value) (p : Rat) (vq : Value) (q : Rat) (w : World) (hp : RatIs w vp p) (hq : RatIs w vq q) (hs : ng p = ng q) :
    Calls Tryz.prog 96 #[vp, vq] w (RetR w (p + q)) := by
  obtain ⟨sp, op, np, cp, ap, mp, dp, rfl⟩ := hp.shape
  have hlp := hp.rl
  obtain ⟨sq, oq, nq, cq, aq, mq, dq, rfl⟩ := hq.shape
  have hlq := hq.rl
  have hb0 := ((((Below.refl w.heap.size w).alloc (by first | (simp; done) | (simp; omega)) (.cells #[.bool sp, .slice op np cp, .slice ap mp dp] 54)).alloc (by first | (simp; done) | (simp; omega)) (.cells #[.bool sq, .slice oq nq cq, .slice aq mq dq] 54)).alloc (by first | (simp; done) | (simp; omega)) (.cells #[.bool false, .slice none 0 0, .slice none 0 0] 54))
  have hxp := nest3_0 w (.cells #[.bool sp, .slice op np cp, .slice ap mp dp] 54) (.cells #[.bool sq, .slice oq nq cq, .slice aq mq dq] 54) (.cells #[.bool false, .slice none 0 0, .slice none 0 0] 54)
  have hxq := nest3_1 w (.cells #[.bool sp, .slice op np cp, .slice ap mp dp] 54) (.cells #[.bool sq, .slice oq nq cq, .slice aq mq dq] 54) (.cells #[.bool false, .slice none 0 0, .slice none 0 0] 54)
  have hxR := nest3_2 w (.cells #[.bool sp, .slice op np cp, .slice ap mp dp] 54) (.cells #[.bool sq, .slice oq nq cq, .slice aq mq dq] 54) (.cells #[.bool false, .slice none 0 0, .slice none 0 0] 54)
  have hpp := hp.below hb0
  have hpq := hq.below hb0
  obtain ⟨w0, hw0⟩ : ∃ w0, w0 = (((w.alloc (.cells #[.bool sp, .slice op np cp, .slice ap mp dp] 54)).alloc (.cells #[.bool sq, .slice oq nq cq, .slice aq mq dq] 54)).alloc (.cells #[.bool false, .slice none 0 0, .slice none 0 0] 54)) := ⟨_, rfl⟩
  rw [← hw0] at hb0 hxp hxq hxR hpp hpq
  have HB0 := Lib.hid hb0; have HW0 := Lib.hid hw0
  have BXp := Lib.hid hxp
  have BXq := Lib.hid hxq
  have BXR := Lib.hid hxR
  have Fp := Lib.hid hpp
  have Fq := Lib.hid hpq
  clear hb0 hw0 hxp hxq hxR hpp hp hpq hq
  have l1 := rl_n p; have l2 := rl_d p; have l3 := rl_n q; have l4 := rl_d q
  have L1 : (wd (nn p * q.den)).length ≤ 200000 := by have := wd_mul_len (nn p) q.den; omega
  have L2 : (wd (nn q * p.den)).length ≤ 200000 := by have := wd_mul_len (nn q) p.den; omega
  have L3 : (wd (p.den * q.den)).length ≤ 200000 := by have := wd_mul_len p.den q.den; omega
  have heq := q_add_same p q hs
  have HEQ := Lib.hid heq; clear heq
  have L4 : (wd (nn p * q.den + nn q * p.den)).length ≤ 200001 := by have := wd_add_len (nn p * q.den) (nn q * p.den); omega
  have f1 : (ng p == ng q) = true := by rw [beq_iff_eq]; exact hs
  obtain ⟨x, hx⟩ : ∃ x, x = ng p := ⟨_, rfl⟩; obtain ⟨y, hy⟩ : ∃ y, y = ng q := ⟨_, rfl⟩
  rw [← hx, ← hy] at f1
  have HX := Lib.hid hx; have HY := Lib.hid hy; clear hx hy hs
  go_enter Tryz.func96, Tryz.ntmps96
  have hs := rparts_any _ p w0 Fp.out
  have HS := Lib.hid hs; clear hs
  go_wp2_with fail
  rw [← HW0.out]
  (with_reducible refine HS.out.mono ?_); rintro e w1 ⟨v1, u1, rfl, hb1, hn1, hm1⟩
  clear HS
  have HB1 := Lib.hid (HB0.out.step hb1)
  have Fp := Lib.hid (Fp.out.below hb1)
  have Fq := Lib.hid (Fq.out.below hb1)
  have BXp := Lib.hid (heap_below BXp.out hb1)
  have BXq := Lib.hid (heap_below BXq.out hb1)
  have BXR := Lib.hid (heap_below BXR.out hb1)
  have N := Lib.hid hn1
  have D := Lib.hid hm1
  clear hn1 hm1
  clear hb1
  rw [← HX.out]
  have hs := rparts_any _ q w1 Fq.out
  have HS := Lib.hid hs; clear hs
  obtain ⟨eq0, eq1, eq2⟩ := row3 BXq.out
  go_wp2_with fail
  (with_reducible refine HS.out.mono ?_); rintro e w2 ⟨v2, u2, rfl, hb2, hn2, hm2⟩
  clear HS
  have HB2 := Lib.hid (HB1.out.step hb2)
  have Fp := Lib.hid (Fp.out.below hb2)
  have Fq := Lib.hid (Fq.out.below hb2)
  have N := Lib.hid (N.out.below hb2)
  have D := Lib.hid (D.out.below hb2)
  have BXp := Lib.hid (heap_below BXp.out hb2)
  have BXq := Lib.hid (heap_below BXq.out hb2)
  have BXR := Lib.hid (heap_below BXR.out hb2)
  have M := Lib.hid hn2
  have E := Lib.hid hm2
  clear hn2 hm2
  clear hb2
  rw [← HY.out]
  have hs := rmulN N.out E.out (by omega) (by omega)
  have HS := Lib.hid hs; clear hs
  go_wp2_with fail
  (with_reducible refine HS.out.mono ?_); rintro e w3 ⟨v3, rfl, hb3, hn3⟩
  clear HS
  have HB3 := Lib.hid (HB2.out.step hb3)
  have Fp := Lib.hid (Fp.out.below hb3)
  have Fq := Lib.hid (Fq.out.below hb3)
  have N := Lib.hid (N.out.below hb3)
  have D := Lib.hid (D.out.below hb3)
  have M := Lib.hid (M.out.below hb3)
  have E := Lib.hid (E.out.below hb3)
  have BXp := Lib.hid (heap_below BXp.out hb3)
  have BXq := Lib.hid (heap_below BXq.out hb3)
  have BXR := Lib.hid (heap_below BXR.out hb3)
  have X := Lib.hid hn3; clear hn3
  clear hb3
  have hs := rmulN M.out D.out (by omega) (by omega)
  have HS := Lib.hid hs; clear hs
  go_wp2_with fail
  (with_reducible refine HS.out.mono ?_); rintro e w4 ⟨v4, rfl, hb4, hn4⟩
  clear HS
  have HB4 := Lib.hid (HB3.out.step hb4)
  have Fp := Lib.hid (Fp.out.below hb4)
  have Fq := Lib.hid (Fq.out.below hb4)
  have N := Lib.hid (N.out.below hb4)
  have D := Lib.hid (D.out.below hb4)
  have M := Lib.hid (M.out.below hb4)
  have E := Lib.hid (E.out.below hb4)
  have X := Lib.hid (X.out.below hb4)
  have BXp := Lib.hid (heap_below BXp.out hb4)
  have BXq := Lib.hid (heap_below BXq.out hb4)
  have BXR := Lib.hid (heap_below BXR.out hb4)
  have Y := Lib.hid hn4; clear hn4
  clear hb4
  have hs := rmulN D.out E.out (by omega) (by omega)
  have HS := Lib.hid hs; clear hs
  go_wp2_with fail
  (with_reducible refine HS.out.mono ?_); rintro e w5 ⟨v5, rfl, hb5, hn5⟩
  clear HS
  have HB5 := Lib.hid (HB4.out.step hb5)
  have Fp := Lib.hid (Fp.out.below hb5)
  have Fq := Lib.hid (Fq.out.below hb5)
  have N := Lib.hid (N.out.below hb5)
  have D := Lib.hid (D.out.below hb5)
  have M := Lib.hid (M.out.below hb5)
  have E := Lib.hid (E.out.below hb5)
  have X := Lib.hid (X.out.below hb5)
  have Y := Lib.hid (Y.out.below hb5)
  have BXp := Lib.hid (heap_below BXp.out hb5)
  have BXq := Lib.hid (heap_below BXq.out hb5)
  have BXR := Lib.hid (heap_below BXR.out hb5)
  have DE := Lib.hid hn5; clear hn5
  clear hb5
  have hs := raddN X.out Y.out (by omega) (by omega)
  have HS := Lib.hid hs; clear hs
  go_wp2_with fail
  (with_reducible refine HS.out.mono ?_); rintro e w6 ⟨v6, rfl, hb6, hn6⟩
  clear HS
  have HB6 := Lib.hid (HB5.out.step hb6)
  have Fp := Lib.hid (Fp.out.below hb6)
  have Fq := Lib.hid (Fq.out.below hb6)
  have N := Lib.hid (N.out.below hb6)
  have D := Lib.hid (D.out.below hb6)
  have M := Lib.hid (M.out.below hb6)
  have E := Lib.hid (E.out.below hb6)
  have X := Lib.hid (X.out.below hb6)
  have Y := Lib.hid (Y.out.below hb6)
  have DE := Lib.hid (DE.out.below hb6)
  have BXp := Lib.hid (heap_below BXp.out hb6)
  have BXq := Lib.hid (heap_below BXq.out hb6)
  have BXR := Lib.hid (heap_below BXR.out hb6)
  have S := Lib.hid hn6; clear hn6
  clear hb6
  have hs := rfromK x S.out DE.out (by omega) (by omega) (den_mul_nz p.den_nz q.den_nz)
  have HS := Lib.hid hs; clear hs
  go_wp2_with fail
  (with_reducible refine HS.out.mono ?_); rintro e w7 ⟨v7, rfl, hb7, hn7⟩
  clear HS
  have HB7 := Lib.hid (HB6.out.step hb7)
  have Fp := Lib.hid (Fp.out.below hb7)
  have Fq := Lib.hid (Fq.out.below hb7)
  have N := Lib.hid (N.out.below hb7)
  have D := Lib.hid (D.out.below hb7)
  have M := Lib.hid (M.out.below hb7)
  have E := Lib.hid (E.out.below hb7)
  have X := Lib.hid (X.out.below hb7)
  have Y := Lib.hid (Y.out.below hb7)
  have DE := Lib.hid (DE.out.below hb7)
  have S := Lib.hid (S.out.below hb7)
  have BXp := Lib.hid (heap_below BXp.out hb7)
  have BXq := Lib.hid (heap_below BXq.out hb7)
  have BXR := Lib.hid (heap_below BXR.out hb7)
  have Q := Lib.hid hn7; clear hn7
  clear hb7
  have hq := Q.out; rw [HX.out, HEQ.out] at hq; have Q := Lib.hid hq; clear hq
  obtain ⟨sQ, oQ, nQ, cQ, aQ, mQ, dQ, rfl⟩ := Q.out.shape
  have hal : Below w7.heap.size w7 (w7.alloc (.cells #[.bool sQ, .slice oQ nQ cQ, .slice aQ mQ dQ] 54)) := (Below.refl _ _).alloc (Nat.le_refl _) _
  have HXA := Lib.hid (heap_below BXR.out hal); have HAL := Lib.hid hal; clear hal
  obtain ⟨eR0, eR1, eR2⟩ := row3 HXA.out
  obtain ⟨fR0, fR1, fR2⟩ := froz3 HXA.out
  go_wp2_with fail
  refine ret_rat rfl (w.heap.size + 2) _ _ _ rfl (put3_heap HXA.out) rfl ?_
  exact ⟨_, rfl, put3_below (HB7.out.step HAL.out) (by omega) _ _ _, isR_put (Q.out.below HAL.out) HXA.out⟩
set_option maxRecDepth 100000 in
set_option maxHeartbeats 3200000 in
theorem radd_diff (vp : Value) (p : Rat) (vq : Value) (q : Rat) (w : World) (hp : RatIs w vp p) (hq : RatIs w vq q) (hs : ng p ≠ ng q) (hle : nn q * p.den ≤ nn p * q.den) :
    Calls Tryz.prog 96 #[vp, vq] w (RetR w (p + q)) := by
  obtain ⟨sp, op, np, cp, ap, mp, dp, rfl⟩ := hp.shape
  have hlp := hp.rl
  obtain ⟨sq, oq, nq, cq, aq, mq, dq, rfl⟩ := hq.shape
  have hlq := hq.rl
  have hb0 := ((((Below.refl w.heap.size w).alloc (by first | (simp; done) | (simp; omega)) (.cells #[.bool sp, .slice op np cp, .slice ap mp dp] 54)).alloc (by first | (simp; done) | (simp; omega)) (.cells #[.bool sq, .slice oq nq cq, .slice aq mq dq] 54)).alloc (by first | (simp; done) | (simp; omega)) (.cells #[.bool false, .slice none 0 0, .slice none 0 0] 54))
  have hxp := nest3_0 w (.cells #[.bool sp, .slice op np cp, .slice ap mp dp] 54) (.cells #[.bool sq, .slice oq nq cq, .slice aq mq dq] 54) (.cells #[.bool false, .slice none 0 0, .slice none 0 0] 54)
  have hxq := nest3_1 w (.cells #[.bool sp, .slice op np cp, .slice ap mp dp] 54) (.cells #[.bool sq, .slice oq nq cq, .slice aq mq dq] 54) (.cells #[.bool false, .slice none 0 0, .slice none 0 0] 54)
  have hxR := nest3_2 w (.cells #[.bool sp, .slice op np cp, .slice ap mp dp] 54) (.cells #[.bool sq, .slice oq nq cq, .slice aq mq dq] 54) (.cells #[.bool false, .slice none 0 0, .slice none 0 0] 54)
  have hpp := hp.below hb0
  have hpq := hq.below hb0
  obtain ⟨w0, hw0⟩ : ∃ w0, w0 = (((w.alloc (.cells #[.bool sp, .slice op np cp, .slice ap mp dp] 54)).alloc (.cells #[.bool sq, .slice oq nq cq, .slice aq mq dq] 54)).alloc (.cells #[.bool false, .slice none 0 0, .slice none 0 0] 54)) := ⟨_, rfl⟩
  rw [← hw0] at hb0 hxp hxq hxR hpp hpq
  have HB0 := Lib.hid hb0; have HW0 := Lib.hid hw0
  have BXp := Lib.hid hxp
  have BXq := Lib.hid hxq
  have BXR := Lib.hid hxR
  have Fp := Lib.hid hpp
  have Fq := Lib.hid hpq
  clear hb0 hw0 hxp hxq hxR hpp hp hpq hq
  have l1 := rl_n p; have l2 := rl_d p; have l3 := rl_n q; have l4 := rl_d q
  have L1 : (wd (nn p * q.den)).length ≤ 200000 := by have := wd_mul_len (nn p) q.den; omega
  have L2 : (wd (nn q * p.den)).length ≤ 200000 := by have := wd_mul_len (nn q) p.den; omega
  have L3 : (wd (p.den * q.den)).length ≤ 200000 := by have := wd_mul_len p.den q.den; omega
  have heq := q_add_diff p q hs hle
  have HEQ := Lib.hid heq; clear heq
  have f1 : (ng p == ng q) = false := by rw [beq_eq_false_iff_ne]; exact hs
  obtain ⟨c, hc⟩ : ∃ c, c = cmpN (nn p * q.den) (nn q * p.den) := ⟨_, rfl⟩
  have L4 : (wd (nn p * q.den - nn q * p.den)).length ≤ 200000 := by exact Nat.le_trans (wd_length_mono (Nat.sub_le _ _)) L1
  have f2 : decide (c < 0) = false := by rw [hc, decide_eq_false_iff_not]; unfold cmpN; rw [if_neg (by omega)]; split <;> decide
  have HC := Lib.hid hc; have HLE := Lib.hid hle; clear hc hle
  obtain ⟨x, hx⟩ : ∃ x, x = ng p := ⟨_, rfl⟩; obtain ⟨y, hy⟩ : ∃ y, y = ng q := ⟨_, rfl⟩
  rw [← hx, ← hy] at f1
  have HX := Lib.hid hx; have HY := Lib.hid hy; clear hx hy hs
  go_enter Tryz.func96, Tryz.ntmps96
  have hs := rparts_any _ p w0 Fp.out
  have HS := Lib.hid hs; clear hs
  go_wp2_with fail
  rw [← HW0.out]
  (with_reducible refine HS.out.mono ?_); rintro e w1 ⟨v1, u1, rfl, hb1, hn1, hm1⟩
  clear HS
  have HB1 := Lib.hid (HB0.out.step hb1)
  have Fp := Lib.hid (Fp.out.below hb1)
  have Fq := Lib.hid (Fq.out.below hb1)
  have BXp := Lib.hid (heap_below BXp.out hb1)
  have BXq := Lib.hid (heap_below BXq.out hb1)
  have BXR := Lib.hid (heap_below BXR.out hb1)
  have N := Lib.hid hn1
  have D := Lib.hid hm1
  clear hn1 hm1
  clear hb1
  rw [← HX.out]
  have hs := rparts_any _ q w1 Fq.out
  have HS := Lib.hid hs; clear hs
  obtain ⟨eq0, eq1, eq2⟩ := row3 BXq.out
  go_wp2_with fail
  (with_reducible refine HS.out.mono ?_); rintro e w2 ⟨v2, u2, rfl, hb2, hn2, hm2⟩
  clear HS
  have HB2 := Lib.hid (HB1.out.step hb2)
  have Fp := Lib.hid (Fp.out.below hb2)
  have Fq := Lib.hid (Fq.out.below hb2)
  have N := Lib.hid (N.out.below hb2)
  have D := Lib.hid (D.out.below hb2)
  have BXp := Lib.hid (heap_below BXp.out hb2)
  have BXq := Lib.hid (heap_below BXq.out hb2)
  have BXR := Lib.hid (heap_below BXR.out hb2)
  have M := Lib.hid hn2
  have E := Lib.hid hm2
  clear hn2 hm2
  clear hb2
  rw [← HY.out]
  have hs := rmulN N.out E.out (by omega) (by omega)
  have HS := Lib.hid hs; clear hs
  go_wp2_with fail
  (with_reducible refine HS.out.mono ?_); rintro e w3 ⟨v3, rfl, hb3, hn3⟩
  clear HS
  have HB3 := Lib.hid (HB2.out.step hb3)
  have Fp := Lib.hid (Fp.out.below hb3)
  have Fq := Lib.hid (Fq.out.below hb3)
  have N := Lib.hid (N.out.below hb3)
  have D := Lib.hid (D.out.below hb3)
  have M := Lib.hid (M.out.below hb3)
  have E := Lib.hid (E.out.below hb3)
  have BXp := Lib.hid (heap_below BXp.out hb3)
  have BXq := Lib.hid (heap_below BXq.out hb3)
  have BXR := Lib.hid (heap_below BXR.out hb3)
  have X := Lib.hid hn3; clear hn3
  clear hb3
  have hs := rmulN M.out D.out (by omega) (by omega)
  have HS := Lib.hid hs; clear hs
  go_wp2_with fail
  (with_reducible refine HS.out.mono ?_); rintro e w4 ⟨v4, rfl, hb4, hn4⟩
  clear HS
  have HB4 := Lib.hid (HB3.out.step hb4)
  have Fp := Lib.hid (Fp.out.below hb4)
  have Fq := Lib.hid (Fq.out.below hb4)
  have N := Lib.hid (N.out.below hb4)
  have D := Lib.hid (D.out.below hb4)
  have M := Lib.hid (M.out.below hb4)
  have E := Lib.hid (E.out.below hb4)
  have X := Lib.hid (X.out.below hb4)
  have BXp := Lib.hid (heap_below BXp.out hb4)
  have BXq := Lib.hid (heap_below BXq.out hb4)
  have BXR := Lib.hid (heap_below BXR.out hb4)
  have Y := Lib.hid hn4; clear hn4
  clear hb4
  have hs := rmulN D.out E.out (by omega) (by omega)
  have HS := Lib.hid hs; clear hs
  go_wp2_with fail
  (with_reducible refine HS.out.mono ?_); rintro e w5 ⟨v5, rfl, hb5, hn5⟩
  clear HS
  have HB5 := Lib.hid (HB4.out.step hb5)
  have Fp := Lib.hid (Fp.out.below hb5)
  have Fq := Lib.hid (Fq.out.below hb5)
  have N := Lib.hid (N.out.below hb5)
  have D := Lib.hid (D.out.below hb5)
  have M := Lib.hid (M.out.below hb5)
  have E := Lib.hid (E.out.below hb5)
  have X := Lib.hid (X.out.below hb5)
  have Y := Lib.hid (Y.out.below hb5)
  have BXp := Lib.hid (heap_below BXp.out hb5)
  have BXq := Lib.hid (heap_below BXq.out hb5)
  have BXR := Lib.hid (heap_below BXR.out hb5)
  have DE := Lib.hid hn5; clear hn5
  clear hb5
  have hs := rcmpN_ X.out Y.out (by omega) (by omega)
  rw [← HC.out] at hs
  have HS := Lib.hid hs; clear hs
  go_wp2_with fail
  (with_reducible refine HS.out.mono ?_); rintro e wx ⟨rfl, rfl⟩
  clear HS
  have hs := rsubN X.out Y.out (by omega) (by omega) HLE.out
  have HS := Lib.hid hs; clear hs
  go_wp2_with fail
  (with_reducible refine HS.out.mono ?_); rintro e w7 ⟨v7, rfl, hb7, hn7⟩
  clear HS
  have HB7 := Lib.hid (HB5.out.step hb7)
  have Fp := Lib.hid (Fp.out.below hb7)
  have Fq := Lib.hid (Fq.out.below hb7)
  have N := Lib.hid (N.out.below hb7)
  have D := Lib.hid (D.out.below hb7)
  have M := Lib.hid (M.out.below hb7)
  have E := Lib.hid (E.out.below hb7)
  have X := Lib.hid (X.out.below hb7)
  have Y := Lib.hid (Y.out.below hb7)
  have DE := Lib.hid (DE.out.below hb7)
  have BXp := Lib.hid (heap_below BXp.out hb7)
  have BXq := Lib.hid (heap_below BXq.out hb7)
  have BXR := Lib.hid (heap_below BXR.out hb7)
  have S := Lib.hid hn7; clear hn7
  clear hb7
  have hs := rfromK x S.out DE.out (by omega) (by omega) (den_mul_nz p.den_nz q.den_nz)
  have HS := Lib.hid hs; clear hs
  go_wp2_with fail
  (with_reducible refine HS.out.mono ?_); rintro e w8 ⟨v8, rfl, hb8, hn8⟩
  clear HS
  have HB8 := Lib.hid (HB7.out.step hb8)
  have Fp := Lib.hid (Fp.out.below hb8)
  have Fq := Lib.hid (Fq.out.below hb8)
  have N := Lib.hid (N.out.below hb8)
  have D := Lib.hid (D.out.below hb8)
  have M := Lib.hid (M.out.below hb8)
  have E := Lib.hid (E.out.below hb8)
  have X := Lib.hid (X.out.below hb8)
  have Y := Lib.hid (Y.out.below hb8)
  have DE := Lib.hid (DE.out.below hb8)
  have S := Lib.hid (S.out.below hb8)
  have BXp := Lib.hid (heap_below BXp.out hb8)
  have BXq := Lib.hid (heap_below BXq.out hb8)
  have BXR := Lib.hid (heap_below BXR.out hb8)
  have Q := Lib.hid hn8; clear hn8
  clear hb8
  have hq := Q.out; rw [HX.out, HEQ.out] at hq; have Q := Lib.hid hq; clear hq
  obtain ⟨sQ, oQ, nQ, cQ, aQ, mQ, dQ, rfl⟩ := Q.out.shape
  have hal : Below w8.heap.size w8 (w8.alloc (.cells #[.bool sQ, .slice oQ nQ cQ, .slice aQ mQ dQ] 54)) := (Below.refl _ _).alloc (Nat.le_refl _) _
  have HXA := Lib.hid (heap_below BXR.out hal); have HAL := Lib.hid hal; clear hal
  obtain ⟨eR0, eR1, eR2⟩ := row3 HXA.out
  obtain ⟨fR0, fR1, fR2⟩ := froz3 HXA.out
  go_wp2_with fail
  refine ret_rat rfl (w.heap.size + 2) _ _ _ rfl (put3_heap HXA.out) rfl ?_
  exact ⟨_, rfl, put3_below (HB8.out.step HAL.out) (by omega) _ _ _, isR_put (Q.out.below HAL.out) HXA.out⟩
set_option maxRecDepth 100000 in
set_option maxHeartbeats 3200000 in
theorem radd_diff' (vp : Value) (p : Rat) (vq : Value) (q : Rat) (w : World) (hp : RatIs w vp p) (hq : RatIs w vq q) (hs : ng p ≠ ng q) (hle : nn p * q.den < nn q * p.den) :
    Calls Tryz.prog 96 #[vp, vq] w (RetR w (p + q)) := by
  obtain ⟨sp, op, np, cp, ap, mp, dp, rfl⟩ := hp.shape
  have hlp := hp.rl
  obtain ⟨sq, oq, nq, cq, aq, mq, dq, rfl⟩ := hq.shape
  have hlq := hq.rl
  have hb0 := ((((Below.refl w.heap.size w).alloc (by first | (simp; done) | (simp; omega)) (.cells #[.bool sp, .slice op np cp, .slice ap mp dp] 54)).alloc (by first | (simp; done) | (simp; omega)) (.cells #[.bool sq, .slice oq nq cq, .slice aq mq dq] 54)).alloc (by first | (simp; done) | (simp; omega)) (.cells #[.bool false, .slice none 0 0, .slice none 0 0] 54))
  have hxp := nest3_0 w (.cells #[.bool sp, .slice op np cp, .slice ap mp dp] 54) (.cells #[.bool sq, .slice oq nq cq, .slice aq mq dq] 54) (.cells #[.bool false, .slice none 0 0, .slice none 0 0] 54)
  have hxq := nest3_1 w (.cells #[.bool sp, .slice op np cp, .slice ap mp dp] 54) (.cells #[.bool sq, .slice oq nq cq, .slice aq mq dq] 54) (.cells #[.bool false, .slice none 0 0, .slice none 0 0] 54)
  have hxR := nest3_2 w (.cells #[.bool sp, .slice op np cp, .slice ap mp dp] 54) (.cells #[.bool sq, .slice oq nq cq, .slice aq mq dq] 54) (.cells #[.bool false, .slice none 0 0, .slice none 0 0] 54)
  have hpp := hp.below hb0
  have hpq := hq.below hb0
  obtain ⟨w0, hw0⟩ : ∃ w0, w0 = (((w.alloc (.cells #[.bool sp, .slice op np cp, .slice ap mp dp] 54)).alloc (.cells #[.bool sq, .slice oq nq cq, .slice aq mq dq] 54)).alloc (.cells #[.bool false, .slice none 0 0, .slice none 0 0] 54)) := ⟨_, rfl⟩
  rw [← hw0] at hb0 hxp hxq hxR hpp hpq
  have HB0 := Lib.hid hb0; have HW0 := Lib.hid hw0
  have BXp := Lib.hid hxp
  have BXq := Lib.hid hxq
  have BXR := Lib.hid hxR
  have Fp := Lib.hid hpp
  have Fq := Lib.hid hpq
  clear hb0 hw0 hxp hxq hxR hpp hp hpq hq
  have l1 := rl_n p; have l2 := rl_d p; have l3 := rl_n q; have l4 := rl_d q
  have L1 : (wd (nn p * q.den)).length ≤ 200000 := by have := wd_mul_len (nn p) q.den; omega
  have L2 : (wd (nn q * p.den)).length ≤ 200000 := by have := wd_mul_len (nn q) p.den; omega
  have L3 : (wd (p.den * q.den)).length ≤ 200000 := by have := wd_mul_len p.den q.den; omega
  have heq := q_add_diff' p q hs (Nat.le_of_lt hle)
  have HEQ := Lib.hid heq; clear heq
  have f1 : (ng p == ng q) = false := by rw [beq_eq_false_iff_ne]; exact hs
  obtain ⟨c, hc⟩ : ∃ c, c = cmpN (nn p * q.den) (nn q * p.den) := ⟨_, rfl⟩
  have L4 : (wd (nn q * p.den - nn p * q.den)).length ≤ 200000 := by exact Nat.le_trans (wd_length_mono (Nat.sub_le _ _)) L2
  have f2 : decide (c < 0) = true := by rw [hc, decide_eq_true_eq]; unfold cmpN; rw [if_pos hle]; decide
  have HC := Lib.hid hc; have HLE := Lib.hid hle; clear hc hle
  obtain ⟨x, hx⟩ : ∃ x, x = ng p := ⟨_, rfl⟩; obtain ⟨y, hy⟩ : ∃ y, y = ng q := ⟨_, rfl⟩
  rw [← hx, ← hy] at f1
  have HX := Lib.hid hx; have HY := Lib.hid hy; clear hx hy hs
  go_enter Tryz.func96, Tryz.ntmps96
  have hs := rparts_any _ p w0 Fp.out
  have HS := Lib.hid hs; clear hs
  go_wp2_with fail
  rw [← HW0.out]
  (with_reducible refine HS.out.mono ?_); rintro e w1 ⟨v1, u1, rfl, hb1, hn1, hm1⟩
  clear HS
  have HB1 := Lib.hid (HB0.out.step hb1)
  have Fp := Lib.hid (Fp.out.below hb1)
  have Fq := Lib.hid (Fq.out.below hb1)
  have BXp := Lib.hid (heap_below BXp.out hb1)
  have BXq := Lib.hid (heap_below BXq.out hb1)
  have BXR := Lib.hid (heap_below BXR.out hb1)
  have N := Lib.hid hn1
  have D := Lib.hid hm1
  clear hn1 hm1
  clear hb1
  rw [← HX.out]
  have hs := rparts_any _ q w1 Fq.out
  have HS := Lib.hid hs; clear hs
  obtain ⟨eq0, eq1, eq2⟩ := row3 BXq.out
  go_wp2_with fail
  (with_reducible refine HS.out.mono ?_); rintro e w2 ⟨v2, u2, rfl, hb2, hn2, hm2⟩
  clear HS
  have HB2 := Lib.hid (HB1.out.step hb2)
  have Fp := Lib.hid (Fp.out.below hb2)
  have Fq := Lib.hid (Fq.out.below hb2)
  have N := Lib.hid (N.out.below hb2)
  have D := Lib.hid (D.out.below hb2)
  have BXp := Lib.hid (heap_below BXp.out hb2)
  have BXq := Lib.hid (heap_below BXq.out hb2)
  have BXR := Lib.hid (heap_below BXR.out hb2)
  have M := Lib.hid hn2
  have E := Lib.hid hm2
  clear hn2 hm2
  clear hb2
  rw [← HY.out]
  have hs := rmulN N.out E.out (by omega) (by omega)
  have HS := Lib.hid hs; clear hs
  go_wp2_with fail
  (with_reducible refine HS.out.mono ?_); rintro e w3 ⟨v3, rfl, hb3, hn3⟩
  clear HS
  have HB3 := Lib.hid (HB2.out.step hb3)
  have Fp := Lib.hid (Fp.out.below hb3)
  have Fq := Lib.hid (Fq.out.below hb3)
  have N := Lib.hid (N.out.below hb3)
  have D := Lib.hid (D.out.below hb3)
  have M := Lib.hid (M.out.below hb3)
  have E := Lib.hid (E.out.below hb3)
  have BXp := Lib.hid (heap_below BXp.out hb3)
  have BXq := Lib.hid (heap_below BXq.out hb3)
  have BXR := Lib.hid (heap_below BXR.out hb3)
  have X := Lib.hid hn3; clear hn3
  clear hb3
  have hs := rmulN M.out D.out (by omega) (by omega)
  have HS := Lib.hid hs; clear hs
  go_wp2_with fail
  (with_reducible refine HS.out.mono ?_); rintro e w4 ⟨v4, rfl, hb4, hn4⟩
  clear HS
  have HB4 := Lib.hid (HB3.out.step hb4)
  have Fp := Lib.hid (Fp.out.below hb4)
  have Fq := Lib.hid (Fq.out.below hb4)
  have N := Lib.hid (N.out.below hb4)
  have D := Lib.hid (D.out.below hb4)
  have M := Lib.hid (M.out.below hb4)
  have E := Lib.hid (E.out.below hb4)
  have X := Lib.hid (X.out.below hb4)
  have BXp := Lib.hid (heap_below BXp.out hb4)
  have BXq := Lib.hid (heap_below BXq.out hb4)
  have BXR := Lib.hid (heap_below BXR.out hb4)
  have Y := Lib.hid hn4; clear hn4
  clear hb4
  have hs := rmulN D.out E.out (by omega) (by omega)
  have HS := Lib.hid hs; clear hs
  go_wp2_with fail
  (with_reducible refine HS.out.mono ?_); rintro e w5 ⟨v5, rfl, hb5, hn5⟩
  clear HS
  have HB5 := Lib.hid (HB4.out.step hb5)
  have Fp := Lib.hid (Fp.out.below hb5)
  have Fq := Lib.hid (Fq.out.below hb5)
  have N := Lib.hid (N.out.below hb5)
  have D := Lib.hid (D.out.below hb5)
  have M := Lib.hid (M.out.below hb5)
  have E := Lib.hid (E.out.below hb5)
  have X := Lib.hid (X.out.below hb5)
  have Y := Lib.hid (Y.out.below hb5)
  have BXp := Lib.hid (heap_below BXp.out hb5)
  have BXq := Lib.hid (heap_below BXq.out hb5)
  have BXR := Lib.hid (heap_below BXR.out hb5)
  have DE := Lib.hid hn5; clear hn5
  clear hb5
  have hs := rcmpN_ X.out Y.out (by omega) (by omega)
  rw [← HC.out] at hs
  have HS := Lib.hid hs; clear hs
  go_wp2_with fail
  (with_reducible refine HS.out.mono ?_); rintro e wx ⟨rfl, rfl⟩
  clear HS
  have hs := rsubN Y.out X.out (by omega) (by omega) (Nat.le_of_lt HLE.out)
  have HS := Lib.hid hs; clear hs
  go_wp2_with fail
  (with_reducible refine HS.out.mono ?_); rintro e w7 ⟨v7, rfl, hb7, hn7⟩
  clear HS
  have HB7 := Lib.hid (HB5.out.step hb7)
  have Fp := Lib.hid (Fp.out.below hb7)
  have Fq := Lib.hid (Fq.out.below hb7)
  have N := Lib.hid (N.out.below hb7)
  have D := Lib.hid (D.out.below hb7)
  have M := Lib.hid (M.out.below hb7)
  have E := Lib.hid (E.out.below hb7)
  have X := Lib.hid (X.out.below hb7)
  have Y := Lib.hid (Y.out.below hb7)
  have DE := Lib.hid (DE.out.below hb7)
  have BXp := Lib.hid (heap_below BXp.out hb7)
  have BXq := Lib.hid (heap_below BXq.out hb7)
  have BXR := Lib.hid (heap_below BXR.out hb7)
  have S := Lib.hid hn7; clear hn7
  clear hb7
  have hs := rfromK y S.out DE.out (by omega) (by omega) (den_mul_nz p.den_nz q.den_nz)
  have HS := Lib.hid hs; clear hs
  go_wp2_with fail
  (with_reducible refine HS.out.mono ?_); rintro e w8 ⟨v8, rfl, hb8, hn8⟩
  clear HS
  have HB8 := Lib.hid (HB7.out.step hb8)
  have Fp := Lib.hid (Fp.out.below hb8)
  have Fq := Lib.hid (Fq.out.below hb8)
  have N := Lib.hid (N.out.below hb8)
  have D := Lib.hid (D.out.below hb8)
  have M := Lib.hid (M.out.below hb8)
  have E := Lib.hid (E.out.below hb8)
  have X := Lib.hid (X.out.below hb8)
  have Y := Lib.hid (Y.out.below hb8)
  have DE := Lib.hid (DE.out.below hb8)
  have S := Lib.hid (S.out.below hb8)
  have BXp := Lib.hid (heap_below BXp.out hb8)
  have BXq := Lib.hid (heap_below BXq.out hb8)
  have BXR := Lib.hid (heap_below BXR.out hb8)
  have Q := Lib.hid hn8; clear hn8
  clear hb8
  have hq := Q.out; rw [HY.out, HEQ.out] at hq; have Q := Lib.hid hq; clear hq
  obtain ⟨sQ, oQ, nQ, cQ, aQ, mQ, dQ, rfl⟩ := Q.out.shape
  have hal : Below w8.heap.size w8 (w8.alloc (.cells #[.bool sQ, .slice oQ nQ cQ, .slice aQ mQ dQ] 54)) := (Below.refl _ _).alloc (Nat.le_refl _) _
  have HXA := Lib.hid (heap_below BXR.out hal); have HAL := Lib.hid hal; clear hal
  obtain ⟨eR0, eR1, eR2⟩ := row3 HXA.out
  obtain ⟨fR0, fR1, fR2⟩ := froz3 HXA.out
  go_wp2_with fail
  refine ret_rat rfl (w.heap.size + 2) _ _ _ rfl (put3_heap HXA.out) rfl ?_
  exact ⟨_, rfl, put3_below (HB8.out.step HAL.out) (by omega) _ _ _, isR_put (Q.out.below HAL.out) HXA.out⟩
theorem raddq_any (vp : Value) (p : Rat) (vq : Value) (q : Rat) (w : World) (hp : RatIs w vp p) (hq : RatIs w vq q) :
    Calls Tryz.prog 96 #[vp, vq] w (RetR w (p + q)) := by
  by_cases h : ng p = ng q
  · exact radd_same vp p vq q w hp hq h
  · rcases Nat.lt_or_ge (nn p * q.den) (nn q * p.den) with h2 | h2
    · exact radd_diff' vp p vq q w hp hq h h2
    · exact radd_diff vp p vq q w hp hq h h2
set_option maxRecDepth 100000 in
set_option maxHeartbeats 3200000 in
theorem rsubq_any (vp : Value) (p : Rat) (vq : Value) (q : Rat) (w : World) (hp : RatIs w vp p) (hq : RatIs w vq q)  :
    Calls Tryz.prog 57 #[vp, vq] w (RetR w (p - q)) := by
  obtain ⟨sp, op, np, cp, ap, mp, dp, rfl⟩ := hp.shape
  have hlp := hp.rl
  obtain ⟨sq, oq, nq, cq, aq, mq, dq, rfl⟩ := hq.shape
  have hlq := hq.rl
  have hb0 := ((((Below.refl w.heap.size w).alloc (by first | (simp; done) | (simp; omega)) (.cells #[.bool sp, .slice op np cp, .slice ap mp dp] 54)).alloc (by first | (simp; done) | (simp; omega)) (.cells #[.bool sq, .slice oq nq cq, .slice aq mq dq] 54)).alloc (by first | (simp; done) | (simp; omega)) (.cells #[.bool false, .slice none 0 0, .slice none 0 0] 54))
  have hxp := nest3_0 w (.cells #[.bool sp, .slice op np cp, .slice ap mp dp] 54) (.cells #[.bool sq, .slice oq nq cq, .slice aq mq dq] 54) (.cells #[.bool false, .slice none 0 0, .slice none 0 0] 54)
  have hxq := nest3_1 w (.cells #[.bool sp, .slice op np cp, .slice ap mp dp] 54) (.cells #[.bool sq, .slice oq nq cq, .slice aq mq dq] 54) (.cells #[.bool false, .slice none 0 0, .slice none 0 0] 54)
  have hxR := nest3_2 w (.cells #[.bool sp, .slice op np cp, .slice ap mp dp] 54) (.cells #[.bool sq, .slice oq nq cq, .slice aq mq dq] 54) (.cells #[.bool false, .slice none 0 0, .slice none 0 0] 54)
  have hpp := hp.below hb0
  have hpq := hq.below hb0
  obtain ⟨w0, hw0⟩ : ∃ w0, w0 = (((w.alloc (.cells #[.bool sp, .slice op np cp, .slice ap mp dp] 54)).alloc (.cells #[.bool sq, .slice oq nq cq, .slice aq mq dq] 54)).alloc (.cells #[.bool false, .slice none 0 0, .slice none 0 0] 54)) := ⟨_, rfl⟩
  rw [← hw0] at hb0 hxp hxq hxR hpp hpq
  have HB0 := Lib.hid hb0; have HW0 := Lib.hid hw0
  have BXp := Lib.hid hxp
  have BXq := Lib.hid hxq
  have BXR := Lib.hid hxR
  have Fp := Lib.hid hpp
  have Fq := Lib.hid hpq
  clear hb0 hw0 hxp hxq hxR hpp hp hpq hq
  have hr : rl (-q) ≤ 100000 := by rw [rl_neg]; exact hlq
  have HD := Lib.hid ((Below.refl w0.heap.size w0).drew)
  have hng := rneg_any _ q _ (Fq.out.below HD.out)
  have HNG := Lib.hid hng; clear hng
  have had := fun vs w1 (h1 : Below w0.heap.size w0 w1) (hs : IsR w1 vs (-q)) => raddq_any _ p vs (-q) w1 (Fp.out.below h1) (hs.is hr)
  rw [← Rat.sub_eq_add_neg] at had
  have HAD := Lib.hid had; clear had
  have ZP := Lib.hid (fun w1 (h1 : Below w0.heap.size w0 w1) => row3 (heap_below BXp.out h1)); have ZQ := Lib.hid (fun w1 (h1 : Below w0.heap.size w0 w1) => row3 (heap_below BXq.out h1)); have ZR := Lib.hid (fun w1 (h1 : Below w0.heap.size w0 w1) => row3 (heap_below BXR.out h1)); have ZF := Lib.hid (fun w1 (h1 : Below w0.heap.size w0 w1) => froz3 (heap_below BXR.out h1))
  go_enter Tryz.func57, Tryz.ntmps57
  go_wp2_with fail
  rw [← HW0.out]
  obtain ⟨zp0, zp1, zp2⟩ := ZP.out _ HD.out; obtain ⟨zq0, zq1, zq2⟩ := ZQ.out _ HD.out
  go_region_held3 (fun wx => wx.cell? ⟨w.heap.size, 0, none⟩ = some (.bool sp) ∧ wx.cell? ⟨w.heap.size, 1, none⟩ = some (.slice op np cp) ∧ wx.cell? ⟨w.heap.size, 2, none⟩ = some (.slice ap mp dp) ∧ wx.cell? ⟨w.heap.size + 1, 0, none⟩ = some (.bool sq) ∧ wx.cell? ⟨w.heap.size + 1, 1, none⟩ = some (.slice oq nq cq) ∧ wx.cell? ⟨w.heap.size + 1, 2, none⟩ = some (.slice aq mq dq)) (first | exact ⟨zp0, zp1, zp2, zq0, zq1, zq2⟩ | exact put6 (by omega) (by omega) ⟨zp0, zp1, zp2, zq0, zq1, zq2⟩) (first
    | (go_at_call 97; (with_reducible refine HNG.out.mono ?_); rintro e w1 ⟨v1, rfl, hb1, hn1⟩; (have HB1 := Lib.hid (HD.out.step hb1)); (have HN1 := Lib.hid hn1); clear hb1 hn1; (obtain ⟨zp0, zp1, zp2⟩ := ZP.out _ HB1.out); (obtain ⟨zq0, zq1, zq2⟩ := ZQ.out _ HB1.out))
    | (go_at_call 96; (with_reducible refine (HAD.out _ _ HB1.out HN1.out).mono ?_); rintro e w2 ⟨v2, rfl, hb2, hn2⟩; (have HB2 := Lib.hid (HB1.out.step hb2)); (have HN2 := Lib.hid hn2); clear hb2 hn2; (obtain ⟨t1, t2, t3, t4, t5, t6, t7, rfl⟩ := HN2.out.shape); (obtain ⟨zp0, zp1, zp2⟩ := ZP.out _ HB2.out); (obtain ⟨zq0, zq1, zq2⟩ := ZQ.out _ HB2.out); (obtain ⟨zr0, zr1, zr2⟩ := ZR.out _ HB2.out); (obtain ⟨zf0, zf1, zf2⟩ := ZF.out _ HB2.out)))
  all_goals
    go_wp2_with fail
    have BXR2 := heap_below BXR.out HB2.out
    refine ret_rat rfl (w.heap.size + 2) _ _ _ rfl (put3_heap BXR2) rfl ?_
    exact ⟨_, rfl, put3_below (HB0.out.step HB2.out) (by omega) _ _ _, isR_put HN2.out BXR2⟩
set_option maxRecDepth 100000 in
set_option maxHeartbeats 3200000 in
theorem rsign_any (vp : Value) (p : Rat) (w : World) (hp : RatIs w vp p)  :
    Calls Tryz.prog 98 #[vp] w (RetV w (.int .i64 (sg p))) := by
  obtain ⟨sp, op, np, cp, ap, mp, dp, rfl⟩ := hp.shape
  have hlp := hp.rl
  rw [sg_eq]
  have hb0 := ((Below.refl w.heap.size w).alloc (by first | (simp; done) | (simp; omega)) (.cells #[.bool sp, .slice op np cp, .slice ap mp dp] 54))
  have hxp := nest1_0 w (.cells #[.bool sp, .slice op np cp, .slice ap mp dp] 54)
  have hpp := hp.below hb0
  obtain ⟨w0, hw0⟩ : ∃ w0, w0 = (w.alloc (.cells #[.bool sp, .slice op np cp, .slice ap mp dp] 54)) := ⟨_, rfl⟩
  rw [← hw0] at hb0 hxp hpp
  have HB0 := Lib.hid hb0; have HW0 := Lib.hid hw0
  have BXp := Lib.hid hxp
  have Fp := Lib.hid hpp
  clear hb0 hw0 hxp hpp hp
  by_cases h0 : nn p = 0
  · rw [if_pos h0]
    have H0 := Lib.hid h0; clear h0
    go_enter Tryz.func98, Tryz.ntmps98
    have hs := rparts_any _ p w0 Fp.out
    have HS := Lib.hid hs; clear hs
    go_wp2_with fail
    rw [← HW0.out]
    (with_reducible refine HS.out.mono ?_); rintro e w1 ⟨v1, u1, rfl, hb1, hn1, hm1⟩
    clear HS
    rw [H0.out, wd_zero] at hn1
    obtain ⟨no, nc, rfl, _, _, _⟩ := hn1.shape
    have HB1 := Lib.hid (HB0.out.step hb1)
    have Fp := Lib.hid (Fp.out.below hb1)
    have BXp := Lib.hid (heap_below BXp.out hb1)
    have N := Lib.hid hn1
    have D := Lib.hid hm1
    clear hn1 hm1
    clear hb1
    go_wp2_with fail
    go_ret
    exact ⟨rfl, HB1.out⟩
  · rw [if_neg h0]
    have hz : (((wd (nn p)).length : Int) == 0) = false := by rw [beq_eq_false_iff_ne]; intro h; exact wd_ne h0 (List.eq_nil_of_length_eq_zero (by omega))
    obtain ⟨L, hL⟩ : ∃ L, L = (wd (nn p)).length := ⟨_, rfl⟩
    rw [← hL] at hz
    have HL := Lib.hid hL; clear hL h0
    obtain ⟨x, hx⟩ : ∃ x, x = ng p := ⟨_, rfl⟩
    rw [← hx]
    have HX := Lib.hid hx; clear hx
    cases x
    · go_enter Tryz.func98, Tryz.ntmps98
      have hs := rparts_any _ p w0 Fp.out
      have HS := Lib.hid hs; clear hs
      go_wp2_with fail
      rw [← HW0.out]
      (with_reducible refine HS.out.mono ?_); rintro e w1 ⟨v1, u1, rfl, hb1, hn1, hm1⟩
      clear HS
      rw [← HX.out]
      obtain ⟨no, nc, rfl, _, _, _⟩ := hn1.shape
      rw [← HL.out]
      have HB1 := Lib.hid (HB0.out.step hb1)
      have Fp := Lib.hid (Fp.out.below hb1)
      have BXp := Lib.hid (heap_below BXp.out hb1)
      have N := Lib.hid hn1
      have D := Lib.hid hm1
      clear hn1 hm1
      clear hb1
      go_wp2_with fail
      go_ret
      exact ⟨rfl, HB1.out⟩
    · go_enter Tryz.func98, Tryz.ntmps98
      have hs := rparts_any _ p w0 Fp.out
      have HS := Lib.hid hs; clear hs
      go_wp2_with fail
      rw [← HW0.out]
      (with_reducible refine HS.out.mono ?_); rintro e w1 ⟨v1, u1, rfl, hb1, hn1, hm1⟩
      clear HS
      rw [← HX.out]
      obtain ⟨no, nc, rfl, _, _, _⟩ := hn1.shape
      rw [← HL.out]
      have HB1 := Lib.hid (HB0.out.step hb1)
      have Fp := Lib.hid (Fp.out.below hb1)
      have BXp := Lib.hid (heap_below BXp.out hb1)
      have N := Lib.hid hn1
      have D := Lib.hid hm1
      clear hn1 hm1
      clear hb1
      go_wp2_with fail
      go_ret
      exact ⟨rfl, HB1.out⟩
set_option maxRecDepth 100000 in
set_option maxHeartbeats 3200000 in
theorem rcmpq_any (vp : Value) (p : Rat) (vq : Value) (q : Rat) (w : World) (hp : RatIs w vp p) (hq : RatIs w vq q) (hlp2 : rl p ≤ 40000) (hlq2 : rl q ≤ 40000)  :
    Calls Tryz.prog 59 #[vp, vq] w (RetV w (.int .i64 (cq p q))) := by
  obtain ⟨sp, op, np, cp, ap, mp, dp, rfl⟩ := hp.shape
  have hlp := hp.rl
  obtain ⟨sq, oq, nq, cq, aq, mq, dq, rfl⟩ := hq.shape
  have hlq := hq.rl
  have hb0 := (((Below.refl w.heap.size w).alloc (by first | (simp; done) | (simp; omega)) (.cells #[.bool sp, .slice op np cp, .slice ap mp dp] 54)).alloc (by first | (simp; done) | (simp; omega)) (.cells #[.bool sq, .slice oq nq cq, .slice aq mq dq] 54))
  have hxp := nest2_0 w (.cells #[.bool sp, .slice op np cp, .slice ap mp dp] 54) (.cells #[.bool sq, .slice oq nq cq, .slice aq mq dq] 54)
  have hxq := nest2_1 w (.cells #[.bool sp, .slice op np cp, .slice ap mp dp] 54) (.cells #[.bool sq, .slice oq nq cq, .slice aq mq dq] 54)
  have hpp := hp.below hb0
  have hpq := hq.below hb0
  obtain ⟨w0, hw0⟩ : ∃ w0, w0 = ((w.alloc (.cells #[.bool sp, .slice op np cp, .slice ap mp dp] 54)).alloc (.cells #[.bool sq, .slice oq nq cq, .slice aq mq dq] 54)) := ⟨_, rfl⟩
  rw [← hw0] at hb0 hxp hxq hpp hpq
  have HB0 := Lib.hid hb0; have HW0 := Lib.hid hw0
  have BXp := Lib.hid hxp
  have BXq := Lib.hid hxq
  have Fp := Lib.hid hpp
  have Fq := Lib.hid hpq
  clear hb0 hw0 hxp hxq hpp hp hpq hq
  have hr := rl_sub p q
  go_enter Tryz.func59, Tryz.ntmps59
  have hs := rsubq_any _ p _ q w0 Fp.out Fq.out
  have HS := Lib.hid hs; clear hs
  go_wp2_with fail
  rw [← HW0.out]
  (with_reducible refine HS.out.mono ?_); rintro e w1 ⟨v1, rfl, hb1, hn1⟩
  clear HS
  have HB1 := Lib.hid (HB0.out.step hb1)
  have Fp := Lib.hid (Fp.out.below hb1)
  have Fq := Lib.hid (Fq.out.below hb1)
  have BXp := Lib.hid (heap_below BXp.out hb1)
  have BXq := Lib.hid (heap_below BXq.out hb1)
  have S := Lib.hid hn1; clear hn1
  clear hb1
  have SI := Lib.hid (S.out.is (by omega))
  obtain ⟨sS, oS, nS, cS, aS, mS, dS, rfl⟩ := S.out.shape
  have hs := rsign_any _ (p - q) w1 SI.out
  rw [sg_sub] at hs
  have HS := Lib.hid hs; clear hs
  go_wp2_with fail
  (with_reducible refine HS.out.mono ?_); rintro e w2 ⟨rfl, hb2⟩
  clear HS
  have HB2 := Lib.hid (HB1.out.step hb2)
  have Fp := Lib.hid (Fp.out.below hb2)
  have Fq := Lib.hid (Fq.out.below hb2)
  have S := Lib.hid (S.out.below hb2)
  have SI := Lib.hid (SI.out.below hb2)
  have BXp := Lib.hid (heap_below BXp.out hb2)
  have BXq := Lib.hid (heap_below BXq.out hb2)
  clear hb2
  go_wp2_with fail
  go_ret
  exact ⟨rfl, HB2.out⟩
end Go.Proofs.YthhgfhdmfhnklaaGreatDoor
/-
  Intervals in memory: what a value reads as, what a call hands back; six cells side by side.
  Conditions: none beyond each theorem's own.
-/
namespace Go.Proofs.YthhgfhdmfhnklaaGreatDoor
open Go.RowKit Go.ChangeShapes Go.WideShapes

theorem isSp_zero (w : World) : IsSp w (.agg #[.bool false, .slice none 0 0, .slice none 0 0, .bool false, .slice none 0 0, .slice none 0 0]) (0, 0) :=
  ⟨_, _, _, _, _, _, rfl, isR_zero w, isR_zero w⟩
theorem spV_ends {w : World} {x0 x1 x2 x3 x4 x5 : Value} {s t : Bool} {a b c d : List Nat} (h : SpV w (.agg #[x0, x1, x2, x3, x4, x5]) s a b t c d) : RatV w (.agg #[x0, x1, x2]) s a b ∧ RatV w (.agg #[x3, x4, x5]) t c d := by
  obtain ⟨y0, y1, y2, y3, y4, y5, e, h1, h2⟩ := h
  have e' : x0 = y0 ∧ x1 = y1 ∧ x2 = y2 ∧ x3 = y3 ∧ x4 = y4 ∧ x5 = y5 := by simpa using e
  obtain ⟨rfl, rfl, rfl, rfl, rfl, rfl⟩ := e'
  exact ⟨h1, h2⟩
/-- hands back the valid form of the interval -/
def RetSp (w : World) (S : Rat × Rat) (e : Ending) (w' : World) : Prop := ∃ v, e = .returned v ∧ Below w.heap.size w w' ∧ IsSp w' v S
/-! six cells -/
section
variable {w w' : World} {g off : Nat} {l : List Value} {cs : Array Value} {T : TypeId} {v : Value} {q : Rat} {s t : Bool} {a b c d : List Nat} {S : Rat × Rat}
theorem putL_R (hw : w' = putL w g off l) (h : RatIs w v q) (hg : w.heap[g]? = some (.cells cs T)) (hc : noW cs) : RatIs w' v q := by
  obtain ⟨s, a, b, h1, h2⟩ := h
  exact ⟨s, a, b, putL_V hw h1 hg hc, h2⟩
theorem putL_SV (hw : w' = putL w g off l) (h : SpV w v s a b t c d) (hg : w.heap[g]? = some (.cells cs T)) (hc : noW cs) : SpV w' v s a b t c d := by
  obtain ⟨x0, x1, x2, x3, x4, x5, e, h1, h2⟩ := h
  exact ⟨x0, x1, x2, x3, x4, x5, e, putL_V hw h1 hg hc, putL_V hw h2 hg hc⟩
theorem putL_SI (hw : w' = putL w g off l) (h : IsSp w v S) (hg : w.heap[g]? = some (.cells cs T)) (hc : noW cs) : IsSp w' v S := by
  obtain ⟨x0, x1, x2, x3, x4, x5, e, h1, h2⟩ := h
  exact ⟨x0, x1, x2, x3, x4, x5, e, putL_I hw h1 hg hc, putL_I hw h2 hg hc⟩
theorem putL_SS (hw : w' = putL w g off l) (h : SpIs w v S) (hg : w.heap[g]? = some (.cells cs T)) (hc : noW cs) : SpIs w' v S := by
  obtain ⟨s, a, b, t, c, d, h1, h2⟩ := h
  exact ⟨s, a, b, t, c, d, putL_SV hw h1 hg hc, h2⟩
end
theorem putL_0 {w : World} {g : Nat} {x0 x1 x2 x3 x4 x5 y0 y1 y2 : Value} {T : TypeId} (h : w.heap[g]? = some (.cells #[x0, x1, x2, x3, x4, x5] T)) : (putL w g 0 [y0, y1, y2]).heap[g]? = some (.cells #[y0, y1, y2, x3, x4, x5] T) := by
  simp [putL, World.setCell, Array.getElem?_modify, h]
theorem putL_3 {w : World} {g : Nat} {x0 x1 x2 x3 x4 x5 y0 y1 y2 : Value} {T : TypeId} (h : w.heap[g]? = some (.cells #[x0, x1, x2, x3, x4, x5] T)) : (putL w g 3 [y0, y1, y2]).heap[g]? = some (.cells #[x0, x1, x2, y0, y1, y2] T) := by
  simp [putL, World.setCell, Array.getElem?_modify, h]
def KSp (S : Rat × Rat) : Value → World → Prop := fun v w => IsSp w v S
theorem kSp (S : Rat × Rat) : MonoF (KSp S) := fun _ _ _ h hb => IsSp.below h hb
/-- a function that hands back an interval in a variable of its own -/
theorem ret_span {fn : Func} {R : Ending → World → Prop} {a : Act} {w : World} {p : Tmp} (h : fn.results = #[.cell p 56]) (g : Nat) (x0 x1 x2 x3 x4 x5 : Value)
    (hp : a.tmps.getD p undef = .pointer (some ⟨g, 0, none⟩)) (hg : w.heap[g]? = some (.cells #[x0, x1, x2, x3, x4, x5] 56)) (hd : a.defers = []) (hR : R (.returned (.agg #[x0, x1, x2, x3, x4, x5])) w) : bodyPost Tryz.prog fn R .ret a w :=
  bodyPost_ret (results_cell_row h a.tmps w g 56 _ _ _ hp hg Tryz.underlying56 rfl span_info) hd hR
end Go.Proofs.YthhgfhdmfhnklaaGreatDoor
/-
  The probability of the top over all states; what a cube decides; a tree's leaves enclose it.
  Conditions: none.
-/
namespace Go.Proofs.YthhgfhdmfhnklaaGreatDoor

theorem sumS_add (g h k : Nat → Rat) (e : ∀ s, g s = h s + k s) : ∀ n, sumS g n = sumS h n + sumS k n
  | 0 => by simp only [sumS]; grind
  | n + 1 => by simp only [sumS]; rw [sumS_add g h k e n, e n]; grind
theorem sumS_zero (g : Nat → Rat) : ∀ n, (∀ s, s < n → g s = 0) → sumS g n = 0
  | 0, _ => rfl
  | n + 1, h => by simp only [sumS]; rw [sumS_zero g n (fun s hs => h s (by omega)), h n (by omega)]; grind
theorem sumS_one (g : Nat → Rat) (y : Nat) : ∀ n, y < n → (∀ s, s < n → s ≠ y → g s = 0) → sumS g n = g y
  | 0, h, _ => by omega
  | n + 1, h, k => by
    simp only [sumS]
    by_cases e : n = y
    · subst e
      rw [sumS_zero g n (fun s hs => k s (by omega) (by omega))]; grind
    · rw [sumS_one g y n (by omega) (fun s hs => k s (by omega)), k n (by omega) e]; grind
theorem sumS_le {g h : Nat → Rat} : ∀ n, (∀ s, s < n → g s ≤ h s) → sumS g n ≤ sumS h n
  | 0, _ => by simp only [sumS]; exact Rat.le_refl
  | n + 1, k => by
    simp only [sumS]
    have h1 := sumS_le n (fun s hs => k s (by omega))
    have h2 := k n (by omega)
    grind
theorem sumS_congr {g h : Nat → Rat} : ∀ n, (∀ s, s < n → g s = h s) → sumS g n = sumS h n
  | 0, _ => rfl
  | n + 1, k => by simp only [sumS]; rw [sumS_congr n (fun s hs => k s (by omega)), k n (by omega)]

theorem conS_iff {vars y n s : Nat} : conS vars y n s = true ↔ ∀ i, i < vars → (y.testBit i = true → s.testBit i = true) ∧ (n.testBit i = true → s.testBit i = false) := by
  unfold conS
  rw [List.all_eq_true]
  constructor
  · intro h i hi
    have := h i (List.mem_range.2 hi)
    cases hy : y.testBit i <;> cases hs : s.testBit i <;> cases hn : n.testBit i <;> simp_all
  · intro h i hi
    have := h i (List.mem_range.1 hi)
    cases hy : y.testBit i <;> cases hs : s.testBit i <;> cases hn : n.testBit i <;> simp_all
theorem stL_range : ∀ (ps : List Rat) (i s : Nat), (∀ p ∈ ps, 0 ≤ p ∧ p ≤ 1) → 0 ≤ stL ps i s ∧ stL ps i s ≤ 1
  | [], _, _, _ => by simp only [stL]; constructor <;> decide
  | p :: ps, i, s, h => by
    simp only [stL]
    have hp := h p (List.mem_cons_self ..)
    refine mul_range ?_ (stL_range ps (i + 1) s (fun q hq => h q (List.mem_cons_of_mem _ hq)))
    split <;> constructor <;> grind
theorem stL_full : ∀ (ps : List Rat) (i y n : Nat), (∀ j, i ≤ j → j < i + ps.length → (y.testBit j = true ∨ n.testBit j = true)) → stL ps i y = wtL ps i y n
  | [], _, _, _, _ => rfl
  | p :: ps, i, y, n, h => by
    simp only [stL, wtL]
    rw [stL_full ps (i + 1) y n (fun j h1 h2 => h j (by omega) (by simp; omega))]
    congr 1
    have := h i (Nat.le_refl _) (by simp)
    unfold wtAt
    cases hy : y.testBit i with
    | true => simp
    | false => rw [hy] at this; have hn : n.testBit i = true := by rcases this with e | e; cases e; exact e
               simp [hn]
theorem conS_split {vars y n v s : Nat} (hv : v < vars) :
    (s.testBit v = true → conS vars (y ||| 1 <<< v) n s = conS vars y n s ∧ conS vars y (n ||| 1 <<< v) s = false) ∧
    (s.testBit v = false → conS vars y (n ||| 1 <<< v) s = conS vars y n s ∧ conS vars (y ||| 1 <<< v) n s = false) := by
  refine ⟨fun hs => ⟨?_, ?_⟩, fun hs => ⟨?_, ?_⟩⟩
  · rw [Bool.eq_iff_iff, conS_iff, conS_iff]
    constructor
    · intro h i hi
      have := h i hi
      rw [bit_or] at this
      exact ⟨fun e => this.1 (by simp [e]), this.2⟩
    · intro h i hi
      have := h i hi
      rw [bit_or]
      refine ⟨fun e => ?_, this.2⟩
      by_cases q : i = v
      · rw [q]; exact hs
      · exact this.1 (by simpa [q] using e)
  · rw [← Bool.not_eq_true, conS_iff]
    intro h
    have := (h v hv).2 (by rw [bit_or]; simp)
    rw [hs] at this; cases this
  · rw [Bool.eq_iff_iff, conS_iff, conS_iff]
    constructor
    · intro h i hi
      have := h i hi
      rw [bit_or] at this
      exact ⟨this.1, fun e => this.2 (by simp [e])⟩
    · intro h i hi
      have := h i hi
      rw [bit_or]
      refine ⟨this.1, fun e => ?_⟩
      by_cases q : i = v
      · rw [q]; exact hs
      · exact this.2 (by simpa [q] using e)
  · rw [← Bool.not_eq_true, conS_iff]
    intro h
    have := (h v hv).1 (by rw [bit_or]; simp)
    rw [hs] at this; cases this
theorem stS_split {vars : Nat} {ps : List Rat} {t : Nat → Bool} {y n v : Nat} (hv : v < vars) :
    stS vars ps t y n = stS vars ps t y (n ||| 1 <<< v) + stS vars ps t (y ||| 1 <<< v) n := by
  unfold stS
  apply sumS_add
  intro s
  obtain ⟨h1, h2⟩ := conS_split (y := y) (n := n) (s := s) hv
  cases hs : s.testBit v with
  | true =>
    obtain ⟨e1, e2⟩ := h1 hs
    rw [e1, e2]; simp [Rat.zero_add]
  | false =>
    obtain ⟨e1, e2⟩ := h2 hs
    rw [e1, e2]; simp [Rat.add_zero]
theorem opens_find {y n : Nat} : ∀ k, opens y n k ≠ 0 → ∃ v, v < k ∧ y.testBit v = false ∧ n.testBit v = false
  | 0, h => by simp [opens] at h
  | k + 1, h => by
    simp only [opens] at h
    by_cases q : y.testBit k || n.testBit k
    · rw [if_pos q] at h
      obtain ⟨v, h1, h2⟩ := opens_find k (by omega)
      exact ⟨v, by omega, h2⟩
    · refine ⟨k, by omega, ?_⟩
      cases hy : y.testBit k <;> cases hn : n.testBit k <;> simp_all
theorem opens_none {y n : Nat} : ∀ k, opens y n k = 0 → ∀ v, v < k → y.testBit v = true ∨ n.testBit v = true
  | 0, _, v, hv => by omega
  | k + 1, h, v, hv => by
    simp only [opens] at h
    by_cases e : v = k
    · subst e
      by_cases q : y.testBit v || n.testBit v
      · simpa using q
      · rw [if_neg q] at h; omega
    · exact opens_none k (by omega) v (by omega)
/-- THE LAW OF TOTAL PROBABILITY: the states of a cube weigh what it weighs -/
theorem stS_all {vars : Nat} {ps : List Rat} (hl : ps.length = vars) : ∀ (k y n : Nat), opens y n vars = k → okC vars y n → stS vars ps (fun _ => true) y n = wt ps y n
  | 0, y, n, hk, hc => by
    have hf := opens_none vars hk
    have hy : y < 2 ^ vars := by
      apply Nat.lt_pow_two_of_testBit
      intro i hi
      cases e : y.testBit i with
      | false => rfl
      | true => have := ((hc i).1 e).2; omega
    unfold stS wt
    rw [sumS_one _ y _ hy]
    · have hcon : conS vars y n y = true := conS_iff.2 (fun i hi => ⟨fun e => e, fun e => by
        cases q : y.testBit i with
        | false => rfl
        | true => rw [((hc i).1 q).1] at e; cases e⟩)
      simp only [hcon, Bool.true_and, if_true]
      exact stL_full ps 0 y n (fun j _ h => hf j (by omega))
    · intro s hs hne
      have : conS vars y n s = false := by
        rw [← Bool.not_eq_true, conS_iff]
        intro h
        apply hne
        apply Nat.eq_of_testBit_eq
        intro i
        by_cases hi : i < vars
        · rcases hf i hi with e | e
          · rw [e]; exact (h i hi).1 e
          · rw [(h i hi).2 e]
            cases q : y.testBit i with
            | false => rfl
            | true => rw [((hc i).1 q).1] at e; cases e
        · have p1 : s.testBit i = false := Nat.testBit_lt_two_pow (Nat.lt_of_lt_of_le hs (Nat.pow_le_pow_right (by decide) (by omega)))
          have p2 : y.testBit i = false := Nat.testBit_lt_two_pow (Nat.lt_of_lt_of_le hy (Nat.pow_le_pow_right (by decide) (by omega)))
          rw [p1, p2]
      rw [this]; simp
  | k + 1, y, n, hk, hc => by
    obtain ⟨v, hv, hy, hn⟩ := opens_find (y := y) (n := n) vars (by omega)
    have h1 := opens_no hy hn vars
    have h2 := opens_yes hy hn vars
    rw [if_pos hv] at h1 h2
    rw [stS_split hv, stS_all hl k y (n ||| 1 <<< v) (by omega) (okC_no hc hv hy), stS_all hl k (y ||| 1 <<< v) n (by omega) (okC_yes hc hv hn)]
    exact wt_split (by omega) hy hn
end Go.Proofs.YthhgfhdmfhnklaaGreatDoor
/-
  A tree that holds encloses the probability of the top.
  Conditions: none.
-/
namespace Go.Proofs.YthhgfhdmfhnklaaGreatDoor

theorem compS_bit {vars s : Nat} (h : s < 2 ^ vars) (i : Nat) : (compS vars s).testBit i = (decide (i < vars) && !s.testBit i) := by
  unfold compS; exact Nat.testBit_two_pow_sub_succ h i
theorem cubeIn_state {vars y n s : Nat} (hs : s < 2 ^ vars) (hc : okC vars y n) (h : conS vars y n s = true) : cubeIn y n s (compS vars s) := by
  rw [conS_iff] at h
  refine ⟨fun i e => ?_, fun i e => ?_, fun i e => ?_⟩
  · exact (h i ((hc i).1 e).2).1 e
  · have hi := (hc i).2 e
    rw [compS_bit hs, (h i hi).2 e]; simp [hi]
  · rw [compS_bit hs, e]; simp
theorem st_nonneg {ps : List Rat} (hp : ∀ p ∈ ps, 0 ≤ p ∧ p ≤ 1) (vars y n : Nat) (t : Nat → Bool) : 0 ≤ stS vars ps t y n ∧ stS vars ps t y n ≤ stS vars ps (fun _ => true) y n := by
  constructor
  · have h := sumS_le (g := fun _ => 0) (h := fun s => if conS vars y n s && t s then stL ps 0 s else 0) (2 ^ vars) (fun s _ => by
      split
      · exact (stL_range ps 0 s hp).1
      · exact Rat.le_refl)
    rw [sumS_zero (fun _ => 0) _ (fun _ _ => rfl)] at h
    exact h
  · unfold stS
    apply sumS_le
    intro s _
    have h := (stL_range ps 0 s hp).1
    cases conS vars y n s <;> cases t s <;> simp <;> first | exact Rat.le_refl | exact h
theorem st_decided {f : Fm} {ps : List Rat} (hd : ndsOK f.vars 0 f.nodes) {y n : Nat} (hc : okC f.vars.toNat y n) :
    (fmVal f y n = 1 → stS f.vars.toNat ps (topS f) y n = stS f.vars.toNat ps (fun _ => true) y n) ∧ (fmVal f y n = 0 → stS f.vars.toNat ps (topS f) y n = 0) := by
  have key : ∀ s, s < 2 ^ f.vars.toNat → conS f.vars.toNat y n s = true → fmVal f y n ≠ 2 → fmVal f s (compS f.vars.toNat s) = fmVal f y n :=
    fun s hs h h2 => fmVal_fits hd (cubeIn_state hs hc h) h2
  constructor
  · intro e
    unfold stS
    apply sumS_congr
    intro s hs
    cases h : conS f.vars.toNat y n s with
    | false => simp
    | true =>
      have := key s hs h (by rw [e]; decide)
      simp [topS, this, e]
  · intro e
    unfold stS
    apply sumS_zero
    intro s hs
    cases h : conS f.vars.toNat y n s with
    | false => simp
    | true =>
      have := key s hs h (by rw [e]; decide)
      simp [topS, this, e]
/-- what holds encloses the probability of a cube -/
theorem tree_encl {f : Fm} {ps : List Rat} (hv : 0 ≤ f.vars) (hd : ndsOK f.vars 0 f.nodes) (hl : ps.length = f.vars.toNat) (hp : ∀ p ∈ ps, 0 ≤ p ∧ p ≤ 1) :
    ∀ (t : Tr) (y n above m m' : Nat), trErr f.vars t above m = (m', 0) → okC f.vars.toNat y n → (∀ i, above.testBit i = (y.testBit i || n.testBit i)) → holdL f (trLeaves t y n) →
      sumL ps (fun x => decide (x.reason = 1)) (trLeaves t y n) ≤ stS f.vars.toNat ps (topS f) y n ∧
      stS f.vars.toNat ps (topS f) y n + sumL ps (fun x => decide (x.reason = 0)) (trLeaves t y n) ≤ wt ps y n
  | .mk v ks r, y, n, above, m, m', h, hc, hab, hh => by
    have hall := stS_all (ps := ps) hl _ y n rfl hc
    have hrg := st_nonneg hp f.vars.toNat y n (topS f)
    rcases trErr_inv h with ⟨rfl, _, _⟩ | ⟨a, b, m1, rfl, h1, h2, h3, _, h4, h5⟩
    · have e : trLeaves (.mk v [] r) y n = [⟨y, n, r⟩] := by simp [trLeaves]
      rw [e] at hh ⊢
      have hw := (wtL_range ps 0 y n hp).1
      have hx := hh ⟨y, n, r⟩ (by simp)
      simp only at hx
      obtain ⟨d1, d0⟩ := st_decided (ps := ps) hd hc
      have hle := fmVal_le hd y n
      simp only [sumL]
      rw [hall] at hrg
      rcases hx with hx | hx
      · subst hx
        simp
        exact ⟨by have := hrg.1; grind, by have := hrg.2; grind⟩
      · rcases (by omega : fmVal f y n = 0 ∨ fmVal f y n = 1 ∨ fmVal f y n = 2) with q | q | q
        · rw [q] at hx; rw [d0 q]
          have : r = 0 := hx
          subst this
          simp
          exact ⟨by grind, by grind⟩
        · rw [q] at hx; rw [d1 q, hall]
          have : r = 1 := hx
          subst this
          simp
          exact ⟨by grind, by grind⟩
        · rw [q] at hx
          have : r = 2 := hx
          subst this
          simp
          exact ⟨by have := hrg.1; grind, by have := hrg.2; grind⟩
    · have e : trLeaves (.mk v [a, b] r) y n = trLeaves a y (n ||| 1 <<< v.toNat) ++ trLeaves b (y ||| 1 <<< v.toNat) n := by rw [trLeaves]
      rw [e] at hh ⊢
      have hvt : v.toNat < f.vars.toNat := by omega
      have hyn := hab v.toNat
      rw [h3] at hyn
      obtain ⟨hy, hn⟩ := Bool.or_eq_false_iff.1 hyn.symm
      have ra := tree_encl hv hd hl hp a y (n ||| 1 <<< v.toNat) (above ||| 1 <<< v.toNat) (m + 1) m1 h4 (okC_no hc hvt hy) (fun i => by rw [bit_or, bit_or, hab i, Bool.or_assoc]) (fun x hx => hh x (List.mem_append_left _ hx))
      have rb := tree_encl hv hd hl hp b (y ||| 1 <<< v.toNat) n (above ||| 1 <<< v.toNat) m1 m' h5 (okC_yes hc hvt hn) (fun i => by rw [bit_or, bit_or, hab i]; cases y.testBit i <;> cases n.testBit i <;> simp) (fun x hx => hh x (List.mem_append_right _ hx))
      have hs := stS_split (vars := f.vars.toNat) (ps := ps) (t := topS f) (y := y) (n := n) hvt
      have hw := wt_split (ps := ps) (v := v.toNat) (by omega) hy hn
      rw [sumL_app, sumL_app, hs]
      exact ⟨by have := ra.1; have := rb.1; grind, by have := ra.2; have := rb.2; grind⟩
  termination_by t => SizeOf.sizeOf t
theorem tree_chance {f : Fm} {ps : List Rat} {t : Tr} {m : Nat} (hv : 0 ≤ f.vars) (hd : ndsOK f.vars 0 f.nodes) (hl : ps.length = f.vars.toNat) (hp : ∀ p ∈ ps, 0 ≤ p ∧ p ≤ 1)
    (h : trErr f.vars t 0 0 = (m, 0)) (hh : holdL f (trLeaves t 0 0)) :
    sumL ps (fun x => decide (x.reason = 1)) (trLeaves t 0 0) ≤ chance f ps ∧ chance f ps ≤ 1 - sumL ps (fun x => decide (x.reason = 0)) (trLeaves t 0 0) := by
  obtain ⟨h1, h2⟩ := tree_encl hv hd hl hp t 0 0 0 0 m h (fun i => by simp) (fun i => by simp) hh
  have hw : ∀ (ps : List Rat) (i : Nat), wtL ps i 0 0 = 1 := by
    intro ps
    induction ps with
    | nil => intro i; rfl
    | cons p ps ih => intro i; simp only [wtL]; rw [ih]; simp [wtAt]
  unfold wt at h2
  rw [hw] at h2
  refine ⟨h1, ?_⟩
  unfold chance
  grind
end Go.Proofs.YthhgfhdmfhnklaaGreatDoor
/-
  Trees that are grown: they hold, have no errors while they are small; deeper ones enclose no less tightly; deep enough, no leaf is open.
  Conditions: none.
-/
namespace Go.Proofs.YthhgfhdmfhnklaaGreatDoor

/-- a greater depth knows no less -/
theorem grT_deeper {f : Fm} {ps : List Rat} (hp : ∀ p ∈ ps, 0 ≤ p ∧ p ≤ 1) (r : Int) (hr : r ≠ 2) : ∀ d y n,
    sumL ps (fun x => decide (x.reason = r)) (trLeaves (grT f d y n) y n) ≤ sumL ps (fun x => decide (x.reason = r)) (trLeaves (grT f (d + 1) y n) y n)
  | 0, y, n => by
    by_cases q : fmVal f y n = 2
    · have e : sumL ps (fun x => decide (x.reason = r)) (trLeaves (grT f 0 y n) y n) = 0 := by
        simp only [grT]; rw [leafT_leaves, q]
        simp only [sumL]
        have : decide (((2 : Nat) : Int) = r) = false := decide_eq_false (fun k => hr k.symm)
        rw [this]; simp [Rat.add_zero]
      rw [e]; exact sumL_nonneg hp _ _
    · simp only [grT]; rw [if_pos q]; exact Rat.le_refl
  | d + 1, y, n => by
    by_cases q : fmVal f y n = 2
    · have hq : ¬ fmVal f y n ≠ 2 := fun k => k q
      have e : ∀ d, trLeaves (grT f (d + 1) y n) y n = trLeaves (grT f d y (n ||| 1 <<< fmNext f y n)) y (n ||| 1 <<< fmNext f y n) ++ trLeaves (grT f d (y ||| 1 <<< fmNext f y n) n) (y ||| 1 <<< fmNext f y n) n := fun d => by
        rw [show grT f (d + 1) y n = .mk (fmNext f y n : Nat) [grT f d y (n ||| 1 <<< fmNext f y n), grT f d (y ||| 1 <<< fmNext f y n) n] 0 from by simp only [grT]; rw [if_neg hq]]
        simp only [trLeaves, Int.toNat_natCast]
      rw [e d, e (d + 1), sumL_app, sumL_app]
      have h1 := grT_deeper (f := f) hp r hr d y (n ||| 1 <<< fmNext f y n)
      have h2 := grT_deeper (f := f) hp r hr d (y ||| 1 <<< fmNext f y n) n
      grind
    · have e : ∀ d, grT f (d + 1) y n = leafT (fmVal f y n) := fun d => by simp only [grT]; rw [if_pos q]
      rw [e d, e (d + 1)]; exact Rat.le_refl
end Go.Proofs.YthhgfhdmfhnklaaGreatDoor
/-
  What the loops of Verify, sums and chance come to.
  Conditions: none.
-/
namespace Go.Proofs.YthhgfhdmfhnklaaGreatDoor

theorem sumF_eq (ps : List Rat) (r : Int) : ∀ (l : List Lf) (a : Rat), sumF ps r l a = a + sumL ps (fun x => decide (x.reason = r)) l
  | [], a => by simp only [sumF, sumL]; grind
  | x :: xs, a => by
    simp only [sumF, sumL]
    rw [sumF_eq ps r xs]
    by_cases e : x.reason = r
    · simp [e]; grind
    · simp [e]; grind
end Go.Proofs.YthhgfhdmfhnklaaGreatDoor
/-
  The reference: size, Make, Of, Floor, Round: what they hand back.
  Conditions: each theorem's own.
-/
namespace Go.Proofs.YthhgfhdmfhnklaaGreatDoor
open Go.RowKit Go.ChangeShapes Go.WideShapes

set_option maxRecDepth 100000 in
set_option maxHeartbeats 3200000 in
theorem rofq_any (n : Int) (w : World)  (h0 : -9223372036854775808 ≤ n) (h1 : n < 9223372036854775808) :
    Calls Tryz.prog 58 #[.int .i64 n] w (RetR w (n : Rat)) := by
  have hb0 := ((Below.refl w.heap.size w).alloc (by first | (simp; done) | (simp; omega)) (.cells #[.bool false, .slice none 0 0, .slice none 0 0] 54))
  have hxR := nest1_0 w (.cells #[.bool false, .slice none 0 0, .slice none 0 0] 54)
  obtain ⟨w0, hw0⟩ : ∃ w0, w0 = (w.alloc (.cells #[.bool false, .slice none 0 0, .slice none 0 0] 54)) := ⟨_, rfl⟩
  rw [← hw0] at hb0 hxR
  have HB0 := Lib.hid hb0; have HW0 := Lib.hid hw0
  have BXR := Lib.hid hxR
  clear hb0 hw0 hxR
  have BD := Lib.hid (And.intro h0 h1)
  have hq1 : (n : Rat) / ((1 : Int) : Rat) = (n : Rat) := by rw [show ((1 : Int) : Rat) = 1 from rfl]; grind
  have HQ1 := Lib.hid hq1; clear hq1
  go_enter Tryz.func58, Tryz.ntmps58
  have hs := rmake_any n 1 w0 BD.out.1 BD.out.2 (by decide) (by decide)
  rw [HQ1.out, show zc (1 : Int).natAbs = 0 from rfl] at hs
  have HS := Lib.hid hs; clear hs
  go_wp2_with fail
  rw [← HW0.out]
  (with_reducible refine HS.out.mono ?_); rintro e w1 ⟨v1, rfl, hb1, hn1⟩
  clear HS
  have HB1 := Lib.hid (HB0.out.step hb1)
  have BXR := Lib.hid (heap_below BXR.out hb1)
  have Q := Lib.hid hn1; clear hn1
  clear hb1
  obtain ⟨sQ, oQ, nQ, cQ, aQ, mQ, dQ, rfl⟩ := Q.out.shape
  have hal : Below w1.heap.size w1 (w1.alloc (.cells #[.bool sQ, .slice oQ nQ cQ, .slice aQ mQ dQ] 54)) := (Below.refl _ _).alloc (Nat.le_refl _) _
  have HXA := Lib.hid (heap_below BXR.out hal); have HAL := Lib.hid hal; clear hal
  obtain ⟨eR0, eR1, eR2⟩ := row3 HXA.out
  obtain ⟨fR0, fR1, fR2⟩ := froz3 HXA.out
  go_wp2_with fail
  refine ret_rat rfl w.heap.size _ _ _ rfl (put3_heap HXA.out) rfl ?_
  exact ⟨_, rfl, put3_below (HB1.out.step HAL.out) (by omega) _ _ _, isR_put (Q.out.below HAL.out) HXA.out⟩
end Go.Proofs.YthhgfhdmfhnklaaGreatDoor
/-
  Min, Max and the reference's: what they hand back.
  Conditions: each theorem's own.
-/
namespace Go.Proofs.YthhgfhdmfhnklaaGreatDoor
open Go.RowKit Go.ChangeShapes Go.WideShapes

set_option maxRecDepth 100000 in
set_option maxHeartbeats 3200000 in
theorem minq_a (vp : Value) (p : Rat) (vu : Value) (u : Rat) (w : World) (hp : RatIs w vp p) (hu : RatIs w vu u) (hp2 : rl p ≤ 40000) (hu2 : rl u ≤ 40000) (hc : p ≤ u) :
    Calls Tryz.prog 128 #[vp, vu] w (RetR w p) := by
  obtain ⟨sp, op, np, cp, ap, mp, dp, rfl⟩ := hp.shape
  have hlp := hp.rl
  obtain ⟨su, ou, nu, cu, au, mu, du, rfl⟩ := hu.shape
  have hlu := hu.rl
  have hb0 := ((((Below.refl w.heap.size w).alloc (by first | (simp; done) | (simp; omega)) (.cells #[.bool sp, .slice op np cp, .slice ap mp dp] 54)).alloc (by first | (simp; done) | (simp; omega)) (.cells #[.bool su, .slice ou nu cu, .slice au mu du] 54)).alloc (by first | (simp; done) | (simp; omega)) (.cells #[.bool false, .slice none 0 0, .slice none 0 0] 54))
  have hxp := nest3_0 w (.cells #[.bool sp, .slice op np cp, .slice ap mp dp] 54) (.cells #[.bool su, .slice ou nu cu, .slice au mu du] 54) (.cells #[.bool false, .slice none 0 0, .slice none 0 0] 54)
  have hxu := nest3_1 w (.cells #[.bool sp, .slice op np cp, .slice ap mp dp] 54) (.cells #[.bool su, .slice ou nu cu, .slice au mu du] 54) (.cells #[.bool false, .slice none 0 0, .slice none 0 0] 54)
  have hxR := nest3_2 w (.cells #[.bool sp, .slice op np cp, .slice ap mp dp] 54) (.cells #[.bool su, .slice ou nu cu, .slice au mu du] 54) (.cells #[.bool false, .slice none 0 0, .slice none 0 0] 54)
  have hpp := hp.below hb0
  have hpu := hu.below hb0
  obtain ⟨w0, hw0⟩ : ∃ w0, w0 = (((w.alloc (.cells #[.bool sp, .slice op np cp, .slice ap mp dp] 54)).alloc (.cells #[.bool su, .slice ou nu cu, .slice au mu du] 54)).alloc (.cells #[.bool false, .slice none 0 0, .slice none 0 0] 54)) := ⟨_, rfl⟩
  rw [← hw0] at hb0 hxp hxu hxR hpp hpu
  have HB0 := Lib.hid hb0; have HW0 := Lib.hid hw0
  have BXp := Lib.hid hxp
  have BXu := Lib.hid hxu
  have BXR := Lib.hid hxR
  have Fp := Lib.hid hpp
  have Fu := Lib.hid hpu
  clear hb0 hw0 hxp hxu hxR hpp hp hpu hu
  have hc2 : cq p u ≤ 0 := by rw [cq_le]; exact hc
  obtain ⟨n, hn⟩ : ∃ n, n = cq p u := ⟨_, rfl⟩
  rw [← hn] at hc2
  have f1 : decide (n ≤ 0) = true := decide_eq_true hc2
  have HN := Lib.hid hn; clear hn hc hc2
  go_enter Tryz.func128, Tryz.ntmps128
  have hs := cmpq_any _ p _ u w0 Fp.out Fu.out hp2 hu2
  rw [← HN.out] at hs
  have HS := Lib.hid hs; clear hs
  go_wp2_with fail
  rw [← HW0.out]
  (with_reducible refine HS.out.mono ?_); rintro e w1 ⟨rfl, hb1⟩
  clear HS
  have HB1 := Lib.hid (HB0.out.step hb1)
  have Fp := Lib.hid (Fp.out.below hb1)
  have Fu := Lib.hid (Fu.out.below hb1)
  have BXp := Lib.hid (heap_below BXp.out hb1)
  have BXu := Lib.hid (heap_below BXu.out hb1)
  have BXR := Lib.hid (heap_below BXR.out hb1)
  clear hb1
  have hs := same_any _ p w1 Fp.out
  have HS := Lib.hid hs; clear hs
  obtain ⟨ep0, ep1, ep2⟩ := row3 BXp.out
  go_wp2_with fail
  clear ep0 ep1 ep2
  (with_reducible refine HS.out.mono ?_); rintro e w2 ⟨v2, rfl, hb2, hn2⟩
  clear HS
  have HB2 := Lib.hid (HB1.out.step hb2)
  have Fp := Lib.hid (Fp.out.below hb2)
  have Fu := Lib.hid (Fu.out.below hb2)
  have BXp := Lib.hid (heap_below BXp.out hb2)
  have BXu := Lib.hid (heap_below BXu.out hb2)
  have BXR := Lib.hid (heap_below BXR.out hb2)
  have Q := Lib.hid hn2; clear hn2
  clear hb2
  obtain ⟨sQ, oQ, nQ, cQ, aQ, mQ, dQ, rfl⟩ := Q.out.shape
  obtain ⟨eR0, eR1, eR2⟩ := row3 BXR.out
  obtain ⟨fR0, fR1, fR2⟩ := froz3 BXR.out
  go_wp2_with fail
  clear eR0 eR1 eR2 fR0 fR1 fR2
  refine ret_rat rfl (w.heap.size + 2) _ _ _ rfl (put3_heap BXR.out) rfl ?_
  exact ⟨_, rfl, put3_below HB2.out (by omega) _ _ _, isR_put Q.out BXR.out⟩
set_option maxRecDepth 100000 in
set_option maxHeartbeats 3200000 in
theorem minq_b (vp : Value) (p : Rat) (vu : Value) (u : Rat) (w : World) (hp : RatIs w vp p) (hu : RatIs w vu u) (hp2 : rl p ≤ 40000) (hu2 : rl u ≤ 40000) (hc : ¬ p ≤ u) :
    Calls Tryz.prog 128 #[vp, vu] w (RetR w u) := by
  obtain ⟨sp, op, np, cp, ap, mp, dp, rfl⟩ := hp.shape
  have hlp := hp.rl
  obtain ⟨su, ou, nu, cu, au, mu, du, rfl⟩ := hu.shape
  have hlu := hu.rl
  have hb0 := ((((Below.refl w.heap.size w).alloc (by first | (simp; done) | (simp; omega)) (.cells #[.bool sp, .slice op np cp, .slice ap mp dp] 54)).alloc (by first | (simp; done) | (simp; omega)) (.cells #[.bool su, .slice ou nu cu, .slice au mu du] 54)).alloc (by first | (simp; done) | (simp; omega)) (.cells #[.bool false, .slice none 0 0, .slice none 0 0] 54))
  have hxp := nest3_0 w (.cells #[.bool sp, .slice op np cp, .slice ap mp dp] 54) (.cells #[.bool su, .slice ou nu cu, .slice au mu du] 54) (.cells #[.bool false, .slice none 0 0, .slice none 0 0] 54)
  have hxu := nest3_1 w (.cells #[.bool sp, .slice op np cp, .slice ap mp dp] 54) (.cells #[.bool su, .slice ou nu cu, .slice au mu du] 54) (.cells #[.bool false, .slice none 0 0, .slice none 0 0] 54)
  have hxR := nest3_2 w (.cells #[.bool sp, .slice op np cp, .slice ap mp dp] 54) (.cells #[.bool su, .slice ou nu cu, .slice au mu du] 54) (.cells #[.bool false, .slice none 0 0, .slice none 0 0] 54)
  have hpp := hp.below hb0
  have hpu := hu.below hb0
  obtain ⟨w0, hw0⟩ : ∃ w0, w0 = (((w.alloc (.cells #[.bool sp, .slice op np cp, .slice ap mp dp] 54)).alloc (.cells #[.bool su, .slice ou nu cu, .slice au mu du] 54)).alloc (.cells #[.bool false, .slice none 0 0, .slice none 0 0] 54)) := ⟨_, rfl⟩
  rw [← hw0] at hb0 hxp hxu hxR hpp hpu
  have HB0 := Lib.hid hb0; have HW0 := Lib.hid hw0
  have BXp := Lib.hid hxp
  have BXu := Lib.hid hxu
  have BXR := Lib.hid hxR
  have Fp := Lib.hid hpp
  have Fu := Lib.hid hpu
  clear hb0 hw0 hxp hxu hxR hpp hp hpu hu
  have hc2 : ¬ cq p u ≤ 0 := by rw [cq_le]; exact hc
  obtain ⟨n, hn⟩ : ∃ n, n = cq p u := ⟨_, rfl⟩
  rw [← hn] at hc2
  have f1 : decide (n ≤ 0) = false := decide_eq_false hc2
  have HN := Lib.hid hn; clear hn hc hc2
  go_enter Tryz.func128, Tryz.ntmps128
  have hs := cmpq_any _ p _ u w0 Fp.out Fu.out hp2 hu2
  rw [← HN.out] at hs
  have HS := Lib.hid hs; clear hs
  go_wp2_with fail
  rw [← HW0.out]
  (with_reducible refine HS.out.mono ?_); rintro e w1 ⟨rfl, hb1⟩
  clear HS
  have HB1 := Lib.hid (HB0.out.step hb1)
  have Fp := Lib.hid (Fp.out.below hb1)
  have Fu := Lib.hid (Fu.out.below hb1)
  have BXp := Lib.hid (heap_below BXp.out hb1)
  have BXu := Lib.hid (heap_below BXu.out hb1)
  have BXR := Lib.hid (heap_below BXR.out hb1)
  clear hb1
  have hs := same_any _ u w1 Fu.out
  have HS := Lib.hid hs; clear hs
  obtain ⟨eu0, eu1, eu2⟩ := row3 BXu.out
  go_wp2_with fail
  clear eu0 eu1 eu2
  (with_reducible refine HS.out.mono ?_); rintro e w2 ⟨v2, rfl, hb2, hn2⟩
  clear HS
  have HB2 := Lib.hid (HB1.out.step hb2)
  have Fp := Lib.hid (Fp.out.below hb2)
  have Fu := Lib.hid (Fu.out.below hb2)
  have BXp := Lib.hid (heap_below BXp.out hb2)
  have BXu := Lib.hid (heap_below BXu.out hb2)
  have BXR := Lib.hid (heap_below BXR.out hb2)
  have Q := Lib.hid hn2; clear hn2
  clear hb2
  obtain ⟨sQ, oQ, nQ, cQ, aQ, mQ, dQ, rfl⟩ := Q.out.shape
  obtain ⟨eR0, eR1, eR2⟩ := row3 BXR.out
  obtain ⟨fR0, fR1, fR2⟩ := froz3 BXR.out
  go_wp2_with fail
  clear eR0 eR1 eR2 fR0 fR1 fR2
  refine ret_rat rfl (w.heap.size + 2) _ _ _ rfl (put3_heap BXR.out) rfl ?_
  exact ⟨_, rfl, put3_below HB2.out (by omega) _ _ _, isR_put Q.out BXR.out⟩
theorem minq_any (vp : Value) (p : Rat) (vu : Value) (u : Rat) (w : World) (hp : RatIs w vp p) (hu : RatIs w vu u) (hlp2 : rl p ≤ 40000) (hlu2 : rl u ≤ 40000) :
    Calls Tryz.prog 128 #[vp, vu] w (RetR w (mn p u)) := by
  unfold mn
  by_cases h : p ≤ u
  · rw [if_pos h]; exact minq_a vp p vu u w hp hu hlp2 hlu2 h
  · rw [if_neg h]; exact minq_b vp p vu u w hp hu hlp2 hlu2 h
set_option maxRecDepth 100000 in
set_option maxHeartbeats 3200000 in
theorem maxq_a (vp : Value) (p : Rat) (vu : Value) (u : Rat) (w : World) (hp : RatIs w vp p) (hu : RatIs w vu u) (hp2 : rl p ≤ 40000) (hu2 : rl u ≤ 40000) (hc : u ≤ p) :
    Calls Tryz.prog 129 #[vp, vu] w (RetR w p) := by
  obtain ⟨sp, op, np, cp, ap, mp, dp, rfl⟩ := hp.shape
  have hlp := hp.rl
  obtain ⟨su, ou, nu, cu, au, mu, du, rfl⟩ := hu.shape
  have hlu := hu.rl
  have hb0 := ((((Below.refl w.heap.size w).alloc (by first | (simp; done) | (simp; omega)) (.cells #[.bool sp, .slice op np cp, .slice ap mp dp] 54)).alloc (by first | (simp; done) | (simp; omega)) (.cells #[.bool su, .slice ou nu cu, .slice au mu du] 54)).alloc (by first | (simp; done) | (simp; omega)) (.cells #[.bool false, .slice none 0 0, .slice none 0 0] 54))
  have hxp := nest3_0 w (.cells #[.bool sp, .slice op np cp, .slice ap mp dp] 54) (.cells #[.bool su, .slice ou nu cu, .slice au mu du] 54) (.cells #[.bool false, .slice none 0 0, .slice none 0 0] 54)
  have hxu := nest3_1 w (.cells #[.bool sp, .slice op np cp, .slice ap mp dp] 54) (.cells #[.bool su, .slice ou nu cu, .slice au mu du] 54) (.cells #[.bool false, .slice none 0 0, .slice none 0 0] 54)
  have hxR := nest3_2 w (.cells #[.bool sp, .slice op np cp, .slice ap mp dp] 54) (.cells #[.bool su, .slice ou nu cu, .slice au mu du] 54) (.cells #[.bool false, .slice none 0 0, .slice none 0 0] 54)
  have hpp := hp.below hb0
  have hpu := hu.below hb0
  obtain ⟨w0, hw0⟩ : ∃ w0, w0 = (((w.alloc (.cells #[.bool sp, .slice op np cp, .slice ap mp dp] 54)).alloc (.cells #[.bool su, .slice ou nu cu, .slice au mu du] 54)).alloc (.cells #[.bool false, .slice none 0 0, .slice none 0 0] 54)) := ⟨_, rfl⟩
  rw [← hw0] at hb0 hxp hxu hxR hpp hpu
  have HB0 := Lib.hid hb0; have HW0 := Lib.hid hw0
  have BXp := Lib.hid hxp
  have BXu := Lib.hid hxu
  have BXR := Lib.hid hxR
  have Fp := Lib.hid hpp
  have Fu := Lib.hid hpu
  clear hb0 hw0 hxp hxu hxR hpp hp hpu hu
  have hc2 : 0 ≤ cq p u := by rw [cq_ge]; exact hc
  obtain ⟨n, hn⟩ : ∃ n, n = cq p u := ⟨_, rfl⟩
  rw [← hn] at hc2
  have f1 : decide (0 ≤ n) = true := decide_eq_true hc2
  have HN := Lib.hid hn; clear hn hc hc2
  go_enter Tryz.func129, Tryz.ntmps129
  have hs := cmpq_any _ p _ u w0 Fp.out Fu.out hp2 hu2
  rw [← HN.out] at hs
  have HS := Lib.hid hs; clear hs
  go_wp2_with fail
  rw [← HW0.out]
  (with_reducible refine HS.out.mono ?_); rintro e w1 ⟨rfl, hb1⟩
  clear HS
  have HB1 := Lib.hid (HB0.out.step hb1)
  have Fp := Lib.hid (Fp.out.below hb1)
  have Fu := Lib.hid (Fu.out.below hb1)
  have BXp := Lib.hid (heap_below BXp.out hb1)
  have BXu := Lib.hid (heap_below BXu.out hb1)
  have BXR := Lib.hid (heap_below BXR.out hb1)
  clear hb1
  have hs := same_any _ p w1 Fp.out
  have HS := Lib.hid hs; clear hs
  obtain ⟨ep0, ep1, ep2⟩ := row3 BXp.out
  go_wp2_with fail
  clear ep0 ep1 ep2
  (with_reducible refine HS.out.mono ?_); rintro e w2 ⟨v2, rfl, hb2, hn2⟩
  clear HS
  have HB2 := Lib.hid (HB1.out.step hb2)
  have Fp := Lib.hid (Fp.out.below hb2)
  have Fu := Lib.hid (Fu.out.below hb2)
  have BXp := Lib.hid (heap_below BXp.out hb2)
  have BXu := Lib.hid (heap_below BXu.out hb2)
  have BXR := Lib.hid (heap_below BXR.out hb2)
  have Q := Lib.hid hn2; clear hn2
  clear hb2
  obtain ⟨sQ, oQ, nQ, cQ, aQ, mQ, dQ, rfl⟩ := Q.out.shape
  obtain ⟨eR0, eR1, eR2⟩ := row3 BXR.out
  obtain ⟨fR0, fR1, fR2⟩ := froz3 BXR.out
  go_wp2_with fail
  clear eR0 eR1 eR2 fR0 fR1 fR2
  refine ret_rat rfl (w.heap.size + 2) _ _ _ rfl (put3_heap BXR.out) rfl ?_
  exact ⟨_, rfl, put3_below HB2.out (by omega) _ _ _, isR_put Q.out BXR.out⟩
set_option maxRecDepth 100000 in
set_option maxHeartbeats 3200000 in
theorem maxq_b (vp : Value) (p : Rat) (vu : Value) (u : Rat) (w : World) (hp : RatIs w vp p) (hu : RatIs w vu u) (hp2 : rl p ≤ 40000) (hu2 : rl u ≤ 40000) (hc : ¬ u ≤ p) :
    Calls Tryz.prog 129 #[vp, vu] w (RetR w u) := by
  obtain ⟨sp, op, np, cp, ap, mp, dp, rfl⟩ := hp.shape
  have hlp := hp.rl
  obtain ⟨su, ou, nu, cu, au, mu, du, rfl⟩ := hu.shape
  have hlu := hu.rl
  have hb0 := ((((Below.refl w.heap.size w).alloc (by first | (simp; done) | (simp; omega)) (.cells #[.bool sp, .slice op np cp, .slice ap mp dp] 54)).alloc (by first | (simp; done) | (simp; omega)) (.cells #[.bool su, .slice ou nu cu, .slice au mu du] 54)).alloc (by first | (simp; done) | (simp; omega)) (.cells #[.bool false, .slice none 0 0, .slice none 0 0] 54))
  have hxp := nest3_0 w (.cells #[.bool sp, .slice op np cp, .slice ap mp dp] 54) (.cells #[.bool su, .slice ou nu cu, .slice au mu du] 54) (.cells #[.bool false, .slice none 0 0, .slice none 0 0] 54)
  have hxu := nest3_1 w (.cells #[.bool sp, .slice op np cp, .slice ap mp dp] 54) (.cells #[.bool su, .slice ou nu cu, .slice au mu du] 54) (.cells #[.bool false, .slice none 0 0, .slice none 0 0] 54)
  have hxR := nest3_2 w (.cells #[.bool sp, .slice op np cp, .slice ap mp dp] 54) (.cells #[.bool su, .slice ou nu cu, .slice au mu du] 54) (.cells #[.bool false, .slice none 0 0, .slice none 0 0] 54)
  have hpp := hp.below hb0
  have hpu := hu.below hb0
  obtain ⟨w0, hw0⟩ : ∃ w0, w0 = (((w.alloc (.cells #[.bool sp, .slice op np cp, .slice ap mp dp] 54)).alloc (.cells #[.bool su, .slice ou nu cu, .slice au mu du] 54)).alloc (.cells #[.bool false, .slice none 0 0, .slice none 0 0] 54)) := ⟨_, rfl⟩
  rw [← hw0] at hb0 hxp hxu hxR hpp hpu
  have HB0 := Lib.hid hb0; have HW0 := Lib.hid hw0
  have BXp := Lib.hid hxp
  have BXu := Lib.hid hxu
  have BXR := Lib.hid hxR
  have Fp := Lib.hid hpp
  have Fu := Lib.hid hpu
  clear hb0 hw0 hxp hxu hxR hpp hp hpu hu
  have hc2 : ¬ 0 ≤ cq p u := by rw [cq_ge]; exact hc
  obtain ⟨n, hn⟩ : ∃ n, n = cq p u := ⟨_, rfl⟩
  rw [← hn] at hc2
  have f1 : decide (0 ≤ n) = false := decide_eq_false hc2
  have HN := Lib.hid hn; clear hn hc hc2
  go_enter Tryz.func129, Tryz.ntmps129
  have hs := cmpq_any _ p _ u w0 Fp.out Fu.out hp2 hu2
  rw [← HN.out] at hs
  have HS := Lib.hid hs; clear hs
  go_wp2_with fail
  rw [← HW0.out]
  (with_reducible refine HS.out.mono ?_); rintro e w1 ⟨rfl, hb1⟩
  clear HS
  have HB1 := Lib.hid (HB0.out.step hb1)
  have Fp := Lib.hid (Fp.out.below hb1)
  have Fu := Lib.hid (Fu.out.below hb1)
  have BXp := Lib.hid (heap_below BXp.out hb1)
  have BXu := Lib.hid (heap_below BXu.out hb1)
  have BXR := Lib.hid (heap_below BXR.out hb1)
  clear hb1
  have hs := same_any _ u w1 Fu.out
  have HS := Lib.hid hs; clear hs
  obtain ⟨eu0, eu1, eu2⟩ := row3 BXu.out
  go_wp2_with fail
  clear eu0 eu1 eu2
  (with_reducible refine HS.out.mono ?_); rintro e w2 ⟨v2, rfl, hb2, hn2⟩
  clear HS
  have HB2 := Lib.hid (HB1.out.step hb2)
  have Fp := Lib.hid (Fp.out.below hb2)
  have Fu := Lib.hid (Fu.out.below hb2)
  have BXp := Lib.hid (heap_below BXp.out hb2)
  have BXu := Lib.hid (heap_below BXu.out hb2)
  have BXR := Lib.hid (heap_below BXR.out hb2)
  have Q := Lib.hid hn2; clear hn2
  clear hb2
  obtain ⟨sQ, oQ, nQ, cQ, aQ, mQ, dQ, rfl⟩ := Q.out.shape
  obtain ⟨eR0, eR1, eR2⟩ := row3 BXR.out
  obtain ⟨fR0, fR1, fR2⟩ := froz3 BXR.out
  go_wp2_with fail
  clear eR0 eR1 eR2 fR0 fR1 fR2
  refine ret_rat rfl (w.heap.size + 2) _ _ _ rfl (put3_heap BXR.out) rfl ?_
  exact ⟨_, rfl, put3_below HB2.out (by omega) _ _ _, isR_put Q.out BXR.out⟩
theorem maxq_any (vp : Value) (p : Rat) (vu : Value) (u : Rat) (w : World) (hp : RatIs w vp p) (hu : RatIs w vu u) (hlp2 : rl p ≤ 40000) (hlu2 : rl u ≤ 40000) :
    Calls Tryz.prog 129 #[vp, vu] w (RetR w (mx p u)) := by
  unfold mx
  by_cases h : u ≤ p
  · rw [if_pos h]; exact maxq_a vp p vu u w hp hu hlp2 hlu2 h
  · rw [if_neg h]; exact maxq_b vp p vu u w hp hu hlp2 hlu2 h
end Go.Proofs.YthhgfhdmfhnklaaGreatDoor
/-
  Int, Prob and the reference's Int, Prob: what they hand back.
  Conditions: each theorem's own.
-/
namespace Go.Proofs.YthhgfhdmfhnklaaGreatDoor
open Go.RowKit Go.ChangeShapes Go.WideShapes

set_option maxRecDepth 100000 in
set_option maxHeartbeats 3200000 in
theorem rprob_no (vp : Value) (p : Rat) (w : World) (hp : RatIs w vp p) {sr : Bool} {ar br : List Nat} (hr : RatV w vp sr ar br) (hla : ar.length ≤ 100000) (hlb : br.length ≤ 100000) (_hpe : p = rq sr ar br) (hv : ¬ Vld sr ar br) (_hp2 : rl p ≤ 40000) :
    Calls Tryz.prog 85 #[vp] w (RetV w (.bool (prB sr ar br))) := by
  obtain ⟨sp, op, np, cp, ap, mp, dp, rfl⟩ := hp.shape
  have hlp := hp.rl
  rw [prB_no hv]
  have HV := Lib.hid (decide_eq_false hv); clear hv
  have hb0 := ((Below.refl w.heap.size w).alloc (by first | (simp; done) | (simp; omega)) (.cells #[.bool sp, .slice op np cp, .slice ap mp dp] 54))
  have hxp := nest1_0 w (.cells #[.bool sp, .slice op np cp, .slice ap mp dp] 54)
  have hpp := hp.below hb0
  have hpraw := hr.below hb0
  obtain ⟨w0, hw0⟩ : ∃ w0, w0 = (w.alloc (.cells #[.bool sp, .slice op np cp, .slice ap mp dp] 54)) := ⟨_, rfl⟩
  rw [← hw0] at hb0 hxp hpp hpraw
  have HB0 := Lib.hid hb0; have HW0 := Lib.hid hw0
  have BXp := Lib.hid hxp
  have Fp := Lib.hid hpp
  have Fraw := Lib.hid hpraw; clear hpraw hr
  clear hb0 hw0 hxp hpp hp
  have hr1 : rl ((1 : Int) : Rat) ≤ 2 := rl_small (by decide) (by decide)
  go_enter Tryz.func85, Tryz.ntmps85
  go_wp2_with fail
  rw [← HW0.out]
  have lwp := below_lt BXp.out
  refine wp_region_facts (A := ?aa0) (w := w0) 13 [] (by kernel_rfl) (Fl [KEq (.agg #[.bool sp, .slice op np cp, .slice ap mp dp]), KEq (.bool false), KEq (.bool false), KEq (undef), KEq (undef), KEq (undef), KEq (.bool false), KEq (.bool false), KEq (undef), KEq (undef), KEq (undef), KEq (undef), KEq (.bool false)]) (fun i => false) (by kernel_rfl) (fun _ _ _ _ _ h => h) (monoL (monoC (kEq _) (monoC (kEq _) (monoC (kEq _) (monoC (kEq _) (monoC (kEq _) (monoC (kEq _) (monoC (kEq _) (monoC (kEq _) (monoC (kEq _) (monoC (kEq _) (monoC (kEq _) (monoC (kEq _) (monoC (kEq _) monoN)))))))))))))) ?ha0 ?st0 ?tl0
  case ha0 =>
    intro vals
    simp only [putsTo, dstOf, if_true, Act.put, List.setIfInBounds_toArray, List.set_cons_zero, List.set_cons_succ, List.getElem?_toArray, List.getElem?_cons_zero, List.getElem?_cons_succ, Option.bind_some]
    exact rfl
  case st0 =>
    simp only [List.take_succ_cons, List.take_zero]
    refine stepsOK_cons rfl rfl ?_ (stepsOK_cons rfl rfl ?_ (stepsOK_cons rfl rfl ?_ (stepsOK_guard rfl ?_ (stepsOK_guard rfl ?_ (stepsOK_guard rfl ?_ (stepsOK_cons rfl rfl ?_ (stepsOK_cons rfl rfl ?_ (stepsOK_guard rfl ?_ (stepsOK_guard rfl ?_ (stepsOK_guard rfl ?_ (stepsOK_guard rfl ?_ (stepsOK_cons rfl rfl ?_ (stepsOK_nil)))))))))))))
    · intro vals w1 hb hd
      obtain ⟨e0, e1, e2⟩ := row3 (heap_below BXp.out hb)
      refine stepOK_value (v := .agg #[.bool sp, .slice op np cp, .slice ap mp dp]) (w' := w1) (by go_simp) (leaves_mk (Below.refl _ _) rfl (fun h => by cases h))
    · intro vals w1 hb hd
      have d0 : KEq (.agg #[.bool sp, .slice op np cp, .slice ap mp dp]) (vals 0) w1 := hd 0 (by kernel_rfl)
      have r0 : RatIs w1 (vals 0) (p) := by rw [show vals 0 = _ from d0]; exact Fp.out.below hb
      have hs := rvalid_any (vals 0) _ ar br w1 (by rw [show vals 0 = _ from d0]; exact Fraw.out.below hb) (by omega) (by omega)
      rw [HV.out] at hs
      have HS := Lib.hid hs; clear hs
      clear d0 hd
      refine stepOK_call (by go_simp; first | done | exact ⟨⟨rfl, rfl⟩, rfl⟩) ?_
      (with_reducible refine HS.out.mono ?_); rintro e w2 ⟨rfl, hb2⟩
      exact ⟨_, rfl, leaves_mk hb2 rfl (fun h => by cases h)⟩
    · intro vals w1 hb hd
      have d1 : KEq (.bool false) (vals 1) w1 := hd 1 (by kernel_rfl)
      rw [show vals 1 = _ from d1]
      refine stepOK_value (v := .bool false) (w' := w1) (by go_simp) (leaves_mk (Below.refl _ _) rfl (fun h => by cases h))
    · intro vals w1 hb hd
      have dg : KEq (.bool false) (vals 2) w1 := hd 2 (by kernel_rfl)
      refine stepG_no (unwanted_of rfl rfl (congrArg some dg) rfl) ?_
      clear dg
      exact leaves_mk (Below.refl _ _) rfl (fun h => by cases h)
    · intro vals w1 hb hd
      have dg : KEq (.bool false) (vals 2) w1 := hd 2 (by kernel_rfl)
      refine stepG_no (unwanted_of rfl rfl (congrArg some dg) rfl) ?_
      clear dg
      exact leaves_mk (Below.refl _ _) rfl (fun h => by cases h)
    · intro vals w1 hb hd
      have dg : KEq (.bool false) (vals 2) w1 := hd 2 (by kernel_rfl)
      refine stepG_no (unwanted_of rfl rfl (congrArg some dg) rfl) ?_
      clear dg
      exact leaves_mk (Below.refl _ _) rfl (fun h => by cases h)
    · intro vals w1 hb hd
      have d2 : KEq (.bool false) (vals 2) w1 := hd 2 (by kernel_rfl)
      rw [show vals 2 = _ from d2]
      refine stepOK_value (v := .bool false) (w' := w1) (by go_simp) (leaves_mk (Below.refl _ _) rfl (fun h => by cases h))
    · intro vals w1 hb hd
      have d6 : KEq (.bool false) (vals 6) w1 := hd 6 (by kernel_rfl)
      rw [show vals 6 = _ from d6]
      refine stepOK_value (v := .bool false) (w' := w1) (by go_simp) (leaves_mk (Below.refl _ _) rfl (fun h => by cases h))
    · intro vals w1 hb hd
      have dg : KEq (.bool false) (vals 7) w1 := hd 7 (by kernel_rfl)
      refine stepG_no (unwanted_of rfl rfl (congrArg some dg) rfl) ?_
      clear dg
      exact leaves_mk (Below.refl _ _) rfl (fun h => by cases h)
    · intro vals w1 hb hd
      have dg : KEq (.bool false) (vals 7) w1 := hd 7 (by kernel_rfl)
      refine stepG_no (unwanted_of rfl rfl (congrArg some dg) rfl) ?_
      clear dg
      exact leaves_mk (Below.refl _ _) rfl (fun h => by cases h)
    · intro vals w1 hb hd
      have dg : KEq (.bool false) (vals 7) w1 := hd 7 (by kernel_rfl)
      refine stepG_no (unwanted_of rfl rfl (congrArg some dg) rfl) ?_
      clear dg
      exact leaves_mk (Below.refl _ _) rfl (fun h => by cases h)
    · intro vals w1 hb hd
      have dg : KEq (.bool false) (vals 7) w1 := hd 7 (by kernel_rfl)
      refine stepG_no (unwanted_of rfl rfl (congrArg some dg) rfl) ?_
      clear dg
      exact leaves_mk (Below.refl _ _) rfl (fun h => by cases h)
    · intro vals w1 hb hd
      have d7 : KEq (.bool false) (vals 7) w1 := hd 7 (by kernel_rfl)
      rw [show vals 7 = _ from d7]
      refine stepOK_value (v := .bool false) (w' := w1) (by go_simp) (leaves_mk (Below.refl _ _) rfl (fun h => by cases h))
  case tl0 =>
    intro vals w1 hb1 hf hdis
    simp only [List.drop_succ_cons, List.drop_zero]
    have ee12 : vals 12 = .bool false := hf 12 (by decide)
    rw [ee12]; clear ee12
    clear hf hdis
    have HB1 := Lib.hid (HB0.out.step hb1)
    have Fp := Lib.hid (Fp.out.below hb1)
    have Fraw := Lib.hid (Fraw.out.below hb1)
    have BXp := Lib.hid (heap_below BXp.out hb1)
    clear hb1
    go_wp2_with fail
    go_ret
    exact ⟨by first | rfl | (simp; done), HB1.out⟩
set_option maxRecDepth 100000 in
set_option maxHeartbeats 3200000 in
theorem rprob_neg (vp : Value) (p : Rat) (w : World) (hp : RatIs w vp p) {sr : Bool} {ar br : List Nat} (hr : RatV w vp sr ar br) (hla : ar.length ≤ 100000) (hlb : br.length ≤ 100000) (hpe : p = rq sr ar br) (hv : Vld sr ar br) (hq : p < 0) (_hp2 : rl p ≤ 40000) :
    Calls Tryz.prog 85 #[vp] w (RetV w (.bool (prB sr ar br))) := by
  obtain ⟨sp, op, np, cp, ap, mp, dp, rfl⟩ := hp.shape
  have hlp := hp.rl
  rw [prB_neg (by rw [← hpe]; exact hq)]
  have HV := Lib.hid (decide_eq_true hv)
  have hsg : sg p = -1 := by unfold sg; rw [if_pos hq]
  have HSG := Lib.hid hsg; clear hsg hv hpe hq
  have hb0 := ((Below.refl w.heap.size w).alloc (by first | (simp; done) | (simp; omega)) (.cells #[.bool sp, .slice op np cp, .slice ap mp dp] 54))
  have hxp := nest1_0 w (.cells #[.bool sp, .slice op np cp, .slice ap mp dp] 54)
  have hpp := hp.below hb0
  have hpraw := hr.below hb0
  obtain ⟨w0, hw0⟩ : ∃ w0, w0 = (w.alloc (.cells #[.bool sp, .slice op np cp, .slice ap mp dp] 54)) := ⟨_, rfl⟩
  rw [← hw0] at hb0 hxp hpp hpraw
  have HB0 := Lib.hid hb0; have HW0 := Lib.hid hw0
  have BXp := Lib.hid hxp
  have Fp := Lib.hid hpp
  have Fraw := Lib.hid hpraw; clear hpraw hr
  clear hb0 hw0 hxp hpp hp
  have hr1 : rl ((1 : Int) : Rat) ≤ 2 := rl_small (by decide) (by decide)
  go_enter Tryz.func85, Tryz.ntmps85
  go_wp2_with fail
  rw [← HW0.out]
  have lwp := below_lt BXp.out
  refine wp_region_facts (A := ?aa0) (w := w0) 13 [] (by kernel_rfl) (Fl [KEq (.agg #[.bool sp, .slice op np cp, .slice ap mp dp]), KEq (.bool true), KEq (.bool true), KEq (.agg #[.bool sp, .slice op np cp, .slice ap mp dp]), KEq (.int .i64 (-1)), KEq (.bool false), KEq (.bool false), KEq (.bool false), KEq (undef), KEq (undef), KEq (undef), KEq (undef), KEq (.bool false)]) (fun i => false) (by kernel_rfl) (fun _ _ _ _ _ h => h) (monoL (monoC (kEq _) (monoC (kEq _) (monoC (kEq _) (monoC (kEq _) (monoC (kEq _) (monoC (kEq _) (monoC (kEq _) (monoC (kEq _) (monoC (kEq _) (monoC (kEq _) (monoC (kEq _) (monoC (kEq _) (monoC (kEq _) monoN)))))))))))))) ?ha0 ?st0 ?tl0
  case ha0 =>
    intro vals
    simp only [putsTo, dstOf, if_true, Act.put, List.setIfInBounds_toArray, List.set_cons_zero, List.set_cons_succ, List.getElem?_toArray, List.getElem?_cons_zero, List.getElem?_cons_succ, Option.bind_some]
    exact rfl
  case st0 =>
    simp only [List.take_succ_cons, List.take_zero]
    refine stepsOK_cons rfl rfl ?_ (stepsOK_cons rfl rfl ?_ (stepsOK_cons rfl rfl ?_ (stepsOK_guard rfl ?_ (stepsOK_guard rfl ?_ (stepsOK_guard rfl ?_ (stepsOK_cons rfl rfl ?_ (stepsOK_cons rfl rfl ?_ (stepsOK_guard rfl ?_ (stepsOK_guard rfl ?_ (stepsOK_guard rfl ?_ (stepsOK_guard rfl ?_ (stepsOK_cons rfl rfl ?_ (stepsOK_nil)))))))))))))
    · intro vals w1 hb hd
      obtain ⟨e0, e1, e2⟩ := row3 (heap_below BXp.out hb)
      refine stepOK_value (v := .agg #[.bool sp, .slice op np cp, .slice ap mp dp]) (w' := w1) (by go_simp) (leaves_mk (Below.refl _ _) rfl (fun h => by cases h))
    · intro vals w1 hb hd
      have d0 : KEq (.agg #[.bool sp, .slice op np cp, .slice ap mp dp]) (vals 0) w1 := hd 0 (by kernel_rfl)
      have r0 : RatIs w1 (vals 0) (p) := by rw [show vals 0 = _ from d0]; exact Fp.out.below hb
      have hs := rvalid_any (vals 0) _ ar br w1 (by rw [show vals 0 = _ from d0]; exact Fraw.out.below hb) (by omega) (by omega)
      rw [HV.out] at hs
      have HS := Lib.hid hs; clear hs
      clear d0 hd
      refine stepOK_call (by go_simp; first | done | exact ⟨⟨rfl, rfl⟩, rfl⟩) ?_
      (with_reducible refine HS.out.mono ?_); rintro e w2 ⟨rfl, hb2⟩
      exact ⟨_, rfl, leaves_mk hb2 rfl (fun h => by cases h)⟩
    · intro vals w1 hb hd
      have d1 : KEq (.bool true) (vals 1) w1 := hd 1 (by kernel_rfl)
      rw [show vals 1 = _ from d1]
      refine stepOK_value (v := .bool true) (w' := w1) (by go_simp) (leaves_mk (Below.refl _ _) rfl (fun h => by cases h))
    · intro vals w1 hb hd
      have dg : KEq (.bool true) (vals 2) w1 := hd 2 (by kernel_rfl)
      refine stepG_yes (wanted_of rfl rfl (congrArg some dg) rfl) ?_
      clear dg
      obtain ⟨e0, e1, e2⟩ := row3 (heap_below BXp.out hb)
      refine stepOK_value (v := .agg #[.bool sp, .slice op np cp, .slice ap mp dp]) (w' := w1) (by go_simp) (leaves_mk (Below.refl _ _) rfl (fun h => by cases h))
    · intro vals w1 hb hd
      have d3 : KEq (.agg #[.bool sp, .slice op np cp, .slice ap mp dp]) (vals 3) w1 := hd 3 (by kernel_rfl)
      have r3 : RatIs w1 (vals 3) (p) := by rw [show vals 3 = _ from d3]; exact Fp.out.below hb
      have dg : KEq (.bool true) (vals 2) w1 := hd 2 (by kernel_rfl)
      refine stepG_yes (wanted_of rfl rfl (congrArg some dg) rfl) ?_
      clear dg
      have hs := rsign_any _ p w1 r3
      rw [HSG.out] at hs
      have HS := Lib.hid hs; clear hs
      clear d3 hd
      refine stepOK_call (by go_simp; first | done | exact ⟨⟨rfl, rfl⟩, rfl⟩) ?_
      (with_reducible refine HS.out.mono ?_); rintro e w2 ⟨rfl, hb2⟩
      exact ⟨_, rfl, leaves_mk hb2 rfl (fun h => by cases h)⟩
    · intro vals w1 hb hd
      have d4 : KEq (.int .i64 (-1)) (vals 4) w1 := hd 4 (by kernel_rfl)
      have dg : KEq (.bool true) (vals 2) w1 := hd 2 (by kernel_rfl)
      refine stepG_yes (wanted_of rfl rfl (congrArg some dg) rfl) ?_
      clear dg
      rw [show vals 4 = _ from d4]
      refine stepOK_value (v := .bool false) (w' := w1) (by go_simp) (leaves_mk (Below.refl _ _) rfl (fun h => by cases h))
    · intro vals w1 hb hd
      have d2 : KEq (.bool true) (vals 2) w1 := hd 2 (by kernel_rfl)
      have d5 : KEq (.bool false) (vals 5) w1 := hd 5 (by kernel_rfl)
      rw [show vals 2 = _ from d2]
      rw [show vals 5 = _ from d5]
      refine stepOK_value (v := .bool false) (w' := w1) (by go_simp) (leaves_mk (Below.refl _ _) rfl (fun h => by cases h))
    · intro vals w1 hb hd
      have d6 : KEq (.bool false) (vals 6) w1 := hd 6 (by kernel_rfl)
      rw [show vals 6 = _ from d6]
      refine stepOK_value (v := .bool false) (w' := w1) (by go_simp) (leaves_mk (Below.refl _ _) rfl (fun h => by cases h))
    · intro vals w1 hb hd
      have dg : KEq (.bool false) (vals 7) w1 := hd 7 (by kernel_rfl)
      refine stepG_no (unwanted_of rfl rfl (congrArg some dg) rfl) ?_
      clear dg
      exact leaves_mk (Below.refl _ _) rfl (fun h => by cases h)
    · intro vals w1 hb hd
      have dg : KEq (.bool false) (vals 7) w1 := hd 7 (by kernel_rfl)
      refine stepG_no (unwanted_of rfl rfl (congrArg some dg) rfl) ?_
      clear dg
      exact leaves_mk (Below.refl _ _) rfl (fun h => by cases h)
    · intro vals w1 hb hd
      have dg : KEq (.bool false) (vals 7) w1 := hd 7 (by kernel_rfl)
      refine stepG_no (unwanted_of rfl rfl (congrArg some dg) rfl) ?_
      clear dg
      exact leaves_mk (Below.refl _ _) rfl (fun h => by cases h)
    · intro vals w1 hb hd
      have dg : KEq (.bool false) (vals 7) w1 := hd 7 (by kernel_rfl)
      refine stepG_no (unwanted_of rfl rfl (congrArg some dg) rfl) ?_
      clear dg
      exact leaves_mk (Below.refl _ _) rfl (fun h => by cases h)
    · intro vals w1 hb hd
      have d7 : KEq (.bool false) (vals 7) w1 := hd 7 (by kernel_rfl)
      rw [show vals 7 = _ from d7]
      refine stepOK_value (v := .bool false) (w' := w1) (by go_simp) (leaves_mk (Below.refl _ _) rfl (fun h => by cases h))
  case tl0 =>
    intro vals w1 hb1 hf hdis
    simp only [List.drop_succ_cons, List.drop_zero]
    have ee12 : vals 12 = .bool false := hf 12 (by decide)
    rw [ee12]; clear ee12
    clear hf hdis
    have HB1 := Lib.hid (HB0.out.step hb1)
    have Fp := Lib.hid (Fp.out.below hb1)
    have Fraw := Lib.hid (Fraw.out.below hb1)
    have BXp := Lib.hid (heap_below BXp.out hb1)
    clear hb1
    go_wp2_with fail
    go_ret
    exact ⟨by first | rfl | (simp; done), HB1.out⟩
set_option maxRecDepth 100000 in
set_option maxHeartbeats 3200000 in
theorem rprob_in (vp : Value) (p : Rat) (w : World) (hp : RatIs w vp p) {sr : Bool} {ar br : List Nat} (hr : RatV w vp sr ar br) (hla : ar.length ≤ 100000) (hlb : br.length ≤ 100000) (hpe : p = rq sr ar br) (hv : Vld sr ar br) (hq : 0 ≤ p) (hp2 : rl p ≤ 40000) :
    Calls Tryz.prog 85 #[vp] w (RetV w (.bool (prB sr ar br))) := by
  obtain ⟨sp, op, np, cp, ap, mp, dp, rfl⟩ := hp.shape
  have hlp := hp.rl
  rw [prB_of hv (by rw [← hpe]; exact hq), ← hpe]
  have HV := Lib.hid (decide_eq_true hv)
  have hsg : 0 ≤ sg p := by unfold sg; rw [if_neg (by grind)]; split <;> decide
  obtain ⟨s, hs⟩ : ∃ s, s = sg p := ⟨_, rfl⟩; rw [← hs] at hsg
  have t1 : decide (0 ≤ s) = true := decide_eq_true hsg
  obtain ⟨c, hc⟩ : ∃ c, c = cq p 1 := ⟨_, rfl⟩
  rw [← hc]
  obtain ⟨r, hrr⟩ : ∃ r, r = decide (c ≤ 0) := ⟨_, rfl⟩
  rw [← hrr]
  have hr2 : decide (c ≤ 0) = r := hrr.symm
  have HSG := Lib.hid hs; have HC := Lib.hid hc; clear hs hc hrr hsg hv hpe hq
  have hb0 := ((Below.refl w.heap.size w).alloc (by first | (simp; done) | (simp; omega)) (.cells #[.bool sp, .slice op np cp, .slice ap mp dp] 54))
  have hxp := nest1_0 w (.cells #[.bool sp, .slice op np cp, .slice ap mp dp] 54)
  have hpp := hp.below hb0
  have hpraw := hr.below hb0
  obtain ⟨w0, hw0⟩ : ∃ w0, w0 = (w.alloc (.cells #[.bool sp, .slice op np cp, .slice ap mp dp] 54)) := ⟨_, rfl⟩
  rw [← hw0] at hb0 hxp hpp hpraw
  have HB0 := Lib.hid hb0; have HW0 := Lib.hid hw0
  have BXp := Lib.hid hxp
  have Fp := Lib.hid hpp
  have Fraw := Lib.hid hpraw; clear hpraw hr
  clear hb0 hw0 hxp hpp hp
  have hr1 : rl ((1 : Int) : Rat) ≤ 2 := rl_small (by decide) (by decide)
  go_enter Tryz.func85, Tryz.ntmps85
  go_wp2_with fail
  rw [← HW0.out]
  have lwp := below_lt BXp.out
  refine wp_region_facts (A := ?aa0) (w := w0) 13 [] (by kernel_rfl) (Fl [KEq (.agg #[.bool sp, .slice op np cp, .slice ap mp dp]), KEq (.bool true), KEq (.bool true), KEq (.agg #[.bool sp, .slice op np cp, .slice ap mp dp]), KEq (.int .i64 s), KEq (.bool true), KEq (.bool true), KEq (.bool true), KEq (.agg #[.bool sp, .slice op np cp, .slice ap mp dp]), KIs (((1 : Int) : Rat)), KEq (.int .i64 c), KEq (.bool r), KEq (.bool r)]) (fun i => false) (by kernel_rfl) (fun _ _ _ _ _ h => h) (monoL (monoC (kEq _) (monoC (kEq _) (monoC (kEq _) (monoC (kEq _) (monoC (kEq _) (monoC (kEq _) (monoC (kEq _) (monoC (kEq _) (monoC (kEq _) (monoC (kIs _) (monoC (kEq _) (monoC (kEq _) (monoC (kEq _) monoN)))))))))))))) ?ha0 ?st0 ?tl0
  case ha0 =>
    intro vals
    simp only [putsTo, dstOf, if_true, Act.put, List.setIfInBounds_toArray, List.set_cons_zero, List.set_cons_succ, List.getElem?_toArray, List.getElem?_cons_zero, List.getElem?_cons_succ, Option.bind_some]
    exact rfl
  case st0 =>
    simp only [List.take_succ_cons, List.take_zero]
    refine stepsOK_cons rfl rfl ?_ (stepsOK_cons rfl rfl ?_ (stepsOK_cons rfl rfl ?_ (stepsOK_guard rfl ?_ (stepsOK_guard rfl ?_ (stepsOK_guard rfl ?_ (stepsOK_cons rfl rfl ?_ (stepsOK_cons rfl rfl ?_ (stepsOK_guard rfl ?_ (stepsOK_guard rfl ?_ (stepsOK_guard rfl ?_ (stepsOK_guard rfl ?_ (stepsOK_cons rfl rfl ?_ (stepsOK_nil)))))))))))))
    · intro vals w1 hb hd
      obtain ⟨e0, e1, e2⟩ := row3 (heap_below BXp.out hb)
      refine stepOK_value (v := .agg #[.bool sp, .slice op np cp, .slice ap mp dp]) (w' := w1) (by go_simp) (leaves_mk (Below.refl _ _) rfl (fun h => by cases h))
    · intro vals w1 hb hd
      have d0 : KEq (.agg #[.bool sp, .slice op np cp, .slice ap mp dp]) (vals 0) w1 := hd 0 (by kernel_rfl)
      have r0 : RatIs w1 (vals 0) (p) := by rw [show vals 0 = _ from d0]; exact Fp.out.below hb
      have hs := rvalid_any (vals 0) _ ar br w1 (by rw [show vals 0 = _ from d0]; exact Fraw.out.below hb) (by omega) (by omega)
      rw [HV.out] at hs
      have HS := Lib.hid hs; clear hs
      clear d0 hd
      refine stepOK_call (by go_simp; first | done | exact ⟨⟨rfl, rfl⟩, rfl⟩) ?_
      (with_reducible refine HS.out.mono ?_); rintro e w2 ⟨rfl, hb2⟩
      exact ⟨_, rfl, leaves_mk hb2 rfl (fun h => by cases h)⟩
    · intro vals w1 hb hd
      have d1 : KEq (.bool true) (vals 1) w1 := hd 1 (by kernel_rfl)
      rw [show vals 1 = _ from d1]
      refine stepOK_value (v := .bool true) (w' := w1) (by go_simp) (leaves_mk (Below.refl _ _) rfl (fun h => by cases h))
    · intro vals w1 hb hd
      have dg : KEq (.bool true) (vals 2) w1 := hd 2 (by kernel_rfl)
      refine stepG_yes (wanted_of rfl rfl (congrArg some dg) rfl) ?_
      clear dg
      obtain ⟨e0, e1, e2⟩ := row3 (heap_below BXp.out hb)
      refine stepOK_value (v := .agg #[.bool sp, .slice op np cp, .slice ap mp dp]) (w' := w1) (by go_simp) (leaves_mk (Below.refl _ _) rfl (fun h => by cases h))
    · intro vals w1 hb hd
      have d3 : KEq (.agg #[.bool sp, .slice op np cp, .slice ap mp dp]) (vals 3) w1 := hd 3 (by kernel_rfl)
      have r3 : RatIs w1 (vals 3) (p) := by rw [show vals 3 = _ from d3]; exact Fp.out.below hb
      have dg : KEq (.bool true) (vals 2) w1 := hd 2 (by kernel_rfl)
      refine stepG_yes (wanted_of rfl rfl (congrArg some dg) rfl) ?_
      clear dg
      have hs := rsign_any _ p w1 r3
      rw [← HSG.out] at hs
      have HS := Lib.hid hs; clear hs
      clear d3 hd
      refine stepOK_call (by go_simp; first | done | exact ⟨⟨rfl, rfl⟩, rfl⟩) ?_
      (with_reducible refine HS.out.mono ?_); rintro e w2 ⟨rfl, hb2⟩
      exact ⟨_, rfl, leaves_mk hb2 rfl (fun h => by cases h)⟩
    · intro vals w1 hb hd
      have d4 : KEq (.int .i64 s) (vals 4) w1 := hd 4 (by kernel_rfl)
      have dg : KEq (.bool true) (vals 2) w1 := hd 2 (by kernel_rfl)
      refine stepG_yes (wanted_of rfl rfl (congrArg some dg) rfl) ?_
      clear dg
      rw [show vals 4 = _ from d4]
      refine stepOK_value (v := .bool true) (w' := w1) (by go_simp) (leaves_mk (Below.refl _ _) rfl (fun h => by cases h))
    · intro vals w1 hb hd
      have d2 : KEq (.bool true) (vals 2) w1 := hd 2 (by kernel_rfl)
      have d5 : KEq (.bool true) (vals 5) w1 := hd 5 (by kernel_rfl)
      rw [show vals 2 = _ from d2]
      rw [show vals 5 = _ from d5]
      refine stepOK_value (v := .bool true) (w' := w1) (by go_simp) (leaves_mk (Below.refl _ _) rfl (fun h => by cases h))
    · intro vals w1 hb hd
      have d6 : KEq (.bool true) (vals 6) w1 := hd 6 (by kernel_rfl)
      rw [show vals 6 = _ from d6]
      refine stepOK_value (v := .bool true) (w' := w1) (by go_simp) (leaves_mk (Below.refl _ _) rfl (fun h => by cases h))
    · intro vals w1 hb hd
      have dg : KEq (.bool true) (vals 7) w1 := hd 7 (by kernel_rfl)
      refine stepG_yes (wanted_of rfl rfl (congrArg some dg) rfl) ?_
      clear dg
      obtain ⟨e0, e1, e2⟩ := row3 (heap_below BXp.out hb)
      refine stepOK_value (v := .agg #[.bool sp, .slice op np cp, .slice ap mp dp]) (w' := w1) (by go_simp) (leaves_mk (Below.refl _ _) rfl (fun h => by cases h))
    · intro vals w1 hb hd
      have dg : KEq (.bool true) (vals 7) w1 := hd 7 (by kernel_rfl)
      refine stepG_yes (wanted_of rfl rfl (congrArg some dg) rfl) ?_
      clear dg
      have hs := rofq_any 1 w1 (by decide) (by decide)
      have HS := Lib.hid hs; clear hs
      refine stepOK_call (by go_simp; first | done | exact ⟨⟨rfl, rfl⟩, rfl⟩) ?_
      (with_reducible refine HS.out.mono ?_); rintro e w2 ⟨v, rfl, hb2, hn⟩
      exact ⟨v, rfl, leaves_mk hb2 hn (fun h => by cases h)⟩
    · intro vals w1 hb hd
      have d8 : KEq (.agg #[.bool sp, .slice op np cp, .slice ap mp dp]) (vals 8) w1 := hd 8 (by kernel_rfl)
      have r8 : RatIs w1 (vals 8) (p) := by rw [show vals 8 = _ from d8]; exact Fp.out.below hb
      have d9 : KIs (((1 : Int) : Rat)) (vals 9) w1 := hd 9 (by kernel_rfl)
      have r9 : RatIs w1 (vals 9) (((1 : Int) : Rat)) := IsR.is d9 (by omega)
      have dg : KEq (.bool true) (vals 7) w1 := hd 7 (by kernel_rfl)
      refine stepG_yes (wanted_of rfl rfl (congrArg some dg) rfl) ?_
      clear dg
      have hs := rcmpq_any _ p _ 1 w1 r8 r9 hp2 (by rw [rl_one]; decide)
      rw [← HC.out] at hs
      have HS := Lib.hid hs; clear hs
      clear d8 d9 hd
      refine stepOK_call (by go_simp; first | done | exact ⟨⟨rfl, rfl⟩, rfl⟩) ?_
      (with_reducible refine HS.out.mono ?_); rintro e w2 ⟨rfl, hb2⟩
      exact ⟨_, rfl, leaves_mk hb2 rfl (fun h => by cases h)⟩
    · intro vals w1 hb hd
      have d10 : KEq (.int .i64 c) (vals 10) w1 := hd 10 (by kernel_rfl)
      have dg : KEq (.bool true) (vals 7) w1 := hd 7 (by kernel_rfl)
      refine stepG_yes (wanted_of rfl rfl (congrArg some dg) rfl) ?_
      clear dg
      rw [show vals 10 = _ from d10]
      refine stepOK_value (v := .bool r) (w' := w1) (by go_simp) (leaves_mk (Below.refl _ _) rfl (fun h => by cases h))
    · intro vals w1 hb hd
      have d7 : KEq (.bool true) (vals 7) w1 := hd 7 (by kernel_rfl)
      have d11 : KEq (.bool r) (vals 11) w1 := hd 11 (by kernel_rfl)
      rw [show vals 7 = _ from d7]
      rw [show vals 11 = _ from d11]
      refine stepOK_value (v := .bool r) (w' := w1) (by go_simp) (leaves_mk (Below.refl _ _) rfl (fun h => by cases h))
  case tl0 =>
    intro vals w1 hb1 hf hdis
    simp only [List.drop_succ_cons, List.drop_zero]
    have ee12 : vals 12 = .bool r := hf 12 (by decide)
    rw [ee12]; clear ee12
    clear hf hdis
    have HB1 := Lib.hid (HB0.out.step hb1)
    have Fp := Lib.hid (Fp.out.below hb1)
    have Fraw := Lib.hid (Fraw.out.below hb1)
    have BXp := Lib.hid (heap_below BXp.out hb1)
    clear hb1
    go_wp2_with fail
    go_ret
    exact ⟨by first | rfl | (simp; done), HB1.out⟩
theorem rprob_any (v : Value) (s : Bool) (a b : List Nat) (w : World) (h : RatV w v s a b) (hla : a.length ≤ 40000) (hlb : b.length ≤ 40000) :
    Calls Tryz.prog 85 #[v] w (RetV w (.bool (prB s a b))) := by
  have hi : RatIs w v (rq s a b) := h.is (by omega) (by omega)
  have hl : rl (rq s a b) ≤ 40000 := rl_rq h.lt.1 h.lt.2 hla hlb (by decide)
  by_cases hv : Vld s a b
  · by_cases hq : rq s a b < 0
    · exact rprob_neg v _ w hi h (by omega) (by omega) rfl hv hq hl
    · exact rprob_in v _ w hi h (by omega) (by omega) rfl hv (by grind) hl
  · exact rprob_no v _ w hi h (by omega) (by omega) rfl hv hl
end Go.Proofs.YthhgfhdmfhnklaaGreatDoor
/-
  Arguments that are fractions.
  Conditions: none beyond each theorem's own.
-/
namespace Go.Proofs.YthhgfhdmfhnklaaGreatDoor
open Go.RowKit Go.ChangeShapes Go.WideShapes

/-- a field that is a slice of words -/
theorem open_words_cell {H : Type} {enc : TypeId × Value → H} {P : Program} {W : World} {t e : TypeId} {v : Value} {x : DataW H × List MemPlace} {fuel : Nat} (ht : P.underlying t = some (.slice e)) (he : P.underlying e = some (.int .u32)) (hc : P.cellsOf e = 1)
    (hf : DataW.trod enc P W 0 (fun _ => true) true fuel t [v] = some x) : ∃ l : List Nat, Num W v l := by
  rcases open_ints ht he hc hf with ⟨hcs, hx⟩ | ⟨a, len', cap', zs, hcs, _, hl, hm, hz, hx, hcell, hwz⟩
  · have hcs' : v = .slice none 0 0 := by simpa using hcs
    rw [hcs']; exact ⟨[], Num.nil W⟩
  · have hcs' : v = .slice (some a) len' cap' := by simpa using hcs
    rw [hcs']
    have hz' : len' ≤ zs.length := by rw [hz]; simp; exact hl
    have hgd : ∀ j, j < len' → gd ((zs.take len').map Int.toNat) j = (zs.getD j 0).toNat := fun j hj => by
      simp [gd, List.getD_eq_getElem?_getD, hj, show j < zs.length by omega]
    have hwf : ∀ j, j < zs.length → 0 ≤ zs.getD j 0 ∧ zs.getD j 0 < 4294967296 := fun j hj => by
      have hmem : zs.getD j 0 ∈ zs := by rw [List.getD_eq_getElem?_getD, List.getElem?_eq_getElem hj]; exact List.getElem_mem hj
      have := hwz _ hmem
      simp only [Lit.wf, Bool.and_eq_true, decide_eq_true_eq] at this
      have h1 : IntKind.u32.min = 0 := by decide
      have h2 : IntKind.u32.max = 4294967296 - 1 := by decide
      rw [h1, h2] at this; omega
    have hlen : ((zs.take len').map Int.toNat).length = len' := by rw [List.length_map, List.length_take]; omega
    refine ⟨(zs.take len').map Int.toNat, some a, cap', by rw [hlen], by omega, by unfold maxLen at hm; omega, by simp, ?_, ?_⟩
    · intro b off s hs
      obtain rfl : a = ⟨b, off, s⟩ := Option.some.inj hs
      have h0 : 0 < len' → b < W.heap.size ∧ s = none := fun h0 => by
        have := hcell 0 (by omega)
        have e0 : (⟨b, off, s⟩ : Addr).add 0 = ⟨b, off, s⟩ := by simp [Addr.add]
        rw [e0] at this
        refine ⟨World.block_lt_of_cell? W _ this, ?_⟩
        cases s with
        | none => rfl
        | some x =>
          unfold World.cell? at this
          split at this <;> simp at this
      refine ⟨fun hh => h0 (by omega), fun j hj => ?_⟩
      rw [hlen] at hj
      obtain ⟨_, rfl⟩ := h0 (by omega)
      have := hcell j (by omega)
      have e2 : (⟨b, off, none⟩ : Addr).add j = ⟨b, off + j, none⟩ := by unfold Addr.add; split <;> simp_all
      rw [e2] at this
      rw [this, hgd j hj]
      have := hwf j (by omega)
      congr 2; omega
    · intro j
      by_cases hj : j < len'
      · rw [hgd j hj]; have := hwf j (by omega); omega
      · rw [gd_over _ _ (by omega)]; omega

end Go.Proofs.YthhgfhdmfhnklaaGreatDoor
/-
  The last step of a law's proof: true was handed back and nothing that was there has changed, so the row's claim holds.
  Conditions: each theorem's own.
-/
namespace Go.Proofs.YthhgfhdmfhnklaaGreatDoor
open Go.RowKit Go.ChangeShapes Go.WideShapes

theorem bd_u8 {n : Int} (h : (Lit.int .u8 n).wf = true) : 0 ≤ n ∧ n ≤ 255 := by
  simp only [Lit.wf, Bool.and_eq_true, decide_eq_true_eq] at h
  have h1 : IntKind.u8.min = 0 := by decide
  have h2 : IntKind.u8.max = 255 := by decide
  rw [h1, h2] at h; exact h
end Go.Proofs.YthhgfhdmfhnklaaGreatDoor
/-
  brief, valid and the list of chances of the laws of proof.
  Conditions: each theorem's own.
-/
namespace Go.Proofs.YthhgfhdmfhnklaaGreatDoor
open Go.RowKit Go.ChangeShapes Go.WideShapes

theorem drop_cons_of {α : Type} {l : List α} {q : Nat} {x : α} (h : l[q]? = some x) : l.drop q = x :: l.drop (q + 1) := by
  obtain ⟨h1, h2⟩ := List.getElem?_eq_some_iff.1 h
  rw [List.drop_eq_getElem_cons h1, h2]
def shortR (r : Rv) : Bool := decide (r.a.length ≤ 3) && decide (r.b.length ≤ 3)
def briefB (L : List Rv) : Bool := decide (L.length ≤ 30) && L.all shortR
set_option maxRecDepth 100000 in
set_option maxHeartbeats 4000000 in
theorem brief_any (v : Value) (L : List Rv) (w : World) (hl : RvsV w v L) : Calls Tryz.prog 21 #[v] w (RetV w (.bool (briefB L))) := by
  obtain ⟨al, cl, rfl, hcl, hcl2, _⟩ := hl.shape
  have HL := Lib.hid hl; clear hl
  by_cases h30 : 30 < L.length
  · have R := Lib.hid (show briefB L = false by unfold briefB; simp; omega)
    go_enter Tryz.func21, Tryz.ntmps21
    go_wp2_with fail
    go_ret
    exact ⟨by rw [R.out]; rfl, Below.refl _ _⟩
  have h30' : L.length ≤ 30 := by omega
  go_enter Tryz.func21, Tryz.ntmps21
  go_wp2_with fail
  go_loopw [10] (fun i' wx => ∃ q : Nat, q ≤ L.length ∧ i' = .int .i64 q ∧ Hid (Below w.heap.size w wx) ∧ Hid (briefB L = (L.drop q).all shortR)) (fun i' _ => L.length - (intOf i').toNat)
  case atStart => exact ⟨0, Nat.zero_le _, rfl, Lib.hid (Below.refl _ _), Lib.hid (by unfold briefB; simp [h30'])⟩
  case round =>
    obtain ⟨q, hq, rfl, HBo, FB⟩ := hrel
    obtain ⟨wo, rfl⟩ : ∃ wo : World, wo = wr := ⟨_, rfl⟩
    by_cases hlt : q < L.length
    · obtain ⟨x, hx⟩ : ∃ x, L[q]? = some x := ⟨L[q], List.getElem?_eq_getElem hlt⟩
      obtain ⟨bl, ol, rfl, hbl, hjk, hat⟩ := (HL.out.below HBo.out).at (by omega); clear hjk
      obtain ⟨va, vb, c0, c1, c2, n1, n2⟩ := hat q x hx
      have hmem := List.mem_of_getElem? hx
      have FD := Lib.hid (drop_cons_of hx)
      clear hat hx
      obtain ⟨xs, xa, xb⟩ := x
      simp only at c0 c1 c2 n1 n2
      obtain ⟨ao, ca, rfl, ha1, ha2, _⟩ := n1.shape
      obtain ⟨bo, cb, rfl, hb1, hb2, _⟩ := n2.shape
      obtain ⟨w4, hw4⟩ : ∃ w4, w4 = wo.alloc (.cells #[.bool xs, .slice ao xa.length ca, .slice bo xb.length cb] 54) := ⟨_, rfl⟩
      have hb4 : Below wo.heap.size wo w4 := by rw [hw4]; exact (Below.refl _ _).alloc (Nat.le_refl _) _
      have hx4 : w4.heap[wo.heap.size]? = some (.cells #[.bool xs, .slice ao xa.length ca, .slice bo xb.length cb] 54) := by rw [hw4]; exact heap_alloc_new wo _
      obtain ⟨g4, hg4⟩ : ∃ g, g = wo.heap.size := ⟨_, rfl⟩
      rw [← hg4] at hx4
      have HB4 := Lib.hid (HBo.out.trans (hb4.mono HBo.out.size))
      have HN := Lib.hid (And.intro (n1.below hb4) (n2.below hb4))
      have G4 := Lib.hid hx4
      have hltz : (q : Int) < (L.length : Int) := by omega
      clear hb4 n1 n2
      obtain ⟨z0, z1, z2⟩ := row3 hx4
      rw [hw4, hg4] at z0 z1 z2
      rw [FD.out] at FB
      by_cases hA : 3 < xa.length
      · have R := Lib.hid (show briefB L = false by rw [FB.out]; simp [shortR]; omega)
        go_wp2_with fail
        rw [← hw4]
        go_ret
        exact ⟨by rw [R.out]; rfl, HB4.out⟩
      by_cases hB : 3 < xb.length
      · have R := Lib.hid (show briefB L = false by rw [FB.out]; simp [shortR]; omega)
        go_wp2_with fail
        rw [← hw4]
        go_ret
        exact ⟨by rw [R.out]; rfl, HB4.out⟩
      have NB := Lib.hid (show briefB L = (L.drop (q + 1)).all shortR by
        rw [FB.out, List.all_cons]; simp [shortR]; omega)
      go_wp2_with fail
      rw [← hw4]
      go_roundw
      case rel => exact ⟨q + 1, by omega, by go_num, HB4, NB⟩
      case measure => simp [intOf]; omega
    · have hq' : q = L.length := by omega
      subst hq'
      have R := Lib.hid (show briefB L = true by rw [FB.out, List.drop_length]; rfl)
      go_wp2_with fail
      go_ret
      exact ⟨by rw [R.out]; rfl, HBo.out⟩
theorem briefB_sm {L : List Rv} (h : briefB L = true) : L.length ≤ 30 ∧ ∀ r ∈ L, r.a.length ≤ 3 ∧ r.b.length ≤ 3 := by
  unfold briefB at h
  simp only [Bool.and_eq_true, decide_eq_true_eq, List.all_eq_true, shortR] at h
  exact h
/-- what the reference's Probs finds -/
def probE (f : Fm) (L : List Rv) : Nat := if (L.length : Int) ≠ f.vars then 11 else if (L.any fun r => !prB r.s r.a r.b) = true then 3 else 0
set_option maxRecDepth 100000 in
set_option maxHeartbeats 4000000 in
theorem rprobs_any (vf v : Value) (f : Fm) (L : List Rv) (w : World) (hf : FmV w vf f) (hl : RvsV w v L) (hsm : ∀ r ∈ L, r.a.length ≤ 3 ∧ r.b.length ≤ 3) : Calls Tryz.prog 48 #[vf, v] w (RetV w (.int .i64 (probE f L : Nat))) := by
  obtain ⟨nv, rfl, hn, hv, htp⟩ := hf
  obtain ⟨aof, cf, rfl, hcf, hcf2, _⟩ := hn.shape
  obtain ⟨al, cl, rfl, hcl, hcl2, _⟩ := hl.shape
  have HL := Lib.hid hl; have HS := Lib.hid hsm
  obtain ⟨W, hW⟩ : ∃ W, W = w.alloc (.cells #[.int .i64 f.vars, .slice aof f.nodes.length cf, .int .i64 f.top] 24) := ⟨_, rfl⟩
  have hbW : Below w.heap.size w W := by rw [hW]; exact (Below.refl _ _).alloc (Nat.le_refl _) _
  have hg1 : W.heap[w.heap.size]? = some (.cells #[.int .i64 f.vars, .slice aof f.nodes.length cf, .int .i64 f.top] 24) := by rw [hW]; exact heap_alloc_new w _
  obtain ⟨x0, x1, x2⟩ := row3 hg1
  rw [hW] at x0 x1 x2
  have HBW := Lib.hid hbW
  unfold I64 at hv
  clear hbW hg1 hn htp hl hsm
  by_cases h11 : (L.length : Int) = f.vars
  · have P0 := Lib.hid (show probE f L = if (L.any fun r => !prB r.s r.a r.b) = true then 3 else 0 by unfold probE; rw [if_neg (fun k => k h11)])
    go_enter Tryz.func48, Tryz.ntmps48
    go_wp2_with fail
    rw [← hW]; clear hW x0 x1 x2
    go_loopw [14] (fun i' wx => ∃ q : Nat, q ≤ L.length ∧ i' = .int .i64 q ∧ Hid (Below w.heap.size w wx) ∧ Hid ((L.any fun r => !prB r.s r.a r.b) = (L.drop q).any fun r => !prB r.s r.a r.b)) (fun i' _ => L.length - (intOf i').toNat)
    case atStart => exact ⟨0, Nat.zero_le _, rfl, HBW, Lib.hid rfl⟩
    case round =>
      obtain ⟨q, hq, rfl, HBo, FB⟩ := hrel
      obtain ⟨wo, rfl⟩ : ∃ wo : World, wo = wr := ⟨_, rfl⟩
      by_cases hlt : q < L.length
      · obtain ⟨x, hx⟩ : ∃ x, L[q]? = some x := ⟨L[q], List.getElem?_eq_getElem hlt⟩
        obtain ⟨bl, ol, rfl, hbl, hjk, hat⟩ := (HL.out.below HBo.out).at (by omega); clear hjk
        obtain ⟨va, vb, c0, c1, c2, n1, n2⟩ := hat q x hx
        have hmem := List.mem_of_getElem? hx
        have FD := Lib.hid (drop_cons_of hx)
        clear hat hx
        obtain ⟨xs, xa, xb⟩ := x
        simp only at c0 c1 c2 n1 n2
        obtain ⟨ao, ca, rfl, ha1, ha2, _⟩ := n1.shape
        obtain ⟨bo, cb, rfl, hb1, hb2, _⟩ := n2.shape
        obtain ⟨w4, hw4⟩ : ∃ w4, w4 = wo.alloc (.cells #[.bool xs, .slice ao xa.length ca, .slice bo xb.length cb] 54) := ⟨_, rfl⟩
        have hb4 : Below wo.heap.size wo w4 := by rw [hw4]; exact (Below.refl _ _).alloc (Nat.le_refl _) _
        have hx4 : w4.heap[wo.heap.size]? = some (.cells #[.bool xs, .slice ao xa.length ca, .slice bo xb.length cb] 54) := by rw [hw4]; exact heap_alloc_new wo _
        obtain ⟨g4, hg4⟩ : ∃ g, g = wo.heap.size := ⟨_, rfl⟩
        rw [← hg4] at hx4
        have HB4 := Lib.hid (HBo.out.trans (hb4.mono HBo.out.size))
        have HN := Lib.hid (And.intro (n1.below hb4) (n2.below hb4))
        have G4 := Lib.hid hx4
        have hltz : (q : Int) < (L.length : Int) := by omega
        clear hb4 n1 n2
        obtain ⟨z0, z1, z2⟩ := row3 hx4
        rw [hw4, hg4] at z0 z1 z2
        rw [FD.out] at FB
        have HK := Lib.hid (rprob_any (.agg #[.bool xs, .slice ao xa.length ca, .slice bo xb.length cb]) xs xa xb w4 ⟨_, _, rfl, HN.out.1, HN.out.2⟩ (by have := (HS.out _ hmem).1; simp only at this; omega) (by have := (HS.out _ hmem).2; simp only at this; omega))
        go_wp2_with (with_reducible refine pauseCall ?_)
        rw [← hw4, ← hg4]; clear hw4 hg4 c0 c1 c2 z0 z1 z2 hx4
        refine Pause.mk ?_
        (with_reducible refine HK.out.mono ?_); rintro e w5 ⟨rfl, hb5⟩
        have HB5 := Lib.hid (HB4.out.trans (hb5.mono HB4.out.size))
        clear hb5 HK
        cases hp : prB xs xa xb
        · have R := Lib.hid (show probE f L = 3 by rw [P0.out, FB.out]; simp [hp])
          clear hp
          go_wp2_with fail
          go_ret
          exact ⟨by rw [R.out]; rfl, HB5.out⟩
        · have NB := Lib.hid (show (L.any fun r => !prB r.s r.a r.b) = (L.drop (q + 1)).any fun r => !prB r.s r.a r.b by rw [FB.out, List.any_cons]; simp [hp])
          clear hp
          go_wp2_with fail
          go_roundw
          case rel => exact ⟨q + 1, by omega, by go_num, HB5, NB⟩
          case measure => simp [intOf]; omega
      · have hq' : q = L.length := by omega
        subst hq'
        have R := Lib.hid (show probE f L = 0 by rw [P0.out, FB.out, List.drop_length]; rfl)
        go_wp2_with fail
        go_ret
        exact ⟨by rw [R.out]; rfl, HBo.out⟩
  · have R := Lib.hid (show probE f L = 11 by unfold probE; rw [if_pos h11])
    have h11' : (((L.length : Nat) : Int) != f.vars) = true := bne_iff_ne.2 h11
    go_enter Tryz.func48, Tryz.ntmps48
    go_wp2_with fail
    rw [← hW]
    go_ret
    exact ⟨by rw [R.out]; rfl, HBW.out⟩
/-- what valid says -/
def validB (f : Fm) (L : List Rv) : Bool := lightB f (.mk 0 [] 0) && briefB L && decide (fmErr f = 0) && decide (probE f L = 0)
theorem trV_zero (w : World) : TrV w (.agg #[.int .i64 0, .slice none 0 0, .int .i64 0]) (.mk 0 [] 0) :=
  ⟨_, rfl, ⟨none, 0, rfl, Nat.le_refl _, by omega, fun _ => rfl, fun b off s h => by cases h⟩, by unfold I64; omega, by unfold I64; omega⟩
set_option maxRecDepth 100000 in
set_option maxHeartbeats 4000000 in
theorem valid41_any (vf v : Value) (f : Fm) (L : List Rv) (w : World) (hf : FmV w vf f) (hl : RvsV w v L) : Calls Tryz.prog 18 #[vf, v] w (RetV w (.bool (validB f L))) := by
  obtain ⟨nv, rfl, hn, hv, htp⟩ := hf
  obtain ⟨ao, c, rfl, hc, hc2, _⟩ := hn.shape
  have HF := Lib.hid (show FmV w _ f from ⟨_, rfl, hn, hv, htp⟩)
  have HL := Lib.hid hl
  obtain ⟨W, hW⟩ : ∃ W, W = w.alloc (.cells #[.int .i64 f.vars, .slice ao f.nodes.length c, .int .i64 f.top] 24) := ⟨_, rfl⟩
  have hbW : Below w.heap.size w W := by rw [hW]; exact (Below.refl _ _).alloc (Nat.le_refl _) _
  have hg1 : W.heap[w.heap.size]? = some (.cells #[.int .i64 f.vars, .slice ao f.nodes.length c, .int .i64 f.top] 24) := by rw [hW]; exact heap_alloc_new w _
  obtain ⟨g1, hG1⟩ : ∃ g, g = w.heap.size := ⟨_, rfl⟩
  rw [← hG1] at hg1
  have HBW := Lib.hid hbW; have G1 := Lib.hid hg1
  obtain ⟨x0, x1, x2⟩ := row3 hg1
  rw [hW, hG1] at x0 x1 x2
  clear hbW hg1 hn hv htp hl
  have HK := Lib.hid (light_any _ (.agg #[.int .i64 0, .slice none 0 0, .int .i64 0]) f (.mk 0 [] 0) W (HF.out.below HBW.out) (trV_zero W))
  obtain ⟨lb, hlb⟩ : ∃ lb, lb = lightB f (.mk 0 [] 0) := ⟨_, rfl⟩
  rw [← hlb] at HK
  have VB := Lib.hid (show validB f L = (lb && briefB L && decide (fmErr f = 0) && decide (probE f L = 0)) by rw [hlb]; rfl)
  clear hlb
  go_enter Tryz.func18, Tryz.ntmps18
  go_wp2_with (with_reducible refine pauseCall ?_)
  rw [← hW, ← hG1]; clear hW hG1 x0 x1 x2
  have HB1 := HBW
  refine Pause.mk ?_
  (with_reducible refine HK.out.mono ?_); rintro e w1 ⟨rfl, hb1⟩
  have HB1 := Lib.hid (HB1.out.trans (hb1.mono HB1.out.size))
  have G1 := Lib.hid (heap_below G1.out hb1)
  clear hb1 HK
  cases lb
  · have R := Lib.hid (show validB f L = false by rw [VB.out]; simp)
    go_wp2_with fail
    go_ret
    exact ⟨by rw [R.out]; rfl, HB1.out⟩
  have HK := Lib.hid (brief_any _ L w1 (HL.out.below HB1.out))
  obtain ⟨bb, hbb⟩ : ∃ bb, bb = briefB L := ⟨_, rfl⟩
  rw [← hbb] at HK
  go_wp2_with (with_reducible refine pauseCall ?_)
  refine Pause.mk ?_
  (with_reducible refine HK.out.mono ?_); rintro e w2 ⟨rfl, hb2⟩
  have HB1 := Lib.hid (HB1.out.trans (hb2.mono HB1.out.size))
  have G1 := Lib.hid (heap_below G1.out hb2)
  clear hb2 HK
  cases bb
  · have R := Lib.hid (show validB f L = false by rw [VB.out, ← hbb]; simp); clear hbb
    go_wp2_with fail
    go_ret
    exact ⟨by rw [R.out]; rfl, HB1.out⟩
  have SM := Lib.hid (briefB_sm hbb.symm).2
  have BB := Lib.hid hbb; clear hbb
  obtain ⟨x0, x1, x2⟩ := row3 G1.out
  have HK := Lib.hid (rfcheck_any _ f w2 (HF.out.below HB1.out))
  obtain ⟨fe, hfe⟩ : ∃ fe, fe = fmErr f := ⟨_, rfl⟩
  rw [← hfe] at HK
  have FE := Lib.hid hfe; clear hfe
  go_wp2_with (with_reducible refine pauseCall ?_)
  clear x0 x1 x2
  refine Pause.mk ?_
  (with_reducible refine HK.out.mono ?_); rintro e w3 ⟨rfl, hb3⟩
  have HB1 := Lib.hid (HB1.out.trans (hb3.mono HB1.out.size))
  have G1 := Lib.hid (heap_below G1.out hb3)
  clear hb3 HK
  by_cases h0 : fe = 0
  · subst h0
    obtain ⟨x0, x1, x2⟩ := row3 G1.out
    have HK := Lib.hid (rprobs_any _ _ f L w3 (HF.out.below HB1.out) (HL.out.below HB1.out) SM.out)
    obtain ⟨pe, hpe⟩ : ∃ pe, pe = probE f L := ⟨_, rfl⟩
    rw [← hpe] at HK
    have PE := Lib.hid hpe; clear hpe
    go_wp2_with (with_reducible refine pauseCall ?_)
    clear x0 x1 x2
    refine Pause.mk ?_
    (with_reducible refine HK.out.mono ?_); rintro e w4 ⟨rfl, hb4⟩
    have HB1 := Lib.hid (HB1.out.trans (hb4.mono HB1.out.size))
    clear hb4 HK
    by_cases h1 : pe = 0
    · have R := Lib.hid (show validB f L = true by rw [VB.out, ← BB.out, ← FE.out, ← PE.out, h1]; rfl)
      subst h1
      go_wp2_with fail
      go_ret
      exact ⟨by rw [R.out]; rfl, HB1.out⟩
    · have R := Lib.hid (show validB f L = false by rw [VB.out, ← PE.out]; simp [h1])
      have h1' : (((pe : Nat) : Int) == 0) = false := by simp [h1]
      have h1'' : ¬ ((pe : Nat) : Int) = 0 := by omega
      go_wp2_with fail
      go_ret
      exact ⟨by rw [R.out]; rfl, HB1.out⟩
  · have R := Lib.hid (show validB f L = false by rw [VB.out, ← FE.out]; simp [h0])
    have h0'' : ¬ ((fe : Nat) : Int) = 0 := by omega
    go_wp2_with fail
    go_ret
    exact ⟨by rw [R.out]; rfl, HB1.out⟩
end Go.Proofs.YthhgfhdmfhnklaaGreatDoor
/-
  What valid formulas and chances give: grown trees are certificates; deeper ones give no wider bounds.
  Conditions: each theorem's own.
-/
namespace Go.Proofs.YthhgfhdmfhnklaaGreatDoor
open Go.RowKit Go.ChangeShapes Go.WideShapes

theorem lightB_vars {f : Fm} {t : Tr} (h : lightB f t = true) (h0 : fmErr f = 0) : f.vars ≤ 8 ∧ f.nodes.length ≤ 20 := by
  unfold lightB at h
  simp only [Bool.and_eq_true, Bool.or_eq_true, decide_eq_true_eq] at h
  rcases h.2.2.2 with k | k
  · exact absurd h0 k
  · exact k
theorem probE_ok {f : Fm} {L : List Rv} (h : probE f L = 0) : (L.length : Int) = f.vars ∧ ∀ r ∈ L, prB r.s r.a r.b = true := by
  unfold probE at h
  split at h
  · cases h
  rename_i h1
  split at h
  · cases h
  rename_i h2
  refine ⟨by omega, fun r hr => ?_⟩
  cases hp : prB r.s r.a r.b
  · exfalso; apply h2; exact List.any_eq_true.2 ⟨r, hr, by simp [hp]⟩
  · rfl
theorem validB_parts {f : Fm} {L : List Rv} (h : validB f L = true) : ValidP f L := by
  unfold validB at h
  simp only [Bool.and_eq_true, decide_eq_true_eq] at h
  obtain ⟨⟨⟨h1, h2⟩, h3⟩, h4⟩ := h
  exact ⟨(lightB_vars h1 h3).1, h3, (probE_ok h4).1, (probE_ok h4).2, (briefB_sm h2).2⟩
theorem ValidP.rl3 {w : World} {v : Value} {f : Fm} {L : List Rv} (h : ValidP f L) (hl : RvsV w v L) : ∀ r ∈ L, r.a.length ≤ 3 ∧ r.b.length ≤ 3 ∧ rl r.q ≤ 3 := fun r hr =>
  ⟨(h.sm r hr).1, (h.sm r hr).2, rl_rq (hl.lt r hr).1 (hl.lt r hr).2 (h.sm r hr).1 (h.sm r hr).2 (by decide)⟩
theorem bnd_eq {f : Fm} {t : Tr} {L : List Rv} (h : sErr f t L = 0) : bndV f t L = (sumL (L.map Rv.q) (fun x => decide (x.reason = 1)) (trLeaves t 0 0), 1 - sumL (L.map Rv.q) (fun x => decide (x.reason = 0)) (trLeaves t 0 0)) := by
  unfold bndV
  rw [if_pos h, sumF_eq, sumF_eq, Rat.zero_add, Rat.zero_add]
/-- what a certificate gives encloses the chance -/
theorem bnd_encl {f : Fm} {t : Tr} {L : List Rv} (hs : sErr f t L = 0) : (bndV f t L).1 ≤ chance f (L.map Rv.q) ∧ chance f (L.map Rv.q) ≤ (bndV f t L).2 := by
  obtain ⟨h1, h2, h3, h4⟩ := sErr_parts hs
  obtain ⟨k1, k2, k3, k4⟩ := cErr_ok h1
  obtain ⟨p0, p1, p2, p3⟩ := fmErr_parts k1
  rw [bnd_eq hs]
  obtain ⟨m, hm⟩ : ∃ m, trErr f.vars t 0 0 = (m, 0) := ⟨(trErr f.vars t 0 0).1, Prod.ext rfl k2⟩
  have hf : firstBad f (trLeaves t 0 0) 0 = -1 := by
    rcases firstBad_ge f (trLeaves t 0 0) 0 with k | k
    · exact k
    · omega
  exact tree_chance p0 p3 (by rw [List.length_map]; omega) (fun p hp => by
    obtain ⟨r, hr, rfl⟩ := List.mem_map.1 hp
    exact (of_decide_eq_true (h3 r hr)).2) hm ((firstBad_hold _ _).1 hf)
theorem bnd_le {f : Fm} {t : Tr} {L : List Rv} (hs : sErr f t L = 0) : (bndV f t L).1 ≤ (bndV f t L).2 := Rat.le_trans (bnd_encl hs).1 (bnd_encl hs).2
theorem bnd_rl {f : Fm} {t : Tr} {L : List Rv} (hs : sErr f t L = 0) (hsm : ∀ r ∈ L, r.a.length ≤ 3 ∧ r.b.length ≤ 3 ∧ rl r.q ≤ 3) (hlv : (trLeaves t 0 0).length ≤ 300) : rl (bndV f t L).1 ≤ 39000 ∧ rl (bndV f t L).2 ≤ 39000 := by
  obtain ⟨h1, h2, _, _⟩ := sErr_parts hs
  have p1 := (fmErr_parts (cErr_ok h1).1).2.1
  have a1 := rl_sum (r := 1) (by omega : L.length ≤ 24) hsm hlv
  have a0 := rl_sum (r := 0) (by omega : L.length ≤ 24) hsm hlv
  unfold bndV
  rw [if_pos hs]
  refine ⟨Nat.le_trans a1 (by decide), ?_⟩
  have := rl_sub 1 (sumF (L.map Rv.q) 0 (trLeaves t 0 0) 0)
  rw [rl_one] at this
  show rl (1 - sumF (L.map Rv.q) 0 (trLeaves t 0 0) 0) ≤ 39000
  omega
theorem deeper_sub {f : Fm} {L : List Rv} (h : ValidP f L) (d : Nat) : subS (bndV f (grT f (d + 1) 0 0) L) (bndV f (grT f d 0 0) L) := by
  have e1 := bnd_le (h.sErr (d + 1))
  have e0 := bnd_le (h.sErr d)
  rw [bnd_eq (h.sErr (d + 1))] at e1
  rw [bnd_eq (h.sErr d)] at e0
  rw [bnd_eq (h.sErr (d + 1)), bnd_eq (h.sErr d)]
  have k1 := grT_deeper (f := f) h.ps.2 1 (by decide) d 0 0
  have k0 := grT_deeper (f := f) h.ps.2 0 (by decide) d 0 0
  simp only at e1 e0
  unfold subS inS
  simp only
  refine ⟨⟨k1, ?_⟩, ?_, ?_⟩ <;> grind
theorem mk_ok {f : Fm} (h : fmErr f = 0) (m : Int) (d : Nat) (e : m = d) (hd : d ≤ 24) : mErr f m = 0 ∧ mTr f m = grT f d 0 0 := by
  subst e
  have h1 : mErr f (d : Int) = 0 := by unfold mErr; rw [if_neg (by rw [h]; decide), if_neg (by omega)]
  refine ⟨h1, ?_⟩
  unfold mTr; rw [if_pos h1, Int.toNat_natCast]
end Go.Proofs.YthhgfhdmfhnklaaGreatDoor
/-
  Intervals: their ends' lengths, their order, what sums and products of ends come to.
  Conditions: none beyond each theorem's own.
-/
namespace Go.Proofs.YthhgfhdmfhnklaaGreatDoor

theorem rl_around2 (p q : Rat) : rl (around2 p q).1 ≤ max (rl p) (rl q) ∧ rl (around2 p q).2 ≤ max (rl p) (rl q) := ⟨rl_mn _ _, rl_mx _ _⟩
end Go.Proofs.YthhgfhdmfhnklaaGreatDoor
/-
  span.Valid, span.norm and the reference's: what they hand back.
  Conditions: each theorem's own.
-/
namespace Go.Proofs.YthhgfhdmfhnklaaGreatDoor
open Go.RowKit Go.ChangeShapes Go.WideShapes

set_option maxRecDepth 100000 in
set_option maxHeartbeats 3200000 in
theorem svalid_1 (va : Value) (sa : Bool) (aa ba : List Nat) (ta : Bool) (ca da : List Nat) (w : World) (ha : SpV w va sa aa ba ta ca da) (la : aa.length ≤ 40000) (lb : ba.length ≤ 40000) (_lc : ca.length ≤ 40000) (_ld : da.length ≤ 40000) (hv : ¬ Vld sa aa ba) :
    Calls Tryz.prog 90 #[va] w (RetV w (.bool (decide (Vld sa aa ba ∧ Vld ta ca da ∧ rq sa aa ba ≤ rq ta ca da)))) := by
  have HBW := Lib.hid (Below.refl w.heap.size w)
  obtain ⟨qa, oa, na, ka, pa, ma, ra, qax, oax, nax, kax, pax, max, rax, rfl⟩ := ha.shape
  rw [show decide (Vld sa aa ba ∧ Vld ta ca da ∧ rq sa aa ba ≤ rq ta ca da) = false from decide_eq_false (fun k => hv k.1)]
  have HV1 := Lib.hid (decide_eq_false hv); clear hv
  have Fa := Lib.hid ha; clear ha
  have Fal := Lib.hid (spV_ends Fa.out).1; have Fah := Lib.hid (spV_ends Fa.out).2
  obtain ⟨w1, hw1⟩ : ∃ w1, w1 = w.alloc (.cells #[.bool qa, .slice oa na ka, .slice pa ma ra, .bool qax, .slice oax nax kax, .slice pax max rax] 56) := ⟨_, rfl⟩
  have hb1 : Below w.heap.size w w1 := by rw [hw1]; exact (Below.refl _ _).alloc (Nat.le_refl _) _
  have hx1 := heap_alloc_new w (.cells #[.bool qa, .slice oa na ka, .slice pa ma ra, .bool qax, .slice oax nax kax, .slice pax max rax] 56)
  obtain ⟨g1, hg1⟩ : ∃ g, g = w.heap.size := ⟨_, rfl⟩
  rw [← hw1, ← hg1] at hx1
  have lw1 : w.heap.size ≤ g1 := by rw [hg1]; exact HBW.out.size
  have HW1 := Lib.hid hw1; have HG1 := Lib.hid hg1; clear hw1 hg1
  have HB1 := Lib.hid (HBW.out.step hb1)
  have Fa := Lib.hid (Fa.out.below hb1)
  have Fal := Lib.hid (Fal.out.below hb1)
  have Fah := Lib.hid (Fah.out.below hb1)
  have BX1 := Lib.hid hx1; clear hb1 hx1
  go_enter Tryz.func90, Tryz.ntmps90
  obtain ⟨x1_0, x1_1, x1_2, x1_3, x1_4, x1_5⟩ := row6 BX1.out
  have hs := valid_any _ sa aa ba w1 Fal.out (by omega) (by omega)
  rw [HV1.out] at hs
  have HS := Lib.hid hs; clear hs
  try rw [HW1.out] at x1_0
  try rw [HG1.out] at x1_0
  try rw [HW1.out] at x1_1
  try rw [HG1.out] at x1_1
  try rw [HW1.out] at x1_2
  try rw [HG1.out] at x1_2
  try rw [HW1.out] at x1_3
  try rw [HG1.out] at x1_3
  try rw [HW1.out] at x1_4
  try rw [HG1.out] at x1_4
  try rw [HW1.out] at x1_5
  try rw [HG1.out] at x1_5
  go_wp2_with fail
  try rw [← HW1.out]
  try rw [← HG1.out]
  clear x1_0 x1_1 x1_2 x1_3 x1_4 x1_5
  (with_reducible refine HS.out.mono ?_); rintro e w2 ⟨rfl, hb2⟩
  clear HS
  have HB2 := Lib.hid (HB1.out.step hb2)
  have Fa := Lib.hid (Fa.out.below hb2)
  have Fal := Lib.hid (Fal.out.below hb2)
  have Fah := Lib.hid (Fah.out.below hb2)
  have BX1 := Lib.hid (heap_below BX1.out hb2)
  clear hb2
  go_wp2_with fail
  go_ret
  exact ⟨by first | rfl | (simp; done), HB2.out⟩
set_option maxRecDepth 100000 in
set_option maxHeartbeats 3200000 in
theorem svalid_2 (va : Value) (sa : Bool) (aa ba : List Nat) (ta : Bool) (ca da : List Nat) (w : World) (ha : SpV w va sa aa ba ta ca da) (la : aa.length ≤ 40000) (lb : ba.length ≤ 40000) (lc : ca.length ≤ 40000) (ld : da.length ≤ 40000) (hv : Vld sa aa ba) (hu : ¬ Vld ta ca da) :
    Calls Tryz.prog 90 #[va] w (RetV w (.bool (decide (Vld sa aa ba ∧ Vld ta ca da ∧ rq sa aa ba ≤ rq ta ca da)))) := by
  have HBW := Lib.hid (Below.refl w.heap.size w)
  obtain ⟨qa, oa, na, ka, pa, ma, ra, qax, oax, nax, kax, pax, max, rax, rfl⟩ := ha.shape
  rw [show decide (Vld sa aa ba ∧ Vld ta ca da ∧ rq sa aa ba ≤ rq ta ca da) = false from decide_eq_false (fun k => hu k.2.1)]
  have HV1 := Lib.hid (decide_eq_true hv); have HV2 := Lib.hid (decide_eq_false hu); clear hv hu
  have Fa := Lib.hid ha; clear ha
  have Fal := Lib.hid (spV_ends Fa.out).1; have Fah := Lib.hid (spV_ends Fa.out).2
  obtain ⟨w1, hw1⟩ : ∃ w1, w1 = w.alloc (.cells #[.bool qa, .slice oa na ka, .slice pa ma ra, .bool qax, .slice oax nax kax, .slice pax max rax] 56) := ⟨_, rfl⟩
  have hb1 : Below w.heap.size w w1 := by rw [hw1]; exact (Below.refl _ _).alloc (Nat.le_refl _) _
  have hx1 := heap_alloc_new w (.cells #[.bool qa, .slice oa na ka, .slice pa ma ra, .bool qax, .slice oax nax kax, .slice pax max rax] 56)
  obtain ⟨g1, hg1⟩ : ∃ g, g = w.heap.size := ⟨_, rfl⟩
  rw [← hw1, ← hg1] at hx1
  have lw1 : w.heap.size ≤ g1 := by rw [hg1]; exact HBW.out.size
  have HW1 := Lib.hid hw1; have HG1 := Lib.hid hg1; clear hw1 hg1
  have HB1 := Lib.hid (HBW.out.step hb1)
  have Fa := Lib.hid (Fa.out.below hb1)
  have Fal := Lib.hid (Fal.out.below hb1)
  have Fah := Lib.hid (Fah.out.below hb1)
  have BX1 := Lib.hid hx1; clear hb1 hx1
  go_enter Tryz.func90, Tryz.ntmps90
  obtain ⟨x1_0, x1_1, x1_2, x1_3, x1_4, x1_5⟩ := row6 BX1.out
  have hs := valid_any _ sa aa ba w1 Fal.out (by omega) (by omega)
  rw [HV1.out] at hs
  have HS := Lib.hid hs; clear hs
  try rw [HW1.out] at x1_0
  try rw [HG1.out] at x1_0
  try rw [HW1.out] at x1_1
  try rw [HG1.out] at x1_1
  try rw [HW1.out] at x1_2
  try rw [HG1.out] at x1_2
  try rw [HW1.out] at x1_3
  try rw [HG1.out] at x1_3
  try rw [HW1.out] at x1_4
  try rw [HG1.out] at x1_4
  try rw [HW1.out] at x1_5
  try rw [HG1.out] at x1_5
  go_wp2_with fail
  try rw [← HW1.out]
  try rw [← HG1.out]
  clear x1_0 x1_1 x1_2 x1_3 x1_4 x1_5
  (with_reducible refine HS.out.mono ?_); rintro e w2 ⟨rfl, hb2⟩
  clear HS
  have HB2 := Lib.hid (HB1.out.step hb2)
  have Fa := Lib.hid (Fa.out.below hb2)
  have Fal := Lib.hid (Fal.out.below hb2)
  have Fah := Lib.hid (Fah.out.below hb2)
  have BX1 := Lib.hid (heap_below BX1.out hb2)
  clear hb2
  obtain ⟨x2_0, x2_1, x2_2, x2_3, x2_4, x2_5⟩ := row6 BX1.out
  have hs := valid_any _ ta ca da w2 Fah.out (by omega) (by omega)
  rw [HV2.out] at hs
  have HS := Lib.hid hs; clear hs
  go_wp2_with fail
  clear x2_0 x2_1 x2_2 x2_3 x2_4 x2_5
  (with_reducible refine HS.out.mono ?_); rintro e w3 ⟨rfl, hb3⟩
  clear HS
  have HB3 := Lib.hid (HB2.out.step hb3)
  have Fa := Lib.hid (Fa.out.below hb3)
  have Fal := Lib.hid (Fal.out.below hb3)
  have Fah := Lib.hid (Fah.out.below hb3)
  have BX1 := Lib.hid (heap_below BX1.out hb3)
  clear hb3
  go_wp2_with fail
  go_ret
  exact ⟨by first | rfl | (simp; done), HB3.out⟩
set_option maxRecDepth 100000 in
set_option maxHeartbeats 3200000 in
theorem svalid_3 (va : Value) (sa : Bool) (aa ba : List Nat) (ta : Bool) (ca da : List Nat) (w : World) (ha : SpV w va sa aa ba ta ca da) (la : aa.length ≤ 40000) (lb : ba.length ≤ 40000) (lc : ca.length ≤ 40000) (ld : da.length ≤ 40000) (hv : Vld sa aa ba) (hu : Vld ta ca da) :
    Calls Tryz.prog 90 #[va] w (RetV w (.bool (decide (Vld sa aa ba ∧ Vld ta ca da ∧ rq sa aa ba ≤ rq ta ca da)))) := by
  have HBW := Lib.hid (Below.refl w.heap.size w)
  obtain ⟨qa, oa, na, ka, pa, ma, ra, qax, oax, nax, kax, pax, max, rax, rfl⟩ := ha.shape
  rw [show decide (Vld sa aa ba ∧ Vld ta ca da ∧ rq sa aa ba ≤ rq ta ca da) = decide (cq (rq sa aa ba) (rq ta ca da) ≤ 0) from by rw [decide_eq_decide, cq_le]; exact ⟨fun k => k.2.2, fun k => ⟨hv, hu, k⟩⟩]
  obtain ⟨n, hn⟩ : ∃ n, n = cq (rq sa aa ba) (rq ta ca da) := ⟨_, rfl⟩
  rw [← hn]; have HN := Lib.hid hn; clear hn
  have HV1 := Lib.hid (decide_eq_true hv); have HV2 := Lib.hid (decide_eq_true hu); clear hv hu
  have k1 : rl (rq sa aa ba) ≤ 40000 := rl_rq ha.lt.1.1 ha.lt.1.2 la lb (by decide); have k2 : rl (rq ta ca da) ≤ 40000 := rl_rq ha.lt.2.1 ha.lt.2.2 lc ld (by decide)
  have Fa := Lib.hid ha; clear ha
  have Fal := Lib.hid (spV_ends Fa.out).1; have Fah := Lib.hid (spV_ends Fa.out).2
  obtain ⟨w1, hw1⟩ : ∃ w1, w1 = w.alloc (.cells #[.bool qa, .slice oa na ka, .slice pa ma ra, .bool qax, .slice oax nax kax, .slice pax max rax] 56) := ⟨_, rfl⟩
  have hb1 : Below w.heap.size w w1 := by rw [hw1]; exact (Below.refl _ _).alloc (Nat.le_refl _) _
  have hx1 := heap_alloc_new w (.cells #[.bool qa, .slice oa na ka, .slice pa ma ra, .bool qax, .slice oax nax kax, .slice pax max rax] 56)
  obtain ⟨g1, hg1⟩ : ∃ g, g = w.heap.size := ⟨_, rfl⟩
  rw [← hw1, ← hg1] at hx1
  have lw1 : w.heap.size ≤ g1 := by rw [hg1]; exact HBW.out.size
  have HW1 := Lib.hid hw1; have HG1 := Lib.hid hg1; clear hw1 hg1
  have HB1 := Lib.hid (HBW.out.step hb1)
  have Fa := Lib.hid (Fa.out.below hb1)
  have Fal := Lib.hid (Fal.out.below hb1)
  have Fah := Lib.hid (Fah.out.below hb1)
  have BX1 := Lib.hid hx1; clear hb1 hx1
  go_enter Tryz.func90, Tryz.ntmps90
  obtain ⟨x1_0, x1_1, x1_2, x1_3, x1_4, x1_5⟩ := row6 BX1.out
  have hs := valid_any _ sa aa ba w1 Fal.out (by omega) (by omega)
  rw [HV1.out] at hs
  have HS := Lib.hid hs; clear hs
  try rw [HW1.out] at x1_0
  try rw [HG1.out] at x1_0
  try rw [HW1.out] at x1_1
  try rw [HG1.out] at x1_1
  try rw [HW1.out] at x1_2
  try rw [HG1.out] at x1_2
  try rw [HW1.out] at x1_3
  try rw [HG1.out] at x1_3
  try rw [HW1.out] at x1_4
  try rw [HG1.out] at x1_4
  try rw [HW1.out] at x1_5
  try rw [HG1.out] at x1_5
  go_wp2_with fail
  try rw [← HW1.out]
  try rw [← HG1.out]
  clear x1_0 x1_1 x1_2 x1_3 x1_4 x1_5
  (with_reducible refine HS.out.mono ?_); rintro e w2 ⟨rfl, hb2⟩
  clear HS
  have HB2 := Lib.hid (HB1.out.step hb2)
  have Fa := Lib.hid (Fa.out.below hb2)
  have Fal := Lib.hid (Fal.out.below hb2)
  have Fah := Lib.hid (Fah.out.below hb2)
  have BX1 := Lib.hid (heap_below BX1.out hb2)
  clear hb2
  obtain ⟨x2_0, x2_1, x2_2, x2_3, x2_4, x2_5⟩ := row6 BX1.out
  have hs := valid_any _ ta ca da w2 Fah.out (by omega) (by omega)
  rw [HV2.out] at hs
  have HS := Lib.hid hs; clear hs
  go_wp2_with fail
  clear x2_0 x2_1 x2_2 x2_3 x2_4 x2_5
  (with_reducible refine HS.out.mono ?_); rintro e w3 ⟨rfl, hb3⟩
  clear HS
  have HB3 := Lib.hid (HB2.out.step hb3)
  have Fa := Lib.hid (Fa.out.below hb3)
  have Fal := Lib.hid (Fal.out.below hb3)
  have Fah := Lib.hid (Fah.out.below hb3)
  have BX1 := Lib.hid (heap_below BX1.out hb3)
  clear hb3
  obtain ⟨x3_0, x3_1, x3_2, x3_3, x3_4, x3_5⟩ := row6 BX1.out
  obtain ⟨x4_0, x4_1, x4_2, x4_3, x4_4, x4_5⟩ := row6 BX1.out
  have hs := cmpq_any _ (rq sa aa ba) _ (rq ta ca da) w3 (Fal.out.is (by omega) (by omega)) (Fah.out.is (by omega) (by omega)) (by omega) (by omega)
  rw [← HN.out] at hs
  have HS := Lib.hid hs; clear hs
  go_wp2_with fail
  clear x3_0 x3_1 x3_2 x3_3 x3_4 x3_5 x4_0 x4_1 x4_2 x4_3 x4_4 x4_5
  (with_reducible refine HS.out.mono ?_); rintro e w4 ⟨rfl, hb4⟩
  clear HS
  have HB4 := Lib.hid (HB3.out.step hb4)
  have Fa := Lib.hid (Fa.out.below hb4)
  have Fal := Lib.hid (Fal.out.below hb4)
  have Fah := Lib.hid (Fah.out.below hb4)
  have BX1 := Lib.hid (heap_below BX1.out hb4)
  clear hb4
  go_wp2_with fail
  go_ret
  exact ⟨by first | rfl | (simp; done), HB4.out⟩
theorem svalid_any (va : Value) (sa : Bool) (aa ba : List Nat) (ta : Bool) (ca da : List Nat) (w : World) (ha : SpV w va sa aa ba ta ca da) (la : aa.length ≤ 40000) (lb : ba.length ≤ 40000) (lc : ca.length ≤ 40000) (ld : da.length ≤ 40000) :
    Calls Tryz.prog 90 #[va] w (RetV w (.bool (decide (Vld sa aa ba ∧ Vld ta ca da ∧ rq sa aa ba ≤ rq ta ca da)))) := by
  by_cases hv : Vld sa aa ba
  · by_cases hu : Vld ta ca da
    · exact svalid_3 va sa aa ba ta ca da w ha la lb lc ld hv hu
    · exact svalid_2 va sa aa ba ta ca da w ha la lb lc ld hv hu
  · exact svalid_1 va sa aa ba ta ca da w ha la lb lc ld hv
end Go.Proofs.YthhgfhdmfhnklaaGreatDoor
