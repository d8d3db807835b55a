/-
  The walk of the law TokenKinds.
  Conditions: none.
-/
import Derived.Test.YtaefimegiobkmaaMK3
namespace Go.Proofs.Ytaefimegiobkmaa
open Go.RowKit Go.ChangeShapes Go.WideShapes

/-- what one round of TokenKinds reads -/
structure KindAt (s : ByteArray) (ts : List Tk) (q : Nat) (t : TokV) : Prop where
  get : (ts.map (mkTok s))[q]? = some t
  size : t.text.size ≤ 5000
  pos : 0 ≤ t.at_
  fin : t.at_ + (t.text.size : Int) ≤ 5000
  kinds : (t.kind = 0 ∧ isName (bs t.text) = true ∧ t.text.size ≤ 24 ∧ tvC (bs t.text) = 2) ∨ (t.kind = 1 ∧ isName (bs t.text) = false ∧ t.text.size ≤ 100 ∧ tvC (bs t.text) ≠ 2)
    ∨ (t.kind = 1 ∧ isName (bs t.text) = false ∧ 100 < t.text.size ∧ tvC (bs t.text) ≠ 2) ∨ (t.kind = 2 ∧ isName (bs t.text) = false ∧ t.text.size = 1 ∧ tvC (bs t.text) = 2)
theorem kind_at {s : ByteArray} {ts : List Tk} {q : Nat} (hs : s.size ≤ 5000) (h : scanAt (bs s) 0 = (ts, 0)) (hq : q < ts.length) : ∃ t, KindAt s ts q t := by
  obtain ⟨x, hx⟩ : ∃ x, ts[q]? = some x := ⟨ts[q], List.getElem?_eq_getElem hq⟩
  obtain ⟨_, h2, h3, h4, h5⟩ := scan_tok _ 0 _ (Nat.le_refl _) h x (List.mem_of_getElem? hx)
  rw [bs_length] at h3
  have ha : x.at_ < (bs s).length := by rw [bs_length]; omega
  have htx : bs (s.extract x.at_ x.fin) = cutT (bs s) x.at_ x.fin := bs_extract _ _ _
  have hsz : (s.extract x.at_ x.fin).size = x.fin - x.at_ := by rw [ByteArray.size_extract]; omega
  refine ⟨mkTok s x, by rw [List.getElem?_map, hx]; rfl, ?_, ?_, ?_, ?_⟩
  · simp only [mkTok]; rw [hsz]; omega
  · simp only [mkTok]; omega
  · simp only [mkTok]; rw [hsz]; omega
  · simp only [mkTok]; rw [htx, hsz]
    have hl := cutT_len (l := bs s) (a := x.at_) (b := x.fin) (by rw [bs_length]; exact h3)
    rcases stepAt_kinds h5 h4 with ⟨k0, k1, k2, k3⟩ | ⟨k0, k1, k2, k3⟩ | ⟨k0, k1, k2⟩
    · obtain ⟨m1, m2, m3⟩ := word_text ha k1 (by rw [← k2]; exact k3)
      rw [← k2] at m1 m2 m3
      exact .inl ⟨by rw [k0]; rfl, m1, k3, (tvC_two (by omega)).2 m2⟩
    · obtain ⟨m1, m2⟩ := num_text ha k1
      rw [← k2] at m1 m2
      by_cases hb : x.fin - x.at_ ≤ 100
      · exact .inr (.inl ⟨by rw [k0]; rfl, m1, hb, fun k => (tvC_two (by omega)).1 k m2⟩)
      · exact .inr (.inr (.inl ⟨by rw [k0]; rfl, m1, by omega, by rw [(tvC_long (l := cutT (bs s) x.at_ x.fin) (by omega)).1]; decide⟩))
    · obtain ⟨m1, m2, m3⟩ := sign_text ha k1
      rw [← k2] at m1 m2 m3
      exact .inr (.inr (.inr ⟨by rw [k0]; rfl, m1, by omega, (tvC_two (by omega)).2 m2⟩))
theorem kind_pre {s : ByteArray} {ts : List Tk} {p : Nat} {t u : TokV} (h : scanAt (bs s) 0 = (ts, 0)) (ht : (ts.map (mkTok s))[p]? = some t) (hu : (ts.map (mkTok s))[p + 1]? = some u)
    (h1 : t.kind ≠ 2) (h2 : u.kind ≠ 2) : t.at_ + (t.text.size : Int) < u.at_ := by
  rw [List.getElem?_map] at ht hu
  cases hx : ts[p]? with
  | none => rw [hx] at ht; cases ht
  | some x =>
  cases hy : ts[p + 1]? with
  | none => rw [hy] at hu; cases hu
  | some y =>
  rw [hx] at ht; rw [hy] at hu
  cases ht; cases hu
  obtain ⟨_, a2, a3, a4, a5⟩ := scan_tok _ 0 _ (Nat.le_refl _) h x (List.mem_of_getElem? hx)
  obtain ⟨_, b2, b3, b4, b5⟩ := scan_tok _ 0 _ (Nat.le_refl _) h y (List.mem_of_getElem? hy)
  have hle := (tok_next h p x hx).2 y hy
  simp only [mkTok] at h1 h2 ⊢
  have := no_touch a5 a4 (by omega) b5 b4 (by omega) (by omega) hle
  rw [bs_length] at a3
  rw [ByteArray.size_extract]; omega

set_option maxRecDepth 100000 in
set_option maxHeartbeats 4000000 in
theorem kinds_walk (s : ByteArray) (w : World) : Calls Try.prog 3 #[.string s] w (RetV w (.bool true)) := by
  by_cases hbig : 5000 < s.size
  · go_enter Try.func3, Try.ntmps3
    go_wp2_with fail
    (with_reducible refine (tawake_any _).mono ?_); rintro e w1 ⟨rfl, hb1⟩
    go_wp2_with fail
    (with_reducible refine (tawake_any _).mono ?_); rintro e w2 ⟨rfl, hb2⟩
    go_wp2_with fail
    go_ret
    exact ⟨rfl, hb1.trans (hb2.mono hb1.size)⟩
  have hs1 : s.size ≤ 5000 := by omega
  clear hbig
  by_cases hc : (splitL (bs s)).2 = 0
  · obtain ⟨ts, hts⟩ : ∃ ts, splitL (bs s) = (ts, 0) := ⟨(splitL (bs s)).1, Prod.ext rfl hc⟩
    have hcount : ts.length ≤ 5000 := by have := splitL_count (bs s); rw [hts, bs_length] at this; simp only at this; omega
    have HSC := Lib.hid (splitL_ok (by rw [bs_length]; omega) hts)
    have HTS := Lib.hid hts; clear hts hc
    have hlm : (ts.map (mkTok s)).length = ts.length := by rw [List.length_map]
    go_enter Try.func3, Try.ntmps3
    go_wp2_with fail
    (with_reducible refine (tawake_any _).mono ?_); rintro e w1 ⟨rfl, hb1⟩
    go_wp2_with fail
    (with_reducible refine (split_any s _).mono ?_); rintro e w2 ⟨v2, rfl, hb2, ho2⟩
    rw [HTS.out] at ho2 ⊢
    rw [errV_zero]
    have ht2 := ho2.toks; clear ho2
    obtain ⟨ao, ca, rfl, hca, hca2, _⟩ := ht2.shape
    rw [hlm] at hca ht2 ⊢
    clear hlm
    have HB2 := Lib.hid (hb1.trans (hb2.mono hb1.size)); clear hb1 hb2
    have HS1 := Lib.hid hs1
    go_wp2_with fail
    go_loopw [30] (fun i wx => ∃ q : Nat, q ≤ ts.length ∧ i = .int .i64 q ∧ Below w2.heap.size w2 wx) (fun i _ => ts.length - (intOf i).toNat)
    case atStart => exact ⟨0, Nat.zero_le _, rfl, Below.refl _ _⟩
    case round =>
      obtain ⟨q, hq, rfl, hbx⟩ := hrel
      obtain ⟨wo, rfl⟩ : ∃ wo : World, wo = wr := ⟨_, rfl⟩
      by_cases hlt : q < ts.length
      · obtain ⟨t, C⟩ := kind_at HS1.out HSC.out hlt
        obtain ⟨b1, o1, rfl, _, c0, c1, c2, c3, c4⟩ := (ht2.below hbx).get C.get (by omega)
        have hpos := C.pos; have hfin := C.fin; have hkk := C.kinds
        have hpre : Hid (∀ p, q = p + 1 → ∃ u, KindAt s ts p u ∧ (u.kind ≠ 2 → t.kind ≠ 2 → u.at_ + (u.text.size : Int) < t.at_)) := Lib.hid (fun p hp => by
          subst hp
          obtain ⟨u, U⟩ := kind_at HS1.out HSC.out (by omega : p < ts.length)
          exact ⟨u, U, fun g1 g2 => kind_pre HSC.out U.get C.get g1 g2⟩)
        clear C
        obtain ⟨K, tx, at_, ln, cl⟩ := t
        simp only at c0 c1 c2 c3 c4 hpos hfin hkk hpre
        have HV := Lib.hid (fun wx => value_any tx wx (by omega))
        have HN := Lib.hid (fun wx => name_any tx wx (by omega))
        obtain ⟨nm, hnm⟩ : ∃ nm, nm = isName (bs tx) := ⟨_, rfl⟩
        obtain ⟨tc, htc⟩ : ∃ tc, tc = tvC (bs tx) := ⟨_, rfl⟩
        rw [← hnm, ← htc] at hkk
        rw [← hnm] at HN; rw [← htc] at HV; clear hnm htc
        have HI := Lib.hid (fun wx => is_any tc 2 2 wx rfl (by decide))
        obtain ⟨isb, hisb⟩ : ∃ b, b = decide (tc = 2) := ⟨_, rfl⟩
        rw [← hisb] at HI
        have hkk : (K = 0 ∧ nm = true ∧ tx.size ≤ 24 ∧ isb = true) ∨ (K = 1 ∧ nm = false ∧ tx.size ≤ 100 ∧ isb = false) ∨ (K = 1 ∧ nm = false ∧ 100 < tx.size ∧ isb = false) ∨ (K = 2 ∧ nm = false ∧ tx.size = 1 ∧ isb = true) := by
          rcases hkk with ⟨g1, g2, g3, g4⟩ | ⟨g1, g2, g3, g4⟩ | ⟨g1, g2, g3, g4⟩ | ⟨g1, g2, g3, g4⟩
          · exact .inl ⟨g1, g2, g3, by rw [hisb]; exact decide_eq_true g4⟩
          · exact .inr (.inl ⟨g1, g2, g3, by rw [hisb]; exact decide_eq_false g4⟩)
          · exact .inr (.inr (.inl ⟨g1, g2, g3, by rw [hisb]; exact decide_eq_false g4⟩))
          · exact .inr (.inr (.inr ⟨g1, g2, g3, by rw [hisb]; exact decide_eq_true g4⟩))
        clear hisb
        have HKK := Lib.hid hkk; clear hkk
        obtain ⟨qt, hqt⟩ : ∃ z, z = tvQ (bs tx) := ⟨_, rfl⟩
        rw [← hqt] at HV; clear hqt
        have hf : decide ((q : Int) < (ts.length : Int)) = true := decide_eq_true (by omega)
        go_wp2_with fail
        clear hf
        have kk : ∀ j (x : Value), (#[Value.int IntKind.i64 K, .string tx, .int .i64 at_, .int .i64 ln, .int .i64 cl] : Array Value)[j]? = some x → (wo.alloc (.cells #[Value.int IntKind.i64 K, .string tx, .int .i64 at_, .int .i64 ln, .int .i64 cl] 29)).cell? ⟨wo.heap.size, j, none⟩ = some x := fun j x hx => by
          rw [cell_of_row _ wo.heap.size j _ 29 (0, 0) (heap_alloc_new wo _)]; exact hx
        have k0 := kk 0 _ rfl; have k1 := kk 1 _ rfl; have k2 := kk 2 _ rfl
        clear kk
        have hb4 : Below w2.heap.size w2 (wo.alloc (.cells #[Value.int IntKind.i64 K, .string tx, .int .i64 at_, .int .i64 ln, .int .i64 cl] 29)) := hbx.alloc hbx.size _
        have hsz4 : wo.heap.size < (wo.alloc (.cells #[Value.int IntKind.i64 K, .string tx, .int .i64 at_, .int .i64 ln, .int .i64 cl] 29)).heap.size := by simp
        generalize hW4 : wo.alloc _ = w4 at k0 k1 k2 hb4 hsz4 ⊢
        obtain ⟨bx, hbx'⟩ : ∃ bx, bx = wo.heap.size := ⟨_, rfl⟩
        rw [← hbx'] at k0 k1 k2 hsz4 ⊢
        clear hW4 c0 c1 c2 c3 c4 hbx hbx'
        (with_reducible refine (HV.out _).mono ?_); rintro e w6 ⟨v, rfl, hb6, hv⟩
        obtain ⟨sg, ao6, n6, c6, bo6, m6, d6, rfl⟩ := hv.shape
        clear hv
        have hb26 := hb4.trans (hb6.mono hb4.size)
        replace k0 := (hb6.cell (p := ⟨bx, 0, none⟩) hsz4).trans k0
        replace k1 := (hb6.cell (p := ⟨bx, 1, none⟩) hsz4).trans k1
        replace k2 := (hb6.cell (p := ⟨bx, 2, none⟩) hsz4).trans k2
        have hsz6 : bx < w6.heap.size := Nat.lt_of_lt_of_le hsz4 hb6.size
        clear hb6 hb4 hsz4
        go_wp2_with fail
        have hb7 := fun c => hb26.alloc hb26.size c
        have hb67 := fun c => (Below.refl w6.heap.size w6).alloc (Nat.le_refl _) c
        replace hb7 := hb7 (.cells #[.bool sg, .slice ao6 n6 c6, .slice bo6 m6 d6] 32)
        replace hb67 := hb67 (.cells #[.bool sg, .slice ao6 n6 c6, .slice bo6 m6 d6] 32)
        replace k0 := (hb67.cell (p := ⟨bx, 0, none⟩) hsz6).trans k0
        replace k1 := (hb67.cell (p := ⟨bx, 1, none⟩) hsz6).trans k1
        replace k2 := (hb67.cell (p := ⟨bx, 2, none⟩) hsz6).trans k2
        generalize hW7 : w6.alloc _ = w7 at k0 k1 k2 hb7 ⊢
        clear hW7 hb67 hb26
        (with_reducible refine (HI.out _).mono ?_); rintro e w8 ⟨rfl, rfl⟩
        have hsub : ∀ p : Nat, ((p + 1 : Nat) : Int) - 1 = (p : Int) := fun p => by omega
        have HCOUNT := Lib.hid hcount
        obtain ⟨kk0, hcases⟩ : 0 ≤ K ∧ K ≤ 2 := by rcases HKK.out with ⟨g, _⟩ | ⟨g, _⟩ | ⟨g, _⟩ | ⟨g, _⟩ <;> omega
        clear kk0 hcases
        cases q with
        | zero =>
          clear hpre hsub
          rcases HKK.out with ⟨rfl, rfl, hz, rfl⟩ | ⟨rfl, rfl, hz, rfl⟩ | ⟨rfl, rfl, hz, rfl⟩ | ⟨rfl, rfl, hz, rfl⟩
          all_goals clear HKK
          case inl =>
            go_wp2_with fail
            (with_reducible refine (HN.out _).mono ?_); rintro e w9 ⟨rfl, rfl⟩
            go_wp2_with fail
            clear hz
            go_quiet (fail)
            have hb8 := below_drewN hb7 nq
            go_wp2_with fail
            go_roundw
            case rel => exact ⟨0 + 1, by omega, by go_num, hb8⟩
            case measure => simp [intOf]; omega
          case inr.inl =>
            have e1 : decide ((100 : Int) < (tx.size : Int)) = false := decide_eq_false (by omega)
            have e2 : decide ((tx.size : Int) ≤ 100) = true := decide_eq_true (by omega)
            go_wp2_with fail
            (with_reducible refine (HN.out _).mono ?_); rintro e w9 ⟨rfl, rfl⟩
            go_wp2_with fail
            clear e1 e2
            go_quiet (fail)
            have hb8 := below_drewN hb7 nq
            go_wp2_with fail
            go_roundw
            case rel => exact ⟨0 + 1, by omega, by go_num, hb8⟩
            case measure => simp [intOf]; omega
          case inr.inr.inl =>
            have e1 : decide ((100 : Int) < (tx.size : Int)) = true := decide_eq_true (by omega)
            have e2 : decide ((tx.size : Int) ≤ 100) = false := decide_eq_false (by omega)
            go_wp2_with fail
            (with_reducible refine (HN.out _).mono ?_); rintro e w9 ⟨rfl, rfl⟩
            go_wp2_with fail
            clear e1 e2
            go_quiet (fail)
            have hb8 := below_drewN hb7 nq
            go_wp2_with fail
            go_roundw
            case rel => exact ⟨0 + 1, by omega, by go_num, hb8⟩
            case measure => simp [intOf]; omega
          case inr.inr.inr =>
            have hz1 : (tx.size : Int) = 1 := by omega
            go_wp2_with fail
            (with_reducible refine (HN.out _).mono ?_); rintro e w9 ⟨rfl, rfl⟩
            go_wp2_with fail
            clear hz1 hz
            go_quiet (fail)
            have hb8 := below_drewN hb7 nq
            go_wp2_with fail
            go_roundw
            case rel => exact ⟨0 + 1, by omega, by go_num, hb8⟩
            case measure => simp [intOf]; omega
        | succ p =>
          obtain ⟨⟨J, ux, ua, ul, uc⟩, U, hlt2⟩ := hpre.out p rfl
          obtain ⟨_, _, e, _, p0, p1, p2, _, _⟩ := (ht2.below hb7).get U.get (by omega)
          cases e
          have up := U.pos; have uf := U.fin
          clear hpre U
          simp only at p0 p1 p2 up uf hlt2
          have HLT := Lib.hid hlt2; clear hlt2
          rcases HKK.out with ⟨rfl, rfl, hz, rfl⟩ | ⟨rfl, rfl, hz, rfl⟩ | ⟨rfl, rfl, hz, rfl⟩ | ⟨rfl, rfl, hz, rfl⟩
          all_goals clear HKK
          case inl =>
            go_wp2_with fail
            (with_reducible refine (HN.out _).mono ?_); rintro e w9 ⟨rfl, rfl⟩
            go_wp2_with fail
            clear hz
            by_cases hJ : J = 2
            · subst hJ
              go_quiet (fail)
              have hb8 := below_drewN hb7 nq
              go_wp2_with fail
              go_roundw
              case rel => exact ⟨p + 1 + 1, by omega, by go_num, hb8⟩
              case measure => simp [intOf]; omega
            · have g1 : (J == 2) = false := by simpa using hJ
              have g3 : (J != 2) = true := by simpa using hJ
              have g4 : decide (J = 2) = false := decide_eq_false hJ
              have g2 : decide (at_ ≤ ua + (ux.size : Int)) = false := decide_eq_false (by have := HLT.out hJ (by decide); omega)
              go_quiet (fail)
              have hb8 := below_drewN hb7 nq
              go_wp2_with fail
              go_roundw
              case rel => exact ⟨p + 1 + 1, by omega, by go_num, hb8⟩
              case measure => simp [intOf]; omega
          case inr.inl =>
            have e1 : decide ((100 : Int) < (tx.size : Int)) = false := decide_eq_false (by omega)
            have e2 : decide ((tx.size : Int) ≤ 100) = true := decide_eq_true (by omega)
            go_wp2_with fail
            (with_reducible refine (HN.out _).mono ?_); rintro e w9 ⟨rfl, rfl⟩
            go_wp2_with fail
            clear e1 e2
            by_cases hJ : J = 2
            · subst hJ
              go_quiet (fail)
              have hb8 := below_drewN hb7 nq
              go_wp2_with fail
              go_roundw
              case rel => exact ⟨p + 1 + 1, by omega, by go_num, hb8⟩
              case measure => simp [intOf]; omega
            · have g1 : (J == 2) = false := by simpa using hJ
              have g3 : (J != 2) = true := by simpa using hJ
              have g4 : decide (J = 2) = false := decide_eq_false hJ
              have g2 : decide (at_ ≤ ua + (ux.size : Int)) = false := decide_eq_false (by have := HLT.out hJ (by decide); omega)
              go_quiet (fail)
              have hb8 := below_drewN hb7 nq
              go_wp2_with fail
              go_roundw
              case rel => exact ⟨p + 1 + 1, by omega, by go_num, hb8⟩
              case measure => simp [intOf]; omega
          case inr.inr.inl =>
            have e1 : decide ((100 : Int) < (tx.size : Int)) = true := decide_eq_true (by omega)
            have e2 : decide ((tx.size : Int) ≤ 100) = false := decide_eq_false (by omega)
            go_wp2_with fail
            (with_reducible refine (HN.out _).mono ?_); rintro e w9 ⟨rfl, rfl⟩
            go_wp2_with fail
            clear e1 e2
            by_cases hJ : J = 2
            · subst hJ
              go_quiet (fail)
              have hb8 := below_drewN hb7 nq
              go_wp2_with fail
              go_roundw
              case rel => exact ⟨p + 1 + 1, by omega, by go_num, hb8⟩
              case measure => simp [intOf]; omega
            · have g1 : (J == 2) = false := by simpa using hJ
              have g3 : (J != 2) = true := by simpa using hJ
              have g4 : decide (J = 2) = false := decide_eq_false hJ
              have g2 : decide (at_ ≤ ua + (ux.size : Int)) = false := decide_eq_false (by have := HLT.out hJ (by decide); omega)
              go_quiet (fail)
              have hb8 := below_drewN hb7 nq
              go_wp2_with fail
              go_roundw
              case rel => exact ⟨p + 1 + 1, by omega, by go_num, hb8⟩
              case measure => simp [intOf]; omega
          case inr.inr.inr =>
            have hz1 : (tx.size : Int) = 1 := by omega
            go_wp2_with fail
            (with_reducible refine (HN.out _).mono ?_); rintro e w9 ⟨rfl, rfl⟩
            go_wp2_with fail
            clear hz1 hz
            go_quiet (fail)
            have hb8 := below_drewN hb7 nq
            go_wp2_with fail
            go_roundw
            case rel => exact ⟨p + 1 + 1, by omega, by go_num, hb8⟩
            case measure => simp [intOf]; omega
      · obtain rfl : q = ts.length := by omega
        have hf : decide ((ts.length : Int) < (ts.length : Int)) = false := decide_eq_false (by omega)
        go_wp2_with fail
        go_ret
        exact ⟨rfl, HB2.out.trans (hbx.mono HB2.out.size)⟩
  · obtain ⟨c, hcc⟩ : ∃ c, c = (splitL (bs s)).2 := ⟨_, rfl⟩
    have hnil := splitL_err hc
    rw [← hcc] at hc
    have HC := Lib.hid hcc; have HN := Lib.hid hnil; clear hcc hnil
    have hev := errV_pos hc
    go_enter Try.func3, Try.ntmps3
    go_wp2_with fail
    (with_reducible refine (tawake_any _).mono ?_); rintro e w1 ⟨rfl, hb1⟩
    go_wp2_with fail
    (with_reducible refine (split_any s _).mono ?_); rintro e w2 ⟨v2, rfl, hb2, ho2⟩
    rw [HN.out] at ho2
    rw [← HC.out, hev]
    obtain ⟨bo, cb, rfl⟩ := ho2.empty
    clear ho2 hev
    go_wp2_with fail
    go_ret
    exact ⟨rfl, hb1.trans (hb2.mono hb1.size)⟩
end Go.Proofs.Ytaefimegiobkmaa
