/-
  What the law leans on, one text behind the other (the rest).
  Conditions: each theorem's own.
-/
import Derived.Test.YthhgfhdmfhnklaaGreatDoorMVc1
set_option maxRecDepth 100000
set_option maxHeartbeats 16000000
namespace Go.Proofs.YthhgfhdmfhnklaaGreatDoor
open Go.RowKit Go.ChangeShapes Go.WideShapes
def RetGw (w : World) (t : Tr) (left : Nat) (e : Ending) (w' : World) : Prop := ∃ v, e = .returned (.tuple #[v, .int .i64 (left : Nat)]) ∧ TrG w' v t ∧ Below w.heap.size w w'
def KGl (t : Tr) (k : Nat) : Value → World → Prop := fun v w => ∃ a, v = .tuple #[a, .int .i64 (k : Nat)] ∧ TrG w a t
theorem kGl (t : Tr) (k : Nat) : MonoF (KGl t k) := fun _ _ _ ⟨a, ha, ht⟩ hb => ⟨a, ha, ht.keep (qbu hb)⟩
theorem rgrow_any (f : Fm) (hfm : qcc f = 0) (ao : Option Addr) (c : Nat) : ∀ (d y n left : Nat) (w : World), d ≤ 24 → FmV w (.agg #[.int .i64 f.vars, .slice ao f.nodes.length c, .int .i64 f.top]) f → okC f.vars.toNat y n → grN f d y n ≤ left → left ≤ 4096 →
  Calls Tryz.prog 45 #[.agg #[.int .i64 f.vars, .slice ao f.nodes.length c, .int .i64 f.top], .agg #[.int .i64 (y : Nat), .int .i64 (n : Nat)], .int .i64 (d : Nat), .int .i64 (left : Nat)] w (RetGw w (grT f d y n) (left - grN f d y n)) := by
 obtain ⟨p0, p1, _, p3⟩ := qbe hfm
 have hV : f.vars.toNat ≤ 24 := by omega
 have HFM := qHd hfm; have HND := qHd p3
 have HP01 := qHd (And.intro p0 p1)
 clear hfm p3 p0 p1
 intro d
 induction d with
 | zero =>
  intro y n left w hd24 hf hok hcn hl4
  obtain ⟨hy24, hn24⟩ := okC_lt24 hok hV
  have HCU := qHd (okC_cube hok HP01.out.1 HP01.out.2)
  have HOK := qHd hok; clear hok
  have HF := qHd hf
  obtain ⟨l1, rfl⟩ : ∃ l1, left = l1 + 1 := ⟨left - 1, by have := grN_pos f 0 y n; omega⟩
  obtain ⟨fv, hfv⟩ : ∃ fv, qco f y n = fv := ⟨_, rfl⟩
  have hfv2 : fv ≤ 2 := by rw [← hfv]; exact fmVal_le HND.out y n
  have FVV := qHd hfv
  obtain ⟨wa, hwa⟩ : ∃ x, x = w.alloc (.cells #[.int .i64 f.vars, .slice ao f.nodes.length c, .int .i64 f.top] 24) := ⟨_, rfl⟩
  obtain ⟨wb, hwb⟩ : ∃ x, x = wa.alloc (.cells #[.int .i64 (y : Nat), .int .i64 (n : Nat)] 46) := ⟨_, rfl⟩
  obtain ⟨W, hW⟩ : ∃ x, x = wb.alloc (.cells #[.int .i64 0, .slice none 0 0, .int .i64 0] 27) := ⟨_, rfl⟩
  have ba : Below w.heap.size w wa := by rw [hwa]; exact qBA _ _
  have bb : Below wa.heap.size wa wb := by rw [hwb]; exact qBA _ _
  have bW : Below wb.heap.size wb W := by rw [hW]; exact qBA _ _
  have sa : wa.heap.size = w.heap.size + 1 := by rw [hwa]; exact Array.size_push (xs := w.heap) _
  have sb : wb.heap.size = w.heap.size + 1 + 1 := by rw [← sa, hwb]; exact Array.size_push (xs := wa.heap) _
  have hg4 : W.heap[w.heap.size]? = some (.cells #[.int .i64 f.vars, .slice ao f.nodes.length c, .int .i64 f.top] 24) := qaa (qaa (by rw [hwa]; exact heap_alloc_new w _) bb) bW
  have hg5 : W.heap[w.heap.size + 1]? = some (.cells #[.int .i64 (y : Nat), .int .i64 (n : Nat)] 46) := qaa (by rw [← sa, hwb]; exact heap_alloc_new wa _) bW
  have hg8 : W.heap[w.heap.size + 1 + 1]? = some (.cells #[.int .i64 0, .slice none 0 0, .int .i64 0] 27) := by rw [← sb, hW]; exact heap_alloc_new wb _
  have HB := qHd (ba.trans ((bb.mono ba.size).trans (bW.mono (Nat.le_trans ba.size bb.size))))
  obtain ⟨g4, hG4⟩ : ∃ g, g = w.heap.size := ⟨_, rfl⟩
  obtain ⟨g5, hG5⟩ : ∃ g, g = w.heap.size + 1 := ⟨_, rfl⟩
  obtain ⟨g8, hG8⟩ : ∃ g, g = w.heap.size + 1 + 1 := ⟨_, rfl⟩
  rw [← hG4] at hg4; rw [← hG5] at hg5; rw [← hG8] at hg8
  have l8 : w.heap.size ≤ g8 := by omega
  have n48 : g4 ≠ g8 := by omega
  have n58 : g5 ≠ g8 := by omega
  have G4 := qHd hg4; have G5 := qHd hg5; have G8 := qHd hg8
  obtain ⟨x0, x1, x2⟩ := qay hg4
  obtain ⟨y0, y1⟩ := qcy hg5
  rw [hW, hwb, hwa, hG4] at x0 x1 x2
  rw [hW, hwb, hwa, hG5] at y0 y1
  have HK := qHd (rvalue_any _ f y n W (HF.out.below HB.out) HFM.out HCU.out)
  rw [hfv] at HK
  clear ba bb bW sa sb hg4 hg5 hg8
  have hl1n : ¬ ((l1 : Nat) : Int) < 0 := by omega
  go_enter Tryz.func45, Tryz.ntmps45
  go_wp2_with (with_reducible refine qad ?_)
  rw [← hwa, ← hwb, ← hW, ← hG8, ← hG5, ← hG4]
  clear hwa hwb hW hG8 hG5 hG4 x0 x1 x2 y0 y1
  refine qap.mk ?_
  (with_reducible refine HK.out.mono ?_); rintro e w2 ⟨rfl, hb2⟩
  have HB := qHd (HB.out.trans (hb2.mono HB.out.size))
  have G4 := qHd (qaa G4.out hb2); have G5 := qHd (qaa G5.out hb2); have G8 := qHd (qaa G8.out hb2)
  clear hb2 HK
  have GL := qHd (grT_leaf0 (d := 0) hfv (.inr rfl))
  by_cases h2 : fv < 2
  ·have h2z : (fv : Int) < 2 := by omega
   go_wp2_with (with_reducible refine qaf ?_)
   refine qan g8 0 [.int .i64 0, .slice none 0 0, .int .i64 (fv : Nat)] G8.out rfl rfl (Nat.le_of_ble_eq_true rfl) (by kernel_rfl) rfl ?_
   intro wz hpz
   have GZ := qHd (show wz.heap[g8]? = some (.cells #[.int .i64 0, .slice none 0 0, .int .i64 (fv : Nat)] 27) by rw [hpz]; exact qbd G8.out)
   have HBz := qHd (qbl hpz HB.out l8)
   clear hpz
   go_wp2_with (with_reducible first | refine qad ?_ | refine qai ?_ | refine qaj ?_ | refine qak ?_ | refine qag ?_)
   refine qcl rfl g8 #[.int .i64 0, .slice none 0 0, .int .i64 (fv : Nat)] rfl GZ.out Tryz.underlying27 rfl (by kernel_rfl) rfl ?_
   rw [GL.out.1, GL.out.2]
   exact ⟨_, rfl, trG_leaf hfv2, HBz.out⟩
  ·have h2z : ¬ (fv : Int) < 2 := by omega
   go_wp2_with (with_reducible refine qaf ?_)
   refine qan g8 0 [.int .i64 0, .slice none 0 0, .int .i64 (fv : Nat)] G8.out rfl rfl (Nat.le_of_ble_eq_true rfl) (by kernel_rfl) rfl ?_
   intro wz hpz
   have GZ := qHd (show wz.heap[g8]? = some (.cells #[.int .i64 0, .slice none 0 0, .int .i64 (fv : Nat)] 27) by rw [hpz]; exact qbd G8.out)
   have HBz := qHd (qbl hpz HB.out l8)
   clear hpz
   go_wp2_with (with_reducible first | refine qad ?_ | refine qai ?_ | refine qaj ?_ | refine qak ?_ | refine qag ?_)
   refine qcl rfl g8 #[.int .i64 0, .slice none 0 0, .int .i64 (fv : Nat)] rfl GZ.out Tryz.underlying27 rfl (by kernel_rfl) rfl ?_
   rw [GL.out.1, GL.out.2]
   exact ⟨_, rfl, trG_leaf hfv2, HBz.out⟩
 | succ d ih =>
  intro y n left w hd24 hf hok hcn hl4
  obtain ⟨hy24, hn24⟩ := okC_lt24 hok hV
  have HCU := qHd (okC_cube hok HP01.out.1 HP01.out.2)
  have HOK := qHd hok; clear hok
  have HF := qHd hf
  obtain ⟨l1, rfl⟩ : ∃ l1, left = l1 + 1 := ⟨left - 1, by have := grN_pos f (d + 1) y n; omega⟩
  obtain ⟨fv, hfv⟩ : ∃ fv, qco f y n = fv := ⟨_, rfl⟩
  have hfv2 : fv ≤ 2 := by rw [← hfv]; exact fmVal_le HND.out y n
  have FVV := qHd hfv
  obtain ⟨wa, hwa⟩ : ∃ x, x = w.alloc (.cells #[.int .i64 f.vars, .slice ao f.nodes.length c, .int .i64 f.top] 24) := ⟨_, rfl⟩
  obtain ⟨wb, hwb⟩ : ∃ x, x = wa.alloc (.cells #[.int .i64 (y : Nat), .int .i64 (n : Nat)] 46) := ⟨_, rfl⟩
  obtain ⟨W, hW⟩ : ∃ x, x = wb.alloc (.cells #[.int .i64 0, .slice none 0 0, .int .i64 0] 27) := ⟨_, rfl⟩
  have ba : Below w.heap.size w wa := by rw [hwa]; exact qBA _ _
  have bb : Below wa.heap.size wa wb := by rw [hwb]; exact qBA _ _
  have bW : Below wb.heap.size wb W := by rw [hW]; exact qBA _ _
  have sa : wa.heap.size = w.heap.size + 1 := by rw [hwa]; exact Array.size_push (xs := w.heap) _
  have sb : wb.heap.size = w.heap.size + 1 + 1 := by rw [← sa, hwb]; exact Array.size_push (xs := wa.heap) _
  have hg4 : W.heap[w.heap.size]? = some (.cells #[.int .i64 f.vars, .slice ao f.nodes.length c, .int .i64 f.top] 24) := qaa (qaa (by rw [hwa]; exact heap_alloc_new w _) bb) bW
  have hg5 : W.heap[w.heap.size + 1]? = some (.cells #[.int .i64 (y : Nat), .int .i64 (n : Nat)] 46) := qaa (by rw [← sa, hwb]; exact heap_alloc_new wa _) bW
  have hg8 : W.heap[w.heap.size + 1 + 1]? = some (.cells #[.int .i64 0, .slice none 0 0, .int .i64 0] 27) := by rw [← sb, hW]; exact heap_alloc_new wb _
  have HB := qHd (ba.trans ((bb.mono ba.size).trans (bW.mono (Nat.le_trans ba.size bb.size))))
  obtain ⟨g4, hG4⟩ : ∃ g, g = w.heap.size := ⟨_, rfl⟩
  obtain ⟨g5, hG5⟩ : ∃ g, g = w.heap.size + 1 := ⟨_, rfl⟩
  obtain ⟨g8, hG8⟩ : ∃ g, g = w.heap.size + 1 + 1 := ⟨_, rfl⟩
  rw [← hG4] at hg4; rw [← hG5] at hg5; rw [← hG8] at hg8
  have l8 : w.heap.size ≤ g8 := by omega
  have n48 : g4 ≠ g8 := by omega
  have n58 : g5 ≠ g8 := by omega
  have G4 := qHd hg4; have G5 := qHd hg5; have G8 := qHd hg8
  obtain ⟨x0, x1, x2⟩ := qay hg4
  obtain ⟨y0, y1⟩ := qcy hg5
  rw [hW, hwb, hwa, hG4] at x0 x1 x2
  rw [hW, hwb, hwa, hG5] at y0 y1
  have HK := qHd (rvalue_any _ f y n W (HF.out.below HB.out) HFM.out HCU.out)
  rw [hfv] at HK
  clear ba bb bW sa sb hg4 hg5 hg8
  have hl1n : ¬ ((l1 : Nat) : Int) < 0 := by omega
  go_enter Tryz.func45, Tryz.ntmps45
  go_wp2_with (with_reducible refine qad ?_)
  rw [← hwa, ← hwb, ← hW, ← hG8, ← hG5, ← hG4]
  clear hwa hwb hW hG8 hG5 hG4 x0 x1 x2 y0 y1
  refine qap.mk ?_
  (with_reducible refine HK.out.mono ?_); rintro e w2 ⟨rfl, hb2⟩
  have HB := qHd (HB.out.trans (hb2.mono HB.out.size))
  have G4 := qHd (qaa G4.out hb2); have G5 := qHd (qaa G5.out hb2); have G8 := qHd (qaa G8.out hb2)
  clear hb2 HK
  by_cases h2 : fv < 2
  ·have GL := qHd (grT_leaf0 (d := d + 1) hfv (.inl (by omega)))
   have h2z : (fv : Int) < 2 := by omega
   go_wp2_with (with_reducible refine qaf ?_)
   refine qan g8 0 [.int .i64 0, .slice none 0 0, .int .i64 (fv : Nat)] G8.out rfl rfl (Nat.le_of_ble_eq_true rfl) (by kernel_rfl) rfl ?_
   intro wz hpz
   have GZ := qHd (show wz.heap[g8]? = some (.cells #[.int .i64 0, .slice none 0 0, .int .i64 (fv : Nat)] 27) by rw [hpz]; exact qbd G8.out)
   have HBz := qHd (qbl hpz HB.out l8)
   clear hpz
   go_wp2_with (with_reducible first | refine qad ?_ | refine qai ?_ | refine qaj ?_ | refine qak ?_ | refine qag ?_)
   refine qcl rfl g8 #[.int .i64 0, .slice none 0 0, .int .i64 (fv : Nat)] rfl GZ.out Tryz.underlying27 rfl (by kernel_rfl) rfl ?_
   rw [GL.out.1, GL.out.2]
   exact ⟨_, rfl, trG_leaf hfv2, HBz.out⟩
  have hfv' : fv = 2 := by omega
  subst hfv'
  have H2 := FVV
  obtain ⟨k1, k2⟩ := fmNext_ok HFM.out H2.out
  obtain ⟨k3, k4⟩ := ev3_open k2
  obtain ⟨x0, x1, x2⟩ := qay G4.out
  obtain ⟨y0, y1⟩ := qcy G5.out
  have HK := qHd (rnext_any _ f y n w2 (HF.out.below HB.out) HFM.out HCU.out H2.out)
  obtain ⟨at_, hat⟩ : ∃ a, a = qcp f y n := ⟨_, rfl⟩
  rw [← hat] at k1 k3 k4 HK
  obtain ⟨P2, hP2⟩ : ∃ P : Nat, P = 2 ^ at_ := ⟨_, rfl⟩
  have hp24 : P2 < 16777216 := by rw [hP2]; exact pow_l24 (by omega)
  have DP := qHd (show IntKind.wrap .i64 (2 ^ at_) = (P2 : Int) by rw [shl_one (by omega), hP2])
  obtain ⟨nb, hnb⟩ : ∃ nb, nb = n ||| 1 <<< at_ := ⟨_, rfl⟩
  obtain ⟨yb, hyb⟩ : ∃ yb, yb = y ||| 1 <<< at_ := ⟨_, rfl⟩
  have hnb3 : nb = n ||| P2 := by rw [hnb, hP2, Nat.one_shiftLeft]
  have hyb3 : yb = y ||| P2 := by rw [hyb, hP2, Nat.one_shiftLeft]
  have DN := qHd (show bits .or .i64 (n : Int) (P2 : Int) = (nb : Int) by rw [bits_or (by omega) (by omega), hnb3])
  have DY := qHd (show bits .or .i64 (y : Int) (P2 : Int) = (yb : Int) by rw [bits_or (by omega) (by omega), hyb3])
  have OKA := qHd (show okC f.vars.toNat y nb by rw [hnb]; exact okC_no HOK.out k1 k3)
  have OKB := qHd (show okC f.vars.toNat yb n by rw [hyb]; exact okC_yes HOK.out k1 k4)
  have GT := qHd (show grT f (d + 1) y n = .mk (at_ : Nat) [grT f d y nb, grT f d yb n] 0 ∧ grN f (d + 1) y n = 1 + grN f d y nb + grN f d yb n by
   simp only [grT, grN]
   rw [if_neg (by rw [H2.out]; decide), if_neg (by rw [H2.out]; decide), ← hat, ← hnb, ← hyb]; exact ⟨rfl, rfl⟩)
  rw [GT.out.2] at hcn
  clear hP2 hnb hyb hnb3 hyb3 k3 k4 hat k2
  obtain ⟨la, hla⟩ : ∃ x, l1 = x + grN f d y nb := ⟨l1 - grN f d y nb, by omega⟩
  obtain ⟨lb, hlb⟩ : ∃ x, la = x + grN f d yb n := ⟨la - grN f d yb n, by omega⟩
  have HLA := qHd hla; have HLB := qHd hlb; have h14 : l1 ≤ 4096 := by omega
  have hla4 : la ≤ 4096 := by omega
  clear hla hlb hcn hl4
  have hdz : ¬ ((d + 1 : Nat) : Int) = 0 := by omega
  have hcnd : (decide (((l1 : Nat) : Int) < 0) || (((d : Nat) : Int) + 1 == 0)) = false := by rw [Bool.or_eq_false_iff]; exact ⟨decide_eq_false (by omega), by rw [beq_eq_false_iff_ne]; omega⟩
  go_wp2_with (with_reducible refine qad ?_)
  clear x0 x1 x2 y0 y1 hdz hcnd
  refine qap.mk ?_
  (with_reducible refine HK.out.mono ?_); rintro e w4 ⟨rfl, hb4⟩
  have HB := qHd (HB.out.trans (hb4.mono HB.out.size))
  have G4 := qHd (qaa G4.out hb4); have G5 := qHd (qaa G5.out hb4); have G8 := qHd (qaa G8.out hb4)
  clear hb4 HK
  have IHA := qHd (fun w1 (hbl : Below w4.heap.size w4 w1) => (show l1 - grN f d y nb = la by have := HLA.out; omega) ▸ ih y nb l1 w1 (by omega) (HF.out.below (HB.out.trans (hbl.mono HB.out.size))) OKA.out (by have := HLA.out; omega) h14)
  go_wp2_with (with_reducible first | refine qad ?_ | refine qai ?_ | refine qaj ?_ | refine qak ?_ | refine qag ?_)
  refine qap.mk ?_
  refine qao (A := ?aaGa) (w := w4) 17 [15] (by kernel_rfl) (Fl [KEq (.agg #[.int .i64 f.vars, .slice ao f.nodes.length c, .int .i64 f.top]), KEq (.pointer (some ⟨g5, 0, none⟩)), KEq (.int .i64 (y : Nat)), KEq (.pointer (some ⟨g5, 1, none⟩)), KEq (.int .i64 (n : Nat)), KEq (.int .i64 (at_ : Nat)), KEq (.int .i64 (P2 : Nat)), KEq (.int .i64 (nb : Nat)), KEq (.agg #[.int .i64 (y : Nat), .int .i64 (nb : Nat)]), KEq (.int .i64 ((d + 1 : Nat) : Int)), KEq (.int .i64 (d : Nat)), KEq (.int .i64 (l1 : Nat)), KGl (grT f d y nb) la, KGl (grT f d y nb) la, KGt (grT f d y nb), KEq (.int .i64 (la : Nat)), KNew w4.heap.size #[.int .i64 0, .slice none 0 0, .int .i64 0] 27]) (fun i => i == 16) (by kernel_rfl) ?hqGa (qcw (qae (kEq _) (qae (kEq _) (qae (kEq _) (qae (kEq _) (qae (kEq _) (qae (kEq _) (qae (kEq _) (qae (kEq _) (qae (kEq _) (qae (kEq _) (qae (kEq _) (qae (kEq _) (qae (kGl _ _) (qae (kGl _ _) (qae (kGt _) (qae (kEq _) (qae (kNew _ _ _) qcv)))))))))))))))))) ?haGa ?stGa ?tlGa
  case hqGa =>
   intro c a d v w h
   first | (simp only [Exit.then] at h ⊢; exact h) | (simp only [Exit.inBlock, Exit.then] at h ⊢; exact h) | exact h
  case haGa =>
   intro vals
   simp only [qba, qcd, if_true, Act.put, List.setIfInBounds_toArray, List.set_cons_zero, List.set_cons_succ, List.getElem?_toArray, List.getElem?_cons_zero, List.getElem?_cons_succ, Option.bind_some]
   exact rfl
  case stGa =>
   simp only [List.take_succ_cons, List.take_zero]
   refine qab rfl rfl ?_ (qab rfl rfl ?_ (qab rfl rfl ?_ (qab rfl rfl ?_ (qab rfl rfl ?_ (qab rfl rfl ?_ (qab rfl rfl ?_ (qab rfl rfl ?_ (qab rfl rfl ?_ (qab rfl rfl ?_ (qab rfl rfl ?_ (qab rfl rfl ?_ (qab rfl rfl ?_ (qab rfl rfl ?_ (qab rfl rfl ?_ (qct rfl ?_ (qab rfl rfl ?_ (qav)))))))))))))))))
   ·intro vals w1 hb hd
    obtain ⟨e0, e1, e2⟩ := qay (qaa G4.out hb)
    refine qSv (.agg #[.int .i64 f.vars, .slice ao f.nodes.length c, .int .i64 f.top]) (by go_simp) (qLk rfl rfl)
   ·intro vals w1 hb hd
    refine qSv (.pointer (some ⟨g5, 0, none⟩)) (by go_simp) (qLk rfl rfl)
   ·intro vals w1 hb hd
    obtain ⟨e0, e1⟩ := qcy (qaa G5.out hb)
    rw [show vals 1 = .pointer (some ⟨g5, 0, none⟩) from hd 1 (by kernel_rfl)]
    refine qSv (.int .i64 (y : Nat)) (by go_simp) (qLk rfl rfl)
   ·intro vals w1 hb hd
    refine qSv (.pointer (some ⟨g5, 1, none⟩)) (by go_simp) (qLk rfl rfl)
   ·intro vals w1 hb hd
    obtain ⟨e0, e1⟩ := qcy (qaa G5.out hb)
    rw [show vals 3 = .pointer (some ⟨g5, 1, none⟩) from hd 3 (by kernel_rfl)]
    refine qSv (.int .i64 (n : Nat)) (by go_simp) (qLk rfl rfl)
   ·intro vals w1 hb hd
    refine qSv (.int .i64 (at_ : Nat)) (by go_simp) (qLk rfl rfl)
   ·intro vals w1 hb hd
    rw [show vals 5 = .int .i64 (at_ : Nat) from hd 5 (by kernel_rfl)]
    refine qSv (.int .i64 (P2 : Nat)) (by go_simp; first | done | exact DP.out) (qLk rfl rfl)
   ·intro vals w1 hb hd
    rw [show vals 4 = .int .i64 (n : Nat) from hd 4 (by kernel_rfl)]
    rw [show vals 6 = .int .i64 (P2 : Nat) from hd 6 (by kernel_rfl)]
    refine qSv (.int .i64 (nb : Nat)) (by go_simp; first | done | exact DN.out) (qLk rfl rfl)
   ·intro vals w1 hb hd
    rw [show vals 2 = .int .i64 (y : Nat) from hd 2 (by kernel_rfl)]
    rw [show vals 7 = .int .i64 (nb : Nat) from hd 7 (by kernel_rfl)]
    refine qSv (.agg #[.int .i64 (y : Nat), .int .i64 (nb : Nat)]) (by go_simp) (qLk rfl rfl)
   ·intro vals w1 hb hd
    refine qSv (.int .i64 ((d + 1 : Nat) : Int)) (by go_simp) (qLk rfl rfl)
   ·intro vals w1 hb hd
    rw [show vals 9 = .int .i64 ((d + 1 : Nat) : Int) from hd 9 (by kernel_rfl)]
    refine qSv (.int .i64 (d : Nat)) (by go_simp; first | done | exact wrap_small ⟨by omega, by omega⟩ | omega) (qLk rfl rfl)
   ·intro vals w1 hb hd
    refine qSv (.int .i64 (l1 : Nat)) (by go_simp) (qLk rfl rfl)
   ·intro vals w1 hb hd
    have d0 : KEq (.agg #[.int .i64 f.vars, .slice ao f.nodes.length c, .int .i64 f.top]) (vals 0) w1 := hd 0 (by kernel_rfl)
    have d8 : KEq (.agg #[.int .i64 (y : Nat), .int .i64 (nb : Nat)]) (vals 8) w1 := hd 8 (by kernel_rfl)
    have d10 : KEq (.int .i64 (d : Nat)) (vals 10) w1 := hd 10 (by kernel_rfl)
    have d11 : KEq (.int .i64 (l1 : Nat)) (vals 11) w1 := hd 11 (by kernel_rfl)
    have HS := qHd (IHA.out w1 hb)
    have z0 : vals 0 = _ := d0
    rw [z0]; clear z0
    have z8 : vals 8 = _ := d8
    rw [z8]; clear z8
    have z10 : vals 10 = _ := d10
    rw [z10]; clear z10
    have z11 : vals 11 = _ := d11
    rw [z11]; clear z11
    refine qat (by go_simp; first | done | exact ⟨⟨rfl, rfl⟩, rfl⟩) ?_
    (with_reducible refine HS.out.mono ?_); rintro e w2 ⟨v, rfl, hv, hb2⟩
    exact ⟨_, rfl, qar hb2 ⟨v, rfl, hv⟩ (fun h => by cases h)⟩
   ·intro vals w1 hb hd
    have d12 : KGl (grT f d y nb) la (vals 12) w1 := hd 12 (by kernel_rfl)
    obtain ⟨v, ev, hv⟩ := d12
    rw [ev]
    refine qaq (v := .tuple #[v, .int .i64 (la : Nat)]) (w' := w1) (by go_simp) (qar (Below.refl _ _) ⟨v, rfl, hv⟩ (fun h => by cases h))
   ·intro vals w1 hb hd
    have d13 : KGl (grT f d y nb) la (vals 13) w1 := hd 13 (by kernel_rfl)
    obtain ⟨v, ev, hv⟩ := d13
    rw [ev]
    refine qaq (v := v) (w' := w1) (by go_simp) (qar (Below.refl _ _) hv (fun h => by cases h))
   ·intro vals w1 hb hd
    have d13 : KGl (grT f d y nb) la (vals 13) w1 := hd 13 (by kernel_rfl)
    obtain ⟨v, ev, hv⟩ := d13
    rw [ev]
    refine qbv (v := .int .i64 (la : Nat)) (fun w => by go_simp) (qLk rfl rfl)
   ·intro vals w1 hb hd
    refine qaq (v := .pointer (some ⟨w1.heap.size, 0, none⟩)) (w' := w1.alloc (.cells #[.int .i64 0, .slice none 0 0, .int .i64 0] 27)) (by go_simp) (qar ((Below.refl _ _).alloc (Nat.le_refl _) _) ⟨_, hb.size, rfl, heap_alloc_new _ _⟩ (fun _ => ⟨rfl, by simp⟩))
  case tlGa =>
   intro vals w5 hb5 hf5 hdis
   simp only [List.drop_succ_cons, List.drop_zero]
   have z15 : vals 15 = _ := hf5 15 (by decide)
   obtain ⟨gA, hgA, ev, hzA⟩ : KNew w4.heap.size #[.int .i64 0, .slice none 0 0, .int .i64 0] 27 (vals 16) w5 := hf5 16 (by decide)
   have hta : TrG w5 (vals 14) (grT f d y nb) := hf5 14 (by decide)
   rw [z15, ev]
   obtain ⟨va, hva⟩ : ∃ u, u = vals 14 := ⟨_, rfl⟩
   rw [← hva] at hta ⊢
   clear z15 ev hf5 hdis hva
   obtain ⟨av, ar, aa, an, ac, rfl⟩ := hta.tr.shape
   go_wp2_with (with_reducible refine qaf ?_)
   refine qan gA 0 [.int .i64 av, .slice aa an ac, .int .i64 ar] hzA rfl rfl (Nat.le_of_ble_eq_true rfl) (by kernel_rfl) rfl ?_
   intro w6 hp6
   have n4A : g4 ≠ gA := by have := qaw G4.out; omega
   have n5A : g5 ≠ gA := by have := qaw G5.out; omega
   have n8A : g8 ≠ gA := by have := qaw G8.out; omega
   have hs4 := HB.out.size
   have G4 := qHd (qbr hp6 (qaa G4.out hb5) n4A); have G5 := qHd (qbr hp6 (qaa G5.out hb5) n5A); have G8 := qHd (qbr hp6 (qaa G8.out hb5) n8A)
   have BA := qHd (show w6.heap[gA]? = some (.cells #[.int .i64 av, .slice aa an ac, .int .i64 ar] 27) by rw [hp6]; exact qbd hzA)
   have HB := qHd (qbl hp6 (HB.out.trans (hb5.mono HB.out.size)) (by omega))
   have TA := qHd (hta.keep (qch hp6 hzA (by simp)))
   clear hp6 hb5 hzA hta
   have IHB := qHd (fun w1 (hbl : Below w6.heap.size w6 w1) => (show la - grN f d yb n = lb by have := HLB.out; omega) ▸ ih yb n la w1 (by omega) (HF.out.below (HB.out.trans (hbl.mono HB.out.size))) OKB.out (by have := HLB.out; omega) hla4)
   go_wp2_with (with_reducible first | refine qad ?_ | refine qai ?_ | refine qaj ?_ | refine qak ?_ | refine qag ?_)
   refine qap.mk ?_
   refine qao (A := ?aaGb) (w := w6) 17 [15] (by kernel_rfl) (Fl [KEq (.agg #[.int .i64 f.vars, .slice ao f.nodes.length c, .int .i64 f.top]), KEq (.pointer (some ⟨g5, 0, none⟩)), KEq (.int .i64 (y : Nat)), KEq (.int .i64 (at_ : Nat)), KEq (.int .i64 (P2 : Nat)), KEq (.int .i64 (yb : Nat)), KEq (.pointer (some ⟨g5, 1, none⟩)), KEq (.int .i64 (n : Nat)), KEq (.agg #[.int .i64 (yb : Nat), .int .i64 (n : Nat)]), KEq (.int .i64 ((d + 1 : Nat) : Int)), KEq (.int .i64 (d : Nat)), KEq (.int .i64 (la : Nat)), KGl (grT f d yb n) lb, KGl (grT f d yb n) lb, KGt (grT f d yb n), KEq (.int .i64 (lb : Nat)), KNew w6.heap.size #[.int .i64 0, .slice none 0 0, .int .i64 0] 27]) (fun i => i == 16) (by kernel_rfl) ?hqGb (qcw (qae (kEq _) (qae (kEq _) (qae (kEq _) (qae (kEq _) (qae (kEq _) (qae (kEq _) (qae (kEq _) (qae (kEq _) (qae (kEq _) (qae (kEq _) (qae (kEq _) (qae (kEq _) (qae (kGl _ _) (qae (kGl _ _) (qae (kGt _) (qae (kEq _) (qae (kNew _ _ _) qcv)))))))))))))))))) ?haGb ?stGb ?tlGb
   case hqGb =>
    intro c a d v w h
    first | (simp only [Exit.then] at h ⊢; exact h) | (simp only [Exit.inBlock, Exit.then] at h ⊢; exact h) | exact h
   case haGb =>
    intro vals
    simp only [qba, qcd, if_true, Act.put, List.setIfInBounds_toArray, List.set_cons_zero, List.set_cons_succ, List.getElem?_toArray, List.getElem?_cons_zero, List.getElem?_cons_succ, Option.bind_some]
    exact rfl
   case stGb =>
    simp only [List.take_succ_cons, List.take_zero]
    refine qab rfl rfl ?_ (qab rfl rfl ?_ (qab rfl rfl ?_ (qab rfl rfl ?_ (qab rfl rfl ?_ (qab rfl rfl ?_ (qab rfl rfl ?_ (qab rfl rfl ?_ (qab rfl rfl ?_ (qab rfl rfl ?_ (qab rfl rfl ?_ (qab rfl rfl ?_ (qab rfl rfl ?_ (qab rfl rfl ?_ (qab rfl rfl ?_ (qct rfl ?_ (qab rfl rfl ?_ (qav)))))))))))))))))
    ·intro vals w1 hb hd
     obtain ⟨e0, e1, e2⟩ := qay (qaa G4.out hb)
     refine qSv (.agg #[.int .i64 f.vars, .slice ao f.nodes.length c, .int .i64 f.top]) (by go_simp) (qLk rfl rfl)
    ·intro vals w1 hb hd
     refine qSv (.pointer (some ⟨g5, 0, none⟩)) (by go_simp) (qLk rfl rfl)
    ·intro vals w1 hb hd
     obtain ⟨e0, e1⟩ := qcy (qaa G5.out hb)
     rw [show vals 1 = .pointer (some ⟨g5, 0, none⟩) from hd 1 (by kernel_rfl)]
     refine qSv (.int .i64 (y : Nat)) (by go_simp) (qLk rfl rfl)
    ·intro vals w1 hb hd
     refine qSv (.int .i64 (at_ : Nat)) (by go_simp) (qLk rfl rfl)
    ·intro vals w1 hb hd
     rw [show vals 3 = .int .i64 (at_ : Nat) from hd 3 (by kernel_rfl)]
     refine qSv (.int .i64 (P2 : Nat)) (by go_simp; first | done | exact DP.out) (qLk rfl rfl)
    ·intro vals w1 hb hd
     rw [show vals 2 = .int .i64 (y : Nat) from hd 2 (by kernel_rfl)]
     rw [show vals 4 = .int .i64 (P2 : Nat) from hd 4 (by kernel_rfl)]
     refine qSv (.int .i64 (yb : Nat)) (by go_simp; first | done | exact DY.out) (qLk rfl rfl)
    ·intro vals w1 hb hd
     refine qSv (.pointer (some ⟨g5, 1, none⟩)) (by go_simp) (qLk rfl rfl)
    ·intro vals w1 hb hd
     obtain ⟨e0, e1⟩ := qcy (qaa G5.out hb)
     rw [show vals 6 = .pointer (some ⟨g5, 1, none⟩) from hd 6 (by kernel_rfl)]
     refine qSv (.int .i64 (n : Nat)) (by go_simp) (qLk rfl rfl)
    ·intro vals w1 hb hd
     rw [show vals 5 = .int .i64 (yb : Nat) from hd 5 (by kernel_rfl)]
     rw [show vals 7 = .int .i64 (n : Nat) from hd 7 (by kernel_rfl)]
     refine qSv (.agg #[.int .i64 (yb : Nat), .int .i64 (n : Nat)]) (by go_simp) (qLk rfl rfl)
    ·intro vals w1 hb hd
     refine qSv (.int .i64 ((d + 1 : Nat) : Int)) (by go_simp) (qLk rfl rfl)
    ·intro vals w1 hb hd
     rw [show vals 9 = .int .i64 ((d + 1 : Nat) : Int) from hd 9 (by kernel_rfl)]
     refine qSv (.int .i64 (d : Nat)) (by go_simp; first | done | exact wrap_small ⟨by omega, by omega⟩ | omega) (qLk rfl rfl)
    ·intro vals w1 hb hd
     refine qSv (.int .i64 (la : Nat)) (by go_simp) (qLk rfl rfl)
    ·intro vals w1 hb hd
     have d0 : KEq (.agg #[.int .i64 f.vars, .slice ao f.nodes.length c, .int .i64 f.top]) (vals 0) w1 := hd 0 (by kernel_rfl)
     have d8 : KEq (.agg #[.int .i64 (yb : Nat), .int .i64 (n : Nat)]) (vals 8) w1 := hd 8 (by kernel_rfl)
     have d10 : KEq (.int .i64 (d : Nat)) (vals 10) w1 := hd 10 (by kernel_rfl)
     have d11 : KEq (.int .i64 (la : Nat)) (vals 11) w1 := hd 11 (by kernel_rfl)
     have HS := qHd (IHB.out w1 hb)
     have z0 : vals 0 = _ := d0
     rw [z0]; clear z0
     have z8 : vals 8 = _ := d8
     rw [z8]; clear z8
     have z10 : vals 10 = _ := d10
     rw [z10]; clear z10
     have z11 : vals 11 = _ := d11
     rw [z11]; clear z11
     refine qat (by go_simp; first | done | exact ⟨⟨rfl, rfl⟩, rfl⟩) ?_
     (with_reducible refine HS.out.mono ?_); rintro e w2 ⟨v, rfl, hv, hb2⟩
     exact ⟨_, rfl, qar hb2 ⟨v, rfl, hv⟩ (fun h => by cases h)⟩
    ·intro vals w1 hb hd
     have d12 : KGl (grT f d yb n) lb (vals 12) w1 := hd 12 (by kernel_rfl)
     obtain ⟨v, ev, hv⟩ := d12
     rw [ev]
     refine qaq (v := .tuple #[v, .int .i64 (lb : Nat)]) (w' := w1) (by go_simp) (qar (Below.refl _ _) ⟨v, rfl, hv⟩ (fun h => by cases h))
    ·intro vals w1 hb hd
     have d13 : KGl (grT f d yb n) lb (vals 13) w1 := hd 13 (by kernel_rfl)
     obtain ⟨v, ev, hv⟩ := d13
     rw [ev]
     refine qaq (v := v) (w' := w1) (by go_simp) (qar (Below.refl _ _) hv (fun h => by cases h))
    ·intro vals w1 hb hd
     have d13 : KGl (grT f d yb n) lb (vals 13) w1 := hd 13 (by kernel_rfl)
     obtain ⟨v, ev, hv⟩ := d13
     rw [ev]
     refine qbv (v := .int .i64 (lb : Nat)) (fun w => by go_simp) (qLk rfl rfl)
    ·intro vals w1 hb hd
     refine qaq (v := .pointer (some ⟨w1.heap.size, 0, none⟩)) (w' := w1.alloc (.cells #[.int .i64 0, .slice none 0 0, .int .i64 0] 27)) (by go_simp) (qar ((Below.refl _ _).alloc (Nat.le_refl _) _) ⟨_, hb.size, rfl, heap_alloc_new _ _⟩ (fun _ => ⟨rfl, by simp⟩))
   case tlGb =>
    intro vals w7 hb7 hf7 hdis
    simp only [List.drop_succ_cons, List.drop_zero]
    have z15 : vals 15 = _ := hf7 15 (by decide)
    obtain ⟨gC, hgC, ev, hzC⟩ : KNew w6.heap.size #[.int .i64 0, .slice none 0 0, .int .i64 0] 27 (vals 16) w7 := hf7 16 (by decide)
    have htb : TrG w7 (vals 14) (grT f d yb n) := hf7 14 (by decide)
    rw [z15, ev]
    obtain ⟨vb, hvb⟩ : ∃ u, u = vals 14 := ⟨_, rfl⟩
    rw [← hvb] at htb ⊢
    clear z15 ev hf7 hdis hvb
    obtain ⟨bv, br, ba, bn, bc, rfl⟩ := htb.tr.shape
    go_wp2_with (with_reducible refine qaf ?_)
    refine qan gC 0 [.int .i64 bv, .slice ba bn bc, .int .i64 br] hzC rfl rfl (Nat.le_of_ble_eq_true rfl) (by kernel_rfl) rfl ?_
    intro w8 hp8
    have n8C : g8 ≠ gC := by have := qaw G8.out; omega
    have nAC : gA ≠ gC := by have := qaw BA.out; omega
    have hs6 := HB.out.size
    have TA := qHd ((TA.out.keep (qbu hb7)).keep (qch hp8 hzC (by simp))); have TB := qHd (htb.keep (qch hp8 hzC (by simp)))
    have G8 := qHd (qbr hp8 (qaa G8.out hb7) n8C); have BA := qHd (qbr hp8 (qaa BA.out hb7) nAC)
    have BC := qHd (show w8.heap[gC]? = some (.cells #[.int .i64 bv, .slice ba bn bc, .int .i64 br] 27) by rw [hp8]; exact qbd hzC)
    have HB := qHd (qbl hp8 (HB.out.trans (hb7.mono HB.out.size)) (by omega))
    clear hp8 hb7 hzC htb
    obtain ⟨w9, hw9, hb9, g9, hG9, hg9⟩ := qBx5 w8 (.cells #[.int .i64 av, .slice aa an ac, .int .i64 ar, .int .i64 bv, .slice ba bn bc, .int .i64 br] 27)
    have n98 : g9 ≠ g8 := by have := qaw G8.out; omega
    obtain ⟨a0, a1, a2⟩ := qay BA.out
    obtain ⟨c0, c1, c2⟩ := qay BC.out
    go_wp2_with (with_reducible refine qaf ?_)
    rw [← hw9, ← hG9]
    clear hw9 hG9 a0 a1 a2 c0 c1 c2
    refine qan g8 0 [.int .i64 (at_ : Nat), .slice (some ⟨g9, 0, none⟩) 2 2, .int .i64 0] (qaa G8.out hb9) rfl rfl (Nat.le_of_ble_eq_true rfl) (by kernel_rfl) rfl ?_
    intro wz hpz
    have GZ := qHd (show wz.heap[g8]? = some (.cells #[.int .i64 (at_ : Nat), .slice (some ⟨g9, 0, none⟩) 2 2, .int .i64 0] 27) by rw [hpz]; exact qbd (qaa G8.out hb9))
    have G9z := qHd (qbr hpz hg9 n98)
    have KZ := keep6_trans (qbu hb9) (qch hpz (qaa G8.out hb9) (by simp)); have TAz := qHd (TA.out.keep KZ); have TBz := qHd (TB.out.keep KZ); clear KZ
    have HBz := qHd (qbl hpz (HB.out.trans (hb9.mono HB.out.size)) l8)
    clear hpz hg9 hb9
    go_wp2_with (with_reducible first | refine qad ?_ | refine qai ?_ | refine qaj ?_ | refine qak ?_ | refine qag ?_)
    refine qcl rfl g8 #[.int .i64 (at_ : Nat), .slice (some ⟨g9, 0, none⟩) 2 2, .int .i64 0] rfl GZ.out Tryz.underlying27 rfl (by kernel_rfl) rfl ?_
    rw [GT.out.1, GT.out.2, show l1 + 1 - (1 + grN f d y nb + grN f d yb n) = lb by have := HLA.out; have := HLB.out; omega]
    exact ⟨_, rfl, fun w2 h2 => trV_node (by rw [h2 g9 _ G9z.out rfl]; exact G9z.out) (TAz.out w2 h2) (TBz.out w2 h2) ⟨by omega, by omega⟩ ⟨by decide, by decide⟩, HBz.out⟩
def RetMkN (w : World) (t : Tr) (er : Nat) (e : Ending) (w' : World) : Prop := ∃ v, e = .returned (.tuple #[v, .int .i64 (er : Nat)]) ∧ Below w.heap.size w w' ∧ TrV w' v t
def RetLfO (w : World) (L : List Lf) (e : Ending) (w' : World) : Prop := ∃ v', e = .returned v' ∧ Below w.heap.size w w' ∧ w'.ownsRow w.heap.size 48 3 v' L.length (qdi L)

theorem rbelow_any (V : Nat) (hV : V ≤ 24) : ∀ (N : Nat) (t : Tr), SizeOf.sizeOf t < N → ∀ (x : Value) (y n above : Nat) (w : World), TrV w x t → qej V t above → y < 16777216 → n < 16777216 → qdo t ≤ 1000000 →
  Calls Tryz.prog 78 #[x, .agg #[.int .i64 (y : Nat), .int .i64 (n : Nat)]] w (RetLfO w (qah t y n))
 | 0, _, h, _, _, _, _, _, _, _, _, _, _ => by omega
 | N + 1, .mk vv0 [] r, hN, x, y, n, above, w, ht, hok, hy, hn, hlen => by
  obtain ⟨ao, c, rfl, hks, hc1, hc2, hv, hr⟩ := ht.open
  simp only [List.length_nil] at hks hc1 ⊢
  obtain ⟨W, hW, hbW, hB1, hB2⟩ := qBx2 w (.cells #[.int .i64 vv0, .slice ao 0 c, .int .i64 r] 27) (.cells #[.int .i64 (y : Nat), .int .i64 (n : Nat)] 46)
  obtain ⟨b1, hb1⟩ : ∃ g, g = w.heap.size := ⟨_, rfl⟩
  obtain ⟨b2, hb2⟩ : ∃ g, g = w.heap.size + 1 := ⟨_, rfl⟩
  rw [← hb1] at hB1; rw [← hb2] at hB2
  have ho := World.ownsRow_lit (base := w.heap.size) (size := 3) (e := 48) W #[.int .i64 (y : Nat), .int .i64 (n : Nat), .int .i64 r] 1 hbW.size (by decide) rfl
  rw [show W.heap.size = w.heap.size + 1 + 1 by rw [hW]; simp] at ho
  have hb3 : Below w.heap.size w (W.alloc (.cells #[.int .i64 (y : Nat), .int .i64 (n : Nat), .int .i64 r] 48)) := hbW.alloc hbW.size _
  have HO := qHd ho; have HB3 := qHd hb3
  obtain ⟨x0, x1, x2⟩ := qay hB1
  clear ho hb3 hB1 hB2 hbW hks ht hok hb1 hb2
  rw [hW] at x0 x1 x2
  go_enter Tryz.func78, Tryz.ntmps78
  go_wp2_with fail
  clear x0 x1 x2
  go_ret
  exact ⟨_, rfl, by rw [hW] at HB3; exact HB3.out, by rw [show qah (.mk vv0 [] r) y n = [⟨y, n, r⟩] by simp [qah], lfCells_one]; rw [hW] at HO; exact HO.out⟩
 | N + 1, .mk v0 [a, b] r, hN, x, y, n, above, w, ht, hok, hy, hn, hlen => by
  simp only [qej] at hok
  obtain ⟨q0, q1, q2, rfl, hoa, hob⟩ := hok
  obtain ⟨vn, rfl⟩ : ∃ vn : Nat, v0 = vn := ⟨v0.toNat, by omega⟩
  rw [Int.toNat_natCast] at hoa hob
  have hvn : vn < V := by omega
  obtain ⟨ao, c, rfl, hks, hc1, hc2, _, _⟩ := ht.open
  simp only [List.length_cons, List.length_nil] at hks hc1 ⊢
  obtain ⟨bk, ok, rfl, hbk, hjk, hat⟩ := hks.at (by decide); clear hjk hks ht
  obtain ⟨kva, kra, kaa, kna, kca, ca0, ca1, ca2, hTVa⟩ := (hat 0 a rfl).val
  obtain ⟨kvb, krb, kab, knb, kcb, cb0, cb1, cb2, hTVb⟩ := (hat 1 b rfl).val
  simp only [Nat.zero_mul, Nat.add_zero, Nat.one_mul] at ca0 ca1 ca2 cb0 cb1 cb2
  have hsa : SizeOf.sizeOf a < N := by have := qcj (v := (vn : Int)) (r := 0) (ks := [a, b]) (k := a) (by simp); omega
  have hsb : SizeOf.sizeOf b < N := by have := qcj (v := (vn : Int)) (r := 0) (ks := [a, b]) (k := b) (by simp); omega
  have KA := qHd (And.intro ca0 (And.intro ca1 ca2)); have KB := qHd (And.intro cb0 (And.intro cb1 cb2))
  have HTA := qHd hTVa; have HTB := qHd hTVb; have HSA := qHd hsa; have HSB := qHd hsb; have HOA := qHd hoa; have HOB := qHd hob
  clear ca0 ca1 ca2 cb0 cb1 cb2 hat hTVa hTVb hsa hsb hoa hob q0 q1 q2
  obtain ⟨P2, hP2⟩ : ∃ P : Nat, P = 2 ^ vn := ⟨_, rfl⟩
  have hp24 : P2 < 16777216 := by rw [hP2]; exact pow_l24 (by omega)
  have DP := qHd (show IntKind.wrap .i64 (2 ^ vn) = (P2 : Int) by rw [shl_one (by omega), hP2])
  obtain ⟨nb, hnb⟩ : ∃ nb, nb = n ||| 1 <<< vn := ⟨_, rfl⟩
  obtain ⟨yb, hyb⟩ : ∃ yb, yb = y ||| 1 <<< vn := ⟨_, rfl⟩
  have hnb3 : nb = n ||| P2 := by rw [hnb, hP2, Nat.one_shiftLeft]
  have hyb3 : yb = y ||| P2 := by rw [hyb, hP2, Nat.one_shiftLeft]
  have HNB := qHd (show nb < 16777216 by rw [hnb3]; exact Nat.or_lt_two_pow (n := 24) (by omega) (by omega))
  have HYB := qHd (show yb < 16777216 by rw [hyb3]; exact Nat.or_lt_two_pow (n := 24) (by omega) (by omega))
  have DN := qHd (show bits .or .i64 (n : Int) (P2 : Int) = (nb : Int) by rw [bits_or (by omega) (by omega), hnb3])
  have DY := qHd (show bits .or .i64 (y : Int) (P2 : Int) = (yb : Int) by rw [bits_or (by omega) (by omega), hyb3])
  have TL := qHd (show qah (.mk (vn : Nat) [a, b] 0) y n = qah a y nb ++ qah b yb n by rw [hnb, hyb]; rfl)
  clear hP2 hnb hyb hnb3 hyb3
  simp only [qdo] at hlen
  obtain ⟨W, hW, hbW, hB1, hB2⟩ := qBx2 w (.cells #[.int .i64 vn, .slice (some ⟨bk, ok, none⟩) 2 c, .int .i64 0] 27) (.cells #[.int .i64 (y : Nat), .int .i64 (n : Nat)] 46)
  obtain ⟨b1, hb1⟩ : ∃ g, g = w.heap.size := ⟨_, rfl⟩
  obtain ⟨b2, hb2⟩ : ∃ g, g = w.heap.size + 1 := ⟨_, rfl⟩
  rw [← hb1] at hB1; rw [← hb2] at hB2
  have HB := qHd hbW; have B1 := qHd hB1; have B2 := qHd hB2
  clear hbW hB1 hB2
  obtain ⟨x0, x1, x2⟩ := qay B1.out
  rw [hW, hb1] at x0 x1 x2
  go_enter Tryz.func78, Tryz.ntmps78
  go_wp2_with (with_reducible first | refine qad ?_ | refine qai ?_ | refine qaj ?_ | refine qak ?_ | refine qag ?_)
  rw [← hW, ← hb2, ← hb1]
  clear hW hb1 hb2 x0 x1 x2
  refine qap.mk ?_
  refine qao (A := ?aa3) (w := W) 13 [] (by kernel_rfl) (Fl [KEq (.pointer (some ⟨b1, 1, none⟩)), KEq (.slice (some ⟨bk, ok, none⟩) 2 c), KEq (.pointer (some ⟨bk, ok, none⟩)), KEq (.agg #[.int .i64 kva, .slice kaa kna kca, .int .i64 kra]), KEq (.pointer (some ⟨b2, 0, none⟩)), KEq (.int .i64 (y : Nat)), KEq (.pointer (some ⟨b2, 1, none⟩)), KEq (.int .i64 (n : Nat)), KEq (.pointer (some ⟨b1, 0, none⟩)), KEq (.int .i64 (vn : Nat)), KEq (.int .i64 (P2 : Nat)), KEq (.int .i64 (nb : Nat)), KEq (.agg #[.int .i64 (y : Nat), .int .i64 (nb : Nat)])]) (fun i => false) (by kernel_rfl) ?hq3 (qcw (qae (kEq _) (qae (kEq _) (qae (kEq _) (qae (kEq _) (qae (kEq _) (qae (kEq _) (qae (kEq _) (qae (kEq _) (qae (kEq _) (qae (kEq _) (qae (kEq _) (qae (kEq _) (qae (kEq _) qcv)))))))))))))) ?ha3 ?st3 ?tl3
  case hq3 =>
   intro c a d v w h
   first | (simp only [Exit.then] at h ⊢; exact h) | (simp only [Exit.inBlock, Exit.then] at h ⊢; exact h) | exact h
  case ha3 =>
   intro vals
   simp only [qba, qcd, if_true, Act.put, List.setIfInBounds_toArray, List.set_cons_zero, List.set_cons_succ, List.getElem?_toArray, List.getElem?_cons_zero, List.getElem?_cons_succ, Option.bind_some]
   exact rfl
  case st3 =>
   simp only [List.take_succ_cons, List.take_zero]
   refine qab rfl rfl ?_ (qab rfl rfl ?_ (qab rfl rfl ?_ (qab rfl rfl ?_ (qab rfl rfl ?_ (qab rfl rfl ?_ (qab rfl rfl ?_ (qab rfl rfl ?_ (qab rfl rfl ?_ (qab rfl rfl ?_ (qab rfl rfl ?_ (qab rfl rfl ?_ (qab rfl rfl ?_ (qav)))))))))))))
   ·intro vals w1 hb hd
    refine qSv (.pointer (some ⟨b1, 1, none⟩)) (by go_simp) (qLk rfl rfl)
   ·intro vals w1 hb hd
    obtain ⟨e0, e1, e2⟩ := qay (qaa B1.out hb)
    rw [show vals 0 = .pointer (some ⟨b1, 1, none⟩) from hd 0 (by kernel_rfl)]
    refine qSv (.slice (some ⟨bk, ok, none⟩) 2 c) (by go_simp) (qLk rfl rfl)
   ·intro vals w1 hb hd
    rw [show vals 1 = .slice (some ⟨bk, ok, none⟩) 2 c from hd 1 (by kernel_rfl)]
    refine qSv (.pointer (some ⟨bk, ok, none⟩)) (by go_simp) (qLk rfl rfl)
   ·intro vals w1 hb hd
    have hbx := HB.out.trans (hb.mono HB.out.size)
    have k0 := (hbx.cell (p := ⟨bk, _, none⟩) hbk).trans KA.out.1
    have k1 := (hbx.cell (p := ⟨bk, _, none⟩) hbk).trans KA.out.2.1
    have k2 := (hbx.cell (p := ⟨bk, _, none⟩) hbk).trans KA.out.2.2
    rw [show vals 2 = .pointer (some ⟨bk, ok, none⟩) from hd 2 (by kernel_rfl)]
    refine qSv (.agg #[.int .i64 kva, .slice kaa kna kca, .int .i64 kra]) (by go_simp) (qLk rfl rfl)
   ·intro vals w1 hb hd
    refine qSv (.pointer (some ⟨b2, 0, none⟩)) (by go_simp) (qLk rfl rfl)
   ·intro vals w1 hb hd
    obtain ⟨e0, e1⟩ := qcy (qaa B2.out hb)
    rw [show vals 4 = .pointer (some ⟨b2, 0, none⟩) from hd 4 (by kernel_rfl)]
    refine qSv (.int .i64 (y : Nat)) (by go_simp) (qLk rfl rfl)
   ·intro vals w1 hb hd
    refine qSv (.pointer (some ⟨b2, 1, none⟩)) (by go_simp) (qLk rfl rfl)
   ·intro vals w1 hb hd
    obtain ⟨e0, e1⟩ := qcy (qaa B2.out hb)
    rw [show vals 6 = .pointer (some ⟨b2, 1, none⟩) from hd 6 (by kernel_rfl)]
    refine qSv (.int .i64 (n : Nat)) (by go_simp) (qLk rfl rfl)
   ·intro vals w1 hb hd
    refine qSv (.pointer (some ⟨b1, 0, none⟩)) (by go_simp) (qLk rfl rfl)
   ·intro vals w1 hb hd
    obtain ⟨e0, e1, e2⟩ := qay (qaa B1.out hb)
    rw [show vals 8 = .pointer (some ⟨b1, 0, none⟩) from hd 8 (by kernel_rfl)]
    refine qSv (.int .i64 (vn : Nat)) (by go_simp) (qLk rfl rfl)
   ·intro vals w1 hb hd
    rw [show vals 9 = .int .i64 (vn : Nat) from hd 9 (by kernel_rfl)]
    refine qSv (.int .i64 (P2 : Nat)) (by go_simp; first | done | exact DP.out) (qLk rfl rfl)
   ·intro vals w1 hb hd
    rw [show vals 7 = .int .i64 (n : Nat) from hd 7 (by kernel_rfl)]
    rw [show vals 10 = .int .i64 (P2 : Nat) from hd 10 (by kernel_rfl)]
    refine qSv (.int .i64 (nb : Nat)) (by go_simp; first | done | exact DN.out) (qLk rfl rfl)
   ·intro vals w1 hb hd
    rw [show vals 5 = .int .i64 (y : Nat) from hd 5 (by kernel_rfl)]
    rw [show vals 11 = .int .i64 (nb : Nat) from hd 11 (by kernel_rfl)]
    refine qSv (.agg #[.int .i64 (y : Nat), .int .i64 (nb : Nat)]) (by go_simp) (qLk rfl rfl)
  case tl3 =>
   intro vals w2 hb2 hf hdis
   simp only [List.drop_succ_cons, List.drop_zero]
   have z3 : vals 3 = _ := hf 3 (by decide)
   have z12 : vals 12 = _ := hf 12 (by decide)
   rw [z3, z12]
   clear z3 z12 hf hdis
   have HB := qHd (HB.out.trans (hb2.mono HB.out.size)); have B1 := qHd (qaa B1.out hb2); have B2 := qHd (qaa B2.out hb2)
   clear hb2
   have HK := qHd (rbelow_any V hV N a HSA.out _ y nb _ w2 (HTA.out.below HB.out) HOA.out hy HNB.out (by omega))
   go_wp2_with (with_reducible refine qad ?_)
   refine qap.mk ?_
   (with_reducible refine HK.out.mono ?_); rintro e w3 ⟨v1, rfl, hb3, ho1⟩
   have HO := qHd (own_base ho1 HB.out.size)
   have HB := qHd (HB.out.trans (hb3.mono HB.out.size)); have B1 := qHd (qaa B1.out hb3); have B2 := qHd (qaa B2.out hb3)
   clear ho1 hb3 HK
   go_wp2_with (with_reducible first | refine qad ?_ | refine qai ?_ | refine qaj ?_ | refine qak ?_ | refine qag ?_)
   refine qap.mk ?_
   refine qao (A := ?aa4) (w := w3) 13 [] (by kernel_rfl) (Fl [KEq (.pointer (some ⟨b1, 1, none⟩)), KEq (.slice (some ⟨bk, ok, none⟩) 2 c), KEq (.pointer (some ⟨bk, ok + 3, none⟩)), KEq (.agg #[.int .i64 kvb, .slice kab knb kcb, .int .i64 krb]), KEq (.pointer (some ⟨b2, 0, none⟩)), KEq (.int .i64 (y : Nat)), KEq (.pointer (some ⟨b1, 0, none⟩)), KEq (.int .i64 (vn : Nat)), KEq (.int .i64 (P2 : Nat)), KEq (.int .i64 (yb : Nat)), KEq (.pointer (some ⟨b2, 1, none⟩)), KEq (.int .i64 (n : Nat)), KEq (.agg #[.int .i64 (yb : Nat), .int .i64 (n : Nat)])]) (fun i => false) (by kernel_rfl) ?hq4 (qcw (qae (kEq _) (qae (kEq _) (qae (kEq _) (qae (kEq _) (qae (kEq _) (qae (kEq _) (qae (kEq _) (qae (kEq _) (qae (kEq _) (qae (kEq _) (qae (kEq _) (qae (kEq _) (qae (kEq _) qcv)))))))))))))) ?ha4 ?st4 ?tl4
   case hq4 =>
    intro c a d v w h
    first | (simp only [Exit.then] at h ⊢; exact h) | (simp only [Exit.inBlock, Exit.then] at h ⊢; exact h) | exact h
   case ha4 =>
    intro vals
    simp only [qba, qcd, if_true, Act.put, List.setIfInBounds_toArray, List.set_cons_zero, List.set_cons_succ, List.getElem?_toArray, List.getElem?_cons_zero, List.getElem?_cons_succ, Option.bind_some]
    exact rfl
   case st4 =>
    simp only [List.take_succ_cons, List.take_zero]
    refine qab rfl rfl ?_ (qab rfl rfl ?_ (qab rfl rfl ?_ (qab rfl rfl ?_ (qab rfl rfl ?_ (qab rfl rfl ?_ (qab rfl rfl ?_ (qab rfl rfl ?_ (qab rfl rfl ?_ (qab rfl rfl ?_ (qab rfl rfl ?_ (qab rfl rfl ?_ (qab rfl rfl ?_ (qav)))))))))))))
    ·intro vals w1 hb hd
     refine qSv (.pointer (some ⟨b1, 1, none⟩)) (by go_simp) (qLk rfl rfl)
    ·intro vals w1 hb hd
     obtain ⟨e0, e1, e2⟩ := qay (qaa B1.out hb)
     rw [show vals 0 = .pointer (some ⟨b1, 1, none⟩) from hd 0 (by kernel_rfl)]
     refine qSv (.slice (some ⟨bk, ok, none⟩) 2 c) (by go_simp) (qLk rfl rfl)
    ·intro vals w1 hb hd
     rw [show vals 1 = .slice (some ⟨bk, ok, none⟩) 2 c from hd 1 (by kernel_rfl)]
     refine qSv (.pointer (some ⟨bk, ok + 3, none⟩)) (by go_simp) (qLk rfl rfl)
    ·intro vals w1 hb hd
     have hbx := HB.out.trans (hb.mono HB.out.size)
     have k0 := (hbx.cell (p := ⟨bk, _, none⟩) hbk).trans KB.out.1
     have k1 := (hbx.cell (p := ⟨bk, _, none⟩) hbk).trans KB.out.2.1
     have k2 := (hbx.cell (p := ⟨bk, _, none⟩) hbk).trans KB.out.2.2
     rw [show vals 2 = .pointer (some ⟨bk, ok + 3, none⟩) from hd 2 (by kernel_rfl)]
     refine qSv (.agg #[.int .i64 kvb, .slice kab knb kcb, .int .i64 krb]) (by go_simp) (qLk rfl rfl)
    ·intro vals w1 hb hd
     refine qSv (.pointer (some ⟨b2, 0, none⟩)) (by go_simp) (qLk rfl rfl)
    ·intro vals w1 hb hd
     obtain ⟨e0, e1⟩ := qcy (qaa B2.out hb)
     rw [show vals 4 = .pointer (some ⟨b2, 0, none⟩) from hd 4 (by kernel_rfl)]
     refine qSv (.int .i64 (y : Nat)) (by go_simp) (qLk rfl rfl)
    ·intro vals w1 hb hd
     refine qSv (.pointer (some ⟨b1, 0, none⟩)) (by go_simp) (qLk rfl rfl)
    ·intro vals w1 hb hd
     obtain ⟨e0, e1, e2⟩ := qay (qaa B1.out hb)
     rw [show vals 6 = .pointer (some ⟨b1, 0, none⟩) from hd 6 (by kernel_rfl)]
     refine qSv (.int .i64 (vn : Nat)) (by go_simp) (qLk rfl rfl)
    ·intro vals w1 hb hd
     rw [show vals 7 = .int .i64 (vn : Nat) from hd 7 (by kernel_rfl)]
     refine qSv (.int .i64 (P2 : Nat)) (by go_simp; first | done | exact DP.out) (qLk rfl rfl)
    ·intro vals w1 hb hd
     rw [show vals 5 = .int .i64 (y : Nat) from hd 5 (by kernel_rfl)]
     rw [show vals 8 = .int .i64 (P2 : Nat) from hd 8 (by kernel_rfl)]
     refine qSv (.int .i64 (yb : Nat)) (by go_simp; first | done | exact DY.out) (qLk rfl rfl)
    ·intro vals w1 hb hd
     refine qSv (.pointer (some ⟨b2, 1, none⟩)) (by go_simp) (qLk rfl rfl)
    ·intro vals w1 hb hd
     obtain ⟨e0, e1⟩ := qcy (qaa B2.out hb)
     rw [show vals 10 = .pointer (some ⟨b2, 1, none⟩) from hd 10 (by kernel_rfl)]
     refine qSv (.int .i64 (n : Nat)) (by go_simp) (qLk rfl rfl)
    ·intro vals w1 hb hd
     rw [show vals 9 = .int .i64 (yb : Nat) from hd 9 (by kernel_rfl)]
     rw [show vals 11 = .int .i64 (n : Nat) from hd 11 (by kernel_rfl)]
     refine qSv (.agg #[.int .i64 (yb : Nat), .int .i64 (n : Nat)]) (by go_simp) (qLk rfl rfl)
   case tl4 =>
    intro vals w4 hb4 hf hdis
    simp only [List.drop_succ_cons, List.drop_zero]
    have z3 : vals 3 = _ := hf 3 (by decide)
    have z12 : vals 12 = _ := hf 12 (by decide)
    rw [z3, z12]
    clear z3 z12 hf hdis
    have HB := qHd (HB.out.trans (hb4.mono HB.out.size)); have HO := qHd (qcg HO.out hb4)
    clear hb4
    have HK := qHd (rbelow_any V hV N b HSB.out _ yb n _ w4 (HTB.out.below HB.out) HOB.out HYB.out hn (by omega))
    go_wp2_with (with_reducible refine qad ?_)
    refine qap.mk ?_
    (with_reducible refine HK.out.mono ?_); rintro e w5 ⟨v2, rfl, hb5, ho2⟩
    have HL2 := qHd (own_lfs ho2)
    have HB := qHd (HB.out.trans (hb5.mono HB.out.size)); have HO := qHd (qcg HO.out hb5)
    clear ho2 hb5 HK
    go_wp2_with (with_reducible refine qby ?_)
    refine wpList_appLs w.heap.size Tryz.leafTy rfl v1 v2 (qah a y nb) (qah b yb n) rfl rfl HO.out HL2.out (by rw [qdn, qdn]; omega) (by decide) HB.out.size ?_
    intro v' w' h1 h2
    have h3 := own_low HO.out h2 HB.out HB.out.size
    have H1 := qHd h1; have H3 := qHd h3
    clear h1 h2 h3
    go_wp2_with fail
    go_ret
    exact ⟨_, rfl, H3.out, by rw [TL.out]; exact H1.out⟩
 | N + 1, .mk _ [_] _, _, _, _, _, _, _, _, hok, _, _, _ => by simp only [qej] at hok
 | N + 1, .mk _ (_ :: _ :: _ :: _) _, _, _, _, _, _, _, _, hok, _, _, _ => by simp only [qej] at hok
theorem rsame_n : ∀ (N : Nat) (t : Tr), SizeOf.sizeOf t < N → ∀ (va vb : Value) (w : World), TrV w va t → TrV w vb t → Calls Tryz.prog 16 #[va, vb] w (qea w (.bool true)) := by
 intro N
 induction N with
 | zero => intro t h; omega
 | succ N ih =>
  intro t hN va vb w ha hb
  obtain ⟨v, ks, r⟩ := t
  obtain ⟨ax, cx, rfl, hkx, hx1, hx2, _, _⟩ := ha.open
  obtain ⟨ay, cy, rfl, hky, hy1, hy2, _, _⟩ := hb.open
  have HX := qHd hkx; have HY := qHd hky
  obtain ⟨W, hW, hbW, hg1, hg2⟩ := qBx2 w (.cells #[.int .i64 v, .slice ax ks.length cx, .int .i64 r] 27) (.cells #[.int .i64 v, .slice ay ks.length cy, .int .i64 r] 27)
  obtain ⟨g1, hG1⟩ : ∃ g, g = w.heap.size := ⟨_, rfl⟩
  obtain ⟨g2, hG2⟩ : ∃ g, g = w.heap.size + 1 := ⟨_, rfl⟩
  rw [← hG1] at hg1; rw [← hG2] at hg2
  have HBW := qHd hbW; have G1 := qHd hg1; have G2 := qHd hg2
  obtain ⟨x0, x1, x2⟩ := qay hg1
  obtain ⟨y0, y1, y2⟩ := qay hg2
  rw [hW, hG1] at x0 x1 x2
  rw [hW, hG2] at y0 y1 y2
  clear hbW hg1 hg2 ha hb hkx hky
  go_enter Tryz.func16, Tryz.ntmps16
  go_wp2_with (with_reducible first | refine qai ?_ | refine qag ?_)
  rw [← hW, ← hG2, ← hG1]; clear hW hG1 hG2 x0 x1 x2 y0 y1 y2
  refine qap.mk ?_
  go_loopw [30] (fun i' wx => ∃ q : Nat, q ≤ ks.length ∧ i' = .int .i64 q ∧ Hid (Below W.heap.size W wx)) (fun i' _ => ks.length - (intOf i').toNat)
  case atStart => exact ⟨0, Nat.zero_le _, rfl, qHd (Below.refl _ _)⟩
  case round =>
   obtain ⟨q, hq, rfl, BX⟩ := hrel
   obtain ⟨wo, rfl⟩ : ∃ wo : World, wo = wr := ⟨_, rfl⟩
   have HBo := qHd (HBW.out.trans (BX.out.mono HBW.out.size))
   by_cases hlt : q < ks.length
   ·obtain ⟨x0, hx0⟩ : ∃ x, ks[q]? = some x := ⟨ks[q], List.getElem?_eq_getElem hlt⟩
    have G1 := qHd (qaa G1.out BX.out); have G2 := qHd (qaa G2.out BX.out)
    obtain ⟨x, ox, rfl, hx, hjx, hatx⟩ := (KidsV.below HX.out HBo.out).at (by omega); clear hjx
    obtain ⟨y, oy, rfl, hy, hjy, haty⟩ := (KidsV.below HY.out HBo.out).at (by omega); clear hjy
    obtain ⟨vx, rx, ax, nx, cxx, k0, k1, k2, tx⟩ := (hatx q x0 hx0).val
    obtain ⟨vy, ry, ay, ny, cyy, m0, m1, m2, ty⟩ := (haty q x0 hx0).val
    have KX := qHd (And.intro k0 (And.intro k1 k2)); have KY := qHd (And.intro m0 (And.intro m1 m2))
    have HTX := qHd tx; have HTY := qHd ty
    have HSZ := qHd (show SizeOf.sizeOf x0 < N by have := qcj (v := v) (r := r) (ks := ks) (k := x0) (List.mem_of_getElem? hx0); omega)
    clear hatx haty k0 k1 k2 m0 m1 m2 tx ty hx0
    have hltz : (q : Int) < (ks.length : Int) := by omega
    go_wp2_with (with_reducible first | refine qad ?_ | refine qai ?_ | refine qaj ?_ | refine qak ?_ | refine qag ?_)
    refine qap.mk ?_
    refine qao (A := ?aaS) (w := wo) 11 [] (by kernel_rfl) (Fl [KEq (.pointer (some ⟨g1, 1, none⟩)), KEq (.slice (some ⟨x, ox, none⟩) ks.length cx), KEq (.int .i64 (q : Nat)), KEq (.pointer (some ⟨x, ox + q * 3, none⟩)), KEq (.agg #[.int .i64 vx, .slice ax nx cxx, .int .i64 rx]), KEq (.pointer (some ⟨g2, 1, none⟩)), KEq (.slice (some ⟨y, oy, none⟩) ks.length cy), KEq (.int .i64 (q : Nat)), KEq (.pointer (some ⟨y, oy + q * 3, none⟩)), KEq (.agg #[.int .i64 vy, .slice ay ny cyy, .int .i64 ry]), KEq (.bool true)]) (fun i => false) (by kernel_rfl) ?hqS (qcw (qae (kEq _) (qae (kEq _) (qae (kEq _) (qae (kEq _) (qae (kEq _) (qae (kEq _) (qae (kEq _) (qae (kEq _) (qae (kEq _) (qae (kEq _) (qae (kEq _) qcv)))))))))))) ?haS ?stS ?tlS
    case hqS =>
     intro c a d v w h
     first | (simp only [Exit.then] at h ⊢; exact h) | (simp only [Exit.inBlock, Exit.then] at h ⊢; exact h) | exact h
    case haS =>
     intro vals
     simp only [qba, qcd, if_true, Act.put, List.setIfInBounds_toArray, List.set_cons_zero, List.set_cons_succ, List.getElem?_toArray, List.getElem?_cons_zero, List.getElem?_cons_succ, Option.bind_some]
     exact rfl
    case stS =>
     simp only [List.take_succ_cons, List.take_zero]
     refine qab rfl rfl ?_ (qab rfl rfl ?_ (qab rfl rfl ?_ (qab rfl rfl ?_ (qab rfl rfl ?_ (qab rfl rfl ?_ (qab rfl rfl ?_ (qab rfl rfl ?_ (qab rfl rfl ?_ (qab rfl rfl ?_ (qab rfl rfl ?_ (qav)))))))))))
     ·intro vals w1 hb hd
      refine qSv (.pointer (some ⟨g1, 1, none⟩)) (by go_simp) (qLk rfl rfl)
     ·intro vals w1 hb hd
      obtain ⟨e0, e1, e2⟩ := qay (qaa G1.out hb)
      rw [show vals 0 = .pointer (some ⟨g1, 1, none⟩) from hd 0 (by kernel_rfl)]
      refine qSv (.slice (some ⟨x, ox, none⟩) ks.length cx) (by go_simp) (qLk rfl rfl)
     ·intro vals w1 hb hd
      refine qSv (.int .i64 (q : Nat)) (by go_simp) (qLk rfl rfl)
     ·intro vals w1 hb hd
      rw [show vals 1 = .slice (some ⟨x, ox, none⟩) ks.length cx from hd 1 (by kernel_rfl)]
      rw [show vals 2 = .int .i64 (q : Nat) from hd 2 (by kernel_rfl)]
      refine qSv (.pointer (some ⟨x, ox + q * 3, none⟩)) (by go_simp) (qLk rfl rfl)
     ·intro vals w1 hb hd
      have k0 := (hb.cell (p := ⟨x, _, none⟩) hx).trans KX.out.1
      have k1 := (hb.cell (p := ⟨x, _, none⟩) hx).trans KX.out.2.1
      have k2 := (hb.cell (p := ⟨x, _, none⟩) hx).trans KX.out.2.2
      rw [show vals 3 = .pointer (some ⟨x, ox + q * 3, none⟩) from hd 3 (by kernel_rfl)]
      refine qSv (.agg #[.int .i64 vx, .slice ax nx cxx, .int .i64 rx]) (by go_simp) (qLk rfl rfl)
     ·intro vals w1 hb hd
      refine qSv (.pointer (some ⟨g2, 1, none⟩)) (by go_simp) (qLk rfl rfl)
     ·intro vals w1 hb hd
      obtain ⟨e0, e1, e2⟩ := qay (qaa G2.out hb)
      rw [show vals 5 = .pointer (some ⟨g2, 1, none⟩) from hd 5 (by kernel_rfl)]
      refine qSv (.slice (some ⟨y, oy, none⟩) ks.length cy) (by go_simp) (qLk rfl rfl)
     ·intro vals w1 hb hd
      refine qSv (.int .i64 (q : Nat)) (by go_simp) (qLk rfl rfl)
     ·intro vals w1 hb hd
      rw [show vals 6 = .slice (some ⟨y, oy, none⟩) ks.length cy from hd 6 (by kernel_rfl)]
      rw [show vals 7 = .int .i64 (q : Nat) from hd 7 (by kernel_rfl)]
      refine qSv (.pointer (some ⟨y, oy + q * 3, none⟩)) (by go_simp) (qLk rfl rfl)
     ·intro vals w1 hb hd
      have k0 := (hb.cell (p := ⟨y, _, none⟩) hy).trans KY.out.1
      have k1 := (hb.cell (p := ⟨y, _, none⟩) hy).trans KY.out.2.1
      have k2 := (hb.cell (p := ⟨y, _, none⟩) hy).trans KY.out.2.2
      rw [show vals 8 = .pointer (some ⟨y, oy + q * 3, none⟩) from hd 8 (by kernel_rfl)]
      refine qSv (.agg #[.int .i64 vy, .slice ay ny cyy, .int .i64 ry]) (by go_simp) (qLk rfl rfl)
     ·intro vals w1 hb hd
      have d4 : KEq (.agg #[.int .i64 vx, .slice ax nx cxx, .int .i64 rx]) (vals 4) w1 := hd 4 (by kernel_rfl)
      have d9 : KEq (.agg #[.int .i64 vy, .slice ay ny cyy, .int .i64 ry]) (vals 9) w1 := hd 9 (by kernel_rfl)
      have HS := qHd (ih x0 HSZ.out _ _ w1 (HTX.out.below hb) (HTY.out.below hb))
      have z4 : vals 4 = _ := d4
      rw [z4]; clear z4
      have z9 : vals 9 = _ := d9
      rw [z9]; clear z9
      refine qat (by go_simp; first | done | exact ⟨⟨rfl, rfl⟩, rfl⟩) ?_
      (with_reducible refine HS.out.mono ?_); rintro e w2 ⟨rfl, hb2⟩
      exact ⟨_, rfl, qar hb2 rfl (fun h => by cases h)⟩
    case tlS =>
     intro vals w5 hb5 hf5 hdis
     simp only [List.drop_succ_cons, List.drop_zero]
     have z10 : vals 10 = _ := hf5 10 (by decide)
     rw [z10]; clear z10 hf5 hdis
     have BX5 := qHd (BX.out.trans (hb5.mono BX.out.size))
     clear hb5
     go_wp2_with fail
     go_roundw
     case rel => exact ⟨q + 1, by omega, by go_num, BX5⟩
     case measure => simp [intOf]; omega
   ·have hq' : q = ks.length := by omega
    subst hq'
    go_wp2_with fail
    go_ret
    exact ⟨rfl, HBo.out⟩
theorem rsame_any (t : Tr) (va vb : Value) (w : World) (ha : TrV w va t) (hb : TrV w vb t) : Calls Tryz.prog 16 #[va, vb] w (qea w (.bool true)) := rsame_n _ t (Nat.lt_succ_self _) va vb w ha hb
theorem open_words_cell {H : Type} {enc : TypeId × Value → H} {P : Program} {W : World} {t e : TypeId} {v : Value} {x : DataW H × List MemPlace} {fuel : Nat} (ht : P.underlying t = some (.slice e)) (he : P.underlying e = some (.int .u32)) (hc : P.cellsOf e = 1)
  (hf : DataW.trod enc P W 0 (fun _ => true) true fuel t [v] = some x) : ∃ l : List Nat, Num W v l := by
 rcases open_ints ht he hc hf with ⟨hcs, hx⟩ | ⟨a, len', cap', zs, hcs, _, hl, hm, hz, hx, hcell, hwz⟩
 ·have hcs' : v = .slice none 0 0 := by simpa using hcs
  rw [hcs']; exact ⟨[], Num.nil W⟩
 ·have hcs' : v = .slice (some a) len' cap' := by simpa using hcs
  rw [hcs']
  have hz' : len' ≤ zs.length := by rw [hz]; simp; exact hl
  have hgd : ∀ j, j < len' → gd ((zs.take len').map Int.toNat) j = (zs.getD j 0).toNat := fun j hj => by
   simp [gd, List.getD_eq_getElem?_getD, hj, show j < zs.length by omega]
  have hwf : ∀ j, j < zs.length → 0 ≤ zs.getD j 0 ∧ zs.getD j 0 < 4294967296 := fun j hj => by
   have hmem : zs.getD j 0 ∈ zs := by rw [List.getD_eq_getElem?_getD, List.getElem?_eq_getElem hj]; exact List.getElem_mem hj
   have := hwz _ hmem
   simp only [Lit.wf, Bool.and_eq_true, decide_eq_true_eq] at this
   have h1 : IntKind.u32.min = 0 := by decide
   have h2 : IntKind.u32.max = 4294967296 - 1 := by decide
   rw [h1, h2] at this; omega
  have hlen : ((zs.take len').map Int.toNat).length = len' := by rw [List.length_map, List.length_take]; omega
  refine ⟨(zs.take len').map Int.toNat, some a, cap', by rw [hlen], by omega, by unfold maxLen at hm; omega, by simp, ?_, ?_⟩
  ·intro b off s hs
   obtain rfl : a = ⟨b, off, s⟩ := Option.some.inj hs
   have h0 : 0 < len' → b < W.heap.size ∧ s = none := fun h0 => by
    have := hcell 0 (by omega)
    have e0 : (⟨b, off, s⟩ : Addr).add 0 = ⟨b, off, s⟩ := by simp [Addr.add]
    rw [e0] at this
    refine ⟨World.block_lt_of_cell? W _ this, ?_⟩
    cases s with
    | none => rfl
    | some x =>
     unfold World.cell? at this
     split at this <;> simp at this
   refine ⟨fun hh => h0 (by omega), fun j hj => ?_⟩
   rw [hlen] at hj
   obtain ⟨_, rfl⟩ := h0 (by omega)
   have := hcell j (by omega)
   have e2 : (⟨b, off, none⟩ : Addr).add j = ⟨b, off + j, none⟩ := by unfold Addr.add; split <;> simp_all
   rw [e2] at this
   rw [this, hgd j hj]
   have := hwf j (by omega)
   congr 2; omega
  ·intro j
   by_cases hj : j < len'
   ·rw [hgd j hj]; have := hwf j (by omega); omega
   ·rw [gd_over _ _ (by omega)]; omega
end Go.Proofs.YthhgfhdmfhnklaaGreatDoor
namespace Go.Proofs.YthhgfhdmfhnklaaGreatDoor
open Go.RowKit Go.ChangeShapes Go.WideShapes Go.Joins Go.Deep
theorem treeTys : TreeTys Tryz.prog 3 25 27 :=
 ⟨Tryz.underlying3, by kernel_rfl, Tryz.underlying25, by kernel_rfl, by kernel_rfl, ⟨_, _, _, Tryz.underlying27, rfl, rfl, rfl, rfl, rfl, rfl⟩⟩
theorem open_tr {H : Type} {enc : TypeId × Value → H} {W : World} {v : Value} {d : DataW H} {p : List MemPlace} {base : Nat}
  (hv : Value.okWide Tryz.prog W .any base 27 v) (h : DataW.Trod enc Tryz.prog W 0 (fun _ => true) true 27 v d p) : ∃ t, TrV W v t := by
 obtain ⟨cs, rfl, hsz⟩ := okWide_struct Tryz.underlying27 hv
 obtain ⟨c0, c1, c2, rfl⟩ := array3 (hsz.trans (by kernel_rfl))
 obtain ⟨fuel, hf⟩ := h
 obtain ⟨a, r, ks, kv, e, hk, ha, hr⟩ := open_tree treeTys _ fuel _ d p (Nat.lt_succ_self _) hf
 have e' : [c0, c1, c2] = [.int .i64 a, kv, .int .i64 r] := e
 simp only [List.cons.injEq, and_true] at e'
 obtain ⟨rfl, rfl, rfl⟩ := e'
 exact ⟨.mk a ks r, c1, rfl, hk, ha, hr⟩
end Go.Proofs.YthhgfhdmfhnklaaGreatDoor
namespace Go.Proofs.YthhgfhdmfhnklaaGreatDoor
open Go.RowKit Go.ChangeShapes Go.WideShapes
theorem lightB_few {f : Fm} {t : Tr} (h : qfn f t = true) (hc : cErr f t = 0) : (qah t 0 0).length ≤ 300 := by
 unfold qfn at h
 simp only [Bool.and_eq_true, decide_eq_true_eq] at h
 obtain ⟨k1, k2, k3, k4⟩ := qds hc
 have h1 := leftT_size t 300 0 0 k3 h.2.1
 rw [qdn]
 have h2 := (qdf t).2
 omega
end Go.Proofs.YthhgfhdmfhnklaaGreatDoor
namespace Go.Proofs.YthhgfhdmfhnklaaGreatDoor
def stC (a b : Rat × Rat) : Nat := if (sMeet a b).1 ≤ (sMeet a b).2 then 0 else 17
end Go.Proofs.YthhgfhdmfhnklaaGreatDoor
namespace Go.Proofs.YthhgfhdmfhnklaaGreatDoor
open Go.RowKit Go.ChangeShapes Go.WideShapes
theorem rwalk_any (V : Nat) (hV : V ≤ 24) : ∀ (N : Nat) (t : Tr), SizeOf.sizeOf t < N → ∀ (x : Value) (above n : Nat) (w : World), TrV w x t → above < 16777216 → n ≤ 4096 →
  Calls Tryz.prog 63 #[x, .int .i64 (V : Nat), .int .i64 (above : Nat), .int .i64 (n : Nat)] w (qea w (.tuple #[.int .i64 ((qbh V t above n).1 : Nat), .int .i64 ((qbh V t above n).2 : Nat)]))
 | 0, _, h, _, _, _, _, _, _, _ => by omega
 | N + 1, .mk v ks r, hN, x, above, n, w, ht, hab, hn => by
  obtain ⟨ao, c, rfl, hks, hc1, hc2, hv, hr⟩ := ht.open
  unfold I64 at hv hr
  obtain ⟨w1, hw1, hb1, b1, hbb, hB1⟩ := qBx5 w (.cells #[.int .i64 v, .slice ao ks.length c, .int .i64 r] 27)
  have HB := qHd hb1; have B1 := qHd hB1
  have HKS := qHd hks
  clear hks hb1 ht hB1
  go_enter Tryz.func63, Tryz.ntmps63
  by_cases a1 : 4096 < n + 1
  ·have R := qHd (show qbh V (.mk v ks r) above n = (n + 1, 4) by unfold qbh; rw [if_pos a1])
   have a1' : (4096 : Int) < ((n : Nat) : Int) + 1 := by omega
   go_wp2_with fail
   go_ret2
   exact ⟨by rw [R.out]; rfl, by rw [hw1] at HB; exact HB.out⟩
  have A1 := qHd a1
  have a1' : ((n : Nat) : Int) + 1 ≤ 4096 := by omega
  by_cases a2 : ks.length ≠ 0 ∧ ks.length ≠ 2
  ·have R := qHd (show qbh V (.mk v ks r) above n = (n + 1, 11) by unfold qbh; rw [if_neg A1.out, if_pos a2])
   obtain ⟨a3, a4⟩ := a2
   have a3' : ((ks.length : Int) != 0) = true := bne_iff_ne.2 (by omega)
   have a4' : ((ks.length : Int) != 2) = true := bne_iff_ne.2 (by omega)
   go_wp2_with fail
   go_ret2
   exact ⟨by rw [R.out]; rfl, by rw [hw1] at HB; exact HB.out⟩
  have A2 := qHd a2
  by_cases a3 : ks.length = 0
  ·have a3' : (ks.length : Int) = 0 := by omega
   by_cases a4 : v = 0
   ·have R := qHd (show qbh V (.mk v ks r) above n = (n + 1, 0) by unfold qbh; rw [if_neg A1.out, if_neg A2.out, if_pos a3, if_neg (by simp [a4])])
    subst a4
    go_wp2_with fail
    go_ret2
    exact ⟨by rw [R.out]; rfl, by rw [hw1, a3] at HB; exact HB.out⟩
   ·have R := qHd (show qbh V (.mk v ks r) above n = (n + 1, 2) by unfold qbh; rw [if_neg A1.out, if_neg A2.out, if_pos a3, if_pos a4])
    have a4' : (v != 0) = true := bne_iff_ne.2 a4
    go_wp2_with fail
    go_ret2
    exact ⟨by rw [R.out]; rfl, by rw [hw1, a3] at HB; exact HB.out⟩
  have a5 : ks.length = 2 := by omega
  rw [a5] at HKS B1 hc1 hw1
  have A3 := qHd a3
  have HL := qHd a5
  have TE : Hid (qbh V (.mk v ks r) above n = if v < 0 ∨ (V : Int) ≤ v then (n + 1, 3) else if above.testBit v.toNat then (n + 1, 6) else if r ≠ 0 then (n + 1, 2) else qdv V ks (above ||| 1 <<< v.toNat) (n + 1)) := qHd (by
   conv => lhs; unfold qbh
   rw [if_neg A1.out, if_neg A2.out, if_neg A3.out])
  clear a2 a3 A2 A3
  rw [a5]
  clear a5
  by_cases b1' : v < 0
  ·have R := qHd (show qbh V (.mk v ks r) above n = (n + 1, 3) by rw [TE.out, if_pos (.inl b1')])
   go_wp2_with fail
   go_ret2
   exact ⟨by rw [R.out]; rfl, by rw [hw1] at HB; exact HB.out⟩
  by_cases b2' : (V : Int) ≤ v
  ·have R := qHd (show qbh V (.mk v ks r) above n = (n + 1, 3) by rw [TE.out, if_pos (.inr b2')])
   go_wp2_with fail
   go_ret2
   exact ⟨by rw [R.out]; rfl, by rw [hw1] at HB; exact HB.out⟩
  have TE := qHd (TE.out.trans (if_neg (by omega)))
  obtain ⟨vn, rfl⟩ : ∃ vn : Nat, v = vn := ⟨v.toNat, by omega⟩
  rw [Int.toNat_natCast] at TE
  have hvn : vn < V := by omega
  obtain ⟨xs, x1b, xt, hX⟩ := qgb (x := above) (i := vn) (by omega)
  have X1 := hX.1; have X2 := hX.2.1; have X3 := hX.2.2.1
  have hvz : (vn : Int) < (V : Int) := by omega
  clear b1' b2'
  cases xt with
  | true =>
   have R := qHd (show qbh V (.mk (vn : Nat) ks r) above n = (n + 1, 6) by rw [TE.out, hX.2.2.2]; rfl)
   go_wp2_with fail
   go_ret2
   exact ⟨by rw [R.out]; rfl, by rw [hw1] at HB; exact HB.out⟩
  | false =>
   have TE := qHd (TE.out.trans (if_neg (by rw [hX.2.2.2]; decide)))
   clear hX
   by_cases r0 : r ≠ 0
   ·have R := qHd (show qbh V (.mk (vn : Nat) ks r) above n = (n + 1, 2) by rw [TE.out, if_pos r0])
    have r0' : (r != 0) = true := bne_iff_ne.2 r0
    go_wp2_with fail
    go_ret2
    exact ⟨by rw [R.out]; rfl, by rw [hw1] at HB; exact HB.out⟩
   have r0 : r = 0 := by omega
   subst r0
   have TE := qHd (TE.out.trans (if_neg (by decide)))
   obtain ⟨P2, hP2⟩ : ∃ P : Nat, P = 2 ^ vn := ⟨_, rfl⟩
   have hp24 : P2 < 16777216 := by rw [hP2]; exact pow_l24 (by omega)
   have DP := qHd (show IntKind.wrap .i64 (2 ^ vn) = (P2 : Int) by rw [shl_one (by omega), hP2])
   obtain ⟨ab, hab2⟩ : ∃ ab, ab = above ||| 1 <<< vn := ⟨_, rfl⟩
   have hab3 : ab = above ||| P2 := by rw [hab2, hP2, Nat.one_shiftLeft]
   have HAB := qHd (show ab < 16777216 by rw [hab3]; exact Nat.or_lt_two_pow (n := 24) (by omega) (by omega))
   have DO := qHd (show bits .or .i64 (above : Int) (P2 : Int) = (ab : Int) by rw [bits_or (by omega) (by omega), hab3])
   rw [← hab2] at TE
   clear hP2 hab2 hab3
   go_wp2_with fail
   rw [← hw1, ← hbb]
   clear X1 X2 X3 hw1 hbb
   go_loopw [63, 3] (fun i' nn wx => ∃ j n' : Nat, j ≤ 2 ∧ i' = .int .i64 j ∧ nn = .int .i64 n' ∧ n' ≤ 4096 ∧ Hid (Below w1.heap.size w1 wx) ∧ Hid (qdv V ks ab (n + 1) = qdv V (ks.drop j) ab n')) (fun i' _ _ => 2 - (intOf i').toNat)
   case atStart => exact ⟨0, n + 1, by omega, rfl, by first | rfl | simp, by omega, qHd (Below.refl _ _), qHd rfl⟩
   case round =>
    obtain ⟨j, n', hj, rfl, rfl, hn', BW, TS⟩ := hrel
    obtain ⟨wo, rfl⟩ : ∃ wo : World, wo = wr := ⟨_, rfl⟩
    have HBo := qHd (HB.out.trans (BW.out.mono HB.out.size))
    have B1o := qHd (qaa B1.out BW.out)
    by_cases hlt : j < 2
    ·obtain ⟨t', ht'⟩ : ∃ t', ks[j]? = some t' := ⟨ks[j]'(by rw [HL.out]; exact hlt), List.getElem?_eq_getElem (by rw [HL.out]; exact hlt)⟩
     obtain ⟨bk, ok, rfl, hbk, hjk, hat⟩ := (HKS.out.below HBo.out).at (by decide); clear hjk
     obtain ⟨kv, kr, ka, kn, kc, c0, c1, c2, hTV⟩ := (hat j t' ht').val
     have hsz : SizeOf.sizeOf t' < N := by have := qcj (v := (vn : Int)) (r := 0) (List.mem_of_getElem? ht'); omega
     have TD := qHd (trsErr_drop (V := V) (ab := ab) (n := n') ht')
     have HSZ := qHd hsz
     obtain ⟨w4, hw4⟩ : ∃ w4, w4 = wo.alloc (.cells #[.int .i64 kv, .slice ka kn kc, .int .i64 kr] 27) := ⟨_, rfl⟩
     have hb4 : Below wo.heap.size wo w4 := by rw [hw4]; exact qBA _ _
     have HTV := qHd (hTV.below hb4)
     clear hat hTV hsz ht'
     have hltz : (j : Int) < 2 := by omega
     have hB2 : w4.heap[wo.heap.size]? = some (.cells #[.int .i64 kv, .slice ka kn kc, .int .i64 kr] 27) := by rw [hw4]; exact heap_alloc_new wo _
     obtain ⟨b2, hbb⟩ : ∃ b, b = wo.heap.size := ⟨_, rfl⟩
     rw [← hbb] at hB2
     have B2 := qHd hB2; have B1 := qHd (qaa B1o.out hb4)
     have HB0 := qHd (HBo.out.trans (hb4.mono HBo.out.size)); have BW := qHd (BW.out.trans (hb4.mono BW.out.size))
     have HB := qHd (Below.refl w4.heap.size w4)
     have TC := trErr_cnt V t' ab n' hn'
     obtain ⟨m, hm⟩ : ∃ m, m = (qbh V t' ab n').1 := ⟨_, rfl⟩
     obtain ⟨ec, hec⟩ : ∃ ec, ec = (qbh V t' ab n').2 := ⟨_, rfl⟩
     have MC := qHd (show Value.tuple #[.int .i64 ((qbh V t' ab n').1 : Nat), .int .i64 ((qbh V t' ab n').2 : Nat)] = .tuple #[.int .i64 (m : Nat), .int .i64 (ec : Nat)] by rw [hm, hec])
     have MM := qHd (And.intro hm hec)
     rw [← hm, ← hec] at TC
     clear hB2 hb4 B1o HBo hm hec
     go_wp2_with (with_reducible first | refine qad ?_ | refine qai ?_ | refine qaj ?_ | refine qak ?_ | refine qag ?_)
     rw [← hw4, ← hbb]
     clear hw4 hbb c0 c1 c2
     refine qap.mk ?_
     refine qao (A := ?aa19) (w := w4) 12 [11] (by kernel_rfl) (Fl [KEq (.agg #[.int .i64 kv, .slice ka kn kc, .int .i64 kr]), KEq (.int .i64 (V : Nat)), KEq (.int .i64 (above : Nat)), KEq (.pointer (some ⟨b1, 0, none⟩)), KEq (.int .i64 (vn : Nat)), KEq (.int .i64 (P2 : Nat)), KEq (.int .i64 (ab : Nat)), KEq ((.int .i64 (n' : Nat))), KEq (.tuple #[.int .i64 (m : Nat), .int .i64 (ec : Nat)]), KEq ((.tuple #[.int .i64 (m : Nat), .int .i64 (ec : Nat)])), KEq (.int .i64 (m : Nat)), KEq (.int .i64 (ec : Nat))]) (fun i => false) (by kernel_rfl) ?hq19 (qcw (qae (kEq _) (qae (kEq _) (qae (kEq _) (qae (kEq _) (qae (kEq _) (qae (kEq _) (qae (kEq _) (qae (kEq _) (qae (kEq _) (qae (kEq _) (qae (kEq _) (qae (kEq _) qcv))))))))))))) ?ha19 ?st19 ?tl19
     case hq19 =>
      intro c a d v w h
      first | (simp only [Exit.then] at h ⊢; exact h) | (simp only [Exit.inBlock, Exit.then] at h ⊢; exact h) | exact h
     case ha19 =>
      intro vals
      simp only [qba, qcd, if_true, Act.put, List.setIfInBounds_toArray, List.set_cons_zero, List.set_cons_succ, List.getElem?_toArray, List.getElem?_cons_zero, List.getElem?_cons_succ, Option.bind_some]
      exact rfl
     case st19 =>
      simp only [List.take_succ_cons, List.take_zero]
      refine qab rfl rfl ?_ (qab rfl rfl ?_ (qab rfl rfl ?_ (qab rfl rfl ?_ (qab rfl rfl ?_ (qab rfl rfl ?_ (qab rfl rfl ?_ (qab rfl rfl ?_ (qab rfl rfl ?_ (qab rfl rfl ?_ (qab rfl rfl ?_ (qct rfl ?_ (qav))))))))))))
      ·intro vals w1 hb hd
       obtain ⟨e0, e1, e2⟩ := qay (qaa B2.out hb)
       refine qSv (.agg #[.int .i64 kv, .slice ka kn kc, .int .i64 kr]) (by go_simp) (qLk rfl rfl)
      ·intro vals w1 hb hd
       refine qSv (.int .i64 (V : Nat)) (by go_simp) (qLk rfl rfl)
      ·intro vals w1 hb hd
       refine qSv (.int .i64 (above : Nat)) (by go_simp) (qLk rfl rfl)
      ·intro vals w1 hb hd
       refine qSv (.pointer (some ⟨b1, 0, none⟩)) (by go_simp) (qLk rfl rfl)
      ·intro vals w1 hb hd
       obtain ⟨e0, e1, e2⟩ := qay (qaa B1.out hb)
       rw [show vals 3 = .pointer (some ⟨b1, 0, none⟩) from hd 3 (by kernel_rfl)]
       refine qSv (.int .i64 (vn : Nat)) (by go_simp) (qLk rfl rfl)
      ·intro vals w1 hb hd
       rw [show vals 4 = .int .i64 (vn : Nat) from hd 4 (by kernel_rfl)]
       refine qSv (.int .i64 (P2 : Nat)) (by go_simp; first | done | exact DP.out) (qLk rfl rfl)
      ·intro vals w1 hb hd
       rw [show vals 2 = .int .i64 (above : Nat) from hd 2 (by kernel_rfl)]
       rw [show vals 5 = .int .i64 (P2 : Nat) from hd 5 (by kernel_rfl)]
       refine qSv (.int .i64 (ab : Nat)) (by go_simp; first | done | exact DO.out) (qLk rfl rfl)
      ·intro vals w1 hb hd
       refine qSv ((.int .i64 (n' : Nat))) (by go_simp) (qLk rfl rfl)
      ·intro vals w1 hb hd
       have d0 : KEq (.agg #[.int .i64 kv, .slice ka kn kc, .int .i64 kr]) (vals 0) w1 := hd 0 (by kernel_rfl)
       have d1 : KEq (.int .i64 (V : Nat)) (vals 1) w1 := hd 1 (by kernel_rfl)
       have d6 : KEq (.int .i64 (ab : Nat)) (vals 6) w1 := hd 6 (by kernel_rfl)
       have d7 : KEq ((.int .i64 (n' : Nat))) (vals 7) w1 := hd 7 (by kernel_rfl)
       have HS := qHd (MC.out ▸ rwalk_any V hV N t' HSZ.out _ ab n' w1 (HTV.out.below (HB.out.step hb)) HAB.out hn')
       have z0 : vals 0 = _ := d0
       rw [z0]; clear z0
       have z1 : vals 1 = _ := d1
       rw [z1]; clear z1
       have z6 : vals 6 = _ := d6
       rw [z6]; clear z6
       have z7 : vals 7 = _ := d7
       rw [z7]; clear z7
       refine qat (by go_simp; first | done | exact ⟨⟨rfl, rfl⟩, rfl⟩) ?_
       (with_reducible refine HS.out.mono ?_); rintro e w2 ⟨rfl, hb2⟩
       exact ⟨_, rfl, qar hb2 rfl (fun h => by cases h)⟩
      ·intro vals w1 hb hd
       rw [show vals 8 = .tuple #[.int .i64 (m : Nat), .int .i64 (ec : Nat)] from hd 8 (by kernel_rfl)]
       refine qSv ((.tuple #[.int .i64 (m : Nat), .int .i64 (ec : Nat)])) (by go_simp) (qLk rfl rfl)
      ·intro vals w1 hb hd
       rw [show vals 9 = (.tuple #[.int .i64 (m : Nat), .int .i64 (ec : Nat)]) from hd 9 (by kernel_rfl)]
       refine qSv (.int .i64 (m : Nat)) (by go_simp) (qLk rfl rfl)
      ·intro vals w1 hb hd
       rw [show vals 9 = (.tuple #[.int .i64 (m : Nat), .int .i64 (ec : Nat)]) from hd 9 (by kernel_rfl)]
       refine qbv (v := .int .i64 (ec : Nat)) (fun w => by go_simp) (qLk rfl rfl)
     case tl19 =>
       intro vals w5 hb5 hf hdis
       simp only [List.drop_succ_cons, List.drop_zero]
       have z10 : vals 10 = _ := hf 10 (by decide)
       have z11 : vals 11 = _ := hf 11 (by decide)
       rw [z10, z11]
       clear z10 z11 hf hdis
       have HB5 := qHd (HB0.out.trans (hb5.mono HB0.out.size)); have BW5 := qHd (BW.out.trans (hb5.mono BW.out.size))
       clear hb5
       by_cases E : ec = 0
       ·have TC2 := TC.2 E
        have TS2 := qHd (show qdv V ks ab (n + 1) = qdv V (ks.drop (j + 1)) ab m by rw [TS.out, TD.out, if_neg (by rw [← MM.out.2, E]; decide), MM.out.1])
        subst E
        clear TC
        go_wp2_with fail
        go_roundw
        case rel => exact ⟨j + 1, m, by omega, by go_num, rfl, TC2, qHd BW5.out, qHd TS2.out⟩
        case measure => simp [intOf]; omega
       ·have R := qHd (show qbh V (.mk (vn : Nat) ks 0) above n = (m, ec) by rw [TE.out, TS.out, TD.out, if_pos (by rw [← MM.out.2]; exact E), MM.out.1, MM.out.2])
        have E' : ((ec : Int) != 0) = true := bne_iff_ne.2 (by omega)
        clear TC E
        go_wp2_with fail
        go_ret2
        exact ⟨by rw [R.out]; rfl, HB5.out⟩
    ·have hj' : j = 2 := by omega
     subst hj'
     have R := qHd (show qbh V (.mk (vn : Nat) ks 0) above n = (n', 0) by rw [TE.out, TS.out, List.drop_of_length_le (by rw [HL.out]; exact Nat.le_refl _)]; rfl)
     go_wp2_with fail
     go_ret2
     exact ⟨by rw [R.out]; rfl, HBo.out⟩

theorem rscheck_any (x : Value) (t : Tr) (vars : Int) (w : World) (ht : TrV w x t) (hv : 0 ≤ vars ∧ vars ≤ 24) :
  Calls Tryz.prog 28 #[x, .int .i64 vars] w (qea w (.int .i64 ((qbh vars t 0 0).2 : Nat))) := by
 obtain ⟨V, rfl⟩ : ∃ V : Nat, vars = V := ⟨vars.toNat, by omega⟩
 obtain ⟨v, r, ao, kn, c, rfl⟩ := ht.shape
 obtain ⟨W, hW⟩ : ∃ W, W = w.alloc (.cells #[.int .i64 v, .slice ao kn c, .int .i64 r] 27) := ⟨_, rfl⟩
 have hbW : Below w.heap.size w W := by rw [hW]; exact qBA _ _
 have hk := rwalk_any V (by omega) _ t (Nat.lt_succ_self _) _ 0 0 W (ht.below hbW) (by decide) (by decide)
 rw [show ((0 : Nat) : Int) = 0 from rfl] at hk
 have HK := qHd hk; clear hk
 have HBW := qHd hbW
 clear hbW ht
 go_enter Tryz.func28, Tryz.ntmps28
 go_wp2_with (with_reducible refine qad ?_)
 rw [← hW]; clear hW
 refine qap.mk ?_
 (with_reducible refine HK.out.mono ?_); rintro e w6 ⟨rfl, hb6⟩
 have hb7 := HBW.out.trans (hb6.mono HBW.out.size)
 clear hb6 HK HBW
 go_wp2_with fail
 go_ret
 exact ⟨rfl, hb7⟩
end Go.Proofs.YthhgfhdmfhnklaaGreatDoor
namespace Go.Proofs.YthhgfhdmfhnklaaGreatDoor
open Go.RowKit Go.ChangeShapes Go.WideShapes Go.Joins Go.Deep
theorem open_rv {H : Type} {enc : TypeId × Value → H} {W : World} {cs : List Value} {x : DataW H × List MemPlace} {fuel : Nat}
  (h : DataW.trod enc Tryz.prog W 0 (fun _ => true) true fuel 54 cs = some x) : ∃ (r : Rv) (va vb : Value), cs = [.bool r.s, va, vb] ∧ Num W va r.a ∧ Num W vb r.b := by
 obtain ⟨y0, y1, y2, n, hx, hl, h0, h1, h2⟩ := trod_struct3 Tryz.underlying54 h
 have hl' : cs.length = 3 := hl.trans (by kernel_rfl)
 match cs, hl' with
 | [c0, c1, c2], _ =>
  have h0' : DataW.trod enc Tryz.prog W 0 (fun _ => true) true n 4 [c0] = some y0 := h0
  have h1' : DataW.trod enc Tryz.prog W 0 (fun _ => true) true n 52 [c1] = some y1 := h1
  have h2' : DataW.trod enc Tryz.prog W 0 (fun _ => true) true n 52 [c2] = some y2 := h2
  obtain ⟨b', k0, _⟩ := DataW.trod_bool Tryz.underlying4 h0'
  have e0 : c0 = .bool b' := by simpa using k0
  obtain ⟨a, ha⟩ := open_words_cell Tryz.underlying52 Tryz.underlying156 (by kernel_rfl) h1'
  obtain ⟨b, hb⟩ := open_words_cell Tryz.underlying52 Tryz.underlying156 (by kernel_rfl) h2'
  exact ⟨⟨b', a, b⟩, c1, c2, by rw [e0], ha, hb⟩
theorem open_rats {H : Type} {enc : TypeId × Value → H} {W : World} {v : Value} {d : DataW H} {p : List MemPlace} {base : Nat}
  (hv : Value.okWide Tryz.prog W .any base 50 v) (h : DataW.Trod enc Tryz.prog W 0 (fun _ => true) true 50 v d p) : ∃ L, RvsV W v L := by
 obtain ⟨a0, len0, cap0, rfl⟩ := okWide_slice Tryz.underlying50 hv
 obtain ⟨fuel, hf⟩ := h
 rcases open_slice Tryz.underlying50 hf with ⟨hcs, _⟩ | ⟨a, len, cap, m, n, D, Pl, hcs, _, hl, hm, hmm, _, hel⟩
 ·have hcs' : Value.slice a0 len0 cap0 = .slice none 0 0 := by simpa [Value.cells] using hcs
  rw [hcs']; exact ⟨[], none, 0, rfl, Nat.le_refl _, by omega, fun _ => rfl, fun b off s h => by cases h⟩
 ·have hcs' : Value.slice a0 len0 cap0 = .slice (some a) len cap := by simpa [Value.cells] using hcs
  rw [hcs']
  simp only [if_true] at hmm
  subst hmm
  have hc3 : Tryz.prog.cellsOf 54 = 3 := by kernel_rfl
  rw [hc3] at hel
  obtain ⟨F, hF⟩ := choose_lt (α := Rv) (n := len) (p := fun i r => ∃ va vb, W.cell? (a.add (i * 3)) = some (.bool r.s) ∧ W.cell? ((a.add (i * 3)).add 1) = some va ∧ W.cell? ((a.add (i * 3)).add 2) = some vb ∧ Num W va r.a ∧ Num W vb r.b) (fun i hi => by
   obtain ⟨cs', h1, h2⟩ := hel i (by omega)
   obtain ⟨r, va, vb, rfl, k1, k2⟩ := open_rv h2
   obtain ⟨_, _, hc⟩ := World.cells?_some h1
   refine ⟨r, va, vb, ?_, hc 1 (by omega), hc 2 (by omega), k1, k2⟩
   have := hc 0 (by omega)
   rw [show (a.add (i * 3)).add 0 = a.add (i * 3) from by simp [Addr.add]] at this
   exact this)
  refine ⟨(List.range len).map F, some a, m, by simp, by simp; omega, by unfold maxLen at hm; omega, by simp, ?_⟩
  intro b off s hs
  obtain rfl : a = ⟨b, off, s⟩ := Option.some.inj hs
  have h0 : 0 < len → b < W.heap.size ∧ s = none := fun h0 => by
   obtain ⟨va, vb, this, _⟩ := hF 0 h0
   rw [Nat.zero_mul] at this
   exact cell_none this rfl
  refine ⟨fun hh => h0 (by simpa using hh), fun j z hj => ?_⟩
  have hjl : j < len := by
   rcases Nat.lt_or_ge j len with q | q
   ·exact q
   ·rw [List.getElem?_eq_none (by simpa using q)] at hj; cases hj
  rw [List.getElem?_map, List.getElem?_range hjl] at hj
  have hz : F j = z := by simpa using hj
  subst hz
  obtain ⟨_, rfl⟩ := h0 (by omega)
  obtain ⟨va, vb, k1, k2, k3, k4, k5⟩ := hF j hjl
  rw [qgc] at k1 k2 k3
  rw [qgc] at k2 k3
  exact ⟨va, vb, k1, k2, k3, k4, k5⟩
end Go.Proofs.YthhgfhdmfhnklaaGreatDoor
namespace Go.Proofs.YthhgfhdmfhnklaaGreatDoor
open Go.RowKit Go.ChangeShapes Go.WideShapes
theorem size_n (vars : Int) : ∀ (N : Nat) (t : Tr), SizeOf.sizeOf t < N → ∀ (above : Nat) (x : Value) (w : World), qej vars t above → qei t ≤ 4096 → TrV w x t → Calls Tryz.prog 94 #[x] w (qea w (.tuple #[.int .i64 (qei t : Nat), .int .i64 (qdo t : Nat), .int .i64 (trDep t : Nat)])) := by
 intro N
 induction N with
 | zero => intro t h; omega
 | succ N ih =>
  intro t hN above x w hok hsz ht
  match t, hok, hN, hsz, ht with
  | .mk v [] r, _, _, _, ht =>
   obtain ⟨ao, c, rfl, hks, hc1, hc2, _, _⟩ := ht.open
   simp only [List.length_nil] at hks hc1 ⊢
   obtain ⟨W, hW⟩ : ∃ W, W = w.alloc (.cells #[.int .i64 v, .slice ao 0 c, .int .i64 r] 27) := ⟨_, rfl⟩
   have hbW : Below w.heap.size w W := by rw [hW]; exact qBA _ _
   obtain ⟨x0, x1, x2⟩ := qay (heap_alloc_new w (.cells #[.int .i64 v, .slice ao 0 c, .int .i64 r] 27))
   have HBW := qHd hbW
   clear hbW hks ht
   go_enter Tryz.func94, Tryz.ntmps94
   go_wp2_with fail
   rw [← hW]
   go_ret3
   exact ⟨by simp [qei, qdo, trDep], HBW.out⟩
  | .mk v [a, b] r, hok, hN, hsz, ht =>
   simp only [qej] at hok
   obtain ⟨q0, q1, q2, rfl, hoa, hob⟩ := hok
   obtain ⟨ao, c, rfl, hks, hc1, hc2, _, _⟩ := ht.open
   simp only [List.length_cons, List.length_nil] at hks hc1 ⊢
   obtain ⟨bk, ok, rfl, hbk, hjk, hat⟩ := hks.at (by decide); clear hjk hks ht
   obtain ⟨kva, kra, kaa, kna, kca, ca0, ca1, ca2, hTVa⟩ := (hat 0 a rfl).val
   obtain ⟨kvb, krb, kab, knb, kcb, cb0, cb1, cb2, hTVb⟩ := (hat 1 b rfl).val
   simp only [Nat.zero_mul, Nat.add_zero, Nat.one_mul] at ca0 ca1 ca2 cb0 cb1 cb2
   have HSA := qHd (show SizeOf.sizeOf a < N by have := qcj (v := v) (r := 0) (ks := [a, b]) (k := a) (by simp); omega)
   have HSB := qHd (show SizeOf.sizeOf b < N by have := qcj (v := v) (r := 0) (ks := [a, b]) (k := b) (by simp); omega)
   have KA := qHd (And.intro ca0 (And.intro ca1 ca2)); have KB := qHd (And.intro cb0 (And.intro cb1 cb2))
   have HTA := qHd hTVa; have HTB := qHd hTVb; have HOA := qHd hoa; have HOB := qHd hob; have HBK := qHd hbk
   have hsz' : 1 + qei a + qei b ≤ 4096 := by simpa [qei] using hsz
   have ta := (qdf a); have tb := (qdf b)
   obtain ⟨za, hza⟩ : ∃ z, z = qei a := ⟨_, rfl⟩
   obtain ⟨zb, hzb⟩ : ∃ z, z = qei b := ⟨_, rfl⟩
   obtain ⟨la, hla⟩ : ∃ z, z = qdo a := ⟨_, rfl⟩
   obtain ⟨lb, hlb⟩ : ∃ z, z = qdo b := ⟨_, rfl⟩
   obtain ⟨da, hda⟩ : ∃ z, z = trDep a := ⟨_, rfl⟩
   obtain ⟨db, hdb⟩ : ∃ z, z = trDep b := ⟨_, rfl⟩
   have HZA := qHd (show qei a ≤ 4096 by omega); have HZB := qHd (show qei b ≤ 4096 by omega)
   have R := qHd (show qei (.mk v [a, b] 0) = 1 + za + zb ∧ qdo (.mk v [a, b] 0) = la + lb ∧ trDep (.mk v [a, b] 0) = (if da < db then db else da) + 1 by rw [hza, hzb, hla, hlb, hda, hdb]; simp only [qei, qdo, trDep, true_and])
   have IHA := qHd (fun (w1 : World) (h : TrV w1 (.agg #[.int .i64 kva, .slice kaa kna kca, .int .i64 kra]) a) => ih a HSA.out _ _ w1 HOA.out HZA.out h)
   have IHB := qHd (fun (w1 : World) (h : TrV w1 (.agg #[.int .i64 kvb, .slice kab knb kcb, .int .i64 krb]) b) => ih b HSB.out _ _ w1 HOB.out HZB.out h)
   rw [← hza, ← hla, ← hda] at IHA
   rw [← hzb, ← hlb, ← hdb] at IHB
   rw [← hza, ← hzb] at hsz'
   rw [← hza, ← hla, ← hda] at ta
   rw [← hzb, ← hlb, ← hdb] at tb
   clear ca0 ca1 ca2 cb0 cb1 cb2 hat hTVa hTVb hoa hob q0 q1 q2 hza hzb hla hlb hda hdb hsz hN
   obtain ⟨W, hW, hbW, g1, hG1, hg1⟩ := qBx5 w (.cells #[.int .i64 v, .slice (some ⟨bk, ok, none⟩) 2 c, .int .i64 0] 27)
   have HB := qHd hbW; have G1 := qHd hg1
   obtain ⟨x0, x1, x2⟩ := qay hg1
   have k0 := (hbW.cell (p := ⟨bk, _, none⟩) hbk).trans KA.out.1
   have k1 := (hbW.cell (p := ⟨bk, _, none⟩) hbk).trans KA.out.2.1
   have k2 := (hbW.cell (p := ⟨bk, _, none⟩) hbk).trans KA.out.2.2
   rw [hW, hG1] at x0 x1 x2
   rw [hW] at k0 k1 k2
   have HK := qHd (IHA.out W (HTA.out.below hbW))
   clear hbW hg1
   go_enter Tryz.func94, Tryz.ntmps94
   go_wp2_with (with_reducible refine qad ?_)
   rw [← hW, ← hG1]
   clear hW hG1 x0 x1 x2 k0 k1 k2
   refine qap.mk ?_
   (with_reducible refine HK.out.mono ?_); rintro e w1 ⟨rfl, hb1⟩
   have HB := qHd (HB.out.trans (hb1.mono HB.out.size)); have G1 := qHd (qaa G1.out hb1)
   clear hb1 HK
   obtain ⟨x0, x1, x2⟩ := qay G1.out
   have k0 := (HB.out.cell (p := ⟨bk, _, none⟩) hbk).trans KB.out.1
   have k1 := (HB.out.cell (p := ⟨bk, _, none⟩) hbk).trans KB.out.2.1
   have k2 := (HB.out.cell (p := ⟨bk, _, none⟩) hbk).trans KB.out.2.2
   have HK := qHd (IHB.out w1 (HTB.out.below HB.out))
   go_wp2_with (with_reducible refine qad ?_)
   clear x0 x1 x2 k0 k1 k2
   refine qap.mk ?_
   (with_reducible refine HK.out.mono ?_); rintro e w2 ⟨rfl, hb2⟩
   have HB := qHd (HB.out.trans (hb2.mono HB.out.size))
   clear hb2 HK
   have hmx : max (da : Int) (db : Int) = (((if da < db then db else da) : Nat) : Int) := by split <;> omega
   obtain ⟨dm, hdm⟩ : ∃ d, d = (if da < db then db else da) := ⟨_, rfl⟩
   rw [← hdm] at hmx R
   have hdl : dm ≤ 4096 := by rw [hdm]; split <;> omega
   clear hdm
   go_wp2_with fail
   go_ret3
   refine ⟨?_, HB.out⟩
   rw [R.out.1, R.out.2.1, R.out.2.2]
   refine congrArg Ending.returned ?_
   simp
   omega
  | .mk v [a] r, hok, _, _, _ => simp only [qej] at hok
  | .mk v (_ :: _ :: _ :: _) r, hok, _, _, _ => simp only [qej] at hok
theorem count_n (vars : Int) : ∀ (N : Nat) (t : Tr), SizeOf.sizeOf t < N → ∀ (above : Nat) (x : Value) (w : World), qej vars t above → qei t ≤ 4096 → TrV w x t → Calls Tryz.prog 137 #[x] w (qea w (.tuple #[.int .i64 (qei t : Nat), .int .i64 (qdo t : Nat), .int .i64 (trDep t : Nat)])) := by
 intro N
 induction N with
 | zero => intro t h; omega
 | succ N ih =>
  intro t hN above x w hok hsz ht
  match t, hok, hN, hsz, ht with
  | .mk v [] r, _, _, _, ht =>
   obtain ⟨ao, c, rfl, hks, hc1, hc2, _, _⟩ := ht.open
   simp only [List.length_nil] at hks hc1 ⊢
   obtain ⟨W, hW⟩ : ∃ W, W = w.alloc (.cells #[.int .i64 v, .slice ao 0 c, .int .i64 r] 27) := ⟨_, rfl⟩
   have hbW : Below w.heap.size w W := by rw [hW]; exact qBA _ _
   obtain ⟨x0, x1, x2⟩ := qay (heap_alloc_new w (.cells #[.int .i64 v, .slice ao 0 c, .int .i64 r] 27))
   have HBW := qHd hbW
   clear hbW hks ht
   go_enter Tryz.func137, Tryz.ntmps137
   go_wp2_with fail
   rw [← hW]
   go_ret3
   exact ⟨by simp [qei, qdo, trDep], HBW.out⟩
  | .mk v [a, b] r, hok, hN, hsz, ht =>
   simp only [qej] at hok
   obtain ⟨q0, q1, q2, rfl, hoa, hob⟩ := hok
   obtain ⟨ao, c, rfl, hks, hc1, hc2, _, _⟩ := ht.open
   simp only [List.length_cons, List.length_nil] at hks hc1 ⊢
   obtain ⟨bk, ok, rfl, hbk, hjk, hat⟩ := hks.at (by decide); clear hjk hks ht
   obtain ⟨kva, kra, kaa, kna, kca, ca0, ca1, ca2, hTVa⟩ := (hat 0 a rfl).val
   obtain ⟨kvb, krb, kab, knb, kcb, cb0, cb1, cb2, hTVb⟩ := (hat 1 b rfl).val
   simp only [Nat.zero_mul, Nat.add_zero, Nat.one_mul] at ca0 ca1 ca2 cb0 cb1 cb2
   have HSA := qHd (show SizeOf.sizeOf a < N by have := qcj (v := v) (r := 0) (ks := [a, b]) (k := a) (by simp); omega)
   have HSB := qHd (show SizeOf.sizeOf b < N by have := qcj (v := v) (r := 0) (ks := [a, b]) (k := b) (by simp); omega)
   have KA := qHd (And.intro ca0 (And.intro ca1 ca2)); have KB := qHd (And.intro cb0 (And.intro cb1 cb2))
   have HTA := qHd hTVa; have HTB := qHd hTVb; have HOA := qHd hoa; have HOB := qHd hob; have HBK := qHd hbk
   have hsz' : 1 + qei a + qei b ≤ 4096 := by simpa [qei] using hsz
   have ta := (qdf a); have tb := (qdf b)
   obtain ⟨za, hza⟩ : ∃ z, z = qei a := ⟨_, rfl⟩
   obtain ⟨zb, hzb⟩ : ∃ z, z = qei b := ⟨_, rfl⟩
   obtain ⟨la, hla⟩ : ∃ z, z = qdo a := ⟨_, rfl⟩
   obtain ⟨lb, hlb⟩ : ∃ z, z = qdo b := ⟨_, rfl⟩
   obtain ⟨da, hda⟩ : ∃ z, z = trDep a := ⟨_, rfl⟩
   obtain ⟨db, hdb⟩ : ∃ z, z = trDep b := ⟨_, rfl⟩
   have HZA := qHd (show qei a ≤ 4096 by omega); have HZB := qHd (show qei b ≤ 4096 by omega)
   have R := qHd (show qei (.mk v [a, b] 0) = 1 + za + zb ∧ qdo (.mk v [a, b] 0) = la + lb ∧ trDep (.mk v [a, b] 0) = (if da < db then db else da) + 1 by rw [hza, hzb, hla, hlb, hda, hdb]; simp only [qei, qdo, trDep, true_and])
   have IHA := qHd (fun (w1 : World) (h : TrV w1 (.agg #[.int .i64 kva, .slice kaa kna kca, .int .i64 kra]) a) => ih a HSA.out _ _ w1 HOA.out HZA.out h)
   have IHB := qHd (fun (w1 : World) (h : TrV w1 (.agg #[.int .i64 kvb, .slice kab knb kcb, .int .i64 krb]) b) => ih b HSB.out _ _ w1 HOB.out HZB.out h)
   rw [← hza, ← hla, ← hda] at IHA
   rw [← hzb, ← hlb, ← hdb] at IHB
   rw [← hza, ← hzb] at hsz'
   rw [← hza, ← hla, ← hda] at ta
   rw [← hzb, ← hlb, ← hdb] at tb
   clear ca0 ca1 ca2 cb0 cb1 cb2 hat hTVa hTVb hoa hob q0 q1 q2 hza hzb hla hlb hda hdb hsz hN
   obtain ⟨W, hW, hbW, g1, hG1, hg1⟩ := qBx5 w (.cells #[.int .i64 v, .slice (some ⟨bk, ok, none⟩) 2 c, .int .i64 0] 27)
   have HB := qHd hbW; have G1 := qHd hg1
   obtain ⟨x0, x1, x2⟩ := qay hg1
   have k0 := (hbW.cell (p := ⟨bk, _, none⟩) hbk).trans KA.out.1
   have k1 := (hbW.cell (p := ⟨bk, _, none⟩) hbk).trans KA.out.2.1
   have k2 := (hbW.cell (p := ⟨bk, _, none⟩) hbk).trans KA.out.2.2
   rw [hW, hG1] at x0 x1 x2
   rw [hW] at k0 k1 k2
   have HK := qHd (IHA.out W (HTA.out.below hbW))
   clear hbW hg1
   go_enter Tryz.func137, Tryz.ntmps137
   go_wp2_with (with_reducible refine qad ?_)
   rw [← hW, ← hG1]
   clear hW hG1 x0 x1 x2 k0 k1 k2
   refine qap.mk ?_
   (with_reducible refine HK.out.mono ?_); rintro e w1 ⟨rfl, hb1⟩
   have HB := qHd (HB.out.trans (hb1.mono HB.out.size)); have G1 := qHd (qaa G1.out hb1)
   clear hb1 HK
   obtain ⟨x0, x1, x2⟩ := qay G1.out
   have k0 := (HB.out.cell (p := ⟨bk, _, none⟩) hbk).trans KB.out.1
   have k1 := (HB.out.cell (p := ⟨bk, _, none⟩) hbk).trans KB.out.2.1
   have k2 := (HB.out.cell (p := ⟨bk, _, none⟩) hbk).trans KB.out.2.2
   have HK := qHd (IHB.out w1 (HTB.out.below HB.out))
   go_wp2_with (with_reducible refine qad ?_)
   clear x0 x1 x2 k0 k1 k2
   refine qap.mk ?_
   (with_reducible refine HK.out.mono ?_); rintro e w2 ⟨rfl, hb2⟩
   have HB := qHd (HB.out.trans (hb2.mono HB.out.size))
   clear hb2 HK
   have hmx : max (da : Int) (db : Int) = (((if da < db then db else da) : Nat) : Int) := by split <;> omega
   obtain ⟨dm, hdm⟩ : ∃ d, d = (if da < db then db else da) := ⟨_, rfl⟩
   rw [← hdm] at hmx R
   have hdl : dm ≤ 4096 := by rw [hdm]; split <;> omega
   clear hdm
   go_wp2_with fail
   go_ret3
   refine ⟨?_, HB.out⟩
   rw [R.out.1, R.out.2.1, R.out.2.2]
   refine congrArg Ending.returned ?_
   simp
   omega
  | .mk v [a] r, hok, _, _, _ => simp only [qej] at hok
  | .mk v (_ :: _ :: _ :: _) r, hok, _, _, _ => simp only [qej] at hok
theorem trSwap_cnt (by_ : Tr) : ∀ (t : Tr) (k : Int), (qbo by_ t k).2 = qdo t
 | .mk v [] r, k => by simp only [qbo, qdo]; split <;> rfl
 | .mk v [a, b] r, k => by simp only [qbo, qdo]; rw [trSwap_cnt by_ a, trSwap_cnt by_ b]
 | .mk v [a] r, k => by simp only [qbo, qdo]; split <;> rfl
 | .mk v (_ :: _ :: _ :: _) r, k => by simp only [qbo, qdo]; split <;> rfl
theorem wrap_any {z : Int} (h : -9223372036854775808 ≤ z ∧ z < 9223372036854775808) : IntKind.wrap .i64 z = z := by
 unfold IntKind.wrap
 simp [IntKind.bits, IntKind.signed]
 omega
theorem rswap_n (vars : Int) (by_ : Tr) : ∀ (N : Nat) (t : Tr), SizeOf.sizeOf t < N → ∀ (above : Nat) (k : Int) (x y : Value) (w : World), qej vars t above → qei t ≤ 4096 → -8192 ≤ k - (qei t : Int) → k ≤ 8192 → TrV w x t → TrG w y by_ →
  Calls Tryz.prog 101 #[x, .int .i64 k, y] w (RetGw w (qbo by_ t k).1 (qbo by_ t k).2) := by
 intro N
 induction N with
 | zero => intro t h; omega
 | succ N ih =>
  intro t hN above k x y w hok hsz hk1 hk2 ht hy
  obtain ⟨yv, yr, ya, yn, yc, rfl⟩ := hy.tr.shape
  match t, hok, hN, hsz, hk1, ht with
  | .mk v [] r, hok, _, _, _, ht =>
   simp only [qej] at hok
   subst hok
   obtain ⟨ao, c, rfl, hks, hc1, hc2, hiv, hir⟩ := ht.open
   have hao : ao = none → c = 0 := by obtain ⟨a', c', e, _, _, h3, _⟩ := hks; cases e; exact h3
   simp only [List.length_nil] at hks hc1 ⊢
   obtain ⟨wa, hwa⟩ : ∃ x, x = w.alloc (.cells #[.int .i64 0, .slice ao 0 c, .int .i64 r] 27) := ⟨_, rfl⟩
   obtain ⟨wb, hwb⟩ : ∃ x, x = wa.alloc (.cells #[.int .i64 yv, .slice ya yn yc, .int .i64 yr] 27) := ⟨_, rfl⟩
   obtain ⟨W, hW⟩ : ∃ x, x = wb.alloc (.cells #[.int .i64 0, .slice none 0 0, .int .i64 0] 27) := ⟨_, rfl⟩
   have ba : Below w.heap.size w wa := by rw [hwa]; exact qBA _ _
   have bb : Below wa.heap.size wa wb := by rw [hwb]; exact qBA _ _
   have bW : Below wb.heap.size wb W := by rw [hW]; exact qBA _ _
   have sa : wa.heap.size = w.heap.size + 1 := by rw [hwa]; exact Array.size_push (xs := w.heap) _
   have sb : wb.heap.size = w.heap.size + 1 + 1 := by rw [← sa, hwb]; exact Array.size_push (xs := wa.heap) _
   have hg3 : W.heap[w.heap.size]? = some (.cells #[.int .i64 0, .slice ao 0 c, .int .i64 r] 27) := qaa (qaa (by rw [hwa]; exact heap_alloc_new w _) bb) bW
   have hg5 : W.heap[w.heap.size + 1]? = some (.cells #[.int .i64 yv, .slice ya yn yc, .int .i64 yr] 27) := qaa (by rw [← sa, hwb]; exact heap_alloc_new wa _) bW
   have hg6 : W.heap[w.heap.size + 1 + 1]? = some (.cells #[.int .i64 0, .slice none 0 0, .int .i64 0] 27) := by rw [← sb, hW]; exact heap_alloc_new wb _
   have HB := qHd (ba.trans ((bb.mono ba.size).trans (bW.mono (Nat.le_trans ba.size bb.size))))
   obtain ⟨g3, hG3⟩ : ∃ g, g = w.heap.size := ⟨_, rfl⟩
   obtain ⟨g5, hG5⟩ : ∃ g, g = w.heap.size + 1 := ⟨_, rfl⟩
   obtain ⟨g6, hG6⟩ : ∃ g, g = w.heap.size + 1 + 1 := ⟨_, rfl⟩
   rw [← hG3] at hg3; rw [← hG5] at hg5; rw [← hG6] at hg6
   have l6 : w.heap.size ≤ g6 := by omega
   have G3 := qHd hg3; have G5 := qHd hg5; have G6 := qHd hg6
   have HY := qHd (hy.keep (qbu HB.out))
   obtain ⟨x0, x1, x2⟩ := qay hg3
   obtain ⟨y0, y1, y2⟩ := qay hg5
   rw [hW, hwb, hwa, hG3] at x0 x1 x2
   rw [hW, hwb, hwa, hG5] at y0 y1 y2
   clear ba bb bW sa sb hg3 hg5 hg6
   by_cases hk0 : k = 0
   ·subst hk0
    have R := qHd (show qbo by_ (.mk 0 [] r) 0 = (by_, 1) by simp [qbo])
    go_enter Tryz.func101, Tryz.ntmps101
    go_wp2_with (with_reducible refine qaf ?_)
    rw [← hwa, ← hwb, ← hW, ← hG6, ← hG5, ← hG3]
    clear hwa hwb hW hG6 hG5 hG3 x0 x1 x2 y0 y1 y2
    refine qan g6 0 [.int .i64 yv, .slice ya yn yc, .int .i64 yr] G6.out rfl rfl (Nat.le_of_ble_eq_true rfl) (by kernel_rfl) rfl ?_
    intro wz hpz
    have GZ := qHd (show wz.heap[g6]? = some (.cells #[.int .i64 yv, .slice ya yn yc, .int .i64 yr] 27) by rw [hpz]; exact qbd G6.out)
    have HBz := qHd (qbl hpz HB.out l6)
    have KZ := qch hpz G6.out (by simp)
    clear hpz
    go_wp2_with (with_reducible first | refine qad ?_ | refine qai ?_ | refine qaj ?_ | refine qak ?_ | refine qag ?_)
    refine qcl rfl g6 #[.int .i64 yv, .slice ya yn yc, .int .i64 yr] rfl GZ.out Tryz.underlying27 rfl (by kernel_rfl) rfl ?_
    rw [R.out]; exact ⟨_, rfl, HY.out.keep KZ, HBz.out⟩
   ·have R := qHd (show qbo by_ (.mk 0 [] r) k = (.mk 0 [] r, 1) by simp [qbo, hk0])
    go_enter Tryz.func101, Tryz.ntmps101
    go_wp2_with (with_reducible refine qaf ?_)
    rw [← hwa, ← hwb, ← hW, ← hG6, ← hG5, ← hG3]
    clear hwa hwb hW hG6 hG5 hG3 x0 x1 x2 y0 y1 y2
    refine qan g6 0 [.int .i64 0, .slice ao 0 c, .int .i64 r] G6.out rfl rfl (Nat.le_of_ble_eq_true rfl) (by kernel_rfl) rfl ?_
    intro wz hpz
    have GZ := qHd (show wz.heap[g6]? = some (.cells #[.int .i64 0, .slice ao 0 c, .int .i64 r] 27) by rw [hpz]; exact qbd G6.out)
    have HBz := qHd (qbl hpz HB.out l6)
    have KZ := qch hpz G6.out (by simp)
    clear hpz
    go_wp2_with (with_reducible first | refine qad ?_ | refine qai ?_ | refine qaj ?_ | refine qak ?_ | refine qag ?_)
    refine qcl rfl g6 #[.int .i64 0, .slice ao 0 c, .int .i64 r] rfl GZ.out Tryz.underlying27 rfl (by kernel_rfl) rfl ?_
    rw [R.out]; exact ⟨_, rfl, fun w2 _ => ⟨_, rfl, ⟨ao, c, rfl, Nat.zero_le _, hc2, hao, fun b o s h => ⟨fun h => absurd h (Nat.lt_irrefl _), by simp only [qeb]⟩⟩, ⟨by omega, by omega⟩, hir⟩, HBz.out⟩
  | .mk v [a, b] r, hok, hN, hsz, hk1, ht =>
   simp only [qej] at hok
   obtain ⟨q0, q1, q2, rfl, hoa, hob⟩ := hok
   obtain ⟨ao, c, rfl, hks, hc1, hc2, hiv, _⟩ := ht.open
   simp only [List.length_cons, List.length_nil] at hks hc1 ⊢
   obtain ⟨bk, ok, rfl, hbk, hjk, hat⟩ := hks.at (by decide); clear hjk hks ht
   obtain ⟨kva, kra, kaa, kna, kca, ca0, ca1, ca2, hTVa⟩ := (hat 0 a rfl).val
   obtain ⟨kvb, krb, kab, knb, kcb, cb0, cb1, cb2, hTVb⟩ := (hat 1 b rfl).val
   simp only [Nat.zero_mul, Nat.add_zero, Nat.one_mul] at ca0 ca1 ca2 cb0 cb1 cb2
   have HSA := qHd (show SizeOf.sizeOf a < N by have := qcj (v := v) (r := 0) (ks := [a, b]) (k := a) (by simp); omega)
   have HSB := qHd (show SizeOf.sizeOf b < N by have := qcj (v := v) (r := 0) (ks := [a, b]) (k := b) (by simp); omega)
   have KA := qHd (And.intro ca0 (And.intro ca1 ca2)); have KB := qHd (And.intro cb0 (And.intro cb1 cb2))
   have HTA := qHd hTVa; have HTB := qHd hTVb; have HOA := qHd hoa; have HOB := qHd hob
   have hsz' : 1 + qei a + qei b ≤ 4096 := by simpa [qei] using hsz
   have hk1' : -8192 ≤ k - ((1 + qei a + qei b : Nat) : Int) := by simpa [qei] using hk1
   have hca := trSwap_cnt by_ a k
   have hla := (qdf a).2
   obtain ⟨k2, hk2'⟩ : ∃ k2, k2 = k - ((qbo by_ a k).2 : Int) := ⟨_, rfl⟩
   have hcb := trSwap_cnt by_ b k2
   have hlb := (qdf b).2
   have R0 : qbo by_ (.mk v [a, b] 0) k = (.mk v [(qbo by_ a k).1, (qbo by_ b k2).1] 0, (qbo by_ a k).2 + (qbo by_ b k2).2) := by rw [hk2']; rfl
   have IHA0 := fun (w1 : World) (h : TrV w1 (.agg #[.int .i64 kva, .slice kaa kna kca, .int .i64 kra]) a) (h2 : TrG w1 (.agg #[.int .i64 yv, .slice ya yn yc, .int .i64 yr]) by_) => ih a HSA.out _ k _ _ w1 HOA.out (by omega) (by omega) hk2 h h2
   have IHB0 := fun (w1 : World) (h : TrV w1 (.agg #[.int .i64 kvb, .slice kab knb kcb, .int .i64 krb]) b) (h2 : TrG w1 (.agg #[.int .i64 yv, .slice ya yn yc, .int .i64 yr]) by_) => ih b HSB.out _ k2 _ _ w1 HOB.out (by omega) (by rw [hk2', hca]; omega) (by rw [hk2', hca]; omega) h h2
   obtain ⟨sA, hsA⟩ : ∃ z, z = (qbo by_ a k).1 := ⟨_, rfl⟩
   obtain ⟨na, hna⟩ : ∃ z, z = (qbo by_ a k).2 := ⟨_, rfl⟩
   obtain ⟨sB, hsB⟩ : ∃ z, z = (qbo by_ b k2).1 := ⟨_, rfl⟩
   obtain ⟨nb, hnb⟩ : ∃ z, z = (qbo by_ b k2).2 := ⟨_, rfl⟩
   rw [← hsA, ← hna, ← hsB, ← hnb] at R0
   rw [← hsA, ← hna] at IHA0
   rw [← hsB, ← hnb] at IHB0
   rw [← hna] at hca hk2'
   rw [← hnb] at hcb
   have R := qHd R0
   have hna4 : na ≤ 4096 := by omega
   have hnb4 : nb ≤ 4096 := by omega
   have DK := qHd (show IntKind.wrap .i64 (k - (na : Int)) = k2 by rw [hk2', wrap_any ⟨by omega, by omega⟩])
   have IHA := qHd (fun w1 (hbl : Below w.heap.size w w1) => IHA0 w1 (HTA.out.below hbl) (hy.keep (qbu hbl)))
   have IHB := qHd (fun w1 (hbl : Below w.heap.size w w1) => IHB0 w1 (HTB.out.below hbl) (hy.keep (qbu hbl)))
   clear ca0 ca1 ca2 cb0 cb1 cb2 hat hTVa hTVb hoa hob q0 q1 q2 hsA hna hsB hnb R0 IHA0 IHB0 hca hcb hla hlb hk1 hk1' hk2' hsz hsz' hN
   obtain ⟨wa, hwa⟩ : ∃ x, x = w.alloc (.cells #[.int .i64 v, .slice (some ⟨bk, ok, none⟩) 2 c, .int .i64 0] 27) := ⟨_, rfl⟩
   obtain ⟨wb, hwb⟩ : ∃ x, x = wa.alloc (.cells #[.int .i64 yv, .slice ya yn yc, .int .i64 yr] 27) := ⟨_, rfl⟩
   obtain ⟨W, hW⟩ : ∃ x, x = wb.alloc (.cells #[.int .i64 0, .slice none 0 0, .int .i64 0] 27) := ⟨_, rfl⟩
   have ba : Below w.heap.size w wa := by rw [hwa]; exact qBA _ _
   have bb : Below wa.heap.size wa wb := by rw [hwb]; exact qBA _ _
   have bW : Below wb.heap.size wb W := by rw [hW]; exact qBA _ _
   have sa : wa.heap.size = w.heap.size + 1 := by rw [hwa]; exact Array.size_push (xs := w.heap) _
   have sb : wb.heap.size = w.heap.size + 1 + 1 := by rw [← sa, hwb]; exact Array.size_push (xs := wa.heap) _
   have hg3 : W.heap[w.heap.size]? = some (.cells #[.int .i64 v, .slice (some ⟨bk, ok, none⟩) 2 c, .int .i64 0] 27) := qaa (qaa (by rw [hwa]; exact heap_alloc_new w _) bb) bW
   have hg5 : W.heap[w.heap.size + 1]? = some (.cells #[.int .i64 yv, .slice ya yn yc, .int .i64 yr] 27) := qaa (by rw [← sa, hwb]; exact heap_alloc_new wa _) bW
   have hg6 : W.heap[w.heap.size + 1 + 1]? = some (.cells #[.int .i64 0, .slice none 0 0, .int .i64 0] 27) := by rw [← sb, hW]; exact heap_alloc_new wb _
   have HB := qHd (ba.trans ((bb.mono ba.size).trans (bW.mono (Nat.le_trans ba.size bb.size))))
   obtain ⟨g3, hG3⟩ : ∃ g, g = w.heap.size := ⟨_, rfl⟩
   obtain ⟨g5, hG5⟩ : ∃ g, g = w.heap.size + 1 := ⟨_, rfl⟩
   obtain ⟨g6, hG6⟩ : ∃ g, g = w.heap.size + 1 + 1 := ⟨_, rfl⟩
   rw [← hG3] at hg3; rw [← hG5] at hg5; rw [← hG6] at hg6
   have l6 : w.heap.size ≤ g6 := by omega
   have G3 := qHd hg3; have G5 := qHd hg5; have G6 := qHd hg6
   have HY := qHd (hy.keep (qbu HB.out))
   obtain ⟨x0, x1, x2⟩ := qay hg3
   obtain ⟨y0, y1, y2⟩ := qay hg5
   rw [hW, hwb, hwa, hG3] at x0 x1 x2
   rw [hW, hwb, hwa, hG5] at y0 y1 y2
   clear ba bb bW sa sb hg3 hg5 hg6
   go_enter Tryz.func101, Tryz.ntmps101
   go_wp2_with (with_reducible first | refine qad ?_ | refine qai ?_ | refine qaj ?_ | refine qak ?_ | refine qag ?_)
   rw [← hwa, ← hwb, ← hW, ← hG6, ← hG5, ← hG3]
   clear hwa hwb hW hG6 hG5 hG3 x0 x1 x2 y0 y1 y2
   refine qap.mk ?_
   refine qao (A := ?aaWa) (w := W) 11 [9] (by kernel_rfl) (Fl [KEq (.pointer (some ⟨g3, 1, none⟩)), KEq (.slice (some ⟨bk, ok, none⟩) 2 c), KEq (.pointer (some ⟨bk, ok, none⟩)), KEq (.agg #[.int .i64 kva, .slice kaa kna kca, .int .i64 kra]), KEq (.int .i64 k), KEq (.agg #[.int .i64 yv, .slice ya yn yc, .int .i64 yr]), KGl sA na, KGl sA na, KGt sA, KEq (.int .i64 (na : Nat)), KNew W.heap.size #[.int .i64 0, .slice none 0 0, .int .i64 0] 27]) (fun i => i == 10) (by kernel_rfl) ?hqWa (qcw (qae (kEq _) (qae (kEq _) (qae (kEq _) (qae (kEq _) (qae (kEq _) (qae (kEq _) (qae (kGl _ _) (qae (kGl _ _) (qae (kGt _) (qae (kEq _) (qae (kNew _ _ _) qcv)))))))))))) ?haWa ?stWa ?tlWa
   case hqWa =>
    intro c a d v w h
    first | (simp only [Exit.then] at h ⊢; exact h) | (simp only [Exit.inBlock, Exit.then] at h ⊢; exact h) | exact h
   case haWa =>
    intro vals
    simp only [qba, qcd, if_true, Act.put, List.setIfInBounds_toArray, List.set_cons_zero, List.set_cons_succ, List.getElem?_toArray, List.getElem?_cons_zero, List.getElem?_cons_succ, Option.bind_some]
    exact rfl
   case stWa =>
    simp only [List.take_succ_cons, List.take_zero]
    refine qab rfl rfl ?_ (qab rfl rfl ?_ (qab rfl rfl ?_ (qab rfl rfl ?_ (qab rfl rfl ?_ (qab rfl rfl ?_ (qab rfl rfl ?_ (qab rfl rfl ?_ (qab rfl rfl ?_ (qct rfl ?_ (qab rfl rfl ?_ (qav)))))))))))
    ·intro vals w1 hb hd
     refine qSv (.pointer (some ⟨g3, 1, none⟩)) (by go_simp) (qLk rfl rfl)
    ·intro vals w1 hb hd
     obtain ⟨e0, e1, e2⟩ := qay (qaa G3.out hb)
     rw [show vals 0 = .pointer (some ⟨g3, 1, none⟩) from hd 0 (by kernel_rfl)]
     refine qSv (.slice (some ⟨bk, ok, none⟩) 2 c) (by go_simp) (qLk rfl rfl)
    ·intro vals w1 hb hd
     rw [show vals 1 = .slice (some ⟨bk, ok, none⟩) 2 c from hd 1 (by kernel_rfl)]
     refine qSv (.pointer (some ⟨bk, ok, none⟩)) (by go_simp) (qLk rfl rfl)
    ·intro vals w1 hb hd
     have hbx := HB.out.trans (hb.mono HB.out.size)
     have k0 := (hbx.cell (p := ⟨bk, _, none⟩) hbk).trans KA.out.1
     have k1 := (hbx.cell (p := ⟨bk, _, none⟩) hbk).trans KA.out.2.1
     have k2 := (hbx.cell (p := ⟨bk, _, none⟩) hbk).trans KA.out.2.2
     rw [show vals 2 = .pointer (some ⟨bk, ok, none⟩) from hd 2 (by kernel_rfl)]
     refine qSv (.agg #[.int .i64 kva, .slice kaa kna kca, .int .i64 kra]) (by go_simp) (qLk rfl rfl)
    ·intro vals w1 hb hd
     refine qSv (.int .i64 k) (by go_simp) (qLk rfl rfl)
    ·intro vals w1 hb hd
     obtain ⟨e0, e1, e2⟩ := qay (qaa G5.out hb)
     refine qSv (.agg #[.int .i64 yv, .slice ya yn yc, .int .i64 yr]) (by go_simp) (qLk rfl rfl)
    ·intro vals w1 hb hd
     have d3 : KEq (.agg #[.int .i64 kva, .slice kaa kna kca, .int .i64 kra]) (vals 3) w1 := hd 3 (by kernel_rfl)
     have d4 : KEq (.int .i64 k) (vals 4) w1 := hd 4 (by kernel_rfl)
     have d5 : KEq (.agg #[.int .i64 yv, .slice ya yn yc, .int .i64 yr]) (vals 5) w1 := hd 5 (by kernel_rfl)
     have HS := qHd (IHA.out w1 (HB.out.trans (hb.mono HB.out.size)))
     have z3 : vals 3 = _ := d3
     rw [z3]; clear z3
     have z4 : vals 4 = _ := d4
     rw [z4]; clear z4
     have z5 : vals 5 = _ := d5
     rw [z5]; clear z5
     refine qat (by go_simp; first | done | exact ⟨⟨rfl, rfl⟩, rfl⟩) ?_
     (with_reducible refine HS.out.mono ?_); rintro e w2 ⟨v, rfl, hv, hb2⟩
     exact ⟨_, rfl, qar hb2 ⟨v, rfl, hv⟩ (fun h => by cases h)⟩
    ·intro vals w1 hb hd
     have d6 : KGl sA na (vals 6) w1 := hd 6 (by kernel_rfl)
     obtain ⟨v, ev, hv⟩ := d6
     rw [ev]
     refine qaq (v := .tuple #[v, .int .i64 (na : Nat)]) (w' := w1) (by go_simp) (qar (Below.refl _ _) ⟨v, rfl, hv⟩ (fun h => by cases h))
    ·intro vals w1 hb hd
     have d7 : KGl sA na (vals 7) w1 := hd 7 (by kernel_rfl)
     obtain ⟨v, ev, hv⟩ := d7
     rw [ev]
     refine qaq (v := v) (w' := w1) (by go_simp) (qar (Below.refl _ _) hv (fun h => by cases h))
    ·intro vals w1 hb hd
     have d7 : KGl sA na (vals 7) w1 := hd 7 (by kernel_rfl)
     obtain ⟨v, ev, hv⟩ := d7
     rw [ev]
     refine qbv (v := .int .i64 (na : Nat)) (fun w => by go_simp) (qLk rfl rfl)
    ·intro vals w1 hb hd
     refine qaq (v := .pointer (some ⟨w1.heap.size, 0, none⟩)) (w' := w1.alloc (.cells #[.int .i64 0, .slice none 0 0, .int .i64 0] 27)) (by go_simp) (qar ((Below.refl _ _).alloc (Nat.le_refl _) _) ⟨_, hb.size, rfl, heap_alloc_new _ _⟩ (fun _ => ⟨rfl, by simp⟩))
   case tlWa =>
    intro vals w5 hb5 hf5 hdis
    simp only [List.drop_succ_cons, List.drop_zero]
    have z1 : vals 9 = _ := hf5 9 (by decide)
    obtain ⟨gA, hgA, ev, hzA⟩ : KNew W.heap.size #[.int .i64 0, .slice none 0 0, .int .i64 0] 27 (vals 10) w5 := hf5 10 (by decide)
    have hta : TrG w5 (vals 8) sA := hf5 8 (by decide)
    rw [z1, ev]
    obtain ⟨va, hva⟩ : ∃ u, u = vals 8 := ⟨_, rfl⟩
    rw [← hva] at hta ⊢
    clear z1 ev hf5 hdis hva
    obtain ⟨av, ar, aa, an, ac, rfl⟩ := hta.tr.shape
    go_wp2_with (with_reducible refine qaf ?_)
    refine qan gA 0 [.int .i64 av, .slice aa an ac, .int .i64 ar] hzA rfl rfl (Nat.le_of_ble_eq_true rfl) (by kernel_rfl) rfl ?_
    intro w6 hp6
    have n3A : g3 ≠ gA := by have := qaw G3.out; omega
    have n5A : g5 ≠ gA := by have := qaw G5.out; omega
    have n6A : g6 ≠ gA := by have := qaw G6.out; omega
    have hs4 := HB.out.size
    have KA6 := keep6_trans (qbu hb5) (qch hp6 hzA (by simp))
    have HY := qHd (HY.out.keep KA6)
    have G3 := qHd (qbr hp6 (qaa G3.out hb5) n3A); have G5 := qHd (qbr hp6 (qaa G5.out hb5) n5A); have G6 := qHd (qbr hp6 (qaa G6.out hb5) n6A)
    have BA := qHd (show w6.heap[gA]? = some (.cells #[.int .i64 av, .slice aa an ac, .int .i64 ar] 27) by rw [hp6]; exact qbd hzA)
    have HB := qHd (qbl hp6 (HB.out.trans (hb5.mono HB.out.size)) (by omega))
    have TA := qHd (hta.keep (qch hp6 hzA (by simp)))
    clear hp6 hb5 hzA hta KA6
    have IHB := qHd (fun w1 (hbl : Below w.heap.size w w1) => IHB.out w1 hbl)
    go_wp2_with (with_reducible first | refine qad ?_ | refine qai ?_ | refine qaj ?_ | refine qak ?_ | refine qag ?_)
    refine qap.mk ?_
    refine qao (A := ?aaWb) (w := w6) 13 [11] (by kernel_rfl) (Fl [KEq (.pointer (some ⟨g3, 1, none⟩)), KEq (.slice (some ⟨bk, ok, none⟩) 2 c), KEq (.pointer (some ⟨bk, ok + 3, none⟩)), KEq (.agg #[.int .i64 kvb, .slice kab knb kcb, .int .i64 krb]), KEq (.int .i64 k), KEq (.int .i64 (na : Nat)), KEq (.int .i64 k2), KEq (.agg #[.int .i64 yv, .slice ya yn yc, .int .i64 yr]), KGl sB nb, KGl sB nb, KGt sB, KEq (.int .i64 (nb : Nat)), KNew w6.heap.size #[.int .i64 0, .slice none 0 0, .int .i64 0] 27]) (fun i => i == 12) (by kernel_rfl) ?hqWb (qcw (qae (kEq _) (qae (kEq _) (qae (kEq _) (qae (kEq _) (qae (kEq _) (qae (kEq _) (qae (kEq _) (qae (kEq _) (qae (kGl _ _) (qae (kGl _ _) (qae (kGt _) (qae (kEq _) (qae (kNew _ _ _) qcv)))))))))))))) ?haWb ?stWb ?tlWb
    case hqWb =>
     intro c a d v w h
     first | (simp only [Exit.then] at h ⊢; exact h) | (simp only [Exit.inBlock, Exit.then] at h ⊢; exact h) | exact h
    case haWb =>
     intro vals
     simp only [qba, qcd, if_true, Act.put, List.setIfInBounds_toArray, List.set_cons_zero, List.set_cons_succ, List.getElem?_toArray, List.getElem?_cons_zero, List.getElem?_cons_succ, Option.bind_some]
     exact rfl
    case stWb =>
     simp only [List.take_succ_cons, List.take_zero]
     refine qab rfl rfl ?_ (qab rfl rfl ?_ (qab rfl rfl ?_ (qab rfl rfl ?_ (qab rfl rfl ?_ (qab rfl rfl ?_ (qab rfl rfl ?_ (qab rfl rfl ?_ (qab rfl rfl ?_ (qab rfl rfl ?_ (qab rfl rfl ?_ (qct rfl ?_ (qab rfl rfl ?_ (qav)))))))))))))
     ·intro vals w1 hb hd
      refine qSv (.pointer (some ⟨g3, 1, none⟩)) (by go_simp) (qLk rfl rfl)
     ·intro vals w1 hb hd
      obtain ⟨e0, e1, e2⟩ := qay (qaa G3.out hb)
      rw [show vals 0 = .pointer (some ⟨g3, 1, none⟩) from hd 0 (by kernel_rfl)]
      refine qSv (.slice (some ⟨bk, ok, none⟩) 2 c) (by go_simp) (qLk rfl rfl)
     ·intro vals w1 hb hd
      rw [show vals 1 = .slice (some ⟨bk, ok, none⟩) 2 c from hd 1 (by kernel_rfl)]
      refine qSv (.pointer (some ⟨bk, ok + 3, none⟩)) (by go_simp) (qLk rfl rfl)
     ·intro vals w1 hb hd
      have hbx := HB.out.trans (hb.mono HB.out.size)
      have k0 := (hbx.cell (p := ⟨bk, _, none⟩) hbk).trans KB.out.1
      have k1 := (hbx.cell (p := ⟨bk, _, none⟩) hbk).trans KB.out.2.1
      have k2 := (hbx.cell (p := ⟨bk, _, none⟩) hbk).trans KB.out.2.2
      rw [show vals 2 = .pointer (some ⟨bk, ok + 3, none⟩) from hd 2 (by kernel_rfl)]
      refine qSv (.agg #[.int .i64 kvb, .slice kab knb kcb, .int .i64 krb]) (by go_simp) (qLk rfl rfl)
     ·intro vals w1 hb hd
      refine qSv (.int .i64 k) (by go_simp) (qLk rfl rfl)
     ·intro vals w1 hb hd
      refine qSv (.int .i64 (na : Nat)) (by go_simp) (qLk rfl rfl)
     ·intro vals w1 hb hd
      rw [show vals 4 = .int .i64 k from hd 4 (by kernel_rfl)]
      rw [show vals 5 = .int .i64 (na : Nat) from hd 5 (by kernel_rfl)]
      refine qSv (.int .i64 k2) (by go_simp; first | done | exact DK.out) (qLk rfl rfl)
     ·intro vals w1 hb hd
      obtain ⟨e0, e1, e2⟩ := qay (qaa G5.out hb)
      refine qSv (.agg #[.int .i64 yv, .slice ya yn yc, .int .i64 yr]) (by go_simp) (qLk rfl rfl)
     ·intro vals w1 hb hd
      have d3 : KEq (.agg #[.int .i64 kvb, .slice kab knb kcb, .int .i64 krb]) (vals 3) w1 := hd 3 (by kernel_rfl)
      have d6 : KEq (.int .i64 k2) (vals 6) w1 := hd 6 (by kernel_rfl)
      have d7 : KEq (.agg #[.int .i64 yv, .slice ya yn yc, .int .i64 yr]) (vals 7) w1 := hd 7 (by kernel_rfl)
      have HS := qHd (IHB.out w1 (HB.out.trans (hb.mono HB.out.size)))
      have z3 : vals 3 = _ := d3
      rw [z3]; clear z3
      have z6 : vals 6 = _ := d6
      rw [z6]; clear z6
      have z7 : vals 7 = _ := d7
      rw [z7]; clear z7
      refine qat (by go_simp; first | done | exact ⟨⟨rfl, rfl⟩, rfl⟩) ?_
      (with_reducible refine HS.out.mono ?_); rintro e w2 ⟨v, rfl, hv, hb2⟩
      exact ⟨_, rfl, qar hb2 ⟨v, rfl, hv⟩ (fun h => by cases h)⟩
     ·intro vals w1 hb hd
      have d8 : KGl sB nb (vals 8) w1 := hd 8 (by kernel_rfl)
      obtain ⟨v, ev, hv⟩ := d8
      rw [ev]
      refine qaq (v := .tuple #[v, .int .i64 (nb : Nat)]) (w' := w1) (by go_simp) (qar (Below.refl _ _) ⟨v, rfl, hv⟩ (fun h => by cases h))
     ·intro vals w1 hb hd
      have d9 : KGl sB nb (vals 9) w1 := hd 9 (by kernel_rfl)
      obtain ⟨v, ev, hv⟩ := d9
      rw [ev]
      refine qaq (v := v) (w' := w1) (by go_simp) (qar (Below.refl _ _) hv (fun h => by cases h))
     ·intro vals w1 hb hd
      have d9 : KGl sB nb (vals 9) w1 := hd 9 (by kernel_rfl)
      obtain ⟨v, ev, hv⟩ := d9
      rw [ev]
      refine qbv (v := .int .i64 (nb : Nat)) (fun w => by go_simp) (qLk rfl rfl)
     ·intro vals w1 hb hd
      refine qaq (v := .pointer (some ⟨w1.heap.size, 0, none⟩)) (w' := w1.alloc (.cells #[.int .i64 0, .slice none 0 0, .int .i64 0] 27)) (by go_simp) (qar ((Below.refl _ _).alloc (Nat.le_refl _) _) ⟨_, hb.size, rfl, heap_alloc_new _ _⟩ (fun _ => ⟨rfl, by simp⟩))
    case tlWb =>
     intro vals w7 hb7 hf7 hdis
     simp only [List.drop_succ_cons, List.drop_zero]
     have z1 : vals 11 = _ := hf7 11 (by decide)
     obtain ⟨gC, hgC, ev, hzC⟩ : KNew w6.heap.size #[.int .i64 0, .slice none 0 0, .int .i64 0] 27 (vals 12) w7 := hf7 12 (by decide)
     have htb : TrG w7 (vals 10) sB := hf7 10 (by decide)
     rw [z1, ev]
     obtain ⟨vb, hvb⟩ : ∃ u, u = vals 10 := ⟨_, rfl⟩
     rw [← hvb] at htb ⊢
     clear z1 ev hf7 hdis hvb
     obtain ⟨bv, br, ba, bn, bc, rfl⟩ := htb.tr.shape
     go_wp2_with (with_reducible refine qaf ?_)
     refine qan gC 0 [.int .i64 bv, .slice ba bn bc, .int .i64 br] hzC rfl rfl (Nat.le_of_ble_eq_true rfl) (by kernel_rfl) rfl ?_
     intro w8 hp8
     have n3C : g3 ≠ gC := by have := qaw G3.out; omega
     have n6C : g6 ≠ gC := by have := qaw G6.out; omega
     have nAC : gA ≠ gC := by have := qaw BA.out; omega
     have hs6 := HB.out.size
     have TA := qHd ((TA.out.keep (qbu hb7)).keep (qch hp8 hzC (by simp))); have TB := qHd (htb.keep (qch hp8 hzC (by simp)))
     have G3 := qHd (qbr hp8 (qaa G3.out hb7) n3C); have G6 := qHd (qbr hp8 (qaa G6.out hb7) n6C); have BA := qHd (qbr hp8 (qaa BA.out hb7) nAC)
     have BC := qHd (show w8.heap[gC]? = some (.cells #[.int .i64 bv, .slice ba bn bc, .int .i64 br] 27) by rw [hp8]; exact qbd hzC)
     have HB := qHd (qbl hp8 (HB.out.trans (hb7.mono HB.out.size)) (by omega))
     clear hp8 hb7 hzC htb
     obtain ⟨w9, hw9, hb9, g9, hG9, hg9⟩ := qBx5 w8 (.cells #[.int .i64 av, .slice aa an ac, .int .i64 ar, .int .i64 bv, .slice ba bn bc, .int .i64 br] 27)
     have n96 : g9 ≠ g6 := by have := qaw G6.out; omega
     obtain ⟨a0, a1, a2⟩ := qay BA.out
     obtain ⟨c0, c1, c2⟩ := qay BC.out
     obtain ⟨x0, x1, x2⟩ := qay G3.out
     go_wp2_with (with_reducible refine qaf ?_)
     rw [← hw9, ← hG9]
     clear hw9 hG9 a0 a1 a2 c0 c1 c2 x0 x1 x2
     refine qan g6 0 [.int .i64 v, .slice (some ⟨g9, 0, none⟩) 2 2, .int .i64 0] (qaa G6.out hb9) rfl rfl (Nat.le_of_ble_eq_true rfl) (by kernel_rfl) rfl ?_
     intro wz hpz
     have GZ := qHd (show wz.heap[g6]? = some (.cells #[.int .i64 v, .slice (some ⟨g9, 0, none⟩) 2 2, .int .i64 0] 27) by rw [hpz]; exact qbd (qaa G6.out hb9))
     have G9z := qHd (qbr hpz hg9 n96)
     have KZ := keep6_trans (qbu hb9) (qch hpz (qaa G6.out hb9) (by simp)); have TAz := qHd (TA.out.keep KZ); have TBz := qHd (TB.out.keep KZ); clear KZ
     have HBz := qHd (qbl hpz (HB.out.trans (hb9.mono HB.out.size)) l6)
     clear hpz hg9 hb9
     go_wp2_with (with_reducible first | refine qad ?_ | refine qai ?_ | refine qaj ?_ | refine qak ?_ | refine qag ?_)
     refine qcl rfl g6 #[.int .i64 v, .slice (some ⟨g9, 0, none⟩) 2 2, .int .i64 0] rfl GZ.out Tryz.underlying27 rfl (by kernel_rfl) rfl ?_
     rw [R.out]
     exact ⟨_, rfl, fun w2 h2 => trV_node (by rw [h2 g9 _ G9z.out rfl]; exact G9z.out) (TAz.out w2 h2) (TBz.out w2 h2) hiv ⟨by decide, by decide⟩, HBz.out⟩
  | .mk v [a] r, hok, _, _, _, _ => simp only [qej] at hok
  | .mk v (_ :: _ :: _ :: _) r, hok, _, _, _, _ => simp only [qej] at hok
theorem results_tmp4 {fn : Func} {t u v x : Tmp} (h : fn.results = #[.tmp t, .tmp u, .tmp v, .tmp x]) (tmps : Array Value) (P : Program) (w : World) :
  (results fn tmps).run P w = .ok (.tuple #[tmps.getD t undef, tmps.getD u undef, tmps.getD v undef, tmps.getD x undef]) w := by
 simp [results, h]
def sizV (vars : Int) (t : Tr) : Nat × Nat × Nat × Nat := if (qbh vars t 0 0).2 = 0 then (qei t, qdo t, trDep t, 0) else (0, 0, 0, (qbh vars t 0 0).2)
theorem rtsize_any (x : Value) (t : Tr) (vars : Int) (w : World) (ht : TrV w x t) (hv : 0 ≤ vars ∧ vars ≤ 24) :
  Calls Tryz.prog 100 #[x, .int .i64 vars] w (qea w (.tuple #[.int .i64 ((sizV vars t).1 : Nat), .int .i64 ((sizV vars t).2.1 : Nat), .int .i64 ((sizV vars t).2.2.1 : Nat), .int .i64 ((sizV vars t).2.2.2 : Nat)])) := by
 have HT := qHd ht; have HV := qHd hv
 obtain ⟨tv, tr, ta, tn, tc, rfl⟩ := ht.shape
 obtain ⟨W, hW, hbW, g1, hG1, hg1⟩ := qBx5 w (.cells #[.int .i64 tv, .slice ta tn tc, .int .i64 tr] 27)
 have HB := qHd hbW; have G1 := qHd hg1
 obtain ⟨x0, x1, x2⟩ := qay hg1
 rw [hW, hG1] at x0 x1 x2
 have HK := qHd (rscheck_any _ t vars W (HT.out.below HB.out) HV.out)
 obtain ⟨ec, hec⟩ : ∃ ec, (qbh vars t 0 0).2 = ec := ⟨_, rfl⟩
 rw [hec] at HK
 have HE := qHd hec
 clear hbW hg1 ht hv hec
 go_enter Tryz.func100, Tryz.ntmps100
 go_wp2_with (with_reducible refine qad ?_)
 rw [← hW, ← hG1]; clear hW hG1 x0 x1 x2
 refine qap.mk ?_
 (with_reducible refine HK.out.mono ?_); rintro e w1 ⟨rfl, hb1⟩
 have HB := qHd (HB.out.trans (hb1.mono HB.out.size)); have G1 := qHd (qaa G1.out hb1)
 clear hb1 HK
 by_cases h0 : ec = 0
 ·subst h0
  have R := qHd (show sizV vars t = (qei t, qdo t, trDep t, 0) by unfold sizV; rw [if_pos HE.out])
  obtain ⟨m, hm⟩ : ∃ m, qbh vars t 0 0 = (m, 0) := ⟨(qbh vars t 0 0).1, Prod.ext rfl HE.out⟩
  obtain ⟨k1, k2, k3⟩ := qfh t 0 0 m hm
  have HK := qHd (count_n vars _ t (Nat.lt_succ_self _) 0 _ w1 k1 (by omega) (HT.out.below HB.out))
  clear hm k1 k2 k3
  obtain ⟨x0, x1, x2⟩ := qay G1.out
  go_wp2_with (with_reducible refine qad ?_)
  clear x0 x1 x2
  refine qap.mk ?_
  (with_reducible refine HK.out.mono ?_); rintro e w2 ⟨rfl, hb2⟩
  have HB := qHd (HB.out.trans (hb2.mono HB.out.size))
  clear hb2 HK
  go_wp2_with fail
  (try simp only [Exit.inBlock, Exit.then]); refine bodyPost_ret (results_tmp4 rfl _ _ _) rfl ?_
  exact ⟨by rw [R.out]; rfl, HB.out⟩
 ·have R := qHd (show sizV vars t = (0, 0, 0, ec) by unfold sizV; rw [HE.out, if_neg h0])
  have h0z : ¬ ((ec : Nat) : Int) = 0 := by omega
  go_wp2_with fail
  (try simp only [Exit.inBlock, Exit.then]); refine bodyPost_ret (results_tmp4 rfl _ _ _) rfl ?_
  exact ⟨by rw [R.out]; rfl, HB.out⟩
def RetMkG (w : World) (t : Tr) (er : Nat) (e : Ending) (w' : World) : Prop := ∃ v, e = .returned (.tuple #[v, .int .i64 (er : Nat)]) ∧ Below w.heap.size w w' ∧ TrG w' v t
def swpV (vars : Int) (t : Tr) (k : Int) (by_ : Tr) : Tr × Nat :=
 if (qbh vars t 0 0).2 ≠ 0 then (.mk 0 [] 0, (qbh vars t 0 0).2)
 else if k < 0 ∨ (qdo t : Int) ≤ k then (.mk 0 [] 0, 10)
 else if (qbh vars (qbo by_ t k).1 0 0).2 ≠ 0 then (.mk 0 [] 0, (qbh vars (qbo by_ t k).1 0 0).2)
 else ((qbo by_ t k).1, 0)
theorem rSwap_any (x y : Value) (t by_ : Tr) (vars k : Int) (w : World) (ht : TrV w x t) (hy : TrG w y by_) (hv : 0 ≤ vars ∧ vars ≤ 24) (hk : I64 k) :
  Calls Tryz.prog 61 #[x, .int .i64 vars, .int .i64 k, y] w (RetMkG w (swpV vars t k by_).1 (swpV vars t k by_).2) := by
 have HT := qHd ht; have HV := qHd hv
 unfold I64 at hk
 obtain ⟨tv, tr, ta, tn, tc, rfl⟩ := ht.shape
 obtain ⟨yv, yr, ya, yn, yc, rfl⟩ := hy.tr.shape
 obtain ⟨wa, hwa⟩ : ∃ x, x = w.alloc (.cells #[.int .i64 tv, .slice ta tn tc, .int .i64 tr] 27) := ⟨_, rfl⟩
 obtain ⟨wb, hwb⟩ : ∃ x, x = wa.alloc (.cells #[.int .i64 yv, .slice ya yn yc, .int .i64 yr] 27) := ⟨_, rfl⟩
 obtain ⟨W, hW⟩ : ∃ x, x = wb.alloc (.cells #[.int .i64 0, .slice none 0 0, .int .i64 0] 27) := ⟨_, rfl⟩
 have ba : Below w.heap.size w wa := by rw [hwa]; exact qBA _ _
 have bb : Below wa.heap.size wa wb := by rw [hwb]; exact qBA _ _
 have bW : Below wb.heap.size wb W := by rw [hW]; exact qBA _ _
 have sa : wa.heap.size = w.heap.size + 1 := by rw [hwa]; exact Array.size_push (xs := w.heap) _
 have sb : wb.heap.size = w.heap.size + 1 + 1 := by rw [← sa, hwb]; exact Array.size_push (xs := wa.heap) _
 have hg4 : W.heap[w.heap.size]? = some (.cells #[.int .i64 tv, .slice ta tn tc, .int .i64 tr] 27) := qaa (qaa (by rw [hwa]; exact heap_alloc_new w _) bb) bW
 have hg7 : W.heap[w.heap.size + 1]? = some (.cells #[.int .i64 yv, .slice ya yn yc, .int .i64 yr] 27) := qaa (by rw [← sa, hwb]; exact heap_alloc_new wa _) bW
 have hg8 : W.heap[w.heap.size + 1 + 1]? = some (.cells #[.int .i64 0, .slice none 0 0, .int .i64 0] 27) := by rw [← sb, hW]; exact heap_alloc_new wb _
 have HB := qHd (ba.trans ((bb.mono ba.size).trans (bW.mono (Nat.le_trans ba.size bb.size))))
 obtain ⟨g4, hG4⟩ : ∃ g, g = w.heap.size := ⟨_, rfl⟩
 obtain ⟨g7, hG7⟩ : ∃ g, g = w.heap.size + 1 := ⟨_, rfl⟩
 obtain ⟨g8, hG8⟩ : ∃ g, g = w.heap.size + 1 + 1 := ⟨_, rfl⟩
 rw [← hG4] at hg4; rw [← hG7] at hg7; rw [← hG8] at hg8
 have l8 : w.heap.size ≤ g8 := by omega
 have G4 := qHd hg4; have G7 := qHd hg7; have G8 := qHd hg8; have HY := qHd hy
 obtain ⟨x0, x1, x2⟩ := qay hg4
 rw [hW, hwb, hwa, hG4] at x0 x1 x2
 have HK := qHd (rtsize_any _ t vars W (HT.out.below HB.out) HV.out)
 obtain ⟨ec, hec⟩ : ∃ ec, (qbh vars t 0 0).2 = ec := ⟨_, rfl⟩
 obtain ⟨q, hq⟩ : ∃ q, sizV vars t = q := ⟨_, rfl⟩
 have HQ := qHd (show q = if ec = 0 then (qei t, qdo t, trDep t, 0) else (0, 0, 0, ec) by rw [← hq, ← hec]; rfl)
 rw [hq] at HK
 have HE := qHd hec
 clear ba bb bW sa sb hg4 hg7 hg8 ht hv hec hq hy
 go_enter Tryz.func61, Tryz.ntmps61
 go_wp2_with (with_reducible refine qad ?_)
 rw [← hwa, ← hwb, ← hW, ← hG8, ← hG7, ← hG4]
 clear hwa hwb hW hG8 hG7 hG4 x0 x1 x2
 refine qap.mk ?_
 (with_reducible refine HK.out.mono ?_); rintro e w1 ⟨rfl, hb1⟩
 have HB := qHd (HB.out.trans (hb1.mono HB.out.size)); have G4 := qHd (qaa G4.out hb1); have G7 := qHd (qaa G7.out hb1); have G8 := qHd (qaa G8.out hb1)
 clear hb1 HK
 by_cases h0 : ec = 0
 ·subst h0
  obtain rfl : q = (qei t, qdo t, trDep t, 0) := HQ.out
  obtain ⟨m, hm⟩ : ∃ m, qbh vars t 0 0 = (m, 0) := ⟨(qbh vars t 0 0).1, Prod.ext rfl HE.out⟩
  obtain ⟨k1, k2, k3⟩ := qfh t 0 0 m hm
  have hlv := (qdf t).2
  have KK := qHd (And.intro k1 (show qei t ≤ 4096 by omega))
  have hl4 : qdo t ≤ 4096 := by omega
  obtain ⟨lv, hlve⟩ : ∃ lv, lv = qdo t := ⟨_, rfl⟩
  rw [← hlve] at hl4
  have HLV := qHd hlve
  simp only [← hlve]
  clear hm k1 k2 k3 hlv hlve HQ
  by_cases hn : k < 0
  ·have R := qHd (show swpV vars t k by_ = (.mk 0 [] 0, 10) by unfold swpV; rw [if_neg (fun h => h HE.out), if_pos (.inl hn)])
   go_wp2_with (with_reducible refine qaf ?_)
   refine qan g8 0 [.int .i64 0, .slice none 0 0, .int .i64 0] G8.out rfl rfl (Nat.le_of_ble_eq_true rfl) (by kernel_rfl) rfl ?_
   intro wz hpz
   have GZ := qHd (show wz.heap[g8]? = some (.cells #[.int .i64 0, .slice none 0 0, .int .i64 0] 27) by rw [hpz]; exact qbd G8.out)
   have HBz := qHd (qbl hpz HB.out l8)
   clear hpz
   go_wp2_with (with_reducible first | refine qad ?_ | refine qai ?_ | refine qaj ?_ | refine qak ?_ | refine qag ?_)
   refine qcl rfl g8 #[.int .i64 0, .slice none 0 0, .int .i64 0] rfl GZ.out Tryz.underlying27 rfl (by kernel_rfl) rfl ?_
   exact ⟨_, by rw [R.out]; rfl, HBz.out, by rw [R.out]; exact fun w2 _ => TrV.leaf w2 ⟨by decide, by decide⟩⟩
  by_cases hl : (lv : Int) ≤ k
  ·have R := qHd (show swpV vars t k by_ = (.mk 0 [] 0, 10) by unfold swpV; rw [if_neg (fun h => h HE.out), if_pos (.inr (by rw [← HLV.out]; exact hl))])
   go_wp2_with (with_reducible refine qaf ?_)
   refine qan g8 0 [.int .i64 0, .slice none 0 0, .int .i64 0] G8.out rfl rfl (Nat.le_of_ble_eq_true rfl) (by kernel_rfl) rfl ?_
   intro wz hpz
   have GZ := qHd (show wz.heap[g8]? = some (.cells #[.int .i64 0, .slice none 0 0, .int .i64 0] 27) by rw [hpz]; exact qbd G8.out)
   have HBz := qHd (qbl hpz HB.out l8)
   clear hpz
   go_wp2_with (with_reducible first | refine qad ?_ | refine qai ?_ | refine qaj ?_ | refine qak ?_ | refine qag ?_)
   refine qcl rfl g8 #[.int .i64 0, .slice none 0 0, .int .i64 0] rfl GZ.out Tryz.underlying27 rfl (by kernel_rfl) rfl ?_
   exact ⟨_, by rw [R.out]; rfl, HBz.out, by rw [R.out]; exact fun w2 _ => TrV.leaf w2 ⟨by decide, by decide⟩⟩
  obtain ⟨sT, hsT⟩ : ∃ z, z = (qbo by_ t k).1 := ⟨_, rfl⟩
  have E1 := qHd (show swpV vars t k by_ = if (qbh vars sT 0 0).2 ≠ 0 then (.mk 0 [] 0, (qbh vars sT 0 0).2) else (sT, 0) by
   unfold swpV; rw [if_neg (fun h => h HE.out), if_neg (by rw [← HLV.out]; omega), hsT])
  have HK := qHd (rswap_n vars by_ _ t (Nat.lt_succ_self _) 0 k _ _ w1 KK.out.1 KK.out.2 (by have := KK.out.2; omega) (by omega) (HT.out.below HB.out) (HY.out.keep (qbu HB.out)))
  rw [← hsT] at HK
  clear hsT
  obtain ⟨sc, hsc⟩ : ∃ z, z = (qbo by_ t k).2 := ⟨_, rfl⟩
  rw [← hsc] at HK
  clear hsc
  obtain ⟨x0, x1, x2⟩ := qay G4.out
  obtain ⟨y0, y1, y2⟩ := qay G7.out
  go_wp2_with (with_reducible refine qad ?_)
  clear x0 x1 x2 y0 y1 y2
  refine qap.mk ?_
  (with_reducible refine HK.out.mono ?_); rintro e w2 ⟨v2, rfl, hs2, hb2⟩
  obtain ⟨sv, sr, sa, sn, sx, rfl⟩ := hs2.tr.shape
  have HB := qHd (HB.out.trans (hb2.mono HB.out.size)); have G8 := qHd (qaa G8.out hb2)
  obtain ⟨w3, hw3, hb3, g14, hG14, hg14⟩ := qBx5 w2 (.cells #[.int .i64 sv, .slice sa sn sx, .int .i64 sr] 27)
  have HS := qHd (hs2.keep (qbu hb3))
  have HB := qHd (HB.out.trans (hb3.mono HB.out.size)); have G8 := qHd (qaa G8.out hb3); have G14 := qHd hg14
  obtain ⟨x0, x1, x2⟩ := qay hg14
  rw [hw3, hG14] at x0 x1 x2
  have HK := qHd (rscheck_any _ sT vars w3 HS.out.tr HV.out)
  obtain ⟨e2, he2⟩ : ∃ e2, (qbh vars sT 0 0).2 = e2 := ⟨_, rfl⟩
  rw [he2] at HK E1
  clear hb2 hs2 hb3 hg14 he2
  go_wp2_with (with_reducible refine qad ?_)
  rw [← hw3, ← hG14]
  clear hw3 hG14 x0 x1 x2
  refine qap.mk ?_
  (with_reducible refine HK.out.mono ?_); rintro e w4 ⟨rfl, hb4⟩
  have HB := qHd (HB.out.trans (hb4.mono HB.out.size)); have G8 := qHd (qaa G8.out hb4); have G14 := qHd (qaa G14.out hb4)
  have HS := qHd (HS.out.keep (qbu hb4))
  clear hb4 HK
  by_cases h2 : e2 = 0
  ·subst h2
   have R := qHd (E1.out.trans (if_neg (fun h => h rfl)))
   obtain ⟨x0, x1, x2⟩ := qay G14.out
   go_wp2_with (with_reducible refine qaf ?_)
   clear x0 x1 x2
   refine qan g8 0 [.int .i64 sv, .slice sa sn sx, .int .i64 sr] G8.out rfl rfl (Nat.le_of_ble_eq_true rfl) (by kernel_rfl) rfl ?_
   intro wz hpz
   have GZ := qHd (show wz.heap[g8]? = some (.cells #[.int .i64 sv, .slice sa sn sx, .int .i64 sr] 27) by rw [hpz]; exact qbd G8.out)
   have HBz := qHd (qbl hpz HB.out l8)
   have HSz := qHd (HS.out.keep (qch hpz G8.out (by simp)))
   clear hpz
   go_wp2_with (with_reducible first | refine qad ?_ | refine qai ?_ | refine qaj ?_ | refine qak ?_ | refine qag ?_)
   refine qcl rfl g8 #[.int .i64 sv, .slice sa sn sx, .int .i64 sr] rfl GZ.out Tryz.underlying27 rfl (by kernel_rfl) rfl ?_
   exact ⟨_, by rw [R.out]; rfl, HBz.out, by rw [R.out]; exact HSz.out⟩
  ·have R := qHd (E1.out.trans (if_pos h2))
   have h2z : ¬ ((e2 : Nat) : Int) = 0 := by omega
   go_wp2_with (with_reducible refine qaf ?_)
   refine qan g8 0 [.int .i64 0, .slice none 0 0, .int .i64 0] G8.out rfl rfl (Nat.le_of_ble_eq_true rfl) (by kernel_rfl) rfl ?_
   intro wz hpz
   have GZ := qHd (show wz.heap[g8]? = some (.cells #[.int .i64 0, .slice none 0 0, .int .i64 0] 27) by rw [hpz]; exact qbd G8.out)
   have HBz := qHd (qbl hpz HB.out l8)
   clear hpz
   go_wp2_with (with_reducible first | refine qad ?_ | refine qai ?_ | refine qaj ?_ | refine qak ?_ | refine qag ?_)
   refine qcl rfl g8 #[.int .i64 0, .slice none 0 0, .int .i64 0] rfl GZ.out Tryz.underlying27 rfl (by kernel_rfl) rfl ?_
   exact ⟨_, by rw [R.out]; rfl, HBz.out, by rw [R.out]; exact fun w2 _ => TrV.leaf w2 ⟨by decide, by decide⟩⟩
 ·obtain rfl : q = (0, 0, 0, ec) := HQ.out.trans (if_neg h0)
  have R := qHd (show swpV vars t k by_ = (.mk 0 [] 0, ec) by unfold swpV; rw [HE.out, if_pos h0])
  have h0z : ¬ ((ec : Nat) : Int) = 0 := by omega
  clear HQ
  go_wp2_with (with_reducible refine qaf ?_)
  refine qan g8 0 [.int .i64 0, .slice none 0 0, .int .i64 0] G8.out rfl rfl (Nat.le_of_ble_eq_true rfl) (by kernel_rfl) rfl ?_
  intro wz hpz
  have GZ := qHd (show wz.heap[g8]? = some (.cells #[.int .i64 0, .slice none 0 0, .int .i64 0] 27) by rw [hpz]; exact qbd G8.out)
  have HBz := qHd (qbl hpz HB.out l8)
  clear hpz
  go_wp2_with (with_reducible first | refine qad ?_ | refine qai ?_ | refine qaj ?_ | refine qak ?_ | refine qag ?_)
  refine qcl rfl g8 #[.int .i64 0, .slice none 0 0, .int .i64 0] rfl GZ.out Tryz.underlying27 rfl (by kernel_rfl) rfl ?_
  exact ⟨_, by rw [R.out]; rfl, HBz.out, by rw [R.out]; exact fun w2 _ => TrV.leaf w2 ⟨by decide, by decide⟩⟩
theorem rweight_any (v : Value) (L : List Rv) (y n k : Nat) (w : World) (hp : RvsV w v L) (hok : ∀ r ∈ L, RvOK k r) (hlen : L.length ≤ 24) (hy' : y < 16777216) (hn' : n < 16777216) (hyn : y &&& n = 0) (hk : k ≤ 1000) :
  Calls Tryz.prog 60 #[.agg #[.int .i64 (y : Nat), .int .i64 (n : Nat)], v] w (RetR w (wt (L.map Rv.q) y n)) := by
 obtain ⟨al, c, rfl, hc, hc2, _⟩ := hp.shape
 obtain ⟨W, hW, hbW, hg2, hg4⟩ := qBx2 w (.cells #[.int .i64 (y : Nat), .int .i64 (n : Nat)] 46) (.cells #[.bool false, .slice none 0 0, .slice none 0 0] 54)
 obtain ⟨g2, hG2⟩ : ∃ g, g = w.heap.size := ⟨_, rfl⟩
 obtain ⟨g4, hG4⟩ : ∃ g, g = w.heap.size + 1 := ⟨_, rfl⟩
 rw [← hG2] at hg2; rw [← hG4] at hg4
 have l4 : w.heap.size ≤ g4 := by omega
 have HBW := qHd hbW; have G2 := qHd hg2; have G4 := qHd hg4; have HP := qHd hp; have HOK := qHd hok
 have HK := qHd (rofq_any 1 W (by decide) (by decide))
 clear hbW hg2 hg4 hp hok
 go_enter Tryz.func60, Tryz.ntmps60
 go_wp2_with (with_reducible refine qad ?_)
 rw [← hW, ← hG4, ← hG2]; clear hW hG4 hG2
 refine qap.mk ?_
 (with_reducible refine HK.out.mono ?_); rintro e w5 ⟨v1, rfl, hb5, hn5⟩
 have HB5 := qHd (HBW.out.trans (hb5.mono HBW.out.size)); have G2 := qHd (qaa G2.out hb5); have G4 := qHd (qaa G4.out hb5)
 obtain ⟨s1, o1, n1, c1, a1, m1, d1, rfl⟩ := hn5.shape
 have IONE := qHd (show IsR w5 _ 1 from hn5)
 clear hb5 hn5 HK
 obtain ⟨w6, hw6, hb6, go, hGo, hgo⟩ := qBx5 w5 (.cells #[.bool s1, .slice o1 n1 c1, .slice a1 m1 d1] 54)
 have ne4 : g4 ≠ go := by have := qaw G4.out; omega
 have ne2 : g2 ≠ go := by have := qaw G2.out; omega
 have lgo : w.heap.size ≤ go := by have := HB5.out.size; omega
 have HB6 := qHd (HB5.out.trans (hb6.mono HB5.out.size)); have G2 := qHd (qaa G2.out hb6); have G4 := qHd (qaa G4.out hb6)
 have IONE := qHd (IONE.out.below hb6); have GO := qHd hgo
 clear hb6 hgo
 go_wp2_with (with_reducible first | refine qai ?_ | refine qag ?_)
 rw [← hw6, ← hGo]
 clear hw6 hGo
 refine qap.mk ?_
 go_loopw [6] (fun i' wx => ∃ (q : Nat) (acc : Rat) (so : Bool) (oo ao2 : Option Addr) (no co mo do_ : Nat), q ≤ L.length ∧ i' = .int .i64 q ∧ Hid (Below w.heap.size w wx) ∧ Hid (wx.heap[g2]? = some (.cells #[.int .i64 (y : Nat), .int .i64 (n : Nat)] 46)) ∧ Hid (wx.heap[g4]? = some (.cells #[.bool false, .slice none 0 0, .slice none 0 0] 54)) ∧
  Hid (wx.heap[go]? = some (.cells #[.bool so, .slice oo no co, .slice ao2 mo do_] 54)) ∧ Hid (IsR wx (.agg #[.bool so, .slice oo no co, .slice ao2 mo do_]) acc) ∧
  Hid (wtG (L.map Rv.q) 0 y n 1 = wtG ((L.map Rv.q).drop q) q y n acc) ∧ Hid (rl acc ≤ 1 + q * 1002)) (fun i' _ => L.length - (intOf i').toNat)
 case atStart => exact ⟨0, 1, s1, o1, a1, n1, c1, m1, d1, Nat.zero_le _, rfl, HB6, G2, G4, GO, IONE, qHd rfl, qHd (by rw [rl_one]; omega)⟩
 case round =>
  obtain ⟨q, acc, so, oo, ao2, no, co, mo, do_, hq, rfl, BX, G2, G4, GO, IOUT, WG, HACC⟩ := hrel
  obtain ⟨wo, rfl⟩ : ∃ wo : World, wo = wr := ⟨_, rfl⟩
  by_cases hlt : q < L.length
  ·obtain ⟨r, hr⟩ : ∃ r, L[q]? = some r := ⟨L[q], List.getElem?_eq_getElem hlt⟩
   obtain ⟨bp, op, rfl, hbp, hjk, hat⟩ := (HP.out.below BX.out).at (by omega); clear hjk
   obtain ⟨ox, nx, cx, ax, mx, dx, c0, c1', c2, hRV⟩ := (hat q r hr).val
   have ho := HOK.out r (List.mem_of_getElem? hr)
   have WD := qHd (wtG_drop (ps := L.map Rv.q) (q := q) (y := y) (n := n) (p := r.q) (acc := acc) (by rw [List.getElem?_map, hr]; rfl))
   have PX := qHd (show qbs wo (.agg #[.bool r.s, .slice ox nx cx, .slice ax mx dx]) r.q from hRV.is (by have := ho.la; omega) (by have := ho.lb; omega))
   have HPL := qHd (show rl r.q ≤ 1000 by have := ho.lq; omega)
   obtain ⟨p, hpq⟩ : ∃ p, p = r.q := ⟨_, rfl⟩
   obtain ⟨sx, hsx⟩ : ∃ s, s = r.s := ⟨_, rfl⟩
   rw [← hpq] at PX HPL WD
   rw [← hsx] at PX c0
   have KP := qHd (And.intro c0 (And.intro c1' c2))
   have hltz : (q : Int) < (L.length : Int) := by omega
   clear hat hr ho hRV hpq hsx c0 c1' c2
   obtain ⟨ya, y1', yt, Y1, Y2, Y3, Y4⟩ := qgb (x := y) (i := q) (by omega)
   obtain ⟨na, n1', nt, N1, N2, N3, N4⟩ := qgb (x := n) (i := q) (by omega)
   have hexc : yt = true → nt = false := fun h => by
    have h2 : (y &&& n).testBit q = false := by rw [hyn, Nat.zero_testBit]
    rw [Nat.testBit_and, Y4, N4, h] at h2; simpa using h2
   rw [Y4, N4] at WD
   clear Y4 N4
   obtain ⟨y0, y1⟩ := qcy G2.out
   cases yt with
   | true =>
    obtain rfl : nt = false := hexc rfl
    clear hexc
    go_wp2_with (with_reducible first | refine qad ?_ | refine qai ?_ | refine qaj ?_ | refine qak ?_ | refine qag ?_)
    clear y0 y1 Y1 Y2 Y3
    refine qap.mk ?_
    refine qao (A := ?aaM) (w := wo) 6 [] (by kernel_rfl) (Fl [KEq (.agg #[.bool so, .slice oo no co, .slice ao2 mo do_]), KEq (.slice (some ⟨bp, op, none⟩) L.length c), KEq (.int .i64 (q : Nat)), KEq (.pointer (some ⟨bp, op + q * 3, none⟩)), KEq (.agg #[.bool sx, .slice ox nx cx, .slice ax mx dx]), KIs (acc * p)]) (fun i => false) (by kernel_rfl) ?hqM (qcw (qae (kEq _) (qae (kEq _) (qae (kEq _) (qae (kEq _) (qae (kEq _) (qae (kIs _) qcv))))))) ?haM ?stM ?tlM
    case hqM =>
     intro c a d v w h
     first | (simp only [Exit.then] at h ⊢; exact h) | (simp only [Exit.inBlock, Exit.then] at h ⊢; exact h) | exact h
    case haM =>
     intro vals
     simp only [qba, qcd, if_true, Act.put, List.setIfInBounds_toArray, List.set_cons_zero, List.set_cons_succ, List.getElem?_toArray, List.getElem?_cons_zero, List.getElem?_cons_succ, Option.bind_some]
     exact rfl
    case stM =>
     simp only [List.take_succ_cons, List.take_zero]
     refine qab rfl rfl ?_ (qab rfl rfl ?_ (qab rfl rfl ?_ (qab rfl rfl ?_ (qab rfl rfl ?_ (qab rfl rfl ?_ (qav))))))
     ·intro vals w1 hb hd
      obtain ⟨e0, e1, e2⟩ := qay (qaa GO.out hb)
      refine qSv (.agg #[.bool so, .slice oo no co, .slice ao2 mo do_]) (by go_simp) (qLk rfl rfl)
     ·intro vals w1 hb hd
      refine qSv (.slice (some ⟨bp, op, none⟩) L.length c) (by go_simp) (qLk rfl rfl)
     ·intro vals w1 hb hd
      refine qSv (.int .i64 (q : Nat)) (by go_simp) (qLk rfl rfl)
     ·intro vals w1 hb hd
      rw [show vals 1 = .slice (some ⟨bp, op, none⟩) L.length c from hd 1 (by kernel_rfl)]
      rw [show vals 2 = .int .i64 (q : Nat) from hd 2 (by kernel_rfl)]
      refine qSv (.pointer (some ⟨bp, op + q * 3, none⟩)) (by go_simp) (qLk rfl rfl)
     ·intro vals w1 hb hd
      have k0 := (hb.cell (p := ⟨bp, _, none⟩) hbp).trans KP.out.1
      have k1 := (hb.cell (p := ⟨bp, _, none⟩) hbp).trans KP.out.2.1
      have k2 := (hb.cell (p := ⟨bp, _, none⟩) hbp).trans KP.out.2.2
      rw [show vals 3 = .pointer (some ⟨bp, op + q * 3, none⟩) from hd 3 (by kernel_rfl)]
      refine qSv (.agg #[.bool sx, .slice ox nx cx, .slice ax mx dx]) (by go_simp) (qLk rfl rfl)
     ·intro vals w1 hb hd
      have d0 : KEq (.agg #[.bool so, .slice oo no co, .slice ao2 mo do_]) (vals 0) w1 := hd 0 (by kernel_rfl)
      have d4 : KEq (.agg #[.bool sx, .slice ox nx cx, .slice ax mx dx]) (vals 4) w1 := hd 4 (by kernel_rfl)
      have HS := qHd (rmulq_any _ acc _ p w1 ((IOUT.out.below hb).is (by have := HACC.out; omega)) (PX.out.below hb))
      have z0 : vals 0 = _ := d0
      rw [z0]; clear z0
      have z4 : vals 4 = _ := d4
      rw [z4]; clear z4
      refine qat (by go_simp; first | done | exact ⟨⟨rfl, rfl⟩, rfl⟩) ?_
      (with_reducible refine HS.out.mono ?_); rintro e w2 ⟨v, rfl, hb2, hn⟩
      exact ⟨v, rfl, qar hb2 hn (fun h => by cases h)⟩
    case tlM =>
     intro vals w5 hb5 hf5 hdis
     simp only [List.drop_succ_cons, List.drop_zero]
     obtain ⟨vm, hvm⟩ : ∃ u, u = vals 5 := ⟨_, rfl⟩
     have hn5 : IsR w5 (vals 5) (acc * p) := hf5 5 (by decide)
     rw [← hvm] at hn5 ⊢
     clear hf5 hdis hvm
     obtain ⟨so', oo', no', co', ao', mo', do', rfl⟩ := hn5.shape
     have BX := qHd (BX.out.trans (hb5.mono BX.out.size)); have G2 := qHd (qaa G2.out hb5); have G4 := qHd (qaa G4.out hb5); have GO := qHd (qaa GO.out hb5)
     go_wp2_with (with_reducible refine qaf ?_)
     refine qan go 0 [.bool so', .slice oo' no' co', .slice ao' mo' do'] GO.out rfl rfl (Nat.le_of_ble_eq_true rfl) (by kernel_rfl) rfl ?_
     intro wz hpz
     have GZ := qHd (show wz.heap[go]? = some (.cells #[.bool so', .slice oo' no' co', .slice ao' mo' do'] 54) by rw [hpz]; exact qbd GO.out)
     have G2 := qHd (qbr hpz G2.out ne2); have G4 := qHd (qbr hpz G4.out ne4)
     have BZ := qHd (qbl hpz BX.out lgo)
     have IZ := qHd (qbq hpz hn5 GO.out noW3)
     clear hpz hb5 hn5
     obtain ⟨yz0, yz1⟩ := qcy G2.out
     go_wp2_with fail
     go_roundw
     case rel => exact ⟨q + 1, acc * p, so', oo', ao', no', co', mo', do', by omega, by go_num, BZ, G2, G4, GZ, IZ, qHd (by rw [WG.out, WD.out]; rfl), qHd (by have := HACC.out; have := rl_mul acc p; have := HPL.out; omega)⟩
     case measure => simp [intOf]; omega
   | false =>
    clear hexc
    cases nt with
    | true =>
     go_wp2_with (with_reducible first | refine qad ?_ | refine qai ?_ | refine qaj ?_ | refine qak ?_ | refine qag ?_)
     clear y0 y1 Y1 Y2 Y3 N1 N2 N3
     refine qap.mk ?_
     refine qao (A := ?aaS) (w := wo) 8 [] (by kernel_rfl) (Fl [KEq (.agg #[.bool so, .slice oo no co, .slice ao2 mo do_]), KIs 1, KEq (.slice (some ⟨bp, op, none⟩) L.length c), KEq (.int .i64 (q : Nat)), KEq (.pointer (some ⟨bp, op + q * 3, none⟩)), KEq (.agg #[.bool sx, .slice ox nx cx, .slice ax mx dx]), KIs (1 - p), KIs (acc * (1 - p))]) (fun i => false) (by kernel_rfl) ?hqS (qcw (qae (kEq _) (qae (kIs _) (qae (kEq _) (qae (kEq _) (qae (kEq _) (qae (kEq _) (qae (kIs _) (qae (kIs _) qcv))))))))) ?haS ?stS ?tlS
     case hqS =>
      intro c a d v w h
      first | (simp only [Exit.then] at h ⊢; exact h) | (simp only [Exit.inBlock, Exit.then] at h ⊢; exact h) | exact h
     case haS =>
      intro vals
      simp only [qba, qcd, if_true, Act.put, List.setIfInBounds_toArray, List.set_cons_zero, List.set_cons_succ, List.getElem?_toArray, List.getElem?_cons_zero, List.getElem?_cons_succ, Option.bind_some]
      exact rfl
     case stS =>
      simp only [List.take_succ_cons, List.take_zero]
      refine qab rfl rfl ?_ (qab rfl rfl ?_ (qab rfl rfl ?_ (qab rfl rfl ?_ (qab rfl rfl ?_ (qab rfl rfl ?_ (qab rfl rfl ?_ (qab rfl rfl ?_ (qav))))))))
      ·intro vals w1 hb hd
       obtain ⟨e0, e1, e2⟩ := qay (qaa GO.out hb)
       refine qSv (.agg #[.bool so, .slice oo no co, .slice ao2 mo do_]) (by go_simp) (qLk rfl rfl)
      ·intro vals w1 hb hd
       have HS := qHd (rofq_any 1 w1 (by decide) (by decide))
       refine qat (by go_simp; first | done | exact ⟨⟨rfl, rfl⟩, rfl⟩) ?_
       (with_reducible refine HS.out.mono ?_); rintro e w2 ⟨v, rfl, hb2, hn⟩
       exact ⟨v, rfl, qar hb2 hn (fun h => by cases h)⟩
      ·intro vals w1 hb hd
       refine qSv (.slice (some ⟨bp, op, none⟩) L.length c) (by go_simp) (qLk rfl rfl)
      ·intro vals w1 hb hd
       refine qSv (.int .i64 (q : Nat)) (by go_simp) (qLk rfl rfl)
      ·intro vals w1 hb hd
       rw [show vals 2 = .slice (some ⟨bp, op, none⟩) L.length c from hd 2 (by kernel_rfl)]
       rw [show vals 3 = .int .i64 (q : Nat) from hd 3 (by kernel_rfl)]
       refine qSv (.pointer (some ⟨bp, op + q * 3, none⟩)) (by go_simp) (qLk rfl rfl)
      ·intro vals w1 hb hd
       have k0 := (hb.cell (p := ⟨bp, _, none⟩) hbp).trans KP.out.1
       have k1 := (hb.cell (p := ⟨bp, _, none⟩) hbp).trans KP.out.2.1
       have k2 := (hb.cell (p := ⟨bp, _, none⟩) hbp).trans KP.out.2.2
       rw [show vals 4 = .pointer (some ⟨bp, op + q * 3, none⟩) from hd 4 (by kernel_rfl)]
       refine qSv (.agg #[.bool sx, .slice ox nx cx, .slice ax mx dx]) (by go_simp) (qLk rfl rfl)
      ·intro vals w1 hb hd
       have d1 : KIs 1 (vals 1) w1 := hd 1 (by kernel_rfl)
       have HS := qHd (rsubq_any (vals 1) 1 _ p w1 (IsR.is d1 (by rw [rl_one]; decide)) (PX.out.below hb))
       rw [show vals 5 = .agg #[.bool sx, .slice ox nx cx, .slice ax mx dx] from hd 5 (by kernel_rfl)]
       refine qat (by go_simp; first | done | exact ⟨⟨rfl, rfl⟩, rfl⟩) ?_
       (with_reducible refine HS.out.mono ?_); rintro e w2 ⟨v, rfl, hb2, hn⟩
       exact ⟨v, rfl, qar hb2 hn (fun h => by cases h)⟩
      ·intro vals w1 hb hd
       have d6 : KIs (1 - p) (vals 6) w1 := hd 6 (by kernel_rfl)
       have HS := qHd (rmulq_any _ acc (vals 6) (1 - p) w1 ((IOUT.out.below hb).is (by have := HACC.out; omega)) (IsR.is d6 (by have := rl_sub 1 p; have := rl_one; have := HPL.out; omega)))
       rw [show vals 0 = .agg #[.bool so, .slice oo no co, .slice ao2 mo do_] from hd 0 (by kernel_rfl)]
       refine qat (by go_simp; first | done | exact ⟨⟨rfl, rfl⟩, rfl⟩) ?_
       (with_reducible refine HS.out.mono ?_); rintro e w2 ⟨v, rfl, hb2, hn⟩
       exact ⟨v, rfl, qar hb2 hn (fun h => by cases h)⟩
     case tlS =>
      intro vals w5 hb5 hf5 hdis
      simp only [List.drop_succ_cons, List.drop_zero]
      obtain ⟨vm, hvm⟩ : ∃ u, u = vals 7 := ⟨_, rfl⟩
      have hn5 : IsR w5 (vals 7) (acc * (1 - p)) := hf5 7 (by decide)
      rw [← hvm] at hn5 ⊢
      clear hf5 hdis hvm
      obtain ⟨so', oo', no', co', ao', mo', do', rfl⟩ := hn5.shape
      have BX := qHd (BX.out.trans (hb5.mono BX.out.size)); have G2 := qHd (qaa G2.out hb5); have G4 := qHd (qaa G4.out hb5); have GO := qHd (qaa GO.out hb5)
      go_wp2_with (with_reducible refine qaf ?_)
      refine qan go 0 [.bool so', .slice oo' no' co', .slice ao' mo' do'] GO.out rfl rfl (Nat.le_of_ble_eq_true rfl) (by kernel_rfl) rfl ?_
      intro wz hpz
      have GZ := qHd (show wz.heap[go]? = some (.cells #[.bool so', .slice oo' no' co', .slice ao' mo' do'] 54) by rw [hpz]; exact qbd GO.out)
      have G2 := qHd (qbr hpz G2.out ne2); have G4 := qHd (qbr hpz G4.out ne4)
      have BZ := qHd (qbl hpz BX.out lgo)
      have IZ := qHd (qbq hpz hn5 GO.out noW3)
      clear hpz hb5 hn5
      obtain ⟨yz0, yz1⟩ := qcy G2.out
      go_wp2_with fail
      go_roundw
      case rel => exact ⟨q + 1, acc * (1 - p), so', oo', ao', no', co', mo', do', by omega, by go_num, BZ, G2, G4, GZ, IZ, qHd (by rw [WG.out, WD.out]; rfl), qHd (by have := HACC.out; have := rl_mul acc (1 - p); have := rl_sub 1 p; have := rl_one; have := HPL.out; omega)⟩
      case measure => simp [intOf]; omega
    | false =>
     go_wp2_with fail
     go_roundw
     case rel => exact ⟨q + 1, acc, so, oo, ao2, no, co, mo, do_, by omega, by go_num, BX, G2, G4, GO, IOUT, qHd (by rw [WG.out, WD.out]; rfl), qHd (by have := HACC.out; omega)⟩
     case measure => simp [intOf]; omega
  ·have hq' : q = L.length := by omega
   subst hq'
   have R := qHd (show acc = wt (L.map Rv.q) y n by
    have := WG.out
    rw [wtG_eq, List.drop_of_length_le (by simp)] at this
    simp only [wtG] at this
    unfold wt; rw [← this]; grind)
   obtain ⟨o0, o1', o2⟩ := qay GO.out
   go_wp2_with (with_reducible refine qaf ?_)
   refine qan g4 0 [.bool so, .slice oo no co, .slice ao2 mo do_] G4.out rfl rfl (Nat.le_of_ble_eq_true rfl) (by kernel_rfl) rfl ?_
   intro w7 hp7
   have HI7 := qHd (qbq hp7 IOUT.out G4.out noW3)
   have HG7 := qHd (show w7.heap[g4]? = some (.cells #[.bool so, .slice oo no co, .slice ao2 mo do_] 54) by rw [hp7]; exact qbd G4.out)
   have HB7 := qHd (qbl hp7 BX.out l4)
   clear hp7 o0 o1' o2
   go_wp2_with (with_reducible first | refine qad ?_ | refine qai ?_ | refine qaj ?_ | refine qak ?_ | refine qag ?_)
   refine qde rfl g4 _ _ _ rfl HG7.out rfl ?_
   exact ⟨_, rfl, HB7.out, by rw [← R.out]; exact HI7.out⟩
theorem sumF_drop2 {ps : List Rat} {r : Int} {l : List Lf} {q : Nat} {x : Lf} {a : Rat} (h : l[q]? = some x) : sumF ps r (l.drop q) a = sumF ps r (l.drop (q + 1)) (if x.reason = r then a + wt ps x.yes x.no else a) := by
 obtain ⟨h1, h2⟩ := List.getElem?_eq_some_iff.1 h
 rw [List.drop_eq_getElem_cons h1, h2]; rfl
theorem rsum_any (vl vp : Value) (l : List Lf) (L : List Rv) (r : Int) (w : World) (hl : LfsV w vl l) (hp : RvsV w vp L) (hok : ∀ z ∈ L, RvOK 3 z) (hL24 : L.length ≤ 24) (hcu : ∀ x ∈ l, x.yes < 16777216 ∧ x.no < 16777216 ∧ x.yes &&& x.no = 0) (hlen : l.length ≤ 300) :
  Calls Tryz.prog 56 #[vl, vp, .int .i64 r] w (RetR w (sumF (L.map Rv.q) r l 0)) := by
 obtain ⟨al, cl, rfl, hcl, hcl2, _⟩ := hl.shape
 obtain ⟨ap, cp, rfl, hcp, hcp2, _⟩ := hp.shape
 obtain ⟨W, hW, hbW, hg6, hg7⟩ := qBx2 w (.cells #[.bool false, .slice none 0 0, .slice none 0 0] 54) (.cells #[.bool false, .slice none 0 0, .slice none 0 0] 54)
 obtain ⟨g6, hG6⟩ : ∃ g, g = w.heap.size := ⟨_, rfl⟩
 obtain ⟨g7, hG7⟩ : ∃ g, g = w.heap.size + 1 := ⟨_, rfl⟩
 rw [← hG6] at hg6; rw [← hG7] at hg7
 have l6 : w.heap.size ≤ g6 := by omega
 have l7 : w.heap.size ≤ g7 := by omega
 have n67 : g6 ≠ g7 := by omega
 have HB := qHd hbW; have G6 := qHd hg6; have G7 := qHd hg7; have HL := qHd hl; have HP := qHd hp; have HOK := qHd hok; have HCU := qHd hcu
 clear hbW hg6 hg7 hl hp hok hcu
 go_enter Tryz.func56, Tryz.ntmps56
 go_wp2_with (with_reducible first | refine qai ?_ | refine qag ?_)
 rw [← hW, ← hG7, ← hG6]
 clear hW hG6 hG7
 refine qap.mk ?_
 go_loopw [12] (fun i' wx => ∃ (q : Nat) (acc : Rat) (so : Bool) (oo ao2 : Option Addr) (no co mo do_ : Nat), q ≤ l.length ∧ i' = .int .i64 q ∧ Hid (Below w.heap.size w wx) ∧ Hid (wx.heap[g6]? = some (.cells #[.bool false, .slice none 0 0, .slice none 0 0] 54)) ∧
  Hid (wx.heap[g7]? = some (.cells #[.bool so, .slice oo no co, .slice ao2 mo do_] 54)) ∧ Hid (IsR wx (.agg #[.bool so, .slice oo no co, .slice ao2 mo do_]) acc) ∧
  Hid (sumF (L.map Rv.q) r l 0 = sumF (L.map Rv.q) r (l.drop q) acc) ∧ Hid (rl acc ≤ 1 + q * 122)) (fun i' _ => l.length - (intOf i').toNat)
 case atStart => exact ⟨0, 0, false, none, none, 0, 0, 0, 0, Nat.zero_le _, rfl, HB, G6, G7, qHd (qdg _), qHd rfl, qHd (by rw [qeo]; omega)⟩
 case round =>
  obtain ⟨q, acc, so, oo, ao2, no, co, mo, do_, hq, rfl, BX, G6, G7, IA, SF, HACC⟩ := hrel
  obtain ⟨wo, rfl⟩ : ∃ wo : World, wo = wr := ⟨_, rfl⟩
  by_cases hlt : q < l.length
  ·obtain ⟨x, hx⟩ : ∃ x, l[q]? = some x := ⟨l[q], List.getElem?_eq_getElem hlt⟩
   obtain ⟨bl, ol, rfl, hbl, hjk, hat⟩ := (HL.out.below BX.out).at (by omega); clear hjk
   obtain ⟨c0, c1, c2⟩ := hat q x hx
   have HC := qHd (HCU.out x (List.mem_of_getElem? hx))
   have FD := qHd (sumF_drop2 (ps := L.map Rv.q) (r := r) (a := acc) hx)
   clear hat hx
   obtain ⟨xy, xn, xr⟩ := x
   simp only at c0 c1 c2 HC FD
   obtain ⟨wq, hwq⟩ : ∃ wq, wq = wt (L.map Rv.q) xy xn := ⟨_, rfl⟩
   have HWQ := qHd hwq
   have HWL := qHd (show rl wq ≤ 121 by
    have := rl_wtL (k := 3) (L.map Rv.q) 0 xy xn (fun p hp => by obtain ⟨z, hz, rfl⟩ := List.mem_map.1 hp; exact (HOK.out z hz).lq)
    rw [List.length_map] at this
    rw [hwq]
    show rl (wtL _ 0 _ _) ≤ 121
    have h3 : L.length * (3 + 2) ≤ 24 * 5 := Nat.mul_le_mul_right 5 hL24
    omega)
   rw [← hwq] at FD
   clear hwq
   obtain ⟨w4, hw4, hb4, g9, hg9, hx4⟩ := qBx5 wo (.cells #[.int .i64 (xy : Nat), .int .i64 (xn : Nat), .int .i64 xr] 48)
   have BX4 := qHd (BX.out.trans (hb4.mono BX.out.size)); have G6 := qHd (qaa G6.out hb4); have G7 := qHd (qaa G7.out hb4); have IA := qHd (IA.out.below hb4); have G9 := qHd hx4
   have hltz : (q : Int) < (l.length : Int) := by omega
   clear hb4
   by_cases hr : xr = r
   ·subst hr
    have SN := qHd (show sumF (L.map Rv.q) xr l 0 = sumF (L.map Rv.q) xr (l.drop (q + 1)) (acc + wq) by rw [SF.out, FD.out, if_pos rfl])
    obtain ⟨z0, z1, z2⟩ := qay hx4
    rw [hw4, hg9] at z0 z1 z2
    go_wp2_with (with_reducible first | refine qad ?_ | refine qai ?_ | refine qaj ?_ | refine qak ?_ | refine qag ?_)
    rw [← hw4, ← hg9]
    clear hw4 hg9 hx4 c0 c1 c2 z0 z1 z2
    refine qap.mk ?_
    refine qao (A := ?aaSM) (w := w4) 6 [] (by kernel_rfl) (Fl [KEq (.agg #[.bool so, .slice oo no co, .slice ao2 mo do_]), KEq (.pointer (some ⟨g9, 0, none⟩)), KEq (.agg #[.int .i64 (xy : Nat), .int .i64 (xn : Nat)]), KEq (.slice ap L.length cp), KIs wq, KIs (acc + wq)]) (fun i => false) (by kernel_rfl) ?hqSM (qcw (qae (kEq _) (qae (kEq _) (qae (kEq _) (qae (kEq _) (qae (kIs _) (qae (kIs _) qcv))))))) ?haSM ?stSM ?tlSM
    case hqSM =>
     intro c a d v w h
     first | (simp only [Exit.then] at h ⊢; exact h) | (simp only [Exit.inBlock, Exit.then] at h ⊢; exact h) | exact h
    case haSM =>
     intro vals
     simp only [qba, qcd, if_true, Act.put, List.setIfInBounds_toArray, List.set_cons_zero, List.set_cons_succ, List.getElem?_toArray, List.getElem?_cons_zero, List.getElem?_cons_succ, Option.bind_some]
     exact rfl
    case stSM =>
     simp only [List.take_succ_cons, List.take_zero]
     refine qab rfl rfl ?_ (qab rfl rfl ?_ (qab rfl rfl ?_ (qab rfl rfl ?_ (qab rfl rfl ?_ (qab rfl rfl ?_ (qav))))))
     ·intro vals w1 hb hd
      obtain ⟨e0, e1, e2⟩ := qay (qaa G7.out hb)
      refine qSv (.agg #[.bool so, .slice oo no co, .slice ao2 mo do_]) (by go_simp) (qLk rfl rfl)
     ·intro vals w1 hb hd
      refine qSv (.pointer (some ⟨g9, 0, none⟩)) (by go_simp) (qLk rfl rfl)
     ·intro vals w1 hb hd
      obtain ⟨e0, e1, e2⟩ := qay (qaa G9.out hb)
      rw [show vals 1 = .pointer (some ⟨g9, 0, none⟩) from hd 1 (by kernel_rfl)]
      refine qSv (.agg #[.int .i64 (xy : Nat), .int .i64 (xn : Nat)]) (by go_simp) (qLk rfl rfl)
     ·intro vals w1 hb hd
      refine qSv (.slice ap L.length cp) (by go_simp) (qLk rfl rfl)
     ·intro vals w1 hb hd
      have d2 : KEq (.agg #[.int .i64 (xy : Nat), .int .i64 (xn : Nat)]) (vals 2) w1 := hd 2 (by kernel_rfl)
      have d3 : KEq (.slice ap L.length cp) (vals 3) w1 := hd 3 (by kernel_rfl)
      have HS := qHd (rweight_any _ L xy xn 3 w1 (HP.out.below (BX4.out.trans (hb.mono BX4.out.size))) HOK.out hL24 HC.out.1 HC.out.2.1 HC.out.2.2 (by decide))
      have z2 : vals 2 = _ := d2
      rw [z2]; clear z2
      have z3 : vals 3 = _ := d3
      rw [z3]; clear z3
      refine qat (by go_simp; first | done | exact ⟨⟨rfl, rfl⟩, rfl⟩) ?_
      (with_reducible refine HS.out.mono ?_); rintro e w2 ⟨v, rfl, hb2, hn⟩
      exact ⟨v, rfl, qar hb2 (by rw [HWQ.out]; exact hn) (fun h => by cases h)⟩
     ·intro vals w1 hb hd
      have d4 : KIs wq (vals 4) w1 := hd 4 (by kernel_rfl)
      have HS := qHd (raddq_any _ acc (vals 4) wq w1 ((IA.out.below hb).is (by have := HACC.out; omega)) (IsR.is d4 (by have := HWL.out; omega)))
      rw [show vals 0 = .agg #[.bool so, .slice oo no co, .slice ao2 mo do_] from hd 0 (by kernel_rfl)]
      refine qat (by go_simp; first | done | exact ⟨⟨rfl, rfl⟩, rfl⟩) ?_
      (with_reducible refine HS.out.mono ?_); rintro e w2 ⟨v, rfl, hb2, hn⟩
      exact ⟨v, rfl, qar hb2 hn (fun h => by cases h)⟩
    case tlSM =>
     intro vals w5 hb5 hf5 hdis
     simp only [List.drop_succ_cons, List.drop_zero]
     obtain ⟨vm, hvm⟩ : ∃ u, u = vals 5 := ⟨_, rfl⟩
     have hn5 : IsR w5 (vals 5) (acc + wq) := hf5 5 (by decide)
     rw [← hvm] at hn5 ⊢
     clear hf5 hdis hvm
     obtain ⟨so', oo', no', co', ao', mo', do', rfl⟩ := hn5.shape
     have BX := qHd (BX4.out.trans (hb5.mono BX4.out.size)); have G6 := qHd (qaa G6.out hb5); have G7 := qHd (qaa G7.out hb5)
     go_wp2_with (with_reducible refine qaf ?_)
     refine qan g7 0 [.bool so', .slice oo' no' co', .slice ao' mo' do'] G7.out rfl rfl (Nat.le_of_ble_eq_true rfl) (by kernel_rfl) rfl ?_
     intro wz hpz
     have GZ := qHd (show wz.heap[g7]? = some (.cells #[.bool so', .slice oo' no' co', .slice ao' mo' do'] 54) by rw [hpz]; exact qbd G7.out)
     have G6 := qHd (qbr hpz G6.out n67)
     have BZ := qHd (qbl hpz BX.out l7)
     have IZ := qHd (qbq hpz hn5 G7.out noW3)
     clear hpz hb5 hn5
     go_wp2_with fail
     go_roundw
     case rel => exact ⟨q + 1, acc + wq, so', oo', ao', no', co', mo', do', by omega, by go_num, BZ, G6, GZ, IZ, SN, qHd (by have := HACC.out; have := rl_add acc wq; have := HWL.out; omega)⟩
     case measure => simp [intOf]; omega
   ·have SN := qHd (show sumF (L.map Rv.q) r l 0 = sumF (L.map Rv.q) r (l.drop (q + 1)) acc by rw [SF.out, FD.out, if_neg hr])
    have hrz : (xr == r) = false := by rw [beq_eq_false_iff_ne]; exact hr
    go_wp2_with fail
    rw [← hw4]
    go_roundw
    case rel => exact ⟨q + 1, acc, so, oo, ao2, no, co, mo, do_, by omega, by go_num, BX4, G6, G7, IA, SN, qHd (by have := HACC.out; omega)⟩
    case measure => simp [intOf]; omega
  ·have hq' : q = l.length := by omega
   subst hq'
   have R := qHd (show sumF (L.map Rv.q) r l 0 = acc by rw [SF.out, List.drop_length]; rfl)
   obtain ⟨o0, o1', o2⟩ := qay G7.out
   go_wp2_with (with_reducible refine qaf ?_)
   refine qan g6 0 [.bool so, .slice oo no co, .slice ao2 mo do_] G6.out rfl rfl (Nat.le_of_ble_eq_true rfl) (by kernel_rfl) rfl ?_
   intro w7 hp7
   have HI7 := qHd (qbq hp7 IA.out G6.out noW3)
   have HG7 := qHd (show w7.heap[g6]? = some (.cells #[.bool so, .slice oo no co, .slice ao2 mo do_] 54) by rw [hp7]; exact qbd G6.out)
   have HB7 := qHd (qbl hp7 BX.out l6)
   clear hp7 o0 o1' o2
   go_wp2_with (with_reducible first | refine qad ?_ | refine qai ?_ | refine qaj ?_ | refine qak ?_ | refine qag ?_)
   refine qde rfl g6 _ _ _ rfl HG7.out rfl ?_
   exact ⟨_, rfl, HB7.out, by rw [R.out]; exact HI7.out⟩
theorem rerror_any (vf x : Value) (f : Fm) (t : Tr) (w : World) (hf : FmV w vf f) (ht : TrV w x t) :
  Calls Tryz.prog 40 #[vf, x] w (qea w (.int .i64 (cErr f t : Nat))) := by
 obtain ⟨nv, rfl, hn, hv, htp⟩ := hf
 obtain ⟨ao, c, rfl, hc, hc2, _⟩ := hn.shape
 have HF := qHd (show FmV w _ f from ⟨_, rfl, hn, hv, htp⟩)
 have HT := qHd ht
 obtain ⟨tv, tr, ta, tn, tc, rfl⟩ := ht.shape
 obtain ⟨W, hW, hbW, hg1, hg2⟩ := qBx2 w (.cells #[.int .i64 f.vars, .slice ao f.nodes.length c, .int .i64 f.top] 24) (.cells #[.int .i64 tv, .slice ta tn tc, .int .i64 tr] 27)
 obtain ⟨g1, hG1⟩ : ∃ g, g = w.heap.size := ⟨_, rfl⟩
 obtain ⟨g2, hG2⟩ : ∃ g, g = w.heap.size + 1 := ⟨_, rfl⟩
 rw [← hG1] at hg1; rw [← hG2] at hg2
 have HBW := qHd hbW; have G1 := qHd hg1; have G2 := qHd hg2
 obtain ⟨x0, x1, x2⟩ := qay hg1
 obtain ⟨y0, y1, y2⟩ := qay hg2
 rw [hW, hG1] at x0 x1 x2
 rw [hW, hG2] at y0 y1 y2
 clear hbW hg1 hg2 hn hv htp ht
 have HK := qHd (rfcheck_any _ f W (HF.out.below HBW.out))
 obtain ⟨ec, hec⟩ : ∃ ec, cErr f t = ec := ⟨_, rfl⟩
 rw [hec]
 go_enter Tryz.func40, Tryz.ntmps40
 go_wp2_with (with_reducible refine qad ?_)
 rw [← hW, ← hG2, ← hG1]; clear hW hG1 hG2 x0 x1 x2 y0 y1 y2
 refine qap.mk ?_
 (with_reducible refine HK.out.mono ?_); rintro e w1 ⟨rfl, hb1⟩
 have HB1 := qHd (HBW.out.trans (hb1.mono HBW.out.size))
 obtain ⟨x0, x1, x2⟩ := qay (qaa G1.out hb1)
 obtain ⟨y0, y1, y2⟩ := qay (qaa G2.out hb1)
 clear hb1 HK
 by_cases h0 : qcc f = 0
 ·obtain ⟨p0, p1, _, _⟩ := qbe h0
  rw [cErr_t h0] at hec
  have HK := qHd (rscheck_any _ t f.vars w1 (HT.out.below HB1.out) ⟨p0, p1⟩)
  rw [hec] at HK
  rw [h0]
  clear hec
  go_wp2_with (with_reducible refine qad ?_)
  refine qap.mk ?_
  (with_reducible refine HK.out.mono ?_); rintro e w2 ⟨rfl, hb2⟩
  have HB2 := qHd (HB1.out.trans (hb2.mono HB1.out.size))
  clear hb2 HK x0 x1 x2 y0 y1 y2
  go_wp2_with fail
  go_ret
  exact ⟨rfl, HB2.out⟩
 ·rw [cErr_f h0] at hec
  rw [hec] at h0 ⊢
  clear hec
  have h0' : ¬ ((ec : Nat) : Int) = 0 := by omega
  go_wp2_with fail
  go_ret
  exact ⟨rfl, HB1.out⟩
theorem rLeaves_any (x : Value) (t : Tr) (vars : Int) (w : World) (ht : TrV w x t) (hv : 0 ≤ vars ∧ vars ≤ 24) (ec : Nat) (hec : (qbh vars t 0 0).2 = ec) :
  Calls Tryz.prog 41 #[x, .int .i64 vars] w (fun e w' => ∃ v', e = .returned (.tuple #[v', .int .i64 (ec : Nat)]) ∧ Below w.heap.size w w' ∧ (ec = 0 → LfsV w' v' (qah t 0 0))) := by
 obtain ⟨v, r, ao, kn, c, rfl⟩ := ht.shape
 obtain ⟨W, hW, hbW, hB1⟩ := qBx3 w (.cells #[.int .i64 v, .slice ao kn c, .int .i64 r] 27)
 have HK := qHd (rscheck_any _ t vars W (ht.below hbW) hv)
 rw [hec] at HK
 have HT := qHd ht; have HBW := qHd hbW; have B1 := qHd hB1
 clear hbW ht hB1
 go_enter Tryz.func41, Tryz.ntmps41
 go_wp2_with (with_reducible refine qad ?_)
 rw [← hW]
 refine qap.mk ?_
 (with_reducible refine HK.out.mono ?_); rintro e w1 ⟨rfl, hb1⟩
 have HB1 := qHd (HBW.out.trans (hb1.mono HBW.out.size))
 obtain ⟨x0, x1, x2⟩ := qay (qaa B1.out hb1)
 clear hb1 HK hW
 by_cases h0 : ec = 0
 ·obtain ⟨m, hm⟩ : ∃ m, qbh vars t 0 0 = (m, 0) := ⟨_, Prod.ext rfl (hec.trans h0)⟩
  obtain ⟨k1, k2, k3⟩ := qfh t 0 0 m hm
  obtain ⟨V, rfl⟩ : ∃ V : Nat, vars = V := ⟨vars.toNat, by omega⟩
  have hlv := (qdf t).2
  have hk := rbelow_any V (by omega) _ t (Nat.lt_succ_self _) _ 0 0 0 w1 (HT.out.below HB1.out) k1 (by decide) (by decide) (by omega)
  rw [show ((0 : Nat) : Int) = 0 from rfl] at hk
  have HK := qHd hk
  clear hm k1 k2 k3 hk hec
  subst h0
  go_wp2_with (with_reducible refine qad ?_)
  refine qap.mk ?_
  (with_reducible refine HK.out.mono ?_); rintro e w2 ⟨v', rfl, hb2, ho⟩
  have HB2 := qHd (HB1.out.trans (hb2.mono HB1.out.size)); have HL := qHd (own_lfs ho)
  clear hb2 ho HK x0 x1 x2
  go_wp2_with fail
  go_ret2
  exact ⟨_, rfl, HB2.out, by first | exact HL.out | (intro _; exact HL.out)⟩
 ·have h0' : ((ec : Int) != 0) = true := bne_iff_ne.2 (by omega)
  go_wp2_with fail
  go_ret2
  exact ⟨_, rfl, HB1.out, fun h => absurd h h0⟩
end Go.Proofs.YthhgfhdmfhnklaaGreatDoor
