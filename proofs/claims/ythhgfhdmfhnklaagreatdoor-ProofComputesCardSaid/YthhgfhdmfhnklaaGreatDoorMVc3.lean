/-
  What the law leans on, one text behind the other (the rest).
  Conditions: each theorem's own.
-/
import Derived.Test.YthhgfhdmfhnklaaGreatDoorMVc2
set_option maxRecDepth 100000
set_option maxHeartbeats 16000000
namespace Go.Proofs.YthhgfhdmfhnklaaGreatDoor
open Go.RowKit Go.ChangeShapes Go.WideShapes
theorem qbc {ops : Array Oper} {o : Oper} {tmps : Array Value} {g : Nat} {t : Tmp} {want : Bool} (hg : o.guard = some (g, want)) (hd : (ops[g]?).bind (·.dst) = some t) (ht : tmps[t]? = some undef) : Region.wanted o (yielded ops tmps) = false := by
 have hy : yielded ops tmps g = none := by unfold yielded; rw [hd]; show (match tmps[t]? with | some (.bool b) => some b | _ => none) = none; rw [ht]; rfl
 unfold Region.wanted; rw [hg]
 simp [hy]
theorem rwrong_any (vf v : Value) (f : Fm) (l : List Lf) (w : World) (hf : FmV w vf f) (hl : LfsV w v l) (h0 : qcc f = 0) (hcu : ∀ x ∈ l, CubeOK f.vars x.yes x.no) (hr : ∀ x ∈ l, I64 x.reason) (hlen : l.length ≤ 4096) :
  Calls Tryz.prog 42 #[vf, v] w (qea w (.int .i64 (qbj f l 0))) := by
 obtain ⟨nv, rfl, hn, hv, htp⟩ := hf
 obtain ⟨ao, c, rfl, hc, hc2, _⟩ := hn.shape
 have HF := qHd (show FmV w _ f from ⟨_, rfl, hn, hv, htp⟩)
 obtain ⟨al, cl, rfl, hcl, hcl2, _⟩ := hl.shape
 have HL := qHd hl
 obtain ⟨W, hW, hbW, g1, hG1, hg1⟩ := qBx5 w (.cells #[.int .i64 f.vars, .slice ao f.nodes.length c, .int .i64 f.top] 24)
 have HBW := qHd hbW; have G1 := qHd hg1; have HCU := qHd hcu; have HR := qHd hr; have E0 := qHd h0
 have hnd := (qbe h0).2.2.2
 have HND := qHd hnd
 clear hbW hg1 hn hv htp hl hcu hr hnd h0
 go_enter Tryz.func42, Tryz.ntmps42
 go_wp2_with fail
 rw [← hW, ← hG1]; clear hW hG1
 go_loopw [9] (fun i' wx => ∃ q : Nat, q ≤ l.length ∧ i' = .int .i64 q ∧ Hid (Below W.heap.size W wx) ∧ Hid (qbj f l 0 = qbj f (l.drop q) q)) (fun i' _ => l.length - (intOf i').toNat)
 case atStart => exact ⟨0, Nat.zero_le _, rfl, qHd (Below.refl _ _), qHd rfl⟩
 case round =>
  obtain ⟨q, hq, rfl, BX, FB⟩ := hrel
  obtain ⟨wo, rfl⟩ : ∃ wo : World, wo = wr := ⟨_, rfl⟩
  have HBo := qHd (HBW.out.trans (BX.out.mono HBW.out.size))
  by_cases hlt : q < l.length
  ·obtain ⟨x, hx⟩ : ∃ x, l[q]? = some x := ⟨l[q], List.getElem?_eq_getElem hlt⟩
   obtain ⟨bl, ol, rfl, hbl, hjk, hat⟩ := (HL.out.below HBo.out).at (by omega); clear hjk
   obtain ⟨c0, c1, c2⟩ := hat q x hx
   have hmem := List.mem_of_getElem? hx
   have FD := qHd (firstBad_drop (f := f) hx)
   have BP := qHd (bad_ref HND.out x)
   have hri := HR.out x hmem
   unfold I64 at hri
   have HCX := qHd (HCU.out x hmem)
   clear hat hx hmem
   obtain ⟨xy, xn, xr⟩ := x
   simp only at c0 c1 c2 hri HCX
   obtain ⟨w4, hw4, hb4, g4, hg4, hx4⟩ := qBx5 wo (.cells #[.int .i64 (xy : Nat), .int .i64 (xn : Nat), .int .i64 xr] 48)
   have HB4 := qHd (HBo.out.trans (hb4.mono HBo.out.size)); have BX4 := qHd (BX.out.trans (hb4.mono BX.out.size))
   have G4 := qHd hx4
   have G1' := qHd (qaa G1.out BX4.out)
   have hltz : (q : Int) < (l.length : Int) := by omega
   clear hb4 hx4
   go_wp2_with (with_reducible first | refine qad ?_ | refine qai ?_ | refine qaj ?_ | refine qak ?_ | refine qag ?_)
   rw [← hw4, ← hg4]
   clear hw4 hg4 c0 c1 c2
   refine qap.mk ?_
   try simp only at BP FD
   obtain ⟨fv, hfv⟩ : ∃ fv, qco f xy xn = fv := ⟨_, rfl⟩
   rw [hfv] at BP
   have HV := qHd hfv; clear hfv
   have hcase : xr < 0 ∨ 2 < xr ∨ xr = 2 ∨ (0 ≤ xr ∧ xr < 2) := by omega
   rcases hcase with hxr | hxr | hxr | hxr
   ·skip
    have R := qHd (show qbj f l 0 = (q : Int) by rw [FB.out, FD.out, if_pos (by rw [BP.out]; simp; omega)])
    have DV := qHd (show xr < 0 by omega)
    refine qao (A := ?aaA) (w := w4) 21 [] (by kernel_rfl) (Fl [KEq (.pointer (some ⟨g4, 2, none⟩)), KEq (.int .i64 xr), KEq (.bool true), KEq (.bool true), qfa, qfa, qfa, KEq (.bool true), KEq (.bool true), qfa, qfa, qfa, KEq undef, qfa, qfa, qfa, qfa, qfa, qfa, qfa, qfa]) (fun i => false) (by kernel_rfl) ?hqA (qcw (qae (kEq _) (qae (kEq _) (qae (kEq _) (qae (kEq _) (qae (qfc) (qae (qfc) (qae (qfc) (qae (kEq _) (qae (kEq _) (qae (qfc) (qae (qfc) (qae (qfc) (qae (kEq _) (qae (qfc) (qae (qfc) (qae (qfc) (qae (qfc) (qae (qfc) (qae (qfc) (qae (qfc) (qae (qfc) qcv)))))))))))))))))))))) ?haA ?stA ?tlA
    case hqA =>
     intro c a d v w h
     first | (simp only [Exit.then] at h ⊢; exact h) | (simp only [Exit.inBlock, Exit.then] at h ⊢; exact h) | exact h
    case haA =>
     intro vals
     simp only [qba, qcd, if_true, Act.put, List.setIfInBounds_toArray, List.set_cons_zero, List.set_cons_succ, List.getElem?_toArray, List.getElem?_cons_zero, List.getElem?_cons_succ, Option.bind_some]
     exact rfl
    case stA =>
     simp only [List.take_succ_cons, List.take_zero]
     refine qab rfl rfl ?_ (qab rfl rfl ?_ (qab rfl rfl ?_ (qab rfl rfl ?_ (qac rfl ?_ (qac rfl ?_ (qac rfl ?_ (qab rfl rfl ?_ (qab rfl rfl ?_ (qac rfl ?_ (qac rfl ?_ (qac rfl ?_ (qac rfl ?_ (qac rfl ?_ (qac rfl ?_ (qac rfl ?_ (qac rfl ?_ (qac rfl ?_ (qac rfl ?_ (qac rfl ?_ (qac rfl ?_ (qav)))))))))))))))))))))
     ·intro vals w1 hb hd
      refine qSv (.pointer (some ⟨g4, 2, none⟩)) (by go_simp) (qLk rfl rfl)
     ·intro vals w1 hb hd
      obtain ⟨e0, e1, e2⟩ := qay (qaa G4.out hb)
      rw [show vals 0 = .pointer (some ⟨g4, 2, none⟩) from hd 0 (by kernel_rfl)]
      refine qSv (.int .i64 xr) (by go_simp) (qLk rfl rfl)
     ·intro vals w1 hb hd
      rw [show vals 1 = .int .i64 xr from hd 1 (by kernel_rfl)]
      refine qSv (.bool true) (by go_simp; first | done | exact DV.out | omega | (simp only [decide_eq_true_eq, decide_eq_false_iff_not]; omega) | (simp; omega)) (qLk rfl rfl)
     ·intro vals w1 hb hd
      rw [show vals 2 = .bool true from hd 2 (by kernel_rfl)]
      refine qSv (.bool true) (by go_simp) (qLk rfl rfl)
     ·exact fun vals w1 _ hd => qau (qas rfl rfl (congrArg some (show KEq (.bool true) (vals 3) w1 from hd 3 (by kernel_rfl))) rfl) (qLk trivial rfl)
     ·exact fun vals w1 _ hd => qau (qas rfl rfl (congrArg some (show KEq (.bool true) (vals 3) w1 from hd 3 (by kernel_rfl))) rfl) (qLk trivial rfl)
     ·exact fun vals w1 _ hd => qau (qas rfl rfl (congrArg some (show KEq (.bool true) (vals 3) w1 from hd 3 (by kernel_rfl))) rfl) (qLk trivial rfl)
     ·intro vals w1 hb hd
      rw [show vals 3 = .bool true from hd 3 (by kernel_rfl)]
      refine qSv (.bool true) (by go_simp) (qLk rfl rfl)
     ·intro vals w1 hb hd
      rw [show vals 7 = .bool true from hd 7 (by kernel_rfl)]
      refine qSv (.bool true) (by go_simp) (qLk rfl rfl)
     ·exact fun vals w1 _ hd => qau (qas rfl rfl (congrArg some (show KEq (.bool true) (vals 8) w1 from hd 8 (by kernel_rfl))) rfl) (qLk trivial rfl)
     ·exact fun vals w1 _ hd => qau (qas rfl rfl (congrArg some (show KEq (.bool true) (vals 8) w1 from hd 8 (by kernel_rfl))) rfl) (qLk trivial rfl)
     ·exact fun vals w1 _ hd => qau (qas rfl rfl (congrArg some (show KEq (.bool true) (vals 8) w1 from hd 8 (by kernel_rfl))) rfl) (qLk trivial rfl)
     ·exact fun vals w1 _ hd => qau (qas rfl rfl (congrArg some (show KEq (.bool true) (vals 8) w1 from hd 8 (by kernel_rfl))) rfl) (qLk rfl rfl)
     ·exact fun vals w1 _ hd => qau (qbc rfl rfl (congrArg some (show KEq (undef) (vals 12) w1 from hd 12 (by kernel_rfl)))) (qLk trivial rfl)
     ·exact fun vals w1 _ hd => qau (qbc rfl rfl (congrArg some (show KEq (undef) (vals 12) w1 from hd 12 (by kernel_rfl)))) (qLk trivial rfl)
     ·exact fun vals w1 _ hd => qau (qbc rfl rfl (congrArg some (show KEq (undef) (vals 12) w1 from hd 12 (by kernel_rfl)))) (qLk trivial rfl)
     ·exact fun vals w1 _ hd => qau (qbc rfl rfl (congrArg some (show KEq (undef) (vals 12) w1 from hd 12 (by kernel_rfl)))) (qLk trivial rfl)
     ·exact fun vals w1 _ hd => qau (qbc rfl rfl (congrArg some (show KEq (undef) (vals 12) w1 from hd 12 (by kernel_rfl)))) (qLk trivial rfl)
     ·exact fun vals w1 _ hd => qau (qbc rfl rfl (congrArg some (show KEq (undef) (vals 12) w1 from hd 12 (by kernel_rfl)))) (qLk trivial rfl)
     ·exact fun vals w1 _ hd => qau (qbc rfl rfl (congrArg some (show KEq (undef) (vals 12) w1 from hd 12 (by kernel_rfl)))) (qLk trivial rfl)
     ·exact fun vals w1 _ hd => qau (qas rfl rfl (congrArg some (show KEq (.bool true) (vals 8) w1 from hd 8 (by kernel_rfl))) rfl) (qLk trivial rfl)
    case tlA =>
     intro vals w5 hb5 hf hdis
     simp only [List.drop_succ_cons, List.drop_zero]
     have z8 : vals 8 = _ := hf 8 (by decide)
     rw [z8]; clear z8
     clear hf hdis
     have BX5 := qHd (BX4.out.trans (hb5.mono BX4.out.size)); have HB5 := qHd (HB4.out.trans (hb5.mono HB4.out.size))
     clear hb5
     go_wp2_with fail
     go_ret
     exact ⟨by rw [R.out]; rfl, HB5.out⟩
   ·skip
    have R := qHd (show qbj f l 0 = (q : Int) by rw [FB.out, FD.out, if_pos (by rw [BP.out]; simp; omega)])
    have DV := qHd (show 2 < xr by omega)
    refine qao (A := ?aaB) (w := w4) 21 [] (by kernel_rfl) (Fl [KEq (.pointer (some ⟨g4, 2, none⟩)), KEq (.int .i64 xr), KEq (.bool false), KEq (.bool false), KEq (.pointer (some ⟨g4, 2, none⟩)), KEq (.int .i64 xr), KEq (.bool true), KEq (.bool true), KEq (.bool true), qfa, qfa, qfa, KEq undef, qfa, qfa, qfa, qfa, qfa, qfa, qfa, qfa]) (fun i => false) (by kernel_rfl) ?hqB (qcw (qae (kEq _) (qae (kEq _) (qae (kEq _) (qae (kEq _) (qae (kEq _) (qae (kEq _) (qae (kEq _) (qae (kEq _) (qae (kEq _) (qae (qfc) (qae (qfc) (qae (qfc) (qae (kEq _) (qae (qfc) (qae (qfc) (qae (qfc) (qae (qfc) (qae (qfc) (qae (qfc) (qae (qfc) (qae (qfc) qcv)))))))))))))))))))))) ?haB ?stB ?tlB
    case hqB =>
     intro c a d v w h
     first | (simp only [Exit.then] at h ⊢; exact h) | (simp only [Exit.inBlock, Exit.then] at h ⊢; exact h) | exact h
    case haB =>
     intro vals
     simp only [qba, qcd, if_true, Act.put, List.setIfInBounds_toArray, List.set_cons_zero, List.set_cons_succ, List.getElem?_toArray, List.getElem?_cons_zero, List.getElem?_cons_succ, Option.bind_some]
     exact rfl
    case stB =>
     simp only [List.take_succ_cons, List.take_zero]
     refine qab rfl rfl ?_ (qab rfl rfl ?_ (qab rfl rfl ?_ (qab rfl rfl ?_ (qac rfl ?_ (qac rfl ?_ (qac rfl ?_ (qab rfl rfl ?_ (qab rfl rfl ?_ (qac rfl ?_ (qac rfl ?_ (qac rfl ?_ (qac rfl ?_ (qac rfl ?_ (qac rfl ?_ (qac rfl ?_ (qac rfl ?_ (qac rfl ?_ (qac rfl ?_ (qac rfl ?_ (qac rfl ?_ (qav)))))))))))))))))))))
     ·intro vals w1 hb hd
      refine qSv (.pointer (some ⟨g4, 2, none⟩)) (by go_simp) (qLk rfl rfl)
     ·intro vals w1 hb hd
      obtain ⟨e0, e1, e2⟩ := qay (qaa G4.out hb)
      rw [show vals 0 = .pointer (some ⟨g4, 2, none⟩) from hd 0 (by kernel_rfl)]
      refine qSv (.int .i64 xr) (by go_simp) (qLk rfl rfl)
     ·intro vals w1 hb hd
      rw [show vals 1 = .int .i64 xr from hd 1 (by kernel_rfl)]
      refine qSv (.bool false) (by go_simp; first | done | exact DV.out | omega | (simp only [decide_eq_true_eq, decide_eq_false_iff_not]; omega) | (simp; omega)) (qLk rfl rfl)
     ·intro vals w1 hb hd
      rw [show vals 2 = .bool false from hd 2 (by kernel_rfl)]
      refine qSv (.bool false) (by go_simp) (qLk rfl rfl)
     ·intro vals w1 hb hd
      refine qam (qal rfl rfl (congrArg some (show KEq (.bool false) (vals 3) w1 from hd 3 (by kernel_rfl))) rfl) ?_
      refine qSv (.pointer (some ⟨g4, 2, none⟩)) (by go_simp) (qLk rfl rfl)
     ·intro vals w1 hb hd
      refine qam (qal rfl rfl (congrArg some (show KEq (.bool false) (vals 3) w1 from hd 3 (by kernel_rfl))) rfl) ?_
      obtain ⟨e0, e1, e2⟩ := qay (qaa G4.out hb)
      rw [show vals 4 = .pointer (some ⟨g4, 2, none⟩) from hd 4 (by kernel_rfl)]
      refine qSv (.int .i64 xr) (by go_simp) (qLk rfl rfl)
     ·intro vals w1 hb hd
      refine qam (qal rfl rfl (congrArg some (show KEq (.bool false) (vals 3) w1 from hd 3 (by kernel_rfl))) rfl) ?_
      rw [show vals 5 = .int .i64 xr from hd 5 (by kernel_rfl)]
      refine qSv (.bool true) (by go_simp; first | done | exact DV.out | omega | (simp only [decide_eq_true_eq, decide_eq_false_iff_not]; omega) | (simp; omega)) (qLk rfl rfl)
     ·intro vals w1 hb hd
      rw [show vals 3 = .bool false from hd 3 (by kernel_rfl)]
      rw [show vals 6 = .bool true from hd 6 (by kernel_rfl)]
      refine qSv (.bool true) (by go_simp) (qLk rfl rfl)
     ·intro vals w1 hb hd
      rw [show vals 7 = .bool true from hd 7 (by kernel_rfl)]
      refine qSv (.bool true) (by go_simp) (qLk rfl rfl)
     ·exact fun vals w1 _ hd => qau (qas rfl rfl (congrArg some (show KEq (.bool true) (vals 8) w1 from hd 8 (by kernel_rfl))) rfl) (qLk trivial rfl)
     ·exact fun vals w1 _ hd => qau (qas rfl rfl (congrArg some (show KEq (.bool true) (vals 8) w1 from hd 8 (by kernel_rfl))) rfl) (qLk trivial rfl)
     ·exact fun vals w1 _ hd => qau (qas rfl rfl (congrArg some (show KEq (.bool true) (vals 8) w1 from hd 8 (by kernel_rfl))) rfl) (qLk trivial rfl)
     ·exact fun vals w1 _ hd => qau (qas rfl rfl (congrArg some (show KEq (.bool true) (vals 8) w1 from hd 8 (by kernel_rfl))) rfl) (qLk rfl rfl)
     ·exact fun vals w1 _ hd => qau (qbc rfl rfl (congrArg some (show KEq (undef) (vals 12) w1 from hd 12 (by kernel_rfl)))) (qLk trivial rfl)
     ·exact fun vals w1 _ hd => qau (qbc rfl rfl (congrArg some (show KEq (undef) (vals 12) w1 from hd 12 (by kernel_rfl)))) (qLk trivial rfl)
     ·exact fun vals w1 _ hd => qau (qbc rfl rfl (congrArg some (show KEq (undef) (vals 12) w1 from hd 12 (by kernel_rfl)))) (qLk trivial rfl)
     ·exact fun vals w1 _ hd => qau (qbc rfl rfl (congrArg some (show KEq (undef) (vals 12) w1 from hd 12 (by kernel_rfl)))) (qLk trivial rfl)
     ·exact fun vals w1 _ hd => qau (qbc rfl rfl (congrArg some (show KEq (undef) (vals 12) w1 from hd 12 (by kernel_rfl)))) (qLk trivial rfl)
     ·exact fun vals w1 _ hd => qau (qbc rfl rfl (congrArg some (show KEq (undef) (vals 12) w1 from hd 12 (by kernel_rfl)))) (qLk trivial rfl)
     ·exact fun vals w1 _ hd => qau (qbc rfl rfl (congrArg some (show KEq (undef) (vals 12) w1 from hd 12 (by kernel_rfl)))) (qLk trivial rfl)
     ·exact fun vals w1 _ hd => qau (qas rfl rfl (congrArg some (show KEq (.bool true) (vals 8) w1 from hd 8 (by kernel_rfl))) rfl) (qLk trivial rfl)
    case tlB =>
     intro vals w5 hb5 hf hdis
     simp only [List.drop_succ_cons, List.drop_zero]
     have z8 : vals 8 = _ := hf 8 (by decide)
     rw [z8]; clear z8
     clear hf hdis
     have BX5 := qHd (BX4.out.trans (hb5.mono BX4.out.size)); have HB5 := qHd (HB4.out.trans (hb5.mono HB4.out.size))
     clear hb5
     go_wp2_with fail
     go_ret
     exact ⟨by rw [R.out]; rfl, HB5.out⟩
   ·skip
    have NB := qHd (show qbj f l 0 = qbj f (l.drop (q + 1)) (q + 1) by rw [FB.out, FD.out, if_neg (by rw [BP.out]; simp; omega)])
    have DV := qHd (show ¬ xr < 2 by omega)
    refine qao (A := ?aaC) (w := w4) 21 [] (by kernel_rfl) (Fl [KEq (.pointer (some ⟨g4, 2, none⟩)), KEq (.int .i64 xr), KEq (.bool false), KEq (.bool false), KEq (.pointer (some ⟨g4, 2, none⟩)), KEq (.int .i64 xr), KEq (.bool false), KEq (.bool false), KEq (.bool false), KEq (.pointer (some ⟨g4, 2, none⟩)), KEq (.int .i64 xr), KEq (.bool false), KEq (.bool false), qfa, qfa, qfa, qfa, qfa, qfa, qfa, KEq (.bool false)]) (fun i => false) (by kernel_rfl) ?hqC (qcw (qae (kEq _) (qae (kEq _) (qae (kEq _) (qae (kEq _) (qae (kEq _) (qae (kEq _) (qae (kEq _) (qae (kEq _) (qae (kEq _) (qae (kEq _) (qae (kEq _) (qae (kEq _) (qae (kEq _) (qae (qfc) (qae (qfc) (qae (qfc) (qae (qfc) (qae (qfc) (qae (qfc) (qae (qfc) (qae (kEq _) qcv)))))))))))))))))))))) ?haC ?stC ?tlC
    case hqC =>
     intro c a d v w h
     first | (simp only [Exit.then] at h ⊢; exact h) | (simp only [Exit.inBlock, Exit.then] at h ⊢; exact h) | exact h
    case haC =>
     intro vals
     simp only [qba, qcd, if_true, Act.put, List.setIfInBounds_toArray, List.set_cons_zero, List.set_cons_succ, List.getElem?_toArray, List.getElem?_cons_zero, List.getElem?_cons_succ, Option.bind_some]
     exact rfl
    case stC =>
     simp only [List.take_succ_cons, List.take_zero]
     refine qab rfl rfl ?_ (qab rfl rfl ?_ (qab rfl rfl ?_ (qab rfl rfl ?_ (qac rfl ?_ (qac rfl ?_ (qac rfl ?_ (qab rfl rfl ?_ (qab rfl rfl ?_ (qac rfl ?_ (qac rfl ?_ (qac rfl ?_ (qac rfl ?_ (qac rfl ?_ (qac rfl ?_ (qac rfl ?_ (qac rfl ?_ (qac rfl ?_ (qac rfl ?_ (qac rfl ?_ (qac rfl ?_ (qav)))))))))))))))))))))
     ·intro vals w1 hb hd
      refine qSv (.pointer (some ⟨g4, 2, none⟩)) (by go_simp) (qLk rfl rfl)
     ·intro vals w1 hb hd
      obtain ⟨e0, e1, e2⟩ := qay (qaa G4.out hb)
      rw [show vals 0 = .pointer (some ⟨g4, 2, none⟩) from hd 0 (by kernel_rfl)]
      refine qSv (.int .i64 xr) (by go_simp) (qLk rfl rfl)
     ·intro vals w1 hb hd
      rw [show vals 1 = .int .i64 xr from hd 1 (by kernel_rfl)]
      refine qSv (.bool false) (by go_simp; first | done | exact DV.out | omega | (simp only [decide_eq_true_eq, decide_eq_false_iff_not]; omega) | (simp; omega)) (qLk rfl rfl)
     ·intro vals w1 hb hd
      rw [show vals 2 = .bool false from hd 2 (by kernel_rfl)]
      refine qSv (.bool false) (by go_simp) (qLk rfl rfl)
     ·intro vals w1 hb hd
      refine qam (qal rfl rfl (congrArg some (show KEq (.bool false) (vals 3) w1 from hd 3 (by kernel_rfl))) rfl) ?_
      refine qSv (.pointer (some ⟨g4, 2, none⟩)) (by go_simp) (qLk rfl rfl)
     ·intro vals w1 hb hd
      refine qam (qal rfl rfl (congrArg some (show KEq (.bool false) (vals 3) w1 from hd 3 (by kernel_rfl))) rfl) ?_
      obtain ⟨e0, e1, e2⟩ := qay (qaa G4.out hb)
      rw [show vals 4 = .pointer (some ⟨g4, 2, none⟩) from hd 4 (by kernel_rfl)]
      refine qSv (.int .i64 xr) (by go_simp) (qLk rfl rfl)
     ·intro vals w1 hb hd
      refine qam (qal rfl rfl (congrArg some (show KEq (.bool false) (vals 3) w1 from hd 3 (by kernel_rfl))) rfl) ?_
      rw [show vals 5 = .int .i64 xr from hd 5 (by kernel_rfl)]
      refine qSv (.bool false) (by go_simp; first | done | exact DV.out | omega | (simp only [decide_eq_true_eq, decide_eq_false_iff_not]; omega) | (simp; omega)) (qLk rfl rfl)
     ·intro vals w1 hb hd
      rw [show vals 3 = .bool false from hd 3 (by kernel_rfl)]
      rw [show vals 6 = .bool false from hd 6 (by kernel_rfl)]
      refine qSv (.bool false) (by go_simp) (qLk rfl rfl)
     ·intro vals w1 hb hd
      rw [show vals 7 = .bool false from hd 7 (by kernel_rfl)]
      refine qSv (.bool false) (by go_simp) (qLk rfl rfl)
     ·intro vals w1 hb hd
      refine qam (qal rfl rfl (congrArg some (show KEq (.bool false) (vals 8) w1 from hd 8 (by kernel_rfl))) rfl) ?_
      refine qSv (.pointer (some ⟨g4, 2, none⟩)) (by go_simp) (qLk rfl rfl)
     ·intro vals w1 hb hd
      refine qam (qal rfl rfl (congrArg some (show KEq (.bool false) (vals 8) w1 from hd 8 (by kernel_rfl))) rfl) ?_
      obtain ⟨e0, e1, e2⟩ := qay (qaa G4.out hb)
      rw [show vals 9 = .pointer (some ⟨g4, 2, none⟩) from hd 9 (by kernel_rfl)]
      refine qSv (.int .i64 xr) (by go_simp) (qLk rfl rfl)
     ·intro vals w1 hb hd
      refine qam (qal rfl rfl (congrArg some (show KEq (.bool false) (vals 8) w1 from hd 8 (by kernel_rfl))) rfl) ?_
      rw [show vals 10 = .int .i64 xr from hd 10 (by kernel_rfl)]
      refine qSv (.bool false) (by go_simp; first | done | exact DV.out | omega | (simp only [decide_eq_true_eq, decide_eq_false_iff_not]; omega) | (simp; omega)) (qLk rfl rfl)
     ·intro vals w1 hb hd
      refine qam (qal rfl rfl (congrArg some (show KEq (.bool false) (vals 8) w1 from hd 8 (by kernel_rfl))) rfl) ?_
      rw [show vals 11 = .bool false from hd 11 (by kernel_rfl)]
      refine qSv (.bool false) (by go_simp) (qLk rfl rfl)
     ·exact fun vals w1 _ hd => qau (qas rfl rfl (congrArg some (show KEq (.bool false) (vals 12) w1 from hd 12 (by kernel_rfl))) rfl) (qLk trivial rfl)
     ·exact fun vals w1 _ hd => qau (qas rfl rfl (congrArg some (show KEq (.bool false) (vals 12) w1 from hd 12 (by kernel_rfl))) rfl) (qLk trivial rfl)
     ·exact fun vals w1 _ hd => qau (qas rfl rfl (congrArg some (show KEq (.bool false) (vals 12) w1 from hd 12 (by kernel_rfl))) rfl) (qLk trivial rfl)
     ·exact fun vals w1 _ hd => qau (qas rfl rfl (congrArg some (show KEq (.bool false) (vals 12) w1 from hd 12 (by kernel_rfl))) rfl) (qLk trivial rfl)
     ·exact fun vals w1 _ hd => qau (qas rfl rfl (congrArg some (show KEq (.bool false) (vals 12) w1 from hd 12 (by kernel_rfl))) rfl) (qLk trivial rfl)
     ·exact fun vals w1 _ hd => qau (qas rfl rfl (congrArg some (show KEq (.bool false) (vals 12) w1 from hd 12 (by kernel_rfl))) rfl) (qLk trivial rfl)
     ·exact fun vals w1 _ hd => qau (qas rfl rfl (congrArg some (show KEq (.bool false) (vals 12) w1 from hd 12 (by kernel_rfl))) rfl) (qLk trivial rfl)
     ·intro vals w1 hb hd
      refine qam (qal rfl rfl (congrArg some (show KEq (.bool false) (vals 8) w1 from hd 8 (by kernel_rfl))) rfl) ?_
      rw [show vals 12 = .bool false from hd 12 (by kernel_rfl)]
      refine qSv (.bool false) (by go_simp) (qLk rfl rfl)
    case tlC =>
     intro vals w5 hb5 hf hdis
     simp only [List.drop_succ_cons, List.drop_zero]
     have z8 : vals 8 = _ := hf 8 (by decide)
     rw [z8]; clear z8
     have z20 : vals 20 = _ := hf 20 (by decide)
     rw [z20]; clear z20
     clear hf hdis
     have BX5 := qHd (BX4.out.trans (hb5.mono BX4.out.size)); have HB5 := qHd (HB4.out.trans (hb5.mono HB4.out.size))
     clear hb5
     go_wp2_with fail
     go_roundw
     case rel => exact ⟨q + 1, by omega, by go_num, qHd BX5.out, qHd NB.out⟩
     case measure => simp [intOf]; omega
   ·by_cases d1 : (fv : Int) = xr
    ·skip
     have NB := qHd (show qbj f l 0 = qbj f (l.drop (q + 1)) (q + 1) by rw [FB.out, FD.out, if_neg (by rw [BP.out]; simp; omega)])
     have DV := qHd (show xr < 2 by omega)
     have DD := qHd d1
     refine qao (A := ?aaD1) (w := w4) 21 [] (by kernel_rfl) (Fl [KEq (.pointer (some ⟨g4, 2, none⟩)), KEq (.int .i64 xr), KEq (.bool false), KEq (.bool false), KEq (.pointer (some ⟨g4, 2, none⟩)), KEq (.int .i64 xr), KEq (.bool false), KEq (.bool false), KEq (.bool false), KEq (.pointer (some ⟨g4, 2, none⟩)), KEq (.int .i64 xr), KEq (.bool true), KEq (.bool true), KEq (.agg #[.int .i64 f.vars, .slice ao f.nodes.length c, .int .i64 f.top]), KEq (.pointer (some ⟨g4, 0, none⟩)), KEq (.agg #[.int .i64 (xy : Nat), .int .i64 (xn : Nat)]), KEq (.int .i64 (fv : Nat)), KEq (.pointer (some ⟨g4, 2, none⟩)), KEq (.int .i64 xr), KEq (.bool false), KEq (.bool false)]) (fun i => false) (by kernel_rfl) ?hqD1 (qcw (qae (kEq _) (qae (kEq _) (qae (kEq _) (qae (kEq _) (qae (kEq _) (qae (kEq _) (qae (kEq _) (qae (kEq _) (qae (kEq _) (qae (kEq _) (qae (kEq _) (qae (kEq _) (qae (kEq _) (qae (kEq _) (qae (kEq _) (qae (kEq _) (qae (kEq _) (qae (kEq _) (qae (kEq _) (qae (kEq _) (qae (kEq _) qcv)))))))))))))))))))))) ?haD1 ?stD1 ?tlD1
     case hqD1 =>
      intro c a d v w h
      first | (simp only [Exit.then] at h ⊢; exact h) | (simp only [Exit.inBlock, Exit.then] at h ⊢; exact h) | exact h
     case haD1 =>
      intro vals
      simp only [qba, qcd, if_true, Act.put, List.setIfInBounds_toArray, List.set_cons_zero, List.set_cons_succ, List.getElem?_toArray, List.getElem?_cons_zero, List.getElem?_cons_succ, Option.bind_some]
      exact rfl
     case stD1 =>
      simp only [List.take_succ_cons, List.take_zero]
      refine qab rfl rfl ?_ (qab rfl rfl ?_ (qab rfl rfl ?_ (qab rfl rfl ?_ (qac rfl ?_ (qac rfl ?_ (qac rfl ?_ (qab rfl rfl ?_ (qab rfl rfl ?_ (qac rfl ?_ (qac rfl ?_ (qac rfl ?_ (qac rfl ?_ (qac rfl ?_ (qac rfl ?_ (qac rfl ?_ (qac rfl ?_ (qac rfl ?_ (qac rfl ?_ (qac rfl ?_ (qac rfl ?_ (qav)))))))))))))))))))))
      ·intro vals w1 hb hd
       refine qSv (.pointer (some ⟨g4, 2, none⟩)) (by go_simp) (qLk rfl rfl)
      ·intro vals w1 hb hd
       obtain ⟨e0, e1, e2⟩ := qay (qaa G4.out hb)
       rw [show vals 0 = .pointer (some ⟨g4, 2, none⟩) from hd 0 (by kernel_rfl)]
       refine qSv (.int .i64 xr) (by go_simp) (qLk rfl rfl)
      ·intro vals w1 hb hd
       rw [show vals 1 = .int .i64 xr from hd 1 (by kernel_rfl)]
       refine qSv (.bool false) (by go_simp; first | done | exact DV.out | omega | (simp only [decide_eq_true_eq, decide_eq_false_iff_not]; omega) | (simp; omega)) (qLk rfl rfl)
      ·intro vals w1 hb hd
       rw [show vals 2 = .bool false from hd 2 (by kernel_rfl)]
       refine qSv (.bool false) (by go_simp) (qLk rfl rfl)
      ·intro vals w1 hb hd
       refine qam (qal rfl rfl (congrArg some (show KEq (.bool false) (vals 3) w1 from hd 3 (by kernel_rfl))) rfl) ?_
       refine qSv (.pointer (some ⟨g4, 2, none⟩)) (by go_simp) (qLk rfl rfl)
      ·intro vals w1 hb hd
       refine qam (qal rfl rfl (congrArg some (show KEq (.bool false) (vals 3) w1 from hd 3 (by kernel_rfl))) rfl) ?_
       obtain ⟨e0, e1, e2⟩ := qay (qaa G4.out hb)
       rw [show vals 4 = .pointer (some ⟨g4, 2, none⟩) from hd 4 (by kernel_rfl)]
       refine qSv (.int .i64 xr) (by go_simp) (qLk rfl rfl)
      ·intro vals w1 hb hd
       refine qam (qal rfl rfl (congrArg some (show KEq (.bool false) (vals 3) w1 from hd 3 (by kernel_rfl))) rfl) ?_
       rw [show vals 5 = .int .i64 xr from hd 5 (by kernel_rfl)]
       refine qSv (.bool false) (by go_simp; first | done | exact DV.out | omega | (simp only [decide_eq_true_eq, decide_eq_false_iff_not]; omega) | (simp; omega)) (qLk rfl rfl)
      ·intro vals w1 hb hd
       rw [show vals 3 = .bool false from hd 3 (by kernel_rfl)]
       rw [show vals 6 = .bool false from hd 6 (by kernel_rfl)]
       refine qSv (.bool false) (by go_simp) (qLk rfl rfl)
      ·intro vals w1 hb hd
       rw [show vals 7 = .bool false from hd 7 (by kernel_rfl)]
       refine qSv (.bool false) (by go_simp) (qLk rfl rfl)
      ·intro vals w1 hb hd
       refine qam (qal rfl rfl (congrArg some (show KEq (.bool false) (vals 8) w1 from hd 8 (by kernel_rfl))) rfl) ?_
       refine qSv (.pointer (some ⟨g4, 2, none⟩)) (by go_simp) (qLk rfl rfl)
      ·intro vals w1 hb hd
       refine qam (qal rfl rfl (congrArg some (show KEq (.bool false) (vals 8) w1 from hd 8 (by kernel_rfl))) rfl) ?_
       obtain ⟨e0, e1, e2⟩ := qay (qaa G4.out hb)
       rw [show vals 9 = .pointer (some ⟨g4, 2, none⟩) from hd 9 (by kernel_rfl)]
       refine qSv (.int .i64 xr) (by go_simp) (qLk rfl rfl)
      ·intro vals w1 hb hd
       refine qam (qal rfl rfl (congrArg some (show KEq (.bool false) (vals 8) w1 from hd 8 (by kernel_rfl))) rfl) ?_
       rw [show vals 10 = .int .i64 xr from hd 10 (by kernel_rfl)]
       refine qSv (.bool true) (by go_simp; first | done | exact DV.out | omega | (simp only [decide_eq_true_eq, decide_eq_false_iff_not]; omega) | (simp; omega)) (qLk rfl rfl)
      ·intro vals w1 hb hd
       refine qam (qal rfl rfl (congrArg some (show KEq (.bool false) (vals 8) w1 from hd 8 (by kernel_rfl))) rfl) ?_
       rw [show vals 11 = .bool true from hd 11 (by kernel_rfl)]
       refine qSv (.bool true) (by go_simp) (qLk rfl rfl)
      ·intro vals w1 hb hd
       refine qam (qal rfl rfl (congrArg some (show KEq (.bool true) (vals 12) w1 from hd 12 (by kernel_rfl))) rfl) ?_
       obtain ⟨e0, e1, e2⟩ := qay (qaa G1'.out hb)
       refine qSv (.agg #[.int .i64 f.vars, .slice ao f.nodes.length c, .int .i64 f.top]) (by go_simp) (qLk rfl rfl)
      ·intro vals w1 hb hd
       refine qam (qal rfl rfl (congrArg some (show KEq (.bool true) (vals 12) w1 from hd 12 (by kernel_rfl))) rfl) ?_
       refine qSv (.pointer (some ⟨g4, 0, none⟩)) (by go_simp) (qLk rfl rfl)
      ·intro vals w1 hb hd
       refine qam (qal rfl rfl (congrArg some (show KEq (.bool true) (vals 12) w1 from hd 12 (by kernel_rfl))) rfl) ?_
       obtain ⟨e0, e1, e2⟩ := qay (qaa G4.out hb)
       rw [show vals 14 = .pointer (some ⟨g4, 0, none⟩) from hd 14 (by kernel_rfl)]
       refine qSv (.agg #[.int .i64 (xy : Nat), .int .i64 (xn : Nat)]) (by go_simp) (qLk rfl rfl)
      ·intro vals w1 hb hd
       refine qam (qal rfl rfl (congrArg some (show KEq (.bool true) (vals 12) w1 from hd 12 (by kernel_rfl))) rfl) ?_
       have d13 : KEq (.agg #[.int .i64 f.vars, .slice ao f.nodes.length c, .int .i64 f.top]) (vals 13) w1 := hd 13 (by kernel_rfl)
       have d15 : KEq (.agg #[.int .i64 (xy : Nat), .int .i64 (xn : Nat)]) (vals 15) w1 := hd 15 (by kernel_rfl)
       have HS := qHd (rvalue_any _ f xy xn w1 (HF.out.below (HB4.out.step hb)) E0.out HCX.out)
       have z13 : vals 13 = _ := d13
       rw [z13]; clear z13
       have z15 : vals 15 = _ := d15
       rw [z15]; clear z15
       refine qat (by go_simp; first | done | exact ⟨⟨rfl, rfl⟩, rfl⟩) ?_
       (with_reducible refine HS.out.mono ?_); rintro e w2 ⟨rfl, hb2⟩
       exact ⟨_, rfl, qar hb2 (congrArg (fun n : Nat => Value.int .i64 (n : Int)) HV.out) (fun h => by cases h)⟩
      ·intro vals w1 hb hd
       refine qam (qal rfl rfl (congrArg some (show KEq (.bool true) (vals 12) w1 from hd 12 (by kernel_rfl))) rfl) ?_
       refine qSv (.pointer (some ⟨g4, 2, none⟩)) (by go_simp) (qLk rfl rfl)
      ·intro vals w1 hb hd
       refine qam (qal rfl rfl (congrArg some (show KEq (.bool true) (vals 12) w1 from hd 12 (by kernel_rfl))) rfl) ?_
       obtain ⟨e0, e1, e2⟩ := qay (qaa G4.out hb)
       rw [show vals 17 = .pointer (some ⟨g4, 2, none⟩) from hd 17 (by kernel_rfl)]
       refine qSv (.int .i64 xr) (by go_simp) (qLk rfl rfl)
      ·intro vals w1 hb hd
       refine qam (qal rfl rfl (congrArg some (show KEq (.bool true) (vals 12) w1 from hd 12 (by kernel_rfl))) rfl) ?_
       rw [show vals 16 = .int .i64 (fv : Nat) from hd 16 (by kernel_rfl)]
       rw [show vals 18 = .int .i64 xr from hd 18 (by kernel_rfl)]
       refine qSv (.bool false) (by go_simp; first | done | exact DD.out | simpa using DD.out | omega) (qLk rfl rfl)
      ·intro vals w1 hb hd
       refine qam (qal rfl rfl (congrArg some (show KEq (.bool false) (vals 8) w1 from hd 8 (by kernel_rfl))) rfl) ?_
       rw [show vals 12 = .bool true from hd 12 (by kernel_rfl)]
       rw [show vals 19 = .bool false from hd 19 (by kernel_rfl)]
       refine qSv (.bool false) (by go_simp) (qLk rfl rfl)
     case tlD1 =>
      intro vals w5 hb5 hf hdis
      simp only [List.drop_succ_cons, List.drop_zero]
      have z8 : vals 8 = _ := hf 8 (by decide)
      rw [z8]; clear z8
      have z20 : vals 20 = _ := hf 20 (by decide)
      rw [z20]; clear z20
      clear hf hdis
      have BX5 := qHd (BX4.out.trans (hb5.mono BX4.out.size)); have HB5 := qHd (HB4.out.trans (hb5.mono HB4.out.size))
      clear hb5
      go_wp2_with fail
      go_roundw
      case rel => exact ⟨q + 1, by omega, by go_num, qHd BX5.out, qHd NB.out⟩
      case measure => simp [intOf]; omega
    ·skip
     have R := qHd (show qbj f l 0 = (q : Int) by rw [FB.out, FD.out, if_pos (by rw [BP.out]; simp; omega)])
     have DV := qHd (show xr < 2 by omega)
     have DD := qHd (show (((fv : Nat) : Int) != xr) = true from bne_iff_ne.2 d1)
     refine qao (A := ?aaD2) (w := w4) 21 [] (by kernel_rfl) (Fl [KEq (.pointer (some ⟨g4, 2, none⟩)), KEq (.int .i64 xr), KEq (.bool false), KEq (.bool false), KEq (.pointer (some ⟨g4, 2, none⟩)), KEq (.int .i64 xr), KEq (.bool false), KEq (.bool false), KEq (.bool false), KEq (.pointer (some ⟨g4, 2, none⟩)), KEq (.int .i64 xr), KEq (.bool true), KEq (.bool true), KEq (.agg #[.int .i64 f.vars, .slice ao f.nodes.length c, .int .i64 f.top]), KEq (.pointer (some ⟨g4, 0, none⟩)), KEq (.agg #[.int .i64 (xy : Nat), .int .i64 (xn : Nat)]), KEq (.int .i64 (fv : Nat)), KEq (.pointer (some ⟨g4, 2, none⟩)), KEq (.int .i64 xr), KEq (.bool true), KEq (.bool true)]) (fun i => false) (by kernel_rfl) ?hqD2 (qcw (qae (kEq _) (qae (kEq _) (qae (kEq _) (qae (kEq _) (qae (kEq _) (qae (kEq _) (qae (kEq _) (qae (kEq _) (qae (kEq _) (qae (kEq _) (qae (kEq _) (qae (kEq _) (qae (kEq _) (qae (kEq _) (qae (kEq _) (qae (kEq _) (qae (kEq _) (qae (kEq _) (qae (kEq _) (qae (kEq _) (qae (kEq _) qcv)))))))))))))))))))))) ?haD2 ?stD2 ?tlD2
     case hqD2 =>
      intro c a d v w h
      first | (simp only [Exit.then] at h ⊢; exact h) | (simp only [Exit.inBlock, Exit.then] at h ⊢; exact h) | exact h
     case haD2 =>
      intro vals
      simp only [qba, qcd, if_true, Act.put, List.setIfInBounds_toArray, List.set_cons_zero, List.set_cons_succ, List.getElem?_toArray, List.getElem?_cons_zero, List.getElem?_cons_succ, Option.bind_some]
      exact rfl
     case stD2 =>
      simp only [List.take_succ_cons, List.take_zero]
      refine qab rfl rfl ?_ (qab rfl rfl ?_ (qab rfl rfl ?_ (qab rfl rfl ?_ (qac rfl ?_ (qac rfl ?_ (qac rfl ?_ (qab rfl rfl ?_ (qab rfl rfl ?_ (qac rfl ?_ (qac rfl ?_ (qac rfl ?_ (qac rfl ?_ (qac rfl ?_ (qac rfl ?_ (qac rfl ?_ (qac rfl ?_ (qac rfl ?_ (qac rfl ?_ (qac rfl ?_ (qac rfl ?_ (qav)))))))))))))))))))))
      ·intro vals w1 hb hd
       refine qSv (.pointer (some ⟨g4, 2, none⟩)) (by go_simp) (qLk rfl rfl)
      ·intro vals w1 hb hd
       obtain ⟨e0, e1, e2⟩ := qay (qaa G4.out hb)
       rw [show vals 0 = .pointer (some ⟨g4, 2, none⟩) from hd 0 (by kernel_rfl)]
       refine qSv (.int .i64 xr) (by go_simp) (qLk rfl rfl)
      ·intro vals w1 hb hd
       rw [show vals 1 = .int .i64 xr from hd 1 (by kernel_rfl)]
       refine qSv (.bool false) (by go_simp; first | done | exact DV.out | omega | (simp only [decide_eq_true_eq, decide_eq_false_iff_not]; omega) | (simp; omega)) (qLk rfl rfl)
      ·intro vals w1 hb hd
       rw [show vals 2 = .bool false from hd 2 (by kernel_rfl)]
       refine qSv (.bool false) (by go_simp) (qLk rfl rfl)
      ·intro vals w1 hb hd
       refine qam (qal rfl rfl (congrArg some (show KEq (.bool false) (vals 3) w1 from hd 3 (by kernel_rfl))) rfl) ?_
       refine qSv (.pointer (some ⟨g4, 2, none⟩)) (by go_simp) (qLk rfl rfl)
      ·intro vals w1 hb hd
       refine qam (qal rfl rfl (congrArg some (show KEq (.bool false) (vals 3) w1 from hd 3 (by kernel_rfl))) rfl) ?_
       obtain ⟨e0, e1, e2⟩ := qay (qaa G4.out hb)
       rw [show vals 4 = .pointer (some ⟨g4, 2, none⟩) from hd 4 (by kernel_rfl)]
       refine qSv (.int .i64 xr) (by go_simp) (qLk rfl rfl)
      ·intro vals w1 hb hd
       refine qam (qal rfl rfl (congrArg some (show KEq (.bool false) (vals 3) w1 from hd 3 (by kernel_rfl))) rfl) ?_
       rw [show vals 5 = .int .i64 xr from hd 5 (by kernel_rfl)]
       refine qSv (.bool false) (by go_simp; first | done | exact DV.out | omega | (simp only [decide_eq_true_eq, decide_eq_false_iff_not]; omega) | (simp; omega)) (qLk rfl rfl)
      ·intro vals w1 hb hd
       rw [show vals 3 = .bool false from hd 3 (by kernel_rfl)]
       rw [show vals 6 = .bool false from hd 6 (by kernel_rfl)]
       refine qSv (.bool false) (by go_simp) (qLk rfl rfl)
      ·intro vals w1 hb hd
       rw [show vals 7 = .bool false from hd 7 (by kernel_rfl)]
       refine qSv (.bool false) (by go_simp) (qLk rfl rfl)
      ·intro vals w1 hb hd
       refine qam (qal rfl rfl (congrArg some (show KEq (.bool false) (vals 8) w1 from hd 8 (by kernel_rfl))) rfl) ?_
       refine qSv (.pointer (some ⟨g4, 2, none⟩)) (by go_simp) (qLk rfl rfl)
      ·intro vals w1 hb hd
       refine qam (qal rfl rfl (congrArg some (show KEq (.bool false) (vals 8) w1 from hd 8 (by kernel_rfl))) rfl) ?_
       obtain ⟨e0, e1, e2⟩ := qay (qaa G4.out hb)
       rw [show vals 9 = .pointer (some ⟨g4, 2, none⟩) from hd 9 (by kernel_rfl)]
       refine qSv (.int .i64 xr) (by go_simp) (qLk rfl rfl)
      ·intro vals w1 hb hd
       refine qam (qal rfl rfl (congrArg some (show KEq (.bool false) (vals 8) w1 from hd 8 (by kernel_rfl))) rfl) ?_
       rw [show vals 10 = .int .i64 xr from hd 10 (by kernel_rfl)]
       refine qSv (.bool true) (by go_simp; first | done | exact DV.out | omega | (simp only [decide_eq_true_eq, decide_eq_false_iff_not]; omega) | (simp; omega)) (qLk rfl rfl)
      ·intro vals w1 hb hd
       refine qam (qal rfl rfl (congrArg some (show KEq (.bool false) (vals 8) w1 from hd 8 (by kernel_rfl))) rfl) ?_
       rw [show vals 11 = .bool true from hd 11 (by kernel_rfl)]
       refine qSv (.bool true) (by go_simp) (qLk rfl rfl)
      ·intro vals w1 hb hd
       refine qam (qal rfl rfl (congrArg some (show KEq (.bool true) (vals 12) w1 from hd 12 (by kernel_rfl))) rfl) ?_
       obtain ⟨e0, e1, e2⟩ := qay (qaa G1'.out hb)
       refine qSv (.agg #[.int .i64 f.vars, .slice ao f.nodes.length c, .int .i64 f.top]) (by go_simp) (qLk rfl rfl)
      ·intro vals w1 hb hd
       refine qam (qal rfl rfl (congrArg some (show KEq (.bool true) (vals 12) w1 from hd 12 (by kernel_rfl))) rfl) ?_
       refine qSv (.pointer (some ⟨g4, 0, none⟩)) (by go_simp) (qLk rfl rfl)
      ·intro vals w1 hb hd
       refine qam (qal rfl rfl (congrArg some (show KEq (.bool true) (vals 12) w1 from hd 12 (by kernel_rfl))) rfl) ?_
       obtain ⟨e0, e1, e2⟩ := qay (qaa G4.out hb)
       rw [show vals 14 = .pointer (some ⟨g4, 0, none⟩) from hd 14 (by kernel_rfl)]
       refine qSv (.agg #[.int .i64 (xy : Nat), .int .i64 (xn : Nat)]) (by go_simp) (qLk rfl rfl)
      ·intro vals w1 hb hd
       refine qam (qal rfl rfl (congrArg some (show KEq (.bool true) (vals 12) w1 from hd 12 (by kernel_rfl))) rfl) ?_
       have d13 : KEq (.agg #[.int .i64 f.vars, .slice ao f.nodes.length c, .int .i64 f.top]) (vals 13) w1 := hd 13 (by kernel_rfl)
       have d15 : KEq (.agg #[.int .i64 (xy : Nat), .int .i64 (xn : Nat)]) (vals 15) w1 := hd 15 (by kernel_rfl)
       have HS := qHd (rvalue_any _ f xy xn w1 (HF.out.below (HB4.out.step hb)) E0.out HCX.out)
       have z13 : vals 13 = _ := d13
       rw [z13]; clear z13
       have z15 : vals 15 = _ := d15
       rw [z15]; clear z15
       refine qat (by go_simp; first | done | exact ⟨⟨rfl, rfl⟩, rfl⟩) ?_
       (with_reducible refine HS.out.mono ?_); rintro e w2 ⟨rfl, hb2⟩
       exact ⟨_, rfl, qar hb2 (congrArg (fun n : Nat => Value.int .i64 (n : Int)) HV.out) (fun h => by cases h)⟩
      ·intro vals w1 hb hd
       refine qam (qal rfl rfl (congrArg some (show KEq (.bool true) (vals 12) w1 from hd 12 (by kernel_rfl))) rfl) ?_
       refine qSv (.pointer (some ⟨g4, 2, none⟩)) (by go_simp) (qLk rfl rfl)
      ·intro vals w1 hb hd
       refine qam (qal rfl rfl (congrArg some (show KEq (.bool true) (vals 12) w1 from hd 12 (by kernel_rfl))) rfl) ?_
       obtain ⟨e0, e1, e2⟩ := qay (qaa G4.out hb)
       rw [show vals 17 = .pointer (some ⟨g4, 2, none⟩) from hd 17 (by kernel_rfl)]
       refine qSv (.int .i64 xr) (by go_simp) (qLk rfl rfl)
      ·intro vals w1 hb hd
       refine qam (qal rfl rfl (congrArg some (show KEq (.bool true) (vals 12) w1 from hd 12 (by kernel_rfl))) rfl) ?_
       rw [show vals 16 = .int .i64 (fv : Nat) from hd 16 (by kernel_rfl)]
       rw [show vals 18 = .int .i64 xr from hd 18 (by kernel_rfl)]
       refine qSv (.bool true) (by go_simp; first | done | exact DD.out | simpa using DD.out | omega) (qLk rfl rfl)
      ·intro vals w1 hb hd
       refine qam (qal rfl rfl (congrArg some (show KEq (.bool false) (vals 8) w1 from hd 8 (by kernel_rfl))) rfl) ?_
       rw [show vals 12 = .bool true from hd 12 (by kernel_rfl)]
       rw [show vals 19 = .bool true from hd 19 (by kernel_rfl)]
       refine qSv (.bool true) (by go_simp) (qLk rfl rfl)
     case tlD2 =>
      intro vals w5 hb5 hf hdis
      simp only [List.drop_succ_cons, List.drop_zero]
      have z8 : vals 8 = _ := hf 8 (by decide)
      rw [z8]; clear z8
      have z20 : vals 20 = _ := hf 20 (by decide)
      rw [z20]; clear z20
      clear hf hdis
      have BX5 := qHd (BX4.out.trans (hb5.mono BX4.out.size)); have HB5 := qHd (HB4.out.trans (hb5.mono HB4.out.size))
      clear hb5
      go_wp2_with fail
      go_ret
      exact ⟨by rw [R.out]; rfl, HB5.out⟩
  ·have hq' : q = l.length := by omega
   subst hq'
   have R := qHd (show qbj f l 0 = -1 by rw [FB.out, List.drop_length]; rfl)
   go_wp2_with fail
   go_ret
   exact ⟨by rw [R.out]; rfl, HBo.out⟩
theorem rgiven_any (vf v x : Value) (f : Fm) (L : List Rv) (t : Tr) (w : World) (hf : FmV w vf f) (hl : RvsV w v L) (ht : TrV w x t) (hsm : ∀ r ∈ L, r.a.length ≤ 3 ∧ r.b.length ≤ 3) (er : Nat) (her : sErr f t L = er) :
  Calls Tryz.prog 55 #[vf, v, x] w (fun e w' => ∃ v', e = .returned (.tuple #[v', .int .i64 (er : Nat)]) ∧ Below w.heap.size w w' ∧ (er = 0 → LfsV w' v' (qah t 0 0))) := by
 have hrs := qfx t x 0 0 ht
 have HL := qHd hl; have HSM := qHd hsm; have HRS := qHd hrs; clear hl hsm hrs
 obtain ⟨nv, rfl, hn, hv, htp⟩ := hf
 obtain ⟨ao, c, rfl, hc, hc2, _⟩ := hn.shape
 have HF := qHd (show FmV w _ f from ⟨_, rfl, hn, hv, htp⟩)
 have HT := qHd ht
 obtain ⟨tv, tr, ta, tn, tc, rfl⟩ := ht.shape
 obtain ⟨W, hW, hbW, hg1, hg2⟩ := qBx2 w (.cells #[.int .i64 f.vars, .slice ao f.nodes.length c, .int .i64 f.top] 24) (.cells #[.int .i64 tv, .slice ta tn tc, .int .i64 tr] 27)
 obtain ⟨g1, hG1⟩ : ∃ g, g = w.heap.size := ⟨_, rfl⟩
 obtain ⟨g2, hG2⟩ : ∃ g, g = w.heap.size + 1 := ⟨_, rfl⟩
 rw [← hG1] at hg1; rw [← hG2] at hg2
 have HBW := qHd hbW; have G1 := qHd hg1; have G2 := qHd hg2
 obtain ⟨x0, x1, x2⟩ := qay hg1
 obtain ⟨y0, y1, y2⟩ := qay hg2
 rw [hW, hG1] at x0 x1 x2
 rw [hW, hG2] at y0 y1 y2
 clear hbW hg1 hg2 hn hv htp ht
 have HK := qHd (rerror_any _ _ f t W (HF.out.below HBW.out) (HT.out.below HBW.out))
 obtain ⟨ce, hce⟩ : ∃ ce, cErr f t = ce := ⟨_, rfl⟩
 obtain ⟨pe, hpe⟩ : ∃ pe, probE f L = pe := ⟨_, rfl⟩
 obtain ⟨fb, hfb⟩ : ∃ fb, qbj f (qah t 0 0) 0 = fb := ⟨_, rfl⟩
 have SE := qHd (show er = if ce ≠ 0 then ce else if pe ≠ 0 then pe else if 0 ≤ fb then 15 else 0 by
  rw [← her, ← hce, ← hpe, ← hfb]; unfold sErr probE
  split
  ·rfl
  ·split
   ·rfl
   ·split <;> rfl)
 rw [hce] at HK
 have HCE := qHd hce; have HPE := qHd hpe; have HFB := qHd hfb
 obtain ⟨al, cl, rfl, hcl, hcl2, _⟩ := HL.out.shape
 clear hce hpe hfb her
 go_enter Tryz.func55, Tryz.ntmps55
 go_wp2_with (with_reducible refine qad ?_)
 rw [← hW, ← hG2, ← hG1]; clear hW hG1 hG2 x0 x1 x2 y0 y1 y2
 refine qap.mk ?_
 (with_reducible refine HK.out.mono ?_); rintro e w1 ⟨rfl, hb1⟩
 have HB := qHd (HBW.out.trans (hb1.mono HBW.out.size))
 have X1 := qHd (qaa G1.out hb1); have X2 := qHd (qaa G2.out hb1)
 have HF := qHd (HF.out.below HB.out); have HL := qHd (HL.out.below HB.out); have HT := qHd (HT.out.below HB.out)
 clear hb1 HK HBW G1 G2
 by_cases h0 : ce = 0
 case neg =>
  obtain rfl : er = ce := by rw [SE.out, if_pos h0]
  have h0z : ¬ ((er : Nat) : Int) = 0 := by omega
  clear SE
  go_wp2_with fail
  go_ret2
  exact ⟨_, rfl, HB.out, fun h => absurd h h0⟩
 subst h0
 have HK := qHd (rprobs_any _ _ f L w1 HF.out HL.out HSM.out)
 rw [HPE.out] at HK
 obtain ⟨x0, x1, x2⟩ := qay X1.out
 obtain ⟨y0, y1, y2⟩ := qay X2.out
 go_wp2_with (with_reducible refine qad ?_)
 clear x0 x1 x2 y0 y1 y2
 refine qap.mk ?_
 (with_reducible refine HK.out.mono ?_); rintro e w2 ⟨rfl, hb2⟩
 have HB := qHd (HB.out.trans (hb2.mono HB.out.size))
 have HF := qHd (HF.out.below hb2)
 have HL := qHd (HL.out.below hb2)
 have HT := qHd (HT.out.below hb2)
 have X1 := qHd (qaa X1.out hb2)
 have X2 := qHd (qaa X2.out hb2)
 clear hb2 HK
 by_cases h1 : pe = 0
 case neg =>
  obtain rfl : er = pe := by rw [SE.out, if_neg (fun h => h rfl), if_pos h1]
  have h1z : ¬ ((er : Nat) : Int) = 0 := by omega
  clear SE
  go_wp2_with fail
  go_ret2
  exact ⟨_, rfl, HB.out, fun h => absurd h h1⟩
 subst h1
 have hfm := (qds HCE.out).1
 obtain ⟨p0, p1, _, _⟩ := qbe hfm
 have HFM := qHd hfm; have HP := qHd (And.intro p0 p1); clear hfm p0 p1
 have HK := qHd (rLeaves_any _ t f.vars w2 HT.out HP.out 0 (by rw [← cErr_t HFM.out]; exact HCE.out))
 obtain ⟨x0, x1, x2⟩ := qay X1.out
 obtain ⟨y0, y1, y2⟩ := qay X2.out
 go_wp2_with (with_reducible refine qad ?_)
 clear x0 x1 x2 y0 y1 y2
 refine qap.mk ?_
 (with_reducible refine HK.out.mono ?_); rintro e w3 ⟨v', rfl, hb3, hl3⟩
 have HB := qHd (HB.out.trans (hb3.mono HB.out.size))
 have HF := qHd (HF.out.below hb3)
 have X1 := qHd (qaa X1.out hb3)
 clear hb3 HK
 have HLV := qHd (hl3 (by first | rfl | trivial)); clear hl3
 have HK := qHd (rwrong_any _ v' f _ w3 HF.out HLV.out HFM.out (fun z hz => okC_cube (qdy HCE.out z hz) HP.out.1 HP.out.2) HRS.out (cert_len HCE.out))
 rw [HFB.out] at HK
 obtain ⟨x0, x1, x2⟩ := qay X1.out
 go_wp2_with (with_reducible refine qad ?_)
 clear x0 x1 x2
 refine qap.mk ?_
 (with_reducible refine HK.out.mono ?_); rintro e w4 ⟨rfl, hb4⟩
 have HB := qHd (HB.out.trans (hb4.mono HB.out.size)); have HLV := qHd (HLV.out.below hb4)
 clear hb4 HK
 by_cases h2 : 0 ≤ fb
 ·obtain rfl : er = 15 := by rw [SE.out, if_neg (fun h => h rfl), if_neg (fun h => h rfl), if_pos h2]
  clear SE
  go_wp2_with fail
  go_ret2
  exact ⟨_, rfl, HB.out, fun h => absurd h (by decide)⟩
 ·obtain rfl : er = 0 := by rw [SE.out, if_neg (fun h => h rfl), if_neg (fun h => h rfl), if_neg h2]
  clear SE
  go_wp2_with fail
  go_ret2
  exact ⟨v', rfl, HB.out, by first | exact HLV.out | exact fun _ => HLV.out⟩
theorem putL_66 {w : World} {g : Nat} {x0 x1 x2 x3 x4 x5 y0 y1 y2 y3 y4 y5 : Value} {T : TypeId} (h : w.heap[g]? = some (.cells #[x0, x1, x2, x3, x4, x5] T)) : (qel w g 0 [y0, y1, y2, y3, y4, y5]).heap[g]? = some (.cells #[y0, y1, y2, y3, y4, y5] T) := by
 simp [qel, World.setCell, Array.getElem?_modify, h]
def RetBdN (w : World) (S : Rat × Rat) (er : Nat) (e : Ending) (w' : World) : Prop := ∃ v, e = .returned (.tuple #[v, .int .i64 (er : Nat)]) ∧ Below w.heap.size w w' ∧ IsSp w' v S
theorem rbounds_any (vf x v : Value) (f : Fm) (t : Tr) (L : List Rv) (w : World) (hf : FmV w vf f) (ht : TrV w x t) (hp : RvsV w v L) (hsm : ∀ r ∈ L, r.a.length ≤ 3 ∧ r.b.length ≤ 3 ∧ rl r.q ≤ 3) (hlv : cErr f t = 0 → (qah t 0 0).length ≤ 300) (er : Nat) (her : sErr f t L = er) :
  Calls Tryz.prog 24 #[vf, v, x] w (RetBdN w (bndV f t L) er) := by
 have HSM3 := qHd (fun r hr => And.intro (hsm r hr).1 (hsm r hr).2.1)
 have HSM := qHd hsm; have HLVB := qHd hlv
 have HL := qHd hp; have HER := qHd her
 clear hp hsm hlv her
 obtain ⟨nv, rfl, hn, hv, htp⟩ := hf
 obtain ⟨ao, c, rfl, hc, hc2, _⟩ := hn.shape
 have HF := qHd (show FmV w _ f from ⟨_, rfl, hn, hv, htp⟩)
 have HT := qHd ht
 obtain ⟨tv, tr, ta, tn, tc, rfl⟩ := ht.shape
 obtain ⟨al, cl, rfl, hcl, hcl2, _⟩ := HL.out.shape
 obtain ⟨wa, hwa⟩ : ∃ x, x = w.alloc (.cells #[.int .i64 f.vars, .slice ao f.nodes.length c, .int .i64 f.top] 24) := ⟨_, rfl⟩
 obtain ⟨wb, hwb⟩ : ∃ x, x = wa.alloc (.cells #[.int .i64 tv, .slice ta tn tc, .int .i64 tr] 27) := ⟨_, rfl⟩
 obtain ⟨W, hW⟩ : ∃ x, x = wb.alloc (.cells #[.bool false, .slice none 0 0, .slice none 0 0, .bool false, .slice none 0 0, .slice none 0 0] 56) := ⟨_, rfl⟩
 have ba : Below w.heap.size w wa := by rw [hwa]; exact qBA _ _
 have bb : Below wa.heap.size wa wb := by rw [hwb]; exact qBA _ _
 have bW : Below wb.heap.size wb W := by rw [hW]; exact qBA _ _
 have sa : wa.heap.size = w.heap.size + 1 := by rw [hwa]; exact Array.size_push (xs := w.heap) _
 have sb : wb.heap.size = w.heap.size + 1 + 1 := by rw [← sa, hwb]; exact Array.size_push (xs := wa.heap) _
 have hg3 : W.heap[w.heap.size]? = some (.cells #[.int .i64 f.vars, .slice ao f.nodes.length c, .int .i64 f.top] 24) := qaa (qaa (by rw [hwa]; exact heap_alloc_new w _) bb) bW
 have hg5 : W.heap[w.heap.size + 1]? = some (.cells #[.int .i64 tv, .slice ta tn tc, .int .i64 tr] 27) := qaa (by rw [← sa, hwb]; exact heap_alloc_new wa _) bW
 have hg6 : W.heap[w.heap.size + 1 + 1]? = some (.cells #[.bool false, .slice none 0 0, .slice none 0 0, .bool false, .slice none 0 0, .slice none 0 0] 56) := by rw [← sb, hW]; exact heap_alloc_new wb _
 have HB := qHd (ba.trans ((bb.mono ba.size).trans (bW.mono (Nat.le_trans ba.size bb.size))))
 obtain ⟨g3, hG3⟩ : ∃ g, g = w.heap.size := ⟨_, rfl⟩
 obtain ⟨g5, hG5⟩ : ∃ g, g = w.heap.size + 1 := ⟨_, rfl⟩
 obtain ⟨g6, hG6⟩ : ∃ g, g = w.heap.size + 1 + 1 := ⟨_, rfl⟩
 rw [← hG3] at hg3; rw [← hG5] at hg5; rw [← hG6] at hg6
 have l6 : w.heap.size ≤ g6 := by omega
 have G6 := qHd hg6
 obtain ⟨x0, x1, x2⟩ := qay hg3
 obtain ⟨y0, y1, y2⟩ := qay hg5
 rw [hW, hwb, hwa, hG3] at x0 x1 x2
 rw [hW, hwb, hwa, hG5] at y0 y1 y2
 have HK := qHd (rgiven_any _ _ _ f L t W (HF.out.below HB.out) (HL.out.below HB.out) (HT.out.below HB.out) HSM3.out er HER.out)
 clear ba bb bW sa sb hg3 hg5 hg6 hn hv htp ht
 go_enter Tryz.func24, Tryz.ntmps24
 go_wp2_with (with_reducible refine qad ?_)
 rw [← hwa, ← hwb, ← hW, ← hG6, ← hG5, ← hG3]
 clear hwa hwb hW hG6 hG5 hG3 x0 x1 x2 y0 y1 y2
 refine qap.mk ?_
 (with_reducible refine HK.out.mono ?_); rintro e w1 ⟨v1, rfl, hb1, hl1⟩
 have HL := qHd (HL.out.below HB.out)
 have HB := qHd (HB.out.trans (hb1.mono HB.out.size))
 have HL := qHd (HL.out.below hb1)
 have G6 := qHd (qaa G6.out hb1)
 clear hb1 HK
 by_cases h0 : er = 0
 case neg =>
  have h0z : ¬ ((er : Nat) : Int) = 0 := by omega
  have R := qHd (show bndV f t L = (0, 0) by unfold bndV; rw [if_neg (by rw [HER.out]; exact h0)])
  go_wp2_with (with_reducible refine qaf ?_)
  refine qan g6 0 [.bool false, .slice none 0 0, .slice none 0 0, .bool false, .slice none 0 0, .slice none 0 0] G6.out rfl rfl (Nat.le_of_ble_eq_true rfl) (by kernel_rfl) rfl ?_
  intro wz hpz
  have GZ := qHd (show wz.heap[g6]? = some (.cells #[.bool false, .slice none 0 0, .slice none 0 0, .bool false, .slice none 0 0, .slice none 0 0] 56) by rw [hpz]; exact putL_66 G6.out)
  have HBz := qHd (qbl hpz HB.out l6)
  clear hpz
  go_wp2_with (with_reducible first | refine qad ?_ | refine qai ?_ | refine qaj ?_ | refine qak ?_ | refine qag ?_)
  refine qcl rfl g6 #[.bool false, .slice none 0 0, .slice none 0 0, .bool false, .slice none 0 0, .slice none 0 0] rfl GZ.out Tryz.underlying56 rfl (by kernel_rfl) rfl ?_
  exact ⟨_, rfl, HBz.out, by rw [R.out]; exact ⟨_, _, _, _, _, _, rfl, qdg _, qdg _⟩⟩
 subst h0
 obtain ⟨k1, k2, k3, k4⟩ := qex HER.out
 have HLS := qHd (show LfsV w1 v1 (qah t 0 0) from hl1 (by first | rfl | trivial))
 clear hl1
 have h24 := (qbe (qds k1).1).2.1
 have h24' : L.length ≤ 24 := by omega
 have p0 := (qbe (qds k1).1).1
 have HRV := qHd (fun r hr => (show RvOK 3 r from ⟨k3 r hr, (HSM.out r hr).1, (HSM.out r hr).2.1, (HSM.out r hr).2.2⟩))
 have HCU := qHd (fun (x : Lf) (hx : x ∈ qah t 0 0) => (show x.yes < 16777216 ∧ x.no < 16777216 ∧ x.yes &&& x.no = 0 from by
  have hc := okC_cube (qdy k1 x hx) p0 h24
  exact ⟨hc.small.1, hc.small.2, (okC_lt (qdy k1 x hx)).2.2⟩))
 have H300 := qHd (HLVB.out k1)
 clear k1 k2 k3 k4 h24 p0
 have A1 := qHd (rl_sum (r := 1) h24' HSM.out H300.out); have A0 := qHd (rl_sum (r := 0) h24' HSM.out H300.out)
 have R := qHd (show bndV f t L = (sumF (L.map Rv.q) 1 (qah t 0 0) 0, 1 - sumF (L.map Rv.q) 0 (qah t 0 0) 0) by unfold bndV; rw [if_pos HER.out])
 have HK := qHd (rsum_any _ _ _ L 1 w1 HLS.out HL.out HRV.out h24' HCU.out H300.out)
 go_wp2_with (with_reducible refine qad ?_)
 refine qap.mk ?_
 (with_reducible refine HK.out.mono ?_); rintro e w3 ⟨v3, rfl, hb3, hn3⟩
 have HB := qHd (HB.out.trans (hb3.mono HB.out.size))
 have HL := qHd (HL.out.below hb3)
 have HLS := qHd (HLS.out.below hb3)
 have G6 := qHd (qaa G6.out hb3)
 obtain ⟨s3, o3, n3, c3, a3, m3, d3, rfl⟩ := hn3.shape
 have I3 := qHd hn3
 clear hb3 hn3 HK
 have HK := qHd (rofq_any 1 w3 (by decide) (by decide))
 go_wp2_with (with_reducible refine qad ?_)
 refine qap.mk ?_
 (with_reducible refine HK.out.mono ?_); rintro e w4 ⟨v4, rfl, hb4, hn4⟩
 have HB := qHd (HB.out.trans (hb4.mono HB.out.size))
 have HL := qHd (HL.out.below hb4)
 have HLS := qHd (HLS.out.below hb4)
 have I3 := qHd (I3.out.below hb4)
 have G6 := qHd (qaa G6.out hb4)
 obtain ⟨s4, o4, n4, c4, a4, m4, d4, rfl⟩ := hn4.shape
 have I4 := qHd (show IsR w4 _ 1 from hn4)
 clear hb4 hn4 HK
 have HK := qHd (rsum_any _ _ _ L 0 w4 HLS.out HL.out HRV.out h24' HCU.out H300.out)
 go_wp2_with (with_reducible refine qad ?_)
 refine qap.mk ?_
 (with_reducible refine HK.out.mono ?_); rintro e w5 ⟨v5, rfl, hb5, hn5⟩
 have HB := qHd (HB.out.trans (hb5.mono HB.out.size))
 have I3 := qHd (I3.out.below hb5)
 have I4 := qHd (I4.out.below hb5)
 have G6 := qHd (qaa G6.out hb5)
 obtain ⟨s5, o5, n5, c5, a5, m5, d5, rfl⟩ := hn5.shape
 have I5 := qHd hn5
 clear hb5 hn5 HK
 have HK := qHd (rsubq_any _ 1 _ _ w5 (I4.out.is (by rw [rl_one]; decide)) (I5.out.is (by have := A0.out; omega)))
 go_wp2_with (with_reducible refine qad ?_)
 refine qap.mk ?_
 (with_reducible refine HK.out.mono ?_); rintro e w6 ⟨v6, rfl, hb6, hn6⟩
 have HB := qHd (HB.out.trans (hb6.mono HB.out.size))
 have I3 := qHd (I3.out.below hb6)
 have G6 := qHd (qaa G6.out hb6)
 obtain ⟨s6, o6, n6, c6, a6, m6, d6, rfl⟩ := hn6.shape
 have I6 := qHd hn6
 clear hb6 hn6 HK
 go_wp2_with (with_reducible refine qaf ?_)
 refine qan g6 0 [.bool s3, .slice o3 n3 c3, .slice a3 m3 d3, .bool s6, .slice o6 n6 c6, .slice a6 m6 d6] G6.out rfl rfl (Nat.le_of_ble_eq_true rfl) (by kernel_rfl) rfl ?_
 intro wz hpz
 have GZ := qHd (show wz.heap[g6]? = some (.cells #[.bool s3, .slice o3 n3 c3, .slice a3 m3 d3, .bool s6, .slice o6 n6 c6, .slice a6 m6 d6] 56) by rw [hpz]; exact putL_66 G6.out)
 have HBz := qHd (qbl hpz HB.out l6)
 have J3 := qHd (qbq hpz I3.out G6.out noW6); have J6 := qHd (qbq hpz I6.out G6.out noW6)
 clear hpz
 go_wp2_with (with_reducible first | refine qad ?_ | refine qai ?_ | refine qaj ?_ | refine qak ?_ | refine qag ?_)
 refine qcl rfl g6 #[.bool s3, .slice o3 n3 c3, .slice a3 m3 d3, .bool s6, .slice o6 n6 c6, .slice a6 m6 d6] rfl GZ.out Tryz.underlying56 rfl (by kernel_rfl) rfl ?_
 exact ⟨_, rfl, HBz.out, by rw [R.out]; exact ⟨_, _, _, _, _, _, rfl, J3.out, J6.out⟩⟩
theorem rvalue_c (vf x v : Value) (f : Fm) (t : Tr) (L : List Rv) (w : World) (hf : FmV w vf f) (ht : TrV w x t) (hp : RvsV w v L) (hsm : ∀ r ∈ L, r.a.length ≤ 3 ∧ r.b.length ≤ 3 ∧ rl r.q ≤ 3) (hlv : cErr f t = 0 → (qah t 0 0).length ≤ 300) (er : Nat) (her : sErr f t L = er) :
  Calls Tryz.prog 25 #[vf, v, x] w (RetRE w (valC f t L).1 (.int .i64 ((valC f t L).2 : Nat))) := by
 have HSM3 := qHd (fun r hr => And.intro (hsm r hr).1 (hsm r hr).2.1)
 have HSM := qHd hsm; have HLVB := qHd hlv
 have HL := qHd hp; have HER := qHd her
 clear hp hsm hlv her
 obtain ⟨nv, rfl, hn, hv, htp⟩ := hf
 obtain ⟨ao, c, rfl, hc, hc2, _⟩ := hn.shape
 have HF := qHd (show FmV w _ f from ⟨_, rfl, hn, hv, htp⟩)
 have HT := qHd ht
 obtain ⟨tv, tr, ta, tn, tc, rfl⟩ := ht.shape
 obtain ⟨al, cl, rfl, hcl, hcl2, _⟩ := HL.out.shape
 obtain ⟨wa, hwa⟩ : ∃ x, x = w.alloc (.cells #[.int .i64 f.vars, .slice ao f.nodes.length c, .int .i64 f.top] 24) := ⟨_, rfl⟩
 obtain ⟨wb, hwb⟩ : ∃ x, x = wa.alloc (.cells #[.int .i64 tv, .slice ta tn tc, .int .i64 tr] 27) := ⟨_, rfl⟩
 obtain ⟨W, hW⟩ : ∃ x, x = wb.alloc (.cells #[.bool false, .slice none 0 0, .slice none 0 0] 54) := ⟨_, rfl⟩
 have ba : Below w.heap.size w wa := by rw [hwa]; exact qBA _ _
 have bb : Below wa.heap.size wa wb := by rw [hwb]; exact qBA _ _
 have bW : Below wb.heap.size wb W := by rw [hW]; exact qBA _ _
 have sa : wa.heap.size = w.heap.size + 1 := by rw [hwa]; exact Array.size_push (xs := w.heap) _
 have sb : wb.heap.size = w.heap.size + 1 + 1 := by rw [← sa, hwb]; exact Array.size_push (xs := wa.heap) _
 have hg3 : W.heap[w.heap.size]? = some (.cells #[.int .i64 f.vars, .slice ao f.nodes.length c, .int .i64 f.top] 24) := qaa (qaa (by rw [hwa]; exact heap_alloc_new w _) bb) bW
 have hg5 : W.heap[w.heap.size + 1]? = some (.cells #[.int .i64 tv, .slice ta tn tc, .int .i64 tr] 27) := qaa (by rw [← sa, hwb]; exact heap_alloc_new wa _) bW
 have hg6 : W.heap[w.heap.size + 1 + 1]? = some (.cells #[.bool false, .slice none 0 0, .slice none 0 0] 54) := by rw [← sb, hW]; exact heap_alloc_new wb _
 have HB := qHd (ba.trans ((bb.mono ba.size).trans (bW.mono (Nat.le_trans ba.size bb.size))))
 obtain ⟨g3, hG3⟩ : ∃ g, g = w.heap.size := ⟨_, rfl⟩
 obtain ⟨g5, hG5⟩ : ∃ g, g = w.heap.size + 1 := ⟨_, rfl⟩
 obtain ⟨g6, hG6⟩ : ∃ g, g = w.heap.size + 1 + 1 := ⟨_, rfl⟩
 rw [← hG3] at hg3; rw [← hG5] at hg5; rw [← hG6] at hg6
 have l6 : w.heap.size ≤ g6 := by omega
 have G6 := qHd hg6
 obtain ⟨x0, x1, x2⟩ := qay hg3
 obtain ⟨y0, y1, y2⟩ := qay hg5
 rw [hW, hwb, hwa, hG3] at x0 x1 x2
 rw [hW, hwb, hwa, hG5] at y0 y1 y2
 have HK := qHd (rgiven_any _ _ _ f L t W (HF.out.below HB.out) (HL.out.below HB.out) (HT.out.below HB.out) HSM3.out er HER.out)
 clear ba bb bW sa sb hg3 hg5 hg6 hn hv htp ht
 go_enter Tryz.func25, Tryz.ntmps25
 go_wp2_with (with_reducible refine qad ?_)
 rw [← hwa, ← hwb, ← hW, ← hG6, ← hG5, ← hG3]
 clear hwa hwb hW hG6 hG5 hG3 x0 x1 x2 y0 y1 y2
 refine qap.mk ?_
 (with_reducible refine HK.out.mono ?_); rintro e w1 ⟨v1, rfl, hb1, hl1⟩
 have HL := qHd (HL.out.below HB.out)
 have HB := qHd (HB.out.trans (hb1.mono HB.out.size))
 have HL := qHd (HL.out.below hb1)
 have G6 := qHd (qaa G6.out hb1)
 clear hb1 HK
 by_cases h0 : er = 0
 case neg =>
  have h0z : ¬ ((er : Nat) : Int) = 0 := by omega
  have R := qHd (show valC f t L = (0, er) by unfold valC; rw [if_pos (by rw [HER.out]; exact h0), HER.out])
  go_wp2_with (with_reducible refine qaf ?_)
  refine qan g6 0 [.bool false, .slice none 0 0, .slice none 0 0] G6.out rfl rfl (Nat.le_of_ble_eq_true rfl) (by kernel_rfl) rfl ?_
  intro wz hpz
  have GZ := qHd (show wz.heap[g6]? = some (.cells #[.bool false, .slice none 0 0, .slice none 0 0] 54) by rw [hpz]; exact qbd G6.out)
  have HBz := qHd (qbl hpz HB.out l6)
  clear hpz
  go_wp2_with (with_reducible first | refine qad ?_ | refine qai ?_ | refine qaj ?_ | refine qak ?_ | refine qag ?_)
  refine qft rfl g6 _ _ _ rfl GZ.out rfl ?_
  exact ⟨_, by rw [R.out]; rfl, HBz.out, by rw [R.out]; exact qdg _⟩
 subst h0
 obtain ⟨k1, k2, k3, k4⟩ := qex HER.out
 have HLS := qHd (show LfsV w1 v1 (qah t 0 0) from hl1 (by first | rfl | trivial))
 clear hl1
 have h24 := (qbe (qds k1).1).2.1
 have h24' : L.length ≤ 24 := by omega
 have p0 := (qbe (qds k1).1).1
 have HRV := qHd (fun r hr => (show RvOK 3 r from ⟨k3 r hr, (HSM.out r hr).1, (HSM.out r hr).2.1, (HSM.out r hr).2.2⟩))
 have HCU := qHd (fun (x : Lf) (hx : x ∈ qah t 0 0) => (show x.yes < 16777216 ∧ x.no < 16777216 ∧ x.yes &&& x.no = 0 from by
  have hc := okC_cube (qdy k1 x hx) p0 h24
  exact ⟨hc.small.1, hc.small.2, (okC_lt (qdy k1 x hx)).2.2⟩))
 have H300 := qHd (HLVB.out k1)
 clear k1 k2 k3 k4 h24 p0
 obtain ⟨ls, hls⟩ : ∃ ls, ls = qah t 0 0 := ⟨_, rfl⟩
 have VC := qHd (show valC f t L = if (ls.any fun x => decide (x.reason = 2)) = true then (0, 18) else (sumF (L.map Rv.q) 1 ls 0, 0) by unfold valC; rw [if_neg (by rw [HER.out]; exact fun h => h rfl), ← hls])
 rw [← hls] at HLS HCU H300
 obtain ⟨av, cv, rfl, hcv, hcv2, _⟩ := HLS.out.shape
 clear hls
 go_wp2_with (with_reducible first | refine qad ?_ | refine qai ?_ | refine qaj ?_ | refine qak ?_ | refine qag ?_)
 refine qap.mk ?_
 go_loopw [25] (fun i' wx => ∃ q : Nat, q ≤ ls.length ∧ i' = .int .i64 q ∧ Hid (Below w1.heap.size w1 wx) ∧ Hid (∀ z ∈ ls.take q, decide (z.reason = 2) = false)) (fun i' _ => ls.length - (intOf i').toNat)
 case atStart => exact ⟨0, Nat.zero_le _, rfl, qHd (Below.refl _ _), qHd (by simp)⟩
 case round =>
  obtain ⟨q, hq, rfl, BX, PR⟩ := hrel
  obtain ⟨wo, rfl⟩ : ∃ wo : World, wo = wr := ⟨_, rfl⟩
  have HB := qHd (HB.out.trans (BX.out.mono HB.out.size)); have G6 := qHd (qaa G6.out BX.out)
  by_cases hlt : q < ls.length
  ·obtain ⟨z, hz⟩ : ∃ z, ls[q]? = some z := ⟨ls[q], List.getElem?_eq_getElem hlt⟩
   obtain ⟨bl, ol, rfl, hbl, hjk, hat⟩ := (HLS.out.below BX.out).at (by omega); clear hjk
   obtain ⟨c0, c1, c2⟩ := hat q z hz
   have HZ := qHd hz
   clear hat hz
   obtain ⟨xy, xn, xr⟩ := z
   simp only at c0 c1 c2
   have hltz : (q : Int) < (ls.length : Int) := by omega
   obtain ⟨wa, hwa, hba, gL, hGL, hga⟩ := qBx5 wo (.cells #[.int .i64 0, .int .i64 0, .int .i64 0] 48)
   go_wp2_with (with_reducible refine qaf ?_)
   rw [← hwa, ← hGL]
   refine qan gL 0 [.int .i64 (xy : Nat), .int .i64 (xn : Nat), .int .i64 xr] hga rfl rfl (Nat.le_of_ble_eq_true rfl) (by kernel_rfl) rfl ?_
   intro w4 hp4
   have neL : g6 ≠ gL := by have := qaw G6.out; omega
   have BX4 := qHd (qbl hp4 (BX.out.trans (hba.mono BX.out.size)) (by have := BX.out.size; omega)); have HB4 := qHd (qbl hp4 (HB.out.trans (hba.mono HB.out.size)) (by have := HB.out.size; omega)); have G64 := qHd (qbr hp4 (qaa G6.out hba) neL)
   have GL := qHd (show w4.heap[gL]? = some (.cells #[.int .i64 (xy : Nat), .int .i64 (xn : Nat), .int .i64 xr] 48) by rw [hp4]; exact qbd hga)
   obtain ⟨l0, l1, l2⟩ := qay GL.out
   clear hwa hGL hba hga hp4 c0 c1 c2
   by_cases hr2 : xr = 2
   ·have R := qHd (show valC f t L = (0, 18) by rw [VC.out, if_pos (List.any_eq_true.2 ⟨_, List.mem_of_getElem? HZ.out, by simp [hr2]⟩)])
    subst hr2
    go_wp2_with (with_reducible refine qaf ?_)
    refine qan g6 0 [.bool false, .slice none 0 0, .slice none 0 0] G64.out rfl rfl (Nat.le_of_ble_eq_true rfl) (by kernel_rfl) rfl ?_
    intro wz hpz
    have GZ := qHd (show wz.heap[g6]? = some (.cells #[.bool false, .slice none 0 0, .slice none 0 0] 54) by rw [hpz]; exact qbd G64.out)
    have HBz := qHd (qbl hpz HB4.out l6)
    clear hpz
    go_wp2_with (with_reducible first | refine qad ?_ | refine qai ?_ | refine qaj ?_ | refine qak ?_ | refine qag ?_)
    refine qft rfl g6 _ _ _ rfl GZ.out rfl ?_
    exact ⟨_, by rw [R.out]; rfl, HBz.out, by rw [R.out]; exact qdg _⟩
   ·have hr2z : (xr == 2) = false := by rw [beq_eq_false_iff_ne]; exact hr2
    go_wp2_with fail
    go_roundw
    case rel => exact ⟨q + 1, by omega, by go_num, BX4, qHd (fun z hz => by
     rw [qen HZ.out] at hz
     rcases List.mem_append.1 hz with hz | hz
     ·exact PR.out z hz
     ·rw [List.mem_singleton] at hz; subst hz; exact decide_eq_false hr2)⟩
    case measure => simp [intOf]; omega
  ·have hq' : q = ls.length := by omega
   subst hq'
   have PR2 := PR.out
   rw [List.take_length] at PR2
   have R := qHd (show valC f t L = (sumF (L.map Rv.q) 1 ls 0, 0) by rw [VC.out, if_neg (by intro hh; obtain ⟨z, h1, h2⟩ := List.any_eq_true.1 hh; rw [PR2 z h1] at h2; cases h2)])
   have HK := qHd (rsum_any _ _ ls L 1 wo (HLS.out.below BX.out) (HL.out.below BX.out) HRV.out h24' HCU.out H300.out)
   clear PR2
   go_wp2_with (with_reducible refine qad ?_)
   refine qap.mk ?_
   (with_reducible refine HK.out.mono ?_); rintro e w3 ⟨v3, rfl, hb3, hn3⟩
   obtain ⟨s3, o3, n3, c3, a3, m3, d3, rfl⟩ := hn3.shape
   have I3 := qHd hn3
   have HB := qHd (HB.out.trans (hb3.mono HB.out.size)); have G6 := qHd (qaa G6.out hb3)
   clear hb3 hn3 HK
   go_wp2_with (with_reducible refine qaf ?_)
   refine qan g6 0 [.bool s3, .slice o3 n3 c3, .slice a3 m3 d3] G6.out rfl rfl (Nat.le_of_ble_eq_true rfl) (by kernel_rfl) rfl ?_
   intro wz hpz
   have GZ := qHd (show wz.heap[g6]? = some (.cells #[.bool s3, .slice o3 n3 c3, .slice a3 m3 d3] 54) by rw [hpz]; exact qbd G6.out)
   have HBz := qHd (qbl hpz HB.out l6)
   have J3 := qHd (qbq hpz I3.out G6.out noW3)
   clear hpz
   go_wp2_with (with_reducible first | refine qad ?_ | refine qai ?_ | refine qaj ?_ | refine qak ?_ | refine qag ?_)
   refine qft rfl g6 _ _ _ rfl GZ.out rfl ?_
   exact ⟨_, by rw [R.out]; rfl, HBz.out, by rw [R.out]; exact J3.out⟩
def rfV (f : Fm) (t : Tr) (L : List Rv) : Tr × Nat :=
 if sErr f t L ≠ 0 then (.mk 0 [] 0, sErr f t L)
 else match qfe (L.map Rv.q) (qah t 0 0) 0 none with
  | none => (.mk 0 [] 0, 17)
  | some r => swpV f.vars t (r.1 : Nat) (grT f 1 ((qah t 0 0).getD r.1 ⟨0, 0, 0⟩).yes ((qah t 0 0).getD r.1 ⟨0, 0, 0⟩).no)
theorem rfV_bad {f : Fm} {t : Tr} {L : List Rv} {e : Nat} (h : sErr f t L = e) (h0 : e ≠ 0) : rfV f t L = (.mk 0 [] 0, e) := by
 unfold rfV; rw [if_pos (by rw [h]; exact h0), h]
theorem rfV_none {f : Fm} {t : Tr} {L : List Rv} (h : sErr f t L = 0) (h0 : qfe (L.map Rv.q) (qah t 0 0) 0 none = none) : rfV f t L = (.mk 0 [] 0, 17) := by
 unfold rfV; rw [if_neg (fun k => k h), h0]
theorem rfV_some {f : Fm} {t : Tr} {L : List Rv} {r : Nat × Rat} {x : Lf} (h : sErr f t L = 0) (h0 : qfe (L.map Rv.q) (qah t 0 0) 0 none = some r) (hx : (qah t 0 0)[r.1]? = some x) :
  rfV f t L = swpV f.vars t (r.1 : Nat) (grT f 1 x.yes x.no) := by
 unfold rfV; rw [if_neg (fun k => k h), h0]
 show swpV f.vars t (r.1 : Nat) (grT f 1 ((qah t 0 0).getD r.1 ⟨0, 0, 0⟩).yes ((qah t 0 0).getD r.1 ⟨0, 0, 0⟩).no) = _
 rw [List.getD_eq_getElem?_getD, hx]; rfl
theorem pickL_drop {ps : List Rat} {l : List Lf} {q : Nat} {x : Lf} {acc : Option (Nat × Rat)} (h : l[q]? = some x) : qfe ps (l.drop q) q acc = qfe ps (l.drop (q + 1)) (q + 1) (pickS ps x q acc) := by
 obtain ⟨h1, h2⟩ := List.getElem?_eq_some_iff.1 h
 rw [List.drop_eq_getElem_cons h1, h2]; rfl
def atI : Option (Nat × Rat) → Int
 | none => -1
 | some p => (p.1 : Nat)
def accOK (ps : List Rat) (l : List Lf) (acc : Option (Nat × Rat)) : Prop := ∀ p, acc = some p → ∃ x, l[p.1]? = some x ∧ p.2 = wt ps x.yes x.no
theorem accOK_none (ps : List Rat) (l : List Lf) : accOK ps l none := fun p h => by cases h
theorem accOK_at {ps : List Rat} {l : List Lf} {q : Nat} {x : Lf} (h : l[q]? = some x) : accOK ps l (some (q, wt ps x.yes x.no)) := fun p hp => by cases hp; exact ⟨x, h, rfl⟩
theorem pickS_no {ps : List Rat} {x : Lf} {i : Nat} {acc : Option (Nat × Rat)} (h : x.reason ≠ 2) : pickS ps x i acc = acc := by unfold pickS; rw [if_neg h]
theorem pickS_first {ps : List Rat} {x : Lf} {i : Nat} (h : x.reason = 2) : pickS ps x i none = some (i, wt ps x.yes x.no) := by unfold pickS; rw [if_pos h]
theorem pickS_more {ps : List Rat} {x : Lf} {i j : Nat} {m : Rat} (h : x.reason = 2) : pickS ps x i (some (j, m)) = if m < wt ps x.yes x.no then some (i, wt ps x.yes x.no) else some (j, m) := by unfold pickS; rw [if_pos h]
theorem rl_wt24 {L : List Rv} (h24 : L.length ≤ 24) (hl : ∀ z ∈ L, rl z.q ≤ 3) (y n : Nat) : rl (wt (L.map Rv.q) y n) ≤ 121 := by
 have h := rl_wtL (k := 3) (L.map Rv.q) 0 y n (fun p hp => by obtain ⟨z, hz, rfl⟩ := List.mem_map.1 hp; exact hl z hz)
 rw [List.length_map] at h
 show rl (wtL _ 0 _ _) ≤ 121
 have h3 : L.length * (3 + 2) ≤ 24 * 5 := Nat.mul_le_mul_right 5 h24
 omega
theorem grN1_le (f : Fm) (y n : Nat) : grN f 1 y n ≤ 3 := by simp only [grN]; split <;> omega
theorem Tryz.splitTy : qee Tryz.prog 25 27 (.agg #[.int .i64 0, .slice none 0 0, .int .i64 0]) 3 40 := .mk' Tryz.underlying25 (by kernel_rfl)
def KeepH (w w2 : World) : Prop := ∀ (k : Nat) (cs : Array Value), w.heap[k]? = some (.cells cs 27) → 6 ≤ cs.size → w2.heap[k]? = w.heap[k]?
theorem keepH_trans {a b c : World} (h : KeepH a b) (k : KeepH b c) : KeepH a c := fun i cs hi hs => by
 have := h i cs hi hs
 rw [← this]; exact k i cs (by rw [this]; exact hi) hs
theorem qcb {a b : World} (h : Below a.heap.size a b) : KeepH a b := fun i _ hi _ => h.block i (Array.getElem?_eq_some_iff.1 hi).1
theorem keepH_gb {a b : World} {g : Nat} {cs : Array Value} {T : TypeId} (h : a.grownBy b (some g)) (hg : a.heap[g]? = some (.cells cs T)) (hs : cs.size < 6) : KeepH a b := fun i cs' hi h6 => by
 refine h.block i (Array.getElem?_eq_some_iff.1 hi).1 (fun e => ?_)
 cases e
 rw [hg] at hi
 cases hi; omega
theorem qes {w w' : World} {p off : Nat} {l : List Value} {cs : Array Value} {T : TypeId} (hw : w' = qel w p off l) (hp : w.heap[p]? = some (.cells cs T)) (hs : cs.size < 6) : KeepH w w' := keepH_gb (qfz hw) hp hs
def TrH (w : World) (x : Value) (t : Tr) : Prop := ∀ w2, KeepH w w2 → TrV w2 x t
theorem TrH.keep {w w' : World} {x : Value} {t : Tr} (h : TrH w x t) (k : KeepH w w') : TrH w' x t := fun w2 h2 => h w2 (keepH_trans k h2)
theorem TrH.tr {w : World} {x : Value} {t : Tr} (h : TrH w x t) : TrV w x t := h w (fun _ _ _ _ => rfl)
theorem TrG.toH {w : World} {x : Value} {t : Tr} (h : TrG w x t) : TrH w x t := fun w2 k => h w2 (fun i cs hi hs => k i cs hi (by omega))
def KHt (t : Tr) : Value → World → Prop := fun v w => TrH w v t
theorem kHt (t : Tr) : MonoF (KHt t) := fun _ _ _ h hb => h.keep (qcb hb)
def KHl (t : Tr) (k : Nat) : Value → World → Prop := fun v w => ∃ a, v = .tuple #[a, .int .i64 (k : Nat)] ∧ TrH w a t
theorem kHl (t : Tr) (k : Nat) : MonoF (KHl t k) := fun _ _ _ ⟨a, ha, ht⟩ hb => ⟨a, ha, ht.keep (qcb hb)⟩
def RetHw (w : World) (t : Tr) (left : Nat) (e : Ending) (w' : World) : Prop := ∃ v, e = .returned (.tuple #[v, .int .i64 (left : Nat)]) ∧ TrH w' v t ∧ Below w.heap.size w w'
def lfC : Tr → List Value | .mk v _ r => [.int .i64 v, .slice none 0 0, .int .i64 r]
def lfCs (l : List Tr) : List Value := l.flatMap lfC
theorem lfC_len (t : Tr) : (lfC t).length = 3 := by cases t; rfl
theorem lfCs_app (a b : List Tr) : lfCs (a ++ b) = lfCs a ++ lfCs b := by simp [lfCs]
theorem lfCs_one (t : Tr) : lfCs [t] = lfC t := by simp [lfCs]
theorem lfCs_at : ∀ (ts : List Tr) (i k : Nat) (t : Tr), ts[i]? = some t → k < 3 → (lfCs ts)[i * 3 + k]? = (lfC t)[k]?
 | [], i, k, t, h, _ => by simp at h
 | x :: ts, i, k, t, h, hk => by
  rw [show lfCs (x :: ts) = lfC x ++ lfCs ts from rfl]
  cases i with
  | zero => simp at h; subst h; rw [List.getElem?_append_left (by rw [lfC_len]; omega)]; simp
  | succ i =>
   simp only [List.getElem?_cons_succ] at h
   rw [List.getElem?_append_right (by rw [lfC_len]; omega), lfC_len, show (i + 1) * 3 + k - 3 = i * 3 + k by omega]
   exact lfCs_at ts i k t h hk
def FlatT : Tr → Prop | .mk v ks r => ks.length ≠ 1 ∧ ks.length ≤ 1000 ∧ I64 v ∧ I64 r ∧ ∀ k ∈ ks, ∃ a b, k = .mk a [] b ∧ I64 a ∧ I64 b
theorem flat_grow (f : Fm) (h : qcc f = 0) (y n : Nat) : FlatT (grT f 1 y n) := by
 obtain ⟨p0, p1, _, p3⟩ := qbe h
 have lf : ∀ y n, qco f y n ≤ 2 := fun y n => fmVal_le p3 y n
 by_cases h2 : qco f y n = 2
 ·obtain ⟨h1, _⟩ := fmNext_ok h h2
  simp only [grT]
  rw [if_neg (fun k => k h2)]
  refine ⟨by simp, by simp, ⟨by omega, by omega⟩, ⟨by decide, by decide⟩, fun k hk => ?_⟩
  simp only [List.mem_cons, List.not_mem_nil, or_false] at hk
  rcases hk with rfl | rfl
  ·have := lf y (n ||| 1 <<< qcp f y n)
   exact ⟨0, _, rfl, ⟨by decide, by decide⟩, ⟨by omega, by omega⟩⟩
  ·have := lf (y ||| 1 <<< qcp f y n) n
   exact ⟨0, _, rfl, ⟨by decide, by decide⟩, ⟨by omega, by omega⟩⟩
 ·simp only [grT]
  rw [if_pos h2]
  have := lf y n
  exact ⟨by decide, by decide, ⟨by decide, by decide⟩, ⟨by omega, by omega⟩, fun k hk => by cases hk⟩
theorem own_flat {w w2 : World} {B : Nat} {x : Value} {v r : Int} {ks : List Tr} (h : w.ownsRow B 27 3 x ks.length (lfCs ks)) (hf : FlatT (.mk v ks r)) (hk : KeepH w w2) : TrV w2 (.agg #[.int .i64 v, x, .int .i64 r]) (.mk v ks r) := by
 obtain ⟨h1, h10, hv, hr, hl⟩ := hf
 refine ⟨x, rfl, ?_, hv, hr⟩
 obtain ⟨k1, k2⟩ := h
 rcases k2 with ⟨e1, e2⟩ | ⟨g, cap, cur, e1, e2, e3, e4, e5, e6, e7⟩
 ·obtain rfl : ks = [] := List.eq_nil_of_length_eq_zero e2
  rw [e1]; exact KidsV.nil w2
 ·by_cases h0 : ks.length = 0
  ·obtain rfl : ks = [] := List.eq_nil_of_length_eq_zero h0
   rw [e1]
   exact ⟨_, _, rfl, Nat.zero_le _, by unfold maxLen at e5; omega, (fun h => by cases h), fun b o s h => ⟨fun h => absurd h (Nat.lt_irrefl _), by simp only [qeb]⟩⟩
  ·have e8 : w2.heap[g]? = some (.cells cur 27 (0, 0)) := by rw [hk g cur e3 (by omega)]; exact e3
   refine own_kids (B := B) (xs := lfCs ks) ⟨k1, .inr ⟨g, cap, cur, e1, e2, e8, e4, e5, e6, e7⟩⟩ ?_
   intro j t hj
   obtain ⟨a, b, rfl, ha, hb⟩ := hl t (List.mem_of_getElem? hj)
   have q := fun k hk => lfCs_at ks j k _ hj hk
   have q0 := q 0 (by omega); have q1 := q 1 (by omega); have q2 := q 2 (by omega)
   simp only [Nat.add_zero] at q0
   exact ⟨_, _, _, q0, q1, q2, ⟨_, rfl, KidsV.nil w2, ha, hb⟩⟩
theorem wpList_stV {P : Program} {ops : Array Oper} {rest : List Oper} {a : Act} {w : World} {Q : Exit → Act → World → Prop} {ty tt : TypeId} {x y : Operand} {pos : String} {af : Array Edge}
  (g off : Nat) {ao : Option Addr} {n c : Nat} {cs : Array Value} {T : TypeId} (hg : w.heap[g]? = some (.cells cs T)) (hx : a.eval x = .pointer (some ⟨g, off, none⟩)) (hy : a.eval y = .slice ao n c)
  (hle : off < cs.size) (hi : (P.info? ty).map (·.size) = some 1) (hK : ∀ w', w' = qel w g off [.slice ao n c] → wpList P ops Q rest a w') :
  qap (wpList P ops Q (⟨none, .store ty x y, tt, pos, af, none⟩ :: rest) a w) := by
 refine wpList_plain rfl fun K hK' => ?_
 have hc : w.cell? ⟨g, off, none⟩ = some (cs[off]) := by rw [cell_of_row w g off cs T (0, 0) hg, Array.getElem?_eq_getElem hle]
 have hf := frozen_of_row w g off cs T hg
 obtain ⟨i0, hi0, hi1⟩ : ∃ i, P.info? ty = some i ∧ i.size = 1 := by
  cases h : P.info? ty with
  | none => rw [h] at hi; cases hi
  | some i => rw [h] at hi; exact ⟨i, rfl, by simpa using hi⟩
 have hs : (Go.sizeOf ty).run P w = .ok 1 w := by simp [Go.sizeOf, typeInfo, hi0, hi1]
 have hk := hK' _ _ (hK _ rfl)
 clear hK hK'
 unfold qel qel at hk
 unfold Oper.wp
 simp only [execOp, hx, hy]
 go_simp
 try simp only [hs, Result.andThen_ok, if_true, hc, hf]
 simpa [Oper.upon, Act.put] using hk
theorem ret_c1 {P : Program} {fn : Func} {R : Ending → World → Prop} {a : Act} {w : World} {p : Tmp} {ty : TypeId} {d : TypeDesc} (h : fn.results = #[.cell p ty]) (g : Nat) (cs : Array Value)
  (hp : a.tmps.getD p undef = .pointer (some ⟨g, 0, none⟩)) (hg : w.heap[g]? = some (.cells cs ty)) (hu : P.underlying ty = some d) (hd : (match d with | .struct _ | .array _ _ => true | _ => false) = true) (hi : (P.info? ty).map (·.size) = some cs.size)
  (hf : a.defers = []) (hR : R (.returned (.agg cs)) w) : bodyPost P fn R .ret a w := by
 exact bodyPost_ret (results_cell_row h a.tmps w g ty _ _ _ hp hg hu hd hi) hf hR
theorem copied_leaf (x : Value) (v r : Int) (w : World) (ht : TrV w x (.mk v [] r)) : Calls Tryz.prog 131 #[x] w (qea w (.agg #[.int .i64 v, .slice none 0 0, .int .i64 r])) := by
 obtain ⟨ao, c, rfl, hks, hc1, hc2, _, _⟩ := ht.open
 simp only [List.length_nil] at hks hc1 ⊢
 obtain ⟨wa, hwa⟩ : ∃ x, x = w.alloc (.cells #[.int .i64 v, .slice ao 0 c, .int .i64 r] 27) := ⟨_, rfl⟩
 obtain ⟨wb, hwb⟩ : ∃ x, x = wa.alloc (.cells #[.int .i64 0, .slice none 0 0, .int .i64 0] 27) := ⟨_, rfl⟩
 obtain ⟨W, hW⟩ : ∃ x, x = wb.alloc (.cells #[.int .i64 0, .slice none 0 0, .int .i64 0] 27) := ⟨_, rfl⟩
 have ba : Below w.heap.size w wa := by rw [hwa]; exact qBA _ _
 have bb : Below wa.heap.size wa wb := by rw [hwb]; exact qBA _ _
 have bW : Below wb.heap.size wb W := by rw [hW]; exact qBA _ _
 have sa : wa.heap.size = w.heap.size + 1 := by rw [hwa]; exact Array.size_push (xs := w.heap) _
 have sb : wb.heap.size = w.heap.size + 1 + 1 := by rw [← sa, hwb]; exact Array.size_push (xs := wa.heap) _
 have hg1 : W.heap[w.heap.size]? = some (.cells #[.int .i64 v, .slice ao 0 c, .int .i64 r] 27) := qaa (qaa (by rw [hwa]; exact heap_alloc_new w _) bb) bW
 have hg2 : W.heap[w.heap.size + 1]? = some (.cells #[.int .i64 0, .slice none 0 0, .int .i64 0] 27) := qaa (by rw [← sa, hwb]; exact heap_alloc_new wa _) bW
 have hg3 : W.heap[w.heap.size + 1 + 1]? = some (.cells #[.int .i64 0, .slice none 0 0, .int .i64 0] 27) := by rw [← sb, hW]; exact heap_alloc_new wb _
 have HB := qHd (ba.trans ((bb.mono ba.size).trans (bW.mono (Nat.le_trans ba.size bb.size))))
 obtain ⟨g1, hG1⟩ : ∃ g, g = w.heap.size := ⟨_, rfl⟩
 obtain ⟨g2, hG2⟩ : ∃ g, g = w.heap.size + 1 := ⟨_, rfl⟩
 obtain ⟨g3, hG3⟩ : ∃ g, g = w.heap.size + 1 + 1 := ⟨_, rfl⟩
 rw [← hG1] at hg1; rw [← hG2] at hg2; rw [← hG3] at hg3
 have l1 : w.heap.size ≤ g1 := by omega
 have l2 : w.heap.size ≤ g2 := by omega
 have l3 : w.heap.size ≤ g3 := by omega
 have n13 : g1 ≠ g3 := by omega
 have n23 : g2 ≠ g3 := by omega
 have l23 : g2 < g3 := by omega
 have ls3 : g3 + 1 ≤ W.heap.size := qaw hg3
 have G1 := qHd hg1; have G2 := qHd hg2; have G3 := qHd hg3
 obtain ⟨x0, x1, x2⟩ := qay hg1
 rw [hW, hwb, hwa, hG1] at x0 x1 x2
 clear ba bb bW sa sb hg1 hg2 hg3
 go_enter Tryz.func131, Tryz.ntmps131
 go_wp2_with (with_reducible refine qaf ?_)
 rw [← hwa, ← hwb, ← hW, ← hG3, ← hG2, ← hG1]
 clear hwa hwb hW hG3 hG2 hG1 x0 x1 x2
 refine qan g3 0 [.int .i64 v, .slice none 0 0, .int .i64 r] G3.out rfl rfl (Nat.le_of_ble_eq_true rfl) (by kernel_rfl) rfl ?_
 intro w3 hp3
 have G3 := qHd (show w3.heap[g3]? = some (.cells #[.int .i64 v, .slice none 0 0, .int .i64 r] 27) by rw [hp3]; exact qbd G3.out)
 have G1 := qHd (qbr hp3 G1.out n13); have G2 := qHd (qbr hp3 G2.out n23)
 have HB := qHd (qbl hp3 HB.out l3)
 clear hp3
 obtain ⟨x0, x1, x2⟩ := qay G1.out
 go_wp2_with fail
 clear x0 x1 x2
 go_loopw [14] (fun i' wx => i' = .int .i64 0 ∧ wx = w3) (fun i' _ => 0)
 case atStart => exact ⟨rfl, rfl⟩
 case round =>
  obtain ⟨rfl, rfl⟩ := hrel
  obtain ⟨x0, x1, x2⟩ := qay G3.out
  go_wp2_with (with_reducible refine qaf ?_)
  clear x0 x1 x2
  refine qan g2 0 [.int .i64 v, .slice none 0 0, .int .i64 r] G2.out rfl rfl (Nat.le_of_ble_eq_true rfl) (by kernel_rfl) rfl ?_
  intro wz hpz
  have GZ := qHd (show wz.heap[g2]? = some (.cells #[.int .i64 v, .slice none 0 0, .int .i64 r] 27) by rw [hpz]; exact qbd G2.out)
  have HBz := qHd (qbl hpz HB.out l2)
  clear hpz
  go_wp2_with (with_reducible first | refine qad ?_ | refine qai ?_ | refine qaj ?_ | refine qak ?_ | refine qag ?_)
  refine ret_c1 rfl g2 #[.int .i64 v, .slice none 0 0, .int .i64 r] rfl GZ.out Tryz.underlying27 rfl (by kernel_rfl) rfl ?_
  exact ⟨rfl, HBz.out⟩
theorem copied_any (x : Value) (t : Tr) (hft : FlatT t) (w : World) (ht : TrV w x t) : Calls Tryz.prog 131 #[x] w (fun e w' => ∃ v', e = .returned v' ∧ Below w.heap.size w w' ∧ TrH w' v' t) := by
 obtain ⟨v, ks, r⟩ := t
 have HFT := qHd hft
 obtain ⟨hn1, hn10, hiv, hir, hfl⟩ := hft
 obtain ⟨ao, c, rfl, hks, hc1, hc2, _, _⟩ := ht.open
 have HK0 := qHd hks; have HFL := qHd hfl
 clear ht hks hfl
 obtain ⟨wa, hwa⟩ : ∃ x, x = w.alloc (.cells #[.int .i64 v, .slice ao ks.length c, .int .i64 r] 27) := ⟨_, rfl⟩
 obtain ⟨wb, hwb⟩ : ∃ x, x = wa.alloc (.cells #[.int .i64 0, .slice none 0 0, .int .i64 0] 27) := ⟨_, rfl⟩
 obtain ⟨W, hW⟩ : ∃ x, x = wb.alloc (.cells #[.int .i64 0, .slice none 0 0, .int .i64 0] 27) := ⟨_, rfl⟩
 have ba : Below w.heap.size w wa := by rw [hwa]; exact qBA _ _
 have bb : Below wa.heap.size wa wb := by rw [hwb]; exact qBA _ _
 have bW : Below wb.heap.size wb W := by rw [hW]; exact qBA _ _
 have sa : wa.heap.size = w.heap.size + 1 := by rw [hwa]; exact Array.size_push (xs := w.heap) _
 have sb : wb.heap.size = w.heap.size + 1 + 1 := by rw [← sa, hwb]; exact Array.size_push (xs := wa.heap) _
 have hg1 : W.heap[w.heap.size]? = some (.cells #[.int .i64 v, .slice ao ks.length c, .int .i64 r] 27) := qaa (qaa (by rw [hwa]; exact heap_alloc_new w _) bb) bW
 have hg2 : W.heap[w.heap.size + 1]? = some (.cells #[.int .i64 0, .slice none 0 0, .int .i64 0] 27) := qaa (by rw [← sa, hwb]; exact heap_alloc_new wa _) bW
 have hg3 : W.heap[w.heap.size + 1 + 1]? = some (.cells #[.int .i64 0, .slice none 0 0, .int .i64 0] 27) := by rw [← sb, hW]; exact heap_alloc_new wb _
 have HB := qHd (ba.trans ((bb.mono ba.size).trans (bW.mono (Nat.le_trans ba.size bb.size))))
 obtain ⟨g1, hG1⟩ : ∃ g, g = w.heap.size := ⟨_, rfl⟩
 obtain ⟨g2, hG2⟩ : ∃ g, g = w.heap.size + 1 := ⟨_, rfl⟩
 obtain ⟨g3, hG3⟩ : ∃ g, g = w.heap.size + 1 + 1 := ⟨_, rfl⟩
 rw [← hG1] at hg1; rw [← hG2] at hg2; rw [← hG3] at hg3
 have l1 : w.heap.size ≤ g1 := by omega
 have l2 : w.heap.size ≤ g2 := by omega
 have l3 : w.heap.size ≤ g3 := by omega
 have n13 : g1 ≠ g3 := by omega
 have n23 : g2 ≠ g3 := by omega
 have l23 : g2 < g3 := by omega
 have ls3 : g3 + 1 ≤ W.heap.size := qaw hg3
 have G1 := qHd hg1; have G2 := qHd hg2; have G3 := qHd hg3
 obtain ⟨x0, x1, x2⟩ := qay hg1
 rw [hW, hwb, hwa, hG1] at x0 x1 x2
 clear ba bb bW sa sb hg1 hg2 hg3
 go_enter Tryz.func131, Tryz.ntmps131
 go_wp2_with (with_reducible refine qaf ?_)
 rw [← hwa, ← hwb, ← hW, ← hG3, ← hG2, ← hG1]
 clear hwa hwb hW hG3 hG2 hG1 x0 x1 x2
 refine qan g3 0 [.int .i64 v, .slice none 0 0, .int .i64 r] G3.out rfl rfl (Nat.le_of_ble_eq_true rfl) (by kernel_rfl) rfl ?_
 intro w3 hp3
 have G3 := qHd (show w3.heap[g3]? = some (.cells #[.int .i64 v, .slice none 0 0, .int .i64 r] 27) by rw [hp3]; exact qbd G3.out)
 have G1 := qHd (qbr hp3 G1.out n13); have G2 := qHd (qbr hp3 G2.out n23)
 have HB := qHd (qbl hp3 HB.out l3)
 have hs3 : W.heap.size = w3.heap.size := by rw [hp3]; exact (putL_size _ _ _ _).symm
 rw [hs3] at ls3
 clear hp3 hs3
 obtain ⟨x0, x1, x2⟩ := qay G1.out
 go_wp2_with fail
 clear x0 x1 x2
 go_loopw [14] (fun i' wx => ∃ (q : Nat) (vv : Value), q ≤ ks.length ∧ i' = .int .i64 q ∧ Hid (Below w.heap.size w wx) ∧ w3.heap.size ≤ wx.heap.size ∧ Hid (wx.heap[g2]? = some (.cells #[.int .i64 0, .slice none 0 0, .int .i64 0] 27)) ∧
  Hid (wx.heap[g3]? = some (.cells #[.int .i64 v, vv, .int .i64 r] 27)) ∧ Hid (wx.ownsRow (g3 + 1) 27 3 vv q (lfCs (ks.take q)))) (fun i' _ => ks.length - (intOf i').toNat)
 case atStart => exact ⟨0, .slice none 0 0, Nat.zero_le _, rfl, HB, Nat.le_refl _, G2, G3, qHd ⟨rfl, .inl ⟨rfl, rfl⟩⟩⟩
 case round =>
  obtain ⟨q, vv, hq, rfl, HB, hsz, G2, G3, O⟩ := hrel
  obtain ⟨wo, rfl⟩ : ∃ wo : World, wo = wr := ⟨_, rfl⟩
  obtain ⟨aov, cv, rfl, hcv, hcv2, _⟩ := qff O.out
  by_cases hlt : q < ks.length
  ·obtain ⟨k, hk⟩ : ∃ k, ks[q]? = some k := ⟨ks[q], List.getElem?_eq_getElem hlt⟩
   obtain ⟨kv0, kr0, rfl, hkv, hkr⟩ := HFL.out k (List.mem_of_getElem? hk)
   obtain ⟨bk, ok, rfl, hbk, hjk, hat⟩ := HK0.out.at (by omega); clear hjk
   obtain ⟨kv, kr, ka, kn, kc, c0, c1, c2, hTV⟩ := (hat q _ hk).val
   have hTV0 := hTV
   obtain ⟨ka', kc', ekk, _⟩ := hTV.open
   simp only [Value.agg.injEq, Array.mk.injEq, List.cons.injEq, and_true, Value.int.injEq, true_and, Value.slice.injEq, List.length_nil] at ekk
   obtain ⟨rfl, ⟨rfl, rfl, rfl⟩, rfl⟩ := ekk
   have k0 := (HB.out.cell (p := ⟨bk, _, none⟩) hbk).trans c0
   have k1 := (HB.out.cell (p := ⟨bk, _, none⟩) hbk).trans c1
   have k2 := (HB.out.cell (p := ⟨bk, _, none⟩) hbk).trans c2
   have KT := qHd hTV; have HKQ := qHd hk
   have hltz : (q : Int) < (ks.length : Int) := by omega
   obtain ⟨w4, hw4, hb4, g5, hG5, hg5⟩ := qBx5 wo (.cells #[.int .i64 0, .slice none 0 0, .int .i64 0] 27)
   clear hat c0 c1 c2 hTV hTV0 hk
   go_wp2_with (with_reducible refine qaf ?_)
   rw [← hw4, ← hG5]
   clear k0 k1 k2
   refine qan g5 0 [.int .i64 kv, .slice ka 0 kc, .int .i64 kr] hg5 rfl rfl (Nat.le_of_ble_eq_true rfl) (by kernel_rfl) rfl ?_
   intro w5 hp5
   have n25 : g2 ≠ g5 := by have := qaw G2.out; omega
   have n35 : g3 ≠ g5 := by have := qaw G3.out; omega
   have l5 : w.heap.size ≤ g5 := by have := HB.out.size; omega
   have G5 := qHd (show w5.heap[g5]? = some (.cells #[.int .i64 kv, .slice ka 0 kc, .int .i64 kr] 27) by rw [hp5]; exact qbd hg5)
   have G2 := qHd (qbr hp5 (qaa G2.out hb4) n25); have G3 := qHd (qbr hp5 (qaa G3.out hb4) n35)
   have HBZ := qHd (qbl hp5 (HB.out.trans (hb4.mono HB.out.size)) l5)
   have O5 := qHd (World.ownsRow.kept (qcg O.out hb4) (qfz hp5) (.inr (fun e => by have := (World.ownsRow.lt O.out g5 e).2; omega)))
   have hs5 : w3.heap.size ≤ w5.heap.size := by rw [hp5, putL_size]; exact Nat.le_trans hsz hb4.size
   clear hw4 hG5 hb4 hg5 hp5 O
   go_wp2_with (with_reducible first | refine qad ?_ | refine qai ?_ | refine qaj ?_ | refine qak ?_ | refine qag ?_)
   refine qap.mk ?_
   refine qao (A := ?aaCP) (w := w5) 5 [] (by kernel_rfl) (Fl [KEq (.pointer (some ⟨g3, 1, none⟩)), KEq (.slice aov q cv), KEq (.agg #[.int .i64 kv, .slice ka 0 kc, .int .i64 kr]), KEq (.agg #[.int .i64 kv, .slice none 0 0, .int .i64 kr]), KLst w5.heap.size 1 #[.int .i64 kv, .slice none 0 0, .int .i64 kr] 27]) (fun i => false) (by kernel_rfl) ?hqCP (qcw (qae (kEq _) (qae (kEq _) (qae (kEq _) (qae (kEq _) (qae (kLst _ _ _ _) qcv)))))) ?haCP ?stCP ?tlCP
   case hqCP =>
    intro c a d v w h
    first | (simp only [Exit.then] at h ⊢; exact h) | (simp only [Exit.inBlock, Exit.then] at h ⊢; exact h) | exact h
   case haCP =>
    intro vals
    simp only [qba, qcd, if_true, Act.put, List.setIfInBounds_toArray, List.set_cons_zero, List.set_cons_succ, List.getElem?_toArray, List.getElem?_cons_zero, List.getElem?_cons_succ, Option.bind_some]
    exact rfl
   case stCP =>
    simp only [List.take_succ_cons, List.take_zero]
    refine qab rfl rfl ?_ (qab rfl rfl ?_ (qab rfl rfl ?_ (qab rfl rfl ?_ (qab rfl rfl ?_ (qav)))))
    ·intro vals w1 hb hd
     refine qSv (.pointer (some ⟨g3, 1, none⟩)) (by go_simp) (qLk rfl rfl)
    ·intro vals w1 hb hd
     obtain ⟨e0, e1, e2⟩ := qay (qaa G3.out hb)
     rw [show vals 0 = .pointer (some ⟨g3, 1, none⟩) from hd 0 (by kernel_rfl)]
     refine qSv (.slice aov q cv) (by go_simp) (qLk rfl rfl)
    ·intro vals w1 hb hd
     obtain ⟨e0, e1, e2⟩ := qay (qaa G5.out hb)
     refine qSv (.agg #[.int .i64 kv, .slice ka 0 kc, .int .i64 kr]) (by go_simp) (qLk rfl rfl)
    ·intro vals w1 hb hd
     have d2 : KEq (.agg #[.int .i64 kv, .slice ka 0 kc, .int .i64 kr]) (vals 2) w1 := hd 2 (by kernel_rfl)
     have HS := qHd (copied_leaf _ kv kr w1 (KT.out.below (HBZ.out.trans (hb.mono HBZ.out.size))))
     have z2 : vals 2 = _ := d2
     rw [z2]; clear z2
     refine qat (by go_simp; first | done | exact ⟨⟨rfl, rfl⟩, rfl⟩) ?_
     (with_reducible refine HS.out.mono ?_); rintro e w2 ⟨rfl, hb2⟩
     exact ⟨_, rfl, qar hb2 rfl (fun h => by cases h)⟩
    ·intro vals w1 hb hd
     rw [show vals 3 = .agg #[.int .i64 kv, .slice none 0 0, .int .i64 kr] from hd 3 (by kernel_rfl)]
     refine qaq (v := .slice (some ⟨w1.heap.size, 0, none⟩) 1 1) (w' := w1.alloc (.cells #[.int .i64 kv, .slice none 0 0, .int .i64 kr] 27)) (by go_simp) (qar ((Below.refl _ _).alloc (Nat.le_refl _) _) ⟨_, hb.size, rfl, heap_alloc_new _ _⟩ (fun h => by cases h))
   case tlCP =>
    intro vals w6 hb6 hf6 hdis
    simp only [List.drop_succ_cons, List.drop_zero]
    have z1 : vals 1 = _ := hf6 1 (by decide)
    obtain ⟨g7, hg7, ev, hz7⟩ : KLst w5.heap.size 1 #[.int .i64 kv, .slice none 0 0, .int .i64 kr] 27 (vals 4) w6 := hf6 4 (by decide)
    rw [z1, ev]
    clear z1 ev hf6 hdis
    have O6 := qHd (qcg O5.out hb6)
    have HB6 := qHd (HBZ.out.trans (hb6.mono HBZ.out.size)); have G2 := qHd (qaa G2.out hb6); have G3 := qHd (qaa G3.out hb6)
    have hs6 := Nat.le_trans hs5 hb6.size
    go_wp2_with (with_reducible refine qby ?_)
    refine qec (g3 + 1) Tryz.splitTy rfl (by decide) _ q _ [.int .i64 kv, .slice none 0 0, .int .i64 kr] g7 27 rfl rfl O6.out hz7 rfl rfl (by omega) (by decide) (Nat.le_trans ls3 hs6) ?_
    intro v' w7 ho7 hgr7
    have O67 := own_base O6.out (show w.heap.size ≤ g3 + 1 by omega)
    have hb7 := own_low O67 hgr7 HB6.out HB6.out.size
    have n3 : Value.ownBlock (.slice aov q cv) ≠ some g3 := fun e => by have := (World.ownsRow.lt O6.out g3 e).1; omega
    have n2 : Value.ownBlock (.slice aov q cv) ≠ some g2 := fun e => by have := (World.ownsRow.lt O6.out g2 e).1; omega
    have G2 := qHd (gb_heap2 hgr7 G2.out n2); have G3 := qHd (gb_heap2 hgr7 G3.out n3)
    have hs7 := Nat.le_trans hs6 hgr7.size
    obtain ⟨ao7, c7, rfl, _, _, _⟩ := qff ho7
    have O7 := qHd ho7
    have HB7 := qHd hb7
    clear hgr7 hz7 ho7 O67 hb7 n3 n2 hb6
    go_wp2_with (with_reducible refine qaf ?_)
    refine wpList_stV g3 1 G3.out rfl rfl (by simp) (by kernel_rfl) ?_
    intro w8 hp8
    have n3 : Value.ownBlock (.slice ao7 (q + 1) c7) ≠ some g3 := fun e => by have := (World.ownsRow.lt O7.out g3 e).1; omega
    have G3 := qHd (show w8.heap[g3]? = some (.cells #[.int .i64 v, .slice ao7 (q + 1) c7, .int .i64 r] 27) by rw [hp8]; exact putL_31 G3.out)
    have G2 := qHd (qbr hp8 G2.out n23)
    have O8 := qHd (World.ownsRow.kept O7.out (qfz hp8) (.inr n3))
    have HB8 := qHd (qbl hp8 HB7.out l3)
    have hs8 : w3.heap.size ≤ w8.heap.size := by rw [hp8, putL_size]; exact hs7
    clear hp8 n3
    go_wp2_with fail
    go_roundw
    case rel => exact ⟨q + 1, _, by omega, by go_num, HB8, hs8, G2, G3, qHd (by rw [qen HKQ.out, lfCs_app, lfCs_one]; exact O8.out)⟩
    case measure => simp [intOf]; omega
  ·have hq' : q = ks.length := by omega
   subst hq'
   have OE := O.out
   rw [List.take_length] at OE
   have OE := qHd OE
   obtain ⟨x0, x1, x2⟩ := qay G3.out
   go_wp2_with (with_reducible refine qaf ?_)
   clear x0 x1 x2
   refine qan g2 0 [.int .i64 v, .slice aov ks.length cv, .int .i64 r] G2.out rfl rfl (Nat.le_of_ble_eq_true rfl) (by kernel_rfl) rfl ?_
   intro wz hpz
   have GZ := qHd (show wz.heap[g2]? = some (.cells #[.int .i64 v, .slice aov ks.length cv, .int .i64 r] 27) by rw [hpz]; exact qbd G2.out)
   have HBz := qHd (qbl hpz HB.out l2)
   have KZ := qHd (qes hpz G2.out (by simp))
   clear hpz
   go_wp2_with (with_reducible first | refine qad ?_ | refine qai ?_ | refine qaj ?_ | refine qak ?_ | refine qag ?_)
   refine ret_c1 rfl g2 #[.int .i64 v, .slice aov ks.length cv, .int .i64 r] rfl GZ.out Tryz.underlying27 rfl (by kernel_rfl) rfl ?_
   exact ⟨_, rfl, HBz.out, fun w2 h2 => own_flat OE.out HFT.out (keepH_trans KZ.out h2)⟩
theorem pswap_n (vars : Int) (by_ : Tr) (hft : FlatT by_) : ∀ (N : Nat) (t : Tr), SizeOf.sizeOf t < N → ∀ (above : Nat) (k : Int) (x y : Value) (w : World), qej vars t above → qei t ≤ 4096 → -8192 ≤ k - (qei t : Int) → k ≤ 8192 → TrV w x t → TrH w y by_ →
  Calls Tryz.prog 95 #[x, .int .i64 k, y] w (RetHw w (qbo by_ t k).1 (qbo by_ t k).2) := by
 have HFT := qHd hft; clear hft
 intro N
 induction N with
 | zero => intro t h; omega
 | succ N ih =>
  intro t hN above k x y w hok hsz hk1 hk2 ht hy
  obtain ⟨yv, yr, ya, yn, yc, rfl⟩ := hy.tr.shape
  match t, hok, hN, hsz, hk1, ht with
  | .mk v [] r, hok, _, _, _, ht =>
   simp only [qej] at hok
   subst hok
   obtain ⟨ao, c, rfl, hks, hc1, hc2, hiv, hir⟩ := ht.open
   have hao : ao = none → c = 0 := by obtain ⟨a', c', e, _, _, h3, _⟩ := hks; cases e; exact h3
   simp only [List.length_nil] at hks hc1 ⊢
   obtain ⟨wa, hwa⟩ : ∃ x, x = w.alloc (.cells #[.int .i64 0, .slice ao 0 c, .int .i64 r] 27) := ⟨_, rfl⟩
   obtain ⟨wb, hwb⟩ : ∃ x, x = wa.alloc (.cells #[.int .i64 yv, .slice ya yn yc, .int .i64 yr] 27) := ⟨_, rfl⟩
   obtain ⟨W, hW⟩ : ∃ x, x = wb.alloc (.cells #[.int .i64 0, .slice none 0 0, .int .i64 0] 27) := ⟨_, rfl⟩
   have ba : Below w.heap.size w wa := by rw [hwa]; exact qBA _ _
   have bb : Below wa.heap.size wa wb := by rw [hwb]; exact qBA _ _
   have bW : Below wb.heap.size wb W := by rw [hW]; exact qBA _ _
   have sa : wa.heap.size = w.heap.size + 1 := by rw [hwa]; exact Array.size_push (xs := w.heap) _
   have sb : wb.heap.size = w.heap.size + 1 + 1 := by rw [← sa, hwb]; exact Array.size_push (xs := wa.heap) _
   have hg3 : W.heap[w.heap.size]? = some (.cells #[.int .i64 0, .slice ao 0 c, .int .i64 r] 27) := qaa (qaa (by rw [hwa]; exact heap_alloc_new w _) bb) bW
   have hg5 : W.heap[w.heap.size + 1]? = some (.cells #[.int .i64 yv, .slice ya yn yc, .int .i64 yr] 27) := qaa (by rw [← sa, hwb]; exact heap_alloc_new wa _) bW
   have hg6 : W.heap[w.heap.size + 1 + 1]? = some (.cells #[.int .i64 0, .slice none 0 0, .int .i64 0] 27) := by rw [← sb, hW]; exact heap_alloc_new wb _
   have HB := qHd (ba.trans ((bb.mono ba.size).trans (bW.mono (Nat.le_trans ba.size bb.size))))
   obtain ⟨g3, hG3⟩ : ∃ g, g = w.heap.size := ⟨_, rfl⟩
   obtain ⟨g5, hG5⟩ : ∃ g, g = w.heap.size + 1 := ⟨_, rfl⟩
   obtain ⟨g6, hG6⟩ : ∃ g, g = w.heap.size + 1 + 1 := ⟨_, rfl⟩
   rw [← hG3] at hg3; rw [← hG5] at hg5; rw [← hG6] at hg6
   have l6 : w.heap.size ≤ g6 := by omega
   have G3 := qHd hg3; have G5 := qHd hg5; have G6 := qHd hg6
   have HY := qHd (hy.keep (qcb HB.out))
   obtain ⟨x0, x1, x2⟩ := qay hg3
   obtain ⟨y0, y1, y2⟩ := qay hg5
   rw [hW, hwb, hwa, hG3] at x0 x1 x2
   rw [hW, hwb, hwa, hG5] at y0 y1 y2
   clear ba bb bW sa sb hg3 hg5 hg6
   by_cases hk0 : k = 0
   ·subst hk0
    have R := qHd (show qbo by_ (.mk 0 [] r) 0 = (by_, 1) by simp [qbo])
    go_enter Tryz.func95, Tryz.ntmps95
    have HK := qHd (copied_any _ by_ HFT.out W HY.out.tr)
    go_wp2_with (with_reducible refine qad ?_)
    rw [← hwa, ← hwb, ← hW, ← hG6, ← hG5, ← hG3]
    clear hwa hwb hW hG6 hG5 hG3 x0 x1 x2 y0 y1 y2
    refine qap.mk ?_
    (with_reducible refine HK.out.mono ?_); rintro e w2 ⟨v2, rfl, hb2, ht2⟩
    have HB := qHd (HB.out.trans (hb2.mono HB.out.size)); have G6 := qHd (qaa G6.out hb2)
    obtain ⟨zv, zr, za, zn, zc, rfl⟩ := ht2.tr.shape
    go_wp2_with (with_reducible refine qaf ?_)
    refine qan g6 0 [.int .i64 zv, .slice za zn zc, .int .i64 zr] G6.out rfl rfl (Nat.le_of_ble_eq_true rfl) (by kernel_rfl) rfl ?_
    intro wz hpz
    have GZ := qHd (show wz.heap[g6]? = some (.cells #[.int .i64 zv, .slice za zn zc, .int .i64 zr] 27) by rw [hpz]; exact qbd G6.out)
    have HBz := qHd (qbl hpz HB.out l6)
    have KZ := qes hpz G6.out (by simp)
    clear hpz
    go_wp2_with (with_reducible first | refine qad ?_ | refine qai ?_ | refine qaj ?_ | refine qak ?_ | refine qag ?_)
    refine qcl rfl g6 #[.int .i64 zv, .slice za zn zc, .int .i64 zr] rfl GZ.out Tryz.underlying27 rfl (by kernel_rfl) rfl ?_
    rw [R.out]; exact ⟨_, rfl, ht2.keep KZ, HBz.out⟩
   ·have R := qHd (show qbo by_ (.mk 0 [] r) k = (.mk 0 [] r, 1) by simp [qbo, hk0])
    go_enter Tryz.func95, Tryz.ntmps95
    go_wp2_with (with_reducible refine qaf ?_)
    rw [← hwa, ← hwb, ← hW, ← hG6, ← hG5, ← hG3]
    clear hwa hwb hW hG6 hG5 hG3 x0 x1 x2 y0 y1 y2
    refine qan g6 0 [.int .i64 0, .slice none 0 0, .int .i64 r] G6.out rfl rfl (Nat.le_of_ble_eq_true rfl) (by kernel_rfl) rfl ?_
    intro wz hpz
    have GZ := qHd (show wz.heap[g6]? = some (.cells #[.int .i64 0, .slice none 0 0, .int .i64 r] 27) by rw [hpz]; exact qbd G6.out)
    have HBz := qHd (qbl hpz HB.out l6)
    have KZ := qes hpz G6.out (by simp)
    clear hpz
    go_wp2_with (with_reducible first | refine qad ?_ | refine qai ?_ | refine qaj ?_ | refine qak ?_ | refine qag ?_)
    refine qcl rfl g6 #[.int .i64 0, .slice none 0 0, .int .i64 r] rfl GZ.out Tryz.underlying27 rfl (by kernel_rfl) rfl ?_
    rw [R.out]; exact ⟨_, rfl, fun w2 _ => TrV.leaf w2 hir, HBz.out⟩
  | .mk v [a, b] r, hok, hN, hsz, hk1, ht =>
   simp only [qej] at hok
   obtain ⟨q0, q1, q2, rfl, hoa, hob⟩ := hok
   obtain ⟨ao, c, rfl, hks, hc1, hc2, hiv, _⟩ := ht.open
   simp only [List.length_cons, List.length_nil] at hks hc1 ⊢
   obtain ⟨bk, ok, rfl, hbk, hjk, hat⟩ := hks.at (by decide); clear hjk hks ht
   obtain ⟨kva, kra, kaa, kna, kca, ca0, ca1, ca2, hTVa⟩ := (hat 0 a rfl).val
   obtain ⟨kvb, krb, kab, knb, kcb, cb0, cb1, cb2, hTVb⟩ := (hat 1 b rfl).val
   simp only [Nat.zero_mul, Nat.add_zero, Nat.one_mul] at ca0 ca1 ca2 cb0 cb1 cb2
   have HSA := qHd (show SizeOf.sizeOf a < N by have := qcj (v := v) (r := 0) (ks := [a, b]) (k := a) (by simp); omega)
   have HSB := qHd (show SizeOf.sizeOf b < N by have := qcj (v := v) (r := 0) (ks := [a, b]) (k := b) (by simp); omega)
   have KA := qHd (And.intro ca0 (And.intro ca1 ca2)); have KB := qHd (And.intro cb0 (And.intro cb1 cb2))
   have HTA := qHd hTVa; have HTB := qHd hTVb; have HOA := qHd hoa; have HOB := qHd hob
   have hsz' : 1 + qei a + qei b ≤ 4096 := by simpa [qei] using hsz
   have hk1' : -8192 ≤ k - ((1 + qei a + qei b : Nat) : Int) := by simpa [qei] using hk1
   have hca := trSwap_cnt by_ a k
   have hla := (qdf a).2
   obtain ⟨k2, hk2'⟩ : ∃ k2, k2 = k - ((qbo by_ a k).2 : Int) := ⟨_, rfl⟩
   have hcb := trSwap_cnt by_ b k2
   have hlb := (qdf b).2
   have R0 : qbo by_ (.mk v [a, b] 0) k = (.mk v [(qbo by_ a k).1, (qbo by_ b k2).1] 0, (qbo by_ a k).2 + (qbo by_ b k2).2) := by rw [hk2']; rfl
   have IHA0 := fun (w1 : World) (h : TrV w1 (.agg #[.int .i64 kva, .slice kaa kna kca, .int .i64 kra]) a) (h2 : TrH w1 (.agg #[.int .i64 yv, .slice ya yn yc, .int .i64 yr]) by_) => ih a HSA.out _ k _ _ w1 HOA.out (by omega) (by omega) hk2 h h2
   have IHB0 := fun (w1 : World) (h : TrV w1 (.agg #[.int .i64 kvb, .slice kab knb kcb, .int .i64 krb]) b) (h2 : TrH w1 (.agg #[.int .i64 yv, .slice ya yn yc, .int .i64 yr]) by_) => ih b HSB.out _ k2 _ _ w1 HOB.out (by omega) (by rw [hk2', hca]; omega) (by rw [hk2', hca]; omega) h h2
   obtain ⟨sA, hsA⟩ : ∃ z, z = (qbo by_ a k).1 := ⟨_, rfl⟩
   obtain ⟨na, hna⟩ : ∃ z, z = (qbo by_ a k).2 := ⟨_, rfl⟩
   obtain ⟨sB, hsB⟩ : ∃ z, z = (qbo by_ b k2).1 := ⟨_, rfl⟩
   obtain ⟨nb, hnb⟩ : ∃ z, z = (qbo by_ b k2).2 := ⟨_, rfl⟩
   rw [← hsA, ← hna, ← hsB, ← hnb] at R0
   rw [← hsA, ← hna] at IHA0
   rw [← hsB, ← hnb] at IHB0
   rw [← hna] at hca hk2'
   rw [← hnb] at hcb
   have R := qHd R0
   have hna4 : na ≤ 4096 := by omega
   have hnb4 : nb ≤ 4096 := by omega
   have DK := qHd (show IntKind.wrap .i64 (k - (na : Int)) = k2 by rw [hk2', wrap_any ⟨by omega, by omega⟩])
   have IHA := qHd (fun w1 (hbl : Below w.heap.size w w1) => IHA0 w1 (HTA.out.below hbl) (hy.keep (qcb hbl)))
   have IHB := qHd (fun w1 (hbl : Below w.heap.size w w1) => IHB0 w1 (HTB.out.below hbl) (hy.keep (qcb hbl)))
   clear ca0 ca1 ca2 cb0 cb1 cb2 hat hTVa hTVb hoa hob q0 q1 q2 hsA hna hsB hnb R0 IHA0 IHB0 hca hcb hla hlb hk1 hk1' hk2' hsz hsz' hN
   obtain ⟨wa, hwa⟩ : ∃ x, x = w.alloc (.cells #[.int .i64 v, .slice (some ⟨bk, ok, none⟩) 2 c, .int .i64 0] 27) := ⟨_, rfl⟩
   obtain ⟨wb, hwb⟩ : ∃ x, x = wa.alloc (.cells #[.int .i64 yv, .slice ya yn yc, .int .i64 yr] 27) := ⟨_, rfl⟩
   obtain ⟨W, hW⟩ : ∃ x, x = wb.alloc (.cells #[.int .i64 0, .slice none 0 0, .int .i64 0] 27) := ⟨_, rfl⟩
   have ba : Below w.heap.size w wa := by rw [hwa]; exact qBA _ _
   have bb : Below wa.heap.size wa wb := by rw [hwb]; exact qBA _ _
   have bW : Below wb.heap.size wb W := by rw [hW]; exact qBA _ _
   have sa : wa.heap.size = w.heap.size + 1 := by rw [hwa]; exact Array.size_push (xs := w.heap) _
   have sb : wb.heap.size = w.heap.size + 1 + 1 := by rw [← sa, hwb]; exact Array.size_push (xs := wa.heap) _
   have hg3 : W.heap[w.heap.size]? = some (.cells #[.int .i64 v, .slice (some ⟨bk, ok, none⟩) 2 c, .int .i64 0] 27) := qaa (qaa (by rw [hwa]; exact heap_alloc_new w _) bb) bW
   have hg5 : W.heap[w.heap.size + 1]? = some (.cells #[.int .i64 yv, .slice ya yn yc, .int .i64 yr] 27) := qaa (by rw [← sa, hwb]; exact heap_alloc_new wa _) bW
   have hg6 : W.heap[w.heap.size + 1 + 1]? = some (.cells #[.int .i64 0, .slice none 0 0, .int .i64 0] 27) := by rw [← sb, hW]; exact heap_alloc_new wb _
   have HB := qHd (ba.trans ((bb.mono ba.size).trans (bW.mono (Nat.le_trans ba.size bb.size))))
   obtain ⟨g3, hG3⟩ : ∃ g, g = w.heap.size := ⟨_, rfl⟩
   obtain ⟨g5, hG5⟩ : ∃ g, g = w.heap.size + 1 := ⟨_, rfl⟩
   obtain ⟨g6, hG6⟩ : ∃ g, g = w.heap.size + 1 + 1 := ⟨_, rfl⟩
   rw [← hG3] at hg3; rw [← hG5] at hg5; rw [← hG6] at hg6
   have l6 : w.heap.size ≤ g6 := by omega
   have G3 := qHd hg3; have G5 := qHd hg5; have G6 := qHd hg6
   have HY := qHd (hy.keep (qcb HB.out))
   obtain ⟨x0, x1, x2⟩ := qay hg3
   obtain ⟨y0, y1, y2⟩ := qay hg5
   rw [hW, hwb, hwa, hG3] at x0 x1 x2
   rw [hW, hwb, hwa, hG5] at y0 y1 y2
   clear ba bb bW sa sb hg3 hg5 hg6
   go_enter Tryz.func95, Tryz.ntmps95
   go_wp2_with (with_reducible first | refine qad ?_ | refine qai ?_ | refine qaj ?_ | refine qak ?_ | refine qag ?_)
   rw [← hwa, ← hwb, ← hW, ← hG6, ← hG5, ← hG3]
   clear hwa hwb hW hG6 hG5 hG3 x0 x1 x2 y0 y1 y2
   refine qap.mk ?_
   refine qao (A := ?aaWa) (w := W) 11 [9] (by kernel_rfl) (Fl [KEq (.pointer (some ⟨g3, 1, none⟩)), KEq (.slice (some ⟨bk, ok, none⟩) 2 c), KEq (.pointer (some ⟨bk, ok, none⟩)), KEq (.agg #[.int .i64 kva, .slice kaa kna kca, .int .i64 kra]), KEq (.int .i64 k), KEq (.agg #[.int .i64 yv, .slice ya yn yc, .int .i64 yr]), KHl sA na, KHl sA na, KHt sA, KEq (.int .i64 (na : Nat)), KNew W.heap.size #[.int .i64 0, .slice none 0 0, .int .i64 0] 27]) (fun i => i == 10) (by kernel_rfl) ?hqWa (qcw (qae (kEq _) (qae (kEq _) (qae (kEq _) (qae (kEq _) (qae (kEq _) (qae (kEq _) (qae (kHl _ _) (qae (kHl _ _) (qae (kHt _) (qae (kEq _) (qae (kNew _ _ _) qcv)))))))))))) ?haWa ?stWa ?tlWa
   case hqWa =>
    intro c a d v w h
    first | (simp only [Exit.then] at h ⊢; exact h) | (simp only [Exit.inBlock, Exit.then] at h ⊢; exact h) | exact h
   case haWa =>
    intro vals
    simp only [qba, qcd, if_true, Act.put, List.setIfInBounds_toArray, List.set_cons_zero, List.set_cons_succ, List.getElem?_toArray, List.getElem?_cons_zero, List.getElem?_cons_succ, Option.bind_some]
    exact rfl
   case stWa =>
    simp only [List.take_succ_cons, List.take_zero]
    refine qab rfl rfl ?_ (qab rfl rfl ?_ (qab rfl rfl ?_ (qab rfl rfl ?_ (qab rfl rfl ?_ (qab rfl rfl ?_ (qab rfl rfl ?_ (qab rfl rfl ?_ (qab rfl rfl ?_ (qct rfl ?_ (qab rfl rfl ?_ (qav)))))))))))
    ·intro vals w1 hb hd
     refine qSv (.pointer (some ⟨g3, 1, none⟩)) (by go_simp) (qLk rfl rfl)
    ·intro vals w1 hb hd
     obtain ⟨e0, e1, e2⟩ := qay (qaa G3.out hb)
     rw [show vals 0 = .pointer (some ⟨g3, 1, none⟩) from hd 0 (by kernel_rfl)]
     refine qSv (.slice (some ⟨bk, ok, none⟩) 2 c) (by go_simp) (qLk rfl rfl)
    ·intro vals w1 hb hd
     rw [show vals 1 = .slice (some ⟨bk, ok, none⟩) 2 c from hd 1 (by kernel_rfl)]
     refine qSv (.pointer (some ⟨bk, ok, none⟩)) (by go_simp) (qLk rfl rfl)
    ·intro vals w1 hb hd
     have hbx := HB.out.trans (hb.mono HB.out.size)
     have k0 := (hbx.cell (p := ⟨bk, _, none⟩) hbk).trans KA.out.1
     have k1 := (hbx.cell (p := ⟨bk, _, none⟩) hbk).trans KA.out.2.1
     have k2 := (hbx.cell (p := ⟨bk, _, none⟩) hbk).trans KA.out.2.2
     rw [show vals 2 = .pointer (some ⟨bk, ok, none⟩) from hd 2 (by kernel_rfl)]
     refine qSv (.agg #[.int .i64 kva, .slice kaa kna kca, .int .i64 kra]) (by go_simp) (qLk rfl rfl)
    ·intro vals w1 hb hd
     refine qSv (.int .i64 k) (by go_simp) (qLk rfl rfl)
    ·intro vals w1 hb hd
     obtain ⟨e0, e1, e2⟩ := qay (qaa G5.out hb)
     refine qSv (.agg #[.int .i64 yv, .slice ya yn yc, .int .i64 yr]) (by go_simp) (qLk rfl rfl)
    ·intro vals w1 hb hd
     have d3 : KEq (.agg #[.int .i64 kva, .slice kaa kna kca, .int .i64 kra]) (vals 3) w1 := hd 3 (by kernel_rfl)
     have d4 : KEq (.int .i64 k) (vals 4) w1 := hd 4 (by kernel_rfl)
     have d5 : KEq (.agg #[.int .i64 yv, .slice ya yn yc, .int .i64 yr]) (vals 5) w1 := hd 5 (by kernel_rfl)
     have HS := qHd (IHA.out w1 (HB.out.trans (hb.mono HB.out.size)))
     have z3 : vals 3 = _ := d3
     rw [z3]; clear z3
     have z4 : vals 4 = _ := d4
     rw [z4]; clear z4
     have z5 : vals 5 = _ := d5
     rw [z5]; clear z5
     refine qat (by go_simp; first | done | exact ⟨⟨rfl, rfl⟩, rfl⟩) ?_
     (with_reducible refine HS.out.mono ?_); rintro e w2 ⟨v, rfl, hv, hb2⟩
     exact ⟨_, rfl, qar hb2 ⟨v, rfl, hv⟩ (fun h => by cases h)⟩
    ·intro vals w1 hb hd
     have d6 : KHl sA na (vals 6) w1 := hd 6 (by kernel_rfl)
     obtain ⟨v, ev, hv⟩ := d6
     rw [ev]
     refine qaq (v := .tuple #[v, .int .i64 (na : Nat)]) (w' := w1) (by go_simp) (qar (Below.refl _ _) ⟨v, rfl, hv⟩ (fun h => by cases h))
    ·intro vals w1 hb hd
     have d7 : KHl sA na (vals 7) w1 := hd 7 (by kernel_rfl)
     obtain ⟨v, ev, hv⟩ := d7
     rw [ev]
     refine qaq (v := v) (w' := w1) (by go_simp) (qar (Below.refl _ _) hv (fun h => by cases h))
    ·intro vals w1 hb hd
     have d7 : KHl sA na (vals 7) w1 := hd 7 (by kernel_rfl)
     obtain ⟨v, ev, hv⟩ := d7
     rw [ev]
     refine qbv (v := .int .i64 (na : Nat)) (fun w => by go_simp) (qLk rfl rfl)
    ·intro vals w1 hb hd
     refine qaq (v := .pointer (some ⟨w1.heap.size, 0, none⟩)) (w' := w1.alloc (.cells #[.int .i64 0, .slice none 0 0, .int .i64 0] 27)) (by go_simp) (qar ((Below.refl _ _).alloc (Nat.le_refl _) _) ⟨_, hb.size, rfl, heap_alloc_new _ _⟩ (fun _ => ⟨rfl, by simp⟩))
   case tlWa =>
    intro vals w5 hb5 hf5 hdis
    simp only [List.drop_succ_cons, List.drop_zero]
    have z1 : vals 9 = _ := hf5 9 (by decide)
    obtain ⟨gA, hgA, ev, hzA⟩ : KNew W.heap.size #[.int .i64 0, .slice none 0 0, .int .i64 0] 27 (vals 10) w5 := hf5 10 (by decide)
    have hta : TrH w5 (vals 8) sA := hf5 8 (by decide)
    rw [z1, ev]
    obtain ⟨va, hva⟩ : ∃ u, u = vals 8 := ⟨_, rfl⟩
    rw [← hva] at hta ⊢
    clear z1 ev hf5 hdis hva
    obtain ⟨av, ar, aa, an, ac, rfl⟩ := hta.tr.shape
    go_wp2_with (with_reducible refine qaf ?_)
    refine qan gA 0 [.int .i64 av, .slice aa an ac, .int .i64 ar] hzA rfl rfl (Nat.le_of_ble_eq_true rfl) (by kernel_rfl) rfl ?_
    intro w6 hp6
    have n3A : g3 ≠ gA := by have := qaw G3.out; omega
    have n5A : g5 ≠ gA := by have := qaw G5.out; omega
    have n6A : g6 ≠ gA := by have := qaw G6.out; omega
    have hs4 := HB.out.size
    have KA6 := keepH_trans (qcb hb5) (qes hp6 hzA (by simp))
    have HY := qHd (HY.out.keep KA6)
    have G3 := qHd (qbr hp6 (qaa G3.out hb5) n3A); have G5 := qHd (qbr hp6 (qaa G5.out hb5) n5A); have G6 := qHd (qbr hp6 (qaa G6.out hb5) n6A)
    have BA := qHd (show w6.heap[gA]? = some (.cells #[.int .i64 av, .slice aa an ac, .int .i64 ar] 27) by rw [hp6]; exact qbd hzA)
    have HB := qHd (qbl hp6 (HB.out.trans (hb5.mono HB.out.size)) (by omega))
    have TA := qHd (hta.keep (qes hp6 hzA (by simp)))
    clear hp6 hb5 hzA hta KA6
    have IHB := qHd (fun w1 (hbl : Below w.heap.size w w1) => IHB.out w1 hbl)
    go_wp2_with (with_reducible first | refine qad ?_ | refine qai ?_ | refine qaj ?_ | refine qak ?_ | refine qag ?_)
    refine qap.mk ?_
    refine qao (A := ?aaWb) (w := w6) 13 [11] (by kernel_rfl) (Fl [KEq (.pointer (some ⟨g3, 1, none⟩)), KEq (.slice (some ⟨bk, ok, none⟩) 2 c), KEq (.pointer (some ⟨bk, ok + 3, none⟩)), KEq (.agg #[.int .i64 kvb, .slice kab knb kcb, .int .i64 krb]), KEq (.int .i64 k), KEq (.int .i64 (na : Nat)), KEq (.int .i64 k2), KEq (.agg #[.int .i64 yv, .slice ya yn yc, .int .i64 yr]), KHl sB nb, KHl sB nb, KHt sB, KEq (.int .i64 (nb : Nat)), KNew w6.heap.size #[.int .i64 0, .slice none 0 0, .int .i64 0] 27]) (fun i => i == 12) (by kernel_rfl) ?hqWb (qcw (qae (kEq _) (qae (kEq _) (qae (kEq _) (qae (kEq _) (qae (kEq _) (qae (kEq _) (qae (kEq _) (qae (kEq _) (qae (kHl _ _) (qae (kHl _ _) (qae (kHt _) (qae (kEq _) (qae (kNew _ _ _) qcv)))))))))))))) ?haWb ?stWb ?tlWb
    case hqWb =>
     intro c a d v w h
     first | (simp only [Exit.then] at h ⊢; exact h) | (simp only [Exit.inBlock, Exit.then] at h ⊢; exact h) | exact h
    case haWb =>
     intro vals
     simp only [qba, qcd, if_true, Act.put, List.setIfInBounds_toArray, List.set_cons_zero, List.set_cons_succ, List.getElem?_toArray, List.getElem?_cons_zero, List.getElem?_cons_succ, Option.bind_some]
     exact rfl
    case stWb =>
     simp only [List.take_succ_cons, List.take_zero]
     refine qab rfl rfl ?_ (qab rfl rfl ?_ (qab rfl rfl ?_ (qab rfl rfl ?_ (qab rfl rfl ?_ (qab rfl rfl ?_ (qab rfl rfl ?_ (qab rfl rfl ?_ (qab rfl rfl ?_ (qab rfl rfl ?_ (qab rfl rfl ?_ (qct rfl ?_ (qab rfl rfl ?_ (qav)))))))))))))
     ·intro vals w1 hb hd
      refine qSv (.pointer (some ⟨g3, 1, none⟩)) (by go_simp) (qLk rfl rfl)
     ·intro vals w1 hb hd
      obtain ⟨e0, e1, e2⟩ := qay (qaa G3.out hb)
      rw [show vals 0 = .pointer (some ⟨g3, 1, none⟩) from hd 0 (by kernel_rfl)]
      refine qSv (.slice (some ⟨bk, ok, none⟩) 2 c) (by go_simp) (qLk rfl rfl)
     ·intro vals w1 hb hd
      rw [show vals 1 = .slice (some ⟨bk, ok, none⟩) 2 c from hd 1 (by kernel_rfl)]
      refine qSv (.pointer (some ⟨bk, ok + 3, none⟩)) (by go_simp) (qLk rfl rfl)
     ·intro vals w1 hb hd
      have hbx := HB.out.trans (hb.mono HB.out.size)
      have k0 := (hbx.cell (p := ⟨bk, _, none⟩) hbk).trans KB.out.1
      have k1 := (hbx.cell (p := ⟨bk, _, none⟩) hbk).trans KB.out.2.1
      have k2 := (hbx.cell (p := ⟨bk, _, none⟩) hbk).trans KB.out.2.2
      rw [show vals 2 = .pointer (some ⟨bk, ok + 3, none⟩) from hd 2 (by kernel_rfl)]
      refine qSv (.agg #[.int .i64 kvb, .slice kab knb kcb, .int .i64 krb]) (by go_simp) (qLk rfl rfl)
     ·intro vals w1 hb hd
      refine qSv (.int .i64 k) (by go_simp) (qLk rfl rfl)
     ·intro vals w1 hb hd
      refine qSv (.int .i64 (na : Nat)) (by go_simp) (qLk rfl rfl)
     ·intro vals w1 hb hd
      rw [show vals 4 = .int .i64 k from hd 4 (by kernel_rfl)]
      rw [show vals 5 = .int .i64 (na : Nat) from hd 5 (by kernel_rfl)]
      refine qSv (.int .i64 k2) (by go_simp; first | done | exact DK.out) (qLk rfl rfl)
     ·intro vals w1 hb hd
      obtain ⟨e0, e1, e2⟩ := qay (qaa G5.out hb)
      refine qSv (.agg #[.int .i64 yv, .slice ya yn yc, .int .i64 yr]) (by go_simp) (qLk rfl rfl)
     ·intro vals w1 hb hd
      have d3 : KEq (.agg #[.int .i64 kvb, .slice kab knb kcb, .int .i64 krb]) (vals 3) w1 := hd 3 (by kernel_rfl)
      have d6 : KEq (.int .i64 k2) (vals 6) w1 := hd 6 (by kernel_rfl)
      have d7 : KEq (.agg #[.int .i64 yv, .slice ya yn yc, .int .i64 yr]) (vals 7) w1 := hd 7 (by kernel_rfl)
      have HS := qHd (IHB.out w1 (HB.out.trans (hb.mono HB.out.size)))
      have z3 : vals 3 = _ := d3
      rw [z3]; clear z3
      have z6 : vals 6 = _ := d6
      rw [z6]; clear z6
      have z7 : vals 7 = _ := d7
      rw [z7]; clear z7
      refine qat (by go_simp; first | done | exact ⟨⟨rfl, rfl⟩, rfl⟩) ?_
      (with_reducible refine HS.out.mono ?_); rintro e w2 ⟨v, rfl, hv, hb2⟩
      exact ⟨_, rfl, qar hb2 ⟨v, rfl, hv⟩ (fun h => by cases h)⟩
     ·intro vals w1 hb hd
      have d8 : KHl sB nb (vals 8) w1 := hd 8 (by kernel_rfl)
      obtain ⟨v, ev, hv⟩ := d8
      rw [ev]
      refine qaq (v := .tuple #[v, .int .i64 (nb : Nat)]) (w' := w1) (by go_simp) (qar (Below.refl _ _) ⟨v, rfl, hv⟩ (fun h => by cases h))
     ·intro vals w1 hb hd
      have d9 : KHl sB nb (vals 9) w1 := hd 9 (by kernel_rfl)
      obtain ⟨v, ev, hv⟩ := d9
      rw [ev]
      refine qaq (v := v) (w' := w1) (by go_simp) (qar (Below.refl _ _) hv (fun h => by cases h))
     ·intro vals w1 hb hd
      have d9 : KHl sB nb (vals 9) w1 := hd 9 (by kernel_rfl)
      obtain ⟨v, ev, hv⟩ := d9
      rw [ev]
      refine qbv (v := .int .i64 (nb : Nat)) (fun w => by go_simp) (qLk rfl rfl)
     ·intro vals w1 hb hd
      refine qaq (v := .pointer (some ⟨w1.heap.size, 0, none⟩)) (w' := w1.alloc (.cells #[.int .i64 0, .slice none 0 0, .int .i64 0] 27)) (by go_simp) (qar ((Below.refl _ _).alloc (Nat.le_refl _) _) ⟨_, hb.size, rfl, heap_alloc_new _ _⟩ (fun _ => ⟨rfl, by simp⟩))
    case tlWb =>
     intro vals w7 hb7 hf7 hdis
     simp only [List.drop_succ_cons, List.drop_zero]
     have z1 : vals 11 = _ := hf7 11 (by decide)
     obtain ⟨gC, hgC, ev, hzC⟩ : KNew w6.heap.size #[.int .i64 0, .slice none 0 0, .int .i64 0] 27 (vals 12) w7 := hf7 12 (by decide)
     have htb : TrH w7 (vals 10) sB := hf7 10 (by decide)
     rw [z1, ev]
     obtain ⟨vb, hvb⟩ : ∃ u, u = vals 10 := ⟨_, rfl⟩
     rw [← hvb] at htb ⊢
     clear z1 ev hf7 hdis hvb
     obtain ⟨bv, br, ba, bn, bc, rfl⟩ := htb.tr.shape
     go_wp2_with (with_reducible refine qaf ?_)
     refine qan gC 0 [.int .i64 bv, .slice ba bn bc, .int .i64 br] hzC rfl rfl (Nat.le_of_ble_eq_true rfl) (by kernel_rfl) rfl ?_
     intro w8 hp8
     have n3C : g3 ≠ gC := by have := qaw G3.out; omega
     have n6C : g6 ≠ gC := by have := qaw G6.out; omega
     have nAC : gA ≠ gC := by have := qaw BA.out; omega
     have hs6 := HB.out.size
     have TA := qHd ((TA.out.keep (qcb hb7)).keep (qes hp8 hzC (by simp))); have TB := qHd (htb.keep (qes hp8 hzC (by simp)))
     have G3 := qHd (qbr hp8 (qaa G3.out hb7) n3C); have G6 := qHd (qbr hp8 (qaa G6.out hb7) n6C); have BA := qHd (qbr hp8 (qaa BA.out hb7) nAC)
     have BC := qHd (show w8.heap[gC]? = some (.cells #[.int .i64 bv, .slice ba bn bc, .int .i64 br] 27) by rw [hp8]; exact qbd hzC)
     have HB := qHd (qbl hp8 (HB.out.trans (hb7.mono HB.out.size)) (by omega))
     clear hp8 hb7 hzC htb
     obtain ⟨w9, hw9, hb9, g9, hG9, hg9⟩ := qBx5 w8 (.cells #[.int .i64 av, .slice aa an ac, .int .i64 ar, .int .i64 bv, .slice ba bn bc, .int .i64 br] 27)
     have n96 : g9 ≠ g6 := by have := qaw G6.out; omega
     obtain ⟨a0, a1, a2⟩ := qay BA.out
     obtain ⟨c0, c1, c2⟩ := qay BC.out
     obtain ⟨x0, x1, x2⟩ := qay G3.out
     go_wp2_with (with_reducible refine qaf ?_)
     rw [← hw9, ← hG9]
     clear hw9 hG9 a0 a1 a2 c0 c1 c2 x0 x1 x2
     refine qan g6 0 [.int .i64 v, .slice (some ⟨g9, 0, none⟩) 2 2, .int .i64 0] (qaa G6.out hb9) rfl rfl (Nat.le_of_ble_eq_true rfl) (by kernel_rfl) rfl ?_
     intro wz hpz
     have GZ := qHd (show wz.heap[g6]? = some (.cells #[.int .i64 v, .slice (some ⟨g9, 0, none⟩) 2 2, .int .i64 0] 27) by rw [hpz]; exact qbd (qaa G6.out hb9))
     have G9z := qHd (qbr hpz hg9 n96)
     have KZ := keepH_trans (qcb hb9) (qes hpz (qaa G6.out hb9) (by simp)); have TAz := qHd (TA.out.keep KZ); have TBz := qHd (TB.out.keep KZ); clear KZ
     have HBz := qHd (qbl hpz (HB.out.trans (hb9.mono HB.out.size)) l6)
     clear hpz hg9 hb9
     go_wp2_with (with_reducible first | refine qad ?_ | refine qai ?_ | refine qaj ?_ | refine qak ?_ | refine qag ?_)
     refine qcl rfl g6 #[.int .i64 v, .slice (some ⟨g9, 0, none⟩) 2 2, .int .i64 0] rfl GZ.out Tryz.underlying27 rfl (by kernel_rfl) rfl ?_
     rw [R.out]
     exact ⟨_, rfl, fun w2 h2 => trV_node (by rw [h2 g9 _ G9z.out (by simp)]; exact G9z.out) (TAz.out w2 h2) (TBz.out w2 h2) hiv ⟨by decide, by decide⟩, HBz.out⟩
  | .mk v [a] r, hok, _, _, _, _ => simp only [qej] at hok
  | .mk v (_ :: _ :: _ :: _) r, hok, _, _, _, _ => simp only [qej] at hok
def RetMkH (w : World) (t : Tr) (er : Nat) (e : Ending) (w' : World) : Prop := ∃ v, e = .returned (.tuple #[v, errV er]) ∧ Below w.heap.size w w' ∧ TrH w' v t
theorem pSwap_any (x y : Value) (t by_ : Tr) (hft : FlatT by_) (vars k : Int) (w : World) (ht : TrV w x t) (hy : TrH w y by_) (hv : 0 ≤ vars ∧ vars ≤ 24) (hk : I64 k) :
  Calls Tryz.prog 54 #[x, .int .i64 vars, .int .i64 k, y] w (RetMkH w (swpV vars t k by_).1 (swpV vars t k by_).2) := by
 have HT := qHd ht; have HV := qHd hv; have HFT := qHd hft
 unfold I64 at hk
 obtain ⟨tv, tr, ta, tn, tc, rfl⟩ := ht.shape
 obtain ⟨yv, yr, ya, yn, yc, rfl⟩ := hy.tr.shape
 obtain ⟨wa, hwa⟩ : ∃ x, x = w.alloc (.cells #[.int .i64 tv, .slice ta tn tc, .int .i64 tr] 27) := ⟨_, rfl⟩
 obtain ⟨wb, hwb⟩ : ∃ x, x = wa.alloc (.cells #[.int .i64 yv, .slice ya yn yc, .int .i64 yr] 27) := ⟨_, rfl⟩
 obtain ⟨W, hW⟩ : ∃ x, x = wb.alloc (.cells #[.int .i64 0, .slice none 0 0, .int .i64 0] 27) := ⟨_, rfl⟩
 have ba : Below w.heap.size w wa := by rw [hwa]; exact qBA _ _
 have bb : Below wa.heap.size wa wb := by rw [hwb]; exact qBA _ _
 have bW : Below wb.heap.size wb W := by rw [hW]; exact qBA _ _
 have sa : wa.heap.size = w.heap.size + 1 := by rw [hwa]; exact Array.size_push (xs := w.heap) _
 have sb : wb.heap.size = w.heap.size + 1 + 1 := by rw [← sa, hwb]; exact Array.size_push (xs := wa.heap) _
 have hg4 : W.heap[w.heap.size]? = some (.cells #[.int .i64 tv, .slice ta tn tc, .int .i64 tr] 27) := qaa (qaa (by rw [hwa]; exact heap_alloc_new w _) bb) bW
 have hg7 : W.heap[w.heap.size + 1]? = some (.cells #[.int .i64 yv, .slice ya yn yc, .int .i64 yr] 27) := qaa (by rw [← sa, hwb]; exact heap_alloc_new wa _) bW
 have hg8 : W.heap[w.heap.size + 1 + 1]? = some (.cells #[.int .i64 0, .slice none 0 0, .int .i64 0] 27) := by rw [← sb, hW]; exact heap_alloc_new wb _
 have HB := qHd (ba.trans ((bb.mono ba.size).trans (bW.mono (Nat.le_trans ba.size bb.size))))
 obtain ⟨g4, hG4⟩ : ∃ g, g = w.heap.size := ⟨_, rfl⟩
 obtain ⟨g7, hG7⟩ : ∃ g, g = w.heap.size + 1 := ⟨_, rfl⟩
 obtain ⟨g8, hG8⟩ : ∃ g, g = w.heap.size + 1 + 1 := ⟨_, rfl⟩
 rw [← hG4] at hg4; rw [← hG7] at hg7; rw [← hG8] at hg8
 have l8 : w.heap.size ≤ g8 := by omega
 have G4 := qHd hg4; have G7 := qHd hg7; have G8 := qHd hg8; have HY := qHd hy
 obtain ⟨x0, x1, x2⟩ := qay hg4
 rw [hW, hwb, hwa, hG4] at x0 x1 x2
 have HK := qHd (scheck_any _ t vars W (HT.out.below HB.out) HV.out)
 obtain ⟨ec, hec⟩ : ∃ ec, (qbh vars t 0 0).2 = ec := ⟨_, rfl⟩
 rw [hec] at HK
 have HE := qHd hec
 clear ba bb bW sa sb hg4 hg7 hg8 ht hv hec hy hft
 go_enter Tryz.func54, Tryz.ntmps54
 go_wp2_with (with_reducible refine qad ?_)
 rw [← hwa, ← hwb, ← hW, ← hG8, ← hG7, ← hG4]
 clear hwa hwb hW hG8 hG7 hG4 x0 x1 x2
 refine qap.mk ?_
 (with_reducible refine HK.out.mono ?_); rintro e w0 ⟨rfl, hb0⟩
 have HB := qHd (HB.out.trans (hb0.mono HB.out.size)); have G4 := qHd (qaa G4.out hb0); have G7 := qHd (qaa G7.out hb0); have G8 := qHd (qaa G8.out hb0)
 clear hb0 HK
 by_cases h0 : ec = 0
 ·subst h0
  obtain ⟨m, hm⟩ : ∃ m, qbh vars t 0 0 = (m, 0) := ⟨(qbh vars t 0 0).1, Prod.ext rfl HE.out⟩
  obtain ⟨k1, k2, k3⟩ := qfh t 0 0 m hm
  have hlv := (qdf t).2
  have hdp := (qdf t).1
  have KK := qHd (And.intro k1 (show qei t ≤ 4096 by omega))
  have hl4 : qdo t ≤ 4096 := by omega
  have HK := qHd (size_n vars _ t (Nat.lt_succ_self _) 0 _ w0 k1 (by omega) (HT.out.below HB.out))
  obtain ⟨lv, hlve⟩ : ∃ lv, lv = qdo t := ⟨_, rfl⟩
  rw [← hlve] at hl4 HK
  have HLV := qHd hlve
  obtain ⟨sz, hsze⟩ : ∃ z, z = qei t := ⟨_, rfl⟩
  obtain ⟨dp, hdpe⟩ : ∃ z, z = trDep t := ⟨_, rfl⟩
  rw [← hsze, ← hdpe] at HK
  clear hm k1 k2 k3 hlv hlve hsze hdpe hdp
  rw [qbi]
  obtain ⟨x0, x1, x2⟩ := qay G4.out
  go_wp2_with (with_reducible refine qad ?_)
  clear x0 x1 x2
  refine qap.mk ?_
  (with_reducible refine HK.out.mono ?_); rintro e w1 ⟨rfl, hb1⟩
  have HB := qHd (HB.out.trans (hb1.mono HB.out.size)); have G4 := qHd (qaa G4.out hb1); have G7 := qHd (qaa G7.out hb1); have G8 := qHd (qaa G8.out hb1)
  clear hb1 HK
  by_cases hn : k < 0
  ·have R := qHd (show swpV vars t k by_ = (.mk 0 [] 0, 10) by unfold swpV; rw [if_neg (fun h => h HE.out), if_pos (.inl hn)])
   go_wp2_with (with_reducible refine qaf ?_)
   refine qan g8 0 [.int .i64 0, .slice none 0 0, .int .i64 0] G8.out rfl rfl (Nat.le_of_ble_eq_true rfl) (by kernel_rfl) rfl ?_
   intro wz hpz
   have GZ := qHd (show wz.heap[g8]? = some (.cells #[.int .i64 0, .slice none 0 0, .int .i64 0] 27) by rw [hpz]; exact qbd G8.out)
   have HBz := qHd (qbl hpz HB.out l8)
   clear hpz
   go_wp2_with (with_reducible first | refine qad ?_ | refine qai ?_ | refine qaj ?_ | refine qak ?_ | refine qag ?_)
   refine qcl rfl g8 #[.int .i64 0, .slice none 0 0, .int .i64 0] rfl GZ.out Tryz.underlying27 rfl (by kernel_rfl) rfl ?_
   exact ⟨_, by rw [R.out]; rfl, HBz.out, by rw [R.out]; exact fun w2 _ => TrV.leaf w2 ⟨by decide, by decide⟩⟩
  by_cases hl : (lv : Int) ≤ k
  ·have R := qHd (show swpV vars t k by_ = (.mk 0 [] 0, 10) by unfold swpV; rw [if_neg (fun h => h HE.out), if_pos (.inr (by rw [← HLV.out]; exact hl))])
   go_wp2_with (with_reducible refine qaf ?_)
   refine qan g8 0 [.int .i64 0, .slice none 0 0, .int .i64 0] G8.out rfl rfl (Nat.le_of_ble_eq_true rfl) (by kernel_rfl) rfl ?_
   intro wz hpz
   have GZ := qHd (show wz.heap[g8]? = some (.cells #[.int .i64 0, .slice none 0 0, .int .i64 0] 27) by rw [hpz]; exact qbd G8.out)
   have HBz := qHd (qbl hpz HB.out l8)
   clear hpz
   go_wp2_with (with_reducible first | refine qad ?_ | refine qai ?_ | refine qaj ?_ | refine qak ?_ | refine qag ?_)
   refine qcl rfl g8 #[.int .i64 0, .slice none 0 0, .int .i64 0] rfl GZ.out Tryz.underlying27 rfl (by kernel_rfl) rfl ?_
   exact ⟨_, by rw [R.out]; rfl, HBz.out, by rw [R.out]; exact fun w2 _ => TrV.leaf w2 ⟨by decide, by decide⟩⟩
  obtain ⟨sT, hsT⟩ : ∃ z, z = (qbo by_ t k).1 := ⟨_, rfl⟩
  have E1 := qHd (show swpV vars t k by_ = if (qbh vars sT 0 0).2 ≠ 0 then (.mk 0 [] 0, (qbh vars sT 0 0).2) else (sT, 0) by
   unfold swpV; rw [if_neg (fun h => h HE.out), if_neg (by rw [← HLV.out]; omega), hsT])
  have HK := qHd (pswap_n vars by_ HFT.out _ t (Nat.lt_succ_self _) 0 k _ _ w1 KK.out.1 KK.out.2 (by have := KK.out.2; omega) (by omega) (HT.out.below HB.out) (HY.out.keep (qcb HB.out)))
  rw [← hsT] at HK
  clear hsT
  obtain ⟨sc, hsc⟩ : ∃ z, z = (qbo by_ t k).2 := ⟨_, rfl⟩
  rw [← hsc] at HK
  clear hsc
  obtain ⟨x0, x1, x2⟩ := qay G4.out
  obtain ⟨y0, y1, y2⟩ := qay G7.out
  go_wp2_with (with_reducible refine qad ?_)
  clear x0 x1 x2 y0 y1 y2
  refine qap.mk ?_
  (with_reducible refine HK.out.mono ?_); rintro e w2 ⟨v2, rfl, hs2, hb2⟩
  obtain ⟨sv, sr, sa, sn, sx, rfl⟩ := hs2.tr.shape
  have HB := qHd (HB.out.trans (hb2.mono HB.out.size)); have G8 := qHd (qaa G8.out hb2)
  obtain ⟨w3, hw3, hb3, g14, hG14, hg14⟩ := qBx5 w2 (.cells #[.int .i64 sv, .slice sa sn sx, .int .i64 sr] 27)
  have HS := qHd (hs2.keep (qcb hb3))
  have HB := qHd (HB.out.trans (hb3.mono HB.out.size)); have G8 := qHd (qaa G8.out hb3); have G14 := qHd hg14
  obtain ⟨x0, x1, x2⟩ := qay hg14
  rw [hw3, hG14] at x0 x1 x2
  have HK := qHd (scheck_any _ sT vars w3 HS.out.tr HV.out)
  obtain ⟨e2, he2⟩ : ∃ e2, (qbh vars sT 0 0).2 = e2 := ⟨_, rfl⟩
  rw [he2] at HK E1
  clear hb2 hs2 hb3 hg14 he2
  go_wp2_with (with_reducible refine qad ?_)
  rw [← hw3, ← hG14]
  clear hw3 hG14 x0 x1 x2
  refine qap.mk ?_
  (with_reducible refine HK.out.mono ?_); rintro e w4 ⟨rfl, hb4⟩
  have HB := qHd (HB.out.trans (hb4.mono HB.out.size)); have G8 := qHd (qaa G8.out hb4); have G14 := qHd (qaa G14.out hb4)
  have HS := qHd (HS.out.keep (qcb hb4))
  clear hb4 HK
  by_cases h2 : e2 = 0
  ·subst h2
   have R := qHd (E1.out.trans (if_neg (fun h => h rfl)))
   rw [qbi]
   obtain ⟨x0, x1, x2⟩ := qay G14.out
   go_wp2_with (with_reducible refine qaf ?_)
   clear x0 x1 x2
   refine qan g8 0 [.int .i64 sv, .slice sa sn sx, .int .i64 sr] G8.out rfl rfl (Nat.le_of_ble_eq_true rfl) (by kernel_rfl) rfl ?_
   intro wz hpz
   have GZ := qHd (show wz.heap[g8]? = some (.cells #[.int .i64 sv, .slice sa sn sx, .int .i64 sr] 27) by rw [hpz]; exact qbd G8.out)
   have HBz := qHd (qbl hpz HB.out l8)
   have HSz := qHd (HS.out.keep (qes hpz G8.out (by simp)))
   clear hpz
   go_wp2_with (with_reducible first | refine qad ?_ | refine qai ?_ | refine qaj ?_ | refine qak ?_ | refine qag ?_)
   refine qcl rfl g8 #[.int .i64 sv, .slice sa sn sx, .int .i64 sr] rfl GZ.out Tryz.underlying27 rfl (by kernel_rfl) rfl ?_
   exact ⟨_, by rw [R.out]; rfl, HBz.out, by rw [R.out]; exact HSz.out⟩
  ·have R := qHd (E1.out.trans (if_pos h2))
   rw [qbz h2]
   go_wp2_with (with_reducible refine qaf ?_)
   refine qan g8 0 [.int .i64 0, .slice none 0 0, .int .i64 0] G8.out rfl rfl (Nat.le_of_ble_eq_true rfl) (by kernel_rfl) rfl ?_
   intro wz hpz
   have GZ := qHd (show wz.heap[g8]? = some (.cells #[.int .i64 0, .slice none 0 0, .int .i64 0] 27) by rw [hpz]; exact qbd G8.out)
   have HBz := qHd (qbl hpz HB.out l8)
   clear hpz
   go_wp2_with (with_reducible first | refine qad ?_ | refine qai ?_ | refine qaj ?_ | refine qak ?_ | refine qag ?_)
   refine qcl rfl g8 #[.int .i64 0, .slice none 0 0, .int .i64 0] rfl GZ.out Tryz.underlying27 rfl (by kernel_rfl) rfl ?_
   exact ⟨_, by rw [R.out, qbz h2]; rfl, HBz.out, by rw [R.out]; exact fun w2 _ => TrV.leaf w2 ⟨by decide, by decide⟩⟩
 ·have R := qHd (show swpV vars t k by_ = (.mk 0 [] 0, ec) by unfold swpV; rw [HE.out, if_pos h0])
  rw [qbz h0]
  go_wp2_with (with_reducible refine qaf ?_)
  refine qan g8 0 [.int .i64 0, .slice none 0 0, .int .i64 0] G8.out rfl rfl (Nat.le_of_ble_eq_true rfl) (by kernel_rfl) rfl ?_
  intro wz hpz
  have GZ := qHd (show wz.heap[g8]? = some (.cells #[.int .i64 0, .slice none 0 0, .int .i64 0] 27) by rw [hpz]; exact qbd G8.out)
  have HBz := qHd (qbl hpz HB.out l8)
  clear hpz
  go_wp2_with (with_reducible first | refine qad ?_ | refine qai ?_ | refine qaj ?_ | refine qak ?_ | refine qag ?_)
  refine qcl rfl g8 #[.int .i64 0, .slice none 0 0, .int .i64 0] rfl GZ.out Tryz.underlying27 rfl (by kernel_rfl) rfl ?_
  exact ⟨_, by rw [R.out, qbz h0]; rfl, HBz.out, by rw [R.out]; exact fun w2 _ => TrV.leaf w2 ⟨by decide, by decide⟩⟩
theorem prefine_any (vf x v : Value) (f : Fm) (t : Tr) (L : List Rv) (w : World) (hf : FmV w vf f) (ht : TrV w x t) (hp : RvsV w v L) (hsm : ∀ r ∈ L, r.a.length ≤ 3 ∧ r.b.length ≤ 3 ∧ rl r.q ≤ 3) (hlv : cErr f t = 0 → (qah t 0 0).length ≤ 300) (er : Nat) (her : sErr f t L = er) :
  Calls Tryz.prog 23 #[vf, v, x] w (RetMkH w (rfV f t L).1 (rfV f t L).2) := by
 have HER := qHd her; have HSM := qHd hsm; have HLVB := qHd hlv
 obtain ⟨ap, cp, rfl, hcp, hcp2, _⟩ := hp.shape
 obtain ⟨nv, rfl, hn, hv, htp⟩ := hf
 obtain ⟨ao, c, rfl, hc, hc2, _⟩ := hn.shape
 have HF := qHd (show FmV w _ f from ⟨_, rfl, hn, hv, htp⟩)
 have HT := qHd ht; have HP := qHd hp
 obtain ⟨tv, tr, ta, tn, tc, rfl⟩ := ht.shape
 obtain ⟨W0, hW0⟩ : ∃ W, W = (w.alloc (.cells #[.int .i64 f.vars, .slice ao f.nodes.length c, .int .i64 f.top] 24)).alloc (.cells #[.int .i64 tv, .slice ta tn tc, .int .i64 tr] 27) := ⟨_, rfl⟩
 obtain ⟨W, hW⟩ : ∃ W, W = W0.alloc (.cells #[.int .i64 0, .slice none 0 0, .int .i64 0] 27) := ⟨_, rfl⟩
 have hb0 : Below w.heap.size w W0 := by rw [hW0]; exact ((Below.refl _ _).alloc (Nat.le_refl _) _).alloc (by simp) _
 have hb1 : Below W0.heap.size W0 W := by rw [hW]; exact qBA _ _
 have hs0 : W0.heap.size = w.heap.size + 1 + 1 := by rw [hW0]; simp
 have hg3 : W.heap[w.heap.size]? = some (.cells #[.int .i64 f.vars, .slice ao f.nodes.length c, .int .i64 f.top] 24) := qaa (by rw [hW0]; exact heap_alloc2_old w _ _) hb1
 have hg5 : W.heap[w.heap.size + 1]? = some (.cells #[.int .i64 tv, .slice ta tn tc, .int .i64 tr] 27) := qaa (by rw [hW0]; exact heap_alloc2_new w _ _) hb1
 have hg6 : W.heap[w.heap.size + 1 + 1]? = some (.cells #[.int .i64 0, .slice none 0 0, .int .i64 0] 27) := by rw [hW, ← hs0]; exact heap_alloc_new W0 _
 rw [hW0] at hW
 obtain ⟨g3, hG3⟩ : ∃ g, g = w.heap.size := ⟨_, rfl⟩
 obtain ⟨g5, hG5⟩ : ∃ g, g = w.heap.size + 1 := ⟨_, rfl⟩
 obtain ⟨g6, hG6⟩ : ∃ g, g = w.heap.size + 1 + 1 := ⟨_, rfl⟩
 rw [← hG3] at hg3; rw [← hG5] at hg5; rw [← hG6] at hg6
 have l6 : w.heap.size ≤ g6 := by omega
 have n36 : g3 ≠ g6 := by omega
 have n56 : g5 ≠ g6 := by omega
 have HBW := qHd (hb0.trans (hb1.mono hb0.size)); have G6 := qHd hg6; have G3 := qHd hg3; have G5 := qHd hg5
 obtain ⟨x0, x1, x2⟩ := qay hg3
 obtain ⟨y0, y1, y2⟩ := qay hg5
 rw [hW, hG3] at x0 x1 x2
 rw [hW, hG5] at y0 y1 y2
 have HK := qHd (sums_any _ _ _ f t L W (HF.out.below HBW.out) (HT.out.below HBW.out) (HP.out.below HBW.out) hsm hlv er her)
 clear hb0 hb1 hs0 hg3 hg5 hg6 hW0 hn hv htp ht hp hsm hlv her
 go_enter Tryz.func23, Tryz.ntmps23
 go_wp2_with (with_reducible refine qad ?_)
 rw [← hW, ← hG6, ← hG5, ← hG3]; clear hW hG3 hG5 hG6 x0 x1 x2 y0 y1 y2
 refine qap.mk ?_
 (with_reducible refine HK.out.mono ?_); rintro e w1 ⟨s0, s1, s2, o0, a0, o1, a1, o2, a2, n0, c0, m0, d0, n1, c1, m1, d1, n2, c2, m2, d2, vl, rfl, hb1, hr⟩
 obtain ⟨wa, hwa, hba, g8, hG8, hga⟩ := qBx5 w1 (.cells #[.bool false, .slice none 0 0, .slice none 0 0, .bool false, .slice none 0 0, .slice none 0 0, .bool false, .slice none 0 0, .slice none 0 0] 105)
 go_wp2_with (with_reducible refine qaf ?_)
 rw [← hwa, ← hG8]
 refine qan g8 0 [.bool s0, .slice o0 n0 c0, .slice a0 m0 d0, .bool s1, .slice o1 n1 c1, .slice a1 m1 d1, .bool s2, .slice o2 n2 c2, .slice a2 m2 d2] hga rfl rfl (Nat.le_of_ble_eq_true rfl) (by kernel_rfl) rfl ?_
 intro w2 hp2
 have ne68 : g6 ≠ g8 := by have := qaw G6.out; have := hb1.size; omega
 have l8 : w.heap.size ≤ g8 := by have := (HBW.out.trans (hb1.mono HBW.out.size)).size; omega
 have hb12 := hb1.trans (hba.mono hb1.size)
 have HBc := qHd (qbl hp2 (HBW.out.trans (hb12.mono HBW.out.size)) l8); have G6 := qHd (qbr hp2 (qaa G6.out hb12) ne68)
 have G8 := qHd (show w2.heap[g8]? = some (.cells #[.bool s0, .slice o0 n0 c0, .slice a0 m0 d0, .bool s1, .slice o1 n1 c1, .slice a1 m1 d1, .bool s2, .slice o2 n2 c2, .slice a2 m2 d2] 105) by rw [hp2]; exact putL_99 hga)
 have HR := qHd (show er = 0 → IsR w2 (.agg #[.bool s0, .slice o0 n0 c0, .slice a0 m0 d0]) (sumF (L.map Rv.q) 0 (qah t 0 0) 0) ∧ IsR w2 (.agg #[.bool s1, .slice o1 n1 c1, .slice a1 m1 d1]) (sumF (L.map Rv.q) 1 (qah t 0 0) 0) ∧ LfsV w2 vl (qah t 0 0) from fun h => ⟨qbq hp2 ((hr h).1.below hba) hga noW9, qbq hp2 ((hr h).2.1.below hba) hga noW9, putL_lfs hp2 ((hr h).2.2.2.below hba) hga noI9⟩)
 have n38 : g3 ≠ g8 := by have := qaw G3.out; have := hb1.size; omega
 have n58 : g5 ≠ g8 := by have := qaw G5.out; have := hb1.size; omega
 have G3 := qHd (qbr hp2 (qaa G3.out hb12) n38); have G5 := qHd (qbr hp2 (qaa G5.out hb12) n58)
 clear hwa hG8 hp2 hba hga hb1 hb12 hr HK
 by_cases h0 : er = 0
 case neg =>
  have R := qHd (rfV_bad HER.out h0)
  rw [qbz h0]
  go_wp2_with (with_reducible refine qaf ?_)
  refine qan g6 0 [.int .i64 0, .slice none 0 0, .int .i64 0] G6.out rfl rfl (Nat.le_of_ble_eq_true rfl) (by kernel_rfl) rfl ?_
  intro wz hpz
  have GZ := qHd (show wz.heap[g6]? = some (.cells #[.int .i64 0, .slice none 0 0, .int .i64 0] 27) by rw [hpz]; exact qbd G6.out)
  have HBz := qHd (qbl hpz HBc.out l6)
  clear hpz
  go_wp2_with (with_reducible first | refine qad ?_ | refine qai ?_ | refine qaj ?_ | refine qak ?_ | refine qag ?_)
  refine qcl rfl g6 #[.int .i64 0, .slice none 0 0, .int .i64 0] rfl GZ.out Tryz.underlying27 rfl (by kernel_rfl) rfl ?_
  exact ⟨_, by rw [R.out, qbz h0]; rfl, HBz.out, by rw [R.out]; exact fun w2 _ => TrV.leaf w2 ⟨by decide, by decide⟩⟩
 subst h0
 rw [qbi]
 obtain ⟨k1, k2, k3, k4⟩ := qex HER.out
 have h24 := (qbe (qds k1).1).2.1
 have h24' : L.length ≤ 24 := by omega
 have p0 := (qbe (qds k1).1).1
 have HVL := qHd (show f.vars.toNat = L.length by omega)
 have HRV := qHd (fun r hr => (show RvOK 3 r from ⟨k3 r hr, (HSM.out r hr).1, (HSM.out r hr).2.1, (HSM.out r hr).2.2⟩))
 have HFM := qHd (qds k1).1; have HOC := qHd (qdy k1); have HVV := qHd (And.intro p0 h24)
 have H300 := qHd (HLVB.out k1)
 have HLS := qHd (HR.out rfl).2.2
 clear k1 k2 k3 k4 h24 p0 HR
 obtain ⟨ls, hls⟩ : ∃ ls, ls = qah t 0 0 := ⟨_, rfl⟩
 have RN := qHd (show qfe (L.map Rv.q) ls 0 none = none → rfV f t L = (.mk 0 [] 0, 17) from fun h => rfV_none HER.out (by rw [← hls]; exact h))
 have RS := qHd (show ∀ (r : Nat × Rat) (z : Lf), qfe (L.map Rv.q) ls 0 none = some r → ls[r.1]? = some z → rfV f t L = swpV f.vars t (r.1 : Nat) (grT f 1 z.yes z.no) from fun r z h hz => rfV_some HER.out (by rw [← hls]; exact h) (by rw [← hls]; exact hz))
 rw [← hls] at HLS H300 HOC
 obtain ⟨av, cv, rfl, hcv, hcv2, _⟩ := HLS.out.shape
 have h300 := H300.out
 clear hls HER
 obtain ⟨w3, hw3, hb3, gm, hGm, hgm⟩ := qBx5 w2 (.cells #[.bool false, .slice none 0 0, .slice none 0 0] 54)
 have lm : w2.heap.size ≤ gm := by omega
 have B3 := qHd hb3; have GM := qHd hgm
 clear hb3 hgm
 go_wp2_with (with_reducible first | refine qad ?_ | refine qai ?_ | refine qaj ?_ | refine qak ?_ | refine qag ?_)
 rw [← hw3, ← hGm]
 clear hw3 hGm
 refine qap.mk ?_
 go_loopw [33, 11] (fun i' a' wx => ∃ (q : Nat) (acc : Option (Nat × Rat)) (so : Bool) (oo ao2 : Option Addr) (no co mo do_ : Nat), q ≤ ls.length ∧ i' = .int .i64 q ∧ a' = .int .i64 (atI acc) ∧ Hid (Below w2.heap.size w2 wx) ∧ Hid (wx.heap[gm]? = some (.cells #[.bool so, .slice oo no co, .slice ao2 mo do_] 54)) ∧
  Hid (∀ p, acc = some p → IsR wx (.agg #[.bool so, .slice oo no co, .slice ao2 mo do_]) p.2) ∧ Hid (qfe (L.map Rv.q) ls 0 none = qfe (L.map Rv.q) (ls.drop q) q acc) ∧ Hid (accOK (L.map Rv.q) ls acc)) (fun i' _ _ => ls.length - (intOf i').toNat)
 case atStart => exact ⟨0, none, false, none, none, 0, 0, 0, 0, Nat.zero_le _, rfl, rfl, B3, GM, qHd (fun p h => by cases h), qHd rfl, qHd (accOK_none _ _)⟩
 case round =>
  obtain ⟨q, acc, so, oo, ao2, no, co, mo, do_, hq, rfl, rfl, BX, GM, IM, PK, AK⟩ := hrel
  obtain ⟨wo, rfl⟩ : ∃ wo : World, wo = wr := ⟨_, rfl⟩
  by_cases hlt : q < ls.length
  ·obtain ⟨z, hz⟩ : ∃ z, ls[q]? = some z := ⟨ls[q], List.getElem?_eq_getElem hlt⟩
   obtain ⟨bl, ol, rfl, hbl, hjk, hat⟩ := HLS.out.at (by omega); clear hjk
   obtain ⟨c0, c1, c2⟩ := hat q z hz
   have c0 := (BX.out.cell (p := ⟨bl, _, none⟩) hbl).trans c0
   have c1 := (BX.out.cell (p := ⟨bl, _, none⟩) hbl).trans c1
   have c2 := (BX.out.cell (p := ⟨bl, _, none⟩) hbl).trans c2
   have HZ := qHd hz; have HAT := qHd hat
   have PD := qHd (PK.out.trans (pickL_drop (ps := L.map Rv.q) (acc := acc) hz))
   have HC := qHd (okC_lt (HOC.out z (List.mem_of_getElem? hz)))
   clear hat hz
   obtain ⟨xy, xn, xr⟩ := z
   simp only at c0 c1 c2 HC
   have hltz : (q : Int) < (ls.length : Int) := by omega
   obtain ⟨w4, hw4, hb4, g9, hg9, hx4⟩ := qBx5 wo (.cells #[.int .i64 (xy : Nat), .int .i64 (xn : Nat), .int .i64 xr] 48)
   obtain ⟨z0, z1, z2⟩ := qay hx4
   rw [hw4, hg9] at z0 z1 z2
   have BX4 := qHd (BX.out.trans (hb4.mono BX.out.size)); have GM := qHd (qaa GM.out hb4)
   have IM := qHd (fun p hp => (IM.out p hp).below hb4)
   clear hb4 hx4
   by_cases hr2 : xr = 2
   ·subst hr2
    obtain ⟨wx, hwx⟩ : ∃ u, u = wt (L.map Rv.q) xy xn := ⟨_, rfl⟩
    have LWX := qHd (show rl wx ≤ 121 by rw [hwx]; exact rl_wt24 h24' (fun z hz => (HRV.out z hz).lq) xy xn)
    have HK := qHd (weight_any _ L xy xn 3 w4 (HP.out.below (HBc.out.trans (BX4.out.mono HBc.out.size))) HRV.out h24' (by rw [← HVL.out]; exact HC.out.1) (by rw [← HVL.out]; exact HC.out.2.1) HC.out.2.2 (by decide))
    rw [← hwx] at HK
    have WXE := qHd hwx
    clear hwx
    go_wp2_with (with_reducible refine qad ?_)
    rw [← hw4, ← hg9]
    clear hw4 hg9 c0 c1 c2 z0 z1 z2
    refine qap.mk ?_
    (with_reducible refine HK.out.mono ?_); rintro e w5 ⟨v5, rfl, hb5, hn5⟩
    obtain ⟨sw, ow, nw, cw, aw, mw, dw, rfl⟩ := hn5.shape
    obtain ⟨w6, hw6, hb6, g15, hg15, hx6⟩ := qBx5 w5 (.cells #[.bool sw, .slice ow nw cw, .slice aw mw dw] 54)
    have IW := qHd (hn5.below hb6)
    have hb56 := hb5.trans (hb6.mono hb5.size)
    have BX := qHd (BX4.out.trans (hb56.mono BX4.out.size)); have GM := qHd (qaa GM.out hb56); have G15 := qHd hx6
    have IM := qHd (fun p hp => (IM.out p hp).below hb56)
    clear hb5 hn5 HK hb6 hx6 hb56 BX4
    cases acc with
    | none =>
     rw [show atI none = -1 from rfl]
     have NB := qHd (PD.out.trans (congrArg (qfe (L.map Rv.q) (ls.drop (q + 1)) (q + 1)) (pickS_first rfl)))
     simp only [← WXE.out] at NB
     go_wp2_with (with_reducible first | refine qad ?_ | refine qai ?_ | refine qaj ?_ | refine qak ?_ | refine qag ?_)
     rw [← hw6, ← hg15]
     clear hw6 hg15
     refine qap.mk ?_
     refine qao (A := ?aaTKA) (w := w6) 3 [] (by kernel_rfl) (Fl [KEq (.int .i64 (q : Nat)), KEq (.agg #[.bool sw, .slice ow nw cw, .slice aw mw dw]), KEq (.int .i64 (q : Nat))]) (fun i => false) (by kernel_rfl) ?hqTKA (qcw (qae (kEq _) (qae (kEq _) (qae (kEq _) qcv)))) ?haTKA ?stTKA ?tlTKA
     case hqTKA =>
      intro c a d v w h
      first | (simp only [Exit.then] at h ⊢; exact h) | (simp only [Exit.inBlock, Exit.then] at h ⊢; exact h) | exact h
     case haTKA =>
      intro vals
      simp only [qba, qcd, if_true, Act.put, List.setIfInBounds_toArray, List.set_cons_zero, List.set_cons_succ, List.getElem?_toArray, List.getElem?_cons_zero, List.getElem?_cons_succ, Option.bind_some]
      exact rfl
     case stTKA =>
      simp only [List.take_succ_cons, List.take_zero]
      refine qab rfl rfl ?_ (qab rfl rfl ?_ (qab rfl rfl ?_ (qav)))
      ·intro vals w1 hb hd
       refine qSv (.int .i64 (q : Nat)) (by go_simp) (qLk rfl rfl)
      ·intro vals w1 hb hd
       obtain ⟨e0, e1, e2⟩ := qay (qaa G15.out hb)
       refine qSv (.agg #[.bool sw, .slice ow nw cw, .slice aw mw dw]) (by go_simp) (qLk rfl rfl)
      ·intro vals w1 hb hd
       rw [show vals 0 = .int .i64 (q : Nat) from hd 0 (by kernel_rfl)]
       refine qSv (.int .i64 (q : Nat)) (by go_simp) (qLk rfl rfl)
     case tlTKA =>
      intro vals w7 hb7 hf7 hdis
      simp only [List.drop_succ_cons, List.drop_zero]
      have z0 : vals 0 = _ := hf7 0 (by decide)
      have z1 : vals 1 = _ := hf7 1 (by decide)
      have z2 : vals 2 = _ := hf7 2 (by decide)
      rw [z1, z2]
      try rw [z0]
      clear z0 z1 z2 hf7 hdis
      have GM := qHd (qaa GM.out hb7); have BX := qHd (BX.out.trans (hb7.mono BX.out.size)); have IW := qHd (IW.out.below hb7)
      go_wp2_with (with_reducible refine qaf ?_)
      refine qan gm 0 [.bool sw, .slice ow nw cw, .slice aw mw dw] GM.out rfl rfl (Nat.le_of_ble_eq_true rfl) (by kernel_rfl) rfl ?_
      intro wz hpz
      have GZ := qHd (show wz.heap[gm]? = some (.cells #[.bool sw, .slice ow nw cw, .slice aw mw dw] 54) by rw [hpz]; exact qbd GM.out)
      have BZ := qHd (qbl hpz BX.out lm)
      have IZ := qHd (qbq hpz IW.out GM.out noW3)
      clear hpz hb7
      go_wp2_with fail
      go_roundw
      case rel => exact ⟨q + 1, some (q, wx), sw, ow, aw, nw, cw, mw, dw, by omega, by go_num, by first | rfl | go_num, BZ, GZ, qHd (fun p hp => by cases hp; exact IZ.out), NB, qHd (by rw [WXE.out]; exact accOK_at HZ.out)⟩
      case measure => simp [intOf]; omega
    | some p =>
     obtain ⟨j, m⟩ := p
     rw [show atI (some (j, m)) = ((j : Nat) : Int) from rfl]
     obtain ⟨z2, hz2, hm⟩ := AK.out _ rfl
     have LM := qHd (show rl m ≤ 121 by
      have : m = wt (L.map Rv.q) z2.yes z2.no := hm
      rw [this]; exact rl_wt24 h24' (fun z hz => (HRV.out z hz).lq) _ _)
     have IMM := qHd (show IsR w6 _ m from IM.out _ rfl)
     have hj0 : ¬ ((j : Nat) : Int) < 0 := by omega
     clear hz2 hm
     have HK := qHd (qfi _ wx _ m w6 (IW.out.is (by have := LWX.out; omega)) (IMM.out.is (by have := LM.out; omega)) (by have := LWX.out; omega) (by have := LM.out; omega))
     obtain ⟨l0, l1, l2⟩ := qay G15.out
     obtain ⟨k0, k1, k2⟩ := qay GM.out
     rw [hw6, hg15] at l0 l1 l2
     rw [hw6] at k0 k1 k2
     go_wp2_with (with_reducible refine qad ?_)
     rw [← hw6, ← hg15]
     clear hw6 hg15 l0 l1 l2 k0 k1 k2
     refine qap.mk ?_
     (with_reducible refine HK.out.mono ?_); rintro e w7 ⟨rfl, hb7⟩
     have GM := qHd (qaa GM.out hb7); have G15 := qHd (qaa G15.out hb7); have BX := qHd (BX.out.trans (hb7.mono BX.out.size)); have IW := qHd (IW.out.below hb7); have IMM := qHd (IMM.out.below hb7)
     clear hb7 HK IM
     by_cases hlw : m < wx
     ·have hcq : 0 < cq wx m := (cq_gt _ _).2 hlw
      have NB := qHd (PD.out.trans (congrArg (qfe (L.map Rv.q) (ls.drop (q + 1)) (q + 1)) ((pickS_more rfl).trans (if_pos (by rw [← WXE.out]; exact hlw)))))
      simp only [← WXE.out] at NB
      obtain ⟨w6, rfl⟩ : ∃ w6, w6 = w7 := ⟨_, rfl⟩
      go_wp2_with (with_reducible first | refine qad ?_ | refine qai ?_ | refine qaj ?_ | refine qak ?_ | refine qag ?_)
      clear hcq
      refine qap.mk ?_
      refine qao (A := ?aaTKB) (w := w6) 3 [] (by kernel_rfl) (Fl [KEq (.int .i64 (q : Nat)), KEq (.agg #[.bool sw, .slice ow nw cw, .slice aw mw dw]), KEq (.int .i64 (q : Nat))]) (fun i => false) (by kernel_rfl) ?hqTKB (qcw (qae (kEq _) (qae (kEq _) (qae (kEq _) qcv)))) ?haTKB ?stTKB ?tlTKB
      case hqTKB =>
       intro c a d v w h
       first | (simp only [Exit.then] at h ⊢; exact h) | (simp only [Exit.inBlock, Exit.then] at h ⊢; exact h) | exact h
      case haTKB =>
       intro vals
       simp only [qba, qcd, if_true, Act.put, List.setIfInBounds_toArray, List.set_cons_zero, List.set_cons_succ, List.getElem?_toArray, List.getElem?_cons_zero, List.getElem?_cons_succ, Option.bind_some]
       exact rfl
      case stTKB =>
       simp only [List.take_succ_cons, List.take_zero]
       refine qab rfl rfl ?_ (qab rfl rfl ?_ (qab rfl rfl ?_ (qav)))
       ·intro vals w1 hb hd
        refine qSv (.int .i64 (q : Nat)) (by go_simp) (qLk rfl rfl)
       ·intro vals w1 hb hd
        obtain ⟨e0, e1, e2⟩ := qay (qaa G15.out hb)
        refine qSv (.agg #[.bool sw, .slice ow nw cw, .slice aw mw dw]) (by go_simp) (qLk rfl rfl)
       ·intro vals w1 hb hd
        rw [show vals 0 = .int .i64 (q : Nat) from hd 0 (by kernel_rfl)]
        refine qSv (.int .i64 (q : Nat)) (by go_simp) (qLk rfl rfl)
      case tlTKB =>
       intro vals w7 hb7 hf7 hdis
       simp only [List.drop_succ_cons, List.drop_zero]
       have z0 : vals 0 = _ := hf7 0 (by decide)
       have z1 : vals 1 = _ := hf7 1 (by decide)
       have z2 : vals 2 = _ := hf7 2 (by decide)
       rw [z1, z2]
       try rw [z0]
       clear z0 z1 z2 hf7 hdis
       have GM := qHd (qaa GM.out hb7); have BX := qHd (BX.out.trans (hb7.mono BX.out.size)); have IW := qHd (IW.out.below hb7)
       go_wp2_with (with_reducible refine qaf ?_)
       refine qan gm 0 [.bool sw, .slice ow nw cw, .slice aw mw dw] GM.out rfl rfl (Nat.le_of_ble_eq_true rfl) (by kernel_rfl) rfl ?_
       intro wz hpz
       have GZ := qHd (show wz.heap[gm]? = some (.cells #[.bool sw, .slice ow nw cw, .slice aw mw dw] 54) by rw [hpz]; exact qbd GM.out)
       have BZ := qHd (qbl hpz BX.out lm)
       have IZ := qHd (qbq hpz IW.out GM.out noW3)
       clear hpz hb7
       go_wp2_with fail
       go_roundw
       case rel => exact ⟨q + 1, some (q, wx), sw, ow, aw, nw, cw, mw, dw, by omega, by go_num, by first | rfl | go_num, BZ, GZ, qHd (fun p hp => by cases hp; exact IZ.out), NB, qHd (by rw [WXE.out]; exact accOK_at HZ.out)⟩
       case measure => simp [intOf]; omega
     ·have hcq : ¬ 0 < cq wx m := fun h => hlw ((cq_gt _ _).1 h)
      have NB := qHd (PD.out.trans (congrArg (qfe (L.map Rv.q) (ls.drop (q + 1)) (q + 1)) ((pickS_more rfl).trans (if_neg (by rw [← WXE.out]; exact hlw)))))
      go_wp2_with fail
      go_roundw
      case rel => exact ⟨q + 1, some (j, m), so, oo, ao2, no, co, mo, do_, by omega, by go_num, by first | rfl | go_num, BX, GM, qHd (fun p hp => by cases hp; exact IMM.out), NB, AK⟩
      case measure => simp [intOf]; omega
   ·have hr2z : (xr != 2) = true := bne_iff_ne.2 hr2
    have NB := qHd (PD.out.trans (congrArg (qfe (L.map Rv.q) (ls.drop (q + 1)) (q + 1)) (pickS_no (by exact hr2))))
    go_wp2_with fail
    rw [← hw4]
    go_roundw
    case rel => exact ⟨q + 1, acc, so, oo, ao2, no, co, mo, do_, by omega, by go_num, by first | rfl | go_num, BX4, GM, IM, NB, AK⟩
    case measure => simp [intOf]; omega
  ·have hq' : q = ls.length := by omega
   subst hq'
   have PE : qfe (L.map Rv.q) ls 0 none = acc := by rw [PK.out, List.drop_length]; rfl
   have G3 := qHd (qaa G3.out BX.out); have G5 := qHd (qaa G5.out BX.out); have G6 := qHd (qaa G6.out BX.out)
   have HBc := qHd (HBc.out.trans (BX.out.mono HBc.out.size))
   cases acc with
   | none =>
    have R := qHd (RN.out PE)
    clear PE
    rw [show atI none = -1 from rfl]
    go_wp2_with (with_reducible refine qaf ?_)
    refine qan g6 0 [.int .i64 0, .slice none 0 0, .int .i64 0] G6.out rfl rfl (Nat.le_of_ble_eq_true rfl) (by kernel_rfl) rfl ?_
    intro wz hpz
    have GZ := qHd (show wz.heap[g6]? = some (.cells #[.int .i64 0, .slice none 0 0, .int .i64 0] 27) by rw [hpz]; exact qbd G6.out)
    have HBz := qHd (qbl hpz HBc.out l6)
    clear hpz
    go_wp2_with (with_reducible first | refine qad ?_ | refine qai ?_ | refine qaj ?_ | refine qak ?_ | refine qag ?_)
    refine qcl rfl g6 #[.int .i64 0, .slice none 0 0, .int .i64 0] rfl GZ.out Tryz.underlying27 rfl (by kernel_rfl) rfl ?_
    exact ⟨_, by rw [R.out]; rfl, HBz.out, by rw [R.out]; exact fun w2 _ => TrV.leaf w2 ⟨by decide, by decide⟩⟩
   | some p =>
    obtain ⟨z2, hz2, hm⟩ := AK.out _ rfl
    have R := qHd (RS.out p z2 PE hz2)
    obtain ⟨j, m⟩ := p
    rw [show atI (some (j, m)) = ((j : Nat) : Int) from rfl]
    simp only at hz2 R
    have hjl : j < ls.length := (List.getElem?_eq_some_iff.1 hz2).1
    have hjz : (j : Int) < (ls.length : Int) := by omega
    have hj0 : ¬ ((j : Nat) : Int) < 0 := by omega
    obtain ⟨bl, ol, rfl, hbl, hjk, hat⟩ := HLS.out.at (by omega); clear hjk
    obtain ⟨c0, c1, c2⟩ := hat j z2 hz2
    have c0 := (BX.out.cell (p := ⟨bl, _, none⟩) hbl).trans c0
    have c1 := (BX.out.cell (p := ⟨bl, _, none⟩) hbl).trans c1
    have c2 := (BX.out.cell (p := ⟨bl, _, none⟩) hbl).trans c2
    have HO := qHd (HOC.out z2 (List.mem_of_getElem? hz2))
    obtain ⟨jy, jn, jr⟩ := z2
    simp only at c0 c1 c2 HO R
    clear hz2 hm hat PE PK AK
    obtain ⟨w4, hw4, hb4, hg7⟩ := qBx3 wo (.cells #[.int .i64 f.vars, .slice ao f.nodes.length c, .int .i64 f.top, .int .i64 1, .int .i64 0] 99)
    have hlb : bl < wo.heap.size := Nat.lt_of_lt_of_le hbl BX.out.size
    have d0 := (hb4.cell (p := ⟨bl, _, none⟩) hlb).trans c0
    have d1 := (hb4.cell (p := ⟨bl, _, none⟩) hlb).trans c1
    have d2 := (hb4.cell (p := ⟨bl, _, none⟩) hlb).trans c2
    rw [hw4] at d0 d1 d2
    obtain ⟨g7, hG7⟩ : ∃ g, g = wo.heap.size := ⟨_, rfl⟩
    rw [← hG7] at hg7
    have n37 : g3 ≠ g7 := by have := qaw G3.out; omega
    have n57 : g5 ≠ g7 := by have := qaw G5.out; omega
    have n67 : g6 ≠ g7 := by have := qaw G6.out; omega
    have l7 : w.heap.size ≤ g7 := by have := HBc.out.size; omega
    have HB4 := qHd (HBc.out.trans (hb4.mono HBc.out.size))
    have HFL := qHd (flat_grow f HFM.out jy jn)
    have hk := grow_any f HFM.out ao c 1 (by decide) w HF.out 1 jy jn 0 0 g7 w4 HB4.out l7 hg7 (by omega) HO.out (by have := grN1_le f jy jn; omega)
    obtain ⟨gt, hgt⟩ : ∃ z, z = grT f 1 jy jn := ⟨_, rfl⟩
    obtain ⟨gn, hgn⟩ : ∃ z, z = 0 + grN f 1 jy jn := ⟨_, rfl⟩
    rw [← hgt] at R HFL
    rw [← hgt, ← hgn, show ((0 : Nat) : Int) = 0 from rfl] at hk
    have HK := qHd hk
    obtain ⟨x0, x1, x2⟩ := qay G3.out
    have G3 := qHd (qaa G3.out hb4); have G5 := qHd (qaa G5.out hb4); have G6 := qHd (qaa G6.out hb4)
    clear hk hgt hgn hb4 hg7
    go_wp2_with (with_reducible refine qad ?_)
    rw [← hw4, ← hG7]
    clear hw4 hG7 x0 x1 x2 c0 c1 c2 d0 d1 d2
    refine qap.mk ?_
    (with_reducible refine HK.out.mono ?_); rintro e w5 ⟨va, rfl, hta, gb5, hg5⟩
    obtain ⟨yv, yr, ya, yn, yc, rfl⟩ := hta.tr.shape
    have HB5 := qHd (gb_low HB4.out gb5 HB4.out.size l7); have G3 := qHd (qga gb5 G3.out n37); have G5 := qHd (qga gb5 G5.out n57); have G6 := qHd (qga gb5 G6.out n67)
    obtain ⟨w6, hw6, hb6, g18, hG18, hg18⟩ := qBx5 w5 (.cells #[.int .i64 yv, .slice ya yn yc, .int .i64 yr] 27)
    have TA := qHd (hta.keep (qbu hb6)).toH
    have HB6 := qHd (HB5.out.trans (hb6.mono HB5.out.size))
    obtain ⟨x0, x1, x2⟩ := qay (qaa G3.out hb6)
    obtain ⟨y0, y1, y2⟩ := qay (qaa G5.out hb6)
    obtain ⟨u0, u1, u2⟩ := qay hg18
    rw [hw6] at x0 x1 x2 y0 y1 y2
    rw [hw6, hG18] at u0 u1 u2
    have G6 := qHd (qaa G6.out hb6)
    have HK := qHd (pSwap_any _ _ t gt HFL.out f.vars (j : Nat) w6 (HT.out.below HB6.out) TA.out HVV.out (by unfold I64; omega))
    rw [← R.out] at HK
    clear gb5 hg5 hta hb6 hg18
    go_wp2_with (with_reducible refine qad ?_)
    rw [← hw6, ← hG18]
    clear hw6 hG18 x0 x1 x2 y0 y1 y2 u0 u1 u2
    refine qap.mk ?_
    (with_reducible refine HK.out.mono ?_); rintro e w7 ⟨v7, rfl, hb7, ht7⟩
    obtain ⟨sv, sr, sa, sn, sc, rfl⟩ := ht7.tr.shape
    have HBc := qHd (HB6.out.trans (hb7.mono HB6.out.size)); have G6 := qHd (qaa G6.out hb7); have HS7 := qHd ht7
    clear hb7 ht7 HK
    go_wp2_with (with_reducible refine qaf ?_)
    refine qan g6 0 [.int .i64 sv, .slice sa sn sc, .int .i64 sr] G6.out rfl rfl (Nat.le_of_ble_eq_true rfl) (by kernel_rfl) rfl ?_
    intro wz hpz
    have GZ := qHd (show wz.heap[g6]? = some (.cells #[.int .i64 sv, .slice sa sn sc, .int .i64 sr] 27) by rw [hpz]; exact qbd G6.out)
    have HBz := qHd (qbl hpz HBc.out l6)
    have HSZ := qHd (HS7.out.keep (qes hpz G6.out (by simp)))
    clear hpz
    go_wp2_with (with_reducible first | refine qad ?_ | refine qai ?_ | refine qaj ?_ | refine qak ?_ | refine qag ?_)
    refine qcl rfl g6 #[.int .i64 sv, .slice sa sn sc, .int .i64 sr] rfl GZ.out Tryz.underlying27 rfl (by kernel_rfl) rfl ?_
    exact ⟨_, rfl, HBz.out, HSZ.out⟩
end Go.Proofs.YthhgfhdmfhnklaaGreatDoor
