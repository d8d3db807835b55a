/-
  What the law leans on, one text behind the other (the base).
  Conditions: each theorem's own.
-/
import Derived.Lib.SmallJoins
import Derived.Carry
import Derived.ShutString
import Derived.OpenShut
import Derived.Test.YthhgfhdmfhnklaaGreatDoorMV5
set_option maxRecDepth 100000
set_option maxHeartbeats 16000000
namespace Go.Proofs.YthhgfhdmfhnklaaGreatDoor
open Go.RowKit Go.ChangeShapes Go.WideShapes
theorem row5 {w : World} {g : Nat} {x0 x1 x2 x3 x4 : Value} {T : TypeId} (h : w.heap[g]? = some (.cells #[x0, x1, x2, x3, x4] T)) :
  w.cell? ⟨g, 0, none⟩ = some x0 ∧ w.cell? ⟨g, 1, none⟩ = some x1 ∧ w.cell? ⟨g, 2, none⟩ = some x2 ∧ w.cell? ⟨g, 3, none⟩ = some x3 ∧ w.cell? ⟨g, 4, none⟩ = some x4 :=
 ⟨cell_of_row _ _ _ _ _ _ h, cell_of_row _ _ _ _ _ _ h, cell_of_row _ _ _ _ _ _ h, cell_of_row _ _ _ _ _ _ h, cell_of_row _ _ _ _ _ _ h⟩
theorem putL_54 {w : World} {g : Nat} {x0 x1 x2 x3 x4 y : Value} {T : TypeId} (h : w.heap[g]? = some (.cells #[x0, x1, x2, x3, x4] T)) : (qel w g 4 [y]).heap[g]? = some (.cells #[x0, x1, x2, x3, y] T) := by
 simp [qel, World.setCell, Array.getElem?_modify, h]
def Keep6 (w w2 : World) : Prop := ∀ (k : Nat) (cs : Array Value), w.heap[k]? = some (.cells cs 27) → cs.size = 6 → w2.heap[k]? = w.heap[k]?
theorem keep6_trans {a b c : World} (h : Keep6 a b) (k : Keep6 b c) : Keep6 a c := fun i cs hi hs => by
 have := h i cs hi hs
 rw [← this]; exact k i cs (by rw [this]; exact hi) hs
theorem qbu {a b : World} (h : Below a.heap.size a b) : Keep6 a b := fun i _ hi _ => h.block i (Array.getElem?_eq_some_iff.1 hi).1
theorem keep6_gb {a b : World} {g : Nat} {cs : Array Value} {T : TypeId} (h : a.grownBy b (some g)) (hg : a.heap[g]? = some (.cells cs T)) (hs : cs.size ≠ 6) : Keep6 a b := fun i cs' hi h6 => by
 refine h.block i (Array.getElem?_eq_some_iff.1 hi).1 (fun e => ?_)
 cases e
 rw [hg] at hi
 cases hi; exact hs h6
theorem qch {w w' : World} {p off : Nat} {l : List Value} {cs : Array Value} {T : TypeId} (hw : w' = qel w p off l) (hp : w.heap[p]? = some (.cells cs T)) (hs : cs.size ≠ 6) : Keep6 w w' := keep6_gb (qfz hw) hp hs
def TrG (w : World) (x : Value) (t : Tr) : Prop := ∀ w2, Keep6 w w2 → TrV w2 x t
theorem TrG.keep {w w' : World} {x : Value} {t : Tr} (h : TrG w x t) (k : Keep6 w w') : TrG w' x t := fun w2 h2 => h w2 (keep6_trans k h2)
theorem TrG.tr {w : World} {x : Value} {t : Tr} (h : TrG w x t) : TrV w x t := h w (fun _ _ _ _ => rfl)
def KGt (t : Tr) : Value → World → Prop := fun v w => TrG w v t
def KGr (t : Tr) : Value → World → Prop := fun v w => ∃ a, v = .tuple #[a, .nilIface] ∧ TrG w a t
theorem kGt_k {t : Tr} {v : Value} {w1 w2 : World} (h : KGt t v w1) (hg : Keep6 w1 w2) : KGt t v w2 := h.keep hg
theorem kGr_k {t : Tr} {v : Value} {w1 w2 : World} (h : KGr t v w1) (hg : Keep6 w1 w2) : KGr t v w2 := by
 obtain ⟨a, ha, ht⟩ := h
 exact ⟨a, ha, ht.keep hg⟩
theorem kGt (t : Tr) : MonoF (KGt t) := fun _ _ _ h hb => kGt_k h (qbu hb)
theorem kGr (t : Tr) : MonoF (KGr t) := fun _ _ _ h hb => kGr_k h (qbu hb)
theorem kNew_gb {B g : Nat} {cs : Array Value} {T : TypeId} {v : Value} {w1 w2 : World} (hB : g < B) (h : KNew B cs T v w1) (hg : w1.grownBy w2 (some g)) : KNew B cs T v w2 := by
 obtain ⟨k, h1, h2, h3⟩ := h
 exact ⟨k, h1, h2, qga hg h3 (by omega)⟩
theorem trG_leaf {w : World} {v : Nat} (hv : v ≤ 2) : TrG w (.agg #[.int .i64 0, .slice none 0 0, .int .i64 (v : Nat)]) (leafT v) := fun w2 _ => TrV.leaf w2 ⟨by omega, by omega⟩
theorem okC_lt24 {V y n : Nat} (h : okC V y n) (hV : V ≤ 24) : y < 16777216 ∧ n < 16777216 := by
 obtain ⟨h1, h2, _⟩ := okC_lt h
 have := pow_24 hV
 omega
theorem grT_leaf0 {f : Fm} {d y n fv : Nat} (hfv : qco f y n = fv) (h : fv ≠ 2 ∨ d = 0) : grT f d y n = leafT fv ∧ grN f d y n = 1 := by
 cases d with
 | zero => simp only [grT, grN]; rw [hfv]; exact ⟨rfl, trivial⟩
 | succ d =>
  have h2 : fv ≠ 2 := by rcases h with h | h <;> omega
  simp only [grT, grN]; rw [hfv, if_pos h2, if_pos h2]; exact ⟨rfl, rfl⟩
def RetGr (w : World) (g : Nat) (cs : Nat → Array Value) (T : TypeId) (t : Tr) (cnt : Nat) (e : Ending) (w' : World) : Prop :=
 ∃ v, e = .returned (.tuple #[v, .nilIface]) ∧ TrG w' v t ∧ w.grownBy w' (some g) ∧ w'.heap[g]? = some (.cells (cs cnt) T)

theorem grow_any (f : Fm) (hfm : qcc f = 0) (ao : Option Addr) (c most : Nat) (hmost : most ≤ 24) (w0 : World) (hf : FmV w0 (.agg #[.int .i64 f.vars, .slice ao f.nodes.length c, .int .i64 f.top]) f) : ∀ (d y n deep cnt g : Nat) (w : World), Below w0.heap.size w0 w → w0.heap.size ≤ g →
  w.heap[g]? = some (.cells #[.int .i64 f.vars, .slice ao f.nodes.length c, .int .i64 f.top, .int .i64 (most : Nat), .int .i64 (cnt : Nat)] 99) → deep + d = most → okC f.vars.toNat y n → cnt + grN f d y n ≤ 4096 →
  Calls Tryz.prog 44 #[.pointer (some ⟨g, 0, none⟩), .agg #[.int .i64 (y : Nat), .int .i64 (n : Nat)], .int .i64 (deep : Nat)] w
   (RetGr w g (fun k => #[.int .i64 f.vars, .slice ao f.nodes.length c, .int .i64 f.top, .int .i64 (most : Nat), .int .i64 (k : Nat)]) 99 (grT f d y n) (cnt + grN f d y n)) := by
 obtain ⟨p0, p1, _, p3⟩ := qbe hfm
 have hV : f.vars.toNat ≤ 24 := by omega
 have HF := qHd hf; have HFM := qHd hfm; have HND := qHd p3
 have HP01 := qHd (And.intro p0 p1)
 clear hf hfm p3 p0 p1
 intro d
 induction d with
 | zero =>
  intro y n deep cnt g w hb0 hg0 hg hdm hok hcn
  obtain ⟨hy24, hn24⟩ := okC_lt24 hok hV
  have HCU := qHd (okC_cube hok HP01.out.1 HP01.out.2)
  have HOK := qHd hok; clear hok
  have hgl := (Array.getElem?_eq_some_iff.1 hg).1
  have hc0 := grN_pos f
  obtain ⟨W, hW, hbW, hg4, hg6⟩ := qBx2 w (.cells #[.int .i64 (y : Nat), .int .i64 (n : Nat)] 46) (.cells #[.int .i64 0, .slice none 0 0, .int .i64 0] 27)
  obtain ⟨g4, hG4⟩ : ∃ g, g = w.heap.size := ⟨_, rfl⟩
  obtain ⟨g6, hG6⟩ : ∃ g, g = w.heap.size + 1 := ⟨_, rfl⟩
  rw [← hG4] at hg4; rw [← hG6] at hg6
  have ne4 : g4 ≠ g := by omega
  have ne6 : g6 ≠ g := by omega
  have lt6 : w.heap.size ≤ g6 := by omega
  have hgW := qaa hg hbW
  have GB0 := qHd (qev (r := some g) hbW)
  have HB0 := qHd (hb0.trans (hbW.mono hb0.size))
  obtain ⟨x0, x1, x2, x3, x4⟩ := row5 hgW
  rw [hW] at x0 x1 x2 x3 x4
  go_enter Tryz.func44, Tryz.ntmps44
  go_wp2_with (with_reducible refine qaf ?_)
  rw [← hW, ← hG6, ← hG4]
  clear hW hG4 hG6 x0 x1 x2 x3 x4
  refine qdc g 4 ((cnt : Int) + 1) hgW rfl rfl (by simp) (by kernel_rfl) ?_
  intro w2 hp2
  have G5 := qHd (show w2.heap[g]? = some (.cells #[.int .i64 f.vars, .slice ao f.nodes.length c, .int .i64 f.top, .int .i64 (most : Nat), .int .i64 ((cnt + 1 : Nat) : Int)] 99) by rw [hp2]; exact putL_54 hgW)
  have B4 := qHd (qbr hp2 hg4 ne4); have B6 := qHd (qbr hp2 hg6 ne6)
  have GB := qHd (qey GB0.out (qfz hp2)); have HB := qHd (qbl hp2 HB0.out hg0)
  clear hp2 hgW hg4 hg6 GB0 HB0 hbW hb0 hg
  obtain ⟨x0, x1, x2, x3, x4⟩ := row5 G5.out
  have hcz : ((cnt + 1 : Nat) : Int) ≤ 4096 := by have := hc0 0 y n; have := hc0 0 y n; omega
  obtain ⟨fv, hfv⟩ : ∃ fv, qco f y n = fv := ⟨_, rfl⟩
  have hfv2 : fv ≤ 2 := by rw [← hfv]; exact fmVal_le HND.out y n
  have FVV := qHd hfv
  go_wp2_with (with_reducible first | refine qad ?_ | refine qai ?_ | refine qaj ?_ | refine qak ?_ | refine qag ?_)
  clear x0 x1 x2 x3 x4
  refine qap.mk ?_
  refine qao (A := ?aa4z) (w := w2) 9 [8] (by kernel_rfl) (Fl [KEq (.pointer (some ⟨g, 0, none⟩)), KEq (.pointer (some ⟨g, 0, none⟩)), KEq (.pointer (some ⟨g, 0, none⟩)), KEq (.agg #[.int .i64 f.vars, .slice ao f.nodes.length c, .int .i64 f.top]), KEq (.agg #[.int .i64 (y : Nat), .int .i64 (n : Nat)]), KEq (.tuple #[.int .i64 (fv : Nat), .nilIface]), KEq ((.tuple #[.int .i64 (fv : Nat), .nilIface])), KEq (.int .i64 (fv : Nat)), KEq (.nilIface)]) (fun i => false) (by kernel_rfl) ?hq4z (qcw (qae (kEq _) (qae (kEq _) (qae (kEq _) (qae (kEq _) (qae (kEq _) (qae (kEq _) (qae (kEq _) (qae (kEq _) (qae (kEq _) qcv)))))))))) ?ha4z ?st4z ?tl4z
  case hq4z =>
   intro c a d v w h
   first | (simp only [Exit.then] at h ⊢; exact h) | (simp only [Exit.inBlock, Exit.then] at h ⊢; exact h) | exact h
  case ha4z =>
   intro vals
   simp only [qba, qcd, if_true, Act.put, List.setIfInBounds_toArray, List.set_cons_zero, List.set_cons_succ, List.getElem?_toArray, List.getElem?_cons_zero, List.getElem?_cons_succ, Option.bind_some]
   exact rfl
  case st4z =>
   simp only [List.take_succ_cons, List.take_zero]
   refine qab rfl rfl ?_ (qab rfl rfl ?_ (qab rfl rfl ?_ (qab rfl rfl ?_ (qab rfl rfl ?_ (qab rfl rfl ?_ (qab rfl rfl ?_ (qab rfl rfl ?_ (qct rfl ?_ (qav)))))))))
   ·intro vals w1 hb hd
    refine qSv (.pointer (some ⟨g, 0, none⟩)) (by go_simp) (qLk rfl rfl)
   ·intro vals w1 hb hd
    rw [show vals 0 = .pointer (some ⟨g, 0, none⟩) from hd 0 (by kernel_rfl)]
    refine qSv (.pointer (some ⟨g, 0, none⟩)) (by go_simp) (qLk rfl rfl)
   ·intro vals w1 hb hd
    rw [show vals 1 = .pointer (some ⟨g, 0, none⟩) from hd 1 (by kernel_rfl)]
    refine qSv (.pointer (some ⟨g, 0, none⟩)) (by go_simp) (qLk rfl rfl)
   ·intro vals w1 hb hd
    obtain ⟨e0, e1, e2, e3, e4⟩ := row5 (qaa G5.out hb)
    rw [show vals 2 = .pointer (some ⟨g, 0, none⟩) from hd 2 (by kernel_rfl)]
    refine qSv (.agg #[.int .i64 f.vars, .slice ao f.nodes.length c, .int .i64 f.top]) (by go_simp) (qLk rfl rfl)
   ·intro vals w1 hb hd
    obtain ⟨e0, e1⟩ := qcy (qaa B4.out hb)
    refine qSv (.agg #[.int .i64 (y : Nat), .int .i64 (n : Nat)]) (by go_simp) (qLk rfl rfl)
   ·intro vals w1 hb hd
    have d3 : KEq (.agg #[.int .i64 f.vars, .slice ao f.nodes.length c, .int .i64 f.top]) (vals 3) w1 := hd 3 (by kernel_rfl)
    have d4 : KEq (.agg #[.int .i64 (y : Nat), .int .i64 (n : Nat)]) (vals 4) w1 := hd 4 (by kernel_rfl)
    have HS := qHd (FVV.out ▸ tvalue_any _ f y n w1 (HF.out.below (HB.out.trans (hb.mono HB.out.size))) HFM.out HCU.out)
    have z3 : vals 3 = _ := d3
    rw [z3]; clear z3
    have z4 : vals 4 = _ := d4
    rw [z4]; clear z4
    refine qat (by go_simp; first | done | exact ⟨⟨rfl, rfl⟩, rfl⟩) ?_
    (with_reducible refine HS.out.mono ?_); rintro e w2 ⟨rfl, hb2⟩
    exact ⟨_, rfl, qar hb2 rfl (fun h => by cases h)⟩
   ·intro vals w1 hb hd
    rw [show vals 5 = .tuple #[.int .i64 (fv : Nat), .nilIface] from hd 5 (by kernel_rfl)]
    refine qSv ((.tuple #[.int .i64 (fv : Nat), .nilIface])) (by go_simp) (qLk rfl rfl)
   ·intro vals w1 hb hd
    rw [show vals 6 = (.tuple #[.int .i64 (fv : Nat), .nilIface]) from hd 6 (by kernel_rfl)]
    refine qSv (.int .i64 (fv : Nat)) (by go_simp) (qLk rfl rfl)
   ·intro vals w1 hb hd
    rw [show vals 6 = (.tuple #[.int .i64 (fv : Nat), .nilIface]) from hd 6 (by kernel_rfl)]
    refine qbv (v := .nilIface) (fun w => by go_simp) (qLk rfl rfl)
  case tl4z =>
   intro vals w3 hb3 hf hdis
   simp only [List.drop_succ_cons, List.drop_zero]
   have z7 : vals 7 = _ := hf 7 (by decide)
   have z8 : vals 8 = _ := hf 8 (by decide)
   rw [z7, z8]
   clear z7 z8 hf hdis
   have G5 := qHd (qaa G5.out hb3); have B4 := qHd (qaa B4.out hb3); have B6 := qHd (qaa B6.out hb3)
   have GB := qHd (qed GB.out hb3); have HB := qHd (HB.out.trans (hb3.mono HB.out.size))
   clear hb3
   obtain ⟨x0, x1, x2, x3, x4⟩ := row5 G5.out
   have GL := qHd (grT_leaf0 (d := 0) hfv (.inr rfl))
   by_cases h2 : fv = 2
   ·subst h2
    have hdd : (deep : Int) = (most : Int) := by omega
    go_wp2_with (with_reducible refine qaf ?_)
    refine qan g6 0 [.int .i64 0, .slice none 0 0, .int .i64 2] B6.out rfl rfl (Nat.le_of_ble_eq_true rfl) (by kernel_rfl) rfl ?_
    intro wz hpz
    have GZ := qHd (show wz.heap[g6]? = some (.cells #[.int .i64 0, .slice none 0 0, .int .i64 2] 27) by rw [hpz]; exact qbd B6.out)
    have G5 := qHd (qbr hpz G5.out (Ne.symm ne6)); have GBz := qHd (gb_row GB.out (qfz hpz) (fun k hk _ => fun e => by cases e; omega))
    clear hpz
    go_wp2_with (with_reducible first | refine qad ?_ | refine qai ?_ | refine qaj ?_ | refine qak ?_ | refine qag ?_)
    refine qcl rfl g6 #[.int .i64 0, .slice none 0 0, .int .i64 2] rfl GZ.out Tryz.underlying27 rfl (by kernel_rfl) rfl ?_
    rw [(GL.out).1, (GL.out).2]
    exact ⟨_, rfl, trG_leaf (v := 2) (by decide), GBz.out, G5.out⟩
   ·have h2b : (((fv : Nat) : Int) != 2) = true := bne_iff_ne.2 (by omega)
    go_wp2_with (with_reducible refine qaf ?_)
    refine qan g6 0 [.int .i64 0, .slice none 0 0, .int .i64 (fv : Nat)] B6.out rfl rfl (Nat.le_of_ble_eq_true rfl) (by kernel_rfl) rfl ?_
    intro wz hpz
    have GZ := qHd (show wz.heap[g6]? = some (.cells #[.int .i64 0, .slice none 0 0, .int .i64 (fv : Nat)] 27) by rw [hpz]; exact qbd B6.out)
    have G5 := qHd (qbr hpz G5.out (Ne.symm ne6)); have GBz := qHd (gb_row GB.out (qfz hpz) (fun k hk _ => fun e => by cases e; omega))
    clear hpz
    go_wp2_with (with_reducible first | refine qad ?_ | refine qai ?_ | refine qaj ?_ | refine qak ?_ | refine qag ?_)
    refine qcl rfl g6 #[.int .i64 0, .slice none 0 0, .int .i64 (fv : Nat)] rfl GZ.out Tryz.underlying27 rfl (by kernel_rfl) rfl ?_
    rw [(GL.out).1, (GL.out).2]
    exact ⟨_, rfl, trG_leaf hfv2, GBz.out, G5.out⟩
 | succ d ih =>
  intro y n deep cnt g w hb0 hg0 hg hdm hok hcn
  obtain ⟨hy24, hn24⟩ := okC_lt24 hok hV
  have HCU := qHd (okC_cube hok HP01.out.1 HP01.out.2)
  have HOK := qHd hok; clear hok
  have hgl := (Array.getElem?_eq_some_iff.1 hg).1
  have hc0 := grN_pos f
  obtain ⟨W, hW, hbW, hg4, hg6⟩ := qBx2 w (.cells #[.int .i64 (y : Nat), .int .i64 (n : Nat)] 46) (.cells #[.int .i64 0, .slice none 0 0, .int .i64 0] 27)
  obtain ⟨g4, hG4⟩ : ∃ g, g = w.heap.size := ⟨_, rfl⟩
  obtain ⟨g6, hG6⟩ : ∃ g, g = w.heap.size + 1 := ⟨_, rfl⟩
  rw [← hG4] at hg4; rw [← hG6] at hg6
  have ne4 : g4 ≠ g := by omega
  have ne6 : g6 ≠ g := by omega
  have lt6 : w.heap.size ≤ g6 := by omega
  have hgW := qaa hg hbW
  have GB0 := qHd (qev (r := some g) hbW)
  have HB0 := qHd (hb0.trans (hbW.mono hb0.size))
  obtain ⟨x0, x1, x2, x3, x4⟩ := row5 hgW
  rw [hW] at x0 x1 x2 x3 x4
  go_enter Tryz.func44, Tryz.ntmps44
  go_wp2_with (with_reducible refine qaf ?_)
  rw [← hW, ← hG6, ← hG4]
  clear hW hG4 hG6 x0 x1 x2 x3 x4
  refine qdc g 4 ((cnt : Int) + 1) hgW rfl rfl (by simp) (by kernel_rfl) ?_
  intro w2 hp2
  have G5 := qHd (show w2.heap[g]? = some (.cells #[.int .i64 f.vars, .slice ao f.nodes.length c, .int .i64 f.top, .int .i64 (most : Nat), .int .i64 ((cnt + 1 : Nat) : Int)] 99) by rw [hp2]; exact putL_54 hgW)
  have B4 := qHd (qbr hp2 hg4 ne4); have B6 := qHd (qbr hp2 hg6 ne6)
  have GB := qHd (qey GB0.out (qfz hp2)); have HB := qHd (qbl hp2 HB0.out hg0)
  clear hp2 hgW hg4 hg6 GB0 HB0 hbW hb0 hg
  obtain ⟨x0, x1, x2, x3, x4⟩ := row5 G5.out
  have hcz : ((cnt + 1 : Nat) : Int) ≤ 4096 := by have := hc0 0 y n; have := hc0 (d + 1) y n; omega
  obtain ⟨fv, hfv⟩ : ∃ fv, qco f y n = fv := ⟨_, rfl⟩
  have hfv2 : fv ≤ 2 := by rw [← hfv]; exact fmVal_le HND.out y n
  have FVV := qHd hfv
  go_wp2_with (with_reducible first | refine qad ?_ | refine qai ?_ | refine qaj ?_ | refine qak ?_ | refine qag ?_)
  clear x0 x1 x2 x3 x4
  refine qap.mk ?_
  refine qao (A := ?aa4s) (w := w2) 9 [8] (by kernel_rfl) (Fl [KEq (.pointer (some ⟨g, 0, none⟩)), KEq (.pointer (some ⟨g, 0, none⟩)), KEq (.pointer (some ⟨g, 0, none⟩)), KEq (.agg #[.int .i64 f.vars, .slice ao f.nodes.length c, .int .i64 f.top]), KEq (.agg #[.int .i64 (y : Nat), .int .i64 (n : Nat)]), KEq (.tuple #[.int .i64 (fv : Nat), .nilIface]), KEq ((.tuple #[.int .i64 (fv : Nat), .nilIface])), KEq (.int .i64 (fv : Nat)), KEq (.nilIface)]) (fun i => false) (by kernel_rfl) ?hq4s (qcw (qae (kEq _) (qae (kEq _) (qae (kEq _) (qae (kEq _) (qae (kEq _) (qae (kEq _) (qae (kEq _) (qae (kEq _) (qae (kEq _) qcv)))))))))) ?ha4s ?st4s ?tl4s
  case hq4s =>
   intro c a d v w h
   first | (simp only [Exit.then] at h ⊢; exact h) | (simp only [Exit.inBlock, Exit.then] at h ⊢; exact h) | exact h
  case ha4s =>
   intro vals
   simp only [qba, qcd, if_true, Act.put, List.setIfInBounds_toArray, List.set_cons_zero, List.set_cons_succ, List.getElem?_toArray, List.getElem?_cons_zero, List.getElem?_cons_succ, Option.bind_some]
   exact rfl
  case st4s =>
   simp only [List.take_succ_cons, List.take_zero]
   refine qab rfl rfl ?_ (qab rfl rfl ?_ (qab rfl rfl ?_ (qab rfl rfl ?_ (qab rfl rfl ?_ (qab rfl rfl ?_ (qab rfl rfl ?_ (qab rfl rfl ?_ (qct rfl ?_ (qav)))))))))
   ·intro vals w1 hb hd
    refine qSv (.pointer (some ⟨g, 0, none⟩)) (by go_simp) (qLk rfl rfl)
   ·intro vals w1 hb hd
    rw [show vals 0 = .pointer (some ⟨g, 0, none⟩) from hd 0 (by kernel_rfl)]
    refine qSv (.pointer (some ⟨g, 0, none⟩)) (by go_simp) (qLk rfl rfl)
   ·intro vals w1 hb hd
    rw [show vals 1 = .pointer (some ⟨g, 0, none⟩) from hd 1 (by kernel_rfl)]
    refine qSv (.pointer (some ⟨g, 0, none⟩)) (by go_simp) (qLk rfl rfl)
   ·intro vals w1 hb hd
    obtain ⟨e0, e1, e2, e3, e4⟩ := row5 (qaa G5.out hb)
    rw [show vals 2 = .pointer (some ⟨g, 0, none⟩) from hd 2 (by kernel_rfl)]
    refine qSv (.agg #[.int .i64 f.vars, .slice ao f.nodes.length c, .int .i64 f.top]) (by go_simp) (qLk rfl rfl)
   ·intro vals w1 hb hd
    obtain ⟨e0, e1⟩ := qcy (qaa B4.out hb)
    refine qSv (.agg #[.int .i64 (y : Nat), .int .i64 (n : Nat)]) (by go_simp) (qLk rfl rfl)
   ·intro vals w1 hb hd
    have d3 : KEq (.agg #[.int .i64 f.vars, .slice ao f.nodes.length c, .int .i64 f.top]) (vals 3) w1 := hd 3 (by kernel_rfl)
    have d4 : KEq (.agg #[.int .i64 (y : Nat), .int .i64 (n : Nat)]) (vals 4) w1 := hd 4 (by kernel_rfl)
    have HS := qHd (FVV.out ▸ tvalue_any _ f y n w1 (HF.out.below (HB.out.trans (hb.mono HB.out.size))) HFM.out HCU.out)
    have z3 : vals 3 = _ := d3
    rw [z3]; clear z3
    have z4 : vals 4 = _ := d4
    rw [z4]; clear z4
    refine qat (by go_simp; first | done | exact ⟨⟨rfl, rfl⟩, rfl⟩) ?_
    (with_reducible refine HS.out.mono ?_); rintro e w2 ⟨rfl, hb2⟩
    exact ⟨_, rfl, qar hb2 rfl (fun h => by cases h)⟩
   ·intro vals w1 hb hd
    rw [show vals 5 = .tuple #[.int .i64 (fv : Nat), .nilIface] from hd 5 (by kernel_rfl)]
    refine qSv ((.tuple #[.int .i64 (fv : Nat), .nilIface])) (by go_simp) (qLk rfl rfl)
   ·intro vals w1 hb hd
    rw [show vals 6 = (.tuple #[.int .i64 (fv : Nat), .nilIface]) from hd 6 (by kernel_rfl)]
    refine qSv (.int .i64 (fv : Nat)) (by go_simp) (qLk rfl rfl)
   ·intro vals w1 hb hd
    rw [show vals 6 = (.tuple #[.int .i64 (fv : Nat), .nilIface]) from hd 6 (by kernel_rfl)]
    refine qbv (v := .nilIface) (fun w => by go_simp) (qLk rfl rfl)
  case tl4s =>
   intro vals w3 hb3 hf hdis
   simp only [List.drop_succ_cons, List.drop_zero]
   have z7 : vals 7 = _ := hf 7 (by decide)
   have z8 : vals 8 = _ := hf 8 (by decide)
   rw [z7, z8]
   clear z7 z8 hf hdis
   have G5 := qHd (qaa G5.out hb3); have B4 := qHd (qaa B4.out hb3); have B6 := qHd (qaa B6.out hb3)
   have GB := qHd (qed GB.out hb3); have HB := qHd (HB.out.trans (hb3.mono HB.out.size))
   clear hb3
   obtain ⟨x0, x1, x2, x3, x4⟩ := row5 G5.out
   by_cases h2 : fv ≠ 2
   ·have GL := qHd (grT_leaf0 (d := d + 1) hfv (.inl h2))
    have h2b : (((fv : Nat) : Int) != 2) = true := bne_iff_ne.2 (by omega)
    go_wp2_with (with_reducible refine qaf ?_)
    refine qan g6 0 [.int .i64 0, .slice none 0 0, .int .i64 (fv : Nat)] B6.out rfl rfl (Nat.le_of_ble_eq_true rfl) (by kernel_rfl) rfl ?_
    intro wz hpz
    have GZ := qHd (show wz.heap[g6]? = some (.cells #[.int .i64 0, .slice none 0 0, .int .i64 (fv : Nat)] 27) by rw [hpz]; exact qbd B6.out)
    have G5 := qHd (qbr hpz G5.out (Ne.symm ne6)); have GBz := qHd (gb_row GB.out (qfz hpz) (fun k hk _ => fun e => by cases e; omega))
    clear hpz
    go_wp2_with (with_reducible first | refine qad ?_ | refine qai ?_ | refine qaj ?_ | refine qak ?_ | refine qag ?_)
    refine qcl rfl g6 #[.int .i64 0, .slice none 0 0, .int .i64 (fv : Nat)] rfl GZ.out Tryz.underlying27 rfl (by kernel_rfl) rfl ?_
    rw [(GL.out).1, (GL.out).2]
    exact ⟨_, rfl, trG_leaf hfv2, GBz.out, G5.out⟩
   have hfv' : fv = 2 := by omega
   subst hfv'
   have H2 := FVV
   obtain ⟨k1, k2⟩ := fmNext_ok HFM.out H2.out
   obtain ⟨k3, k4⟩ := ev3_open k2
   have hdn : ¬ (deep : Int) = (most : Int) := by omega
   go_wp2_with (with_reducible first | refine qad ?_ | refine qai ?_ | refine qaj ?_ | refine qak ?_ | refine qag ?_)
   clear x0 x1 x2 x3 x4 hdn
   refine qap.mk ?_
   refine qao (A := ?aa7) (w := w3) 9 [8] (by kernel_rfl) (Fl [KEq (.pointer (some ⟨g, 0, none⟩)), KEq (.pointer (some ⟨g, 0, none⟩)), KEq (.pointer (some ⟨g, 0, none⟩)), KEq (.agg #[.int .i64 f.vars, .slice ao f.nodes.length c, .int .i64 f.top]), KEq (.agg #[.int .i64 (y : Nat), .int .i64 (n : Nat)]), KEq (.tuple #[.int .i64 (qcp f y n : Nat), .nilIface]), KEq ((.tuple #[.int .i64 (qcp f y n : Nat), .nilIface])), KEq (.int .i64 (qcp f y n : Nat)), KEq (.nilIface)]) (fun i => false) (by kernel_rfl) ?hq7 (qcw (qae (kEq _) (qae (kEq _) (qae (kEq _) (qae (kEq _) (qae (kEq _) (qae (kEq _) (qae (kEq _) (qae (kEq _) (qae (kEq _) qcv)))))))))) ?ha7 ?st7 ?tl7
   case hq7 =>
    intro c a d v w h
    first | (simp only [Exit.then] at h ⊢; exact h) | (simp only [Exit.inBlock, Exit.then] at h ⊢; exact h) | exact h
   case ha7 =>
    intro vals
    simp only [qba, qcd, if_true, Act.put, List.setIfInBounds_toArray, List.set_cons_zero, List.set_cons_succ, List.getElem?_toArray, List.getElem?_cons_zero, List.getElem?_cons_succ, Option.bind_some]
    exact rfl
   case st7 =>
    simp only [List.take_succ_cons, List.take_zero]
    refine qab rfl rfl ?_ (qab rfl rfl ?_ (qab rfl rfl ?_ (qab rfl rfl ?_ (qab rfl rfl ?_ (qab rfl rfl ?_ (qab rfl rfl ?_ (qab rfl rfl ?_ (qct rfl ?_ (qav)))))))))
    ·intro vals w1 hb hd
     refine qSv (.pointer (some ⟨g, 0, none⟩)) (by go_simp) (qLk rfl rfl)
    ·intro vals w1 hb hd
     rw [show vals 0 = .pointer (some ⟨g, 0, none⟩) from hd 0 (by kernel_rfl)]
     refine qSv (.pointer (some ⟨g, 0, none⟩)) (by go_simp) (qLk rfl rfl)
    ·intro vals w1 hb hd
     rw [show vals 1 = .pointer (some ⟨g, 0, none⟩) from hd 1 (by kernel_rfl)]
     refine qSv (.pointer (some ⟨g, 0, none⟩)) (by go_simp) (qLk rfl rfl)
    ·intro vals w1 hb hd
     obtain ⟨e0, e1, e2, e3, e4⟩ := row5 (qaa G5.out hb)
     rw [show vals 2 = .pointer (some ⟨g, 0, none⟩) from hd 2 (by kernel_rfl)]
     refine qSv (.agg #[.int .i64 f.vars, .slice ao f.nodes.length c, .int .i64 f.top]) (by go_simp) (qLk rfl rfl)
    ·intro vals w1 hb hd
     obtain ⟨e0, e1⟩ := qcy (qaa B4.out hb)
     refine qSv (.agg #[.int .i64 (y : Nat), .int .i64 (n : Nat)]) (by go_simp) (qLk rfl rfl)
    ·intro vals w1 hb hd
     have d3 : KEq (.agg #[.int .i64 f.vars, .slice ao f.nodes.length c, .int .i64 f.top]) (vals 3) w1 := hd 3 (by kernel_rfl)
     have d4 : KEq (.agg #[.int .i64 (y : Nat), .int .i64 (n : Nat)]) (vals 4) w1 := hd 4 (by kernel_rfl)
     have HS := qHd (tnext_any _ f y n w1 (HF.out.below (HB.out.trans (hb.mono HB.out.size))) HFM.out HCU.out H2.out)
     have z3 : vals 3 = _ := d3
     rw [z3]; clear z3
     have z4 : vals 4 = _ := d4
     rw [z4]; clear z4
     refine qat (by go_simp; first | done | exact ⟨⟨rfl, rfl⟩, rfl⟩) ?_
     (with_reducible refine HS.out.mono ?_); rintro e w2 ⟨rfl, hb2⟩
     exact ⟨_, rfl, qar hb2 rfl (fun h => by cases h)⟩
    ·intro vals w1 hb hd
     rw [show vals 5 = .tuple #[.int .i64 (qcp f y n : Nat), .nilIface] from hd 5 (by kernel_rfl)]
     refine qSv ((.tuple #[.int .i64 (qcp f y n : Nat), .nilIface])) (by go_simp) (qLk rfl rfl)
    ·intro vals w1 hb hd
     rw [show vals 6 = (.tuple #[.int .i64 (qcp f y n : Nat), .nilIface]) from hd 6 (by kernel_rfl)]
     refine qSv (.int .i64 (qcp f y n : Nat)) (by go_simp) (qLk rfl rfl)
    ·intro vals w1 hb hd
     rw [show vals 6 = (.tuple #[.int .i64 (qcp f y n : Nat), .nilIface]) from hd 6 (by kernel_rfl)]
     refine qbv (v := .nilIface) (fun w => by go_simp) (qLk rfl rfl)
   case tl7 =>
    intro vals w4 hb4 hf hdis
    simp only [List.drop_succ_cons, List.drop_zero]
    have z7 : vals 7 = _ := hf 7 (by decide)
    have z8 : vals 8 = _ := hf 8 (by decide)
    rw [z7, z8]
    clear z7 z8 hf hdis
    have G5 := qHd (qaa G5.out hb4); have B4 := qHd (qaa B4.out hb4); have B6 := qHd (qaa B6.out hb4)
    have GB := qHd (qed GB.out hb4); have HB := qHd (HB.out.trans (hb4.mono HB.out.size))
    clear hb4
    obtain ⟨at_, hat⟩ : ∃ a, a = qcp f y n := ⟨_, rfl⟩
    rw [← hat] at k1 k3 k4 ⊢
    obtain ⟨P2, hP2⟩ : ∃ P : Nat, P = 2 ^ at_ := ⟨_, rfl⟩
    have hp24 : P2 < 16777216 := by rw [hP2]; exact pow_l24 (by omega)
    have DP := qHd (show IntKind.wrap .i64 (2 ^ at_) = (P2 : Int) by rw [shl_one (by omega), hP2])
    obtain ⟨nb, hnb⟩ : ∃ nb, nb = n ||| 1 <<< at_ := ⟨_, rfl⟩
    obtain ⟨yb, hyb⟩ : ∃ yb, yb = y ||| 1 <<< at_ := ⟨_, rfl⟩
    have hnb3 : nb = n ||| P2 := by rw [hnb, hP2, Nat.one_shiftLeft]
    have hyb3 : yb = y ||| P2 := by rw [hyb, hP2, Nat.one_shiftLeft]
    have DN := qHd (show bits .or .i64 (n : Int) (P2 : Int) = (nb : Int) by rw [bits_or (by omega) (by omega), hnb3])
    have DY := qHd (show bits .or .i64 (y : Int) (P2 : Int) = (yb : Int) by rw [bits_or (by omega) (by omega), hyb3])
    have OKA := qHd (show okC f.vars.toNat y nb by rw [hnb]; exact okC_no HOK.out k1 k3)
    have OKB := qHd (show okC f.vars.toNat yb n by rw [hyb]; exact okC_yes HOK.out k1 k4)
    have GT := qHd (show grT f (d + 1) y n = .mk (at_ : Nat) [grT f d y nb, grT f d yb n] 0 ∧ grN f (d + 1) y n = 1 + grN f d y nb + grN f d yb n by
     simp only [grT, grN]
     rw [if_neg (by rw [H2.out]; decide), if_neg (by rw [H2.out]; decide), ← hat, ← hnb, ← hyb]; exact ⟨rfl, rfl⟩)
    rw [GT.out.2] at hcn
    clear hP2 hnb hyb hnb3 hyb3 k3 k4 hat k2
    obtain ⟨dp, hdp⟩ : ∃ x, x = deep + 1 := ⟨_, rfl⟩
    have HDP := qHd (show IntKind.wrap .i64 ((deep : Int) + 1) = (dp : Int) by rw [wrap_small ⟨by omega, by omega⟩]; omega)
    have hdd : dp + d = most := by omega
    clear hdp
    obtain ⟨cnA, hcA⟩ : ∃ x, x = cnt + 1 + grN f d y nb := ⟨_, rfl⟩
    obtain ⟨cnB, hcB⟩ : ∃ x, x = cnA + grN f d yb n := ⟨_, rfl⟩
    have IHA := qHd (fun w1 (hbl : Below w4.heap.size w4 w1) => hcA ▸ ih y nb dp (cnt + 1) g w1 (HB.out.trans (hbl.mono HB.out.size)) hg0 (qaa G5.out hbl) (by omega) OKA.out (by omega))
    have hbg := qaw G5.out
    obtain ⟨B0, hB0e⟩ : ∃ B, B = w4.heap.size := ⟨_, rfl⟩
    have hB0 : B0 ≤ w4.heap.size := by omega
    have hBg : g < B0 := by omega
    have hg4l := qaw B4.out; have hg6l := qaw B6.out
    go_wp2_with (with_reducible first | refine qad ?_ | refine qai ?_ | refine qaj ?_ | refine qak ?_ | refine qag ?_)
    refine qap.mk ?_
    have hM : ∀ j v w1 w2, Fl [KEq (.pointer (some ⟨g, 0, none⟩)), KEq (.pointer (some ⟨g4, 0, none⟩)), KEq (.int .i64 (y : Nat)), KEq (.pointer (some ⟨g4, 1, none⟩)), KEq (.int .i64 (n : Nat)), KEq (.int .i64 (at_ : Nat)), KEq (.int .i64 (P2 : Nat)), KEq (.int .i64 (nb : Nat)), KEq (.agg #[.int .i64 (y : Nat), .int .i64 (nb : Nat)]), KEq (.int .i64 (deep : Nat)), KEq (.int .i64 (dp : Nat)), KGr (grT f d y nb), KGr (grT f d y nb), KGt (grT f d y nb), KEq .nilIface, KNew B0 #[.int .i64 0, .slice none 0 0, .int .i64 0] 27] j v w1 → Below w1.heap.size w1 w2 → Fl [KEq (.pointer (some ⟨g, 0, none⟩)), KEq (.pointer (some ⟨g4, 0, none⟩)), KEq (.int .i64 (y : Nat)), KEq (.pointer (some ⟨g4, 1, none⟩)), KEq (.int .i64 (n : Nat)), KEq (.int .i64 (at_ : Nat)), KEq (.int .i64 (P2 : Nat)), KEq (.int .i64 (nb : Nat)), KEq (.agg #[.int .i64 (y : Nat), .int .i64 (nb : Nat)]), KEq (.int .i64 (deep : Nat)), KEq (.int .i64 (dp : Nat)), KGr (grT f d y nb), KGr (grT f d y nb), KGt (grT f d y nb), KEq .nilIface, KNew B0 #[.int .i64 0, .slice none 0 0, .int .i64 0] 27] j v w2 := qcw (qae (kEq _) (qae (kEq _) (qae (kEq _) (qae (kEq _) (qae (kEq _) (qae (kEq _) (qae (kEq _) (qae (kEq _) (qae (kEq _) (qae (kEq _) (qae (kEq _) (qae (kGr _) (qae (kGr _) (qae (kGt _) (qae (kEq _) (qae (kNew _ _ _) qcv))))))))))))))))
    have HM := hM
    obtain ⟨AcA, hAc⟩ : ∃ A : Bool → World → Prop, A = fun b w1 => if b then w4.grownBy w1 (some g) ∧ w1.heap[g]? = some (.cells #[.int .i64 f.vars, .slice ao f.nodes.length c, .int .i64 f.top, .int .i64 (most : Nat), .int .i64 (cnA : Nat)] 99) else Below w4.heap.size w4 w1 := ⟨_, rfl⟩
    have HAC : ∀ b w1, AcA b w1 → w4.grownBy w1 (some g) := fun b w1 h => by
     rw [hAc] at h; cases b with
     | true => exact h.1
     | false => exact qev h
    have HAF : ∀ w1, AcA false w1 → Below w4.heap.size w4 w1 := fun w1 h => by rw [hAc] at h; exact h
    have HAM : ∀ b w1 w2, AcA b w1 → Below w1.heap.size w1 w2 → AcA b w2 := fun b w1 w2 h hb => by
     rw [hAc] at h ⊢; cases b with
     | true => exact ⟨qed h.1 hb, qaa h.2 hb⟩
     | false => exact h.trans (hb.mono h.size)
    have HB0s : ∀ b w1, AcA b w1 → B0 ≤ w1.heap.size := fun b w1 h => Nat.le_trans hB0 (HAC b w1 h).size
    have survA : ∀ j u w1 w2, j ≠ 11 → Fl [KEq (.pointer (some ⟨g, 0, none⟩)), KEq (.pointer (some ⟨g4, 0, none⟩)), KEq (.int .i64 (y : Nat)), KEq (.pointer (some ⟨g4, 1, none⟩)), KEq (.int .i64 (n : Nat)), KEq (.int .i64 (at_ : Nat)), KEq (.int .i64 (P2 : Nat)), KEq (.int .i64 (nb : Nat)), KEq (.agg #[.int .i64 (y : Nat), .int .i64 (nb : Nat)]), KEq (.int .i64 (deep : Nat)), KEq (.int .i64 (dp : Nat)), KGr (grT f d y nb), KGr (grT f d y nb), KGt (grT f d y nb), KEq .nilIface, KNew B0 #[.int .i64 0, .slice none 0 0, .int .i64 0] 27] j u w1 → w1.grownBy w2 (some g) → w1.heap[g]? = some (.cells #[.int .i64 f.vars, .slice ao f.nodes.length c, .int .i64 f.top, .int .i64 (most : Nat), .int .i64 ((cnt + 1 : Nat) : Int)] 99) → Fl [KEq (.pointer (some ⟨g, 0, none⟩)), KEq (.pointer (some ⟨g4, 0, none⟩)), KEq (.int .i64 (y : Nat)), KEq (.pointer (some ⟨g4, 1, none⟩)), KEq (.int .i64 (n : Nat)), KEq (.int .i64 (at_ : Nat)), KEq (.int .i64 (P2 : Nat)), KEq (.int .i64 (nb : Nat)), KEq (.agg #[.int .i64 (y : Nat), .int .i64 (nb : Nat)]), KEq (.int .i64 (deep : Nat)), KEq (.int .i64 (dp : Nat)), KGr (grT f d y nb), KGr (grT f d y nb), KGt (grT f d y nb), KEq .nilIface, KNew B0 #[.int .i64 0, .slice none 0 0, .int .i64 0] 27] j u w2 := fun j u w1 w2 hj h hg hg1 => by
     match j, hj with
     | 0, _ => exact h
     | 1, _ => exact h
     | 2, _ => exact h
     | 3, _ => exact h
     | 4, _ => exact h
     | 5, _ => exact h
     | 6, _ => exact h
     | 7, _ => exact h
     | 8, _ => exact h
     | 9, _ => exact h
     | 10, _ => exact h
     | 12, _ => exact kGr_k h (keep6_gb hg hg1 (by simp))
     | 13, _ => exact kGt_k h (keep6_gb hg hg1 (by simp))
     | 14, _ => exact h
     | 15, _ => exact kNew_gb hBg h hg
     | j + 16, _ => trivial
     | 11, hj => exact absurd rfl hj
    refine wp_region_factsG (A := ?aa10) (w := w4) 16 [14] (by kernel_rfl) (Fl [KEq (.pointer (some ⟨g, 0, none⟩)), KEq (.pointer (some ⟨g4, 0, none⟩)), KEq (.int .i64 (y : Nat)), KEq (.pointer (some ⟨g4, 1, none⟩)), KEq (.int .i64 (n : Nat)), KEq (.int .i64 (at_ : Nat)), KEq (.int .i64 (P2 : Nat)), KEq (.int .i64 (nb : Nat)), KEq (.agg #[.int .i64 (y : Nat), .int .i64 (nb : Nat)]), KEq (.int .i64 (deep : Nat)), KEq (.int .i64 (dp : Nat)), KGr (grT f d y nb), KGr (grT f d y nb), KGt (grT f d y nb), KEq .nilIface, KNew B0 #[.int .i64 0, .slice none 0 0, .int .i64 0] 27]) (fun i => i == 15) (AcA) 11 (by decide) ?h010 (by kernel_rfl) ?hq10 ?ha10 ?st10 ?tl10
    case h010 => rw [hAc]; exact (Below.refl _ _).drew
    case hq10 =>
     intro c a d v w h
     first | (simp only [Exit.then] at h ⊢; exact h) | (simp only [Exit.inBlock, Exit.then] at h ⊢; exact h) | exact h
    case ha10 =>
     intro vals
     simp only [qba, qcd, if_true, Act.put, List.setIfInBounds_toArray, List.set_cons_zero, List.set_cons_succ, List.getElem?_toArray, List.getElem?_cons_zero, List.getElem?_cons_succ, Option.bind_some]
     exact rfl
    case st10 =>
     simp only [List.take_succ_cons, List.take_zero]
     refine qbb rfl rfl ?_ (qbb rfl rfl ?_ (qbb rfl rfl ?_ (qbb rfl rfl ?_ (qbb rfl rfl ?_ (qbb rfl rfl ?_ (qbb rfl rfl ?_ (qbb rfl rfl ?_ (qbb rfl rfl ?_ (qbb rfl rfl ?_ (qbb rfl rfl ?_ (qbb rfl rfl ?_ (qbb rfl rfl ?_ (qbb rfl rfl ?_ (stepsOKG_pure rfl ?_ (qbb rfl rfl ?_ (stepsOKG_nil))))))))))))))))
     ·intro vals w1 b hsp hac hd
      refine qaq (v := .pointer (some ⟨g, 0, none⟩)) (w' := w1) (by go_simp) (qLg HM HAM (by decide) hac rfl rfl)
     ·intro vals w1 b hsp hac hd
      refine qaq (v := .pointer (some ⟨g4, 0, none⟩)) (w' := w1) (by go_simp) (qLg HM HAM (by decide) hac rfl rfl)
     ·intro vals w1 b hsp hac hd
      obtain ⟨e0, e1⟩ := qcy (qga (HAC b w1 hac) B4.out ne4)
      rw [show vals 1 = .pointer (some ⟨g4, 0, none⟩) from hd 1 (by kernel_rfl)]
      refine qaq (v := .int .i64 (y : Nat)) (w' := w1) (by go_simp) (qLg HM HAM (by decide) hac rfl rfl)
     ·intro vals w1 b hsp hac hd
      refine qaq (v := .pointer (some ⟨g4, 1, none⟩)) (w' := w1) (by go_simp) (qLg HM HAM (by decide) hac rfl rfl)
     ·intro vals w1 b hsp hac hd
      obtain ⟨e0, e1⟩ := qcy (qga (HAC b w1 hac) B4.out ne4)
      rw [show vals 3 = .pointer (some ⟨g4, 1, none⟩) from hd 3 (by kernel_rfl)]
      refine qaq (v := .int .i64 (n : Nat)) (w' := w1) (by go_simp) (qLg HM HAM (by decide) hac rfl rfl)
     ·intro vals w1 b hsp hac hd
      refine qaq (v := .int .i64 (at_ : Nat)) (w' := w1) (by go_simp) (qLg HM HAM (by decide) hac rfl rfl)
     ·intro vals w1 b hsp hac hd
      rw [show vals 5 = .int .i64 (at_ : Nat) from hd 5 (by kernel_rfl)]
      refine qaq (v := .int .i64 (P2 : Nat)) (w' := w1) (by go_simp; first | done | exact DP.out) (qLg HM HAM (by decide) hac rfl rfl)
     ·intro vals w1 b hsp hac hd
      rw [show vals 4 = .int .i64 (n : Nat) from hd 4 (by kernel_rfl)]
      rw [show vals 6 = .int .i64 (P2 : Nat) from hd 6 (by kernel_rfl)]
      refine qaq (v := .int .i64 (nb : Nat)) (w' := w1) (by go_simp; first | done | exact DN.out) (qLg HM HAM (by decide) hac rfl rfl)
     ·intro vals w1 b hsp hac hd
      rw [show vals 2 = .int .i64 (y : Nat) from hd 2 (by kernel_rfl)]
      rw [show vals 7 = .int .i64 (nb : Nat) from hd 7 (by kernel_rfl)]
      refine qaq (v := .agg #[.int .i64 (y : Nat), .int .i64 (nb : Nat)]) (w' := w1) (by go_simp) (qLg HM HAM (by decide) hac rfl rfl)
     ·intro vals w1 b hsp hac hd
      refine qaq (v := .int .i64 (deep : Nat)) (w' := w1) (by go_simp) (qLg HM HAM (by decide) hac rfl rfl)
     ·intro vals w1 b hsp hac hd
      rw [show vals 9 = .int .i64 (deep : Nat) from hd 9 (by kernel_rfl)]
      refine qaq (v := .int .i64 (dp : Nat)) (w' := w1) (by go_simp; first | done | exact HDP.out) (qLg HM HAM (by decide) hac rfl rfl)
     ·intro vals w1 b hsp hac hd
      have d0 : KEq (.pointer (some ⟨g, 0, none⟩)) (vals 0) w1 := hd 0 (by kernel_rfl)
      have d8 : KEq (.agg #[.int .i64 (y : Nat), .int .i64 (nb : Nat)]) (vals 8) w1 := hd 8 (by kernel_rfl)
      have d10 : KEq (.int .i64 (dp : Nat)) (vals 10) w1 := hd 10 (by kernel_rfl)
      obtain rfl : b = false := hsp rfl
      have hbl := HAF w1 hac
      have HS := qHd (IHA.out w1 hbl)
      rw [show vals 0 = _ from d0, show vals 8 = _ from d8, show vals 10 = _ from d10]
      refine qat (by go_simp; first | done | exact ⟨⟨rfl, rfl⟩, rfl⟩) ?_
      (with_reducible refine HS.out.mono ?_); rintro e w2 ⟨v, rfl, hv, gb2, hg2⟩
      exact ⟨_, rfl, gb2.size, fun j u hj hF => survA j u w1 w2 hj hF gb2 (qaa G5.out hbl), (by rw [hAc]; exact ⟨qey (HAC false w1 hac) gb2, hg2⟩), ⟨v, rfl, hv⟩, fun h => by cases h⟩
     ·intro vals w1 b hsp hac hd
      have d11 : KGr (grT f d y nb) (vals 11) w1 := hd 11 (by kernel_rfl)
      obtain ⟨v, ev, hv⟩ := d11
      rw [ev]
      refine qaq (v := .tuple #[v, .nilIface]) (w' := w1) (by go_simp) (leavesG_mk HM HAM (by decide) hac (Below.refl _ _) ⟨v, rfl, hv⟩ (fun h => by cases h))
     ·intro vals w1 b hsp hac hd
      have d12 : KGr (grT f d y nb) (vals 12) w1 := hd 12 (by kernel_rfl)
      obtain ⟨v, ev, hv⟩ := d12
      rw [ev]
      refine qaq (v := v) (w' := w1) (by go_simp) (leavesG_mk HM HAM (by decide) hac (Below.refl _ _) hv (fun h => by cases h))
     ·intro vals w1 b hsp hac hd
      have d12 : KGr (grT f d y nb) (vals 12) w1 := hd 12 (by kernel_rfl)
      obtain ⟨v, ev, hv⟩ := d12
      rw [ev]
      refine qbv (v := .nilIface) (fun w => by go_simp) (qLg HM HAM (by decide) hac rfl rfl)
     ·intro vals w1 b hsp hac hd
      refine qaq (v := .pointer (some ⟨w1.heap.size, 0, none⟩)) (w' := w1.alloc (.cells #[.int .i64 0, .slice none 0 0, .int .i64 0] 27)) (by go_simp) (leavesG_mk HM HAM (by decide) hac ((Below.refl _ _).alloc (Nat.le_refl _) _) ⟨_, (HB0s _ _ hac), rfl, heap_alloc_new _ _⟩ (fun _ => ⟨rfl, by simp⟩))
    case tl10 =>
     intro vals w5 hacc hf hdis
     simp only [List.drop_succ_cons, List.drop_zero]
     rw [hAc] at hacc
     obtain ⟨gb5, hg5⟩ := hacc
     have z14 : vals 14 = _ := hf 14 (by decide)
     obtain ⟨gA, hgA, ev, hzA⟩ : KNew B0 #[.int .i64 0, .slice none 0 0, .int .i64 0] 27 (vals 15) w5 := hf 15 (by decide)
     have hta : TrG w5 (vals 13) (grT f d y nb) := hf 13 (by decide)
     rw [z14, ev]
     obtain ⟨va, hva⟩ : ∃ u, u = vals 13 := ⟨_, rfl⟩
     rw [← hva] at hta ⊢
     clear z14 ev hf hdis hva hAc HAC HAF HAM HB0s survA hM HM
     obtain ⟨av, ar, aa, an, ac, rfl⟩ := hta.tr.shape
     go_wp2_with (with_reducible refine qaf ?_)
     refine qan gA 0 [.int .i64 av, .slice aa an ac, .int .i64 ar] hzA rfl rfl (Nat.le_of_ble_eq_true rfl) (by kernel_rfl) rfl ?_
     intro w6 hp6
     have hgb6 := qfz hp6
     have n4A : g4 ≠ gA := by omega
     have n6A : g6 ≠ gA := by omega
     have ngA : g ≠ gA := by omega
     have B4 := qHd (qbr hp6 (qga gb5 B4.out ne4) n4A); have B6 := qHd (qbr hp6 (qga gb5 B6.out ne6) n6A); have G5 := qHd (qbr hp6 hg5 ngA)
     have BA := qHd (show w6.heap[gA]? = some (.cells #[.int .i64 av, .slice aa an ac, .int .i64 ar] 27) by rw [hp6]; exact qbd hzA)
     have GB := qHd (gb_row (qey GB.out gb5) hgb6 (fun k hk _ => fun e => by cases e; have := GB.out.size; omega))
     have HB := qHd (qbl hp6 (gb_low HB.out gb5 HB.out.size hg0) (by have := HB.out.size; omega))
     have TA := qHd (hta.keep (qch hp6 hzA (by simp)))
     clear hp6 gb5 hg5 hzA hta hgb6
     have hs6 : w4.heap.size ≤ w6.heap.size := by have := qaw BA.out; have := qaw G5.out; omega
     have IHB := qHd (fun w1 (hbl : Below w6.heap.size w6 w1) => hcB ▸ ih yb n dp cnA g w1 (HB.out.trans (hbl.mono HB.out.size)) hg0 (qaa G5.out hbl) (by omega) OKB.out (by omega))
     obtain ⟨B0, hB0e⟩ : ∃ B, B = w6.heap.size := ⟨_, rfl⟩
     have hB0 : B0 ≤ w6.heap.size := by omega
     have hBg : g < B0 := by have := qaw G5.out; omega
     have hg4l := qaw B4.out; have hg6l := qaw B6.out; have hgAl := qaw BA.out
     go_wp2_with (with_reducible first | refine qad ?_ | refine qai ?_ | refine qaj ?_ | refine qak ?_ | refine qag ?_)
     refine qap.mk ?_
     have hM : ∀ j v w1 w2, Fl [KEq (.pointer (some ⟨g, 0, none⟩)), KEq (.pointer (some ⟨g4, 0, none⟩)), KEq (.int .i64 (y : Nat)), KEq (.int .i64 (at_ : Nat)), KEq (.int .i64 (P2 : Nat)), KEq (.int .i64 (yb : Nat)), KEq (.pointer (some ⟨g4, 1, none⟩)), KEq (.int .i64 (n : Nat)), KEq (.agg #[.int .i64 (yb : Nat), .int .i64 (n : Nat)]), KEq (.int .i64 (deep : Nat)), KEq (.int .i64 (dp : Nat)), KGr (grT f d yb n), KGr (grT f d yb n), KGt (grT f d yb n), KEq .nilIface, KNew B0 #[.int .i64 0, .slice none 0 0, .int .i64 0] 27] j v w1 → Below w1.heap.size w1 w2 → Fl [KEq (.pointer (some ⟨g, 0, none⟩)), KEq (.pointer (some ⟨g4, 0, none⟩)), KEq (.int .i64 (y : Nat)), KEq (.int .i64 (at_ : Nat)), KEq (.int .i64 (P2 : Nat)), KEq (.int .i64 (yb : Nat)), KEq (.pointer (some ⟨g4, 1, none⟩)), KEq (.int .i64 (n : Nat)), KEq (.agg #[.int .i64 (yb : Nat), .int .i64 (n : Nat)]), KEq (.int .i64 (deep : Nat)), KEq (.int .i64 (dp : Nat)), KGr (grT f d yb n), KGr (grT f d yb n), KGt (grT f d yb n), KEq .nilIface, KNew B0 #[.int .i64 0, .slice none 0 0, .int .i64 0] 27] j v w2 := qcw (qae (kEq _) (qae (kEq _) (qae (kEq _) (qae (kEq _) (qae (kEq _) (qae (kEq _) (qae (kEq _) (qae (kEq _) (qae (kEq _) (qae (kEq _) (qae (kEq _) (qae (kGr _) (qae (kGr _) (qae (kGt _) (qae (kEq _) (qae (kNew _ _ _) qcv))))))))))))))))
     have HM := hM
     obtain ⟨AcB, hAc⟩ : ∃ A : Bool → World → Prop, A = fun b w1 => if b then w6.grownBy w1 (some g) ∧ w1.heap[g]? = some (.cells #[.int .i64 f.vars, .slice ao f.nodes.length c, .int .i64 f.top, .int .i64 (most : Nat), .int .i64 (cnB : Nat)] 99) else Below w6.heap.size w6 w1 := ⟨_, rfl⟩
     have HAC : ∀ b w1, AcB b w1 → w6.grownBy w1 (some g) := fun b w1 h => by
      rw [hAc] at h; cases b with
      | true => exact h.1
      | false => exact qev h
     have HAF : ∀ w1, AcB false w1 → Below w6.heap.size w6 w1 := fun w1 h => by rw [hAc] at h; exact h
     have HAM : ∀ b w1 w2, AcB b w1 → Below w1.heap.size w1 w2 → AcB b w2 := fun b w1 w2 h hb => by
      rw [hAc] at h ⊢; cases b with
      | true => exact ⟨qed h.1 hb, qaa h.2 hb⟩
      | false => exact h.trans (hb.mono h.size)
     have HB0s : ∀ b w1, AcB b w1 → B0 ≤ w1.heap.size := fun b w1 h => Nat.le_trans hB0 (HAC b w1 h).size
     have survB : ∀ j u w1 w2, j ≠ 11 → Fl [KEq (.pointer (some ⟨g, 0, none⟩)), KEq (.pointer (some ⟨g4, 0, none⟩)), KEq (.int .i64 (y : Nat)), KEq (.int .i64 (at_ : Nat)), KEq (.int .i64 (P2 : Nat)), KEq (.int .i64 (yb : Nat)), KEq (.pointer (some ⟨g4, 1, none⟩)), KEq (.int .i64 (n : Nat)), KEq (.agg #[.int .i64 (yb : Nat), .int .i64 (n : Nat)]), KEq (.int .i64 (deep : Nat)), KEq (.int .i64 (dp : Nat)), KGr (grT f d yb n), KGr (grT f d yb n), KGt (grT f d yb n), KEq .nilIface, KNew B0 #[.int .i64 0, .slice none 0 0, .int .i64 0] 27] j u w1 → w1.grownBy w2 (some g) → w1.heap[g]? = some (.cells #[.int .i64 f.vars, .slice ao f.nodes.length c, .int .i64 f.top, .int .i64 (most : Nat), .int .i64 ((cnA : Nat) : Int)] 99) → Fl [KEq (.pointer (some ⟨g, 0, none⟩)), KEq (.pointer (some ⟨g4, 0, none⟩)), KEq (.int .i64 (y : Nat)), KEq (.int .i64 (at_ : Nat)), KEq (.int .i64 (P2 : Nat)), KEq (.int .i64 (yb : Nat)), KEq (.pointer (some ⟨g4, 1, none⟩)), KEq (.int .i64 (n : Nat)), KEq (.agg #[.int .i64 (yb : Nat), .int .i64 (n : Nat)]), KEq (.int .i64 (deep : Nat)), KEq (.int .i64 (dp : Nat)), KGr (grT f d yb n), KGr (grT f d yb n), KGt (grT f d yb n), KEq .nilIface, KNew B0 #[.int .i64 0, .slice none 0 0, .int .i64 0] 27] j u w2 := fun j u w1 w2 hj h hg hg1 => by
      match j, hj with
      | 0, _ => exact h
      | 1, _ => exact h
      | 2, _ => exact h
      | 3, _ => exact h
      | 4, _ => exact h
      | 5, _ => exact h
      | 6, _ => exact h
      | 7, _ => exact h
      | 8, _ => exact h
      | 9, _ => exact h
      | 10, _ => exact h
      | 12, _ => exact kGr_k h (keep6_gb hg hg1 (by simp))
      | 13, _ => exact kGt_k h (keep6_gb hg hg1 (by simp))
      | 14, _ => exact h
      | 15, _ => exact kNew_gb hBg h hg
      | j + 16, _ => trivial
      | 11, hj => exact absurd rfl hj
     refine wp_region_factsG (A := ?aa13) (w := w6) 16 [14] (by kernel_rfl) (Fl [KEq (.pointer (some ⟨g, 0, none⟩)), KEq (.pointer (some ⟨g4, 0, none⟩)), KEq (.int .i64 (y : Nat)), KEq (.int .i64 (at_ : Nat)), KEq (.int .i64 (P2 : Nat)), KEq (.int .i64 (yb : Nat)), KEq (.pointer (some ⟨g4, 1, none⟩)), KEq (.int .i64 (n : Nat)), KEq (.agg #[.int .i64 (yb : Nat), .int .i64 (n : Nat)]), KEq (.int .i64 (deep : Nat)), KEq (.int .i64 (dp : Nat)), KGr (grT f d yb n), KGr (grT f d yb n), KGt (grT f d yb n), KEq .nilIface, KNew B0 #[.int .i64 0, .slice none 0 0, .int .i64 0] 27]) (fun i => i == 15) (AcB) 11 (by decide) ?h013 (by kernel_rfl) ?hq13 ?ha13 ?st13 ?tl13
     case h013 => rw [hAc]; exact (Below.refl _ _).drew
     case hq13 =>
      intro c a d v w h
      first | (simp only [Exit.then] at h ⊢; exact h) | (simp only [Exit.inBlock, Exit.then] at h ⊢; exact h) | exact h
     case ha13 =>
      intro vals
      simp only [qba, qcd, if_true, Act.put, List.setIfInBounds_toArray, List.set_cons_zero, List.set_cons_succ, List.getElem?_toArray, List.getElem?_cons_zero, List.getElem?_cons_succ, Option.bind_some]
      exact rfl
     case st13 =>
      simp only [List.take_succ_cons, List.take_zero]
      refine qbb rfl rfl ?_ (qbb rfl rfl ?_ (qbb rfl rfl ?_ (qbb rfl rfl ?_ (qbb rfl rfl ?_ (qbb rfl rfl ?_ (qbb rfl rfl ?_ (qbb rfl rfl ?_ (qbb rfl rfl ?_ (qbb rfl rfl ?_ (qbb rfl rfl ?_ (qbb rfl rfl ?_ (qbb rfl rfl ?_ (qbb rfl rfl ?_ (stepsOKG_pure rfl ?_ (qbb rfl rfl ?_ (stepsOKG_nil))))))))))))))))
      ·intro vals w1 b hsp hac hd
       refine qaq (v := .pointer (some ⟨g, 0, none⟩)) (w' := w1) (by go_simp) (qLg HM HAM (by decide) hac rfl rfl)
      ·intro vals w1 b hsp hac hd
       refine qaq (v := .pointer (some ⟨g4, 0, none⟩)) (w' := w1) (by go_simp) (qLg HM HAM (by decide) hac rfl rfl)
      ·intro vals w1 b hsp hac hd
       obtain ⟨e0, e1⟩ := qcy (qga (HAC b w1 hac) B4.out ne4)
       rw [show vals 1 = .pointer (some ⟨g4, 0, none⟩) from hd 1 (by kernel_rfl)]
       refine qaq (v := .int .i64 (y : Nat)) (w' := w1) (by go_simp) (qLg HM HAM (by decide) hac rfl rfl)
      ·intro vals w1 b hsp hac hd
       refine qaq (v := .int .i64 (at_ : Nat)) (w' := w1) (by go_simp) (qLg HM HAM (by decide) hac rfl rfl)
      ·intro vals w1 b hsp hac hd
       rw [show vals 3 = .int .i64 (at_ : Nat) from hd 3 (by kernel_rfl)]
       refine qaq (v := .int .i64 (P2 : Nat)) (w' := w1) (by go_simp; first | done | exact DP.out) (qLg HM HAM (by decide) hac rfl rfl)
      ·intro vals w1 b hsp hac hd
       rw [show vals 2 = .int .i64 (y : Nat) from hd 2 (by kernel_rfl)]
       rw [show vals 4 = .int .i64 (P2 : Nat) from hd 4 (by kernel_rfl)]
       refine qaq (v := .int .i64 (yb : Nat)) (w' := w1) (by go_simp; first | done | exact DY.out) (qLg HM HAM (by decide) hac rfl rfl)
      ·intro vals w1 b hsp hac hd
       refine qaq (v := .pointer (some ⟨g4, 1, none⟩)) (w' := w1) (by go_simp) (qLg HM HAM (by decide) hac rfl rfl)
      ·intro vals w1 b hsp hac hd
       obtain ⟨e0, e1⟩ := qcy (qga (HAC b w1 hac) B4.out ne4)
       rw [show vals 6 = .pointer (some ⟨g4, 1, none⟩) from hd 6 (by kernel_rfl)]
       refine qaq (v := .int .i64 (n : Nat)) (w' := w1) (by go_simp) (qLg HM HAM (by decide) hac rfl rfl)
      ·intro vals w1 b hsp hac hd
       rw [show vals 5 = .int .i64 (yb : Nat) from hd 5 (by kernel_rfl)]
       rw [show vals 7 = .int .i64 (n : Nat) from hd 7 (by kernel_rfl)]
       refine qaq (v := .agg #[.int .i64 (yb : Nat), .int .i64 (n : Nat)]) (w' := w1) (by go_simp) (qLg HM HAM (by decide) hac rfl rfl)
      ·intro vals w1 b hsp hac hd
       refine qaq (v := .int .i64 (deep : Nat)) (w' := w1) (by go_simp) (qLg HM HAM (by decide) hac rfl rfl)
      ·intro vals w1 b hsp hac hd
       rw [show vals 9 = .int .i64 (deep : Nat) from hd 9 (by kernel_rfl)]
       refine qaq (v := .int .i64 (dp : Nat)) (w' := w1) (by go_simp; first | done | exact HDP.out) (qLg HM HAM (by decide) hac rfl rfl)
      ·intro vals w1 b hsp hac hd
       have d0 : KEq (.pointer (some ⟨g, 0, none⟩)) (vals 0) w1 := hd 0 (by kernel_rfl)
       have d8 : KEq (.agg #[.int .i64 (yb : Nat), .int .i64 (n : Nat)]) (vals 8) w1 := hd 8 (by kernel_rfl)
       have d10 : KEq (.int .i64 (dp : Nat)) (vals 10) w1 := hd 10 (by kernel_rfl)
       obtain rfl : b = false := hsp rfl
       have hbl := HAF w1 hac
       have HS := qHd (IHB.out w1 hbl)
       rw [show vals 0 = _ from d0, show vals 8 = _ from d8, show vals 10 = _ from d10]
       refine qat (by go_simp; first | done | exact ⟨⟨rfl, rfl⟩, rfl⟩) ?_
       (with_reducible refine HS.out.mono ?_); rintro e w2 ⟨v, rfl, hv, gb2, hg2⟩
       exact ⟨_, rfl, gb2.size, fun j u hj hF => survB j u w1 w2 hj hF gb2 (qaa G5.out hbl), (by rw [hAc]; exact ⟨qey (HAC false w1 hac) gb2, hg2⟩), ⟨v, rfl, hv⟩, fun h => by cases h⟩
      ·intro vals w1 b hsp hac hd
       have d11 : KGr (grT f d yb n) (vals 11) w1 := hd 11 (by kernel_rfl)
       obtain ⟨v, ev, hv⟩ := d11
       rw [ev]
       refine qaq (v := .tuple #[v, .nilIface]) (w' := w1) (by go_simp) (leavesG_mk HM HAM (by decide) hac (Below.refl _ _) ⟨v, rfl, hv⟩ (fun h => by cases h))
      ·intro vals w1 b hsp hac hd
       have d12 : KGr (grT f d yb n) (vals 12) w1 := hd 12 (by kernel_rfl)
       obtain ⟨v, ev, hv⟩ := d12
       rw [ev]
       refine qaq (v := v) (w' := w1) (by go_simp) (leavesG_mk HM HAM (by decide) hac (Below.refl _ _) hv (fun h => by cases h))
      ·intro vals w1 b hsp hac hd
       have d12 : KGr (grT f d yb n) (vals 12) w1 := hd 12 (by kernel_rfl)
       obtain ⟨v, ev, hv⟩ := d12
       rw [ev]
       refine qbv (v := .nilIface) (fun w => by go_simp) (qLg HM HAM (by decide) hac rfl rfl)
      ·intro vals w1 b hsp hac hd
       refine qaq (v := .pointer (some ⟨w1.heap.size, 0, none⟩)) (w' := w1.alloc (.cells #[.int .i64 0, .slice none 0 0, .int .i64 0] 27)) (by go_simp) (leavesG_mk HM HAM (by decide) hac ((Below.refl _ _).alloc (Nat.le_refl _) _) ⟨_, (HB0s _ _ hac), rfl, heap_alloc_new _ _⟩ (fun _ => ⟨rfl, by simp⟩))
     case tl13 =>
      intro vals w7 hacc hf hdis
      simp only [List.drop_succ_cons, List.drop_zero]
      rw [hAc] at hacc
      obtain ⟨gb7, hg7⟩ := hacc
      have K67 := qHd (keep6_gb gb7 G5.out (by simp))
      have z14 : vals 14 = _ := hf 14 (by decide)
      obtain ⟨gC, hgC, ev, hzC⟩ : KNew B0 #[.int .i64 0, .slice none 0 0, .int .i64 0] 27 (vals 15) w7 := hf 15 (by decide)
      have htb : TrG w7 (vals 13) (grT f d yb n) := hf 13 (by decide)
      rw [z14, ev]
      obtain ⟨vb, hvb⟩ : ∃ u, u = vals 13 := ⟨_, rfl⟩
      rw [← hvb] at htb ⊢
      clear z14 ev hf hdis hvb hAc HAC HAF HAM HB0s survB hM HM
      obtain ⟨bv, br, ba, bn, bc, rfl⟩ := htb.tr.shape
      go_wp2_with (with_reducible refine qaf ?_)
      refine qan gC 0 [.int .i64 bv, .slice ba bn bc, .int .i64 br] hzC rfl rfl (Nat.le_of_ble_eq_true rfl) (by kernel_rfl) rfl ?_
      intro w8 hp8
      have hgb8 := qfz hp8
      have n6C : g6 ≠ gC := by omega
      have nAC : gA ≠ gC := by omega
      have ngC : g ≠ gC := by omega
      have nAg : gA ≠ g := by omega
      have B6 := qHd (qbr hp8 (qga gb7 B6.out ne6) n6C); have BA := qHd (qbr hp8 (qga gb7 BA.out nAg) nAC); have G5 := qHd (qbr hp8 hg7 ngC)
      have BC := qHd (show w8.heap[gC]? = some (.cells #[.int .i64 bv, .slice ba bn bc, .int .i64 br] 27) by rw [hp8]; exact qbd hzC)
      have GB := qHd (gb_row (qey GB.out gb7) hgb8 (fun k hk _ => fun e => by cases e; have := GB.out.size; omega))
      have TA := qHd ((TA.out.keep K67.out).keep (qch hp8 hzC (by simp))); have TB := qHd (htb.keep (qch hp8 hzC (by simp)))
      clear hp8 gb7 hg7 hzC htb hgb8
      obtain ⟨w9, hw9, hb9, g9, hG9, hg9⟩ := qBx5 w8 (.cells #[.int .i64 av, .slice aa an ac, .int .i64 ar, .int .i64 bv, .slice ba bn bc, .int .i64 br] 27)
      have ng9 : g9 ≠ g := by have := qaw G5.out; omega
      have ng96 : g9 ≠ g6 := by have := qaw B6.out; omega
      obtain ⟨a0, a1, a2⟩ := qay BA.out
      obtain ⟨c0, c1, c2⟩ := qay BC.out
      go_wp2_with (with_reducible refine qaf ?_)
      rw [← hw9, ← hG9]
      clear hw9 hG9 a0 a1 a2 c0 c1 c2
      refine qan g6 0 [.int .i64 (at_ : Nat), .slice (some ⟨g9, 0, none⟩) 2 2, .int .i64 0] (qaa B6.out hb9) rfl rfl (Nat.le_of_ble_eq_true rfl) (by kernel_rfl) rfl ?_
      intro wz hpz
      have GZ := qHd (show wz.heap[g6]? = some (.cells #[.int .i64 (at_ : Nat), .slice (some ⟨g9, 0, none⟩) 2 2, .int .i64 0] 27) by rw [hpz]; exact qbd (qaa B6.out hb9))
      have G5z := qHd (qbr hpz (qaa G5.out hb9) (Ne.symm ne6)); have GBz := qHd (gb_row (qed GB.out hb9) (qfz hpz) (fun k hk _ => fun e => by cases e; omega))
      have G9z := qHd (qbr hpz hg9 ng96)
      have KZ := keep6_trans (qbu hb9) (qch hpz (qaa B6.out hb9) (by simp)); have TAz := qHd (TA.out.keep KZ); have TBz := qHd (TB.out.keep KZ); clear KZ
      clear hpz hg9 hb9
      go_wp2_with (with_reducible first | refine qad ?_ | refine qai ?_ | refine qaj ?_ | refine qak ?_ | refine qag ?_)
      refine qcl rfl g6 #[.int .i64 (at_ : Nat), .slice (some ⟨g9, 0, none⟩) 2 2, .int .i64 0] rfl GZ.out Tryz.underlying27 rfl (by kernel_rfl) rfl ?_
      rw [(GT.out).1, (GT.out).2, show cnt + (1 + grN f d y nb + grN f d yb n) = cnB by omega]
      exact ⟨_, rfl, fun w2 h2 => trV_node (by rw [h2 g9 _ G9z.out rfl]; exact G9z.out) (TAz.out w2 h2) (TBz.out w2 h2) ⟨by omega, by omega⟩ ⟨by decide, by decide⟩, GBz.out, G5z.out⟩
def mErr (f : Fm) (most : Int) : Nat := if qcc f ≠ 0 then qcc f else if most < 0 ∨ 24 < most then 3 else 0
def mTr (f : Fm) (most : Int) : Tr := if mErr f most = 0 then grT f most.toNat 0 0 else .mk 0 [] 0
def RetMk (w : World) (t : Tr) (er : Nat) (e : Ending) (w' : World) : Prop := ∃ v, e = .returned (.tuple #[v, errV er]) ∧ Below w.heap.size w w' ∧ TrV w' v t
theorem grN_cap {f : Fm} (h : qcc f = 0) (h8 : f.vars ≤ 8) (d : Nat) : grN f d 0 0 ≤ 511 := by
 have h1 := grN_small h d 0 0
 have h2 := opens_le 0 0 f.vars.toNat
 have h3 : 2 ^ (qdb 0 0 f.vars.toNat + 1) ≤ 2 ^ 9 := Nat.pow_le_pow_right (by decide) (by omega)
 have e : 2 ^ 9 = 512 := by decide
 omega
theorem make_f (vf : Value) (f : Fm) (most : Int) (w : World) (hf : FmV w vf f) (hm : I64 most) (h8 : qcc f = 0 → f.vars ≤ 8) :
  Calls Tryz.prog 14 #[vf, .int .i64 most] w (RetMk w (mTr f most) (mErr f most)) := by
 obtain ⟨nv, rfl, hn, hv, htp⟩ := hf
 obtain ⟨ao, c, rfl, hc, hc2, _⟩ := hn.shape
 have HF := qHd (show FmV w _ f from ⟨_, rfl, hn, hv, htp⟩)
 unfold I64 at hm
 obtain ⟨W, hW, hbW, hg2, hg4⟩ := qBx2 w (.cells #[.int .i64 f.vars, .slice ao f.nodes.length c, .int .i64 f.top] 24) (.cells #[.int .i64 0, .slice none 0 0, .int .i64 0] 27)
 obtain ⟨g2, hG2⟩ : ∃ g, g = w.heap.size := ⟨_, rfl⟩
 obtain ⟨g4, hG4⟩ : ∃ g, g = w.heap.size + 1 := ⟨_, rfl⟩
 rw [← hG2] at hg2; rw [← hG4] at hg4
 have l4 : w.heap.size ≤ g4 := by omega
 have HBW := qHd hbW; have G2 := qHd hg2; have G4 := qHd hg4; have H8 := qHd h8
 obtain ⟨x0, x1, x2⟩ := qay hg2
 rw [hW, hG2] at x0 x1 x2
 have HK := qHd (fcheck_any _ f W (HF.out.below HBW.out))
 clear hbW hg2 hg4 hn hv htp h8
 go_enter Tryz.func14, Tryz.ntmps14
 go_wp2_with (with_reducible refine qad ?_)
 rw [← hW, ← hG4, ← hG2]; clear hW hG2 hG4 x0 x1 x2
 refine qap.mk ?_
 (with_reducible refine HK.out.mono ?_); rintro e w1 ⟨rfl, hb1⟩
 have HBc := qHd (HBW.out.trans (hb1.mono HBW.out.size)); have G2 := qHd (qaa G2.out hb1); have G4 := qHd (qaa G4.out hb1)
 clear hb1 HK
 by_cases h0 : qcc f ≠ 0
 ·have R := qHd (show mErr f most = qcc f by unfold mErr; rw [if_pos h0])
  have RT := qHd (show mTr f most = .mk 0 [] 0 by unfold mTr; rw [if_neg (by rw [R.out]; exact h0)])
  rw [qbz h0]
  go_wp2_with (with_reducible refine qaf ?_)
  refine qan g4 0 [.int .i64 0, .slice none 0 0, .int .i64 0] G4.out rfl rfl (Nat.le_of_ble_eq_true rfl) (by kernel_rfl) rfl ?_
  intro wz hpz
  have GZ := qHd (show wz.heap[g4]? = some (.cells #[.int .i64 0, .slice none 0 0, .int .i64 0] 27) by rw [hpz]; exact qbd G4.out)
  have HBZ := qHd (qbl hpz HBc.out l4)
  clear hpz
  go_wp2_with (with_reducible first | refine qad ?_ | refine qai ?_ | refine qaj ?_ | refine qak ?_ | refine qag ?_)
  refine qcl rfl g4 #[.int .i64 0, .slice none 0 0, .int .i64 0] rfl GZ.out Tryz.underlying27 rfl (by kernel_rfl) rfl ?_
  exact ⟨_, by rw [R.out, qbz h0]; rfl, HBZ.out, by rw [RT.out]; exact TrV.leaf _ ⟨by decide, by decide⟩⟩
 have h0 : qcc f = 0 := by omega
 have HFM := qHd h0
 rw [h0, qbi]
 have E1 := qHd (show mErr f most = if most < 0 ∨ 24 < most then 3 else 0 by unfold mErr; rw [if_neg (by rw [h0]; exact fun h => h rfl)])
 clear h0
 by_cases h1 : most < 0
 ·have R := qHd (E1.out.trans (if_pos (.inl h1)))
  have RT := qHd (show mTr f most = .mk 0 [] 0 by unfold mTr; rw [if_neg (by rw [R.out]; decide)])
  go_wp2_with (with_reducible refine qaf ?_)
  refine qan g4 0 [.int .i64 0, .slice none 0 0, .int .i64 0] G4.out rfl rfl (Nat.le_of_ble_eq_true rfl) (by kernel_rfl) rfl ?_
  intro wz hpz
  have GZ := qHd (show wz.heap[g4]? = some (.cells #[.int .i64 0, .slice none 0 0, .int .i64 0] 27) by rw [hpz]; exact qbd G4.out)
  have HBZ := qHd (qbl hpz HBc.out l4)
  clear hpz
  go_wp2_with (with_reducible first | refine qad ?_ | refine qai ?_ | refine qaj ?_ | refine qak ?_ | refine qag ?_)
  refine qcl rfl g4 #[.int .i64 0, .slice none 0 0, .int .i64 0] rfl GZ.out Tryz.underlying27 rfl (by kernel_rfl) rfl ?_
  exact ⟨_, by rw [R.out]; rfl, HBZ.out, by rw [RT.out]; exact TrV.leaf _ ⟨by decide, by decide⟩⟩
 by_cases h2 : 24 < most
 ·have R := qHd (E1.out.trans (if_pos (.inr h2)))
  have RT := qHd (show mTr f most = .mk 0 [] 0 by unfold mTr; rw [if_neg (by rw [R.out]; decide)])
  go_wp2_with (with_reducible refine qaf ?_)
  refine qan g4 0 [.int .i64 0, .slice none 0 0, .int .i64 0] G4.out rfl rfl (Nat.le_of_ble_eq_true rfl) (by kernel_rfl) rfl ?_
  intro wz hpz
  have GZ := qHd (show wz.heap[g4]? = some (.cells #[.int .i64 0, .slice none 0 0, .int .i64 0] 27) by rw [hpz]; exact qbd G4.out)
  have HBZ := qHd (qbl hpz HBc.out l4)
  clear hpz
  go_wp2_with (with_reducible first | refine qad ?_ | refine qai ?_ | refine qaj ?_ | refine qak ?_ | refine qag ?_)
  refine qcl rfl g4 #[.int .i64 0, .slice none 0 0, .int .i64 0] rfl GZ.out Tryz.underlying27 rfl (by kernel_rfl) rfl ?_
  exact ⟨_, by rw [R.out]; rfl, HBZ.out, by rw [RT.out]; exact TrV.leaf _ ⟨by decide, by decide⟩⟩
 have R := qHd (E1.out.trans (if_neg (by omega)))
 have RT := qHd (show mTr f most = grT f most.toNat 0 0 by unfold mTr; rw [if_pos R.out])
 obtain ⟨M, rfl⟩ : ∃ M : Nat, most = M := ⟨most.toNat, by omega⟩
 rw [Int.toNat_natCast] at RT
 clear E1
 obtain ⟨w4, hw4, hb4, g7, hG7, hg7⟩ := qBx5 w1 (.cells #[.int .i64 f.vars, .slice ao f.nodes.length c, .int .i64 f.top, .int .i64 (M : Nat), .int .i64 0] 99)
 have ne47 : g4 ≠ g7 := by have := qaw G4.out; omega
 have l7 : w.heap.size ≤ g7 := by have := HBc.out.size; omega
 have HB4 := qHd (HBc.out.trans (hb4.mono HBc.out.size)); have G4 := qHd (qaa G4.out hb4)
 have hk := grow_any f HFM.out ao c M (by omega) w HF.out M 0 0 0 0 g7 w4 HB4.out l7 hg7 (by omega) (okC_zero _) (by have := grN_cap HFM.out (H8.out HFM.out) M; omega)
 rw [show ((0 : Nat) : Int) = 0 from rfl] at hk
 have HK := qHd hk
 obtain ⟨x0, x1, x2⟩ := qay G2.out
 clear hb4 hg7 hk
 go_wp2_with (with_reducible refine qad ?_)
 rw [← hw4, ← hG7]; clear hw4 hG7 x0 x1 x2
 refine qap.mk ?_
 (with_reducible refine HK.out.mono ?_); rintro e w5 ⟨va, rfl, hta, gb5, hg5⟩
 obtain ⟨av, ar, aa, an, ac, rfl⟩ := hta.tr.shape
 have HB5 := qHd (gb_low HB4.out gb5 HB4.out.size l7); have G4 := qHd (qga gb5 G4.out ne47)
 obtain ⟨wa, hwa, hba, g8, hG8, hga⟩ := qBx5 w5 (.cells #[.int .i64 0, .slice none 0 0, .int .i64 0] 27)
 have ne48 : g4 ≠ g8 := by have := qaw G4.out; omega
 have l8 : w.heap.size ≤ g8 := by have := HB5.out.size; omega
 have HTA := qHd (hta.keep (qbu hba)); have GA := qHd hga
 have HBa := qHd (HB5.out.trans (hba.mono HB5.out.size)); have G4 := qHd (qaa G4.out hba)
 clear gb5 hg5 hta hba hga HK
 go_wp2_with (with_reducible refine qaf ?_)
 rw [← hwa, ← hG8]; clear hwa hG8
 refine qan g8 0 [.int .i64 av, .slice aa an ac, .int .i64 ar] GA.out rfl rfl (Nat.le_of_ble_eq_true rfl) (by kernel_rfl) rfl ?_
 intro w6 hp6
 have G8 := qHd (show w6.heap[g8]? = some (.cells #[.int .i64 av, .slice aa an ac, .int .i64 ar] 27) by rw [hp6]; exact qbd GA.out)
 have HB6 := qHd (qbl hp6 HBa.out l8); have G46 := qHd (qbr hp6 G4.out ne48); have HT6 := qHd (HTA.out.keep (qch hp6 GA.out (by simp)))
 clear hp6
 obtain ⟨a0, a1, a2⟩ := qay G8.out
 go_wp2_with (with_reducible refine qaf ?_)
 refine qan g4 0 [.int .i64 av, .slice aa an ac, .int .i64 ar] G46.out rfl rfl (Nat.le_of_ble_eq_true rfl) (by kernel_rfl) rfl ?_
 intro wz hpz
 have GZ := qHd (show wz.heap[g4]? = some (.cells #[.int .i64 av, .slice aa an ac, .int .i64 ar] 27) by rw [hpz]; exact qbd G46.out)
 have HBZ := qHd (qbl hpz HB6.out l4); have HTZ := qHd (HT6.out.keep (qch hpz G46.out (by simp)))
 clear hpz a0 a1 a2
 go_wp2_with (with_reducible first | refine qad ?_ | refine qai ?_ | refine qaj ?_ | refine qak ?_ | refine qag ?_)
 refine qcl rfl g4 #[.int .i64 av, .slice aa an ac, .int .i64 ar] rfl GZ.out Tryz.underlying27 rfl (by kernel_rfl) rfl ?_
 exact ⟨_, by rw [R.out]; rfl, HBZ.out, by rw [RT.out]; exact HTZ.out.tr⟩
end Go.Proofs.YthhgfhdmfhnklaaGreatDoor
namespace Go.Proofs
open Go.Shelf
def TryzT.lays171_ren : Go.Shelf.Ren := ⟨fun | 171 => 110 | 243 => 143 | 246 => 164 | 283 => 168 | 284 => 169 | 285 => 170 | 286 => 171 | 129 => 175 | 317 => 174 | 318 => 176 | 319 => 177 | 320 => 178 | 337 => 183 | 338 => 184 | n => n, fun | 3 => 3 | 9 => 9 | 2 => 2 | 4 => 4 | 171 => 213 | 0 => 0 | 53 => 185 | 37 => 127 | 5 => 5 | 173 => 216 | 212 => 221 | 51 => 156 | 20 => 20 | 213 => 222 | 46 => 186 | 232 => 231 | 233 => 232 | n => n, fun | 17 => 0 | 18 => 4 | 19 => 5 | n => n⟩
theorem TryzT.lays171 : Go.Proofs.Lays.n171 Tryz.prog TryzT.lays171_ren := {
 mixed := by kernel_rfl
 f129 := Tryz.func175.trans (congrArg some (by kernel_rfl))
 f171 := Tryz.func110.trans (congrArg some (by kernel_rfl))
 f243 := Tryz.func143.trans (congrArg some (by kernel_rfl))
 f246 := Tryz.func164.trans (congrArg some (by kernel_rfl))
 f283 := Tryz.func168.trans (congrArg some (by kernel_rfl))
 f284 := Tryz.func169.trans (congrArg some (by kernel_rfl))
 f285 := Tryz.func170.trans (congrArg some (by kernel_rfl))
 f286 := Tryz.func171.trans (congrArg some (by kernel_rfl))
 f317 := Tryz.func174.trans (congrArg some (by kernel_rfl))
 f318 := Tryz.func176.trans (congrArg some (by kernel_rfl))
 f319 := Tryz.func177.trans (congrArg some (by kernel_rfl))
 f320 := Tryz.func178.trans (congrArg some (by kernel_rfl))
 f337 := Tryz.func183.trans (congrArg some (by kernel_rfl))
 f338 := Tryz.func184.trans (congrArg some (by kernel_rfl))
 t0 := Tryz.underlying0
 a0 := Tryz.isAgg0
 z0 := Tryz.sizeOf0
 v0 := Tryz.zeroValue0
 t2 := Tryz.underlying2
 a2 := Tryz.isAgg2
 z2 := Tryz.sizeOf2
 v2 := Tryz.zeroValue2
 t3 := Tryz.underlying3
 a3 := Tryz.isAgg3
 z3 := Tryz.sizeOf3
 v3 := Tryz.zeroValue3
 t4 := Tryz.underlying4
 a4 := Tryz.isAgg4
 z4 := Tryz.sizeOf4
 v4 := Tryz.zeroValue4
 t5 := Tryz.underlying5
 a5 := Tryz.isAgg5
 z5 := Tryz.sizeOf5
 v5 := Tryz.zeroValue5
 t9 := Tryz.underlying9
 a9 := Tryz.isAgg9
 z9 := Tryz.sizeOf9
 v9 := Tryz.zeroValue9
 t20 := Tryz.underlying20
 a20 := Tryz.isAgg20
 z20 := Tryz.sizeOf20
 v20 := Tryz.zeroValue20
 t37 := Tryz.underlying127
 a37 := Tryz.isAgg127
 z37 := Tryz.sizeOf127
 v37 := Tryz.zeroValue127
 t46 := Tryz.underlying186
 a46 := Tryz.isAgg186
 z46 := Tryz.sizeOf186
 v46 := Tryz.zeroValue186
 t51 := Tryz.underlying156
 a51 := Tryz.isAgg156
 z51 := Tryz.sizeOf156
 v51 := Tryz.zeroValue156
 t53 := Tryz.underlying185
 a53 := Tryz.isAgg185
 z53 := Tryz.sizeOf185
 v53 := Tryz.zeroValue185
 t171 := Tryz.underlying213
 a171 := Tryz.isAgg213
 z171 := Tryz.sizeOf213
 v171 := Tryz.zeroValue213
 t173 := Tryz.underlying216
 a173 := Tryz.isAgg216
 z173 := Tryz.sizeOf216
 v173 := Tryz.zeroValue216
 t212 := Tryz.underlying221
 a212 := Tryz.isAgg221
 z212 := Tryz.sizeOf221
 v212 := Tryz.zeroValue221
 t213 := Tryz.underlying222
 a213 := Tryz.isAgg222
 z213 := Tryz.sizeOf222
 t232 := Tryz.underlying231
 a232 := Tryz.isAgg231
 z232 := Tryz.sizeOf231
 v232 := Tryz.zeroValue231
 t233 := Tryz.underlying232
 a233 := Tryz.isAgg232
 z233 := Tryz.sizeOf232
 v233 := Tryz.zeroValue232
 g17 := by kernel_rfl
 g18 := by kernel_rfl
 g19 := by kernel_rfl }
open Go.RowKit Go.Sort Go.Lib in
/-- THE ROAD WITHOUT THE TABLE: 0 <= i < 100: NO PREMISE ON THE WORLD, AND THE WORLD IS AS IT WAS: a row that keeps its argument in that range need list no table ('laid = []'). (LAID: no walk: one application.) -/
theorem TryzT.strconv_Itoa_small (i : Nat) (hi : i < 100) (w : World) :
  Calls Tryz.prog 110 #[.int .i64 i] w fun e w' => e = .returned (.string ⟨(Lib.decDigits i).toArray⟩) ∧ w' = w := Any.strconv_Itoa_small TryzT.lays171 i hi w
end Go.Proofs
namespace Go.Proofs.YthhgfhdmfhnklaaGreatDoor
open Go.RowKit Go.ChangeShapes Go.WideShapes
def KeepB (b : Nat) (w w' : World) : Prop := ∀ k cs T, k ≠ b → w.heap[k]? = some (.cells cs T) → T ≠ 5 → w'.heap[k]? = some (.cells cs T)
theorem qet {b : Nat} {x y z : World} (h : KeepB b x y) (k : KeepB b y z) : KeepB b x z := fun i cs T hi hc hT => k i cs T hi (h i cs T hi hc hT) hT
theorem keepB_below {b : Nat} {x y : World} (h : Below x.heap.size x y) : KeepB b x y := fun _ _ _ _ hc _ => qaa hc h
theorem writeString_k (B b : Nat) (bs : List Value) (s : ByteArray) (w : World) (h : Lib.IsBuilder 129 5 B b bs w) (hlen : bs.length + s.size ≤ 140737488355328) (hBw : B ≤ w.heap.size) :
  Calls Tryz.prog 109 #[.pointer (some ⟨b, 0, none⟩), .string s] w fun e w' => e = .returned (.tuple #[.int .i64 s.size, .nilIface]) ∧ (Lib.IsBuilder 129 5 B b (bs ++ Lib.strCells s) w' ∧ Below B w w' ∧ KeepB b w w') := by
 obtain ⟨i0, hi, hz0, hz1, hz2⟩ := info_parts Tryz.infoByte
 have hcc : Calls Tryz.prog 142 #[.pointer (some ⟨b, 0, none⟩)] w fun e w' => e = .returned (.tuple #[]) ∧ (Lib.BuilderAt 129 5 B b (.pointer (some ⟨b, 0, none⟩)) bs w' ∧ Below B w w' ∧ KeepB b w w') := by
  rcases h with h | h
  ·refine (copyCheck_fresh b w h.cell0 h.shape h.frozen0).mono ?_
   rintro e w' ⟨rfl, rfl⟩
   exact ⟨rfl, h.used _, (Below.refl B w).setCell (p := ⟨b, 0, none⟩) h.1 _, fun k cs T hk hc _ => by rw [Below.heap_setCell _ _ _ _ hk]; exact hc⟩
  ·refine (copyCheck_used b w h.cell0).mono ?_
   rintro e w' ⟨rfl, rfl⟩
   exact ⟨rfl, h, Below.refl B _, fun k cs T _ hc _ => hc⟩
 go_enter Tryz.func109, Tryz.ntmps109
 go_wp2_with fail
 (with_reducible refine hcc.mono ?_)
 rintro e w1 ⟨rfl, h1, hb1, hk1⟩
 obtain ⟨hB, v, hbk, hown, hne⟩ := h1
 have c0 : w1.cell? ⟨b, 0, none⟩ = some (.pointer (some ⟨b, 0, none⟩)) := by rw [Lib.cell_of_heap hbk]; rfl
 have c1 : w1.cell? ⟨b, 1, none⟩ = some v := by rw [Lib.cell_of_heap hbk]; rfl
 go_wp2_with (at_builtin; refine Lib.wpList_append_own_string _ rfl _ _ 127 9 rfl B 5 i0 Tryz.underlying127 Tryz.underlying9 hi hz0 hz1 hz2 _ _ _ rfl hown s rfl ?c3 ?c4 ?c5 ?_)
 case c3 => unfold maxLen; omega
 case c4 => omega
 case c5 => have := hb1.size; omega
 intro v' w2 hown' hgrow _
 have hlt : b < w1.heap.size := (Array.getElem?_eq_some_iff.1 hbk).1
 have hb2 : w2.heap[b]? = some (.cells #[.pointer (some ⟨b, 0, none⟩), v] 129 (0, 0)) := by
  rw [hgrow.block b hlt (fun e => hne e.symm)]
  exact hbk
 have hk2 : KeepB b w1 w2 := fun k cs T hk hc hT => by
  rw [hgrow.block k (Array.getElem?_eq_some_iff.1 hc).1 (fun e => ?_)]
  ·exact hc
  ·rcases hown.2 with ⟨hv, _⟩ | ⟨g, cap, cur, hv, _, hh, _⟩
   ·rw [hv] at e; cases e
   ·rw [hv] at e
    simp only [Value.ownBlock, Option.some.injEq] at e
    subst e
    rw [hc] at hh; cases hh; exact hT rfl
 have d0 : w2.cell? ⟨b, 0, none⟩ = some (.pointer (some ⟨b, 0, none⟩)) := by rw [Lib.cell_of_heap hb2]; rfl
 have d1 : w2.cell? ⟨b, 1, none⟩ = some v := by rw [Lib.cell_of_heap hb2]; rfl
 have f1 : w2.frozen? ⟨b, 1, none⟩ = false := Lib.frozen_of_heap hb2 1
 obtain ⟨ao, n', cap, rfl⟩ : ∃ ao n' cap, v' = .slice ao n' cap := by
  rcases hown'.2 with ⟨hv, _⟩ | ⟨g, cap, cur, hv, _⟩
  ·exact ⟨_, _, _, hv⟩
  ·exact ⟨_, _, _, hv⟩
 go_wp2
 go_ret2
 refine ⟨rfl, ?_, ?_, ?_⟩
 ·exact .inr (Lib.BuilderAt.put (T := 129) (e := 5) hB hb2 (bs' := bs ++ Lib.strCells s) (by simpa [Lib.strCells_length] using hown') (by decide))
 ·exact (hb1.grown hgrow (by have := hb1.size; omega) (fun k hk => (hown.lt k hk).1)).setCell (p := ⟨b, 1, none⟩) hB _
 ·exact qet hk1 (qet hk2 (fun k cs T hk hc _ => by rw [Below.heap_setCell _ _ _ _ hk]; exact hc))

theorem isB_below {T e : TypeId} {B b : Nat} {bs : List Value} {w w' : World} (h : Lib.IsBuilder T e B b bs w) (hb : Below w.heap.size w w') : Lib.IsBuilder T e B b bs w' := by
 rcases h with ⟨h1, v, h2, h3, h4⟩ | ⟨h1, v, h2, h3, h4⟩
 ·exact .inl ⟨h1, v, qaa h2 hb, qcg h3 hb, h4⟩
 ·exact .inr ⟨h1, v, qaa h2 hb, qcg h3 hb, h4⟩
def dgs (i : Int) : List UInt8 := Lib.decDigits i.toNat
def trText : Tr → List UInt8
 | .mk v [a, b] _ => [91] ++ dgs v ++ [32] ++ (trText a ++ ([32] ++ (trText b ++ [93])))
 | .mk _ _ r => dgs r
def trRs : Tr → Prop
 | .mk _ [a, b] _ => trRs a ∧ trRs b
 | .mk _ _ r => 0 ≤ r ∧ r < 100
theorem bcell_app (l : List UInt8) (s : ByteArray) : Lib.byteCells l ++ Lib.strCells s = Lib.byteCells (l ++ s.data.toList) := by
 simp [Lib.byteCells, Lib.strCells]
theorem write_any (V : Nat) (hV : V ≤ 24) : ∀ (N : Nat) (t : Tr), SizeOf.sizeOf t < N → ∀ (x : Value) (l : List UInt8) (B b above : Nat) (w0 w : World), TrV w0 x t → Below w0.heap.size w0 w → w0.heap.size ≤ B → B ≤ w.heap.size → qej V t above → trRs t →
  Lib.IsBuilder 129 5 B b (Lib.byteCells l) w → l.length + (trText t).length ≤ 1000000 →
  Calls Tryz.prog 71 #[.pointer (some ⟨b, 0, none⟩), x] w fun e w' => e = .returned (.tuple #[]) ∧ Lib.IsBuilder 129 5 B b (Lib.byteCells (l ++ trText t)) w' ∧ Below B w w' ∧ KeepB b w w'
 | 0, _, h, _, _, _, _, _, _, _, _, _, _, _, _, _, _, _ => by omega
 | N + 1, .mk v0 [] r, hN, x, l, B, b, above, w0, w, ht, hb0, hB0, hBw, hok, hrs, hbl, hlen => by
  obtain ⟨ao, c, rfl, hks, hc1, hc2, hv, hr⟩ := ht.open
  simp only [List.length_nil, trText] at hks hc1 hlen ⊢
  simp only [trRs] at hrs
  obtain ⟨w1, hw1⟩ : ∃ w1, w1 = w.alloc (.cells #[.int .i64 v0, .slice ao 0 c, .int .i64 r] 27) := ⟨_, rfl⟩
  have hb1 : Below w.heap.size w w1 := by rw [hw1]; exact qBA _ _
  have hbl1 : Lib.IsBuilder 129 5 B b (Lib.byteCells l) w1 := isB_below hbl hb1
  obtain ⟨R, rfl⟩ : ∃ R : Nat, r = R := ⟨r.toNat, by omega⟩
  have HI := qHd (fun wx => TryzT.strconv_Itoa_small R (by omega) wx)
  obtain ⟨S, hS⟩ : ∃ S, S = (⟨(Lib.decDigits R).toArray⟩ : ByteArray) := ⟨_, rfl⟩
  rw [← hS] at HI
  have hSd : S.data.toList = dgs (R : Int) := by rw [hS]; simp [dgs]
  have hSs : S.size = (dgs (R : Int)).length := by rw [hS]; simp [dgs, ByteArray.size]
  have HW := qHd (writeString_k B b (Lib.byteCells l) S w1 hbl1 (by rw [hSs]; simp [Lib.byteCells]; omega) (Nat.le_trans hBw hb1.size))
  rw [bcell_app, hSd] at HW
  have HB1 := qHd hb1
  clear hS hSd hSs hbl1 hbl hb1 hks ht
  go_enter Tryz.func71, Tryz.ntmps71
  go_wp2_with (with_reducible refine qad ?_)
  rw [← hw1]; clear hw1
  refine qap.mk ?_
  (with_reducible refine (HI.out _).mono ?_); rintro e wx ⟨rfl, rfl⟩
  go_wp2_with (with_reducible refine qad ?_)
  refine qap.mk ?_
  (with_reducible refine HW.out.mono ?_); rintro e w2 ⟨rfl, hbl2, hb2, hk2⟩
  go_wp2_with fail
  (try simp only [Exit.inBlock, Exit.then]); refine bodyPost_ret (results_none rfl _ _ _) rfl ?_
  exact ⟨rfl, hbl2, (HB1.out.mono hBw).trans hb2, qet (keepB_below HB1.out) hk2⟩
 | N + 1, .mk v0 [ta, tb] r, hN, x, l, B, b, above, w0, w, ht, hb0, hB0, hBw, hok, hrs, hbl, hlen => by
  simp only [qej] at hok
  obtain ⟨q0, q1, q2, rfl, hoa, hob⟩ := hok
  obtain ⟨vn, rfl⟩ : ∃ vn : Nat, v0 = vn := ⟨v0.toNat, by omega⟩
  have hvn : vn < V := by omega
  simp only [trRs] at hrs
  obtain ⟨hra, hrb⟩ := hrs
  obtain ⟨ao, c, rfl, hks, hc1, hc2, _, _⟩ := ht.open
  simp only [List.length_cons, List.length_nil] at hks hc1 ⊢
  obtain ⟨bk, ok, rfl, hbk, hjk, hat⟩ := hks.at (by decide); clear hjk hks ht
  obtain ⟨kva, kra, kaa, kna, kca, ca0, ca1, ca2, hTVa⟩ := (hat 0 ta rfl).val
  obtain ⟨kvb, krb, kab, knb, kcb, cb0, cb1, cb2, hTVb⟩ := (hat 1 tb rfl).val
  simp only [Nat.zero_mul, Nat.add_zero, Nat.one_mul] at ca0 ca1 ca2 cb0 cb1 cb2
  have hsa : SizeOf.sizeOf ta < N := by have := qcj (v := (vn : Int)) (r := 0) (ks := [ta, tb]) (k := ta) (by simp); omega
  have hsb : SizeOf.sizeOf tb < N := by have := qcj (v := (vn : Int)) (r := 0) (ks := [ta, tb]) (k := tb) (by simp); omega
  have KA := qHd (And.intro ca0 (And.intro ca1 ca2)); have KB := qHd (And.intro cb0 (And.intro cb1 cb2))
  have HTA := qHd hTVa; have HTB := qHd hTVb; have HSA := qHd hsa; have HSB := qHd hsb; have HOA := qHd hoa; have HOB := qHd hob; have HRA := qHd hra; have HRB := qHd hrb
  clear ca0 ca1 ca2 cb0 cb1 cb2 hat hTVa hTVb hsa hsb hoa hob q0 q1 q2 hra hrb
  simp only [trText, List.length_append, List.length_cons, List.length_nil] at hlen
  obtain ⟨w1, hw1, hb1, hg1⟩ := qBx3 w (.cells #[.int .i64 (vn : Nat), .slice (some ⟨bk, ok, none⟩) 2 c, .int .i64 0] 27)
  have hbl1 : Lib.IsBuilder 129 5 B b (Lib.byteCells l) w1 := isB_below hbl hb1
  have hbne : w.heap.size ≠ b := by
   have : b < w.heap.size := by rcases hbl with h | h <;> (obtain ⟨_, _, h2, _⟩ := h; exact (Array.getElem?_eq_some_iff.1 h2).1)
   omega
  obtain ⟨g1, hG1⟩ : ∃ g, g = w.heap.size := ⟨_, rfl⟩
  rw [← hG1] at hg1 hbne
  have HI := qHd (fun wx => TryzT.strconv_Itoa_small vn (by omega) wx)
  obtain ⟨S, hS⟩ : ∃ S, S = (⟨(Lib.decDigits vn).toArray⟩ : ByteArray) := ⟨_, rfl⟩
  rw [← hS] at HI
  obtain ⟨S2, hS2⟩ : ∃ S2, S2 = (⟨#[91]⟩ : ByteArray) ++ S ++ ⟨#[32]⟩ := ⟨_, rfl⟩
  have hSd : S2.data.toList = [91] ++ dgs (vn : Int) ++ [32] := by rw [hS2, hS]; simp [dgs]
  have hSl : S.size = (dgs (vn : Int)).length := by rw [hS]; simp [dgs, ByteArray.size]
  have hSs : S2.size = (dgs (vn : Int)).length + 2 := by rw [hS2, ByteArray.size_append, ByteArray.size_append, hSl]; have e1 : (⟨#[91]⟩ : ByteArray).size = 1 := rfl; have e2 : (⟨#[32]⟩ : ByteArray).size = 1 := rfl; omega
  have HW := qHd (writeString_k B b (Lib.byteCells l) S2 w1 hbl1 (by rw [hSs]; simp [Lib.byteCells]; omega) (Nat.le_trans hBw hb1.size))
  rw [bcell_app, hSd] at HW
  have HB1 := qHd hb1; have G1 := qHd hg1; have HS2 := qHd hS2
  have hlS : S.size ≤ 1000000 := by omega
  have e91 : (⟨#[91]⟩ : ByteArray).size = 1 := rfl
  have e32 : (⟨#[32]⟩ : ByteArray).size = 1 := rfl
  have hlS1 : ((⟨#[91]⟩ : ByteArray) ++ S).size ≤ 1000001 := by rw [ByteArray.size_append]; omega
  obtain ⟨x0, x1, x2⟩ := qay hg1
  rw [hw1, hG1] at x0 x1 x2
  clear hS hS2 hSd hSs hSl hbl1 hbl hb1 hg1
  go_enter Tryz.func71, Tryz.ntmps71
  go_wp2_with (with_reducible refine qad ?_)
  rw [← hw1, ← hG1]; clear hw1 hG1 x0 x1 x2
  refine qap.mk ?_
  (with_reducible refine (HI.out _).mono ?_); rintro e wx ⟨rfl, rfl⟩
  go_wp2_with (with_reducible refine qad ?_)
  refine qap.mk ?_
  rw [← HS2.out]
  (with_reducible refine HW.out.mono ?_); rintro e w2 ⟨rfl, hbl2, hb2, hk2⟩
  have SZ := qHd (Nat.le_trans (Nat.le_trans hBw HB1.out.size) hb2.size); have BT := qHd ((HB1.out.mono hBw).trans hb2); have B0 := qHd ((hb0.trans (HB1.out.mono hb0.size)).trans (hb2.mono hB0)); have KP := qHd (qet (keepB_below HB1.out) hk2); have BL := qHd hbl2
  have G1 := qHd (hk2 g1 _ _ hbne G1.out (by decide))
  clear HW hbl2 hb2 hk2 HB1 HS2 HI hb0
  obtain ⟨x0, x1, x2⟩ := qay G1.out
  have k0 := (B0.out.cell (p := ⟨bk, _, none⟩) hbk).trans KA.out.1; have k1 := (B0.out.cell (p := ⟨bk, _, none⟩) hbk).trans KA.out.2.1; have k2 := (B0.out.cell (p := ⟨bk, _, none⟩) hbk).trans KA.out.2.2
  have hbkl : bk < w2.heap.size := Nat.lt_of_lt_of_le hbk B0.out.size
  have HW := qHd (write_any V hV N ta HSA.out _ _ B b _ w0 w2 HTA.out B0.out hB0 SZ.out HOA.out HRA.out BL.out (by simp only [List.length_append, List.length_cons, List.length_nil]; omega))
  go_wp2_with (with_reducible refine qad ?_)
  clear x0 x1 x2 k0 k1 k2 hbkl
  refine qap.mk ?_
  (with_reducible refine HW.out.mono ?_); rintro e w3 ⟨rfl, hbl3, hb3, hk3⟩
  have SZ := qHd (Nat.le_trans SZ.out hb3.size); have BT := qHd (BT.out.trans hb3); have B0 := qHd (B0.out.trans (hb3.mono hB0)); have KP := qHd (qet KP.out hk3); have BL := qHd hbl3
  have G1 := qHd (hk3 g1 _ _ hbne G1.out (by decide))
  clear HW hbl3 hb3 hk3
  have HW := qHd (writeString_k B b _ (⟨#[32]⟩ : ByteArray) w3 BL.out (by simp only [Lib.byteCells, List.length_map, List.length_append, List.length_cons, List.length_nil]; have e1 : (⟨#[32]⟩ : ByteArray).size = 1 := rfl; omega) SZ.out)
  rw [bcell_app, show (⟨#[32]⟩ : ByteArray).data.toList = [32] from rfl] at HW
  go_wp2_with (with_reducible refine qad ?_)
  refine qap.mk ?_
  (with_reducible refine HW.out.mono ?_); rintro e w4 ⟨rfl, hbl4, hb4, hk4⟩
  have SZ := qHd (Nat.le_trans SZ.out hb4.size); have BT := qHd (BT.out.trans hb4); have B0 := qHd (B0.out.trans (hb4.mono hB0)); have KP := qHd (qet KP.out hk4); have BL := qHd hbl4
  have G1 := qHd (hk4 g1 _ _ hbne G1.out (by decide))
  clear HW hbl4 hb4 hk4
  obtain ⟨x0, x1, x2⟩ := qay G1.out
  have k0 := (B0.out.cell (p := ⟨bk, _, none⟩) hbk).trans KB.out.1; have k1 := (B0.out.cell (p := ⟨bk, _, none⟩) hbk).trans KB.out.2.1; have k2 := (B0.out.cell (p := ⟨bk, _, none⟩) hbk).trans KB.out.2.2
  have hbkl : bk < w4.heap.size := Nat.lt_of_lt_of_le hbk B0.out.size
  have HW := qHd (write_any V hV N tb HSB.out _ _ B b _ w0 w4 HTB.out B0.out hB0 SZ.out HOB.out HRB.out BL.out (by simp only [List.length_append, List.length_cons, List.length_nil]; omega))
  go_wp2_with (with_reducible refine qad ?_)
  clear x0 x1 x2 k0 k1 k2 hbkl
  refine qap.mk ?_
  (with_reducible refine HW.out.mono ?_); rintro e w5 ⟨rfl, hbl5, hb5, hk5⟩
  have SZ := qHd (Nat.le_trans SZ.out hb5.size); have BT := qHd (BT.out.trans hb5); have B0 := qHd (B0.out.trans (hb5.mono hB0)); have KP := qHd (qet KP.out hk5); have BL := qHd hbl5
  have G1 := qHd (hk5 g1 _ _ hbne G1.out (by decide))
  clear HW hbl5 hb5 hk5
  have HW := qHd (writeString_k B b _ (⟨#[93]⟩ : ByteArray) w5 BL.out (by simp only [Lib.byteCells, List.length_map, List.length_append, List.length_cons, List.length_nil]; have e1 : (⟨#[93]⟩ : ByteArray).size = 1 := rfl; omega) SZ.out)
  rw [bcell_app, show (⟨#[93]⟩ : ByteArray).data.toList = [93] from rfl] at HW
  go_wp2_with (with_reducible refine qad ?_)
  refine qap.mk ?_
  (with_reducible refine HW.out.mono ?_); rintro e w6 ⟨rfl, hbl6, hb6, hk6⟩
  have SZ := qHd (Nat.le_trans SZ.out hb6.size); have BT := qHd (BT.out.trans hb6); have B0 := qHd (B0.out.trans (hb6.mono hB0)); have KP := qHd (qet KP.out hk6); have BL := qHd hbl6
  have G1 := qHd (hk6 g1 _ _ hbne G1.out (by decide))
  clear HW hbl6 hb6 hk6
  go_wp2_with fail
  go_end0
  exact ⟨rfl, by have := BL.out; simp only [trText, List.append_assoc] at this ⊢; exact this, BT.out, KP.out⟩
 | N + 1, .mk _ [_] _, _, _, _, _, _, _, _, _, _, _, _, _, hok, _, _, _ => by simp only [qej] at hok
 | N + 1, .mk _ (_ :: _ :: _ :: _) _, _, _, _, _, _, _, _, _, _, _, _, _, hok, _, _, _ => by simp only [qej] at hok

theorem sptext_any (x : Value) (t : Tr) (V : Nat) (w : World) (hV : V ≤ 24) (ht : TrV w x t) (hc : (qbh V t 0 0).2 = 0) (hrs : trRs t) (hlen : (trText t).length ≤ 1000000) :
  Calls Tryz.prog 36 #[x, .int .i64 (V : Nat)] w (qea w (.tuple #[.string ⟨(trText t).toArray⟩, .nilIface])) := by
 obtain ⟨v, r, ao, kn, c, rfl⟩ := ht.shape
 obtain ⟨W, hW, hbW, hg1⟩ := qBx3 w (.cells #[.int .i64 v, .slice ao kn c, .int .i64 r] 27)
 have hk := scheck_any _ t V W (ht.below hbW) ⟨by omega, by omega⟩
 rw [hc, qbi] at hk
 have HK := qHd hk
 obtain ⟨k1, _, _⟩ := qfh t 0 0 _ (Prod.ext rfl hc : qbh V t 0 0 = ((qbh V t 0 0).1, 0))
 have HBW := qHd hbW; have G1 := qHd hg1; have HT := qHd ht; have HOK := qHd k1
 clear hbW hg1 hk ht k1 hc
 go_enter Tryz.func36, Tryz.ntmps36
 go_wp2_with (with_reducible refine qad ?_)
 rw [← hW]; clear hW
 refine qap.mk ?_
 (with_reducible refine HK.out.mono ?_); rintro e w1 ⟨rfl, hb1⟩
 have HB1 := qHd (HBW.out.trans (hb1.mono HBW.out.size)); have G1 := qHd (qaa G1.out hb1)
 clear hb1 HK
 obtain ⟨x0, x1, x2⟩ := qay G1.out
 have hltb := qaw G1.out
 have hbl := Lib.fresh_isBuilder 129 5 w1
 obtain ⟨w2, hw2⟩ : ∃ w2, w2 = w1.alloc (.cells #[.pointer none, .slice none 0 0] 129) := ⟨_, rfl⟩
 rw [← hw2] at hbl
 have hb2 : Below w1.heap.size w1 w2 := by rw [hw2]; exact qBA _ _
 have HB2 := qHd (HB1.out.trans (hb2.mono HB1.out.size))
 have HK := qHd (write_any V hV _ t (Nat.lt_succ_self _) _ [] w1.heap.size w1.heap.size 0 w w2 HT.out HB2.out HB1.out.size hb2.size HOK.out hrs hbl (by simpa using hlen))
 have hsz := hb2.size
 clear hb2 hbl
 go_wp2_with (with_reducible refine qad ?_)
 rw [← hw2]; clear hw2 x0 x1 x2
 refine qap.mk ?_
 (with_reducible refine HK.out.mono ?_); rintro e w3 ⟨rfl, hbl3, hb3, hk3⟩
 have HB3 := qHd (HB2.out.trans (hb3.mono HB1.out.size))
 rw [List.nil_append] at hbl3
 have HS := qHd (Tryz.Builder_String_any w1.heap.size w1.heap.size (trText t) w3 hbl3 (Nat.le_trans hsz hb3.size))
 clear hbl3 hb3 hk3 HK
 go_wp2_with (with_reducible refine qad ?_)
 refine qap.mk ?_
 (with_reducible refine HS.out.mono ?_); rintro e w4 ⟨rfl, hb4⟩
 have HB4 := qHd (HB3.out.trans (hb4.mono HB1.out.size))
 clear hb4 HS
 go_wp2_with fail
 go_ret2
 exact ⟨rfl, HB4.out⟩
def exF : Fm := ⟨3, [⟨2, 0, [1, 2]⟩, ⟨3, 0, [0, 3]⟩], 4⟩
def rvOf (q : Rat) : Rv := ⟨ng q, wd (nn q), wd (dn q)⟩
def exL : List Rv := [rvOf (1 / 2), rvOf (1 / 3), rvOf (1 / 4)]
theorem ex_err : qcc exF = 0 := by decide
theorem ex_m3 : mErr exF 3 = 0 := by unfold mErr; rw [ex_err]; decide
theorem ex_m1 : mErr exF 1 = 0 := by unfold mErr; rw [ex_err]; decide
def exT3 : Tr := .mk 0 [.mk 1 [.mk 0 [] 0, .mk 2 [.mk 0 [] 0, .mk 0 [] 1] 0] 0, .mk 0 [] 1] 0
def exT1 : Tr := .mk 0 [.mk 0 [] 2, .mk 0 [] 1] 0
theorem ex_t3 : mTr exF 3 = exT3 := by unfold mTr; rw [if_pos ex_m3]; rfl
theorem ex_t1 : mTr exF 1 = exT1 := by unfold mTr; rw [if_pos ex_m1]; rfl
theorem ex_c3 : qbh 3 exT3 0 0 = (7, 0) := by decide +kernel
theorem ex_c1 : qbh 3 exT1 0 0 = (3, 0) := by decide +kernel
theorem ex_l3 : qah exT3 0 0 = [⟨0, 3, 0⟩, ⟨2, 5, 0⟩, ⟨6, 1, 1⟩, ⟨1, 0, 1⟩] := by simp [exT3, qah]
theorem ex_l1 : qah exT1 0 0 = [⟨0, 1, 2⟩, ⟨1, 0, 1⟩] := by simp [exT1, qah]
theorem ex_q : exL.map Rv.q = [1 / 2, 1 / 3, 1 / 4] := by decide +kernel
theorem ex_p : ∀ r ∈ exL, prB r.s r.a r.b = true := by decide +kernel
theorem ex_ce3 : cErr exF exT3 = 0 := by unfold cErr; rw [if_neg (by rw [ex_err]; decide)]; show (qbh 3 exT3 0 0).2 = 0; rw [ex_c3]
theorem ex_ce1 : cErr exF exT1 = 0 := by unfold cErr; rw [if_neg (by rw [ex_err]; decide)]; show (qbh 3 exT1 0 0).2 = 0; rw [ex_c1]
theorem ex_any : (exL.any fun r => !prB r.s r.a r.b) = false := by
 rw [List.any_eq_false]; intro r hr; rw [ex_p r hr]; decide
theorem ex_s3 : sErr exF exT3 exL = 0 := by
 unfold sErr
 rw [if_neg (by rw [ex_ce3]; decide), if_neg (by decide), if_neg (by rw [ex_any]; decide), if_neg (by rw [ex_l3]; decide)]
theorem ex_s1 : sErr exF exT1 exL = 0 := by
 unfold sErr
 rw [if_neg (by rw [ex_ce1]; decide), if_neg (by decide), if_neg (by rw [ex_any]; decide), if_neg (by rw [ex_l1]; decide)]
theorem ex_v : valC exF exT3 exL = (13 / 24, 0) := by
 unfold valC
 rw [if_neg (by rw [ex_s3]; decide), if_neg (by rw [ex_l3]; decide), ex_l3, ex_q]
 decide +kernel
theorem ex_b : bndV exF exT1 exL = (1 / 2, 1) := by
 unfold bndV
 rw [if_pos ex_s1, ex_l1, ex_q]
 decide +kernel
theorem ex_x : rtx (13 / 24) = [49, 51, 47, 50, 52] := by decide +kernel
theorem ex_x2 : rtx (1 / 2) = [49, 47, 50] := by decide +kernel
theorem ex_x1 : rtx 1 = [49] := by decide +kernel
theorem ex_tt : trText exT3 = [91, 48, 32, 91, 49, 32, 48, 32, 91, 50, 32, 48, 32, 49, 93, 93, 32, 49, 93] := by decide +kernel
theorem ex_rs : trRs exT3 := by simp [exT3, trRs]
theorem ex_sm : ∀ r ∈ exL, r.a.length ≤ 3 ∧ r.b.length ≤ 3 ∧ rl r.q ≤ 3 := by decide +kernel
theorem leftKs_drop {ks : List Tr} {j d : Nat} {m : Int} {t : Tr} (h : ks[j]? = some t) (hm : 0 ≤ m) : leftKs (ks.drop j) m d = leftKs (ks.drop (j + 1)) (leftT t m d) d := by
 obtain ⟨h1, h2⟩ := List.getElem?_eq_some_iff.1 h
 rw [List.drop_eq_getElem_cons h1, h2]; simp only [leftKs]; rw [if_neg (by omega)]
theorem leftKs_dropn {ks : List Tr} {j d : Nat} {m : Int} {t : Tr} (h : ks[j]? = some t) (hm : m < 0) : leftKs (ks.drop j) m d = -1 := by
 obtain ⟨h1, h2⟩ := List.getElem?_eq_some_iff.1 h
 rw [List.drop_eq_getElem_cons h1, h2]; simp only [leftKs]; rw [if_pos hm]
theorem tleft_any : ∀ (N : Nat) (t : Tr), SizeOf.sizeOf t < N → ∀ (x : Value) (most : Int) (d : Nat) (w : World), TrV w x t → 0 ≤ most → most ≤ 1000 → d ≤ 101 →
  Calls Tryz.prog 67 #[x, .int .i64 most, .int .i64 (d : Nat)] w (qea w (.int .i64 (leftT t most d)))
 | 0, _, h, _, _, _, _, _, _, _, _ => by omega
 | N + 1, .mk v ks r, hN, x, most, d, w, ht, hm0, hm1, hd => by
  obtain ⟨ao, c, rfl, hks, hc1, hc2, hv, hr⟩ := ht.open
  obtain ⟨w1, hw1⟩ : ∃ w1, w1 = w.alloc (.cells #[.int .i64 v, .slice ao ks.length c, .int .i64 r] 27) := ⟨_, rfl⟩
  have hb1 : Below w.heap.size w w1 := by rw [hw1]; exact qBA _ _
  have HB := qHd hb1; have HKS := qHd hks
  clear hks hb1 ht
  have RW : Hid (w1 = w.alloc (.cells #[.int .i64 v, .slice ao ks.length c, .int .i64 r] 27)) := qHd hw1
  by_cases a1 : 100 < d
  ·have R := qHd (show leftT (.mk v ks r) most d = -1 by unfold leftT; rw [if_pos (.inl a1)])
   have a1' : (100 : Int) < (d : Int) := by omega
   go_enter Tryz.func67, Tryz.ntmps67
   go_wp2_with fail
   go_ret
   exact ⟨by rw [R.out]; rfl, by rw [← RW.out]; exact HB.out⟩
  by_cases a2 : 10 < ks.length
  ·have R := qHd (show leftT (.mk v ks r) most d = -1 by unfold leftT; rw [if_pos (.inr a2)])
   have a2' : (10 : Int) < (ks.length : Int) := by omega
   go_enter Tryz.func67, Tryz.ntmps67
   go_wp2_with fail
   go_ret
   exact ⟨by rw [R.out]; rfl, by rw [← RW.out]; exact HB.out⟩
  have TE := qHd (show leftT (.mk v ks r) most d = leftKs ks (most - 1) (d + 1) by unfold leftT; rw [if_neg (by omega)])
  have a2' : (ks.length : Int) ≤ 10 := by omega
  go_enter Tryz.func67, Tryz.ntmps67
  go_wp2_with fail
  rw [← hw1]; clear hw1 RW
  go_loopw [22, 1] (fun i' mm wx => ∃ (j : Nat) (m : Int), j ≤ ks.length ∧ i' = .int .i64 j ∧ mm = .int .i64 m ∧ -1 ≤ m ∧ m ≤ 1000 ∧ Hid (Below w1.heap.size w1 wx) ∧ Hid (leftKs ks (most - 1) (d + 1) = leftKs (ks.drop j) m (d + 1))) (fun i' _ _ => ks.length - (intOf i').toNat)
  case atStart => exact ⟨0, most - 1, by omega, rfl, rfl, by omega, by omega, qHd (Below.refl _ _), qHd rfl⟩
  case round =>
   obtain ⟨j, m, hj, rfl, rfl, hma, hmb, BW, TS⟩ := hrel
   obtain ⟨wo, rfl⟩ : ∃ wo : World, wo = wr := ⟨_, rfl⟩
   have HBo := qHd (HB.out.trans (BW.out.mono HB.out.size))
   by_cases hlt : j < ks.length
   ·obtain ⟨t', ht'⟩ : ∃ t', ks[j]? = some t' := ⟨ks[j], List.getElem?_eq_getElem hlt⟩
    obtain ⟨bk, ok, rfl, hbk, hjk, hat⟩ := (HKS.out.below HBo.out).at (by omega); clear hjk
    obtain ⟨kv, kr, ka, kn, kc, c0, c1, c2, hTV⟩ := (hat j t' ht').val
    have hltz : (j : Int) < (ks.length : Int) := by omega
    obtain ⟨w4, hw4⟩ : ∃ w4, w4 = wo.alloc (.cells #[.int .i64 kv, .slice ka kn kc, .int .i64 kr] 27) := ⟨_, rfl⟩
    have hb4 : Below wo.heap.size wo w4 := by rw [hw4]; exact qBA _ _
    have HB4 := qHd (HBo.out.trans (hb4.mono HBo.out.size)); have BW4 := qHd (BW.out.trans (hb4.mono BW.out.size))
    by_cases hm : m < 0
    ·have R := qHd (show leftT (.mk v ks r) most d = -1 by rw [TE.out, TS.out, leftKs_dropn ht' hm])
     clear ht' hat hTV
     go_wp2_with fail
     go_ret
     exact ⟨by rw [R.out]; rfl, by rw [hw4] at HB4; exact HB4.out⟩
    ·have hsz : SizeOf.sizeOf t' < N := by have := qcj (v := v) (r := r) (List.mem_of_getElem? ht'); omega
     have hk := tleft_any N t' hsz _ m (d + 1) w4 (hTV.below hb4) (by omega) (by omega) (by omega)
     rw [show ((d + 1 : Nat) : Int) = (d : Int) + 1 from rfl] at hk
     have HK := qHd hk
     have TS2 := qHd (show leftKs ks (most - 1) (d + 1) = leftKs (ks.drop (j + 1)) (leftT t' m (d + 1)) (d + 1) by rw [TS.out, leftKs_drop ht' (by omega)])
     have hr := leftT_range t' m (d + 1) (by omega)
     obtain ⟨m2, hm2⟩ : ∃ m2, m2 = leftT t' m (d + 1) := ⟨_, rfl⟩
     rw [← hm2] at TS2 HK hr
     clear ht' hat hTV hk hb4 hm2 hsz
     go_wp2_with (with_reducible refine qad ?_)
     rw [← hw4]; clear hw4 c0 c1 c2
     refine qap.mk ?_
     (with_reducible refine HK.out.mono ?_); rintro e w5 ⟨rfl, hb5⟩
     have BW5 := qHd (BW4.out.trans (hb5.mono BW4.out.size))
     clear hb5 HK
     go_wp2_with fail
     go_roundw
     case rel => exact ⟨j + 1, m2, by omega, by go_num, rfl, by omega, by omega, qHd BW5.out, qHd TS2.out⟩
     case measure => simp [intOf]; omega
   ·have hj' : j = ks.length := by omega
    subst hj'
    have R := qHd (show leftT (.mk v ks r) most d = m by rw [TE.out, TS.out, List.drop_length]; rfl)
    go_wp2_with fail
    go_ret
    exact ⟨by rw [R.out]; rfl, HBo.out⟩
theorem few_any (x : Value) (t : Tr) (w : World) (ht : TrV w x t) :
  Calls Tryz.prog 33 #[x, .int .i64 300] w (qea w (.bool (decide (0 ≤ leftT t 300 0)))) := by
 obtain ⟨v, r, ao, kn, c, rfl⟩ := ht.shape
 obtain ⟨W, hW⟩ : ∃ W, W = w.alloc (.cells #[.int .i64 v, .slice ao kn c, .int .i64 r] 27) := ⟨_, rfl⟩
 have hbW : Below w.heap.size w W := by rw [hW]; exact qBA _ _
 have hk := tleft_any _ t (Nat.lt_succ_self _) _ 300 0 W (ht.below hbW) (by decide) (by decide) (by decide)
 rw [show ((0 : Nat) : Int) = 0 from rfl] at hk
 have HK := qHd hk
 have HBW := qHd hbW
 clear hbW ht hk
 go_enter Tryz.func33, Tryz.ntmps33
 go_wp2_with (with_reducible refine qad ?_)
 rw [← hW]; clear hW
 refine qap.mk ?_
 (with_reducible refine HK.out.mono ?_); rintro e w6 ⟨rfl, hb6⟩
 have hb7 := HBW.out.trans (hb6.mono HBW.out.size)
 clear hb6 HK HBW
 go_wp2_with fail
 go_ret
 exact ⟨rfl, hb7⟩
def qfn (f : Fm) (t : Tr) : Bool := decide (f.nodes.length ≤ 200) && (decide (0 ≤ leftT t 300 0) && (f.nodes.all (fun n => decide (n.args.length ≤ 40)) && (decide (qcc f ≠ 0) || (decide (f.vars ≤ 8) && decide (f.nodes.length ≤ 20)))))
theorem light_any (vf x : Value) (f : Fm) (t : Tr) (w : World) (hf : FmV w vf f) (ht : TrV w x t) :
  Calls Tryz.prog 9 #[vf, x] w (qea w (.bool (qfn f t))) := by
 obtain ⟨nv, rfl, hn, hv, htp⟩ := hf
 obtain ⟨ao, c, rfl, hc, hc2, _⟩ := hn.shape
 have HF := qHd (show FmV w _ f from ⟨_, rfl, hn, hv, htp⟩)
 have HT := qHd ht
 obtain ⟨tv, tr, ta, tn, tc, rfl⟩ := ht.shape
 obtain ⟨W, hW, hbW, hg1, hg2⟩ := qBx2 w (.cells #[.int .i64 f.vars, .slice ao f.nodes.length c, .int .i64 f.top] 24) (.cells #[.int .i64 tv, .slice ta tn tc, .int .i64 tr] 27)
 obtain ⟨g1, hG1⟩ : ∃ g, g = w.heap.size := ⟨_, rfl⟩
 obtain ⟨g2, hG2⟩ : ∃ g, g = w.heap.size + 1 := ⟨_, rfl⟩
 rw [← hG1] at hg1; rw [← hG2] at hg2
 have HBW := qHd hbW; have G1 := qHd hg1; have G2 := qHd hg2
 obtain ⟨x0, x1, x2⟩ := qay hg1
 obtain ⟨y0, y1, y2⟩ := qay hg2
 rw [hW, hG1] at x0 x1 x2
 rw [hW, hG2] at y0 y1 y2
 clear hbW hg1 hg2 hn hv htp ht
 go_enter Tryz.func9, Tryz.ntmps9
 by_cases a1 : 200 < f.nodes.length
 ·have R := qHd (show qfn f t = false by unfold qfn; rw [decide_eq_false (by omega), Bool.false_and])
  have a1' : (200 : Int) < (f.nodes.length : Int) := by omega
  go_wp2_with fail
  go_ret
  exact ⟨by rw [R.out]; rfl, by rw [hW] at HBW; exact HBW.out⟩
 have a1' : (f.nodes.length : Int) ≤ 200 := by omega
 have E1 := qHd (show qfn f t = (decide (0 ≤ leftT t 300 0) && (f.nodes.all (fun n => decide (n.args.length ≤ 40)) && (decide (qcc f ≠ 0) || (decide (f.vars ≤ 8) && decide (f.nodes.length ≤ 20))))) by unfold qfn; rw [decide_eq_true (by omega), Bool.true_and])
 have HK := qHd (few_any _ t W (HT.out.below HBW.out))
 go_wp2_with (with_reducible refine qad ?_)
 rw [← hW, ← hG2, ← hG1]; clear hW hG1 hG2 x0 x1 x2 y0 y1 y2
 refine qap.mk ?_
 (with_reducible refine HK.out.mono ?_); rintro e w1 ⟨rfl, hb1⟩
 have HB1 := qHd (HBW.out.trans (hb1.mono HBW.out.size)); have G1 := qHd (qaa G1.out hb1)
 clear hb1 HK G2 a1
 obtain ⟨fw, hfw⟩ : ∃ b, b = decide (0 ≤ leftT t 300 0) := ⟨_, rfl⟩
 rw [← hfw] at E1 ⊢; clear hfw
 cases fw with
 | false =>
  have R := qHd (E1.out.trans (Bool.false_and _))
  go_wp2_with fail
  go_ret
  exact ⟨by rw [R.out]; rfl, HB1.out⟩
 | true =>
  have E2 := qHd (E1.out.trans (Bool.true_and _))
  obtain ⟨x0, x1, x2⟩ := qay G1.out
  clear E1
  go_wp2_with fail
  clear x0 x1 x2
  go_loopw [19] (fun i' wx => ∃ q : Nat, q ≤ f.nodes.length ∧ i' = .int .i64 q ∧ Hid (Below w1.heap.size w1 wx) ∧ Hid (∀ n ∈ f.nodes.take q, decide (n.args.length ≤ 40) = true)) (fun i' _ => f.nodes.length - (intOf i').toNat)
  case atStart => exact ⟨0, Nat.zero_le _, rfl, qHd (Below.refl _ _), qHd (by simp)⟩
  case round =>
   obtain ⟨q, hq, rfl, BX, PR⟩ := hrel
   obtain ⟨wo, rfl⟩ : ∃ wo : World, wo = wr := ⟨_, rfl⟩
   have HBo := qHd (HB1.out.trans (BX.out.mono HB1.out.size)); have G1 := qHd (qaa G1.out BX.out)
   by_cases hlt : q < f.nodes.length
   ·obtain ⟨n, hn⟩ : ∃ n, f.nodes[q]? = some n := ⟨f.nodes[q], List.getElem?_eq_getElem hlt⟩
    obtain ⟨nv, hnv, hnd, _, _⟩ := HF.out.below HBo.out
    cases hnv
    obtain ⟨bn, on, rfl, hbn, hjk, hatn⟩ := hnd.at (by omega); clear hjk hnd
    obtain ⟨c0, c1, ⟨va, c2, hI⟩, _, _⟩ := hatn q n hn
    obtain ⟨aa, ca, rfl, hca, hca2, _⟩ := hI.shape
    have HN := qHd hn
    have hltz : (q : Int) < (f.nodes.length : Int) := by omega
    have hb4 : Below wo.heap.size wo (wo.alloc (.cells #[.int .i64 n.kind, .int .i64 n.K, .slice aa n.args.length ca] 82)) := (Below.refl _ _).alloc (Nat.le_refl _) _
    have BX4 := qHd (BX.out.trans (hb4.mono BX.out.size)); have HB4 := qHd (HBo.out.trans (hb4.mono HBo.out.size))
    clear hatn hI hb4 hn
    by_cases h40 : 40 < n.args.length
    ·have R := qHd (show qfn f t = false by
      rw [E2.out, show (f.nodes.all fun n => decide (n.args.length ≤ 40)) = false from by
       rw [List.all_eq_false]; exact ⟨n, List.mem_of_getElem? HN.out, by simp; omega⟩, Bool.false_and])
     have h40' : (40 : Int) < (n.args.length : Int) := by omega
     go_wp2_with fail
     go_ret
     exact ⟨by rw [R.out]; rfl, HB4.out⟩
    ·have h40' : (n.args.length : Int) ≤ 40 := by omega
     go_wp2_with fail
     go_roundw
     case rel => exact ⟨q + 1, by omega, by go_num, qHd BX4.out, qHd (fun z hz => by
      rw [qen HN.out] at hz
      rcases List.mem_append.1 hz with hz | hz
      ·exact PR.out z hz
      ·rw [List.mem_singleton] at hz; subst hz; exact decide_eq_true (by omega))⟩
     case measure => simp [intOf]; omega
   ·have hq' : q = f.nodes.length := by omega
    subst hq'
    have PR2 := PR.out
    rw [List.take_length] at PR2
    have E3 := qHd (show qfn f t = (decide (qcc f ≠ 0) || (decide (f.vars ≤ 8) && decide (f.nodes.length ≤ 20))) by rw [E2.out, List.all_eq_true.2 PR2, Bool.true_and])
    have HK := qHd (rfcheck_any _ f wo (HF.out.below HBo.out))
    obtain ⟨x0, x1, x2⟩ := qay G1.out
    have HE := qHd (And.intro trivial (fmErr_lt f))
    obtain ⟨fe, hfe⟩ : ∃ x, x = qcc f := ⟨_, rfl⟩
    rw [← hfe] at HK E3; clear hfe HE PR PR2 E2
    go_wp2_with (with_reducible refine qad ?_)
    clear x0 x1 x2
    refine qap.mk ?_
    (with_reducible refine HK.out.mono ?_); rintro e w5 ⟨rfl, hb5⟩
    have HB5 := qHd (HBo.out.trans (hb5.mono HBo.out.size))
    obtain ⟨x0, x1, x2⟩ := qay (qaa G1.out hb5)
    clear hb5 HK
    by_cases e1 : fe = 0
    ·subst e1
     by_cases e2 : f.vars ≤ 8
     ·by_cases e3 : f.nodes.length ≤ 20
      ·have R := qHd (show qfn f t = true by rw [E3.out]; simp [e2, e3])
       have e3' : (f.nodes.length : Int) ≤ 20 := by omega
       go_wp2_with fail
       go_ret
       exact ⟨by rw [R.out]; first | rfl | (simp; done) | (simp; omega), HB5.out⟩
      ·have R := qHd (show qfn f t = false by rw [E3.out, decide_eq_false e3]; simp)
       have e3' : ¬ (f.nodes.length : Int) ≤ 20 := by omega
       go_wp2_with fail
       go_ret
       exact ⟨by rw [R.out]; first | rfl | (simp; done) | (simp; omega), HB5.out⟩
     ·have R := qHd (show qfn f t = false by rw [E3.out]; simp [e2])
      go_wp2_with fail
      go_ret
      exact ⟨by rw [R.out]; first | rfl | (simp; done) | (simp; omega), HB5.out⟩
    ·have R := qHd (show qfn f t = true by rw [E3.out]; simp [e1])
     have e1' : ((fe : Int) != 0) = true := bne_iff_ne.2 (by omega)
     go_wp2_with fail
     go_ret
     exact ⟨by rw [R.out]; first | rfl | (simp; done) | (simp; omega), HB5.out⟩
theorem own_rvs {w : World} {B : Nat} {e : TypeId} {v : Value} {l : List Rv} {xs : List Value} (h : w.ownsRow B e 3 v l.length xs)
  (hx : ∀ (j : Nat) r, l[j]? = some r → ∃ x0 x1 x2, xs[j * 3]? = some x0 ∧ xs[j * 3 + 1]? = some x1 ∧ xs[j * 3 + 2]? = some x2 ∧ RatV w (.agg #[x0, x1, x2]) r.s r.a r.b) : RvsV w v l := by
 obtain ⟨ao, c, rfl, h1, h2, h3⟩ := qff h
 refine ⟨ao, c, rfl, h1, h2, h3, ?_⟩
 intro b off s hs
 subst hs
 by_cases h0 : 0 < l.length
 ·obtain ⟨g, e1, e2, e3, e4, e5, e6⟩ := own_cells h rfl h0
  cases e1
  refine ⟨fun _ => ⟨e3, rfl⟩, fun j r hj => ?_⟩
  obtain ⟨x0, x1, x2, k0, k1, k2, va, vb, he, k3, k4⟩ := hx j r hj
  cases he
  rw [Nat.zero_add]
  exact ⟨_, _, e6 _ _ k0, e6 _ _ k1, e6 _ _ k2, k3, k4⟩
 ·have : l = [] := List.eq_nil_of_length_eq_zero (by omega)
  subst this
  exact ⟨fun h => absurd h (Nat.lt_irrefl _), fun j x hj => by simp at hj⟩
def ExS (w : World) (B q : Nat) (v : Value) (xs : List Value) : Prop :=
 OwnL w B 54 3 v q xs ∧ noU xs ∧ xs.length = q * 3 ∧ ∀ (j : Nat) r, (exL.take q)[j]? = some r → ∃ x0 x1 x2, xs[j * 3]? = some x0 ∧ xs[j * 3 + 1]? = some x1 ∧ xs[j * 3 + 2]? = some x2 ∧ RatV w (.agg #[x0, x1, x2]) r.s r.a r.b
theorem ExS.below {w w' : World} {B q : Nat} {v : Value} {xs : List Value} (h : ExS w B q v xs) (hb : Below w.heap.size w w') : ExS w' B q v xs :=
 ⟨h.1.below hb, h.2.1, h.2.2.1, fun j r hj => by obtain ⟨x0, x1, x2, k0, k1, k2, k3⟩ := h.2.2.2 j r hj; exact ⟨x0, x1, x2, k0, k1, k2, k3.below hb⟩⟩
theorem ExS.next {w w' : World} {B q : Nat} {v v' : Value} {xs : List Value} {x0 x1 x2 : Value} {r : Rv} (h : ExS w B q v xs) (hr : exL[q]? = some r) (ho : OwnL w' B 54 3 v' (q + 1) (xs ++ [x0, x1, x2])) (hg : w.grownBy w' v.ownBlock) (hn : noU [x0, x1, x2]) (hx : RatV w (.agg #[x0, x1, x2]) r.s r.a r.b) : ExS w' B (q + 1) v' (xs ++ [x0, x1, x2]) := by
 refine ⟨ho, noU_app h.2.1 hn, by rw [List.length_append, h.2.2.1]; simp; omega, fun j z hj => ?_⟩
 rw [qen hr] at hj
 have hl : (exL.take q).length = q := by rw [List.length_take]; have := (List.getElem?_eq_some_iff.1 hr).1; omega
 have hxl := h.2.2.1
 by_cases hjq : j < q
 ·rw [List.getElem?_append_left (by omega)] at hj
  obtain ⟨y0, y1, y2, k0, k1, k2, k3⟩ := h.2.2.2 j z hj
  exact ⟨y0, y1, y2, by rw [List.getElem?_append_left (by omega)]; exact k0, by rw [List.getElem?_append_left (by omega)]; exact k1, by rw [List.getElem?_append_left (by omega)]; exact k2, grown_V hg h.1 k3⟩
 ·rw [List.getElem?_append_right (by omega), hl] at hj
  have hj0 : j = q := by
   rcases Nat.lt_or_ge 0 (j - q) with h' | h'
   ·have := (List.getElem?_eq_some_iff.1 hj).1; simp at this; omega
   ·omega
  subst hj0
  rw [Nat.sub_self] at hj
  cases hj
  exact ⟨x0, x1, x2, by rw [List.getElem?_append_right (by omega), hxl, Nat.sub_self]; rfl, by rw [List.getElem?_append_right (by omega), hxl, show j * 3 + 1 - j * 3 = 1 by omega]; rfl, by rw [List.getElem?_append_right (by omega), hxl, show j * 3 + 2 - j * 3 = 2 by omega]; rfl, grown_V hg h.1 hx⟩
def RetEx (w : World) (e : Ending) (w' : World) : Prop := ∃ vf vp, e = .returned (.tuple #[vf, vp]) ∧ Below w.heap.size w w' ∧ FmV w' vf exF ∧ RvsV w' vp exL
theorem ints_two {w : World} {g : Nat} {a b : Int} {T : TypeId} (h : w.heap[g]? = some (.cells #[.int .i64 a, .int .i64 b] T)) (ha : I64 a) (hb : I64 b) : qfd w (.slice (some ⟨g, 0, none⟩) 2 2) [a, b] := by
 obtain ⟨x0, x1⟩ := qcy h
 refine ⟨_, _, rfl, Nat.le_refl _, by omega, (fun h => by cases h), ?_, ?_⟩
 ·intro b' off s hs
  cases hs
  refine ⟨fun _ => ⟨qaw h, rfl⟩, fun j x hj => ?_⟩
  match j with
  | 0 => cases hj; exact x0
  | 1 => cases hj; exact x1
  | j + 2 => simp at hj
 ·intro x hx
  simp only [List.mem_cons, List.not_mem_nil, or_false] at hx
  rcases hx with rfl | rfl
  ·exact ha
  ·exact hb
theorem nds_two {w : World} {g : Nat} {n0 n1 : Nd} {a0 a1 : Value} {T : TypeId} (h : w.heap[g]? = some (.cells #[.int .i64 n0.kind, .int .i64 n0.K, a0, .int .i64 n1.kind, .int .i64 n1.K, a1] T)) (h0 : qfd w a0 n0.args) (h1 : qfd w a1 n1.args)
  (k0 : I64 n0.kind ∧ I64 n0.K) (k1 : I64 n1.kind ∧ I64 n1.K) : NdsV w (.slice (some ⟨g, 0, none⟩) 2 2) [n0, n1] := by
 obtain ⟨x0, x1, x2, x3, x4, x5⟩ := row6 h
 refine ⟨_, _, rfl, Nat.le_refl _, by omega, (fun h => by cases h), ?_⟩
 intro b' off s hs
 cases hs
 refine ⟨fun _ => ⟨qaw h, rfl⟩, fun j x hj => ?_⟩
 match j with
 | 0 => cases hj; exact ⟨x0, x1, ⟨_, x2, h0⟩, k0.1, k0.2⟩
 | 1 => cases hj; exact ⟨x3, x4, ⟨_, x5, h1⟩, k1.1, k1.2⟩
 | j + 2 => simp at hj
theorem noWf {a b : Int} {o : Option Addr} {n c : Nat} : noW #[Value.int .i64 a, .slice o n c, .int .i64 b] := by
 intro j n; match j with
 | 0 => simp
 | 1 => simp
 | 2 => simp
 | j + 3 => simp
theorem example_any (w : World) : Calls Tryz.prog 35 #[] w (RetEx w) := by
 obtain ⟨g0, hG0⟩ : ∃ g, g = w.heap.size := ⟨_, rfl⟩
 obtain ⟨g1, hG1⟩ : ∃ g, g = w.heap.size + 1 := ⟨_, rfl⟩
 obtain ⟨g2, hG2⟩ : ∃ g, g = w.heap.size + 1 + 1 := ⟨_, rfl⟩
 obtain ⟨g3, hG3⟩ : ∃ g, g = w.heap.size + 1 + 1 + 1 := ⟨_, rfl⟩
 obtain ⟨g4, hG4⟩ : ∃ g, g = w.heap.size + 1 + 1 + 1 + 1 := ⟨_, rfl⟩
 obtain ⟨g5, hG5⟩ : ∃ g, g = w.heap.size + 1 + 1 + 1 + 1 + 1 := ⟨_, rfl⟩
 obtain ⟨w1, hw1⟩ : ∃ x, x = w.alloc (.cells #[.int .i64 0, .slice none 0 0, .int .i64 0] 24) := ⟨_, rfl⟩
 have hs1 : w1.heap.size = w.heap.size + 1 := by rw [hw1]; simp
 have hb1 : Below w.heap.size w w1 := by rw [hw1]; exact qBA _ _
 have hh1 : w1.heap[g0]? = some (.cells #[.int .i64 0, .slice none 0 0, .int .i64 0] 24) := by rw [show g0 = w.heap.size by omega, hw1]; exact heap_alloc_new _ _
 obtain ⟨w2, hw2⟩ : ∃ x, x = w1.alloc (.cells #[.int .i64 1, .int .i64 2] 3) := ⟨_, rfl⟩
 have hs2 : w2.heap.size = w1.heap.size + 1 := by rw [hw2]; simp
 have hb2 : Below w1.heap.size w1 w2 := by rw [hw2]; exact qBA _ _
 have hh2 : w2.heap[g1]? = some (.cells #[.int .i64 1, .int .i64 2] 3) := by rw [show g1 = w1.heap.size by omega, hw2]; exact heap_alloc_new _ _
 obtain ⟨w3, hw3⟩ : ∃ x, x = w2.alloc (.cells #[.int .i64 0, .int .i64 3] 3) := ⟨_, rfl⟩
 have hs3 : w3.heap.size = w2.heap.size + 1 := by rw [hw3]; simp
 have hb3 : Below w2.heap.size w2 w3 := by rw [hw3]; exact qBA _ _
 have hh3 : w3.heap[g2]? = some (.cells #[.int .i64 0, .int .i64 3] 3) := by rw [show g2 = w2.heap.size by omega, hw3]; exact heap_alloc_new _ _
 obtain ⟨w4, hw4⟩ : ∃ x, x = w3.alloc (.cells #[.int .i64 2, .int .i64 0, .slice (some ⟨g1, 0, none⟩) 2 2, .int .i64 3, .int .i64 0, .slice (some ⟨g2, 0, none⟩) 2 2] 82) := ⟨_, rfl⟩
 have hs4 : w4.heap.size = w3.heap.size + 1 := by rw [hw4]; simp
 have hb4 : Below w3.heap.size w3 w4 := by rw [hw4]; exact qBA _ _
 have hh4 : w4.heap[g3]? = some (.cells #[.int .i64 2, .int .i64 0, .slice (some ⟨g1, 0, none⟩) 2 2, .int .i64 3, .int .i64 0, .slice (some ⟨g2, 0, none⟩) 2 2] 82) := by rw [show g3 = w3.heap.size by omega, hw4]; exact heap_alloc_new _ _
 obtain ⟨w5, hw5⟩ : ∃ x, x = w4.alloc (.cells #[.int .i64 3, .slice (some ⟨g3, 0, none⟩) 2 2, .int .i64 4] 24) := ⟨_, rfl⟩
 have hs5 : w5.heap.size = w4.heap.size + 1 := by rw [hw5]; simp
 have hb5 : Below w4.heap.size w4 w5 := by rw [hw5]; exact qBA _ _
 have hh5 : w5.heap[g4]? = some (.cells #[.int .i64 3, .slice (some ⟨g3, 0, none⟩) 2 2, .int .i64 4] 24) := by rw [show g4 = w4.heap.size by omega, hw5]; exact heap_alloc_new _ _
 obtain ⟨w6, hw6⟩ : ∃ x, x = w5.alloc (.cells #[.int .i64 2, .int .i64 3, .int .i64 4] 3) := ⟨_, rfl⟩
 have hs6 : w6.heap.size = w5.heap.size + 1 := by rw [hw6]; simp
 have hb6 : Below w5.heap.size w5 w6 := by rw [hw6]; exact qBA _ _
 have hh6 : w6.heap[g5]? = some (.cells #[.int .i64 2, .int .i64 3, .int .i64 4] 3) := by rw [show g5 = w5.heap.size by omega, hw6]; exact heap_alloc_new _ _
 have HB6 := qHd (show Below w.heap.size w w6 from (((((hb1.trans (hb2.mono (by omega))).trans (hb3.mono (by omega))).trans (hb4.mono (by omega))).trans (hb5.mono (by omega))).trans (hb6.mono (by omega))))
 have G0 := qHd (qaa (qaa (qaa (qaa (qaa hh1 hb2) hb3) hb4) hb5) hb6)
 have G1 := qHd (qaa (qaa (qaa (qaa hh2 hb3) hb4) hb5) hb6)
 have G2 := qHd (qaa (qaa (qaa hh3 hb4) hb5) hb6)
 have G3 := qHd (qaa (qaa hh4 hb5) hb6)
 have G4 := qHd (qaa hh5 hb6)
 have G5 := qHd hh6
 have l0 : w.heap.size ≤ g0 := by omega
 have lg : g0 < w6.heap.size ∧ g1 < w6.heap.size ∧ g2 < w6.heap.size ∧ g3 < w6.heap.size ∧ g4 < w6.heap.size := by omega
 have n10 : g1 ≠ g0 := by omega
 have n20 : g2 ≠ g0 := by omega
 have n30 : g3 ≠ g0 := by omega
 clear hs1 hb1 hh1 hs2 hb2 hh2 hs3 hb3 hh3 hs4 hb4 hh4 hs5 hb5 hh5 hs6 hb6 hh6
 go_enter Tryz.func35, Tryz.ntmps35
 go_wp2_with fail
 rw [← hG5, ← hG4, ← hG3, ← hG2, ← hG1, ← hG0]
 rw [← hw1, ← hw2, ← hw3, ← hw4, ← hw5, ← hw6]
 clear hG0 hw1 hG1 hw2 hG2 hw3 hG3 hw4 hG4 hw5 hG5 hw6
 obtain ⟨B, hB⟩ : ∃ B, B = w6.heap.size := ⟨_, rfl⟩
 go_loopw [16, 3] (fun i' vp wx => ∃ (q : Nat) (xs : List Value), q ≤ 3 ∧ i' = .int .i64 q ∧ Hid (Below B w6 wx) ∧ Hid (ExS wx B q vp xs)) (fun i' _ _ => 3 - (intOf i').toNat)
 case atStart => exact ⟨0, [], by omega, rfl, qHd (Below.refl _ _), qHd ⟨OwnL.nil _ _ _ _, noU0, rfl, fun j r hj => by simp at hj⟩⟩
 case round =>
  obtain ⟨q, xs, hq, rfl, BX, EX⟩ := hrel
  obtain ⟨wo, rfl⟩ : ∃ wo : World, wo = wr := ⟨_, rfl⟩
  have BX6 := qHd (show Below w6.heap.size w6 wo from hB ▸ BX.out)
  have hsz := BX.out.size
  by_cases hlt : q < 3
  ·obtain ⟨c0, c1, c2⟩ := qay (qaa G5.out BX6.out)
   have hq3 : q = 0 ∨ q = 1 ∨ q = 2 := by omega
   rcases hq3 with rfl | rfl | rfl
   ·have HK := qHd (rmake_any 1 2 wo (by decide) (by decide) (by decide) (by decide))
    go_wp2_with (with_reducible refine qad ?_)
    clear c0 c1 c2
    refine qap.mk ?_
    (with_reducible refine HK.out.mono ?_); rintro e w7 ⟨vx, rfl, hb7, hn7⟩
    have hn7 : IsR w7 vx (1 / 2) := (show ((1 : Int) : Rat) / ((2 : Int) : Rat) = 1 / 2 by decide +kernel) ▸ hn7
    obtain ⟨sx, ox, nx, cx, ax, mx, dx, rfl⟩ := hn7.shape
    obtain ⟨w8, hw8⟩ : ∃ x, x = (w7.alloc (.cells #[.bool sx, .slice ox nx cx, .slice ax mx dx] 54)).alloc (.cells #[.bool sx, .slice ox nx cx, .slice ax mx dx] 54) := ⟨_, rfl⟩
    have hb8 : Below w7.heap.size w7 w8 := by rw [hw8]; exact ((Below.refl _ _).alloc (Nat.le_refl _) _).alloc (by simp) _
    have hz8 : w8.heap[w7.heap.size + 1]? = some (.cells #[.bool sx, .slice ox nx cx, .slice ax mx dx] 54) := by rw [hw8]; exact heap_alloc2_new w7 _ _
    obtain ⟨gz, hGz⟩ : ∃ g, g = w7.heap.size + 1 := ⟨_, rfl⟩
    rw [← hGz] at hz8
    have hb78 := hb7.trans (hb8.mono hb7.size)
    have BX8 := qHd (BX.out.trans (hb78.mono (by omega))); have EX8 := qHd (EX.out.below hb78); have RV := qHd (hn7.below hb8); have GZ8 := qHd hz8
    clear hb7 hb8 hb78 hz8 hn7 HK
    go_wp2_with (with_reducible refine qby ?_)
    rw [← hw8, ← hGz]; clear hw8 hGz
    refine wpList_appL B Tryz.ratTy rfl noU3 (by decide) _ 0 xs [.bool sx, .slice ox nx cx, .slice ax mx dx] gz 54 rfl rfl EX8.out.1 GZ8.out rfl rfl noU3 EX8.out.2.1 (by decide) (by decide) (by have := BX8.out.size; omega) ?_
    intro v' w9 ho9 hg9 _
    have hx9 := EX8.out.next (r := rvOf (1 / 2)) rfl ho9 hg9 noU3 RV.out
    have BX9 := qHd (OwnL.low EX8.out.1 hg9 BX8.out (by have := BX8.out.size; omega)); have EX9 := qHd hx9
    clear ho9 hg9 hx9
    go_wp2_with fail
    go_roundw
    case rel => exact ⟨1, _, by omega, rfl, qHd BX9.out, qHd EX9.out⟩
    case measure => simp [intOf]
   ·have HK := qHd (rmake_any 1 3 wo (by decide) (by decide) (by decide) (by decide))
    go_wp2_with (with_reducible refine qad ?_)
    clear c0 c1 c2
    refine qap.mk ?_
    (with_reducible refine HK.out.mono ?_); rintro e w7 ⟨vx, rfl, hb7, hn7⟩
    have hn7 : IsR w7 vx (1 / 3) := (show ((1 : Int) : Rat) / ((3 : Int) : Rat) = 1 / 3 by decide +kernel) ▸ hn7
    obtain ⟨sx, ox, nx, cx, ax, mx, dx, rfl⟩ := hn7.shape
    obtain ⟨w8, hw8⟩ : ∃ x, x = (w7.alloc (.cells #[.bool sx, .slice ox nx cx, .slice ax mx dx] 54)).alloc (.cells #[.bool sx, .slice ox nx cx, .slice ax mx dx] 54) := ⟨_, rfl⟩
    have hb8 : Below w7.heap.size w7 w8 := by rw [hw8]; exact ((Below.refl _ _).alloc (Nat.le_refl _) _).alloc (by simp) _
    have hz8 : w8.heap[w7.heap.size + 1]? = some (.cells #[.bool sx, .slice ox nx cx, .slice ax mx dx] 54) := by rw [hw8]; exact heap_alloc2_new w7 _ _
    obtain ⟨gz, hGz⟩ : ∃ g, g = w7.heap.size + 1 := ⟨_, rfl⟩
    rw [← hGz] at hz8
    have hb78 := hb7.trans (hb8.mono hb7.size)
    have BX8 := qHd (BX.out.trans (hb78.mono (by omega))); have EX8 := qHd (EX.out.below hb78); have RV := qHd (hn7.below hb8); have GZ8 := qHd hz8
    clear hb7 hb8 hb78 hz8 hn7 HK
    go_wp2_with (with_reducible refine qby ?_)
    rw [← hw8, ← hGz]; clear hw8 hGz
    refine wpList_appL B Tryz.ratTy rfl noU3 (by decide) _ 1 xs [.bool sx, .slice ox nx cx, .slice ax mx dx] gz 54 rfl rfl EX8.out.1 GZ8.out rfl rfl noU3 EX8.out.2.1 (by decide) (by decide) (by have := BX8.out.size; omega) ?_
    intro v' w9 ho9 hg9 _
    have hx9 := EX8.out.next (r := rvOf (1 / 3)) rfl ho9 hg9 noU3 RV.out
    have BX9 := qHd (OwnL.low EX8.out.1 hg9 BX8.out (by have := BX8.out.size; omega)); have EX9 := qHd hx9
    clear ho9 hg9 hx9
    go_wp2_with fail
    go_roundw
    case rel => exact ⟨2, _, by omega, rfl, qHd BX9.out, qHd EX9.out⟩
    case measure => simp [intOf]
   ·have HK := qHd (rmake_any 1 4 wo (by decide) (by decide) (by decide) (by decide))
    go_wp2_with (with_reducible refine qad ?_)
    clear c0 c1 c2
    refine qap.mk ?_
    (with_reducible refine HK.out.mono ?_); rintro e w7 ⟨vx, rfl, hb7, hn7⟩
    have hn7 : IsR w7 vx (1 / 4) := (show ((1 : Int) : Rat) / ((4 : Int) : Rat) = 1 / 4 by decide +kernel) ▸ hn7
    obtain ⟨sx, ox, nx, cx, ax, mx, dx, rfl⟩ := hn7.shape
    obtain ⟨w8, hw8⟩ : ∃ x, x = (w7.alloc (.cells #[.bool sx, .slice ox nx cx, .slice ax mx dx] 54)).alloc (.cells #[.bool sx, .slice ox nx cx, .slice ax mx dx] 54) := ⟨_, rfl⟩
    have hb8 : Below w7.heap.size w7 w8 := by rw [hw8]; exact ((Below.refl _ _).alloc (Nat.le_refl _) _).alloc (by simp) _
    have hz8 : w8.heap[w7.heap.size + 1]? = some (.cells #[.bool sx, .slice ox nx cx, .slice ax mx dx] 54) := by rw [hw8]; exact heap_alloc2_new w7 _ _
    obtain ⟨gz, hGz⟩ : ∃ g, g = w7.heap.size + 1 := ⟨_, rfl⟩
    rw [← hGz] at hz8
    have hb78 := hb7.trans (hb8.mono hb7.size)
    have BX8 := qHd (BX.out.trans (hb78.mono (by omega))); have EX8 := qHd (EX.out.below hb78); have RV := qHd (hn7.below hb8); have GZ8 := qHd hz8
    clear hb7 hb8 hb78 hz8 hn7 HK
    go_wp2_with (with_reducible refine qby ?_)
    rw [← hw8, ← hGz]; clear hw8 hGz
    refine wpList_appL B Tryz.ratTy rfl noU3 (by decide) _ 2 xs [.bool sx, .slice ox nx cx, .slice ax mx dx] gz 54 rfl rfl EX8.out.1 GZ8.out rfl rfl noU3 EX8.out.2.1 (by decide) (by decide) (by have := BX8.out.size; omega) ?_
    intro v' w9 ho9 hg9 _
    have hx9 := EX8.out.next (r := rvOf (1 / 4)) rfl ho9 hg9 noU3 RV.out
    have BX9 := qHd (OwnL.low EX8.out.1 hg9 BX8.out (by have := BX8.out.size; omega)); have EX9 := qHd hx9
    clear ho9 hg9 hx9
    go_wp2_with fail
    go_roundw
    case rel => exact ⟨3, _, by omega, rfl, qHd BX9.out, qHd EX9.out⟩
    case measure => simp [intOf]
  ·have hq' : q = 3 := by omega
   subst hq'
   obtain ⟨x0, x1, x2⟩ := qay (qaa G4.out BX6.out)
   have GX0 := qHd (qaa G0.out BX6.out)
   go_wp2_with (with_reducible refine qaf ?_)
   refine qan g0 0 [.int .i64 3, .slice (some ⟨g3, 0, none⟩) 2 2, .int .i64 4] GX0.out rfl rfl (Nat.le_of_ble_eq_true rfl) (by kernel_rfl) rfl ?_
   intro wz hpz
   have GZ := qHd (show wz.heap[g0]? = some (.cells #[.int .i64 3, .slice (some ⟨g3, 0, none⟩) 2 2, .int .i64 4] 24) by rw [hpz]; exact qbd GX0.out)
   have Z1 := qbr hpz (qaa G1.out BX6.out) n10; have Z2 := qbr hpz (qaa G2.out BX6.out) n20; have Z3 := qbr hpz (qaa G3.out BX6.out) n30
   have HBZ := qHd (qbl hpz (HB6.out.trans (BX6.out.mono HB6.out.size)) l0)
   have HFZ := qHd (show FmV wz (.agg #[.int .i64 3, .slice (some ⟨g3, 0, none⟩) 2 2, .int .i64 4]) exF from
    ⟨_, rfl, nds_two (n0 := ⟨2, 0, [1, 2]⟩) (n1 := ⟨3, 0, [0, 3]⟩) Z3 (ints_two Z1 ⟨by decide, by decide⟩ ⟨by decide, by decide⟩) (ints_two Z2 ⟨by decide, by decide⟩ ⟨by decide, by decide⟩) ⟨⟨by decide, by decide⟩, ⟨by decide, by decide⟩⟩ ⟨⟨by decide, by decide⟩, ⟨by decide, by decide⟩⟩, ⟨by decide, by decide⟩, ⟨by decide, by decide⟩⟩)
   have ho := EX.out.1
   have hne := fun e => (by have := (World.ownsRow.lt ho.1 g0 e).1; omega : False)
   have HPZ := qHd (own_rvs (l := exL) (OwnL.put ho hpz hne (by rw [hpz]; exact putL_os2 _ _ _ _)).1 (fun j r hj => by
    obtain ⟨y0, y1, y2, k0, k1, k2, k3⟩ := EX.out.2.2.2 j r hj
    exact ⟨y0, y1, y2, k0, k1, k2, putL_V hpz k3 GX0.out noWf⟩))
   clear hpz x0 x1 x2 Z1 Z2 Z3 ho hne
   go_wp2_with (with_reducible first | refine qad ?_ | refine qai ?_ | refine qaj ?_ | refine qak ?_ | refine qag ?_)
   refine qcl rfl g0 #[.int .i64 3, .slice (some ⟨g3, 0, none⟩) 2 2, .int .i64 4] rfl GZ.out Tryz.underlying24 rfl (by kernel_rfl) rfl ?_
   exact ⟨_, _, rfl, HBZ.out, HFZ.out, HPZ.out⟩
theorem qcx (w : World) : Calls Tryz.prog 10 #[] w (qea w (.bool true)) := by
 go_enter Tryz.func10, Tryz.ntmps10
 go_wp2_with (with_reducible refine qad ?_)
 refine qap.mk ?_
 (with_reducible refine (example_any w).mono ?_); rintro e w1 ⟨vf, vp, rfl, hb1, hf, hp⟩
 have HB := qHd hb1
 obtain ⟨nv, hvf, hn, hv, htp⟩ := hf
 obtain ⟨ao, c, rfl, hc, hc2, _⟩ := hn.shape
 have HF := qHd (show FmV w1 (.agg #[.int .i64 3, .slice ao 2 c, .int .i64 4]) exF from ⟨_, rfl, hn, hv, htp⟩)
 obtain rfl : vf = .agg #[.int .i64 3, .slice ao 2 c, .int .i64 4] := hvf
 have HP := qHd hp
 clear hb1 hn hv htp hp
 obtain ⟨w2, hw2, hb2, b2, hB2, hx2⟩ := qBx5 w1 (.cells #[.int .i64 3, .slice ao 2 c, .int .i64 4] 24)
 have HB := qHd (HB.out.trans (hb2.mono HB.out.size))
 have HF := qHd (HF.out.below hb2)
 have HP := qHd (HP.out.below hb2)
 have X1 := qHd hx2
 clear hb2 hx2
 have HK := qHd (make_f _ exF 3 w2 HF.out ⟨by decide, by decide⟩ (fun _ => by decide))
 rw [ex_m3, ex_t3] at HK
 obtain ⟨l0_0, l0_1, l0_2⟩ := qay X1.out
 try rw [hw2] at l0_0
 try rw [hB2] at l0_0
 try rw [hw2] at l0_1
 try rw [hB2] at l0_1
 try rw [hw2] at l0_2
 try rw [hB2] at l0_2
 go_wp2_with (with_reducible refine qad ?_)
 rw [← hw2, ← hB2]
 clear hw2 hB2 l0_0 l0_1 l0_2
 refine qap.mk ?_
 (with_reducible refine HK.out.mono ?_); rintro e w3 ⟨v3, rfl, hb3, ht3⟩
 rw [qbi]
 have HB := qHd (HB.out.trans (hb3.mono HB.out.size))
 have HF := qHd (HF.out.below hb3)
 have HP := qHd (HP.out.below hb3)
 have X1 := qHd (qaa X1.out hb3)
 obtain ⟨tv, tr, ta, tn, tc, rfl⟩ := ht3.shape
 have HT3 := qHd (show TrV w3 _ exT3 from ht3)
 clear hb3 ht3 HK
 obtain ⟨w4, hw4, hb4, b4, hB4, hx4⟩ := qBx5 w3 (.cells #[.int .i64 tv, .slice ta tn tc, .int .i64 tr] 27)
 have HB := qHd (HB.out.trans (hb4.mono HB.out.size))
 have HF := qHd (HF.out.below hb4)
 have HP := qHd (HP.out.below hb4)
 have HT3 := qHd (HT3.out.below hb4)
 have X1 := qHd (qaa X1.out hb4)
 have X3 := qHd hx4
 clear hb4 hx4
 have HK := qHd (value_c _ _ _ exF exT3 exL w4 HF.out HT3.out HP.out ex_sm (fun _ => by rw [ex_l3]; decide) 0 ex_s3)
 rw [ex_v] at HK
 obtain ⟨l0_0, l0_1, l0_2⟩ := qay X1.out
 try rw [hw4] at l0_0
 try rw [hB4] at l0_0
 try rw [hw4] at l0_1
 try rw [hB4] at l0_1
 try rw [hw4] at l0_2
 try rw [hB4] at l0_2
 obtain ⟨l1_0, l1_1, l1_2⟩ := qay X3.out
 try rw [hw4] at l1_0
 try rw [hB4] at l1_0
 try rw [hw4] at l1_1
 try rw [hB4] at l1_1
 try rw [hw4] at l1_2
 try rw [hB4] at l1_2
 go_wp2_with (with_reducible refine qad ?_)
 rw [← hw4, ← hB4]
 clear hw4 hB4 l0_0 l0_1 l0_2 l1_0 l1_1 l1_2
 refine qap.mk ?_
 (with_reducible refine HK.out.mono ?_); rintro e w5 ⟨v5, rfl, hb5, hn5⟩
 have HB := qHd (HB.out.trans (hb5.mono HB.out.size))
 have HF := qHd (HF.out.below hb5)
 have HP := qHd (HP.out.below hb5)
 have HT3 := qHd (HT3.out.below hb5)
 have X1 := qHd (qaa X1.out hb5)
 have X3 := qHd (qaa X3.out hb5)
 obtain ⟨sv, ov, nv, cv, av, mv, dv, rfl⟩ := hn5.shape
 have IV := qHd hn5
 clear hb5 hn5 HK
 obtain ⟨w6, hw6, hb6, b6, hB6, hx6⟩ := qBx5 w5 (.cells #[.bool sv, .slice ov nv cv, .slice av mv dv] 54)
 have HB := qHd (HB.out.trans (hb6.mono HB.out.size))
 have HF := qHd (HF.out.below hb6)
 have HP := qHd (HP.out.below hb6)
 have HT3 := qHd (HT3.out.below hb6)
 have IV := qHd (IV.out.below hb6)
 have X1 := qHd (qaa X1.out hb6)
 have X3 := qHd (qaa X3.out hb6)
 have X5 := qHd hx6
 clear hb6 hx6
 have HK := qHd (make_f _ exF 1 w6 HF.out ⟨by decide, by decide⟩ (fun _ => by decide))
 rw [ex_m1, ex_t1] at HK
 obtain ⟨l0_0, l0_1, l0_2⟩ := qay X1.out
 try rw [hw6] at l0_0
 try rw [hB6] at l0_0
 try rw [hw6] at l0_1
 try rw [hB6] at l0_1
 try rw [hw6] at l0_2
 try rw [hB6] at l0_2
 go_wp2_with (with_reducible refine qad ?_)
 rw [← hw6, ← hB6]
 clear hw6 hB6 l0_0 l0_1 l0_2
 refine qap.mk ?_
 (with_reducible refine HK.out.mono ?_); rintro e w7 ⟨v7, rfl, hb7, ht7⟩
 rw [qbi]
 have HB := qHd (HB.out.trans (hb7.mono HB.out.size))
 have HF := qHd (HF.out.below hb7)
 have HP := qHd (HP.out.below hb7)
 have HT3 := qHd (HT3.out.below hb7)
 have IV := qHd (IV.out.below hb7)
 have X1 := qHd (qaa X1.out hb7)
 have X3 := qHd (qaa X3.out hb7)
 have X5 := qHd (qaa X5.out hb7)
 obtain ⟨uv, ur, ua, un, uc, rfl⟩ := ht7.shape
 have HT7 := qHd (show TrV w7 _ exT1 from ht7)
 clear hb7 ht7 HK
 obtain ⟨w8, hw8, hb8, b8, hB8, hx8⟩ := qBx5 w7 (.cells #[.int .i64 uv, .slice ua un uc, .int .i64 ur] 27)
 have HB := qHd (HB.out.trans (hb8.mono HB.out.size))
 have HF := qHd (HF.out.below hb8)
 have HP := qHd (HP.out.below hb8)
 have HT3 := qHd (HT3.out.below hb8)
 have IV := qHd (IV.out.below hb8)
 have HT7 := qHd (HT7.out.below hb8)
 have X1 := qHd (qaa X1.out hb8)
 have X3 := qHd (qaa X3.out hb8)
 have X5 := qHd (qaa X5.out hb8)
 have X7 := qHd hx8
 clear hb8 hx8
 have HK := qHd (bounds_any _ _ _ exF exT1 exL w8 HF.out HT7.out HP.out ex_sm (fun _ => by rw [ex_l1]; decide) 0 ex_s1)
 rw [ex_b] at HK
 obtain ⟨l0_0, l0_1, l0_2⟩ := qay X1.out
 try rw [hw8] at l0_0
 try rw [hB8] at l0_0
 try rw [hw8] at l0_1
 try rw [hB8] at l0_1
 try rw [hw8] at l0_2
 try rw [hB8] at l0_2
 obtain ⟨l1_0, l1_1, l1_2⟩ := qay X7.out
 try rw [hw8] at l1_0
 try rw [hB8] at l1_0
 try rw [hw8] at l1_1
 try rw [hB8] at l1_1
 try rw [hw8] at l1_2
 try rw [hB8] at l1_2
 go_wp2_with (with_reducible refine qad ?_)
 rw [← hw8, ← hB8]
 clear hw8 hB8 l0_0 l0_1 l0_2 l1_0 l1_1 l1_2
 refine qap.mk ?_
 (with_reducible refine HK.out.mono ?_); rintro e w9 ⟨v9, rfl, hb9, hn9⟩
 rw [qbi]
 have HB := qHd (HB.out.trans (hb9.mono HB.out.size))
 have HT3 := qHd (HT3.out.below hb9)
 have IV := qHd (IV.out.below hb9)
 have X3 := qHd (qaa X3.out hb9)
 have X5 := qHd (qaa X5.out hb9)
 obtain ⟨s0, o0, n0, c0, a0, m0, d0, s1, o1, n1, c1, a1, m1, d1, rfl⟩ := hn9.shape
 have IB := qHd hn9
 clear hb9 hn9 HK HF HP HT7 X1 X7
 obtain ⟨w10, hw10, hb10, b10, hB10, hx10⟩ := qBx5 w9 (.cells #[.bool s0, .slice o0 n0 c0, .slice a0 m0 d0, .bool s1, .slice o1 n1 c1, .slice a1 m1 d1] 56)
 have HB := qHd (HB.out.trans (hb10.mono HB.out.size))
 have HT3 := qHd (HT3.out.below hb10)
 have IV := qHd (IV.out.below hb10)
 have IB := qHd (IB.out.below hb10)
 have X3 := qHd (qaa X3.out hb10)
 have X5 := qHd (qaa X5.out hb10)
 have X9 := qHd hx10
 clear hb10 hx10
 have HK := qHd (sptext_any _ exT3 3 w10 (by decide) HT3.out (by rw [show ((3 : Nat) : Int) = 3 from rfl, ex_c3]) ex_rs (by rw [ex_tt]; decide))
 rw [ex_tt, show ((3 : Nat) : Int) = 3 from rfl] at HK
 obtain ⟨l0_0, l0_1, l0_2⟩ := qay X3.out
 try rw [hw10] at l0_0
 try rw [hB10] at l0_0
 try rw [hw10] at l0_1
 try rw [hB10] at l0_1
 try rw [hw10] at l0_2
 try rw [hB10] at l0_2
 go_wp2_with (with_reducible refine qad ?_)
 rw [← hw10, ← hB10]
 clear hw10 hB10 l0_0 l0_1 l0_2
 refine qap.mk ?_
 (with_reducible refine HK.out.mono ?_); rintro e w11 ⟨rfl, hb11⟩
 have HB := qHd (HB.out.trans (hb11.mono HB.out.size))
 have IV := qHd (IV.out.below hb11)
 have IB := qHd (IB.out.below hb11)
 have X5 := qHd (qaa X5.out hb11)
 have X9 := qHd (qaa X9.out hb11)
 clear hb11 HK X3 HT3
 have HK := qHd (textq_any _ (13 / 24) w11 (IV.out.is (by decide +kernel)))
 rw [ex_x] at HK
 obtain ⟨l0, l1, l2⟩ := qay X5.out
 go_wp2_with (with_reducible refine qad ?_)
 clear l0 l1 l2
 refine qap.mk ?_
 (with_reducible refine HK.out.mono ?_); rintro e w12 ⟨rfl, hb12⟩
 have HB := qHd (HB.out.trans (hb12.mono HB.out.size))
 have IB := qHd (IB.out.below hb12)
 have X9 := qHd (qaa X9.out hb12)
 clear hb12 HK
 have HK := qHd (textq_any _ (1 / 2) w12 ((qci IB.out).1.is (by decide +kernel)))
 rw [ex_x2] at HK
 obtain ⟨l0, l1, l2, l3, l4, l5⟩ := row6 X9.out
 go_wp2_with (with_reducible refine qad ?_)
 clear l0 l1 l2 l3 l4 l5
 refine qap.mk ?_
 (with_reducible refine HK.out.mono ?_); rintro e w13 ⟨rfl, hb13⟩
 have HB := qHd (HB.out.trans (hb13.mono HB.out.size))
 have IB := qHd (IB.out.below hb13)
 have X9 := qHd (qaa X9.out hb13)
 clear hb13 HK
 have HK := qHd (textq_any _ 1 w13 ((qci IB.out).2.is (by decide +kernel)))
 rw [ex_x1] at HK
 obtain ⟨l0, l1, l2, l3, l4, l5⟩ := row6 X9.out
 go_wp2_with (with_reducible refine qad ?_)
 clear l0 l1 l2 l3 l4 l5
 refine qap.mk ?_
 (with_reducible refine HK.out.mono ?_); rintro e w14 ⟨rfl, hb14⟩
 have HB := qHd (HB.out.trans (hb14.mono HB.out.size))
 clear hb14 HK
 go_wp2_with fail
 go_ret
 exact ⟨rfl, HB.out⟩
end Go.Proofs.YthhgfhdmfhnklaaGreatDoor
namespace Go.Proofs.YthhgfhdmfhnklaaGreatDoor
open Go.RowKit Go.ChangeShapes Go.WideShapes Go.Joins Go.Deep
theorem nodeTys : NodeTys Tryz.prog 3 80 82 :=
 ⟨Tryz.underlying3, by kernel_rfl, Tryz.underlying80, by kernel_rfl, by kernel_rfl, ⟨_, _, _, Tryz.underlying82, rfl, rfl, rfl, rfl, rfl, rfl⟩⟩
theorem open_fm {H : Type} {enc : TypeId × Value → H} {W : World} {v : Value} {d : DataW H} {p : List MemPlace} {base : Nat}
  (hv : Value.okWide Tryz.prog W .any base 24 v) (h : DataW.Trod enc Tryz.prog W 0 (fun _ => true) true 24 v d p) : ∃ f, FmV W v f := by
 obtain ⟨v0, v1, v2, y0, y1, y2, n, rfl, _, _, h0, h1, h2⟩ := Go.Joins.open_agg3 Tryz.underlying24 (by kernel_rfl) (by kernel_rfl) hv h
 have h0' : DataW.trod enc Tryz.prog W 0 (fun _ => true) true n 3 [v0] = some y0 := h0
 have h1' : DataW.trod enc Tryz.prog W 0 (fun _ => true) true n 22 [v1] = some y1 := h1
 have h2' : DataW.trod enc Tryz.prog W 0 (fun _ => true) true n 3 [v2] = some y2 := h2
 obtain ⟨k0, e0, _, w0⟩ := DataW.trod_int Tryz.underlying3 h0'
 obtain ⟨k2, e2, _, w2⟩ := DataW.trod_int Tryz.underlying3 h2'
 obtain ⟨l, hl⟩ := open_nodes nodeTys Tryz.underlying22 h1'
 have e0' : v0 = .int .i64 k0 := by simpa using e0
 have e2' : v2 = .int .i64 k2 := by simpa using e2
 exact ⟨⟨k0, l, k2⟩, v1, by rw [e0', e2'], hl, i64_wf w0, i64_wf w2⟩
end Go.Proofs.YthhgfhdmfhnklaaGreatDoor
namespace Go.Proofs.YthhgfhdmfhnklaaGreatDoor
open Go.RowKit Go.ChangeShapes Go.WideShapes
theorem trodAll_below {H : Type} {enc : TypeId × Value → H} {P : Program} (hl : laidOutB P = true) {W W' : World} (hb : Below W.heap.size W W') :
  ∀ (ts : List TypeId) (vs : List Value) (ds : List (DataW H)) (ps : List MemPlace), (ts.all fun t => P.readableRec t && decide (t < P.types.size)) = true →
   DataW.TrodAll enc P W 0 (fun _ => true) true ts vs ds ps → (∀ x ∈ ps, x.block < W.heap.size) → DataW.TrodAll enc P W' 0 (fun b => decide (b < W.heap.size)) true ts vs ds ps := by
 intro ts
 induction ts with
 | nil =>
  intro vs ds ps hr h hlt
  cases vs <;> cases ds <;> first | exact h | exact h.elim
 | cons t ts ih =>
  intro vs ds ps hr h hlt
  simp only [List.all_cons, Bool.and_eq_true, decide_eq_true_eq] at hr
  cases vs with
  | nil => cases ds <;> exact h.elim
  | cons v vs =>
   cases ds with
   | nil => exact h.elim
   | cons d ds =>
    obtain ⟨p, q, h1, h2, rfl⟩ := h
    exact ⟨p, q, Below.trod hl hr.1.1 hr.1.2 h1 hb (fun x hx => hlt x (List.mem_append_left _ hx)),
     ih vs ds q hr.2 h2 (fun x hx => hlt x (List.mem_append_right _ hx)), rfl⟩

theorem law_close {H : Type} {enc : TypeId × Value → H} {P : Program} {f : Func} {s : ChangeSpec} {W W' : World} {args : Array Value} {ds gs : List (DataW H)} {before : List MemPlace} {tb : TypeId}
  (hl : laidOutB P = true) (hrd : (f.params.toList.all fun t => P.readableRec t && decide (t < P.types.size)) = true) (hvars : s.vars = []) (hr : f.resultTypes = #[tb]) (hbool : P.underlying tb = some .bool)
  (hres : (s.fn H (ds ++ gs)).results = [.lit (.bool true)]) (hargs : (s.fn H (ds ++ gs)).args = ds) (hvs : (s.fn H (ds ++ gs)).vars = [])
  (hW : DataW.Whole enc P f.params.toList s.vars false W args.toList ds gs before) (hb : Below W.heap.size W W') :
  s.post enc P f false true false false W args (.bool true) W' := by
 have hlt := hW.lt
 have hW' := hW
 obtain ⟨p, q, hA, hV, rfl, hz, hn⟩ := hW
 rw [hvars] at hV
 obtain ⟨rfl, rfl⟩ := trodVars_none hV
 refine ⟨ds, [], p ++ [], [], p, [], hW', ?_, ?_, ?_, hb.frame _, fun h => by cases h⟩
 ·rw [hres, hr]
  exact ⟨[], [], shut_bool hbool true, rfl, rfl⟩
 ·rw [hargs]
  exact trodAll_below hl hb _ _ _ _ hrd hA (fun x hx => by simpa using hlt x (List.mem_append_left _ hx))
 ·rw [hvs, hvars]; rfl
end Go.Proofs.YthhgfhdmfhnklaaGreatDoor
namespace Go.Proofs.YthhgfhdmfhnklaaGreatDoor
open Go.RowKit Go.ChangeShapes Go.WideShapes Go.Joins Go.Deep
instance : Inhabited Rv := ⟨⟨false, [], []⟩⟩
end Go.Proofs.YthhgfhdmfhnklaaGreatDoor
