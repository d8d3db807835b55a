/-
  What the law leans on, one text behind the other (the base).
  Conditions: each theorem's own.
-/
import Derived.Test.YteadcgmaailjlaaGreatDoorME4
set_option maxRecDepth 100000
set_option maxHeartbeats 16000000
namespace Go.Proofs.YteadcgmaailjlaaGreatDoor
open Go.RowKit Go.ChangeShapes Go.WideShapes
section
variable {P : Program} {w : World} {ops : Array Oper} {rest : List Oper} {a : Act} {Q : Exit → Act → World → Prop}
theorem qbu (ty : TypeId) {d : Option Tmp} {tt : TypeId} {x : Operand} {pos : String} {af : Array Edge}
  (h : qad (wpList P ops Q (⟨d, .load ty x, tt, pos, af, none⟩ :: rest) a w)) : wpList P ops Q (⟨d, .load ty x, tt, pos, af, none⟩ :: rest) a w := h
end
theorem wrap_mid {z : Int} (h : -9223372036854775808 ≤ z ∧ z < 9223372036854775808) : IntKind.wrap .i64 z = z := by
 unfold IntKind.wrap
 simp [IntKind.bits, IntKind.signed]
 omega
theorem qcy (b : Bool) (w : World) : Calls Tryz.prog 58 #[.bool b] w (qcc w (.int .i64 (if b then -1 else -2))) := by
 cases b
 ·go_enter Tryz.func58, Tryz.ntmps58
  go_wp2
  go_ret
  exact ⟨rfl, Below.refl _ _⟩
 ·go_enter Tryz.func58, Tryz.ntmps58
  go_wp2
  go_ret
  exact ⟨rfl, Below.refl _ _⟩
def RetFo (w : World) (B : Nat) (X : List Nat) (gb : Nat) (v : Value) (V : Nat) (out : List Nd) (f : List Nat → Bool) (e : Ending) (w' : World) : Prop :=
 ∃ (v' : Value) (out' : List Nd) (r : Int), e = .returned (.int .i64 r) ∧ Chg w w' [gb] v v' ∧ Bd w' B X gb v' V out' 0 ∧ out'.length ≤ out.length + 2 ∧ GrwF V out out' r f
theorem folded_any (B gb V : Nat) (X : List Nat) (v vr : Value) (out nodes : List Nd) (im : Nat → Int) (x : Nd) (rest : List Int) (yes no : Nat) (ao : Option Addr) (na c : Nat) (w : World) (hM : Bd w B X gb v V out 0) (hV : V ≤ 24) (ho : out.length ≤ 10000)
  (hI : qbi w vr rest) (hS : Sep vr rest B X ∧ (0 < rest.length → ∀ g, vr.ownBlock = some g → v.ownBlock ≠ some g)) (hK64 : I64 x.K) (hy : yes ≤ 16) (hn : no ≤ 16) (hr : rest.length ≤ 16) (hF : qcz V nodes out im x rest yes no) :
  Calls Tryz.prog 31 #[.pointer (some ⟨gb, 0, none⟩), .agg #[.int .i64 x.kind, .int .i64 x.K, .slice ao na c], vr, .int .i64 (yes : Nat), .int .i64 (no : Nat)] w (RetFo w B X gb v V out (fun e0 => nv (qaj e0 nodes) x)) := by
 obtain ⟨ro, rc, rfl, hrc, hrc2, _⟩ := hI.shape
 have hpar := (qav hF.ok).1
 have hkp := (qav hF.ok).2.2.2
 obtain ⟨k, K, args⟩ := x
 simp only at hpar hkp hK64 ⊢
 obtain ⟨rn, hrn⟩ : ∃ n, n = rest.length := ⟨_, rfl⟩
 have CELL := qHd (fun (b1 : Int) (h0 : rest[0]? = some b1) => (show ∃ b off, ro = some ⟨b, off, none⟩ ∧ w.cell? ⟨b, off, none⟩ = some (.int .i64 b1) from by
  obtain ⟨b, off, e, _, _, hat⟩ := hI.at (List.getElem?_eq_some_iff.1 h0).1
  exact ⟨b, off, by simpa using e, by have := hat 0 b1 h0; rwa [Nat.add_zero] at this⟩))
 rw [← hrn] at hI hS hrc hr ⊢
 have HMS := qHd hM; have HI := qHd hI; have HS := qHd (⟨hS.1, fun h => hS.2 (by omega)⟩ : Sep (.slice ro rn rc) rest B X ∧ (0 < rest.length → ∀ g, (Value.slice ro rn rc).ownBlock = some g → v.ownBlock ≠ some g)); have FX := qHd hF; have RN := qHd hrn; have HK64 := qHd hK64
 clear hM hI hS hF hrn hK64
 obtain ⟨w0, hw0⟩ : ∃ z0, z0 = w.alloc (.cells #[.int .i64 k, .int .i64 K, .slice ao na c] 56) := ⟨_, rfl⟩
 have hb0 : Below w.heap.size w w0 := by rw [hw0]; exact qBA _ _
 obtain ⟨gn, hg0⟩ : ∃ g, g = w.heap.size := ⟨_, rfl⟩
 have hx0 : w0.heap[gn]? = some (.cells #[.int .i64 k, .int .i64 K, .slice ao na c] 56) := by rw [hw0, hg0]; exact heap_alloc_new _ _
 have hs0 : w0.heap.size = w.heap.size + 1 := by rw [hw0]; simp
 have HM0 := qHd (HMS.out.below hb0); have HI0 := qHd (HI.out.below hb0); have HC0 := qHd (Chg.of_below (Y := [gb]) (v := v) hb0); have G0 := qHd hx0
 have CELL := qHd (fun (b1 : Int) (h0 : rest[0]? = some b1) => (show ∃ b off, ro = some ⟨b, off, none⟩ ∧ w0.cell? ⟨b, off, none⟩ = some (.int .i64 b1) from by
  obtain ⟨b, off, e, h⟩ := CELL.out b1 h0
  exact ⟨b, off, e, qap h hb0⟩))
 clear HMS HI hb0 hx0 hs0
 go_enter Tryz.func31, Tryz.ntmps31
 go_wp2_with (with_reducible refine qbu 3 ?_)
 rw [← hw0, ← hg0]
 clear hw0 hg0
 refine qad.mk ?_
 obtain ⟨x0, x1, x2⟩ := qaq G0.out
 have hkk : k = 0 ∨ k = 1 ∨ k = 2 ∨ k = 3 ∨ k = 4 ∨ k = 5 := by omega
 rcases hkk with rfl | rfl | rfl | rfl | rfl | rfl
 ·by_cases hK : K = 1
  ·subst hK
   have HK := qHd (qcy true w0)
   go_wp2_with (with_reducible refine qac ?_)
   clear x0 x1 x2
   refine qad.mk ?_
   (with_reducible refine HK.out.mono ?_); rintro e w1 ⟨rfl, hb1⟩
   have C1 := qHd (HC0.out.trans (Chg.of_below (Y := [gb]) (v := v) hb1)); have M1 := qHd (HM0.out.below hb1)
   clear hb1 HK
   go_wp2_with fail
   go_ret
   exact ⟨v, out, (-1), rfl, C1.out, M1.out, by omega, FX.out.k0 rfl (by simp)⟩
  ·have hKz : (K == 1) = false := by rw [beq_eq_false_iff_ne]; exact hK
   have HK := qHd (qcy false w0)
   go_wp2_with (with_reducible refine qac ?_)
   clear x0 x1 x2
   refine qad.mk ?_
   (with_reducible refine HK.out.mono ?_); rintro e w1 ⟨rfl, hb1⟩
   have C1 := qHd (HC0.out.trans (Chg.of_below (Y := [gb]) (v := v) hb1)); have M1 := qHd (HM0.out.below hb1)
   clear hb1 HK
   go_wp2_with fail
   go_ret
   exact ⟨v, out, (-2), rfl, C1.out, M1.out, by omega, FX.out.k0 rfl (by simp [hK])⟩
 ·by_cases hr : rn = 0
  ·have hrz : ((rn : Nat) : Int) == 0 := by rw [beq_iff_eq]; omega
   by_cases hy : yes = 0
   ·have hyesz : (((yes : Nat) : Int) == 0) = true := by rw [beq_iff_eq]; omega
    have HK := qHd (qcy true w0)
    go_wp2_with (with_reducible refine qac ?_)
    clear x0 x1 x2
    refine qad.mk ?_
    (with_reducible refine HK.out.mono ?_); rintro e w1 ⟨rfl, hb1⟩
    have C1 := qHd (HC0.out.trans (Chg.of_below (Y := [gb]) (v := v) hb1)); have M1 := qHd (HM0.out.below hb1)
    clear hb1 HK
    go_wp2_with fail
    go_ret
    exact ⟨v, out, (-1), rfl, C1.out, M1.out, by omega, FX.out.k1a rfl (by rw [← RN.out]; omega) (by simp [hy])⟩
   ·have hyesz : (((yes : Nat) : Int) == 0) = false := by rw [beq_eq_false_iff_ne]; omega
    have HK := qHd (qcy false w0)
    go_wp2_with (with_reducible refine qac ?_)
    clear x0 x1 x2
    refine qad.mk ?_
    (with_reducible refine HK.out.mono ?_); rintro e w1 ⟨rfl, hb1⟩
    have C1 := qHd (HC0.out.trans (Chg.of_below (Y := [gb]) (v := v) hb1)); have M1 := qHd (HM0.out.below hb1)
    clear hb1 HK
    go_wp2_with fail
    go_ret
    exact ⟨v, out, (-2), rfl, C1.out, M1.out, by omega, FX.out.k1a rfl (by rw [← RN.out]; omega) (by simp [hy])⟩
  ·have hrz : (((rn : Nat) : Int) == 0) = false := by rw [beq_eq_false_iff_ne]; omega
   have HK := qHd (qbd B gb V X v (.slice ro rn rc) out 0 1 0 rest w0 HM0.out HI0.out HS.out ⟨by decide, by decide⟩ ⟨by decide, by decide⟩ hV (by omega))
   go_wp2_with (with_reducible refine qac ?_)
   clear x0 x1 x2
   refine qad.mk ?_
   (with_reducible refine HK.out.mono ?_); rintro e w1 ⟨v1, rfl, hC, hM2⟩
   obtain ⟨r1, hr1⟩ : ∃ z : Int, z = ((V + out.length : Nat) : Int) := ⟨_, rfl⟩
   obtain ⟨o1, ho1⟩ : ∃ o, o = out ++ [(⟨1, 0, rest⟩ : Nd)] := ⟨_, rfl⟩
   rw [← hr1]
   rw [← ho1] at hM2
   have M1 := qHd hM2; have C1 := qHd (HC0.out.trans hC)
   have E1 := qHd (And.intro hr1 ho1)
   have LN := qHd (show o1.length = out.length + 1 by rw [ho1, List.length_append]; rfl)
   clear hr1 ho1 hC hM2 HK
   go_wp2_with fail
   go_ret
   exact ⟨v1, o1, r1, rfl, C1.out, M1.out, by rw [LN.out]; omega, by rw [E1.out.1, E1.out.2]; exact FX.out.k1b rfl (by rw [← RN.out]; omega)⟩
 ·by_cases hn : 0 < no
  ·have hnog : (0 : Int) < ((no : Nat) : Int) := by omega
   have hnoz : (((no : Nat) : Int) == 0) = false := by rw [beq_eq_false_iff_ne]; omega
   have HK := qHd (qcy false w0)
   go_wp2_with (with_reducible refine qac ?_)
   clear x0 x1 x2
   refine qad.mk ?_
   (with_reducible refine HK.out.mono ?_); rintro e w1 ⟨rfl, hb1⟩
   have C1 := qHd (HC0.out.trans (Chg.of_below (Y := [gb]) (v := v) hb1)); have M1 := qHd (HM0.out.below hb1)
   clear hb1 HK
   go_wp2_with fail
   go_ret
   exact ⟨v, out, (-2), rfl, C1.out, M1.out, by omega, FX.out.k2a rfl (.inl hn) (by rw [if_neg]; simp; omega)⟩
  ·have hnog : ¬ (0 : Int) < ((no : Nat) : Int) := by omega
   by_cases hr : rn = 0
   ·have hrz : ((rn : Nat) : Int) == 0 := by rw [beq_iff_eq]; omega
    have hnoz : (((no : Nat) : Int) == 0) = true := by rw [beq_iff_eq]; omega
    have HK := qHd (qcy true w0)
    go_wp2_with (with_reducible refine qac ?_)
    clear x0 x1 x2
    refine qad.mk ?_
    (with_reducible refine HK.out.mono ?_); rintro e w1 ⟨rfl, hb1⟩
    have C1 := qHd (HC0.out.trans (Chg.of_below (Y := [gb]) (v := v) hb1)); have M1 := qHd (HM0.out.below hb1)
    clear hb1 HK
    go_wp2_with fail
    go_ret
    exact ⟨v, out, (-1), rfl, C1.out, M1.out, by omega, FX.out.k2a rfl (.inr (by rw [← RN.out]; omega)) (by rw [if_pos]; simp; omega)⟩
   ·have hrz : (((rn : Nat) : Int) == 0) = false := by rw [beq_eq_false_iff_ne]; omega
    by_cases h1 : rn = 1
    ·obtain ⟨b1, hb1⟩ : ∃ b1, rest = [b1] := List.length_eq_one_iff.1 (by rw [← RN.out]; omega)
     have hr1z : (((rn : Nat) : Int) == 1) = true := by rw [beq_iff_eq]; omega
     obtain ⟨bq, fq, hro, c0⟩ := CELL.out b1 (by rw [hb1]; rfl)
     subst hro
     have RB := qHd hb1; clear hb1
     have hrp : (0 : Int) < ((rn : Nat) : Int) := by omega
     go_wp2_with fail
     go_ret
     exact ⟨v, out, _, rfl, HC0.out, HM0.out, by omega, FX.out.one234 RB.out (.inl ⟨rfl, by omega⟩)⟩
    ·have hr1z : (((rn : Nat) : Int) == 1) = false := by rw [beq_eq_false_iff_ne]; omega
     have HK := qHd (qbd B gb V X v (.slice ro rn rc) out 0 2 0 rest w0 HM0.out HI0.out HS.out ⟨by decide, by decide⟩ ⟨by decide, by decide⟩ hV (by omega))
     go_wp2_with (with_reducible refine qac ?_)
     clear x0 x1 x2
     refine qad.mk ?_
     (with_reducible refine HK.out.mono ?_); rintro e w1 ⟨v1, rfl, hC, hM2⟩
     obtain ⟨r1, hr1⟩ : ∃ z : Int, z = ((V + out.length : Nat) : Int) := ⟨_, rfl⟩
     obtain ⟨o1, ho1⟩ : ∃ o, o = out ++ [(⟨2, 0, rest⟩ : Nd)] := ⟨_, rfl⟩
     rw [← hr1]
     rw [← ho1] at hM2
     have M1 := qHd hM2; have C1 := qHd (HC0.out.trans hC)
     have E1 := qHd (And.intro hr1 ho1)
     have LN := qHd (show o1.length = out.length + 1 by rw [ho1, List.length_append]; rfl)
     clear hr1 ho1 hC hM2 HK
     go_wp2_with fail
     go_ret
     exact ⟨v1, o1, r1, rfl, C1.out, M1.out, by rw [LN.out]; omega, by rw [E1.out.1, E1.out.2]; exact FX.out.more (by rw [← RN.out]; omega) (.inl ⟨rfl, by omega, rfl⟩)⟩
 ·by_cases hy : 0 < yes
  ·have hyesg : (0 : Int) < ((yes : Nat) : Int) := by omega
   have HK := qHd (qcy true w0)
   go_wp2_with (with_reducible refine qac ?_)
   clear x0 x1 x2
   refine qad.mk ?_
   (with_reducible refine HK.out.mono ?_); rintro e w1 ⟨rfl, hb1⟩
   have C1 := qHd (HC0.out.trans (Chg.of_below (Y := [gb]) (v := v) hb1)); have M1 := qHd (HM0.out.below hb1)
   clear hb1 HK
   go_wp2_with fail
   go_ret
   exact ⟨v, out, (-1), rfl, C1.out, M1.out, by omega, FX.out.k3a rfl (.inl hy) (by rw [if_pos]; simp; omega)⟩
  ·have hyesg : ¬ (0 : Int) < ((yes : Nat) : Int) := by omega
   by_cases hr : rn = 0
   ·have hrz : ((rn : Nat) : Int) == 0 := by rw [beq_iff_eq]; omega
    have HK := qHd (qcy false w0)
    go_wp2_with (with_reducible refine qac ?_)
    clear x0 x1 x2
    refine qad.mk ?_
    (with_reducible refine HK.out.mono ?_); rintro e w1 ⟨rfl, hb1⟩
    have C1 := qHd (HC0.out.trans (Chg.of_below (Y := [gb]) (v := v) hb1)); have M1 := qHd (HM0.out.below hb1)
    clear hb1 HK
    go_wp2_with fail
    go_ret
    exact ⟨v, out, (-2), rfl, C1.out, M1.out, by omega, FX.out.k3a rfl (.inr (by rw [← RN.out]; omega)) (by rw [if_neg]; simp; omega)⟩
   ·have hrz : (((rn : Nat) : Int) == 0) = false := by rw [beq_eq_false_iff_ne]; omega
    by_cases h1 : rn = 1
    ·obtain ⟨b1, hb1⟩ : ∃ b1, rest = [b1] := List.length_eq_one_iff.1 (by rw [← RN.out]; omega)
     have hr1z : (((rn : Nat) : Int) == 1) = true := by rw [beq_iff_eq]; omega
     obtain ⟨bq, fq, hro, c0⟩ := CELL.out b1 (by rw [hb1]; rfl)
     subst hro
     have RB := qHd hb1; clear hb1
     have hrp : (0 : Int) < ((rn : Nat) : Int) := by omega
     go_wp2_with fail
     go_ret
     exact ⟨v, out, _, rfl, HC0.out, HM0.out, by omega, FX.out.one234 RB.out (.inr (.inl ⟨rfl, by omega⟩))⟩
    ·have hr1z : (((rn : Nat) : Int) == 1) = false := by rw [beq_eq_false_iff_ne]; omega
     have HK := qHd (qbd B gb V X v (.slice ro rn rc) out 0 3 0 rest w0 HM0.out HI0.out HS.out ⟨by decide, by decide⟩ ⟨by decide, by decide⟩ hV (by omega))
     go_wp2_with (with_reducible refine qac ?_)
     clear x0 x1 x2
     refine qad.mk ?_
     (with_reducible refine HK.out.mono ?_); rintro e w1 ⟨v1, rfl, hC, hM2⟩
     obtain ⟨r1, hr1⟩ : ∃ z : Int, z = ((V + out.length : Nat) : Int) := ⟨_, rfl⟩
     obtain ⟨o1, ho1⟩ : ∃ o, o = out ++ [(⟨3, 0, rest⟩ : Nd)] := ⟨_, rfl⟩
     rw [← hr1]
     rw [← ho1] at hM2
     have M1 := qHd hM2; have C1 := qHd (HC0.out.trans hC)
     have E1 := qHd (And.intro hr1 ho1)
     have LN := qHd (show o1.length = out.length + 1 by rw [ho1, List.length_append]; rfl)
     clear hr1 ho1 hC hM2 HK
     go_wp2_with fail
     go_ret
     exact ⟨v1, o1, r1, rfl, C1.out, M1.out, by rw [LN.out]; omega, by rw [E1.out.1, E1.out.2]; exact FX.out.more (by rw [← RN.out]; omega) (.inr (.inl ⟨rfl, by omega, rfl⟩))⟩
 ·have hkv : 1 ≤ K ∧ K ≤ 16 := by
   have := (args_16 FX.out.ok).1
   have h : 1 ≤ K ∧ K ≤ (args.length : Int) := by simpa [kOK] using hkp
   simp only at this
   omega
  have hwk : IntKind.wrap .i64 (K - ((yes : Nat) : Int)) = K - ((yes : Nat) : Int) := wrap_mid (by omega)
  by_cases hq : K - ((yes : Nat) : Int) ≤ 0
  ·have HK := qHd (qcy true w0)
   go_wp2_with (with_reducible refine qac ?_)
   clear x0 x1 x2
   refine qad.mk ?_
   (with_reducible refine HK.out.mono ?_); rintro e w1 ⟨rfl, hb1⟩
   have C1 := qHd (HC0.out.trans (Chg.of_below (Y := [gb]) (v := v) hb1)); have M1 := qHd (HM0.out.below hb1)
   clear hb1 HK
   go_wp2_with fail
   go_ret
   exact ⟨v, out, (-1), rfl, C1.out, M1.out, by omega, FX.out.k4a rfl (.inl hq) (by rw [if_pos]; simpa using hq)⟩
  ·by_cases hg : ((rn : Nat) : Int) < K - ((yes : Nat) : Int)
   ·have HK := qHd (qcy false w0)
    go_wp2_with (with_reducible refine qac ?_)
    clear x0 x1 x2
    refine qad.mk ?_
    (with_reducible refine HK.out.mono ?_); rintro e w1 ⟨rfl, hb1⟩
    have C1 := qHd (HC0.out.trans (Chg.of_below (Y := [gb]) (v := v) hb1)); have M1 := qHd (HM0.out.below hb1)
    clear hb1 HK
    go_wp2_with fail
    go_ret
    exact ⟨v, out, (-2), rfl, C1.out, M1.out, by omega, FX.out.k4a rfl (.inr (by rw [← RN.out]; exact hg)) (by rw [if_neg]; simpa using hq)⟩
   ·by_cases h1 : rn = 1
    ·obtain ⟨b1, hb1⟩ : ∃ b1, rest = [b1] := List.length_eq_one_iff.1 (by rw [← RN.out]; omega)
     have hr1z : (((rn : Nat) : Int) == 1) = true := by rw [beq_iff_eq]; omega
     obtain ⟨bq, fq, hro, c0⟩ := CELL.out b1 (by rw [hb1]; rfl)
     subst hro
     have RB := qHd hb1; clear hb1
     have hrp : (0 : Int) < ((rn : Nat) : Int) := by omega
     go_wp2_with fail
     go_ret
     exact ⟨v, out, _, rfl, HC0.out, HM0.out, by omega, FX.out.one234 RB.out (.inr (.inr ⟨rfl, by show K - (yes : Int) = 1; omega⟩))⟩
    ·have hr1z : (((rn : Nat) : Int) == 1) = false := by rw [beq_eq_false_iff_ne]; omega
     have HK := qHd (qbd B gb V X v (.slice ro rn rc) out 0 4 (K - ((yes : Nat) : Int)) rest w0 HM0.out HI0.out HS.out ⟨by decide, by decide⟩ ⟨by omega, by omega⟩ hV (by omega))
     go_wp2_with (with_reducible refine qac ?_)
     clear x0 x1 x2
     refine qad.mk ?_
     (with_reducible refine HK.out.mono ?_); rintro e w1 ⟨v1, rfl, hC, hM2⟩
     obtain ⟨r1, hr1⟩ : ∃ z : Int, z = ((V + out.length : Nat) : Int) := ⟨_, rfl⟩
     obtain ⟨o1, ho1⟩ : ∃ o, o = out ++ [(⟨4, (K - ((yes : Nat) : Int)), rest⟩ : Nd)] := ⟨_, rfl⟩
     rw [← hr1]
     rw [← ho1] at hM2
     have M1 := qHd hM2; have C1 := qHd (HC0.out.trans hC)
     have E1 := qHd (And.intro hr1 ho1)
     have LN := qHd (show o1.length = out.length + 1 by rw [ho1, List.length_append]; rfl)
     clear hr1 ho1 hC hM2 HK
     go_wp2_with fail
     go_ret
     exact ⟨v1, o1, r1, rfl, C1.out, M1.out, by rw [LN.out]; omega, by rw [E1.out.1, E1.out.2]; exact FX.out.more (by rw [← RN.out]; omega) (.inr (.inr ⟨rfl, rfl, by omega, by rw [← RN.out]; omega⟩))⟩
 ·have hym : ((yes : Nat) : Int).tmod 2 = ((yes % 2 : Nat) : Int) := by rw [Int.tmod_eq_emod_of_nonneg (by omega)]; omega
  by_cases hr : rn = 0
  ·have hrz : ((rn : Nat) : Int) == 0 := by rw [beq_iff_eq]; omega
   by_cases hy : yes % 2 = 1
   ·have hyz : ((((yes : Nat) : Int) % 2) == 1) = true := by rw [beq_iff_eq]; omega
    have HK := qHd (qcy true w0)
    go_wp2_with (with_reducible refine qac ?_)
    clear x0 x1 x2
    refine qad.mk ?_
    (with_reducible refine HK.out.mono ?_); rintro e w1 ⟨rfl, hb1⟩
    have C1 := qHd (HC0.out.trans (Chg.of_below (Y := [gb]) (v := v) hb1)); have M1 := qHd (HM0.out.below hb1)
    clear hb1 HK
    go_wp2_with fail
    go_ret
    exact ⟨v, out, (-1), rfl, C1.out, M1.out, by omega, FX.out.k5a rfl (by rw [← RN.out]; omega) (by simp [hy])⟩
   ·have hyz : ((((yes : Nat) : Int) % 2) == 1) = false := by rw [beq_eq_false_iff_ne]; omega
    have HK := qHd (qcy false w0)
    go_wp2_with (with_reducible refine qac ?_)
    clear x0 x1 x2
    refine qad.mk ?_
    (with_reducible refine HK.out.mono ?_); rintro e w1 ⟨rfl, hb1⟩
    have C1 := qHd (HC0.out.trans (Chg.of_below (Y := [gb]) (v := v) hb1)); have M1 := qHd (HM0.out.below hb1)
    clear hb1 HK
    go_wp2_with fail
    go_ret
    exact ⟨v, out, (-2), rfl, C1.out, M1.out, by omega, FX.out.k5a rfl (by rw [← RN.out]; omega) (by simp [hy])⟩
  ·have hrz : (((rn : Nat) : Int) == 0) = false := by rw [beq_eq_false_iff_ne]; omega
   by_cases h1 : rn = 1
   ·obtain ⟨b1, hb1⟩ : ∃ b1, rest = [b1] := List.length_eq_one_iff.1 (by rw [← RN.out]; omega)
    obtain ⟨bq, fq, hro, c0⟩ := CELL.out b1 (by rw [hb1]; rfl)
    subst hro
    have RB := qHd hb1; clear hb1
    have hrp : (0 : Int) < ((rn : Nat) : Int) := by omega
    have hr1g : ¬ (1 : Int) < ((rn : Nat) : Int) := by omega
    have LN := qHd (show out.length ≤ out.length + 1 by omega)
    by_cases hy : yes % 2 = 1
    ·have hyz : ((((yes : Nat) : Int) % 2) == 1) = true := by rw [beq_iff_eq]; omega
     have G9 := qHd (FX.out.k5one RB.out)
     obtain ⟨w5, hw5⟩ : ∃ z0, z0 = w0.alloc (.cells #[.int .i64 b1] 3) := ⟨_, rfl⟩
     have hb5 : Below w0.heap.size w0 w5 := by rw [hw5]; exact qBA _ _
     obtain ⟨g5, hg5⟩ : ∃ g, g = w0.heap.size := ⟨_, rfl⟩
     have hx5 : w5.heap[g5]? = some (.cells #[.int .i64 b1] 3) := by rw [hw5, hg5]; exact heap_alloc_new _ _
     have hs5 : w5.heap.size = w0.heap.size + 1 := by rw [hw5]; simp
     have M5 := qHd (HM0.out.below hb5); have AP5 := qHd (HM0.out.apart (a := .slice (some ⟨g5, 0, none⟩) 1 1) (l := [b1]) (s := w0.heap.size) (Nat.le_refl _) (fun g e => by simp only [Value.ownBlock, Option.some.injEq] at e; omega))
     have HI5 := qHd (qby (l := [b1]) hx5 rfl (by simp) (i64_one (arg_i64 G9.out.arg hV (by have := LN.out; omega)))); have C5 := qHd (HC0.out.trans (Chg.of_below (Y := [gb]) (v := v) hb5))
     clear hb5 hx5 hs5
     have HK := qHd (qbd B gb V X v (.slice (some ⟨g5, 0, none⟩) 1 1) out 0 1 0 [b1] w5 M5.out HI5.out AP5.out ⟨by decide, by decide⟩ ⟨by decide, by decide⟩ hV (by have := LN.out; omega))
     go_wp2_with (with_reducible refine qac ?_)
     rw [← hw5, ← hg5]
     clear hw5 hg5
     refine qad.mk ?_
     (with_reducible refine HK.out.mono ?_); rintro e w6 ⟨v6, rfl, hC, hM2⟩
     have C6 := qHd (C5.out.trans hC); have M6 := qHd hM2
     clear hC hM2 HK
     go_wp2_with fail
     go_ret
     exact ⟨v6, _, _, rfl, C6.out, M6.out, by have := LN.out; rw [List.length_append]; simp only [List.length_singleton]; omega, FX.out.k5odd rfl hy G9.out⟩
    ·have hyz : ((((yes : Nat) : Int) % 2) == 1) = false := by rw [beq_eq_false_iff_ne]; omega
     go_wp2_with fail
     go_ret
     exact ⟨v, out, _, rfl, HC0.out, HM0.out, by omega, FX.out.k5even rfl (by omega) (FX.out.k5one RB.out)⟩
   ·obtain ⟨b1, hb1⟩ : ∃ b1, rest[0]? = some b1 := ⟨rest[0]'(by rw [← RN.out]; omega), List.getElem?_eq_getElem _⟩
    obtain ⟨bq, fq, hro, c0⟩ := CELL.out b1 hb1
    subst hro
    clear hb1
    have hrp : (0 : Int) < ((rn : Nat) : Int) := by omega
    have hr1g : (1 : Int) < ((rn : Nat) : Int) := by omega
    have HK := qHd (qbd B gb V X v (.slice (some ⟨bq, fq, none⟩) rn rc) out 0 5 0 rest w0 HM0.out HI0.out HS.out ⟨by decide, by decide⟩ ⟨by decide, by decide⟩ hV (by omega))
    go_wp2_with (with_reducible refine qac ?_)
    clear x0 x1 x2
    refine qad.mk ?_
    (with_reducible refine HK.out.mono ?_); rintro e w1 ⟨v1, rfl, hC, hM2⟩
    obtain ⟨r1, hr1⟩ : ∃ z : Int, z = ((V + out.length : Nat) : Int) := ⟨_, rfl⟩
    obtain ⟨o1, ho1⟩ : ∃ o, o = out ++ [(⟨5, 0, rest⟩ : Nd)] := ⟨_, rfl⟩
    rw [← hr1]
    rw [← ho1] at hM2
    have M1 := qHd hM2; have C1 := qHd (HC0.out.trans hC)
    have E1 := qHd (And.intro hr1 ho1)
    have LN := qHd (show o1.length = out.length + 1 by rw [ho1, List.length_append]; rfl)
    clear hr1 ho1 hC hM2 HK
    by_cases hy : yes % 2 = 1
    ·have hyz : ((((yes : Nat) : Int) % 2) == 1) = true := by rw [beq_iff_eq]; omega
     have G9 := qHd (show Grw V out o1 r1 _ from by rw [E1.out.1, E1.out.2]; exact FX.out.k5r rfl (by rw [← RN.out]; omega))
     obtain ⟨w5, hw5⟩ : ∃ z0, z0 = w1.alloc (.cells #[.int .i64 r1] 3) := ⟨_, rfl⟩
     have hb5 : Below w1.heap.size w1 w5 := by rw [hw5]; exact qBA _ _
     obtain ⟨g5, hg5⟩ : ∃ g, g = w1.heap.size := ⟨_, rfl⟩
     have hx5 : w5.heap[g5]? = some (.cells #[.int .i64 r1] 3) := by rw [hw5, hg5]; exact heap_alloc_new _ _
     have hs5 : w5.heap.size = w1.heap.size + 1 := by rw [hw5]; simp
     have M5 := qHd (M1.out.below hb5); have AP5 := qHd (M1.out.apart (a := .slice (some ⟨g5, 0, none⟩) 1 1) (l := [r1]) (s := w1.heap.size) (Nat.le_refl _) (fun g e => by simp only [Value.ownBlock, Option.some.injEq] at e; omega))
     have HI5 := qHd (qby (l := [r1]) hx5 rfl (by simp) (i64_one (arg_i64 G9.out.arg hV (by have := LN.out; omega)))); have C5 := qHd (C1.out.trans (Chg.of_below (Y := [gb]) (v := v1) hb5))
     clear hb5 hx5 hs5
     have HK := qHd (qbd B gb V X v1 (.slice (some ⟨g5, 0, none⟩) 1 1) o1 0 1 0 [r1] w5 M5.out HI5.out AP5.out ⟨by decide, by decide⟩ ⟨by decide, by decide⟩ hV (by have := LN.out; omega))
     go_wp2_with (with_reducible refine qac ?_)
     rw [← hw5, ← hg5]
     clear hw5 hg5
     refine qad.mk ?_
     (with_reducible refine HK.out.mono ?_); rintro e w6 ⟨v6, rfl, hC, hM2⟩
     have C6 := qHd (C5.out.trans hC); have M6 := qHd hM2
     clear hC hM2 HK
     go_wp2_with fail
     go_ret
     exact ⟨v6, _, _, rfl, C6.out, M6.out, by have := LN.out; rw [List.length_append]; simp only [List.length_singleton]; omega, FX.out.k5odd rfl hy G9.out⟩
    ·have hyz : ((((yes : Nat) : Int) % 2) == 1) = false := by rw [beq_eq_false_iff_ne]; omega
     go_wp2_with fail
     go_ret
     exact ⟨v1, o1, r1, rfl, C1.out, M1.out, by rw [LN.out]; omega, FX.out.k5even rfl (by omega) (show Grw V out o1 r1 _ from by rw [E1.out.1, E1.out.2]; exact FX.out.k5r rfl (by rw [← RN.out]; omega))⟩
theorem restL_1 (l : List Int) : restL (l ++ [-1]) = restL l := by simp [restL, List.filter_append]
theorem restL_2 (l : List Int) : restL (l ++ [-2]) = restL l := by simp [restL, List.filter_append]
theorem restL_a (l : List Int) {a : Int} (h1 : ¬ a = -1) (h2 : ¬ a = -2) : restL (l ++ [a]) = restL l ++ [a] := by simp [restL, List.filter_append, h1, h2]
theorem yesN_1 (l : List Int) : yesN (l ++ [-1]) = yesN l + 1 := by simp [yesN, List.filter_append]
theorem yesN_a (l : List Int) {a : Int} (h1 : ¬ a = -1) : yesN (l ++ [a]) = yesN l := by simp [yesN, List.filter_append, h1]
theorem noN_2 (l : List Int) : noN (l ++ [-2]) = noN l + 1 := by simp [noN, List.filter_append]
theorem noN_a (l : List Int) {a : Int} (h2 : ¬ a = -2) : noN (l ++ [a]) = noN l := by simp [noN, List.filter_append, h2]
theorem Fld.i64 {V : Nat} {nodes out : List Nd} {tl : List Int} (h : Fld V nodes out (fun i => tl.getD i 0)) (hl : tl.length = V + nodes.length) (hV : V ≤ 24) (ho : out.length ≤ 100000) : ∀ y ∈ tl, I64 y := by
 intro y hy
 obtain ⟨j, hj, rfl⟩ := List.mem_iff_getElem.1 hy
 have this : CArg V out.length (tl.getD j 0) := h.arg j (by omega)
 rw [List.getD_eq_getElem?_getD, List.getElem?_eq_getElem hj, Option.getD_some] at this
 rcases this with h | h | ⟨h1, h2⟩
 ·rw [h]; exact ⟨by decide, by decide⟩
 ·rw [h]; exact ⟨by decide, by decide⟩
 ·exact ⟨by omega, by omega⟩
theorem fold_any (vf : Value) (f : Fm) (w : World) (hf : FmV w vf f) (h0 : qcr f = 0) : Calls Tryz.prog 10 #[vf] w (RetMp w f (fun _ => True)) := by
 obtain ⟨V, hvV, hV, hn128, hno, htop⟩ := qdp h0
 obtain ⟨nv, rfl, hn, hv, ht⟩ := hf
 obtain ⟨ao, c, rfl, hc, hc2, _⟩ := hn.shape
 have hF := (show FmV w _ f from ⟨_, rfl, hn, hv, ht⟩)
 obtain ⟨vz, ns, top⟩ := f
 simp only at hvV hn128 hno htop hn ht hv hc hF h0 ⊢
 subst hvV
 have HF := qHd hF; have E0 := qHd h0; have HN := qHd hn; have HNO := qHd hno; have HT := qHd htop; have HT64 := qHd ht
 clear hF h0 hn hno htop ht hv
 obtain ⟨wa, hwa⟩ : ∃ x, x = w.alloc (.cells #[.int .i64 V, .slice ao ns.length c, .int .i64 top] 24) := ⟨_, rfl⟩
 obtain ⟨W, hW⟩ : ∃ x, x = wa.alloc (.cells #[.int .i64 0, .slice none 0 0, .int .i64 0] 24) := ⟨_, rfl⟩
 have ba : Below w.heap.size w wa := by rw [hwa]; exact qBA _ _
 have bW : Below wa.heap.size wa W := by rw [hW]; exact qBA _ _
 have sa : wa.heap.size = w.heap.size + 1 := by rw [hwa]; exact Array.size_push (xs := w.heap) _
 have sW : W.heap.size = w.heap.size + 1 + 1 := by rw [← sa, hW]; exact Array.size_push (xs := wa.heap) _
 have hg1 : W.heap[w.heap.size]? = some (.cells #[.int .i64 V, .slice ao ns.length c, .int .i64 top] 24) := qaa (by rw [hwa]; exact heap_alloc_new w _) bW
 have hg2 : W.heap[w.heap.size + 1]? = some (.cells #[.int .i64 0, .slice none 0 0, .int .i64 0] 24) := by rw [← sa, hW]; exact heap_alloc_new wa _
 have HBW := qHd (ba.trans (bW.mono ba.size))
 obtain ⟨g1, hG1⟩ : ∃ g, g = w.heap.size := ⟨_, rfl⟩
 obtain ⟨g2, hG2⟩ : ∃ g, g = w.heap.size + 1 := ⟨_, rfl⟩
 rw [← hG1] at hg1; rw [← hG2] at hg2
 have l1 : w.heap.size ≤ g1 := by omega
 have l2 : w.heap.size ≤ g2 := by omega
 have G1 := qHd hg1; have G2 := qHd hg2
 have L12 := qHd (show g1 < W.heap.size ∧ g2 < W.heap.size from ⟨by omega, by omega⟩)
 obtain ⟨x0, x1, x2⟩ := qaq hg1
 rw [hW, hwa, hG1] at x0 x1 x2
 clear ba bW sa sW hg1 hg2
 have HK := qHd (qdh _ ⟨(V : Nat), ns, top⟩ W (HF.out.below HBW.out))
 rw [E0.out, qce] at HK
 go_enter Tryz.func10, Tryz.ntmps10
 go_wp2_with (with_reducible refine qac ?_)
 rw [← hwa, ← hW, ← hG2, ← hG1]
 clear hwa hW hG2 hG1 x0 x1 x2
 refine qad.mk ?_
 (with_reducible refine HK.out.mono ?_); rintro e w1 ⟨rfl, hb1⟩
 have HB1 := qHd (HBW.out.trans (hb1.mono HBW.out.size)); have G1 := qHd (qaa G1.out hb1); have G2 := qHd (qaa G2.out hb1)
 have L12 := qHd (show g1 < w1.heap.size ∧ g2 < w1.heap.size from ⟨Nat.lt_of_lt_of_le L12.out.1 hb1.size, Nat.lt_of_lt_of_le L12.out.2 hb1.size⟩)
 clear hb1 HK HBW
 obtain ⟨w2, hw2⟩ : ∃ z0, z0 = w1.alloc (.cells #[.int .i64 V, .slice none 0 0, .int .i64 0] 65) := ⟨_, rfl⟩
 have hb2 : Below w1.heap.size w1 w2 := by rw [hw2]; exact qBA _ _
 obtain ⟨gb, hg2⟩ : ∃ g, g = w1.heap.size := ⟨_, rfl⟩
 have hx2 : w2.heap[gb]? = some (.cells #[.int .i64 V, .slice none 0 0, .int .i64 0] 65) := by rw [hw2, hg2]; exact heap_alloc_new _ _
 have hs2 : w2.heap.size = w1.heap.size + 1 := by rw [hw2]; simp
 obtain ⟨B0, hB0⟩ : ∃ b, b = w1.heap.size := ⟨_, rfl⟩
 have HB2 := qHd (show Below B0 w1 w2 by rw [hB0]; exact hb2)
 have HS1 := qHd (show w.heap.size ≤ B0 ∧ B0 ≤ w1.heap.size ∧ B0 = w1.heap.size from ⟨by rw [hB0]; exact HB1.out.size, by omega, hB0⟩)
 have GBL := qHd (show ∀ g, w2.heap.size ≤ g → B0 ≤ g from fun g h => by omega)
 have GNE := qHd (show ∀ g, w2.heap.size ≤ g → gb ≠ g from fun g h => by omega)
 have L12 := qHd (show g1 < B0 ∧ g2 < B0 by rw [hB0]; exact L12.out)
 have M2 := qHd (show Bd w2 B0 [gb] gb (.slice none 0 0) V [] 0 from ⟨hx2, NdL.nil _ _ _, by simp, by omega, fun g hg => by rw [List.mem_singleton] at hg; subst hg; exact qao hx2⟩)
 obtain ⟨x0, x1, x2⟩ := qaq (qaa G1.out hb2)
 rw [hw2] at x0 x1 x2
 obtain ⟨z0, z1, z2⟩ := qaq G1.out
 clear hb2 hx2 hs2
 go_wp2_with (with_reducible first | refine qah ?_ | refine qae ?_)
 rw [← hw2, ← hg2]
 clear hw2 hg2 x0 x1 x2 z0 z1 z2 hB0
 refine qad.mk ?_
 go_loopw [29, 6] (fun i' tv wx => ∃ q : Nat, q ≤ V ∧ i' = .int .i64 q ∧ Hid (Below B0 w1 wx) ∧ Hid (Bd wx B0 (tv.ownBlock.toList ++ [gb]) gb (.slice none 0 0) V [] 0) ∧ Hid (qbx wx w2.heap.size 3 1 tv q (qbm (rangeI q))) ∧ Hid (w2.heap.size ≤ wx.heap.size)) (fun i' _ _ => V - (intOf i').toNat)
 case atStart => exact ⟨0, Nat.zero_le _, rfl, HB2, M2, qHd (qbx.nil _ _ _ _), qHd (Nat.le_refl _)⟩
 case round =>
  obtain ⟨q, hq, rfl, HBX, MX, OX, SX⟩ := hrel
  obtain ⟨wi, rfl⟩ : ∃ wi : World, wi = wr := ⟨_, rfl⟩
  obtain ⟨aoi, ci, rfl, hci, hci2, _⟩ := qaz OX.out.1
  by_cases hlt : q < V
  ·have hltz : (q : Int) < (V : Int) := by omega
   obtain ⟨wqP, hwaP⟩ : ∃ z0, z0 = wi.alloc (.cells #[.int .i64 ((q : Nat) : Int)] 3) := ⟨_, rfl⟩
   have hbaP : Below wi.heap.size wi wqP := by rw [hwaP]; exact qBA _ _
   obtain ⟨gaP, hgaP⟩ : ∃ g, g = wi.heap.size := ⟨_, rfl⟩
   have hxaP : wqP.heap[gaP]? = some (.cells #[.int .i64 ((q : Nat) : Int)] 3) := by rw [hwaP, hgaP]; exact heap_alloc_new _ _
   have hsaP : wqP.heap.size = wi.heap.size + 1 := by rw [hwaP]; simp
   have OQ := qHd (OX.out.below hbaP); have GQ := qHd hxaP; have MQ := qHd (MX.out.below hbaP); have HBQ := qHd (qcg HBX.out HS1.out.2.1 hbaP)
   have hszq : w2.heap.size ≤ wqP.heap.size := Nat.le_trans SX.out hbaP.size
   clear hbaP hxaP hsaP
   go_wp2_with (with_reducible refine qam ?_)
   rw [← hwaP, ← hgaP]
   clear hwaP hgaP
   refine qar (w2.heap.size) Tryz.intTyK rfl (qal [0]) (by decide) (Value.slice aoi q ci) (q) _ [.int .i64 ((q : Nat) : Int)] gaP 3 rfl rfl OQ.out GQ.out rfl rfl (qal [((q : Nat) : Int)]) (qal _) (by omega) (by decide) hszq ?_
   intro vP w6 hoP hgP hfrP
   have EQ : Exc wqP w6 (Value.slice aoi q ci).ownBlock.toList := Exc.of_grown hgP (fun g hg => by rw [hg]; simp)
   have OP := qHd (show qbx w6 (w2.heap.size) 3 1 vP (q + 1) (qbm (rangeI q ++ [((q : Nat) : Int)])) by rw [qbf]; exact hoP)
   have OBQ := fun g (hg : (Value.slice aoi q ci).ownBlock = some g) => World.ownsRow.lt OQ.out.1 g hg
   have MP := qHd (MQ.out.step (Y := vP.ownBlock.toList ++ [gb]) EQ (fun g hg => .inl (List.mem_append.2 (.inl hg))) (fun hg => GNE.out gb (OBQ gb (by simpa using hg)).1 rfl) (fun g hg => by
    rcases List.mem_append.1 hg with qq | qq
    ·have q' : vP.ownBlock = some g := by simpa using qq
     rcases Nat.lt_or_ge g wqP.heap.size with r | r
     ·by_cases e : (Value.slice aoi q ci).ownBlock = some g
      ·exact .inl (List.mem_append.2 (.inl (by rw [e]; simp)))
      ·exact absurd q' (hfrP g r e)
     ·exact .inr ⟨r, (World.ownsRow.lt OP.out.1 g q').2⟩
    ·exact .inl (List.mem_append.2 (.inr qq))) (by simp))
   have SZP := qHd (Nat.le_trans hszq EQ.size)
   have HBP := qHd (EQ.low HBQ.out (Nat.le_trans HS1.out.2.1 HBQ.out.size) (fun g hg => GBL.out g (OBQ g (by simpa using hg)).1))
   have FRP := qHd (fun g (h1 : g < wqP.heap.size) (h2 : (Value.slice aoi q ci).ownBlock ≠ some g) => hfrP g h1 h2)
   clear hoP hgP hfrP EQ OBQ hszq
   go_wp2_with fail
   go_roundw
   case rel => exact ⟨q + 1, by omega, by go_num, HBP, MP, qHd (by rw [rangeI_succ]; exact OP.out), SZP⟩
   case measure => simp [intOf]; omega
  ·have hq' : V = q := by omega
   subst hq'
   obtain ⟨x0, x1, x2⟩ := qaq (qbo HBX.out G1.out L12.out.1)
   go_wp2_with (with_reducible first | refine qah ?_ | refine qae ?_)
   clear x0 x1 x2
   refine qad.mk ?_
   clear hlt
   go_loopw [40, 6] (fun i' tv wx => ∃ (j : Nat) (v1 : Value) (out : List Nd) (tl : List Int), j ≤ ns.length ∧ i' = .int .i64 j ∧ Hid (Below B0 w1 wx) ∧ Hid (Bd wx B0 (tv.ownBlock.toList ++ [gb]) gb v1 V out 0) ∧ Hid (qbx wx w2.heap.size 3 1 tv (V + j) (qbm tl)) ∧ Hid (w2.heap.size ≤ wx.heap.size) ∧ Hid (tl.length = V + j ∧ out.length ≤ 2 * j) ∧ Hid (Fld V (ns.take j) out (fun i => tl.getD i 0))) (fun i' _ _ => ns.length - (intOf i').toNat)
   case atStart => exact ⟨0, _, _, rangeI V, Nat.zero_le _, rfl, HBX, MX, OX, SX, qHd ⟨qdg V, by simp⟩, qHd (by rw [List.take_zero]; exact Fld.start (fun j hj => rangeI_getD hj))⟩
   case round =>
    clear HBX MX OX SX
    obtain ⟨j, v1, out, tl, hj, rfl, HBX, MX, OX, SX, LL, FD⟩ := hrel
    obtain ⟨wo, rfl⟩ : ∃ wo : World, wo = wr := ⟨_, rfl⟩
    obtain ⟨aot, ct, rfl, hct, hct2, _⟩ := qaz OX.out.1
    by_cases hlt : j < ns.length
    ·obtain ⟨x, hx⟩ : ∃ x, ns[j]? = some x := ⟨ns[j], List.getElem?_eq_getElem hlt⟩
     have HBO := qHd (HB1.out.trans (HBX.out.mono HS1.out.1))
     obtain ⟨b, off, rfl, hb, u1, hat⟩ := HN.out.at (by omega)
     clear u1 hb
     obtain ⟨c0, c1, ⟨av, c2, hI⟩, hk, hK⟩ := hat j x hx
     clear hat
     have c0 := qap c0 HBO.out; have c1 := qap c1 HBO.out; have c2 := qap c2 HBO.out
     have HXJ := qHd hx; have HE := qHd (ndErr_nat HNO.out hx)
     clear hx
     have h16 := (args_16 HE.out).1
     obtain ⟨ao', c', rfl, hc', hc2', _⟩ := hI.shape
     obtain ⟨k, K, args⟩ := x
     have HI := qHd hI; have HKK := qHd (And.intro hk hK); clear hI hk hK
     simp only at c0 c1 c2 HI HKK h16 hc'
     have hAG := qHd (qav HE.out).2.2.1
     simp only at hAG
     have HLJ := qHd (show (ns.take j).length = j by rw [List.length_take]; omega)
     obtain ⟨na, hna⟩ : ∃ n, n = args.length := ⟨_, rfl⟩
     rw [← hna] at c2 HI hc' h16
     have HNA := qHd hna; clear hna
     have hltz : (j : Int) < (ns.length : Int) := by omega
     obtain ⟨W3, hw3⟩ : ∃ z0, z0 = wo.alloc (.cells #[.int .i64 k, .int .i64 K, .slice ao' na c'] 56) := ⟨_, rfl⟩
     have hb3 : Below wo.heap.size wo W3 := by rw [hw3]; exact qBA _ _
     obtain ⟨gn, hg3⟩ : ∃ g, g = wo.heap.size := ⟨_, rfl⟩
     have hx3 : W3.heap[gn]? = some (.cells #[.int .i64 k, .int .i64 K, .slice ao' na c'] 56) := by rw [hw3, hg3]; exact heap_alloc_new _ _
     have hs3 : W3.heap.size = wo.heap.size + 1 := by rw [hw3]; simp
     have G8 := qHd hx3; have OX3 := qHd (OX.out.below hb3); have HB3 := qHd (qcg HBX.out HS1.out.2.1 hb3); have SX3 := qHd (Nat.le_trans SX.out hb3.size); have HBW3 := qHd (qcg HBO.out (Nat.le_refl _) hb3); have M3 := qHd (MX.out.below hb3)
     have HT3 := qHd (show qbi W3 (.slice aot (V + j) ct) tl from by
      have h := qbl (l := tl) (by rw [LL.out.1]; exact OX3.out.1) (FD.out.i64 (by rw [HLJ.out]; exact LL.out.1) hV (by have := LL.out.2; omega))
      exact h)
     have HI3 := qHd (HI.out.mono HBW3.out (Nat.le_refl _))
     have OT := qHd (fun g (hg : (Value.slice aot (V + j) ct).ownBlock = some g) => World.ownsRow.lt OX3.out.1 g hg)
     clear hb3 hx3 hs3
     go_wp2_with (with_reducible refine qbu 54 ?_)
     rw [← hw3, ← hg3]
     clear hw3 hg3 c0 c1 c2
     refine qad.mk ?_
     obtain ⟨x0, x1, x2⟩ := qaq G8.out
     have HK := qHd (nmap_any (.slice ao' na c') (.slice aot (V + j) ct) args tl W3 HI3.out HT3.out (fun y hy => by
      obtain ⟨q1, q2⟩ := hAG.out y hy
      rw [LL.out.1]; exact ⟨q1, by omega⟩) (by rw [← HNA.out]; omega) (by rw [LL.out.1]; omega))
     go_wp2_with (with_reducible refine qac ?_)
     clear x0 x1 x2
     refine qad.mk ?_
     (with_reducible refine HK.out.mono ?_); rintro e w5 ⟨va, rfl, hb4, hi4, hf4⟩
     obtain ⟨aa, ca, rfl, hca, hca2, _⟩ := hi4.shape
     obtain ⟨LM, hLM⟩ : ∃ l, l = args.map (iA (fun i => tl.getD i 0)) := ⟨_, rfl⟩
     rw [← hLM] at hi4 hf4 hca ⊢
     have hln : LM.length = na := by rw [hLM, List.length_map, HNA.out]
     rw [hln] at hi4 hf4 hca ⊢
     have HLM := qHd hLM; have HLN := qHd hln
     have HI5 := qHd hi4; have M5 := qHd (M3.out.below hb4); have OX5 := qHd (OX3.out.below hb4); have HB5 := qHd (qcg HB3.out HS1.out.2.1 hb4); have SX5 := qHd (Nat.le_trans SX3.out hb4.size); have G85 := qHd (qaa G8.out hb4)
     clear hLM hln hi4 hf4 HK hb4
     go_wp2_with (with_reducible first | refine qah ?_ | refine qae ?_)
     refine qad.mk ?_
     go_loopw [49, 10, 11, 12] (fun i' rv yv nv wx => ∃ (q : Nat), q ≤ na ∧ i' = .int .i64 q ∧ yv = .int .i64 (yesN (LM.take q) : Nat) ∧ nv = .int .i64 (noN (LM.take q) : Nat) ∧ Hid (qbx wx w5.heap.size 3 1 rv (restL (LM.take q)).length (qbm (restL (LM.take q)))) ∧ Hid (Below w5.heap.size w5 wx)) (fun i' _ _ _ _ => na - (intOf i').toNat)
     case atStart => exact ⟨0, Nat.zero_le _, rfl, rfl, rfl, qHd (qbx.nil _ _ _ _), qHd (Below.refl _ _)⟩
     case round =>
      obtain ⟨q, hq, rfl, rfl, rfl, OR, HBI⟩ := hrel
      obtain ⟨wi, rfl⟩ : ∃ wi : World, wi = wr := ⟨_, rfl⟩
      obtain ⟨ro, rc, rfl, hrc, hrc2, _⟩ := qaz OR.out.1
      have hfl := fold_len (LM.take q)
      have hfl2 : (LM.take q).length ≤ 16 := by rw [List.length_take]; omega
      obtain ⟨yes, hyes⟩ : ∃ n, n = yesN (LM.take q) := ⟨_, rfl⟩
      obtain ⟨no, hno⟩ : ∃ n, n = noN (LM.take q) := ⟨_, rfl⟩
      obtain ⟨rest, hrest⟩ : ∃ n, n = restL (LM.take q) := ⟨_, rfl⟩
      rw [← hyes, ← hno, ← hrest] at hfl
      rw [← hrest] at OR hrc ⊢
      rw [← hyes, ← hno]
      have hy16 : yes ≤ 16 := by omega
      have hn16 : no ≤ 16 := by omega
      have hr16 : rest.length ≤ 16 := by omega
      have FO := qHd (And.intro hyes (And.intro hno hrest))
      clear hfl hfl2 hyes hno hrest
      by_cases hqt : q < na
      ·obtain ⟨a, ha⟩ : ∃ a, LM[q]? = some a := ⟨LM[q]'(by rw [HLN.out]; exact hqt), List.getElem?_eq_getElem _⟩
       have hqz : (q : Int) < (na : Int) := by omega
       obtain ⟨bq, fq, e2, u1, u2, hat⟩ := (HI5.out.below HBI.out).at (by omega)
       clear u1 u2
       cases e2
       have cq := hat q a ha
       clear hat
       have HA := qHd (qbs ha); clear ha
       by_cases h1 : a = -1
       ·subst h1
        go_wp2_with fail
        go_roundw
        case rel => exact ⟨q + 1, by omega, by go_num, by rw [HA.out, yesN_1, ← FO.out.1]; go_num, by rw [HA.out, noN_a _ (by decide), ← FO.out.2.1], qHd (by rw [HA.out, restL_1, ← FO.out.2.2]; exact OR.out), HBI⟩
        case measure => simp [intOf] <;> omega
       ·have t1 : (a == -1) = false := by rw [beq_eq_false_iff_ne]; exact h1
        by_cases h2 : a = -2
        ·subst h2
         go_wp2_with fail
         go_roundw
         case rel => exact ⟨q + 1, by omega, by go_num, by rw [HA.out, yesN_a _ (by decide), ← FO.out.1], by rw [HA.out, noN_2, ← FO.out.2.1]; go_num, qHd (by rw [HA.out, restL_2, ← FO.out.2.2]; exact OR.out), HBI⟩
         case measure => simp [intOf] <;> omega
        ·have t2 : (a == -2) = false := by rw [beq_eq_false_iff_ne]; exact h2
         have HNE := qHd (And.intro h1 h2); clear h1 h2
         obtain ⟨wq, hwa⟩ : ∃ z0, z0 = wi.alloc (.cells #[.int .i64 a] 3) := ⟨_, rfl⟩
         have hba : Below wi.heap.size wi wq := by rw [hwa]; exact qBA _ _
         obtain ⟨ga, hga⟩ : ∃ g, g = wi.heap.size := ⟨_, rfl⟩
         have hxa : wq.heap[ga]? = some (.cells #[.int .i64 a] 3) := by rw [hwa, hga]; exact heap_alloc_new _ _
         have hsa : wq.heap.size = wi.heap.size + 1 := by rw [hwa]; simp
         have OQ := qHd (OR.out.below hba); have GQ := qHd hxa; have HBQ := qHd (qcg HBI.out (Nat.le_refl _) hba)
         clear hba hxa hsa
         go_wp2_with (with_reducible refine qam ?_)
         rw [← hwa, ← hga]
         clear hwa hga cq
         refine qar w5.heap.size Tryz.intTyK rfl (qal [0]) (by decide) (Value.slice ro rest.length rc) rest.length _ [.int .i64 a] ga 3 rfl rfl OQ.out GQ.out rfl rfl (qal [a]) (qal _) (by omega) (by decide) HBQ.out.size ?_
         intro vR wR ho hg hfr
         have EQ : Exc wq wR (Value.slice ro rest.length rc).ownBlock.toList := Exc.of_grown hg (fun g hg => by rw [hg]; simp)
         have OR2 := qHd (show qbx wR w5.heap.size 3 1 vR (rest.length + 1) (qbm (rest ++ [a])) by rw [qbf]; exact ho)
         have HBR := qHd (EQ.low HBQ.out HBQ.out.size (fun g hg => (World.ownsRow.lt OQ.out.1 g (by simpa using hg)).1))
         clear ho hg hfr EQ
         go_wp2_with fail
         go_roundw
         case rel => exact ⟨q + 1, by omega, by go_num, by rw [HA.out, yesN_a _ HNE.out.1, ← FO.out.1], by rw [HA.out, noN_a _ HNE.out.2, ← FO.out.2.1], qHd (by rw [HA.out, restL_a _ HNE.out.1 HNE.out.2, ← FO.out.2.2, List.length_append]; exact OR2.out), HBR⟩
         case measure => simp [intOf] <;> omega
      ·have hq' : q = na := by omega
       have FO := qHd (show yes = yesN LM ∧ no = noN LM ∧ rest = restL LM by
        have h := FO.out
        rw [hq', ← HLN.out, List.take_length] at h
        exact h)
       have M6 := qHd (M5.out.below HBI.out); have OX6 := qHd (OX5.out.below HBI.out); have HB6 := qHd (qcg HB5.out HS1.out.2.1 HBI.out); have SX6 := qHd (Nat.le_trans SX5.out HBI.out.size); have G86 := qHd (qaa G85.out HBI.out)
       have FX := qHd (show qcz V (ns.take j) out (fun i => tl.getD i 0) ⟨k, K, args⟩ rest yes no from ⟨FD.out, by rw [HLJ.out]; exact HE.out, by rw [FO.out.2.2, HLM.out], by rw [FO.out.1, HLM.out], by rw [FO.out.2.1, HLM.out]⟩)
       have IR := qHd (qbl (l := rest) OR.out.1 (fun y hy => arg_i64 (FX.out.args y hy) hV (by have := LL.out.2; omega)))
       have AP := qHd (M5.out.apart (a := Value.slice ro rest.length rc) (l := rest) (Nat.le_refl _) (fun g hg => (World.ownsRow.lt OR.out.1 g hg).1))
       have hK0 := folded_any B0 gb V _ v1 (Value.slice ro rest.length rc) out (ns.take j) (fun i => tl.getD i 0) ⟨k, K, args⟩ rest yes no ao' na c' wi M6.out hV (by have := LL.out.2; omega) IR.out AP.out HKK.out.2 hy16 hn16 hr16 FX.out
       simp only at hK0
       have HK := qHd hK0; clear hK0
       obtain ⟨x0, x1, x2⟩ := qaq G86.out
       go_wp2_with (with_reducible refine qac ?_)
       clear x0 x1 x2
       refine qad.mk ?_
       (with_reducible refine HK.out.mono ?_); rintro e w8 ⟨v8, o8, rr, rfl, hC, hM2, hl8, hG8⟩
       have C8 := qHd hC; have M8 := qHd hM2; have LX := qHd hl8; have GW := qHd hG8
       clear hC hM2 hl8 hG8 HK
       have O8 := qHd (M6.out.keepO C8.out (fun g e => ⟨by simp [e], fun h => GNE.out g (OT.out g e).1 h.symm⟩) OX6.out)
       have HB8 := qHd (M6.out.low C8.out HB6.out); have SX8 := qHd (Nat.le_trans SX6.out C8.out.exc.size)
       obtain ⟨wqP, hwaP⟩ : ∃ z0, z0 = w8.alloc (.cells #[.int .i64 rr] 3) := ⟨_, rfl⟩
       have hbaP : Below w8.heap.size w8 wqP := by rw [hwaP]; exact qBA _ _
       obtain ⟨gaP, hgaP⟩ : ∃ g, g = w8.heap.size := ⟨_, rfl⟩
       have hxaP : wqP.heap[gaP]? = some (.cells #[.int .i64 rr] 3) := by rw [hwaP, hgaP]; exact heap_alloc_new _ _
       have hsaP : wqP.heap.size = w8.heap.size + 1 := by rw [hwaP]; simp
       have OQ := qHd (O8.out.below hbaP); have GQ := qHd hxaP; have MQ := qHd (M8.out.below hbaP); have HBQ := qHd (qcg HB8.out HS1.out.2.1 hbaP)
       have hszq : w2.heap.size ≤ wqP.heap.size := Nat.le_trans SX8.out hbaP.size
       clear hbaP hxaP hsaP
       go_wp2_with (with_reducible refine qam ?_)
       rw [← hwaP, ← hgaP]
       clear hwaP hgaP
       refine qar (w2.heap.size) Tryz.intTyK rfl (qal [0]) (by decide) (Value.slice aot (V + j) ct) (V + j) _ [.int .i64 rr] gaP 3 rfl rfl OQ.out GQ.out rfl rfl (qal [rr]) (qal _) (by omega) (by decide) hszq ?_
       intro vP w9 hoP hgP hfrP
       have EQ : Exc wqP w9 (Value.slice aot (V + j) ct).ownBlock.toList := Exc.of_grown hgP (fun g hg => by rw [hg]; simp)
       have OP := qHd (show qbx w9 (w2.heap.size) 3 1 vP (V + j + 1) (qbm (tl ++ [rr])) by rw [qbf]; exact hoP)
       have OBQ := fun g (hg : (Value.slice aot (V + j) ct).ownBlock = some g) => World.ownsRow.lt OQ.out.1 g hg
       have MP := qHd (MQ.out.step (Y := vP.ownBlock.toList ++ [gb]) EQ (fun g hg => .inl (List.mem_append.2 (.inl hg))) (fun hg => GNE.out gb (OBQ gb (by simpa using hg)).1 rfl) (fun g hg => by
        rcases List.mem_append.1 hg with qq | qq
        ·have q' : vP.ownBlock = some g := by simpa using qq
         rcases Nat.lt_or_ge g wqP.heap.size with r | r
         ·by_cases e : (Value.slice aot (V + j) ct).ownBlock = some g
          ·exact .inl (List.mem_append.2 (.inl (by rw [e]; simp)))
          ·exact absurd q' (hfrP g r e)
         ·exact .inr ⟨r, (World.ownsRow.lt OP.out.1 g q').2⟩
        ·exact .inl (List.mem_append.2 (.inr qq))) (by simp))
       have SZP := qHd (Nat.le_trans hszq EQ.size)
       have HBP := qHd (EQ.low HBQ.out (Nat.le_trans HS1.out.2.1 HBQ.out.size) (fun g hg => GBL.out g (OBQ g (by simpa using hg)).1))
       have FRP := qHd (fun g (h1 : g < wqP.heap.size) (h2 : (Value.slice aot (V + j) ct).ownBlock ≠ some g) => hfrP g h1 h2)
       clear hoP hgP hfrP EQ OBQ hszq
       have D9 := qHd (show Fld V (ns.take (j + 1)) o8 (fun i => (tl ++ [rr]).getD i 0) by
        rw [qbs HXJ.out]
        refine FD.out.next (qbp HNO.out j) (by rw [HLJ.out]; exact HE.out) GW.out (fun i hi => ?_) ?_
        ·exact qcv (by rw [LL.out.1]; rw [HLJ.out] at hi; exact hi)
        ·show (tl ++ [rr]).getD (V + (ns.take j).length) 0 = rr
         rw [HLJ.out, ← LL.out.1]; exact qcw)
       go_wp2_with fail
       go_roundw
       case rel => exact ⟨j + 1, v8, o8, tl ++ [rr], by omega, by go_num, HBP, MP, OP, SZP, qHd ⟨by rw [List.length_append, LL.out.1]; rfl, by have := LL.out.2; have := LX.out; omega⟩, D9⟩
       case measure => simp [intOf] <;> omega
    ·have hj' : j = ns.length := by omega
     subst hj'
     obtain ⟨T, hTT⟩ : ∃ T : Nat, top = T := ⟨top.toNat, by have := HT.out.1; omega⟩
     subst hTT
     have hT : T < V + ns.length := by have := HT.out.2; omega
     have hTz : (T : Int) < (V : Int) + (ns.length : Int) := by omega
     obtain ⟨gt, rfl, _, _, u1, _, hcell⟩ := qbt OX.out.1 rfl (by omega)
     clear u1
     obtain ⟨rr, hrr⟩ : ∃ z, z = tl.getD T 0 := ⟨_, rfl⟩
     have cT := hcell T _ (ivals_at (x := rr) (getD_some (by rw [LL.out.1]; exact hT) hrr))
     clear hcell
     have DL := FD.out
     rw [List.take_length] at DL
     have FD := qHd DL
     have eA : iA (fun i => tl.getD i 0) ((T : Nat) : Int) = rr := by unfold iA; rw [Int.toNat_natCast, hrr]
     have EA := qHd eA
     have hA : CArg V out.length (tl.getD T 0) := FD.out.arg T hT
     rw [← hrr] at hA
     have HV := qHd (show ∀ e0 : List Nat, e0.length = V → Two e0 → fA (qaj e0 out) rr = tA (qaj e0 ns) (T : Nat) from fun e0 he ht => by rw [hrr]; exact FD.out.v e0 he ht T hT)
     have HRR := qHd hrr
     clear eA hrr DL
     obtain ⟨x0, x1, x2⟩ := qaq (qbo HBX.out G1.out L12.out.1)
     rcases hA with hA | hA | hA
     ·subst hA
      obtain ⟨w6, hw6⟩ : ∃ z0, z0 = wo.alloc (.cells #[.int .i64 V, .slice none 0 0, .int .i64 0] 65) := ⟨_, rfl⟩
      have hb6 : Below wo.heap.size wo w6 := by rw [hw6]; exact qBA _ _
      obtain ⟨g6, hg6⟩ : ∃ g, g = wo.heap.size := ⟨_, rfl⟩
      have hx6 : w6.heap[g6]? = some (.cells #[.int .i64 V, .slice none 0 0, .int .i64 0] 65) := by rw [hw6, hg6]; exact heap_alloc_new _ _
      have hs6 : w6.heap.size = wo.heap.size + 1 := by rw [hw6]; simp
      obtain ⟨B6, hB6⟩ : ∃ b, b = wo.heap.size := ⟨_, rfl⟩
      have M6 := qHd (show Bd w6 B6 [g6] g6 (.slice none 0 0) V [] 0 from ⟨hx6, NdL.nil _ _ _, by simp, by omega, fun g hg => by rw [List.mem_singleton] at hg; subst hg; exact qao hx6⟩)
      have HB6 := qHd hb6
      have SB6 := qHd hB6
      clear hb6 hx6 hs6 hB6
      have HK := qHd (qbd B6 g6 V [g6] (.slice none 0 0) (.slice none 0 0) [] 0 0 1 [] w6 M6.out (qbi.nil0 _) ⟨fun h => absurd h (by simp), fun h => absurd h (by simp)⟩ ⟨by decide, by decide⟩ ⟨by decide, by decide⟩ hV (by simp))
      go_wp2_with (with_reducible refine qac ?_)
      rw [← hw6, ← hg6]
      clear hw6 hg6 x0 x1 x2 cT
      refine qad.mk ?_
      (with_reducible refine HK.out.mono ?_); rintro e w7 ⟨v7, rfl, hC, hM2⟩
      have C7 := qHd hC; have M7 := qHd hM2
      clear hC hM2 HK
      have HK := qHd (bdone_any B6 g6 V [g6] v7 ([] ++ [⟨0, 1, []⟩]) 0 (V : Nat) w7 M7.out ⟨by omega, by omega⟩ hV (by simp))
      go_wp2_with (with_reducible refine qac ?_)
      refine qad.mk ?_
      (with_reducible refine HK.out.mono ?_); rintro e w8 ⟨vg, g, ec, rfl, hb8, hg8, hc8⟩
      have hb8 : Below wo.heap.size wo w8 := by
       have h6 : Below B6 wo w6 := by rw [SB6.out]; exact HB6.out
       have h7 : Below B6 wo w7 := M6.out.low C7.out h6
       rw [← SB6.out]; exact h7.trans hb8
      have hg8 : FmL w8 wo.heap.size vg g := by rw [← SB6.out]; exact hg8
      have hs8 : B0 ≤ wo.heap.size := Nat.le_trans HS1.out.2.1 HBX.out.size
      have HB8 := qHd (HBX.out.trans (hb8.mono hs8)); have HC8 := qHd hc8
      have hg8 := hg8.base hs8
      obtain ⟨og, ng, cg, Xg, rfl, hn8, hv8, ht8⟩ := hg8
      have F8 := qHd (show FmL w8 B0 _ g from ⟨og, ng, cg, Xg, rfl, hn8, hv8, ht8⟩)
      have G28 := qHd (qbo HB8.out G2.out L12.out.2)
      clear hb8 hc8 hn8 hv8 ht8 HK hs8
      go_wp2_with (with_reducible refine qaf 24 ?_)
      refine qbj g2 0 [.int .i64 g.vars, .slice og ng cg, .int .i64 g.top] G28.out rfl rfl (Nat.le_of_ble_eq_true rfl) (by kernel_rfl) rfl ?_
      intro w9 hp9
      have G9 := qHd (show w9.heap[g2]? = some (.cells #[.int .i64 g.vars, .slice og ng cg, .int .i64 g.top] 24) by rw [hp9]; exact qco G28.out)
      have F9 := qHd ((F8.out.put hp9 L12.out.2).base HS1.out.1)
      have HB9 := qHd (qdl hp9 (HB1.out.trans (HB8.out.mono HS1.out.1)) l2)
      clear hp9
      go_wp2_with fail
      refine ret_fm rfl g2 #[.int .i64 g.vars, .slice og ng cg, .int .i64 g.top] rfl G9.out Tryz.underlying24 rfl (by kernel_rfl) rfl ?_
      refine ⟨_, g, ec, rfl, HB9.out, F9.out, ?_⟩
      rcases HC8.out with h4 | ⟨h0, h1, h2⟩
      ·exact .inl h4
      ·refine .inr ⟨h0, ?_, trivial⟩
       have h := FD.out.end_const hV HT.out (by rw [EA.out]; exact .inl rfl)
       rw [EA.out] at h
       rw [h1]
       exact h
     ·subst hA
      obtain ⟨w6, hw6⟩ : ∃ z0, z0 = wo.alloc (.cells #[.int .i64 V, .slice none 0 0, .int .i64 0] 65) := ⟨_, rfl⟩
      have hb6 : Below wo.heap.size wo w6 := by rw [hw6]; exact qBA _ _
      obtain ⟨g6, hg6⟩ : ∃ g, g = wo.heap.size := ⟨_, rfl⟩
      have hx6 : w6.heap[g6]? = some (.cells #[.int .i64 V, .slice none 0 0, .int .i64 0] 65) := by rw [hw6, hg6]; exact heap_alloc_new _ _
      have hs6 : w6.heap.size = wo.heap.size + 1 := by rw [hw6]; simp
      obtain ⟨B6, hB6⟩ : ∃ b, b = wo.heap.size := ⟨_, rfl⟩
      have M6 := qHd (show Bd w6 B6 [g6] g6 (.slice none 0 0) V [] 0 from ⟨hx6, NdL.nil _ _ _, by simp, by omega, fun g hg => by rw [List.mem_singleton] at hg; subst hg; exact qao hx6⟩)
      have HB6 := qHd hb6
      have SB6 := qHd hB6
      clear hb6 hx6 hs6 hB6
      have HK := qHd (qbd B6 g6 V [g6] (.slice none 0 0) (.slice none 0 0) [] 0 0 0 [] w6 M6.out (qbi.nil0 _) ⟨fun h => absurd h (by simp), fun h => absurd h (by simp)⟩ ⟨by decide, by decide⟩ ⟨by decide, by decide⟩ hV (by simp))
      go_wp2_with (with_reducible refine qac ?_)
      rw [← hw6, ← hg6]
      clear hw6 hg6 x0 x1 x2 cT
      refine qad.mk ?_
      (with_reducible refine HK.out.mono ?_); rintro e w7 ⟨v7, rfl, hC, hM2⟩
      have C7 := qHd hC; have M7 := qHd hM2
      clear hC hM2 HK
      have HK := qHd (bdone_any B6 g6 V [g6] v7 ([] ++ [⟨0, 0, []⟩]) 0 (V : Nat) w7 M7.out ⟨by omega, by omega⟩ hV (by simp))
      go_wp2_with (with_reducible refine qac ?_)
      refine qad.mk ?_
      (with_reducible refine HK.out.mono ?_); rintro e w8 ⟨vg, g, ec, rfl, hb8, hg8, hc8⟩
      have hb8 : Below wo.heap.size wo w8 := by
       have h6 : Below B6 wo w6 := by rw [SB6.out]; exact HB6.out
       have h7 : Below B6 wo w7 := M6.out.low C7.out h6
       rw [← SB6.out]; exact h7.trans hb8
      have hg8 : FmL w8 wo.heap.size vg g := by rw [← SB6.out]; exact hg8
      have hs8 : B0 ≤ wo.heap.size := Nat.le_trans HS1.out.2.1 HBX.out.size
      have HB8 := qHd (HBX.out.trans (hb8.mono hs8)); have HC8 := qHd hc8
      have hg8 := hg8.base hs8
      obtain ⟨og, ng, cg, Xg, rfl, hn8, hv8, ht8⟩ := hg8
      have F8 := qHd (show FmL w8 B0 _ g from ⟨og, ng, cg, Xg, rfl, hn8, hv8, ht8⟩)
      have G28 := qHd (qbo HB8.out G2.out L12.out.2)
      clear hb8 hc8 hn8 hv8 ht8 HK hs8
      go_wp2_with (with_reducible refine qaf 24 ?_)
      refine qbj g2 0 [.int .i64 g.vars, .slice og ng cg, .int .i64 g.top] G28.out rfl rfl (Nat.le_of_ble_eq_true rfl) (by kernel_rfl) rfl ?_
      intro w9 hp9
      have G9 := qHd (show w9.heap[g2]? = some (.cells #[.int .i64 g.vars, .slice og ng cg, .int .i64 g.top] 24) by rw [hp9]; exact qco G28.out)
      have F9 := qHd ((F8.out.put hp9 L12.out.2).base HS1.out.1)
      have HB9 := qHd (qdl hp9 (HB1.out.trans (HB8.out.mono HS1.out.1)) l2)
      clear hp9
      go_wp2_with fail
      refine ret_fm rfl g2 #[.int .i64 g.vars, .slice og ng cg, .int .i64 g.top] rfl G9.out Tryz.underlying24 rfl (by kernel_rfl) rfl ?_
      refine ⟨_, g, ec, rfl, HB9.out, F9.out, ?_⟩
      rcases HC8.out with h4 | ⟨h0, h1, h2⟩
      ·exact .inl h4
      ·refine .inr ⟨h0, ?_, trivial⟩
       have h := FD.out.end_const hV HT.out (by rw [EA.out]; exact .inr rfl)
       rw [EA.out] at h
       rw [h1]
       exact h
     ·have HA := qHd hA
      have t1 : (rr == -1) = false := by rw [beq_eq_false_iff_ne]; have := hA.1; omega
      have t2 : (rr == -2) = false := by rw [beq_eq_false_iff_ne]; have := hA.1; omega
      clear hA
      have HK := qHd (trimmed_any B0 gb V _ v1 out rr wo MX.out hV (by have := LL.out.2; omega) FD.out.ok HA.out)
      go_wp2_with (with_reducible refine qac ?_)
      clear x0 x1 x2 cT t1 t2
      refine qad.mk ?_
      (with_reducible refine HK.out.mono ?_); rintro e w8 ⟨vg, g, ec, rfl, hb8, hg8, hc8⟩
      have hs8 : B0 ≤ wo.heap.size := Nat.le_trans HS1.out.2.1 HBX.out.size
      have HB8 := qHd (HBX.out.trans (hb8.mono hs8)); have HC8 := qHd hc8
      have hg8 := hg8.base hs8
      obtain ⟨og, ng, cg, Xg, rfl, hn8, hv8, ht8⟩ := hg8
      have F8 := qHd (show FmL w8 B0 _ g from ⟨og, ng, cg, Xg, rfl, hn8, hv8, ht8⟩)
      have G28 := qHd (qbo HB8.out G2.out L12.out.2)
      clear hb8 hc8 hn8 hv8 ht8 HK hs8
      go_wp2_with (with_reducible refine qaf 24 ?_)
      refine qbj g2 0 [.int .i64 g.vars, .slice og ng cg, .int .i64 g.top] G28.out rfl rfl (Nat.le_of_ble_eq_true rfl) (by kernel_rfl) rfl ?_
      intro w9 hp9
      have G9 := qHd (show w9.heap[g2]? = some (.cells #[.int .i64 g.vars, .slice og ng cg, .int .i64 g.top] 24) by rw [hp9]; exact qco G28.out)
      have F9 := qHd ((F8.out.put hp9 L12.out.2).base HS1.out.1)
      have HB9 := qHd (qdl hp9 (HB1.out.trans (HB8.out.mono HS1.out.1)) l2)
      clear hp9
      go_wp2_with fail
      refine ret_fm rfl g2 #[.int .i64 g.vars, .slice og ng cg, .int .i64 g.top] rfl G9.out Tryz.underlying24 rfl (by kernel_rfl) rfl ?_
      refine ⟨_, g, ec, rfl, HB9.out, F9.out, ?_⟩
      rcases HC8.out with h4 | ⟨h0, h1, h2, h3⟩
      ·exact .inl h4
      ·refine .inr ⟨h0, ⟨h1, h2, fun e0 he ht => ?_⟩, trivial⟩
       rw [h3 e0 he ht, ← fA_arg HA.out]
       exact HV.out e0 he ht
def RetAddL (w : World) (B : Nat) (X : List Nat) (gm : Nat) (v : Value) (V : Nat) (out : List Nd) (full : Bool) (x : Nd) (e : Ending) (w' : World) : Prop :=
 ∃ (v' : Value) (out' : List Nd) (full' : Bool) (r : Nat), e = .returned (.int .i64 (r : Nat)) ∧ Chg w w' [gm] v v' ∧ Mk w' B X gm v' V out' full' ∧ r ≤ 152 ∧ (full' = false → full = false ∧ out' = out ++ [x] ∧ r = V + out.length) ∧ (out.length < 128 → full = false → full' = false)
theorem madd_anyL (B gm V : Nat) (X : List Nat) (v a : Value) (out : List Nd) (full : Bool) (k K : Int) (l : List Int) (w : World) (hM : Mk w B X gm v V out full) (ha : qbi w a l) (hn : a = .slice none 0 0 ∨ 0 < l.length) (hl : l.length ≤ 1000) (hk : I64 k) (hK : I64 K) (hV : V ≤ 24) :
  Calls Tryz.prog 24 #[.pointer (some ⟨gm, 0, none⟩), .int .i64 k, .int .i64 K, a] w (RetAddL w B X gm v V out full ⟨k, K, l⟩) := by
 obtain ⟨ao, c, rfl, hc, hc2, _⟩ := hM.nds.shape
 obtain ⟨ab, ac, rfl, hac, hac2, _⟩ := ha.shape
 obtain ⟨an, han⟩ : ∃ n, n = l.length := ⟨_, rfl⟩
 rw [← han] at ha hac hn ⊢
 have HAN := qHd han; clear han
 have hlen := hM.len
 obtain ⟨x0, x1, x2⟩ := qaq hM.cells
 have GM := qHd hM.cells; have HM := qHd hM; have HA := qHd ha; have HNE := qHd hn
 have HKK := qHd (And.intro hk hK)
 clear hM ha hk hK hn
 by_cases hf : out.length < 128
 ·have ht : ¬ (128 : Int) ≤ (out.length : Int) := by omega
  go_enter Tryz.func24, Tryz.ntmps24
  go_wp2_with (with_reducible refine qax ?_)
  clear x0 x1 x2
  refine qad.mk ?_
  refine qay (A := ?aaMA) (w := w) 11 [0] (by kernel_rfl) (Fl [KEq (.pointer (some ⟨gm, 0, none⟩)), KEq (.pointer (some ⟨gm, 0, none⟩)), KEq (.pointer (some ⟨gm, 0, none⟩)), KEq (.pointer (some ⟨gm, 1, none⟩)), KEq (.slice ao out.length c), KEq (.int .i64 k), KEq (.int .i64 K), KEq (.slice ab an ac), KCl w.heap.size l, KNa w.heap.size k K l, KN1 w.heap.size k K l]) (fun i => false) (by kernel_rfl) ?hqMA (qdx (qai (kEq _) (qai (kEq _) (qai (kEq _) (qai (kEq _) (qai (kEq _) (qai (kEq _) (qai (kEq _) (qai (kEq _) (qai (kCl _ _) (qai (kNa _ _ _ _) (qai (kN1 _ _ _ _) qdw)))))))))))) ?haMA ?stMA ?tlMA
  case hqMA =>
   intro c a d v w h
   first | (simp only [Exit.then] at h ⊢; exact h) | (simp only [Exit.inBlock, Exit.then] at h ⊢; exact h) | exact h
  case haMA =>
   intro vals
   simp only [qat, qcf, if_true, Act.put, List.setIfInBounds_toArray, List.set_cons_zero, List.set_cons_succ, List.getElem?_toArray, List.getElem?_cons_zero, List.getElem?_cons_succ, Option.bind_some]
   exact rfl
  case stMA =>
   simp only [List.take_succ_cons, List.take_zero]
   refine stepsOK_pure rfl ?_ (qab rfl rfl ?_ (qab rfl rfl ?_ (qab rfl rfl ?_ (qab rfl rfl ?_ (qab rfl rfl ?_ (qab rfl rfl ?_ (qab rfl rfl ?_ (qab rfl rfl ?_ (qab rfl rfl ?_ (qab rfl rfl ?_ (qbb)))))))))))
   ·intro vals w1 hb hd
    refine qcn (v := .pointer (some ⟨gm, 0, none⟩)) (fun w => by go_simp) (qLk rfl rfl)
   ·intro vals w1 hb hd
    refine qSv (.pointer (some ⟨gm, 0, none⟩)) (by go_simp) (qLk rfl rfl)
   ·intro vals w1 hb hd
    rw [show vals 1 = .pointer (some ⟨gm, 0, none⟩) from hd 1 (by kernel_rfl)]
    refine qSv (.pointer (some ⟨gm, 0, none⟩)) (by go_simp) (qLk rfl rfl)
   ·intro vals w1 hb hd
    rw [show vals 2 = .pointer (some ⟨gm, 0, none⟩) from hd 2 (by kernel_rfl)]
    refine qSv (.pointer (some ⟨gm, 1, none⟩)) (by go_simp) (qLk rfl rfl)
   ·intro vals w1 hb hd
    obtain ⟨e0, e1, e2⟩ := qaq (qaa GM.out hb)
    rw [show vals 3 = .pointer (some ⟨gm, 1, none⟩) from hd 3 (by kernel_rfl)]
    refine qSv (.slice ao out.length c) (by go_simp) (qLk rfl rfl)
   ·intro vals w1 hb hd
    refine qSv (.int .i64 k) (by go_simp) (qLk rfl rfl)
   ·intro vals w1 hb hd
    refine qSv (.int .i64 K) (by go_simp) (qLk rfl rfl)
   ·intro vals w1 hb hd
    refine qSv (.slice ab an ac) (by go_simp) (qLk rfl rfl)
   ·intro vals w1 hb hd
    have d7 : KEq (.slice ab an ac) (vals 7) w1 := hd 7 (by kernel_rfl)
    have HS := qHd (clone_any _ l w1 (HA.out.below hb) (by rw [← HAN.out]; exact HNE.out) hl)
    have z7 : vals 7 = _ := d7
    rw [z7]; clear z7
    refine qbh (by go_simp; first | done | exact ⟨⟨rfl, rfl⟩, rfl⟩) ?_
    (with_reducible refine HS.out.mono ?_); rintro e w2 ⟨v2, rfl, hb2, hi2, hg2⟩
    obtain ⟨o2, c2, e2, _⟩ := hi2.shape
    rw [e2] at hi2 hg2 ⊢
    exact ⟨_, rfl, qba hb2 ⟨_, _, _, rfl, hi2, fun g hg => Nat.le_trans hb.size (hg2 g hg)⟩ (fun h => by cases h)⟩
   ·intro vals w1 hb hd
    have d5 : KEq (.int .i64 k) (vals 5) w1 := hd 5 (by kernel_rfl)
    have d6 : KEq (.int .i64 K) (vals 6) w1 := hd 6 (by kernel_rfl)
    have d8 : KCl w.heap.size l (vals 8) w1 := hd 8 (by kernel_rfl)
    obtain ⟨o2, n2, c2, e2, hI, hG⟩ := d8
    rw [show vals 5 = _ from d5, show vals 6 = _ from d6, e2]
    refine qak (v := .agg #[.int .i64 k, .int .i64 K, .slice o2 n2 c2]) (w' := w1) (by go_simp) (qba (Below.refl _ _) ⟨o2, n2, c2, rfl, hI, hG⟩ (fun h => by cases h))
   ·intro vals w1 hb hd
    have d9 : KNa w.heap.size k K l (vals 9) w1 := hd 9 (by kernel_rfl)
    obtain ⟨o2, n2, c2, e2, hI, hG⟩ := d9
    rw [e2]
    refine qak (v := .slice (some ⟨w1.heap.size, 0, none⟩) 1 1) (w' := w1.alloc (.cells #[.int .i64 k, .int .i64 K, .slice o2 n2 c2] 56)) (by go_simp) (qba ((Below.refl _ _).alloc (Nat.le_refl _) _) ⟨_, o2, n2, c2, hb.size, rfl, heap_alloc_new _ _, hI.below ((Below.refl _ _).alloc (Nat.le_refl _) _), hG⟩ (fun h => by cases h))
  case tlMA =>
   intro vals w2 hb2 hf2 hdis
   simp only [List.drop_succ_cons, List.drop_zero]
   have z0 : vals 0 = _ := hf2 0 (by decide); have z4 : vals 4 = _ := hf2 4 (by decide)
   obtain ⟨gl, o2, n2, c2, hgl, e10, hx10, hI, hG⟩ : KN1 w.heap.size k K l (vals 10) w2 := hf2 10 (by decide)
   rw [z0, z4, e10]
   clear z0 z4 e10 hf2 hdis
   have HM2 := qHd (HM.out.below hb2); have HB2 := qHd hb2
   have NE := qHd (fun g (hg : (Value.slice ao out.length c).ownBlock = some g) => (HM.out.nds.lt hg).2.1)
   have HI := qHd hI; have HG := qHd hG; have HX := qHd hx10; have HGL := qHd hgl
   clear hb2 hI hG hx10 hgl
   go_wp2_with (with_reducible refine qam ?_)
   obtain ⟨xs, q1, q2, q3⟩ := HM2.out.nds
   have Q1 := qHd q1; have Q2 := qHd q2; have Q3 := qHd q3; clear q1 q2 q3
   refine qar B Tryz.nodeTy rfl noU_nd (by decide) _ out.length xs [.int .i64 k, .int .i64 K, .slice o2 n2 c2] gl 56 rfl rfl Q1.out HX.out rfl rfl noU_nd Q1.out.noU (by omega) (by decide) (Nat.le_trans HM2.out.base (Nat.le_of_lt (HM2.out.all _ HM2.out.mem))) ?_
   intro v3 w3 ho3 hg3 hfr3
   have hN3 : NdL w3 B X v3 (out ++ [⟨k, K, l⟩]) := NdL.app (x := ⟨k, K, l⟩) Q1.out Q2.out Q3.out HM2.out.all ho3 hg3 hfr3 HI.out (fun _ g hg => ⟨Nat.le_trans (Nat.le_trans HM.out.base (Nat.le_of_lt (HM.out.all _ HM.out.mem))) (HG.out g hg), fun hx => by have := HM.out.all g hx; have := HG.out g hg; omega⟩) (fun _ g hg e => by have := NE.out g e; have := HG.out g hg; omega) HKK.out.1 HKK.out.2
   have hC3 : Chg w w3 [gm] (.slice ao out.length c) v3 := (Chg.of_below HB2.out).trans (Chg.grown hg3 hfr3)
   have hG3 : w3.heap[gm]? = some (.cells #[.int .i64 V, .slice ao out.length c, .bool full] 61) := (Chg.grown (Y := []) hg3 hfr3).heap HM2.out.cells (HM2.out.ne HM2.out.mem) (by simp)
   obtain ⟨a3, c3, ev3, hc3, hc32, _⟩ := hN3.shape
   rw [List.length_append, List.length_singleton] at hc3 ev3
   subst ev3
   have HN3 := qHd hN3; have HC3 := qHd hC3; have G3 := qHd hG3
   have HA3 := qHd (fun g (hg : g ∈ X) => Nat.lt_of_lt_of_le (HM.out.all g hg) HC3.out.exc.size)
   clear hN3 hC3 hG3 ho3 hg3 hfr3
   go_wp2_with (with_reducible refine qbr ?_)
   refine qdr gm 1 G3.out rfl rfl (by simp) (by kernel_rfl) ?_
   intro w4 hp4
   have HM4 := qHd (Mk.stored G3.out HN3.out HM.out.mem (by rw [List.length_append]; simp; omega) HM.out.base HA3.out hp4)
   have HC4 := qHd (HC3.out.trans (Chg.put (v := .slice a3 (out.length + 1) c3) hp4 (List.mem_singleton.2 rfl)))
   clear hp4
   obtain ⟨y0, y1, y2⟩ := qaq HM4.out.cells
   go_wp2_with (with_reducible refine qax ?_)
   refine qad.mk ?_
   go_quiet (fail)
   go_wp2_with fail
   go_ret
   refine ⟨_, out ++ [⟨k, K, l⟩], full, V + out.length, by go_num, HC4.out.drew _, HM4.out.drew _, by omega, fun h => ⟨h, rfl, rfl⟩, fun _ h => h⟩
 ·have ht : (128 : Int) ≤ (out.length : Int) := by omega
  go_enter Tryz.func24, Tryz.ntmps24
  go_wp2_with (with_reducible refine qbr ?_)
  clear x0 x1 x2
  refine wpList_stB gm 2 GM.out rfl rfl (by simp) (by kernel_rfl) ?_
  intro w4 hp4
  have HM4 := qHd (HM.out.setFull hp4)
  have HC4 := qHd (Chg.put (v := .slice ao out.length c) hp4 (List.mem_singleton.2 rfl))
  clear hp4
  go_wp2_with fail
  go_ret
  exact ⟨_, out, true, 0, rfl, HC4.out, HM4.out, by omega, (fun h => by cases h), fun h _ => absurd h (by omega)⟩
def RetGtL (w : World) (B : Nat) (X : List Nat) (gm : Nat) (v : Value) (V : Nat) (out : List Nd) (full : Bool) (k : Int) (l : List Int) (e : Ending) (w' : World) : Prop :=
 ∃ (v' : Value) (out' : List Nd) (full' : Bool) (r : Int), e = .returned (.int .i64 r) ∧ Chg w w' [gm] v v' ∧ Mk w' B X gm v' V out' full' ∧ I64 r ∧ (full' = false → full = false ∧ out' = gateL k out l ∧ r = gateA V out l) ∧ (out.length < 128 → full = false → full' = false)
theorem gate_anyL (B gm V : Nat) (X : List Nat) (v a : Value) (out : List Nd) (full : Bool) (k : Int) (l : List Int) (w : World) (hM : Mk w B X gm v V out full) (ha : qbi w a l) (hn : 0 < l.length) (hl : l.length ≤ 1000) (hk : I64 k) (hV : V ≤ 24) :
  Calls Tryz.prog 89 #[.pointer (some ⟨gm, 0, none⟩), .int .i64 k, a] w (RetGtL w B X gm v V out full k l) := by
 by_cases h1 : l.length = 1
 ·obtain ⟨z, rfl⟩ := List.length_eq_one_iff.1 h1
  obtain ⟨ao, c, rfl, hc, hc2, _⟩ := ha.shape
  obtain ⟨b, off, rfl, hb, _, hat⟩ := ha.at (by simp)
  have c0 := hat 0 z rfl
  rw [Nat.add_zero] at c0
  have hz := ha.lt z (by simp)
  have HM := qHd hM; have HZ := qHd hz
  clear hM ha hat hz h1
  simp only [List.length_singleton] at *
  go_enter Tryz.func89, Tryz.ntmps89
  go_wp2_with fail
  go_ret
  exact ⟨_, out, full, z, rfl, Chg.refl _ _ _, HM.out, HZ.out, fun h => ⟨h, by simp [gateL], by simp [gateA]⟩, fun _ h => h⟩
 ·obtain ⟨ao, c, rfl, hc, hc2, _⟩ := ha.shape
  have HK := qHd (madd_anyL B gm V X v _ out full k 0 l w hM ha (.inr hn) hl hk ⟨by omega, by omega⟩ hV)
  obtain ⟨n, hnn⟩ : ∃ n, n = l.length := ⟨_, rfl⟩
  rw [← hnn] at HK h1 ⊢
  have ht : ((n : Int) == 1) = false := by rw [beq_eq_false_iff_ne]; omega
  have HN := qHd hnn
  clear hM ha hnn
  go_enter Tryz.func89, Tryz.ntmps89
  go_wp2_with (with_reducible refine qac ?_)
  refine qad.mk ?_
  (with_reducible refine HK.out.mono ?_); rintro e w1 ⟨v1, out1, full1, r, rfl, hC, hM1, hr, hF, hG⟩
  have C1 := qHd hC; have M1 := qHd hM1; have F1 := qHd hF; have F1G := qHd hG
  clear hC hM1 hF hG HK
  go_wp2_with fail
  go_ret
  refine ⟨_, out1, full1, (r : Nat), rfl, C1.out, M1.out, qch (by omega), fun h => ?_, F1G.out⟩
  obtain ⟨f1, f2, f3⟩ := F1.out h
  have hne : ¬ l.length = 1 := by rw [← HN.out]; exact h1
  exact ⟨f1, by rw [f2]; unfold gateL; rw [if_neg hne], by rw [f3]; unfold gateA; rw [if_neg hne]⟩
theorem gateL_len (k : Int) (out : List Nd) (l : List Int) : (gateL k out l).length ≤ out.length + 1 := by
 unfold gateL; split
 ·omega
 ·simp
theorem lsF_len (V : Nat) (l : List Int) : ∀ (L k i : Nat) (out : List Nd) (M : Memo), (lsF V l L k i out M).1.1.length + 2 ≤ out.length + 2 ^ (L + 1)
 | 0, k, i, out, M => by simp [lsF]
 | L + 1, k, i, out, M => by
  have h2 : 2 ^ (L + 1 + 1) = 2 * 2 ^ (L + 1) := by rw [Nat.pow_succ, Nat.mul_comm]
  have h1 : 2 ≤ 2 ^ (L + 1) := by rw [Nat.pow_succ]; have := Nat.two_pow_pos L; omega
  cases hM : M k i with
  | some x => rw [lsF_memo hM]; simp only; omega
  | none =>
   by_cases hk : k = 1
   ·rw [lsF_one hM hk]
    have := gateL_len 3 out (l.drop i)
    simp only; omega
   ·by_cases hl : k = (l.drop i).length
    ·rw [lsF_all hM hk hl]
     have := gateL_len 2 out (l.drop i)
     simp only; omega
    ·obtain ⟨p, hp⟩ : ∃ p, p = lsF V l L (k - 1) (i + 1) out M := ⟨_, rfl⟩
     obtain ⟨q, hq⟩ : ∃ q, q = lsF V l L k (i + 1) (gateL 2 p.1.1 [l.getD i 0, p.2]) p.1.2 := ⟨_, rfl⟩
     rw [lsF_mid hM hk hl hp hq]
     have a1 := lsF_len V l L (k - 1) (i + 1) out M
     have a2 := lsF_len V l L k (i + 1) (gateL 2 p.1.1 [l.getD i 0, p.2]) p.1.2
     rw [← hp] at a1; rw [← hq] at a2
     have a3 := gateL_len 2 p.1.1 [l.getD i 0, p.2]
     have a4 := gateL_len 3 q.1.1 [gateA V p.1.1 [l.getD i 0, p.2], q.2]
     simp only; omega
def RetLsL (w : World) (B : Nat) (X : List Nat) (gm gv gd : Nat) (v : Value) (V : Nat) (out : List Nd) (full : Bool) (a : Value) (l : List Int) (n : Nat) (M : Memo) (L k i : Nat) (e : Ending) (w' : World) : Prop :=
 ∃ (v' : Value) (out' : List Nd) (full' : Bool) (M' : Memo) (n' : Nat) (r : Int), e = .returned (.int .i64 r) ∧ Chg w w' [gm, gd] v v' ∧ Vt w' B X gm gv gd v' V out' full' a l n' M' ∧ I64 r ∧ n' + 1 ≤ n + 2 ^ L ∧
  (full' = false → full = false ∧ lsF V l L k i out M = ((out', M'), r)) ∧ (out.length + 2 ^ (L + 1) ≤ 128 → full = false → full' = false)
def LsOKL (L : Nat) : Prop := ∀ (w : World) (B : Nat) (X : List Nat) (gm gv gd : Nat) (v : Value) (V : Nat) (out : List Nd) (full : Bool) (a : Value) (l : List Int) (n : Nat) (M : Memo) (k i : Nat),
 Vt w B X gm gv gd v V out full a l n M → V ≤ 24 → l.length ≤ 16 → l.length - i ≤ L → 1 ≤ k → k ≤ l.length - i → n + 2 ^ L ≤ 200000 →
 Calls Tryz.prog 53 #[.pointer (some ⟨gv, 0, none⟩), .int .i64 (k : Nat), .int .i64 (i : Nat)] w (RetLsL w B X gm gv gd v V out full a l n M L k i)
theorem least_stepL (L : Nat) (ih : LsOKL L) : LsOKL (L + 1) := by
 intro w B X gm gv gd v V out full a l n M k i hv hV h16 hL h1 h2 hn
 have HIH := qHd ih; clear ih
 obtain ⟨p2, hp2⟩ : ∃ p, p = 2 ^ L := ⟨_, rfl⟩
 have hp3 : 2 ^ (L + 1) = 2 * p2 := by rw [hp2, Nat.pow_succ]; omega
 have hp1 : 1 ≤ p2 := by rw [hp2]; exact Nat.one_le_two_pow
 rw [hp3] at hn
 have P3 := qHd hp3; have P2 := qHd hp2; clear hp3 hp2
 obtain ⟨ao, c, rfl, hc, hc2, _⟩ := hv.ints.shape
 obtain ⟨b, off, rfl, hb, u1, hat⟩ := hv.ints.at (by omega)
 clear u1 hat
 have HV := qHd hv
 obtain ⟨m, hm⟩ : ∃ m, m = l.length := ⟨_, rfl⟩
 rw [← hm] at HV h16 hL h2 hc ⊢
 have HM := qHd hm
 clear hv hm hb
 have KI := qHd (show I64 (k : Nat) ∧ I64 (i : Nat) from ⟨qch (by omega), qch (by omega)⟩)
 have NB := qHd (show n + 2 * p2 ≤ 200000 ∧ 2 ^ (L + 1) = 2 * p2 ∧ 1 ≤ p2 from ⟨hn, P3.out, hp1⟩)
 obtain ⟨W1, hw1⟩ : ∃ z0, z0 = w.alloc (.cells #[.int .i64 (k : Nat), .int .i64 (i : Nat)] 167) := ⟨_, rfl⟩
 have hb1 : Below w.heap.size w W1 := by rw [hw1]; exact qBA _ _
 obtain ⟨gk, hg1⟩ : ∃ g, g = w.heap.size := ⟨_, rfl⟩
 have hx1 : W1.heap[gk]? = some (.cells #[.int .i64 (k : Nat), .int .i64 (i : Nat)] 167) := by rw [hw1, hg1]; exact heap_alloc_new _ _
 have hs1 : W1.heap.size = w.heap.size + 1 := by rw [hw1]; simp
 have H1 := qHd (HV.out.new (Y := gk :: X) hb1 (fun g hg => by
  rcases List.mem_cons.1 hg with e | e
  ·subst e; exact .inr ⟨by omega, by omega⟩
  ·exact .inl e) (fun g hg => List.mem_cons_of_mem _ hg))
 have NK := qHd (show gk ≠ gm ∧ gk ≠ gd from ⟨fun e => by have := HV.out.mkr.all gm HV.out.mkr.mem; omega, fun e => by have := HV.out.mkr.all gd HV.out.id; omega⟩)
 have GK := qHd hx1; have CK := qHd (Chg.of_below (Y := [gm, gd]) (v := v) hb1)
 clear hb1 hx1 hs1
 go_enter Tryz.func53, Tryz.ntmps53
 go_wp2_with (with_reducible refine qax ?_)
 rw [← hw1, ← hg1]
 clear hw1 hg1
 refine qad.mk ?_
 refine qay (A := ?aaLK) (w := W1) 9 [8] (by kernel_rfl) (Fl [KEq (.pointer (some ⟨gv, 0, none⟩)), KEq (.pointer (some ⟨gv, 0, none⟩)), KEq (.pointer (some ⟨gv, 2, none⟩)), KEq (.map (some gd)), KEq (.agg #[.int .i64 (k : Nat), .int .i64 (i : Nat)]), KLk (M k i), KLk (M k i), KLc (M k i), KEq (.bool (M k i).isSome)]) (fun i => false) (by kernel_rfl) ?hqLK (qdx (qai (kEq _) (qai (kEq _) (qai (kEq _) (qai (kEq _) (qai (kEq _) (qai (kLk _) (qai (kLk _) (qai (kLc _) (qai (kEq _) qdw)))))))))) ?haLK ?stLK ?tlLK
 case hqLK =>
  intro c a d v w h
  first | (simp only [Exit.then] at h ⊢; exact h) | (simp only [Exit.inBlock, Exit.then] at h ⊢; exact h) | exact h
 case haLK =>
  intro vals
  simp only [qat, qcf, if_true, Act.put, List.setIfInBounds_toArray, List.set_cons_zero, List.set_cons_succ, List.getElem?_toArray, List.getElem?_cons_zero, List.getElem?_cons_succ, Option.bind_some]
  exact rfl
 case stLK =>
  simp only [List.take_succ_cons, List.take_zero]
  refine qab rfl rfl ?_ (qab rfl rfl ?_ (qab rfl rfl ?_ (qab rfl rfl ?_ (qab rfl rfl ?_ (qab rfl rfl ?_ (qab rfl rfl ?_ (qab rfl rfl ?_ (stepsOK_pure rfl ?_ (qbb)))))))))
  ·intro vals w1 hb hd
   refine qSv (.pointer (some ⟨gv, 0, none⟩)) (by go_simp) (qLk rfl rfl)
  ·intro vals w1 hb hd
   rw [show vals 0 = .pointer (some ⟨gv, 0, none⟩) from hd 0 (by kernel_rfl)]
   refine qSv (.pointer (some ⟨gv, 0, none⟩)) (by go_simp) (qLk rfl rfl)
  ·intro vals w1 hb hd
   rw [show vals 1 = .pointer (some ⟨gv, 0, none⟩) from hd 1 (by kernel_rfl)]
   refine qSv (.pointer (some ⟨gv, 2, none⟩)) (by go_simp) (qLk rfl rfl)
  ·intro vals w1 hb hd
   obtain ⟨e0, e1, e2⟩ := qaq (qaa H1.out.cell hb)
   rw [show vals 2 = .pointer (some ⟨gv, 2, none⟩) from hd 2 (by kernel_rfl)]
   refine qSv (.map (some gd)) (by go_simp) (qLk rfl rfl)
  ·intro vals w1 hb hd
   obtain ⟨e0, e1⟩ := row2k (qaa GK.out hb)
   refine qSv (.agg #[.int .i64 (k : Nat), .int .i64 (i : Nat)]) (by go_simp) (qLk rfl rfl)
  ·intro vals w1 hb hd
   have d3 : KEq (.map (some gd)) (vals 3) w1 := hd 3 (by kernel_rfl)
   have d4 : KEq (.agg #[.int .i64 (k : Nat), .int .i64 (i : Nat)]) (vals 4) w1 := hd 4 (by kernel_rfl)
   rw [show vals 3 = _ from d3, show vals 4 = _ from d4]
   refine stepOK_lookK Tryz.kty2 (qde.below H1.out.map hb) (xs := [(k : Nat), (i : Nat)]) rfl (qdd KI.out.1 KI.out.2) rfl rfl rfl (fun c hc h1 h2 => qba (Below.refl _ _) ?_ (fun h => by cases h))
   rw [memoL_at] at h1 ⊢
   exact ⟨c, rfl, hc, h1⟩
  ·intro vals w1 hb hd
   have d5 : KLk (M k i) (vals 5) w1 := hd 5 (by kernel_rfl)
   obtain ⟨cz, ez, hz, hz2⟩ := d5
   rw [ez]
   refine qak (v := .tuple #[.int .i64 cz, .bool (M k i).isSome]) (w' := w1) (by go_simp) (qba (Below.refl _ _) ⟨cz, rfl, hz, hz2⟩ (fun h => by cases h))
  ·intro vals w1 hb hd
   have d6 : KLk (M k i) (vals 6) w1 := hd 6 (by kernel_rfl)
   obtain ⟨cz, ez, hz, hz2⟩ := d6
   rw [ez]
   refine qak (v := .int .i64 cz) (w' := w1) (by go_simp) (qba (Below.refl _ _) ⟨cz, rfl, hz, hz2⟩ (fun h => by cases h))
  ·intro vals w1 hb hd
   have d6 : KLk (M k i) (vals 6) w1 := hd 6 (by kernel_rfl)
   obtain ⟨cz, ez, hz, hz2⟩ := d6
   rw [ez]
   refine qcn (v := .bool (M k i).isSome) (fun w => by go_simp) (qLk rfl rfl)
 case tlLK =>
  intro vals w2 hb2 hf hdis
  simp only [List.drop_succ_cons, List.drop_zero]
  have z8 : vals 8 = _ := hf 8 (by decide)
  obtain ⟨cc, z7, hcc, hcx⟩ : KLc (M k i) (vals 7) w2 := hf 7 (by decide)
  rw [z7, z8]
  clear z7 z8 hf hdis
  have H2 := qHd (H1.out.below hb2); have GK2 := qHd (qaa GK.out hb2); have C2 := qHd (Chg.of_below (Y := [gm, gd]) (v := v) hb2)
  have HCC := qHd (And.intro hcc hcx)
  clear hb2 hcc hcx H1 GK
  cases hM : M k i with
  | some x =>
   have hcx : cc = x := HCC.out.2 x hM
   subst hcx
   have HMM := qHd hM; clear hM
   go_wp2_with fail
   go_ret
   exact ⟨v, out, full, M, n, cc, rfl, CK.out.trans C2.out, H2.out.sub (fun g hg => List.mem_cons_of_mem _ hg) HV.out.mkr.mem HV.out.iv HV.out.id (fun g e => (HV.out.sep g e).1), HCC.out.1, by have := NB.out; omega, fun h => ⟨h, lsF_memo HMM.out⟩, fun _ h => h⟩
  | none =>
   have HMM := qHd hM; clear hM
   obtain ⟨x0, x1, x2⟩ := qaq H2.out.mkr.cells
   obtain ⟨y0, y1, y2⟩ := qaq H2.out.cell
   by_cases hfu : full = true
   ·subst hfu
    go_wp2_with fail
    go_ret
    exact ⟨v, out, true, M, n, cc, rfl, CK.out.trans C2.out, H2.out.sub (fun g hg => List.mem_cons_of_mem _ hg) HV.out.mkr.mem HV.out.iv HV.out.id (fun g e => (HV.out.sep g e).1), HCC.out.1, by have := NB.out; omega, (fun h => by cases h), fun _ h => by cases h⟩
   have hfu2 : full = false := by cases full with | true => exact absurd rfl hfu | false => rfl
   subst hfu2
   clear hfu
   go_wp2_with (with_reducible refine qdk ?_)
   clear x0 x1 x2 y0 y1 y2
   refine wpList_sl i Tryz.int_un Tryz.int_sz rfl rfl (by omega) ?_
   intro off2 hoff
   have HR := qHd (show qbi w2 (.slice (some ⟨b, off2, none⟩) (m - i) (c - i)) (l.drop i) from ints_drop H2.out.ints (by omega) hoff)
   have HOFF := qHd hoff; clear hoff
   by_cases hk : k = 1
   ·have hkz : (((k : Nat) : Int) == 1) = true := by rw [beq_iff_eq]; omega
    have HK := qHd (gate_anyL B gm V (gk :: X) v (.slice (some ⟨b, off2, none⟩) (m - i) (c - i)) out false 3 (l.drop i) w2 H2.out.mkr HR.out (by rw [List.length_drop, ← HM.out]; omega) (by rw [List.length_drop, ← HM.out]; omega) ⟨by decide, by decide⟩ hV)
    obtain ⟨y0, y1, y2⟩ := qaq H2.out.cell
    go_wp2_with (with_reducible refine qac ?_)
    clear y0 y1 y2
    refine qad.mk ?_
    (with_reducible refine HK.out.mono ?_); rintro e w3 ⟨v3, o3, f3, r3, rfl, hC, hM2, hr, hF2, hG2⟩
    have GK3 := qHd (H2.out.mkr.keep hC (List.mem_cons_self ..) NK.out.1 GK2.out)
    have H3 := qHd (H2.out.chg hC hM2); have C3 := qHd (C2.out.trans hC.up2); have F3 := qHd hF2; have FG3 := qHd hG2; have R3 := qHd hr
    clear hC hM2 hF2 hG2 hr HK
    go_wp2_with (with_reducible refine qax ?_)
    refine qad.mk ?_
    refine qay (A := ?aaFIA) (w := w3) 6 [] (by kernel_rfl) (Fl [KEq (.pointer (some ⟨gv, 0, none⟩)), KEq (.pointer (some ⟨gv, 0, none⟩)), KEq (.pointer (some ⟨gv, 2, none⟩)), KEq (.map (some gd)), KEq (.agg #[.int .i64 (k : Nat), .int .i64 (i : Nat)]), KEq (.int .i64 r3)]) (fun i => false) (by kernel_rfl) ?hqFIA (qdx (qai (kEq _) (qai (kEq _) (qai (kEq _) (qai (kEq _) (qai (kEq _) (qai (kEq _) qdw))))))) ?haFIA ?stFIA ?tlFIA
    case hqFIA =>
     intro c a d v w h
     first | (simp only [Exit.then] at h ⊢; exact h) | (simp only [Exit.inBlock, Exit.then] at h ⊢; exact h) | exact h
    case haFIA =>
     intro vals
     simp only [qat, qcf, if_true, Act.put, List.setIfInBounds_toArray, List.set_cons_zero, List.set_cons_succ, List.getElem?_toArray, List.getElem?_cons_zero, List.getElem?_cons_succ, Option.bind_some]
     exact rfl
    case stFIA =>
     simp only [List.take_succ_cons, List.take_zero]
     refine qab rfl rfl ?_ (qab rfl rfl ?_ (qab rfl rfl ?_ (qab rfl rfl ?_ (qab rfl rfl ?_ (qab rfl rfl ?_ (qbb))))))
     ·intro vals w1 hb hd
      refine qSv (.pointer (some ⟨gv, 0, none⟩)) (by go_simp) (qLk rfl rfl)
     ·intro vals w1 hb hd
      rw [show vals 0 = .pointer (some ⟨gv, 0, none⟩) from hd 0 (by kernel_rfl)]
      refine qSv (.pointer (some ⟨gv, 0, none⟩)) (by go_simp) (qLk rfl rfl)
     ·intro vals w1 hb hd
      rw [show vals 1 = .pointer (some ⟨gv, 0, none⟩) from hd 1 (by kernel_rfl)]
      refine qSv (.pointer (some ⟨gv, 2, none⟩)) (by go_simp) (qLk rfl rfl)
     ·intro vals w1 hb hd
      obtain ⟨e0, e1, e2⟩ := qaq (qaa H3.out.cell hb)
      rw [show vals 2 = .pointer (some ⟨gv, 2, none⟩) from hd 2 (by kernel_rfl)]
      refine qSv (.map (some gd)) (by go_simp) (qLk rfl rfl)
     ·intro vals w1 hb hd
      obtain ⟨e0, e1⟩ := row2k (qaa GK3.out hb)
      refine qSv (.agg #[.int .i64 (k : Nat), .int .i64 (i : Nat)]) (by go_simp) (qLk rfl rfl)
     ·intro vals w1 hb hd
      refine qSv (.int .i64 r3) (by go_simp) (qLk rfl rfl)
    case tlFIA =>
     intro vals w8 hb8 hf8 hdis8
     simp only [List.drop_succ_cons, List.drop_zero]
     have z3 : vals 3 = _ := hf8 3 (by decide); have z4 : vals 4 = _ := hf8 4 (by decide); have z5 : vals 5 = _ := hf8 5 (by decide)
     rw [z3, z4, z5]
     clear z3 z4 z5 hf8 hdis8
     have H8 := qHd (H3.out.below hb8); have C8 := qHd (C3.out.trans (Chg.of_below hb8))
     clear hb8
     go_wp2_with (with_reducible refine qdb ?_)
     refine wpList_muK Tryz.kty2 H8.out.map [(k : Nat), (i : Nat)] r3 rfl (qdd KI.out.1 KI.out.2) R3.out (by unfold maxLen; have := NB.out; omega) rfl rfl rfl ?_
     intro w9 hm9 hg9
     have H9 := qHd (H8.out.upd (M' := updM M k i r3) (by unfold MapV; rw [← memoL_upd]; exact hm9) hg9)
     have C9 := qHd (C8.out.trans (show Chg w8 w9 [gm, gd] v3 v3 from ⟨(Exc.of_grown (X := [gd]) hg9 (fun g hg => by cases hg; simp)).mono (fun g hg => .inl (by rw [List.mem_singleton] at hg; subst hg; simp)), fun _ _ h => h⟩))
     clear hm9 hg9
     go_wp2_with fail
     go_ret
     exact ⟨_, o3, f3, updM M k i r3, n + 1, r3, rfl, CK.out.trans C9.out, H9.out.sub (fun g hg => List.mem_cons_of_mem _ hg) HV.out.mkr.mem HV.out.iv HV.out.id (fun g e => (HV.out.sep g e).1), R3.out, by have := NB.out; omega, (fun h => by obtain ⟨_, f2, f3⟩ := F3.out h; refine ⟨rfl, ?_⟩; rw [f2, f3]; exact lsF_one HMM.out hk), fun h _ => FG3.out (Nat.lt_of_lt_of_le (Nat.lt_add_of_pos_right (Nat.two_pow_pos _)) h) (by first | rfl | trivial)⟩
   have hkz : (((k : Nat) : Int) == 1) = false := by rw [beq_eq_false_iff_ne]; omega
   by_cases hl : k = m - i
   ·have hlz : (((k : Nat) : Int) == ((m - i : Nat) : Int)) = true := by rw [beq_iff_eq]; omega
    have HK := qHd (gate_anyL B gm V (gk :: X) v (.slice (some ⟨b, off2, none⟩) (m - i) (c - i)) out false 2 (l.drop i) w2 H2.out.mkr HR.out (by rw [List.length_drop, ← HM.out]; omega) (by rw [List.length_drop, ← HM.out]; omega) ⟨by decide, by decide⟩ hV)
    obtain ⟨y0, y1, y2⟩ := qaq H2.out.cell
    go_wp2_with (with_reducible refine qac ?_)
    clear y0 y1 y2
    refine qad.mk ?_
    (with_reducible refine HK.out.mono ?_); rintro e w3 ⟨v3, o3, f3, r3, rfl, hC, hM2, hr, hF2, hG2⟩
    have GK3 := qHd (H2.out.mkr.keep hC (List.mem_cons_self ..) NK.out.1 GK2.out)
    have H3 := qHd (H2.out.chg hC hM2); have C3 := qHd (C2.out.trans hC.up2); have F3 := qHd hF2; have FG3 := qHd hG2; have R3 := qHd hr
    clear hC hM2 hF2 hG2 hr HK
    go_wp2_with (with_reducible refine qax ?_)
    refine qad.mk ?_
    refine qay (A := ?aaFIB) (w := w3) 6 [] (by kernel_rfl) (Fl [KEq (.pointer (some ⟨gv, 0, none⟩)), KEq (.pointer (some ⟨gv, 0, none⟩)), KEq (.pointer (some ⟨gv, 2, none⟩)), KEq (.map (some gd)), KEq (.agg #[.int .i64 (k : Nat), .int .i64 (i : Nat)]), KEq (.int .i64 r3)]) (fun i => false) (by kernel_rfl) ?hqFIB (qdx (qai (kEq _) (qai (kEq _) (qai (kEq _) (qai (kEq _) (qai (kEq _) (qai (kEq _) qdw))))))) ?haFIB ?stFIB ?tlFIB
    case hqFIB =>
     intro c a d v w h
     first | (simp only [Exit.then] at h ⊢; exact h) | (simp only [Exit.inBlock, Exit.then] at h ⊢; exact h) | exact h
    case haFIB =>
     intro vals
     simp only [qat, qcf, if_true, Act.put, List.setIfInBounds_toArray, List.set_cons_zero, List.set_cons_succ, List.getElem?_toArray, List.getElem?_cons_zero, List.getElem?_cons_succ, Option.bind_some]
     exact rfl
    case stFIB =>
     simp only [List.take_succ_cons, List.take_zero]
     refine qab rfl rfl ?_ (qab rfl rfl ?_ (qab rfl rfl ?_ (qab rfl rfl ?_ (qab rfl rfl ?_ (qab rfl rfl ?_ (qbb))))))
     ·intro vals w1 hb hd
      refine qSv (.pointer (some ⟨gv, 0, none⟩)) (by go_simp) (qLk rfl rfl)
     ·intro vals w1 hb hd
      rw [show vals 0 = .pointer (some ⟨gv, 0, none⟩) from hd 0 (by kernel_rfl)]
      refine qSv (.pointer (some ⟨gv, 0, none⟩)) (by go_simp) (qLk rfl rfl)
     ·intro vals w1 hb hd
      rw [show vals 1 = .pointer (some ⟨gv, 0, none⟩) from hd 1 (by kernel_rfl)]
      refine qSv (.pointer (some ⟨gv, 2, none⟩)) (by go_simp) (qLk rfl rfl)
     ·intro vals w1 hb hd
      obtain ⟨e0, e1, e2⟩ := qaq (qaa H3.out.cell hb)
      rw [show vals 2 = .pointer (some ⟨gv, 2, none⟩) from hd 2 (by kernel_rfl)]
      refine qSv (.map (some gd)) (by go_simp) (qLk rfl rfl)
     ·intro vals w1 hb hd
      obtain ⟨e0, e1⟩ := row2k (qaa GK3.out hb)
      refine qSv (.agg #[.int .i64 (k : Nat), .int .i64 (i : Nat)]) (by go_simp) (qLk rfl rfl)
     ·intro vals w1 hb hd
      refine qSv (.int .i64 r3) (by go_simp) (qLk rfl rfl)
    case tlFIB =>
     intro vals w8 hb8 hf8 hdis8
     simp only [List.drop_succ_cons, List.drop_zero]
     have z3 : vals 3 = _ := hf8 3 (by decide); have z4 : vals 4 = _ := hf8 4 (by decide); have z5 : vals 5 = _ := hf8 5 (by decide)
     rw [z3, z4, z5]
     clear z3 z4 z5 hf8 hdis8
     have H8 := qHd (H3.out.below hb8); have C8 := qHd (C3.out.trans (Chg.of_below hb8))
     clear hb8
     go_wp2_with (with_reducible refine qdb ?_)
     refine wpList_muK Tryz.kty2 H8.out.map [(k : Nat), (i : Nat)] r3 rfl (qdd KI.out.1 KI.out.2) R3.out (by unfold maxLen; have := NB.out; omega) rfl rfl rfl ?_
     intro w9 hm9 hg9
     have H9 := qHd (H8.out.upd (M' := updM M k i r3) (by unfold MapV; rw [← memoL_upd]; exact hm9) hg9)
     have C9 := qHd (C8.out.trans (show Chg w8 w9 [gm, gd] v3 v3 from ⟨(Exc.of_grown (X := [gd]) hg9 (fun g hg => by cases hg; simp)).mono (fun g hg => .inl (by rw [List.mem_singleton] at hg; subst hg; simp)), fun _ _ h => h⟩))
     clear hm9 hg9
     go_wp2_with fail
     go_ret
     exact ⟨_, o3, f3, updM M k i r3, n + 1, r3, rfl, CK.out.trans C9.out, H9.out.sub (fun g hg => List.mem_cons_of_mem _ hg) HV.out.mkr.mem HV.out.iv HV.out.id (fun g e => (HV.out.sep g e).1), R3.out, by have := NB.out; omega, (fun h => by obtain ⟨_, f2, f3⟩ := F3.out h; refine ⟨rfl, ?_⟩; rw [f2, f3]; exact lsF_all HMM.out hk (by rw [List.length_drop, ← HM.out]; exact hl)), fun h _ => FG3.out (Nat.lt_of_lt_of_le (Nat.lt_add_of_pos_right (Nat.two_pow_pos _)) h) (by first | rfl | trivial)⟩
   have hlz : (((k : Nat) : Int) == ((m - i : Nat) : Int)) = false := by rw [beq_eq_false_iff_ne]; omega
   have hk1 : IntKind.wrap .i64 (((k : Nat) : Int) - 1) = ((k - 1 : Nat) : Int) := by rw [qda (by omega)]; omega
   have hi1 : IntKind.wrap .i64 (((i : Nat) : Int) + 1) = ((i + 1 : Nat) : Int) := by rw [qda (by omega)]; omega
   have HK := qHd (HIH.out w2 B (gk :: X) gm gv gd v V out false (.slice (some ⟨b, off, none⟩) m c) l n M (k - 1) (i + 1) H2.out hV (by rw [← HM.out]; exact h16) (by rw [← HM.out]; omega) (by omega) (by rw [← HM.out]; omega) (by rw [← P2.out]; have := NB.out; omega))
   rw [show ((i + 1 : Nat) : Int) = ((i : Nat) : Int) + 1 by omega] at HK
   go_wp2_with (with_reducible refine qac ?_)
   clear hk1 hi1
   refine qad.mk ?_
   (with_reducible refine HK.out.mono ?_); rintro e w3 ⟨v3, o3, f3, M3, n3, r3, rfl, hC, hH, hr, hn3, hF, hG⟩
   have GK3 := qHd (hC.heap GK2.out (H2.out.mkr.ne (List.mem_cons_self ..)) (by simp; exact NK.out))
   have C3 := qHd (C2.out.trans hC); have H3 := qHd hH; have F3 := qHd hF; have FG3 := qHd hG; have R3 := qHd hr; have N3 := qHd (show n3 + 1 ≤ n + p2 by rw [P2.out]; exact hn3)
   clear hC hH hF hG hr hn3 HK
   obtain ⟨a0, ha0⟩ : ∃ z, z = l.getD i 0 := ⟨_, rfl⟩
   have A0 := qHd ha0; clear ha0
   have HR3 := ints_drop H3.out.ints (i := i) (off2 := off2) (by omega) HOFF.out
   have CA := qHd (show w3.cell? ⟨b, off2, none⟩ = some (.int .i64 a0) by
    obtain ⟨b', off', e', u1, u2, hat⟩ := HR3.at (by omega)
    cases e'
    have := hat 0 a0 (by rw [A0.out, List.getElem?_drop, List.getD_eq_getElem?_getD, Nat.add_zero, List.getElem?_eq_getElem (by rw [← HM.out]; omega)]; rfl)
    rwa [Nat.add_zero] at this)
   have A64 := qHd (show I64 a0 from HR3.lt a0 (by
    rw [A0.out, List.getD_eq_getElem?_getD, List.getElem?_eq_getElem (by rw [← HM.out]; omega)]
    exact List.mem_iff_getElem?.2 ⟨0, by rw [List.getElem?_drop, Nat.add_zero, List.getElem?_eq_getElem (by rw [← HM.out]; omega)]; rfl⟩))
   clear HR3
   have hmi : 0 < m - i := by omega
   have hmiz : (0 : Int) < ((m - i : Nat) : Int) := by omega
   go_wp2_with (with_reducible refine qax ?_)
   refine qad.mk ?_
   refine qay (A := ?aaR8) (w := w3) 9 [] (by kernel_rfl) (Fl [KEq (.pointer (some ⟨gv, 0, none⟩)), KEq (.pointer (some ⟨gv, 0, none⟩)), KEq (.pointer (some ⟨gv, 0, none⟩)), KEq (.pointer (some ⟨gm, 0, none⟩)), KEq (.slice (some ⟨b, off2, none⟩) (m - i) (c - i)), KEq (.pointer (some ⟨b, off2, none⟩)), KEq (.int .i64 a0), KEq (.int .i64 r3), KLst w3.heap.size 2 #[.int .i64 a0, .int .i64 r3] 3]) (fun i => false) (by kernel_rfl) ?hqR8 (qdx (qai (kEq _) (qai (kEq _) (qai (kEq _) (qai (kEq _) (qai (kEq _) (qai (kEq _) (qai (kEq _) (qai (kEq _) (qai (kLst _ _ _ _) qdw)))))))))) ?haR8 ?stR8 ?tlR8
   case hqR8 =>
    intro c a d v w h
    first | (simp only [Exit.then] at h ⊢; exact h) | (simp only [Exit.inBlock, Exit.then] at h ⊢; exact h) | exact h
   case haR8 =>
    intro vals
    simp only [qat, qcf, if_true, Act.put, List.setIfInBounds_toArray, List.set_cons_zero, List.set_cons_succ, List.getElem?_toArray, List.getElem?_cons_zero, List.getElem?_cons_succ, Option.bind_some]
    exact rfl
   case stR8 =>
    simp only [List.take_succ_cons, List.take_zero]
    refine qab rfl rfl ?_ (qab rfl rfl ?_ (qab rfl rfl ?_ (qab rfl rfl ?_ (qab rfl rfl ?_ (qab rfl rfl ?_ (qab rfl rfl ?_ (qab rfl rfl ?_ (qab rfl rfl ?_ (qbb)))))))))
    ·intro vals w1 hb hd
     refine qSv (.pointer (some ⟨gv, 0, none⟩)) (by go_simp) (qLk rfl rfl)
    ·intro vals w1 hb hd
     rw [show vals 0 = .pointer (some ⟨gv, 0, none⟩) from hd 0 (by kernel_rfl)]
     refine qSv (.pointer (some ⟨gv, 0, none⟩)) (by go_simp) (qLk rfl rfl)
    ·intro vals w1 hb hd
     rw [show vals 1 = .pointer (some ⟨gv, 0, none⟩) from hd 1 (by kernel_rfl)]
     refine qSv (.pointer (some ⟨gv, 0, none⟩)) (by go_simp) (qLk rfl rfl)
    ·intro vals w1 hb hd
     obtain ⟨e0, e1, e2⟩ := qaq (qaa H3.out.cell hb)
     rw [show vals 2 = .pointer (some ⟨gv, 0, none⟩) from hd 2 (by kernel_rfl)]
     refine qSv (.pointer (some ⟨gm, 0, none⟩)) (by go_simp) (qLk rfl rfl)
    ·intro vals w1 hb hd
     refine qSv (.slice (some ⟨b, off2, none⟩) (m - i) (c - i)) (by go_simp) (qLk rfl rfl)
    ·intro vals w1 hb hd
     rw [show vals 4 = .slice (some ⟨b, off2, none⟩) (m - i) (c - i) from hd 4 (by kernel_rfl)]
     refine qSv (.pointer (some ⟨b, off2, none⟩)) (by go_simp) (qLk rfl rfl)
    ·intro vals w1 hb hd
     have e0 := cell1_b CA.out hb
     rw [show vals 5 = .pointer (some ⟨b, off2, none⟩) from hd 5 (by kernel_rfl)]
     refine qSv (.int .i64 a0) (by go_simp) (qLk rfl rfl)
    ·intro vals w1 hb hd
     refine qSv (.int .i64 r3) (by go_simp) (qLk rfl rfl)
    ·intro vals w1 hb hd
     rw [show vals 6 = .int .i64 a0 from hd 6 (by kernel_rfl)]
     rw [show vals 7 = .int .i64 r3 from hd 7 (by kernel_rfl)]
     refine qak (v := .slice (some ⟨w1.heap.size, 0, none⟩) 2 2) (w' := w1.alloc (.cells #[.int .i64 a0, .int .i64 r3] 3)) (by go_simp) (qba ((Below.refl _ _).alloc (Nat.le_refl _) _) ⟨_, hb.size, rfl, heap_alloc_new _ _⟩ (fun h => by cases h))
   case tlR8 =>
    intro vals w4 hb4 hf4 hdis4
    simp only [List.drop_succ_cons, List.drop_zero]
    have z3 : vals 3 = _ := hf4 3 (by decide)
    obtain ⟨g8, hg8, z8, hx8⟩ : KLst w3.heap.size 2 #[.int .i64 a0, .int .i64 r3] 3 (vals 8) w4 := hf4 8 (by decide)
    rw [z3, z8]
    clear z3 z8 hf4 hdis4 hg8
    have HK := qHd (gate_anyL B gm V (gk :: X) v3 (.slice (some ⟨g8, 0, none⟩) 2 2) o3 f3 2 [a0, r3] w4 (H3.out.below hb4).mkr (qby (l := [a0, r3]) hx8 rfl (by simp) (qdd A64.out R3.out)) (by simp) (by simp) ⟨by decide, by decide⟩ hV)
    have H4 := qHd (H3.out.below hb4); have C4 := qHd (C3.out.trans (Chg.of_below hb4)); have GK4 := qHd (qaa GK3.out hb4)
    clear hb4 hx8
    go_wp2_with (with_reducible refine qac ?_)
    refine qad.mk ?_
    (with_reducible refine HK.out.mono ?_); rintro e w5 ⟨v4, o4, f4, r4, rfl, hC, hM2, hr, hF2, hG2⟩
    have GK5 := qHd (H4.out.mkr.keep hC (List.mem_cons_self ..) NK.out.1 GK4.out)
    have H5 := qHd (H4.out.chg hC hM2); have C5 := qHd (C4.out.trans hC.up2); have F4 := qHd hF2; have FG4 := qHd hG2; have R4 := qHd hr
    clear hC hM2 hF2 hG2 hr HK
    have hi1 : IntKind.wrap .i64 (((i : Nat) : Int) + 1) = ((i + 1 : Nat) : Int) := by rw [qda (by omega)]; omega
    have HK := qHd (HIH.out w5 B (gk :: X) gm gv gd v4 V o4 f4 (.slice (some ⟨b, off, none⟩) m c) l n3 M3 k (i + 1) H5.out hV (by rw [← HM.out]; exact h16) (by rw [← HM.out]; omega) (by omega) (by rw [← HM.out]; omega) (by rw [← P2.out]; have := NB.out; have := N3.out; omega))
    rw [show ((i + 1 : Nat) : Int) = ((i : Nat) : Int) + 1 by omega] at HK
    go_wp2_with (with_reducible refine qac ?_)
    clear hi1
    refine qad.mk ?_
    (with_reducible refine HK.out.mono ?_); rintro e w6 ⟨v5, o5, f5, M5, n5, r5, rfl, hC, hH, hr, hn5, hF, hG⟩
    have GK6 := qHd (hC.heap GK5.out (H5.out.mkr.ne (List.mem_cons_self ..)) (by simp; exact NK.out))
    have C6 := qHd (C5.out.trans hC); have H6 := qHd hH; have F5 := qHd hF; have FG5 := qHd hG; have R5 := qHd hr; have N5 := qHd (show n5 + 1 ≤ n3 + p2 by rw [P2.out]; exact hn5)
    clear hC hH hF hG hr hn5 HK
    obtain ⟨y0, y1, y2⟩ := qaq H6.out.cell
    obtain ⟨w7, hw7⟩ : ∃ z0, z0 = w6.alloc (.cells #[.int .i64 r4, .int .i64 r5] 3) := ⟨_, rfl⟩
    have hb7 : Below w6.heap.size w6 w7 := by rw [hw7]; exact qBA _ _
    obtain ⟨g7, hg7⟩ : ∃ g, g = w6.heap.size := ⟨_, rfl⟩
    have hx7 : w7.heap[g7]? = some (.cells #[.int .i64 r4, .int .i64 r5] 3) := by rw [hw7, hg7]; exact heap_alloc_new _ _
    have hs7 : w7.heap.size = w6.heap.size + 1 := by rw [hw7]; simp
    have HK := qHd (gate_anyL B gm V (gk :: X) v5 (.slice (some ⟨g7, 0, none⟩) 2 2) o5 f5 3 [r4, r5] w7 (H6.out.below hb7).mkr (qby (l := [r4, r5]) hx7 rfl (by simp) (qdd R4.out R5.out)) (by simp) (by simp) ⟨by decide, by decide⟩ hV)
    have H7 := qHd (H6.out.below hb7); have C7 := qHd (C6.out.trans (Chg.of_below hb7)); have GK7 := qHd (qaa GK6.out hb7)
    clear hb7 hx7 hs7
    go_wp2_with (with_reducible refine qac ?_)
    rw [← hw7, ← hg7]
    clear hw7 hg7 y0 y1 y2
    refine qad.mk ?_
    (with_reducible refine HK.out.mono ?_); rintro e w8 ⟨v6, o6, f6, r6, rfl, hC, hM2, hr, hF2, hG2⟩
    have GK8 := qHd (H7.out.mkr.keep hC (List.mem_cons_self ..) NK.out.1 GK7.out)
    have H8 := qHd (H7.out.chg hC hM2); have C8 := qHd (C7.out.trans hC.up2); have F6 := qHd hF2; have FG6 := qHd hG2; have R6 := qHd hr
    clear hC hM2 hF2 hG2 hr HK
    have FE := qHd (show f6 = false → lsF V l (L + 1) k i out M = ((o6, updM M5 k i r6), r6) from fun h => by
     obtain ⟨e6, q6, s6⟩ := F6.out h
     obtain ⟨e5, q5⟩ := F5.out e6
     obtain ⟨e4, q4, s4⟩ := F4.out e5
     obtain ⟨_, q3⟩ := F3.out e4
     subst q6 s6 q4 s4
     rw [A0.out] at q5 ⊢
     exact lsF_mid (p := ((o3, M3), r3)) (q := ((o5, M5), r5)) HMM.out hk (by rw [List.length_drop, ← HM.out]; exact hl) q3.symm q5.symm)
    have FF := qHd (show out.length + 2 ^ (L + 1 + 1) ≤ 128 → false = false → f6 = false from fun h _ => by
     have h2 : 2 ^ (L + 1 + 1) = 2 * 2 ^ (L + 1) := by rw [Nat.pow_succ, Nat.mul_comm]
     have e3 := FG3.out (by omega) (by first | rfl | trivial)
     have b3 := lsF_len V l L (k - 1) (i + 1) out M
     rw [(F3.out e3).2] at b3
     have e4 := FG4.out (by simp only at b3; omega) e3
     have b4 := gateL_len 2 o3 [a0, r3]
     rw [← (F4.out e4).2.1] at b4
     have e5 := FG5.out (by simp only at b3; omega) e4
     have b5 := lsF_len V l L k (i + 1) o4 M3
     rw [(F5.out e5).2] at b5
     exact FG6.out (by simp only at b3 b5; omega) e5)
    have NB := qHd (show n5 + 2 ≤ n + 2 * p2 ∧ 2 ^ (L + 1) = 2 * p2 ∧ n5 < 200000 from ⟨by have := N5.out; have := N3.out; omega, NB.out.2.1, by have := N5.out; have := N3.out; have := NB.out; omega⟩)
    go_wp2_with (with_reducible refine qax ?_)
    refine qad.mk ?_
    refine qay (A := ?aaFIC) (w := w8) 6 [] (by kernel_rfl) (Fl [KEq (.pointer (some ⟨gv, 0, none⟩)), KEq (.pointer (some ⟨gv, 0, none⟩)), KEq (.pointer (some ⟨gv, 2, none⟩)), KEq (.map (some gd)), KEq (.agg #[.int .i64 (k : Nat), .int .i64 (i : Nat)]), KEq (.int .i64 r6)]) (fun i => false) (by kernel_rfl) ?hqFIC (qdx (qai (kEq _) (qai (kEq _) (qai (kEq _) (qai (kEq _) (qai (kEq _) (qai (kEq _) qdw))))))) ?haFIC ?stFIC ?tlFIC
    case hqFIC =>
     intro c a d v w h
     first | (simp only [Exit.then] at h ⊢; exact h) | (simp only [Exit.inBlock, Exit.then] at h ⊢; exact h) | exact h
    case haFIC =>
     intro vals
     simp only [qat, qcf, if_true, Act.put, List.setIfInBounds_toArray, List.set_cons_zero, List.set_cons_succ, List.getElem?_toArray, List.getElem?_cons_zero, List.getElem?_cons_succ, Option.bind_some]
     exact rfl
    case stFIC =>
     simp only [List.take_succ_cons, List.take_zero]
     refine qab rfl rfl ?_ (qab rfl rfl ?_ (qab rfl rfl ?_ (qab rfl rfl ?_ (qab rfl rfl ?_ (qab rfl rfl ?_ (qbb))))))
     ·intro vals w1 hb hd
      refine qSv (.pointer (some ⟨gv, 0, none⟩)) (by go_simp) (qLk rfl rfl)
     ·intro vals w1 hb hd
      rw [show vals 0 = .pointer (some ⟨gv, 0, none⟩) from hd 0 (by kernel_rfl)]
      refine qSv (.pointer (some ⟨gv, 0, none⟩)) (by go_simp) (qLk rfl rfl)
     ·intro vals w1 hb hd
      rw [show vals 1 = .pointer (some ⟨gv, 0, none⟩) from hd 1 (by kernel_rfl)]
      refine qSv (.pointer (some ⟨gv, 2, none⟩)) (by go_simp) (qLk rfl rfl)
     ·intro vals w1 hb hd
      obtain ⟨e0, e1, e2⟩ := qaq (qaa H8.out.cell hb)
      rw [show vals 2 = .pointer (some ⟨gv, 2, none⟩) from hd 2 (by kernel_rfl)]
      refine qSv (.map (some gd)) (by go_simp) (qLk rfl rfl)
     ·intro vals w1 hb hd
      obtain ⟨e0, e1⟩ := row2k (qaa GK8.out hb)
      refine qSv (.agg #[.int .i64 (k : Nat), .int .i64 (i : Nat)]) (by go_simp) (qLk rfl rfl)
     ·intro vals w1 hb hd
      refine qSv (.int .i64 r6) (by go_simp) (qLk rfl rfl)
    case tlFIC =>
     intro vals w8 hb8 hf8 hdis8
     simp only [List.drop_succ_cons, List.drop_zero]
     have z3 : vals 3 = _ := hf8 3 (by decide); have z4 : vals 4 = _ := hf8 4 (by decide); have z5 : vals 5 = _ := hf8 5 (by decide)
     rw [z3, z4, z5]
     clear z3 z4 z5 hf8 hdis8
     have H8 := qHd (H8.out.below hb8); have C8 := qHd (C8.out.trans (Chg.of_below hb8))
     clear hb8
     go_wp2_with (with_reducible refine qdb ?_)
     refine wpList_muK Tryz.kty2 H8.out.map [(k : Nat), (i : Nat)] r6 rfl (qdd KI.out.1 KI.out.2) R6.out (by unfold maxLen; have := NB.out; omega) rfl rfl rfl ?_
     intro w9 hm9 hg9
     have H9 := qHd (H8.out.upd (M' := updM M5 k i r6) (by unfold MapV; rw [← memoL_upd]; exact hm9) hg9)
     have C9 := qHd (C8.out.trans (show Chg w8 w9 [gm, gd] v6 v6 from ⟨(Exc.of_grown (X := [gd]) hg9 (fun g hg => by cases hg; simp)).mono (fun g hg => .inl (by rw [List.mem_singleton] at hg; subst hg; simp)), fun _ _ h => h⟩))
     clear hm9 hg9
     go_wp2_with fail
     go_ret
     exact ⟨_, o6, f6, updM M5 k i r6, n5 + 1, r6, rfl, CK.out.trans C9.out, H9.out.sub (fun g hg => List.mem_cons_of_mem _ hg) HV.out.mkr.mem HV.out.iv HV.out.id (fun g e => (HV.out.sep g e).1), R6.out, by have := NB.out; omega, (fun h => ⟨rfl, FE.out h⟩), fun h _ => FF.out h (by first | rfl | trivial)⟩
theorem least_anyL : ∀ L, LsOKL L
 | 0 => fun w B X gm gv gd v V out full a l n M k i hv hV h16 hL h1 h2 hn => absurd h2 (by omega)
 | L + 1 => least_stepL L (least_anyL L)
def RetSpcL (w : World) (B : Nat) (X : List Nat) (gm : Nat) (v : Value) (V : Nat) (nodes out : List Nd) (x : Nd) (J : List Nd → List Nd → Prop) (S : List Nd → List Nd → Nd → Prop) (e : Ending) (w' : World) : Prop :=
 ∃ (v' : Value) (out' : List Nd) (full' : Bool) (r : Int) (done : Bool), e = .returned (.tuple #[.int .i64 r, .bool done]) ∧ Chg w w' [gm] v v' ∧ Mk w' B X gm v' V out' full' ∧ I64 r ∧
  (done = false → full' = false ∧ out' = out ∧ ∀ y : Nd, y.kind = x.kind → J (nodes ++ [x]) (out ++ [y])) ∧ (done = true → full' = false → Grw V out out' r (fun e0 => nv (qaj e0 nodes) x) ∧ J (nodes ++ [x]) out') ∧ (S nodes out x → full' = false)
def SpOKL (fid : FuncId) (J : List Nd → List Nd → Prop) (S : List Nd → List Nd → Nd → Prop) : Prop :=
 ∀ (w : World) (B gm V : Nat) (X : List Nat) (v : Value) (nodes out : List Nd) (im : Nat → Int) (x : Nd) (ao : Option Addr) (c : Nat), V ≤ 24 → Mk w B X gm v V out false → qbi w (.slice ao x.args.length c) (x.args.map (iA im)) →
  (∀ g, (Value.slice ao x.args.length c).ownBlock = some g → g ∈ X ∧ g ≠ gm) → qbe (V : Nat) nodes.length x = 0 → Img V (fun _ => True) nodes out im → J nodes out → I64 x.kind → I64 x.K →
  Calls Tryz.prog fid #[.pointer (some ⟨gm, 0, none⟩), .agg #[.int .i64 x.kind, .int .i64 x.K, .slice ao x.args.length c]] w (RetSpcL w B X gm v V nodes out x J S)
theorem SpOK.toL {fid : FuncId} {J : List Nd → List Nd → Prop} (h : SpOK fid J) : SpOKL fid J (fun _ _ _ => False) := by
 intro w B gm V X v nodes out im x ao c h1 h2 h3 h4 h5 h6 h7 h8 h9
 refine (h w B gm V X v nodes out im x ao c h1 h2 h3 h4 h5 h6 h7 h8 h9).mono ?_
 rintro e w1 ⟨v1, o1, f1, r1, d1, p1, p2, p3, p4, p5, p6⟩
 exact ⟨v1, o1, f1, r1, d1, p1, p2, p3, p4, p5, p6, fun h => h.elim⟩
theorem votes_spL : SpOKL 52 JV (fun _ out x => x.args.length ≤ 3 ∧ out.length ≤ 64) := by
 intro w B gm V X v nodes out im x ao c hV hM hI hSP hx hIm hJ hk64 hK64
 obtain ⟨k, K, args⟩ := x
 simp only at hI hSP hk64 hK64 ⊢
 have hkk := (qav hx).1
 have h16 := args_16 hx
 have hKo := (qav hx).2.2.2
 simp only at hkk h16 hKo
 have HM := qHd hM; have HI := qHd hI; have HSP := qHd hSP; have HX := qHd hx; have HIM := qHd hIm; have HJ := qHd hJ; have H64 := qHd (And.intro hk64 hK64)
 clear hM hI hSP hx hIm hJ hk64 hK64
 obtain ⟨w0, hw0⟩ : ∃ z0, z0 = w.alloc (.cells #[.int .i64 k, .int .i64 K, .slice ao args.length c] 56) := ⟨_, rfl⟩
 have hb0 : Below w.heap.size w w0 := by rw [hw0]; exact qBA _ _
 obtain ⟨gn, hg0⟩ : ∃ g, g = w.heap.size := ⟨_, rfl⟩
 have hx0 : w0.heap[gn]? = some (.cells #[.int .i64 k, .int .i64 K, .slice ao args.length c] 56) := by rw [hw0, hg0]; exact heap_alloc_new _ _
 have hs0 : w0.heap.size = w.heap.size + 1 := by rw [hw0]; simp
 have HM0 := qHd (HM.out.below hb0)
 have HI0 := qHd (HI.out.below hb0); have HC0 := qHd (Chg.of_below (Y := [gm]) (v := v) hb0); have S0 := qHd hs0; have B0 := qHd hb0
 obtain ⟨x0, x1, x2⟩ := qaq hx0
 rw [hw0, hg0] at x0 x1 x2
 clear hb0 hx0 hs0
 by_cases hk : k = 4
 ·subst hk
  obtain ⟨Kn, rfl⟩ : ∃ n : Nat, K = n := ⟨K.toNat, by simp [kOK] at hKo; omega⟩
  have hK1 : 1 ≤ Kn ∧ Kn ≤ args.length := by simp [kOK] at hKo; omega
  clear hKo
  obtain ⟨w1, hw1⟩ : ∃ z, z = w0.alloc (.map #[] 0) := ⟨_, rfl⟩
  have hb1 : Below w0.heap.size w0 w1 := by rw [hw1]; exact qBA _ _
  obtain ⟨gd, hgd⟩ : ∃ g, g = w0.heap.size := ⟨_, rfl⟩
  have hm1 : MapV w1 gd 0 (fun _ _ => none) := by unfold MapV; rw [memoL_none, hw1, hgd]; exact qde.made w0
  have hs1 : w1.heap.size = w0.heap.size + 1 := by rw [hw1]; simp
  obtain ⟨w2, hw2⟩ : ∃ z0, z0 = w1.alloc (.cells #[.pointer (some ⟨gm, 0, none⟩), .slice ao args.length c, .map (some gd)] 125) := ⟨_, rfl⟩
  have hb2 : Below w1.heap.size w1 w2 := by rw [hw2]; exact qBA _ _
  obtain ⟨gv, hg2⟩ : ∃ g, g = w1.heap.size := ⟨_, rfl⟩
  have hx2 : w2.heap[gv]? = some (.cells #[.pointer (some ⟨gm, 0, none⟩), .slice ao args.length c, .map (some gd)] 125) := by rw [hw2, hg2]; exact heap_alloc_new _ _
  have hs2 : w2.heap.size = w1.heap.size + 1 := by rw [hw2]; simp
  have eg1 : gd = gn + 1 := by have := S0.out; omega
  have eg2 : gv = gd + 1 := by omega
  have EG := qHd (And.intro eg1 eg2); clear eg1 eg2
  have hb12 := hb1.trans (hb2.mono hb1.size)
  have hbw2 := B0.out.trans (hb12.mono B0.out.size)
  have HC2 := qHd (Chg.of_below (Y := [gm, gd]) (v := v) hbw2)
  have ND := qHd (show w.heap.size ≤ gd ∧ w.heap.size ≤ gv ∧ gd < gv ∧ gv < w2.heap.size from ⟨by have := S0.out; omega, by have := S0.out; omega, by omega, by omega⟩)
  have HV := qHd (show Vt w2 B (gv :: gd :: X) gm gv gd v V out false (.slice ao args.length c) (args.map (iA im)) 0 (fun _ _ => none) from
   ⟨HM.out.new hbw2 (fun g hg => by
     simp only [List.mem_cons] at hg
     rcases hg with rfl | rfl | e
     ·exact .inr ⟨ND.out.2.1, ND.out.2.2.2⟩
     ·exact .inr ⟨ND.out.1, by have := ND.out.2.2; omega⟩
     ·exact .inl e) (by simp [HM.out.mem]), hx2, qde.below hm1 hb2, HI0.out.below hb12, by simp, by simp, fun e => by have := HM.out.all gm HM.out.mem; have := ND.out.2.1; omega, fun e => by have := HM.out.all gm HM.out.mem; have := ND.out.1; omega, fun e => by have := ND.out.2.2.1; omega,
    fun g e => ⟨by simp [(HSP.out g e).1], (HSP.out g e).2, fun q => by have := HM.out.all g (HSP.out g e).1; have := ND.out.1; omega⟩⟩)
  clear hb1 hb2 hs1 hs2 hm1 hx2 hb12 hbw2 HI0 HM0 HC0
  have HK := qHd (least_anyL args.length w2 B (gv :: gd :: X) gm gv gd v V out false (.slice ao args.length c) (args.map (iA im)) 0 (fun _ _ => none) Kn 0 HV.out hV (by rw [List.length_map]; exact h16.1) (by rw [List.length_map]; omega) hK1.1 (by rw [List.length_map]; exact hK1.2) (by
   have : 2 ^ args.length ≤ 2 ^ 16 := Nat.pow_le_pow_right (by decide) h16.1
   have e : 2 ^ 16 = 65536 := rfl
   omega))
  rw [show ((0 : Nat) : Int) = 0 from rfl] at HK
  have hmm := @run_makeMap Tryz.prog
  go_enter Tryz.func52, Tryz.ntmps52
  go_wp2_with (with_reducible refine qac ?_)
  rw [← hw0, ← hg0, ← hw1, ← EG.out.1, ← hw2, ← EG.out.2]
  clear hw0 hg0 x0 x1 x2 hw1 hgd hw2 hg2 hmm
  refine qad.mk ?_
  (with_reducible refine HK.out.mono ?_); rintro e w3 ⟨v3, o3, f3, M3, n3, r3, rfl, hC, hH, hr, hn3, hF, hG⟩
  have C3 := qHd (HC2.out.trans hC); have H3 := qHd hH; have F3 := qHd hF; have FG3 := qHd hG; have R3 := qHd hr
  clear hC hH hF hG hr hn3 HK
  go_wp2_with fail
  go_ret2
  have hC : Chg w w3 [gm] v v3 := C3.out.mono (fun g hg => by
   simp only [List.mem_cons, List.not_mem_nil, or_false] at hg
   rcases hg with rfl | rfl
   ·exact .inl (by simp)
   ·exact .inr ND.out.1)
  refine ⟨v3, o3, f3, r3, true, rfl, hC, H3.out.mkr.sub HM.out.mem (fun g hg => by simp [hg]), R3.out, (fun h => by cases h), fun _ h => ?_, fun hs => FG3.out (by
   have h1 : args.length ≤ 3 := hs.1
   have h2 : out.length ≤ 64 := hs.2
   have h3 : 2 ^ (args.length + 1) ≤ 2 ^ 4 := Nat.pow_le_pow_right (by decide) (by omega)
   omega) (by first | rfl | trivial)⟩
  obtain ⟨_, hf⟩ := F3.out h
  have hok := lsF_ok (o0 := out) (l := args.map (iA im)) (img_args HIM.out HX.out (fun _ _ => trivial)) (by rw [List.length_map]; exact h16.1) args.length Kn 0 out (fun _ _ => none) (by rw [List.length_map]; omega) hK1.1 (by rw [List.length_map]; exact hK1.2) ⟨[], by simp⟩ HIM.out.ok (fun _ _ _ h => by cases h)
  rw [hf] at hok
  refine ⟨vote_done (x := ⟨4, (Kn : Nat), args⟩) rfl HIM.out HX.out (fun _ _ => trivial) (by simpa using hok.1), fun hn => absurd hn (by simp), fun y hy h1 h2 h3 => ?_⟩
  obtain ⟨hn, rfl⟩ := snoc_one hy
  have ho := HJ.out.1 hn
  simp only at h2 h3
  have hK2 : Kn = 2 := by omega
  rw [ho, hK2] at hf
  obtain ⟨a, b, cc, hl⟩ : ∃ a b cc, args.map (iA im) = [a, b, cc] := by
   match args, h3 with
   | [a, b, cc], _ => exact ⟨_, _, _, rfl⟩
  have h23 := lsF_23 V a b cc
  rw [← hl, ← h3, hf] at h23
  exact h23
 ·have t2 : (k != 4) = true := bne_iff_ne.2 hk
  go_enter Tryz.func52, Tryz.ntmps52
  go_wp2_with fail
  rw [← hw0, ← hg0]
  clear hw0 hg0 x0 x1 x2
  go_ret2
  exact ⟨v, out, false, 0, false, rfl, HC0.out, HM0.out, ⟨by decide, by decide⟩, fun _ => ⟨rfl, rfl, fun y _ => ⟨fun hn => absurd hn (by simp), fun z hz h1 _ _ => by
   obtain ⟨_, rfl⟩ := snoc_one hz
   exact absurd h1 hk⟩⟩, (fun h => by cases h), fun _ => rfl⟩
theorem xors_spL : SpOKL 54 JX (fun _ _ x => x.kind ≠ 5) := by
  intro w B gm V X v nodes out im x ao c hV hM hI hSP hx hIm hJ hk64 hK64
  obtain ⟨k, K, args⟩ := x
  simp only at hI hSP hk64 hK64 ⊢
  have hkk := (qav hx).1
  have h16 := args_16 hx
  simp only at hkk h16
  have HM := qHd hM; have HI := qHd hI; have HSP := qHd hSP; have HX := qHd hx; have HIM := qHd hIm; have HJ := qHd hJ; have H64 := qHd (And.intro hk64 hK64)
  clear hM hI hSP hx hIm hJ hk64 hK64
  obtain ⟨w0, hw0⟩ : ∃ z0, z0 = w.alloc (.cells #[.int .i64 k, .int .i64 K, .slice ao args.length c] 56) := ⟨_, rfl⟩
  have hb0 : Below w.heap.size w w0 := by rw [hw0]; exact qBA _ _
  obtain ⟨gn, hg0⟩ : ∃ g, g = w.heap.size := ⟨_, rfl⟩
  have hx0 : w0.heap[gn]? = some (.cells #[.int .i64 k, .int .i64 K, .slice ao args.length c] 56) := by rw [hw0, hg0]; exact heap_alloc_new _ _
  have hs0 : w0.heap.size = w.heap.size + 1 := by rw [hw0]; simp
  have HM0 := qHd (HM.out.new (Y := gn :: X) hb0 (fun g hg => by
    rcases List.mem_cons.1 hg with e | e
    · subst e; exact .inr ⟨by omega, by omega⟩
    · exact .inl e) (List.mem_cons_of_mem _ HM.out.mem))
  have HN0 := qHd (show gn ≠ gm from fun e => by have := HM.out.all gm HM.out.mem; omega)
  have HI0 := qHd (HI.out.below hb0); have HC0 := qHd (Chg.of_below (Y := [gm]) (v := v) hb0); have G0 := qHd hx0
  obtain ⟨x0, x1, x2⟩ := qaq hx0
  rw [hw0, hg0] at x0 x1 x2
  clear hb0 hx0 hs0
  by_cases hk : k = 5
  · subst hk
    obtain ⟨a0, rest, hL⟩ : ∃ a0 rest, args.map (iA im) = a0 :: rest := by
      cases h : args.map (iA im) with
      | nil => have : (args.map (iA im)).length = 0 := by rw [h]; rfl
               rw [List.length_map] at this; omega
      | cons a l => exact ⟨a, l, rfl⟩
    have hlen : args.length = rest.length + 1 := by have := congrArg List.length hL; simpa using this
    have HL := qHd hL; have HLN := qHd hlen
    have HA := qHd (img_args HIM.out HX.out (fun _ _ => trivial))
    rw [HL.out] at HI0 HA
    have hIA := HI0.out
    have hcap : rest.length + 1 ≤ c := by
      obtain ⟨_, _, e', q, _, _⟩ := hIA.shape
      simp only [Value.slice.injEq] at e'
      obtain ⟨_, _, rfl⟩ := e'
      simpa using q
    obtain ⟨b, off, rfl, hb, _, hat⟩ := hIA.at (by omega)
    have c0 := hat 0 a0 rfl
    rw [Nat.add_zero] at c0
    have HI64 := qHd hIA.lt
    rw [hlen] at x0 x1 x2 hw0 HI0 ⊢
    have h15 : rest.length ≤ 15 := by omega
    clear hL hIA hat hlen h16
    obtain ⟨rl, hrl⟩ : ∃ n, n = rest.length := ⟨_, rfl⟩
    rw [← hrl] at x0 x1 x2 hw0 HI0 hcap h15 ⊢
    have HRL := qHd hrl; clear hrl
    rw [hw0] at c0
    go_enter Tryz.func54, Tryz.ntmps54
    go_wp2_with (with_reducible refine qdk ?_)
    rw [← hw0, ← hg0]
    clear hw0 hg0 x0 x1 x2 c0
    refine wpList_sl 1 Tryz.int_un Tryz.int_sz rfl rfl (by omega) ?_
    intro off2 hoff
    have HOFF := qHd hoff; clear hoff
    rw [show rl + 1 - 1 = rl by omega]
    go_wp2_with (with_reducible first | refine qah ?_ | refine qae ?_)
    refine qad.mk ?_
    go_loopw [22, 6] (fun i' xv wx => ∃ (q : Nat) (v1 : Value) (o1 : List Nd) (f1 : Bool) (r : Int), q ≤ rl ∧ i' = .int .i64 q ∧ xv = .int .i64 r ∧ Hid (Chg w0 wx [gm] v v1) ∧ Hid (Mk wx B (gn :: X) gm v1 V o1 f1) ∧ Hid (I64 r) ∧ Hid (f1 = false → Grw V out o1 r (fun e0 => xorL (tA (qaj e0 out)) (tA (qaj e0 out) a0) (rest.take q)) ∧ True)) (fun i' _ _ => rl - (intOf i').toNat)
    case atStart => exact ⟨0, v, out, false, a0, Nat.zero_le _, rfl, rfl, qHd (Chg.refl _ _ _), HM0, qHd (HI64.out a0 (by simp)), qHd (fun _ => ⟨Grw.refl HIM.out.ok (HA.out a0 (by simp)), trivial⟩)⟩
    case round =>
      obtain ⟨q, v1, o1, f1, r, hq, rfl, rfl, C1, M1, R1, F1⟩ := hrel
      obtain ⟨wi, rfl⟩ : ∃ wi : World, wi = wr := ⟨_, rfl⟩
      by_cases hlt : q < rl
      · obtain ⟨y, hy⟩ : ∃ y, rest[q]? = some y := ⟨rest[q]'(by rw [← HRL.out]; exact hlt), List.getElem?_eq_getElem (by rw [← HRL.out]; exact hlt)⟩
        have hII := HM0.out.keepI C1.out (fun g hg => ⟨List.mem_cons_of_mem _ (HSP.out g (by rw [HLN.out, ← HRL.out]; exact hg)).1, (HSP.out g (by rw [HLN.out, ← HRL.out]; exact hg)).2⟩) HI0.out
        obtain ⟨b', off', e', u1, u2, hat⟩ := hII.at (by omega)
        clear u1 u2
        cases e'
        have cq := hat (q + 1) y (by simpa using hy)
        rw [show off + (q + 1) = off2 + q by have := HOFF.out (by omega) (by omega); omega] at cq
        clear hat hII
        have hltz : (q : Int) < (rl : Int) := by omega
        have HY := qHd hy; clear hy
        have R8 := qHd (HI64.out y (List.mem_cons_of_mem _ (List.mem_of_getElem? HY.out)))
        obtain ⟨z2, hwq2⟩ : ∃ z0, z0 = wi.alloc (.cells #[.int .i64 y] 3) := ⟨_, rfl⟩
        have hbq2 : Below wi.heap.size wi z2 := by rw [hwq2]; exact qBA _ _
        obtain ⟨g2, hgq2⟩ : ∃ g, g = wi.heap.size := ⟨_, rfl⟩
        have hxq2 : z2.heap[g2]? = some (.cells #[.int .i64 y] 3) := by rw [hwq2, hgq2]; exact heap_alloc_new _ _
        have hsq2 : z2.heap.size = wi.heap.size + 1 := by rw [hwq2]; simp
        have HK := qHd (madd_any B gm V (gn :: X) v1 (.slice (some ⟨g2, 0, none⟩) 1 1) o1 f1 1 0 [y] z2 (M1.out.below hbq2) (qby (l := [y]) hxq2 rfl (by simp) (i64_one R8.out)) (.inr (by simp)) (by simp) ⟨by decide, by decide⟩ ⟨by decide, by decide⟩ hV)
        have Cq := qHd (C1.out.trans (Chg.of_below hbq2))
        clear hbq2 hxq2 hsq2
        go_wp2_with (with_reducible refine qac ?_)
        rw [← hwq2, ← hgq2]
        clear hwq2 hgq2 cq
        refine qad.mk ?_
        (with_reducible refine HK.out.mono ?_); rintro e w2 ⟨v2, o2, f2, r2, rfl, hC, hM2, hr2, hF2⟩
        have C2 := qHd (Cq.out.trans hC); have M2 := qHd hM2; have F2 := qHd hF2
        have R2 := qHd (qch (n := r2) (by omega))
        clear hC hM2 hF2 HK Cq
        obtain ⟨z3, hwq3⟩ : ∃ z0, z0 = w2.alloc (.cells #[.int .i64 r, .int .i64 ((r2 : Nat) : Int)] 3) := ⟨_, rfl⟩
        have hbq3 : Below w2.heap.size w2 z3 := by rw [hwq3]; exact qBA _ _
        obtain ⟨g3, hgq3⟩ : ∃ g, g = w2.heap.size := ⟨_, rfl⟩
        have hxq3 : z3.heap[g3]? = some (.cells #[.int .i64 r, .int .i64 ((r2 : Nat) : Int)] 3) := by rw [hwq3, hgq3]; exact heap_alloc_new _ _
        have hsq3 : z3.heap.size = w2.heap.size + 1 := by rw [hwq3]; simp
        have HK := qHd (madd_any B gm V (gn :: X) v2 (.slice (some ⟨g3, 0, none⟩) 2 2) o2 f2 2 0 [r, ((r2 : Nat) : Int)] z3 (M2.out.below hbq3) (qby (l := [r, ((r2 : Nat) : Int)]) hxq3 rfl (by simp) (qdd R1.out R2.out)) (.inr (by simp)) (by simp) ⟨by decide, by decide⟩ ⟨by decide, by decide⟩ hV)
        have Cq := qHd (C2.out.trans (Chg.of_below hbq3))
        clear hbq3 hxq3 hsq3
        go_wp2_with (with_reducible refine qac ?_)
        rw [← hwq3, ← hgq3]
        clear hwq3 hgq3
        refine qad.mk ?_
        (with_reducible refine HK.out.mono ?_); rintro e w3 ⟨v3, o3, f3, r3, rfl, hC, hM2, hr3, hF2⟩
        have C3 := qHd (Cq.out.trans hC); have M3 := qHd hM2; have F3 := qHd hF2
        have R3 := qHd (qch (n := r3) (by omega))
        clear hC hM2 hF2 HK Cq
        obtain ⟨z4, hwq4⟩ : ∃ z0, z0 = w3.alloc (.cells #[.int .i64 r] 3) := ⟨_, rfl⟩
        have hbq4 : Below w3.heap.size w3 z4 := by rw [hwq4]; exact qBA _ _
        obtain ⟨g4, hgq4⟩ : ∃ g, g = w3.heap.size := ⟨_, rfl⟩
        have hxq4 : z4.heap[g4]? = some (.cells #[.int .i64 r] 3) := by rw [hwq4, hgq4]; exact heap_alloc_new _ _
        have hsq4 : z4.heap.size = w3.heap.size + 1 := by rw [hwq4]; simp
        have HK := qHd (madd_any B gm V (gn :: X) v3 (.slice (some ⟨g4, 0, none⟩) 1 1) o3 f3 1 0 [r] z4 (M3.out.below hbq4) (qby (l := [r]) hxq4 rfl (by simp) (i64_one R1.out)) (.inr (by simp)) (by simp) ⟨by decide, by decide⟩ ⟨by decide, by decide⟩ hV)
        have Cq := qHd (C3.out.trans (Chg.of_below hbq4))
        clear hbq4 hxq4 hsq4
        go_wp2_with (with_reducible refine qac ?_)
        rw [← hwq4, ← hgq4]
        clear hwq4 hgq4
        refine qad.mk ?_
        (with_reducible refine HK.out.mono ?_); rintro e w4 ⟨v4, o4, f4, r4, rfl, hC, hM2, hr4, hF2⟩
        have C4 := qHd (Cq.out.trans hC); have M4 := qHd hM2; have F4 := qHd hF2
        have R4 := qHd (qch (n := r4) (by omega))
        clear hC hM2 hF2 HK Cq
        obtain ⟨z5, hwq5⟩ : ∃ z0, z0 = w4.alloc (.cells #[.int .i64 ((r4 : Nat) : Int), .int .i64 y] 3) := ⟨_, rfl⟩
        have hbq5 : Below w4.heap.size w4 z5 := by rw [hwq5]; exact qBA _ _
        obtain ⟨g5, hgq5⟩ : ∃ g, g = w4.heap.size := ⟨_, rfl⟩
        have hxq5 : z5.heap[g5]? = some (.cells #[.int .i64 ((r4 : Nat) : Int), .int .i64 y] 3) := by rw [hwq5, hgq5]; exact heap_alloc_new _ _
        have hsq5 : z5.heap.size = w4.heap.size + 1 := by rw [hwq5]; simp
        have HK := qHd (madd_any B gm V (gn :: X) v4 (.slice (some ⟨g5, 0, none⟩) 2 2) o4 f4 2 0 [((r4 : Nat) : Int), y] z5 (M4.out.below hbq5) (qby (l := [((r4 : Nat) : Int), y]) hxq5 rfl (by simp) (qdd R4.out R8.out)) (.inr (by simp)) (by simp) ⟨by decide, by decide⟩ ⟨by decide, by decide⟩ hV)
        have Cq := qHd (C4.out.trans (Chg.of_below hbq5))
        clear hbq5 hxq5 hsq5
        go_wp2_with (with_reducible refine qac ?_)
        rw [← hwq5, ← hgq5]
        clear hwq5 hgq5
        refine qad.mk ?_
        (with_reducible refine HK.out.mono ?_); rintro e w5 ⟨v5, o5, f5, r5, rfl, hC, hM2, hr5, hF2⟩
        have C5 := qHd (Cq.out.trans hC); have M5 := qHd hM2; have F5 := qHd hF2
        have R5 := qHd (qch (n := r5) (by omega))
        clear hC hM2 hF2 HK Cq
        obtain ⟨z6, hwq6⟩ : ∃ z0, z0 = w5.alloc (.cells #[.int .i64 ((r3 : Nat) : Int), .int .i64 ((r5 : Nat) : Int)] 3) := ⟨_, rfl⟩
        have hbq6 : Below w5.heap.size w5 z6 := by rw [hwq6]; exact qBA _ _
        obtain ⟨g6, hgq6⟩ : ∃ g, g = w5.heap.size := ⟨_, rfl⟩
        have hxq6 : z6.heap[g6]? = some (.cells #[.int .i64 ((r3 : Nat) : Int), .int .i64 ((r5 : Nat) : Int)] 3) := by rw [hwq6, hgq6]; exact heap_alloc_new _ _
        have hsq6 : z6.heap.size = w5.heap.size + 1 := by rw [hwq6]; simp
        have HK := qHd (madd_any B gm V (gn :: X) v5 (.slice (some ⟨g6, 0, none⟩) 2 2) o5 f5 3 0 [((r3 : Nat) : Int), ((r5 : Nat) : Int)] z6 (M5.out.below hbq6) (qby (l := [((r3 : Nat) : Int), ((r5 : Nat) : Int)]) hxq6 rfl (by simp) (qdd R3.out R5.out)) (.inr (by simp)) (by simp) ⟨by decide, by decide⟩ ⟨by decide, by decide⟩ hV)
        have Cq := qHd (C5.out.trans (Chg.of_below hbq6))
        clear hbq6 hxq6 hsq6
        go_wp2_with (with_reducible refine qac ?_)
        rw [← hwq6, ← hgq6]
        clear hwq6 hgq6
        refine qad.mk ?_
        (with_reducible refine HK.out.mono ?_); rintro e w6 ⟨v6, o6, f6, r6, rfl, hC, hM2, hr6, hF2⟩
        have C6 := qHd (Cq.out.trans hC); have M6 := qHd hM2; have F6 := qHd hF2
        have R6 := qHd (qch (n := r6) (by omega))
        clear hC hM2 hF2 HK Cq
        have F7 := qHd (show f6 = false → Grw V out o6 ((r6 : Nat) : Int) (fun e0 => xorL (tA (qaj e0 out)) (tA (qaj e0 out) a0) (rest.take (q + 1))) ∧ True from fun h => by
          obtain ⟨p6, e6, k6⟩ := F6.out h
          obtain ⟨p5, e5, k5⟩ := F5.out p6
          obtain ⟨p4, e4, k4⟩ := F4.out p5
          obtain ⟨p3, e3, k3⟩ := F3.out p4
          obtain ⟨p2, e2, k2⟩ := F2.out p3
          have hs := xor_step (F1.out p2).1 (HA.out y (List.mem_cons_of_mem _ (List.mem_of_getElem? HY.out)))
          subst e6 k6 e5 k5 e4 k4 e3 k3 e2 k2
          rw [List.take_add_one, HY.out]
          refine ⟨?_, trivial⟩
          simp only [List.length_append, List.length_singleton]
          exact hs)
        go_wp2_with fail
        go_roundw
        case rel => exact ⟨q + 1, v6, o6, f6, (r6 : Nat), by omega, by go_num, rfl, C6, M6, R6, F7⟩
        case measure => simp [intOf]; omega
      · have hq' : q = rl := by omega
        subst hq'
        go_wp2_with fail
        go_ret2
        refine ⟨v1, o1, f1, r, true, rfl, HC0.out.trans C1.out, M1.out.sub HM.out.mem (fun g hg => List.mem_cons_of_mem _ hg), R1.out, (fun h => by cases h), fun _ h => ⟨?_, ?_⟩, fun hs => absurd rfl hs⟩
        · have hf := (F1.out h).1
          rw [HRL.out, List.take_length] at hf
          exact xor_done (x := ⟨5, K, args⟩) rfl HIM.out HX.out (fun _ _ => trivial) HL.out hf
        · intro hn
          exact absurd rfl (hn ⟨5, K, args⟩ (by simp))
  · have t5 : (k != 5) = true := bne_iff_ne.2 (by omega)
    go_enter Tryz.func54, Tryz.ntmps54
    go_wp2_with fail
    rw [← hw0, ← hg0]
    clear hw0 hg0 x0 x1 x2
    go_ret2
    exact ⟨v, out, false, 0, false, rfl, HC0.out, HM0.out.sub HM.out.mem (fun g hg => List.mem_cons_of_mem _ hg), ⟨by decide, by decide⟩, fun _ => ⟨rfl, rfl, fun y _ hn => by rw [List.length_append, List.length_append, HJ.out (fun z hz => hn z (List.mem_append.2 (.inl hz)))]; rfl⟩, (fun h => by cases h), fun _ => rfl⟩
def RetMpL (w : World) (f : Fm) (R : Fm → Prop) (Sm : Prop) (e : Ending) (w' : World) : Prop :=
 ∃ (vg : Value) (g : Fm) (ec : Nat), e = .returned (.tuple #[vg, qdi ec]) ∧ Below w.heap.size w w' ∧ FmL w' w.heap.size vg g ∧ ((ec = 4 ∧ ¬ Sm) ∨ (ec = 0 ∧ FEq f g ∧ R g))
theorem mapped_anyL (fid : FuncId) (J : List Nd → List Nd → Prop) (S : List Nd → List Nd → Nd → Prop) (hsp : SpOKL fid J S) (hcf : ∀ (args : Array Value) (w : World), (callFunc fid args).run Tryz.prog w = .ok (.enter fid args) w) (hJ0 : J [] []) (vf : Value) (f : Fm) (w : World) (hf : FmV w vf f) (h0 : qcr f = 0) :
  Calls Tryz.prog 22 #[vf, .func (.func fid) #[] #[]] w (RetMpL w f (fun g => J f.nodes g.nodes) (∀ (j : Nat) (x : Nd) (out : List Nd), f.nodes[j]? = some x → J (f.nodes.take j) out → S (f.nodes.take j) out x ∧ out.length < 128)) := by
 obtain ⟨V, hvV, hV, hn128, hno, htop⟩ := qdp h0
 obtain ⟨nv, rfl, hn, hv, ht⟩ := hf
 obtain ⟨ao, c, rfl, hc, hc2, _⟩ := hn.shape
 have hF := (show FmV w _ f from ⟨_, rfl, hn, hv, ht⟩)
 obtain ⟨vz, ns, top⟩ := f
 simp only at hvV hn128 hno htop hn ht hv hc hF h0 ⊢
 subst hvV
 have HF := qHd hF; have E0 := qHd h0; have HN := qHd hn; have HNO := qHd hno; have HT := qHd htop; have HT64 := qHd ht
 clear hF h0 hn hno htop ht hv
 obtain ⟨wa, hwa⟩ : ∃ x, x = w.alloc (.cells #[.int .i64 V, .slice ao ns.length c, .int .i64 top] 24) := ⟨_, rfl⟩
 obtain ⟨W, hW⟩ : ∃ x, x = wa.alloc (.cells #[.int .i64 0, .slice none 0 0, .int .i64 0] 24) := ⟨_, rfl⟩
 have ba : Below w.heap.size w wa := by rw [hwa]; exact qBA _ _
 have bW : Below wa.heap.size wa W := by rw [hW]; exact qBA _ _
 have sa : wa.heap.size = w.heap.size + 1 := by rw [hwa]; exact Array.size_push (xs := w.heap) _
 have sW : W.heap.size = w.heap.size + 1 + 1 := by rw [← sa, hW]; exact Array.size_push (xs := wa.heap) _
 have hg1 : W.heap[w.heap.size]? = some (.cells #[.int .i64 V, .slice ao ns.length c, .int .i64 top] 24) := qaa (by rw [hwa]; exact heap_alloc_new w _) bW
 have hg2 : W.heap[w.heap.size + 1]? = some (.cells #[.int .i64 0, .slice none 0 0, .int .i64 0] 24) := by rw [← sa, hW]; exact heap_alloc_new wa _
 have HBW := qHd (ba.trans (bW.mono ba.size))
 obtain ⟨g1, hG1⟩ : ∃ g, g = w.heap.size := ⟨_, rfl⟩
 obtain ⟨g2, hG2⟩ : ∃ g, g = w.heap.size + 1 := ⟨_, rfl⟩
 rw [← hG1] at hg1; rw [← hG2] at hg2
 have l1 : w.heap.size ≤ g1 := by omega
 have l2 : w.heap.size ≤ g2 := by omega
 have G1 := qHd hg1; have G2 := qHd hg2
 have L12 := qHd (show g1 < W.heap.size ∧ g2 < W.heap.size from ⟨by omega, by omega⟩)
 obtain ⟨x0, x1, x2⟩ := qaq hg1
 rw [hW, hwa, hG1] at x0 x1 x2
 clear ba bW sa sW hg1 hg2
 have HK := qHd (qdh _ ⟨(V : Nat), ns, top⟩ W (HF.out.below HBW.out))
 rw [E0.out, qce] at HK
 have SP := qHd hsp; have J0 := qHd hJ0; have CF := qHd hcf; clear hsp hJ0 hcf
 go_enter Tryz.func22, Tryz.ntmps22
 go_wp2_with (with_reducible refine qac ?_)
 rw [← hwa, ← hW, ← hG2, ← hG1]
 clear hwa hW hG2 hG1 x0 x1 x2
 refine qad.mk ?_
 (with_reducible refine HK.out.mono ?_); rintro e w1 ⟨rfl, hb1⟩
 have HB1 := qHd (HBW.out.trans (hb1.mono HBW.out.size)); have G1 := qHd (qaa G1.out hb1); have G2 := qHd (qaa G2.out hb1)
 have L12 := qHd (show g1 < w1.heap.size ∧ g2 < w1.heap.size from ⟨Nat.lt_of_lt_of_le L12.out.1 hb1.size, Nat.lt_of_lt_of_le L12.out.2 hb1.size⟩)
 clear hb1 HK HBW
 obtain ⟨w2, hw2⟩ : ∃ z0, z0 = w1.alloc (.cells #[.int .i64 V, .slice none 0 0, .bool false] 61) := ⟨_, rfl⟩
 have hb2 : Below w1.heap.size w1 w2 := by rw [hw2]; exact qBA _ _
 obtain ⟨gm, hg2⟩ : ∃ g, g = w1.heap.size := ⟨_, rfl⟩
 have hx2 : w2.heap[gm]? = some (.cells #[.int .i64 V, .slice none 0 0, .bool false] 61) := by rw [hw2, hg2]; exact heap_alloc_new _ _
 have hs2 : w2.heap.size = w1.heap.size + 1 := by rw [hw2]; simp
 have GA := qHd hx2
 have GMB := qHd hg2; have S2 := qHd hs2; have HB2 := qHd hb2
 obtain ⟨x0, x1, x2⟩ := qaq (qaa G1.out hb2)
 rw [hw2] at x0 x1 x2
 obtain ⟨z0, z1, z2⟩ := qaq G1.out
 clear hx2 hs2 hb2
 have hn128z : (ns.length : Int) ≤ 128 := by omega
 go_wp2_with (with_reducible refine wpList_pauseM ?_)
 rw [← hw2, ← hg2]
 clear hw2 hg2 x0 x1 x2 z0 z1 z2
 refine wpList_makeNM w1.heap.size Tryz.intTyK rfl (V + ns.length) (V + ns.length) rfl rfl (by omega) (by omega) (by omega) (by omega) (by decide) HB2.out.size ?_
 intro w3 ho3 hgr3
 obtain ⟨gi, hgi⟩ : ∃ g, g = w2.heap.size := ⟨_, rfl⟩
 rw [← hgi] at ho3 ⊢
 have b23 : Below w2.heap.size w2 w3 := (Below.refl _ _).grown hgr3 (Nat.le_refl _) (fun k hk => by cases hk)
 have GIL := qHd (show w1.heap.size ≤ gi by rw [hgi]; exact HB2.out.size)
 have GNE := qHd (show gm ≠ gi by rw [hgi, GMB.out, S2.out]; omega)
 have HO := own_full ho3 (noU_rep _ _)
 rw [ivals_rep] at HO
 have O3 := qHd HO
 have HB3 := qHd (HB2.out.trans (b23.mono HB2.out.size))
 have gil := (World.ownsRow.lt ho3 gi rfl).2
 have M3 := qHd (show Mk w3 w1.heap.size [gm, gi] gm (.slice none 0 0) V [] false from ⟨qaa GA.out b23, NdL.nil _ _ _, by simp, by simp, by rw [GMB.out]; exact Nat.le_refl _, fun g hg => by
  simp only [List.mem_cons, List.not_mem_nil, or_false] at hg
  rcases hg with rfl | rfl
  ·exact Nat.lt_of_lt_of_le (qao GA.out) b23.size
  ·exact gil⟩)
 clear ho3 hgr3 HO b23 gil hgi GA S2
 obtain ⟨x0, x1, x2⟩ := qaq (qbo HB3.out G1.out L12.out.1)
 go_wp2_with (with_reducible first | refine qah ?_ | refine qae ?_)
 clear x0 x1 x2
 refine qad.mk ?_
 go_loopw [36] (fun i' wx => ∃ (q : Nat) (L : List Int), q ≤ V ∧ i' = .int .i64 q ∧ Hid (Below w1.heap.size w1 wx) ∧ Hid (Mk wx w1.heap.size [gm, gi] gm (.slice none 0 0) V [] false) ∧ Hid (qbx wx w1.heap.size 3 1 (.slice (some ⟨gi, 0, none⟩) (V + ns.length) (V + ns.length)) (V + ns.length) (qbm L)) ∧ Hid (L.length = V + ns.length) ∧ Hid (∀ j, j < q → L.getD j 0 = (j : Nat))) (fun i' _ => V - (intOf i').toNat)
 case atStart => exact ⟨0, _, Nat.zero_le _, rfl, HB3, M3, O3, qHd (List.length_replicate ..), qHd (fun j h => absurd h (Nat.not_lt_zero _))⟩
 case round =>
  obtain ⟨q, L, hq, rfl, HBX, MX, OX, LL, AT⟩ := hrel
  obtain ⟨wi, rfl⟩ : ∃ wi : World, wi = wr := ⟨_, rfl⟩
  by_cases hlt : q < V
  ·have hltz : (q : Int) < (V : Int) := by omega
   have hltz2 : (q : Int) < (V : Int) + (ns.length : Int) := by omega
   obtain ⟨cs, hcs, hcz⟩ := qdv OX.out
   go_wp2_with (with_reducible refine qbr ?_)
   refine qds gi q hcs rfl rfl (by omega) (by kernel_rfl) ?_
   intro w9 hp9
   have O9 := qHd (ownI_put OX.out LL.out (by omega) hp9)
   have M9 := qHd (MX.out.exc (Exc.put hp9 (List.mem_singleton.2 rfl)) (fun g hg => by rw [List.mem_singleton] at hg; subst hg; exact .inl (by simp)) (by simp; exact GNE.out))
   have HB9 := qHd (qdl hp9 HBX.out GIL.out)
   have AT9 := qHd (show ∀ j, j < q + 1 → (L.set q ((q : Nat) : Int)).getD j 0 = (j : Nat) from fun j hj => by
    rw [getD_set (by rw [LL.out]; omega)]
    by_cases e : j = q
    ·rw [if_pos e, e]
    ·rw [if_neg e]; exact AT.out j (by omega))
   clear hp9 hcs hcz
   go_wp2_with fail
   go_roundw
   case rel => exact ⟨q + 1, L.set q ((q : Nat) : Int), by omega, by go_num, HB9, M9, O9, qHd (by rw [List.length_set]; exact LL.out), AT9⟩
   case measure => simp [intOf]; omega
  ·have hq' : V = q := by omega
   subst hq'
   have I0 := qHd (show Img V (fun _ => True) (ns.take 0) [] (fun i => L.getD i 0) from by rw [List.take_zero]; exact Img.start AT.out)
   have J0' := qHd (show J (ns.take 0) [] by rw [List.take_zero]; exact J0.out)
   clear AT J0
   obtain ⟨x0, x1, x2⟩ := qaq (qbo HBX.out G1.out L12.out.1)
   go_wp2_with (with_reducible first | refine qah ?_ | refine qae ?_)
   clear x0 x1 x2
   refine qad.mk ?_
   clear hlt
   go_loopw [47] (fun i' wx => ∃ (j : Nat) (v1 : Value) (out : List Nd) (L : List Int), j ≤ ns.length ∧ i' = .int .i64 j ∧ Hid (Below w1.heap.size w1 wx) ∧ Hid (Mk wx w1.heap.size [gm, gi] gm v1 V out false) ∧ Hid (qbx wx w1.heap.size 3 1 (.slice (some ⟨gi, 0, none⟩) (V + ns.length) (V + ns.length)) (V + ns.length) (qbm L)) ∧ Hid (L.length = V + ns.length) ∧ Hid (Img V (fun _ => True) (ns.take j) out (fun i => L.getD i 0)) ∧ Hid (J (ns.take j) out)) (fun i' _ => ns.length - (intOf i').toNat)
   case atStart => exact ⟨0, _, _, L, Nat.zero_le _, rfl, HBX, MX, OX, LL, I0, J0'⟩
   case round =>
    clear HBX MX OX LL I0 J0' M3 O3 HB3
    obtain ⟨j, v1, out, L, hj, rfl, HBX, MX, OX, LL, IM, JJ⟩ := hrel
    obtain ⟨wo, rfl⟩ : ∃ wo : World, wo = wr := ⟨_, rfl⟩
    by_cases hlt : j < ns.length
    ·obtain ⟨x, hx⟩ : ∃ x, ns[j]? = some x := ⟨ns[j], List.getElem?_eq_getElem hlt⟩
     have HBO := qHd (HB1.out.trans (HBX.out.mono HB1.out.size))
     obtain ⟨b, off, rfl, hb, u1, hat⟩ := (HN.out.below HBO.out).at (by omega)
     clear u1 hb
     obtain ⟨c0, c1, ⟨av, c2, hI⟩, hk, hK⟩ := hat j x hx
     clear hat
     have HXJ := qHd hx; have HE := qHd (ndErr_nat HNO.out hx)
     clear hx
     have h16 := (args_16 HE.out).1
     obtain ⟨ao', c', rfl, hc', hc2', _⟩ := hI.shape
     have HI := qHd hI; have HKK := qHd (And.intro hk hK); clear hI hk hK
     have hltz : (j : Int) < (ns.length : Int) := by omega
     obtain ⟨W3, hw3⟩ : ∃ z0, z0 = wo.alloc (.cells #[.int .i64 x.kind, .int .i64 x.K, .slice ao' x.args.length c'] 56) := ⟨_, rfl⟩
     have hb3 : Below wo.heap.size wo W3 := by rw [hw3]; exact qBA _ _
     obtain ⟨gn, hg3⟩ : ∃ g, g = wo.heap.size := ⟨_, rfl⟩
     have hx3 : W3.heap[gn]? = some (.cells #[.int .i64 x.kind, .int .i64 x.K, .slice ao' x.args.length c'] 56) := by rw [hw3, hg3]; exact heap_alloc_new _ _
     have hs3 : W3.heap.size = wo.heap.size + 1 := by rw [hw3]; simp
     have G8 := qHd hx3; have HI3 := qHd (HI.out.below hb3); have O3 := qHd (OX.out.below hb3); have HB3 := qHd (qcg HBX.out (Nat.le_refl _) hb3)
     have GN := qHd (show gn ≠ gm ∧ gn ≠ gi ∧ w1.heap.size ≤ gn ∧ gn < W3.heap.size from ⟨fun e => by have := MX.out.all gm (by simp); omega, fun e => by have := MX.out.all gi (by simp); omega, by have := HBX.out.size; omega, by omega⟩)
     have M3 := qHd (MX.out.new (Y := gn :: [gm, gi]) hb3 (fun g hg => by
      rcases List.mem_cons.1 hg with e | e
      ·subst e; exact .inr ⟨by omega, by omega⟩
      ·exact .inl e) (by simp))
     obtain ⟨x0, x1, x2⟩ := qaq hx3
     rw [hw3, hg3] at x0 x1 x2
     clear hb3 hx3 hs3
     go_wp2_with (with_reducible first | refine qah ?_ | refine qae ?_)
     rw [← hw3, ← hg3]
     clear hw3 hg3 x0 x1 x2 c0 c1 c2
     refine qad.mk ?_
     obtain ⟨na, hna⟩ : ∃ n, n = x.args.length := ⟨_, rfl⟩
     rw [← hna] at HI3 G8 h16 ⊢
     have HNA := qHd hna; clear hna HI hc'
     go_loopw [55, 12] (fun i' av wx => ∃ k : Nat, k ≤ na ∧ i' = .int .i64 k ∧ Hid (Below W3.heap.size W3 wx) ∧ Hid (qbx wx W3.heap.size 3 1 av k (qbm ((x.args.take k).map (iA (fun i => L.getD i 0))))) ∧ Hid (k = 0 → av = .slice none 0 0)) (fun i' _ _ => na - (intOf i').toNat)
     case atStart => exact ⟨0, Nat.zero_le _, rfl, qHd (Below.refl _ _), qHd (by rw [List.take_zero]; exact qbx.nil _ _ _ _), qHd (fun _ => rfl)⟩
     case round =>
      obtain ⟨k, hk, rfl, BI, OI, NZ⟩ := hrel
      obtain ⟨wi, rfl⟩ : ∃ wi : World, wi = wr := ⟨_, rfl⟩
      obtain ⟨aoi, ci, rfl, hci, hci2, _⟩ := qaz OI.out.1
      by_cases hlk : k < na
      ·obtain ⟨ba, offa, rfl, hba, u1, hata⟩ := (HI3.out.below BI.out).at (by omega)
       clear u1 hba
       obtain ⟨a, hqa⟩ : ∃ a, x.args[k]? = some a := ⟨x.args[k]'(by rw [← HNA.out]; exact hlk), List.getElem?_eq_getElem (by rw [← HNA.out]; exact hlk)⟩
       have ca := hata k a hqa
       clear hata
       have haa := (qav HE.out).2.2.1 a (List.mem_of_getElem? hqa)
       obtain ⟨A, rfl⟩ : ∃ A : Nat, a = A := ⟨a.toNat, by have := haa.1; omega⟩
       have hA1 : A < V + j := by have := haa.2; omega
       have cA := ownI_cell (O3.out.below BI.out) LL.out (i := A) (by omega)
       have hAz : (A : Int) < (V : Int) + (ns.length : Int) := by omega
       have hlkz : (k : Int) < (na : Int) := by omega
       have HQA := qHd hqa; clear hqa haa
       obtain ⟨im, him⟩ : ∃ z, z = L.getD A 0 := ⟨_, rfl⟩
       rw [← him] at cA
       have HIM := qHd him; clear him
       obtain ⟨w5, hw5⟩ : ∃ z0, z0 = wi.alloc (.cells #[.int .i64 im] 3) := ⟨_, rfl⟩
       have hb5 : Below wi.heap.size wi w5 := by rw [hw5]; exact qBA _ _
       obtain ⟨g5, hg5⟩ : ∃ g, g = wi.heap.size := ⟨_, rfl⟩
       have hx5 : w5.heap[g5]? = some (.cells #[.int .i64 im] 3) := by rw [hw5, hg5]; exact heap_alloc_new _ _
       have hs5 : w5.heap.size = wi.heap.size + 1 := by rw [hw5]; simp
       have O5 := qHd (OI.out.below hb5); have B5 := qHd (qcg BI.out (Nat.le_refl _) hb5); have G5 := qHd hx5
       clear hb5 hx5 hs5
       go_wp2_with (with_reducible refine qam ?_)
       rw [← hw5, ← hg5]
       clear hw5 hg5 ca cA
       refine qar W3.heap.size Tryz.intTyK rfl (qal [0]) (by decide) _ k _ [.int .i64 im] g5 3 rfl rfl O5.out G5.out rfl rfl (qal [im]) (qal _) (by omega) (by decide) B5.out.size ?_
       intro v6 w6 ho6 hg6 hfr6
       have B6 := qHd (own_low O5.out.1 hg6 B5.out B5.out.size)
       have O6 := qHd (show qbx w6 W3.heap.size 3 1 v6 (k + 1) (qbm ((x.args.take (k + 1)).map (iA (fun i => L.getD i 0)))) by
        rw [qbs HQA.out, List.map_append, qbf]
        have e : qbm ([((A : Nat) : Int)].map (iA (fun i => L.getD i 0))) = [.int .i64 im] := by
         show [Value.int .i64 (L.getD ((A : Int)).toNat 0)] = _
         rw [Int.toNat_natCast, HIM.out]
        rw [e]; exact ho6)
       clear ho6 hg6 hfr6
       go_wp2_with fail
       go_roundw
       case rel => exact ⟨k + 1, by omega, by go_num, B6, O6, qHd (fun h => absurd h (Nat.succ_ne_zero _))⟩
       case measure => simp [intOf]; omega
      ·have hk' : k = na := by omega
       subst hk'
       have G8i := qHd (qaa G8.out BI.out)
       go_wp2_with (with_reducible refine qaf 54 ?_)
       refine qdr gn 2 G8i.out rfl rfl (Nat.le_of_ble_eq_true rfl) (by kernel_rfl) ?_
       intro w5 hp5
       obtain ⟨Y, hY⟩ : ∃ Y, Y = (Value.slice aoi k ci).ownBlock.toList ++ gn :: [gm, gi] := ⟨_, rfl⟩
       have OB := qHd (fun g (hg : (Value.slice aoi k ci).ownBlock = some g) => World.ownsRow.lt OI.out.1 g hg)
       have hYs : ∀ g ∈ Y, g ∈ gn :: [gm, gi] ∨ (W3.heap.size ≤ g ∧ g < wi.heap.size) := fun g hg => by
        rw [hY, List.mem_append] at hg
        rcases hg with q | q
        ·exact .inr (OB.out g (by simpa using q))
        ·exact .inl q
       have M5 := qHd ((M3.out.new (Y := Y) BI.out hYs (by rw [hY]; simp)).exc (Exc.put hp5 (List.mem_singleton.2 rfl)) (fun g hg => by rw [List.mem_singleton] at hg; subst hg; exact .inl (by rw [hY]; simp)) (by simp; exact fun e => GN.out.1 e.symm))
       have YI := qHd (show (∀ g, (Value.slice aoi k ci).ownBlock = some g → g ∈ Y ∧ g ≠ gm) ∧ gn ∈ Y ∧ gi ∈ Y ∧ gm ∈ Y from ⟨fun g hg => ⟨by rw [hY, hg]; simp, fun e => by have := (OB.out g hg).1; have := M3.out.all gm (by simp); omega⟩, by rw [hY]; simp, by rw [hY]; simp, by rw [hY]; simp⟩)
       have HB5 := qHd (qdl hp5 (qcg HB3.out (Nat.le_refl _) (BI.out.mono (Nat.le_refl _))) GN.out.2.2.1)
       have O5 := qHd ((Exc.put (X := [gn]) hp5 (List.mem_singleton.2 rfl)).own (O3.out.below BI.out) (fun g e => by cases e; simp; exact fun e => GN.out.2.1 e.symm))
       have hOA : qbx wi W3.heap.size 3 1 (.slice aoi k ci) (x.args.map (iA (fun i => L.getD i 0))).length (qbm (x.args.map (iA (fun i => L.getD i 0)))) := by
        have := OI.out
        rw [List.take_of_length_le (by rw [HNA.out]; exact Nat.le_refl _)] at this
        rw [List.length_map, ← HNA.out]; exact this
       have HI5 := qHd ((Exc.put (X := [gn]) hp5 (List.mem_singleton.2 rfl)).ints (qbl hOA.1 (fun y hy => by
        obtain ⟨z, hz⟩ := img_args IM.out (by rw [List.length_take, Nat.min_eq_left (by omega)]; exact HE.out) (fun _ _ => trivial) y hy
        have hl := MX.out.len
        exact ⟨by omega, by omega⟩)) (fun _ g e => by simp; exact fun h => by have := (OB.out g e).1; have := GN.out.2.2.2; omega))
       have G5 := qHd (show w5.heap[gn]? = some (.cells #[.int .i64 x.kind, .int .i64 x.K, .slice aoi k ci] 56) by rw [hp5]; exact putL_32 G8i.out)
       clear hp5 hYs hOA G8 G8i hY M3 O3 HB3 OI
       have hlt' : (ns.take j).length = j := by rw [List.length_take]; omega
       have HK := qHd (SP.out w5 w1.heap.size gm V Y v1 (ns.take j) out (fun i => L.getD i 0) x aoi ci hV M5.out (by rw [← HNA.out]; exact HI5.out) (by rw [← HNA.out]; exact YI.out.1) (by rw [hlt']; exact HE.out) IM.out JJ.out HKK.out.1 HKK.out.2)
       rw [← HNA.out] at HK
       clear hlt'
       obtain ⟨x0, x1, x2⟩ := qaq G5.out
       have hcf := CF.out
       go_wp2_with (with_reducible refine qac ?_)
       clear x0 x1 x2 hcf
       refine qad.mk ?_
       (with_reducible refine HK.out.mono ?_); rintro e w6 ⟨v2, out2, full2, r2, done, rfl, hC6, hM6, hR6, hF0, hF1, hFS⟩
       have FS := qHd hFS; clear hFS; have C6 := qHd hC6; have M6 := qHd hM6; have R6 := qHd hR6
       clear hC6 hM6 hR6 HK
       cases done
       ·obtain ⟨rfl, rfl, hJc⟩ := hF0 rfl
        have JC := qHd hJc; clear hJc hF1 hF0
        obtain ⟨x0, x1, x2⟩ := qaq (M5.out.keep C6.out YI.out.2.1 GN.out.1 G5.out)
        have HI6 := qHd (M5.out.keepI C6.out YI.out.1 HI5.out)
        have hne : Value.slice aoi k ci = .slice none 0 0 ∨ 0 < (x.args.map (iA (fun i => L.getD i 0))).length := by
         rw [List.length_map, ← HNA.out]
         by_cases h0 : 0 < k
         ·exact .inr h0
         ·left
          have : k = 0 := by omega
          subst this
          exact NZ.out rfl
        have HK := qHd (madd_anyL w1.heap.size gm V Y v2 _ out2 false x.kind x.K (x.args.map (iA (fun i => L.getD i 0))) w6 M6.out HI6.out hne (by rw [List.length_map, ← HNA.out]; omega) HKK.out.1 HKK.out.2 hV)
        clear hne HI6
        go_wp2_with (with_reducible refine qac ?_)
        clear x0 x1 x2
        refine qad.mk ?_
        (with_reducible refine HK.out.mono ?_); rintro e w7 ⟨v3, out3, full3, r3, rfl, hC7, hM7, hr3, hF7, hG7⟩
        have C7 := qHd (C6.out.trans hC7); have M7 := qHd hM7; have F7 := qHd hF7; have G7 := qHd hG7
        clear hC7 hM7 hF7 hG7 HK
        cases full3
        ·have hg := (show Grw V out2 out3 ((r3 : Nat) : Int) (fun e0 => nv (qaj e0 (ns.take j)) x) by
          obtain ⟨_, e1, e2⟩ := F7.out rfl
          rw [e1, e2]
          exact IM.out.copy (by rw [List.length_take, Nat.min_eq_left (by omega)]; exact HE.out) (fun _ _ => trivial)); have hj := (show J (ns.take j ++ [x]) out3 by
          obtain ⟨_, e1, _⟩ := F7.out rfl
          rw [e1]
          exact JC.out _ rfl)
         have HG := qHd hg; have HJ' := qHd hj; clear hg hj
         obtain ⟨y0, y1, y2⟩ := qaq M7.out.cells
         have OX := qHd (M5.out.keepO C7.out (fun g e => by cases e; exact ⟨YI.out.2.2.1, GNE.out.symm⟩) O5.out)
         have HBX := qHd (M5.out.low C7.out HB5.out)
         obtain ⟨q0, q1, q2⟩ := qaq (qbo HBX.out G1.out L12.out.1)
         obtain ⟨cs, hcs, hcz⟩ := qdv OX.out
         have hjn : V + j < V + ns.length := by omega
         have hjz : (V : Int) + (j : Int) < (V : Int) + (ns.length : Int) := by omega
         have hcz' : V + j < cs.size := by omega
         go_wp2_with (with_reducible refine qaf 3 ?_)
         clear q0 q1 q2 y0 y1 y2
         refine qds gi (V + j) hcs rfl rfl hcz' (by kernel_rfl) ?_
         intro w9 hp9
         have O9 := qHd (ownI_put OX.out LL.out (by omega) hp9)
         have M9 := qHd ((M7.out.exc (Exc.put hp9 (List.mem_singleton.2 rfl)) (fun g hg => by rw [List.mem_singleton] at hg; subst hg; exact .inl YI.out.2.2.1) (by simp; exact GNE.out)).sub (Y := [gm, gi]) (by simp) (fun g hg => by
          simp only [List.mem_cons, List.not_mem_nil, or_false] at hg
          rcases hg with rfl | rfl
          ·exact YI.out.2.2.2
          ·exact YI.out.2.2.1))
         have HB9 := qHd (qdl hp9 HBX.out GIL.out)
         have I9 := qHd (show Img V (fun _ => True) (ns.take (j + 1)) out3 (fun i => (L.set (V + j) ((r3 : Nat) : Int)).getD i 0) by
          rw [qbs HXJ.out]
          have hlt : (ns.take j).length = j := by rw [List.length_take]; omega
          refine IM.out.next (qbp HNO.out j) (by rw [hlt]; exact HE.out) HG.out (fun i hi => ?_) ?_
          ·show (L.set (V + j) ((r3 : Nat) : Int)).getD i 0 = L.getD i 0
           rw [getD_set (by rw [LL.out]; omega), if_neg (by omega)]
          ·show (L.set (V + j) ((r3 : Nat) : Int)).getD (V + (ns.take j).length) 0 = ((r3 : Nat) : Int)
           rw [getD_set (by rw [LL.out]; omega), if_pos (by omega)])
         have J9 := qHd (show J (ns.take (j + 1)) out3 by rw [qbs HXJ.out]; exact HJ'.out)
         clear hp9 hcs hcz hcz'
         go_wp2_with fail
         go_roundw
         case rel => exact ⟨j + 1, v3, out3, L.set (V + j) ((r3 : Nat) : Int), by omega, by go_num, HB9, M9, O9, qHd (by rw [List.length_set]; exact LL.out), I9, J9⟩
         case measure => simp [intOf]; omega
        ·obtain ⟨y0, y1, y2⟩ := qaq M7.out.cells
         have HBX := qHd (M5.out.low C7.out HB5.out)
         have G2X := qHd (qbo HBX.out G2.out L12.out.2)
         go_wp2_with (with_reducible refine qaf 24 ?_)
         clear y0 y1 y2
         refine qbj g2 0 [.int .i64 0, .slice none 0 0, .int .i64 0] G2X.out rfl rfl (Nat.le_of_ble_eq_true rfl) (by kernel_rfl) rfl ?_
         intro w9 hp9
         have G9 := qHd (show w9.heap[g2]? = some (.cells #[.int .i64 0, .slice none 0 0, .int .i64 0] 24) by rw [hp9]; exact qco G2X.out)
         have HB9 := qHd (qdl hp9 (HB1.out.trans (HBX.out.mono (HB1.out.size))) l2)
         clear hp9
         go_wp2_with fail
         refine ret_fm rfl g2 #[.int .i64 0, .slice none 0 0, .int .i64 0] rfl G9.out Tryz.underlying24 rfl (by kernel_rfl) rfl ?_
         exact ⟨_, ⟨0, [], 0⟩, 4, rfl, HB9.out, fmL_zero _ _, .inl ⟨rfl, fun hsm => by have q := G7.out (hsm j x _ HXJ.out JJ.out).2 (by first | rfl | trivial); cases q⟩⟩
       ·have F7 := qHd (hF1 rfl); clear hF0 hF1
        cases full2
        ·have hg := (F7.out rfl).1; have hj := (F7.out rfl).2
         have HG := qHd hg; have HJ' := qHd hj; clear hg hj
         obtain ⟨y0, y1, y2⟩ := qaq M6.out.cells
         have OX := qHd (M5.out.keepO C6.out (fun g e => by cases e; exact ⟨YI.out.2.2.1, GNE.out.symm⟩) O5.out)
         have HBX := qHd (M5.out.low C6.out HB5.out)
         obtain ⟨q0, q1, q2⟩ := qaq (qbo HBX.out G1.out L12.out.1)
         obtain ⟨cs, hcs, hcz⟩ := qdv OX.out
         have hjn : V + j < V + ns.length := by omega
         have hjz : (V : Int) + (j : Int) < (V : Int) + (ns.length : Int) := by omega
         have hcz' : V + j < cs.size := by omega
         go_wp2_with (with_reducible refine qaf 3 ?_)
         clear q0 q1 q2 y0 y1 y2
         refine qds gi (V + j) hcs rfl rfl hcz' (by kernel_rfl) ?_
         intro w9 hp9
         have O9 := qHd (ownI_put OX.out LL.out (by omega) hp9)
         have M9 := qHd ((M6.out.exc (Exc.put hp9 (List.mem_singleton.2 rfl)) (fun g hg => by rw [List.mem_singleton] at hg; subst hg; exact .inl YI.out.2.2.1) (by simp; exact GNE.out)).sub (Y := [gm, gi]) (by simp) (fun g hg => by
          simp only [List.mem_cons, List.not_mem_nil, or_false] at hg
          rcases hg with rfl | rfl
          ·exact YI.out.2.2.2
          ·exact YI.out.2.2.1))
         have HB9 := qHd (qdl hp9 HBX.out GIL.out)
         have I9 := qHd (show Img V (fun _ => True) (ns.take (j + 1)) out2 (fun i => (L.set (V + j) r2).getD i 0) by
          rw [qbs HXJ.out]
          have hlt : (ns.take j).length = j := by rw [List.length_take]; omega
          refine IM.out.next (qbp HNO.out j) (by rw [hlt]; exact HE.out) HG.out (fun i hi => ?_) ?_
          ·show (L.set (V + j) r2).getD i 0 = L.getD i 0
           rw [getD_set (by rw [LL.out]; omega), if_neg (by omega)]
          ·show (L.set (V + j) r2).getD (V + (ns.take j).length) 0 = r2
           rw [getD_set (by rw [LL.out]; omega), if_pos (by omega)])
         have J9 := qHd (show J (ns.take (j + 1)) out2 by rw [qbs HXJ.out]; exact HJ'.out)
         clear hp9 hcs hcz hcz'
         go_wp2_with fail
         go_roundw
         case rel => exact ⟨j + 1, v2, out2, L.set (V + j) r2, by omega, by go_num, HB9, M9, O9, qHd (by rw [List.length_set]; exact LL.out), I9, J9⟩
         case measure => simp [intOf]; omega
        ·obtain ⟨y0, y1, y2⟩ := qaq M6.out.cells
         have HBX := qHd (M5.out.low C6.out HB5.out)
         have G2X := qHd (qbo HBX.out G2.out L12.out.2)
         go_wp2_with (with_reducible refine qaf 24 ?_)
         clear y0 y1 y2
         refine qbj g2 0 [.int .i64 0, .slice none 0 0, .int .i64 0] G2X.out rfl rfl (Nat.le_of_ble_eq_true rfl) (by kernel_rfl) rfl ?_
         intro w9 hp9
         have G9 := qHd (show w9.heap[g2]? = some (.cells #[.int .i64 0, .slice none 0 0, .int .i64 0] 24) by rw [hp9]; exact qco G2X.out)
         have HB9 := qHd (qdl hp9 (HB1.out.trans (HBX.out.mono (HB1.out.size))) l2)
         clear hp9
         go_wp2_with fail
         refine ret_fm rfl g2 #[.int .i64 0, .slice none 0 0, .int .i64 0] rfl G9.out Tryz.underlying24 rfl (by kernel_rfl) rfl ?_
         exact ⟨_, ⟨0, [], 0⟩, 4, rfl, HB9.out, fmL_zero _ _, .inl ⟨rfl, fun hsm => by have q := FS.out (hsm j x _ HXJ.out JJ.out).1; cases q⟩⟩
    ·have hj' : j = ns.length := by omega
     subst hj'
     have IM := IM.out; have JJ := JJ.out
     rw [List.take_length] at IM JJ
     have IM := qHd IM; have JJ := qHd JJ
     obtain ⟨vo, vc, ev, hvc, hvc2, _⟩ := MX.out.nds.shape
     obtain ⟨vn, hvn⟩ : ∃ n, n = out.length := ⟨_, rfl⟩
     rw [← hvn] at ev
     subst ev
     obtain ⟨T, hTT⟩ : ∃ T : Nat, top = T := ⟨top.toNat, by have := HT.out.1; omega⟩
     subst hTT
     have hT : T < V + ns.length := by have := HT.out.2; omega
     have hTz : (T : Int) < (V : Int) + (ns.length : Int) := by omega
     have GM := qHd MX.out.cells; have G1X := qHd (qbo HBX.out G1.out L12.out.1); have CT := qHd (ownI_cell OX.out LL.out hT)
     go_wp2_with (with_reducible refine qax ?_)
     refine qad.mk ?_
     refine qay (A := ?aaMQ) (w := wo) 12 [] (by kernel_rfl) (Fl [KEq (.pointer (some ⟨g1, 0, none⟩)), KEq (.int .i64 V), KEq (.pointer (some ⟨gm, 0, none⟩)), KEq (.pointer (some ⟨gm, 0, none⟩)), KEq (.pointer (some ⟨gm, 1, none⟩)), KEq (.slice vo vn vc), KEq (.slice (some ⟨gi, 0, none⟩) (V + ns.length) (V + ns.length)), KEq (.pointer (some ⟨g1, 2, none⟩)), KEq (.int .i64 (T : Nat)), KEq (.pointer (some ⟨gi, T, none⟩)), KEq (.int .i64 (L.getD T 0)), KEq (.agg #[.int .i64 V, .slice vo vn vc, .int .i64 (L.getD T 0)])]) (fun i => false) (by kernel_rfl) ?hqMQ (qdx (qai (kEq _) (qai (kEq _) (qai (kEq _) (qai (kEq _) (qai (kEq _) (qai (kEq _) (qai (kEq _) (qai (kEq _) (qai (kEq _) (qai (kEq _) (qai (kEq _) (qai (kEq _) qdw))))))))))))) ?haMQ ?stMQ ?tlMQ
     case hqMQ =>
      intro c a d v w h
      first | (simp only [Exit.then] at h ⊢; exact h) | (simp only [Exit.inBlock, Exit.then] at h ⊢; exact h) | exact h
     case haMQ =>
      intro vals
      simp only [qat, qcf, if_true, Act.put, List.setIfInBounds_toArray, List.set_cons_zero, List.set_cons_succ, List.getElem?_toArray, List.getElem?_cons_zero, List.getElem?_cons_succ, Option.bind_some]
      exact rfl
     case stMQ =>
      simp only [List.take_succ_cons, List.take_zero]
      refine qab rfl rfl ?_ (qab rfl rfl ?_ (qab rfl rfl ?_ (qab rfl rfl ?_ (qab rfl rfl ?_ (qab rfl rfl ?_ (qab rfl rfl ?_ (qab rfl rfl ?_ (qab rfl rfl ?_ (qab rfl rfl ?_ (qab rfl rfl ?_ (qab rfl rfl ?_ (qbb))))))))))))
      ·intro vals w1 hb hd
       refine qSv (.pointer (some ⟨g1, 0, none⟩)) (by go_simp) (qLk rfl rfl)
      ·intro vals w1 hb hd
       obtain ⟨e0, e1, e2⟩ := qaq (qaa G1X.out hb)
       rw [show vals 0 = .pointer (some ⟨g1, 0, none⟩) from hd 0 (by kernel_rfl)]
       refine qSv (.int .i64 V) (by go_simp) (qLk rfl rfl)
      ·intro vals w1 hb hd
       refine qSv (.pointer (some ⟨gm, 0, none⟩)) (by go_simp) (qLk rfl rfl)
      ·intro vals w1 hb hd
       rw [show vals 2 = .pointer (some ⟨gm, 0, none⟩) from hd 2 (by kernel_rfl)]
       refine qSv (.pointer (some ⟨gm, 0, none⟩)) (by go_simp) (qLk rfl rfl)
      ·intro vals w1 hb hd
       rw [show vals 3 = .pointer (some ⟨gm, 0, none⟩) from hd 3 (by kernel_rfl)]
       refine qSv (.pointer (some ⟨gm, 1, none⟩)) (by go_simp) (qLk rfl rfl)
      ·intro vals w1 hb hd
       obtain ⟨e0, e1, e2⟩ := qaq (qaa GM.out hb)
       rw [show vals 4 = .pointer (some ⟨gm, 1, none⟩) from hd 4 (by kernel_rfl)]
       refine qSv (.slice vo vn vc) (by go_simp) (qLk rfl rfl)
      ·intro vals w1 hb hd
       refine qSv (.slice (some ⟨gi, 0, none⟩) (V + ns.length) (V + ns.length)) (by go_simp) (qLk rfl rfl)
      ·intro vals w1 hb hd
       refine qSv (.pointer (some ⟨g1, 2, none⟩)) (by go_simp) (qLk rfl rfl)
      ·intro vals w1 hb hd
       obtain ⟨e0, e1, e2⟩ := qaq (qaa G1X.out hb)
       rw [show vals 7 = .pointer (some ⟨g1, 2, none⟩) from hd 7 (by kernel_rfl)]
       refine qSv (.int .i64 (T : Nat)) (by go_simp) (qLk rfl rfl)
      ·intro vals w1 hb hd
       rw [show vals 6 = .slice (some ⟨gi, 0, none⟩) (V + ns.length) (V + ns.length) from hd 6 (by kernel_rfl)]
       rw [show vals 8 = .int .i64 (T : Nat) from hd 8 (by kernel_rfl)]
       refine qSv (.pointer (some ⟨gi, T, none⟩)) (by go_simp) (qLk rfl rfl)
      ·intro vals w1 hb hd
       have e0 := cell1_b CT.out hb
       rw [show vals 9 = .pointer (some ⟨gi, T, none⟩) from hd 9 (by kernel_rfl)]
       refine qSv (.int .i64 (L.getD T 0)) (by go_simp) (qLk rfl rfl)
      ·intro vals w1 hb hd
       rw [show vals 1 = .int .i64 V from hd 1 (by kernel_rfl)]
       rw [show vals 5 = .slice vo vn vc from hd 5 (by kernel_rfl)]
       rw [show vals 10 = .int .i64 (L.getD T 0) from hd 10 (by kernel_rfl)]
       refine qSv (.agg #[.int .i64 V, .slice vo vn vc, .int .i64 (L.getD T 0)]) (by go_simp) (qLk rfl rfl)
     case tlMQ =>
      intro vals w8 hb8 hf hdis
      simp only [List.drop_succ_cons, List.drop_zero]
      have z11 : vals 11 = _ := hf 11 (by decide)
      rw [z11]
      clear z11 hf hdis
      have G28 := qHd (qaa (qbo HBX.out G2.out L12.out.2) hb8); have M8 := qHd (MX.out.below hb8); have HB8 := qHd (qcg (HB1.out.trans (HBX.out.mono HB1.out.size)) (Nat.le_refl _) hb8)
      clear hb8
      go_wp2_with (with_reducible refine qaf 24 ?_)
      refine qbj g2 0 [.int .i64 V, .slice vo vn vc, .int .i64 (L.getD T 0)] G28.out rfl rfl (Nat.le_of_ble_eq_true rfl) (by kernel_rfl) rfl ?_
      intro w9 hp9
      have G9 := qHd (show w9.heap[g2]? = some (.cells #[.int .i64 V, .slice vo vn vc, .int .i64 (L.getD T 0)] 24) by rw [hp9]; exact qco G28.out)
      have N9 := qHd ((M8.out.nds.exc (Exc.put (X := [g2]) hp9 (List.mem_singleton.2 rfl)) (fun g hg => by rw [List.mem_singleton] at hg; subst hg; exact .inr L12.out.2)).base HB1.out.size)
      have HB9 := qHd (qdl hp9 HB8.out l2)
      clear hp9
      go_wp2_with fail
      refine ret_fm rfl g2 #[.int .i64 V, .slice vo vn vc, .int .i64 (L.getD T 0)] rfl G9.out Tryz.underlying24 rfl (by kernel_rfl) rfl ?_
      have hA := (IM.out.one HT.out trivial).1
      have eA : iA (fun i => L.getD i 0) ((T : Nat) : Int) = L.getD T 0 := by unfold iA; rw [Int.toNat_natCast]
      rw [eA] at hA
      have hl := MX.out.len
      refine ⟨_, ⟨(V : Nat), out, L.getD T 0⟩, 0, rfl, HB9.out, ⟨_, _, _, _, rfl, N9.out, qch (n := V) (by omega), ?_⟩, .inr ⟨rfl, ?_, JJ.out⟩⟩
      ·have h1 := hA.1; have h2 := hA.2
       have h3 : I64 (L.getD T 0) := ⟨by omega, by omega⟩
       exact h3
      ·have := IM.out.done hV hl HT.out trivial
       rw [eA] at this
       exact this
theorem votes_anyL (vf : Value) (f : Fm) (w : World) (hf : FmV w vf f) (h0 : qcr f = 0) : Calls Tryz.prog 20 #[vf] w (RetMpL w f (fun g => JV f.nodes g.nodes) (∀ (j : Nat) (x : Nd) (out : List Nd), f.nodes[j]? = some x → JV (f.nodes.take j) out → (fun _ out x => x.args.length ≤ 3 ∧ out.length ≤ 64) (f.nodes.take j) out x ∧ out.length < 128)) := by
 obtain ⟨V, hvV, hV, hn128, hno, htop⟩ := qdp h0
 obtain ⟨nv, rfl, hn, hv, ht⟩ := hf
 obtain ⟨ao, c, rfl, hc, hc2, _⟩ := hn.shape
 have hF := (show FmV w _ f from ⟨_, rfl, hn, hv, ht⟩)
 obtain ⟨vz, ns, top⟩ := f
 simp only at hvV hn128 hno htop hn ht hv hc hF h0 ⊢
 subst hvV
 have HF := qHd hF; have E0 := qHd h0; have HN := qHd hn; have HNO := qHd hno; have HT := qHd htop; have HT64 := qHd ht
 clear hF h0 hn hno htop ht hv
 obtain ⟨wa, hwa⟩ : ∃ x, x = w.alloc (.cells #[.int .i64 V, .slice ao ns.length c, .int .i64 top] 24) := ⟨_, rfl⟩
 obtain ⟨W, hW⟩ : ∃ x, x = wa.alloc (.cells #[.int .i64 0, .slice none 0 0, .int .i64 0] 24) := ⟨_, rfl⟩
 have ba : Below w.heap.size w wa := by rw [hwa]; exact qBA _ _
 have bW : Below wa.heap.size wa W := by rw [hW]; exact qBA _ _
 have sa : wa.heap.size = w.heap.size + 1 := by rw [hwa]; exact Array.size_push (xs := w.heap) _
 have sW : W.heap.size = w.heap.size + 1 + 1 := by rw [← sa, hW]; exact Array.size_push (xs := wa.heap) _
 have hg1 : W.heap[w.heap.size]? = some (.cells #[.int .i64 V, .slice ao ns.length c, .int .i64 top] 24) := qaa (by rw [hwa]; exact heap_alloc_new w _) bW
 have hg2 : W.heap[w.heap.size + 1]? = some (.cells #[.int .i64 0, .slice none 0 0, .int .i64 0] 24) := by rw [← sa, hW]; exact heap_alloc_new wa _
 have HBW := qHd (ba.trans (bW.mono ba.size))
 obtain ⟨g1, hG1⟩ : ∃ g, g = w.heap.size := ⟨_, rfl⟩
 obtain ⟨g2, hG2⟩ : ∃ g, g = w.heap.size + 1 := ⟨_, rfl⟩
 rw [← hG1] at hg1; rw [← hG2] at hg2
 have l1 : w.heap.size ≤ g1 := by omega
 have l2 : w.heap.size ≤ g2 := by omega
 have G1 := qHd hg1; have G2 := qHd hg2
 have L12 := qHd (show g1 < W.heap.size ∧ g2 < W.heap.size from ⟨by omega, by omega⟩)
 obtain ⟨x0, x1, x2⟩ := qaq hg1
 rw [hW, hwa, hG1] at x0 x1 x2
 clear ba bW sa sW hg1 hg2
 have HK := qHd (mapped_anyL 52 JV (fun _ out x => x.args.length ≤ 3 ∧ out.length ≤ 64) votes_spL votes_cf (⟨fun _ => rfl, fun x h => by cases h⟩) _ ⟨(V : Nat), ns, top⟩ W (HF.out.below HBW.out) E0.out)
 go_enter Tryz.func20, Tryz.ntmps20
 go_wp2_with (with_reducible refine qac ?_)
 rw [← hwa, ← hW, ← hG2, ← hG1]
 clear hwa hW hG2 hG1 x0 x1 x2
 refine qad.mk ?_
 (with_reducible refine HK.out.mono ?_); rintro e w1 ⟨vg, g, ec, rfl, hb1, hg, hc⟩
 obtain ⟨og, ng, cg, Xg, rfl, hn1, hv1, ht1⟩ := hg
 have HG := qHd (show FmL w1 W.heap.size _ g from ⟨og, ng, cg, Xg, rfl, hn1, hv1, ht1⟩)
 have HB1 := qHd (HBW.out.trans (hb1.mono HBW.out.size)); have G2 := qHd (qaa G2.out hb1); have HC := qHd hc
 clear hb1 hn1 hv1 ht1 hc HK
 go_wp2_with (with_reducible refine qaf 24 ?_)
 refine qbj g2 0 [.int .i64 g.vars, .slice og ng cg, .int .i64 g.top] G2.out rfl rfl (Nat.le_of_ble_eq_true rfl) (by kernel_rfl) rfl ?_
 intro w9 hp9
 have G9 := qHd (show w9.heap[g2]? = some (.cells #[.int .i64 g.vars, .slice og ng cg, .int .i64 g.top] 24) by rw [hp9]; exact qco G2.out)
 have F9 := qHd ((HG.out.put hp9 L12.out.2).base HBW.out.size)
 have HB9 := qHd (qdl hp9 HB1.out l2)
 clear hp9
 go_wp2_with fail
 refine ret_fm rfl g2 #[.int .i64 g.vars, .slice og ng cg, .int .i64 g.top] rfl G9.out Tryz.underlying24 rfl (by kernel_rfl) rfl ?_
 exact ⟨_, g, ec, rfl, HB9.out, F9.out, HC.out⟩
theorem xors_anyL (vf : Value) (f : Fm) (w : World) (hf : FmV w vf f) (h0 : qcr f = 0) : Calls Tryz.prog 21 #[vf] w (RetMpL w f (fun g => JX f.nodes g.nodes) (∀ (j : Nat) (x : Nd) (out : List Nd), f.nodes[j]? = some x → JX (f.nodes.take j) out → (fun _ _ x => x.kind ≠ 5) (f.nodes.take j) out x ∧ out.length < 128)) := by
 obtain ⟨V, hvV, hV, hn128, hno, htop⟩ := qdp h0
 obtain ⟨nv, rfl, hn, hv, ht⟩ := hf
 obtain ⟨ao, c, rfl, hc, hc2, _⟩ := hn.shape
 have hF := (show FmV w _ f from ⟨_, rfl, hn, hv, ht⟩)
 obtain ⟨vz, ns, top⟩ := f
 simp only at hvV hn128 hno htop hn ht hv hc hF h0 ⊢
 subst hvV
 have HF := qHd hF; have E0 := qHd h0; have HN := qHd hn; have HNO := qHd hno; have HT := qHd htop; have HT64 := qHd ht
 clear hF h0 hn hno htop ht hv
 obtain ⟨wa, hwa⟩ : ∃ x, x = w.alloc (.cells #[.int .i64 V, .slice ao ns.length c, .int .i64 top] 24) := ⟨_, rfl⟩
 obtain ⟨W, hW⟩ : ∃ x, x = wa.alloc (.cells #[.int .i64 0, .slice none 0 0, .int .i64 0] 24) := ⟨_, rfl⟩
 have ba : Below w.heap.size w wa := by rw [hwa]; exact qBA _ _
 have bW : Below wa.heap.size wa W := by rw [hW]; exact qBA _ _
 have sa : wa.heap.size = w.heap.size + 1 := by rw [hwa]; exact Array.size_push (xs := w.heap) _
 have sW : W.heap.size = w.heap.size + 1 + 1 := by rw [← sa, hW]; exact Array.size_push (xs := wa.heap) _
 have hg1 : W.heap[w.heap.size]? = some (.cells #[.int .i64 V, .slice ao ns.length c, .int .i64 top] 24) := qaa (by rw [hwa]; exact heap_alloc_new w _) bW
 have hg2 : W.heap[w.heap.size + 1]? = some (.cells #[.int .i64 0, .slice none 0 0, .int .i64 0] 24) := by rw [← sa, hW]; exact heap_alloc_new wa _
 have HBW := qHd (ba.trans (bW.mono ba.size))
 obtain ⟨g1, hG1⟩ : ∃ g, g = w.heap.size := ⟨_, rfl⟩
 obtain ⟨g2, hG2⟩ : ∃ g, g = w.heap.size + 1 := ⟨_, rfl⟩
 rw [← hG1] at hg1; rw [← hG2] at hg2
 have l1 : w.heap.size ≤ g1 := by omega
 have l2 : w.heap.size ≤ g2 := by omega
 have G1 := qHd hg1; have G2 := qHd hg2
 have L12 := qHd (show g1 < W.heap.size ∧ g2 < W.heap.size from ⟨by omega, by omega⟩)
 obtain ⟨x0, x1, x2⟩ := qaq hg1
 rw [hW, hwa, hG1] at x0 x1 x2
 clear ba bW sa sW hg1 hg2
 have HK := qHd (mapped_anyL 54 JX (fun _ _ x => x.kind ≠ 5) xors_spL xors_cf (fun _ => rfl) _ ⟨(V : Nat), ns, top⟩ W (HF.out.below HBW.out) E0.out)
 go_enter Tryz.func21, Tryz.ntmps21
 go_wp2_with (with_reducible refine qac ?_)
 rw [← hwa, ← hW, ← hG2, ← hG1]
 clear hwa hW hG2 hG1 x0 x1 x2
 refine qad.mk ?_
 (with_reducible refine HK.out.mono ?_); rintro e w1 ⟨vg, g, ec, rfl, hb1, hg, hc⟩
 obtain ⟨og, ng, cg, Xg, rfl, hn1, hv1, ht1⟩ := hg
 have HG := qHd (show FmL w1 W.heap.size _ g from ⟨og, ng, cg, Xg, rfl, hn1, hv1, ht1⟩)
 have HB1 := qHd (HBW.out.trans (hb1.mono HBW.out.size)); have G2 := qHd (qaa G2.out hb1); have HC := qHd hc
 clear hb1 hn1 hv1 ht1 hc HK
 go_wp2_with (with_reducible refine qaf 24 ?_)
 refine qbj g2 0 [.int .i64 g.vars, .slice og ng cg, .int .i64 g.top] G2.out rfl rfl (Nat.le_of_ble_eq_true rfl) (by kernel_rfl) rfl ?_
 intro w9 hp9
 have G9 := qHd (show w9.heap[g2]? = some (.cells #[.int .i64 g.vars, .slice og ng cg, .int .i64 g.top] 24) by rw [hp9]; exact qco G2.out)
 have F9 := qHd ((HG.out.put hp9 L12.out.2).base HBW.out.size)
 have HB9 := qHd (qdl hp9 HB1.out l2)
 clear hp9
 go_wp2_with fail
 refine ret_fm rfl g2 #[.int .i64 g.vars, .slice og ng cg, .int .i64 g.top] rfl G9.out Tryz.underlying24 rfl (by kernel_rfl) rfl ?_
 exact ⟨_, g, ec, rfl, HB9.out, F9.out, HC.out⟩
theorem explain_anyL (vf : Value) (f : Fm) (w : World) (hf : FmV w vf f) (h0 : qcr f = 0) : Calls Tryz.prog 6 #[vf] w (RetMpL w f (fun g => JP f g) ((∀ (j : Nat) (x : Nd) (out : List Nd), f.nodes[j]? = some x → JV (f.nodes.take j) out → (fun _ out x => x.args.length ≤ 3 ∧ out.length ≤ 64) (f.nodes.take j) out x ∧ out.length < 128) ∧ ∀ k : Fm, JV f.nodes k.nodes → (∀ (j : Nat) (x : Nd) (out : List Nd), k.nodes[j]? = some x → JX (k.nodes.take j) out → (fun _ _ x => x.kind ≠ 5) (k.nodes.take j) out x ∧ out.length < 128))) := by
 obtain ⟨V, hvV, hV, hn128, hno, htop⟩ := qdp h0
 obtain ⟨nv, rfl, hn, hv, ht⟩ := hf
 obtain ⟨ao, c, rfl, hc, hc2, _⟩ := hn.shape
 have hF := (show FmV w _ f from ⟨_, rfl, hn, hv, ht⟩)
 obtain ⟨vz, ns, top⟩ := f
 simp only at hvV hn128 hno htop hn ht hv hc hF h0 ⊢
 subst hvV
 have HF := qHd hF; have E0 := qHd h0; have HN := qHd hn; have HNO := qHd hno; have HT := qHd htop; have HT64 := qHd ht
 clear hF h0 hn hno htop ht hv
 obtain ⟨wa, hwa⟩ : ∃ x, x = w.alloc (.cells #[.int .i64 V, .slice ao ns.length c, .int .i64 top] 24) := ⟨_, rfl⟩
 obtain ⟨W, hW⟩ : ∃ x, x = wa.alloc (.cells #[.int .i64 0, .slice none 0 0, .int .i64 0] 24) := ⟨_, rfl⟩
 have ba : Below w.heap.size w wa := by rw [hwa]; exact qBA _ _
 have bW : Below wa.heap.size wa W := by rw [hW]; exact qBA _ _
 have sa : wa.heap.size = w.heap.size + 1 := by rw [hwa]; exact Array.size_push (xs := w.heap) _
 have sW : W.heap.size = w.heap.size + 1 + 1 := by rw [← sa, hW]; exact Array.size_push (xs := wa.heap) _
 have hg1 : W.heap[w.heap.size]? = some (.cells #[.int .i64 V, .slice ao ns.length c, .int .i64 top] 24) := qaa (by rw [hwa]; exact heap_alloc_new w _) bW
 have hg2 : W.heap[w.heap.size + 1]? = some (.cells #[.int .i64 0, .slice none 0 0, .int .i64 0] 24) := by rw [← sa, hW]; exact heap_alloc_new wa _
 have HBW := qHd (ba.trans (bW.mono ba.size))
 obtain ⟨g1, hG1⟩ : ∃ g, g = w.heap.size := ⟨_, rfl⟩
 obtain ⟨g2, hG2⟩ : ∃ g, g = w.heap.size + 1 := ⟨_, rfl⟩
 rw [← hG1] at hg1; rw [← hG2] at hg2
 have l1 : w.heap.size ≤ g1 := by omega
 have l2 : w.heap.size ≤ g2 := by omega
 have G1 := qHd hg1; have G2 := qHd hg2
 have L12 := qHd (show g1 < W.heap.size ∧ g2 < W.heap.size from ⟨by omega, by omega⟩)
 obtain ⟨x0, x1, x2⟩ := qaq hg1
 rw [hW, hwa, hG1] at x0 x1 x2
 clear ba bW sa sW hg1 hg2
 have HK := qHd (votes_anyL _ ⟨(V : Nat), ns, top⟩ W (HF.out.below HBW.out) E0.out)
 go_enter Tryz.func6, Tryz.ntmps6
 go_wp2_with (with_reducible refine qac ?_)
 rw [← hwa, ← hW, ← hG2, ← hG1]
 clear hwa hW hG2 hG1 x0 x1 x2
 refine qad.mk ?_
 (with_reducible refine HK.out.mono ?_); rintro e w1 ⟨vg, g, ec, rfl, hb1, hg, hc⟩
 obtain ⟨og, ng, cg, Xg, rfl, hn1, hv1, ht1⟩ := hg
 have HG := qHd (show FmL w1 W.heap.size _ g from ⟨og, ng, cg, Xg, rfl, hn1, hv1, ht1⟩)
 have HB1 := qHd (HBW.out.trans (hb1.mono HBW.out.size)); have G2 := qHd (qaa G2.out hb1); have HS1 := qHd hb1.size
 clear hb1 hn1 hv1 ht1 HK
 obtain ⟨w2z, hw2⟩ : ∃ z0, z0 = w1.alloc (.cells #[.int .i64 0, .slice none 0 0, .int .i64 0] 24) := ⟨_, rfl⟩
 have hb2 : Below w1.heap.size w1 w2z := by rw [hw2]; exact qBA _ _
 obtain ⟨g3, hg2⟩ : ∃ g, g = w1.heap.size := ⟨_, rfl⟩
 have hx2 : w2z.heap[g3]? = some (.cells #[.int .i64 0, .slice none 0 0, .int .i64 0] 24) := by rw [hw2, hg2]; exact heap_alloc_new _ _
 have hs2 : w2z.heap.size = w1.heap.size + 1 := by rw [hw2]; simp
 have G22 := qHd (qaa G2.out hb2); have HB2z := qHd (HB1.out.trans (hb2.mono HB1.out.size)); have HG2z := qHd (HG.out.below hb2); have G3z := qHd hx2; have HS2 := qHd (show W.heap.size ≤ g3 by rw [hg2]; exact HS1.out); have HW2 := qHd hb2.size; have BZ := qHd hb2; have GE := qHd hg2
 clear hb2 hx2 hs2
 go_wp2_with (with_reducible refine qaf 24 ?_)
 rw [← hw2, ← hg2]
 clear hw2 hg2
 refine qbj g3 0 [.int .i64 g.vars, .slice og ng cg, .int .i64 g.top] G3z.out rfl rfl (Nat.le_of_ble_eq_true rfl) (by kernel_rfl) rfl ?_
 intro w2 hp2
 have NE := qHd (show g2 ≠ g3 from fun e => by have := L12.out.2; have := HS2.out; omega)
 have G22 := qHd (putLx hp2 G22.out NE.out); have HB2 := qHd (qdl hp2 HB2z.out (Nat.le_trans HBW.out.size HS2.out))
 have G3 := qHd (show w2.heap[g3]? = some (.cells #[.int .i64 g.vars, .slice og ng cg, .int .i64 g.top] 24) by rw [hp2]; exact qco G3z.out)
 have BW := qHd (qdl hp2 BZ.out (show w1.heap.size ≤ g3 by rw [GE.out]; exact Nat.le_refl _))
 have HG2 := qHd (HG.out.fmV.below BW.out)
 obtain ⟨x0, x1, x2⟩ := qaq G3.out
 clear hp2
 rcases hc with ⟨rfl, hns⟩ | ⟨rfl, hq, hj⟩
 ·rw [errV_pos (by decide)]
  go_wp2_with (with_reducible refine qaf 24 ?_)
  clear x0 x1 x2
  refine qbj g2 0 [.int .i64 0, .slice none 0 0, .int .i64 0] G22.out rfl rfl (Nat.le_of_ble_eq_true rfl) (by kernel_rfl) rfl ?_
  intro w9 hp9
  have G9 := qHd (show w9.heap[g2]? = some (.cells #[.int .i64 0, .slice none 0 0, .int .i64 0] 24) by rw [hp9]; exact qco G22.out)
  have HB9 := qHd (qdl hp9 HB2.out l2)
  clear hp9
  go_wp2_with fail
  refine ret_fm rfl g2 #[.int .i64 0, .slice none 0 0, .int .i64 0] rfl G9.out Tryz.underlying24 rfl (by kernel_rfl) rfl ?_
  exact ⟨_, ⟨0, [], 0⟩, 4, rfl, HB9.out, fmL_zero _ _, .inl ⟨rfl, fun hsm => hns hsm.1⟩⟩
 ·rw [qce]
  have HQ := qHd hq; have HJ := qHd hj; clear hq hj
  have HK := qHd (xors_anyL _ g w2 HG2.out HQ.out.ok)
  go_wp2_with (with_reducible refine qac ?_)
  clear x0 x1 x2
  refine qad.mk ?_
  (with_reducible refine HK.out.mono ?_); rintro e w3 ⟨vh, h, ec, rfl, hb3, hh, hc⟩
  obtain ⟨oh, nh, ch, Xh, rfl, hn3, hv3, ht3⟩ := hh
  have HH := qHd (show FmL w3 w2.heap.size _ h from ⟨oh, nh, ch, Xh, rfl, hn3, hv3, ht3⟩)
  have HB3 := qHd (HB2.out.trans (hb3.mono HB2.out.size)); have G23 := qHd (qaa G22.out hb3); have HC := qHd hc
  clear hb3 hn3 hv3 ht3 hc HK
  go_wp2_with (with_reducible refine qaf 24 ?_)
  refine qbj g2 0 [.int .i64 h.vars, .slice oh nh ch, .int .i64 h.top] G23.out rfl rfl (Nat.le_of_ble_eq_true rfl) (by kernel_rfl) rfl ?_
  intro w9 hp9
  have G9 := qHd (show w9.heap[g2]? = some (.cells #[.int .i64 h.vars, .slice oh nh ch, .int .i64 h.top] 24) by rw [hp9]; exact qco G23.out)
  have F9 := qHd ((HH.out.put hp9 (Nat.lt_of_lt_of_le L12.out.2 (Nat.le_trans HS1.out BW.out.size))).base HB2.out.size)
  have HB9 := qHd (qdl hp9 HB3.out l2)
  clear hp9
  go_wp2_with fail
  refine ret_fm rfl g2 #[.int .i64 h.vars, .slice oh nh ch, .int .i64 h.top] rfl G9.out Tryz.underlying24 rfl (by kernel_rfl) rfl ?_
  refine ⟨_, h, ec, rfl, HB9.out, F9.out, ?_⟩
  rcases HC.out with h4 | ⟨h0, h1, h2⟩
  ·exact .inl ⟨h4.1, fun hsm => h4.2 (hsm.2 g HJ.out)⟩
  ·exact .inr ⟨h0, HQ.out.trans h1, g, HJ.out, h2⟩
theorem explain_anyM (vf : Value) (f : Fm) (w : World) (hf : FmV w vf f) (h0 : qcr f = 0) : Calls Tryz.prog 6 #[vf] w (RetMp w f (fun g => JP f g)) := by
 refine (explain_anyL vf f w hf h0).mono ?_
 rintro e w1 ⟨vg, g, ec, p1, p2, p3, p4⟩
 exact ⟨vg, g, ec, p1, p2, p3, p4.imp (fun h => h.1) id⟩
theorem binary_anyM (vf : Value) (f : Fm) (w : World) (hf : FmV w vf f) (h0 : qcr f = 0) : Calls Tryz.prog 7 #[vf] w (RetMp w f (fun g => (fun _ _ => True) f.nodes g.nodes)) := by
 obtain ⟨V, hvV, hV, hn128, hno, htop⟩ := qdp h0
 obtain ⟨nv, rfl, hn, hv, ht⟩ := hf
 obtain ⟨ao, c, rfl, hc, hc2, _⟩ := hn.shape
 have hF := (show FmV w _ f from ⟨_, rfl, hn, hv, ht⟩)
 obtain ⟨vz, ns, top⟩ := f
 simp only at hvV hn128 hno htop hn ht hv hc hF h0 ⊢
 subst hvV
 have HF := qHd hF; have E0 := qHd h0; have HN := qHd hn; have HNO := qHd hno; have HT := qHd htop; have HT64 := qHd ht
 clear hF h0 hn hno htop ht hv
 obtain ⟨wa, hwa⟩ : ∃ x, x = w.alloc (.cells #[.int .i64 V, .slice ao ns.length c, .int .i64 top] 24) := ⟨_, rfl⟩
 obtain ⟨W, hW⟩ : ∃ x, x = wa.alloc (.cells #[.int .i64 0, .slice none 0 0, .int .i64 0] 24) := ⟨_, rfl⟩
 have ba : Below w.heap.size w wa := by rw [hwa]; exact qBA _ _
 have bW : Below wa.heap.size wa W := by rw [hW]; exact qBA _ _
 have sa : wa.heap.size = w.heap.size + 1 := by rw [hwa]; exact Array.size_push (xs := w.heap) _
 have sW : W.heap.size = w.heap.size + 1 + 1 := by rw [← sa, hW]; exact Array.size_push (xs := wa.heap) _
 have hg1 : W.heap[w.heap.size]? = some (.cells #[.int .i64 V, .slice ao ns.length c, .int .i64 top] 24) := qaa (by rw [hwa]; exact heap_alloc_new w _) bW
 have hg2 : W.heap[w.heap.size + 1]? = some (.cells #[.int .i64 0, .slice none 0 0, .int .i64 0] 24) := by rw [← sa, hW]; exact heap_alloc_new wa _
 have HBW := qHd (ba.trans (bW.mono ba.size))
 obtain ⟨g1, hG1⟩ : ∃ g, g = w.heap.size := ⟨_, rfl⟩
 obtain ⟨g2, hG2⟩ : ∃ g, g = w.heap.size + 1 := ⟨_, rfl⟩
 rw [← hG1] at hg1; rw [← hG2] at hg2
 have l1 : w.heap.size ≤ g1 := by omega
 have l2 : w.heap.size ≤ g2 := by omega
 have G1 := qHd hg1; have G2 := qHd hg2
 have L12 := qHd (show g1 < W.heap.size ∧ g2 < W.heap.size from ⟨by omega, by omega⟩)
 obtain ⟨x0, x1, x2⟩ := qaq hg1
 rw [hW, hwa, hG1] at x0 x1 x2
 clear ba bW sa sW hg1 hg2
 have HK := qHd (mapped_anyL 23 (fun _ _ => True) (fun _ _ _ => False) binary_sp.toL binary_cf (trivial) _ ⟨(V : Nat), ns, top⟩ W (HF.out.below HBW.out) E0.out)
 go_enter Tryz.func7, Tryz.ntmps7
 go_wp2_with (with_reducible refine qac ?_)
 rw [← hwa, ← hW, ← hG2, ← hG1]
 clear hwa hW hG2 hG1 x0 x1 x2
 refine qad.mk ?_
 (with_reducible refine HK.out.mono ?_); rintro e w1 ⟨vg, g, ec, rfl, hb1, hg, hc⟩
 obtain ⟨og, ng, cg, Xg, rfl, hn1, hv1, ht1⟩ := hg
 have HG := qHd (show FmL w1 W.heap.size _ g from ⟨og, ng, cg, Xg, rfl, hn1, hv1, ht1⟩)
 have HB1 := qHd (HBW.out.trans (hb1.mono HBW.out.size)); have G2 := qHd (qaa G2.out hb1); have HC := qHd hc
 clear hb1 hn1 hv1 ht1 hc HK
 go_wp2_with (with_reducible refine qaf 24 ?_)
 refine qbj g2 0 [.int .i64 g.vars, .slice og ng cg, .int .i64 g.top] G2.out rfl rfl (Nat.le_of_ble_eq_true rfl) (by kernel_rfl) rfl ?_
 intro w9 hp9
 have G9 := qHd (show w9.heap[g2]? = some (.cells #[.int .i64 g.vars, .slice og ng cg, .int .i64 g.top] 24) by rw [hp9]; exact qco G2.out)
 have F9 := qHd ((HG.out.put hp9 L12.out.2).base HBW.out.size)
 have HB9 := qHd (qdl hp9 HB1.out l2)
 clear hp9
 go_wp2_with fail
 refine ret_fm rfl g2 #[.int .i64 g.vars, .slice og ng cg, .int .i64 g.top] rfl G9.out Tryz.underlying24 rfl (by kernel_rfl) rfl ?_
 exact ⟨_, g, ec, rfl, HB9.out, F9.out, HC.out.imp (fun h => h.1) id⟩
end Go.Proofs.YteadcgmaailjlaaGreatDoor
