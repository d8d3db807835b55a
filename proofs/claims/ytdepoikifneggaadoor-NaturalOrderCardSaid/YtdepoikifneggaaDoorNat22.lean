/-
  The reference's Parse: what it hands back.
  Conditions: each theorem's own.
-/
import Derived.Test.YtdepoikifneggaaDoorNatMath12
import Derived.Test.YtdepoikifneggaaDoorNat20
import Derived.Deep.RegionHeld3
import Derived.IntWalk
namespace Go.Proofs.YtdepoikifneggaaDoor
open Go.RowKit Go.ChangeShapes Go.WideShapes

set_option maxRecDepth 100000 in
set_option maxHeartbeats 400000 in
theorem rparse_large (l : List UInt8) (w : World) (h : 65536 < l.length) (hm : l.length ≤ 9223372036854775807) :
    Calls Tryd.prog 45 #[.string ⟨l.toArray⟩] w (RetNE w 0 (.int .i64 4)) := by
  have f1 : decide ((65536 : Int) < (l.length : Int)) = true := decide_eq_true (by omega)
  go_enter Tryd.func45, Tryd.ntmps45
  go_wp2_with fail
  go_ret2
  exact ⟨_, rfl, Below.refl _ _, by rw [wd_zero]; exact Num.nil _⟩
set_option maxRecDepth 100000 in
set_option maxHeartbeats 400000 in
theorem rparse_empty (w : World) :
    Calls Tryd.prog 45 #[.string ⟨([] : List UInt8).toArray⟩] w (RetNE w 0 (.int .i64 2)) := by
  go_enter Tryd.func45, Tryd.ntmps45
  go_wp2_with fail
  go_ret2
  exact ⟨_, rfl, Below.refl _ _, by rw [wd_zero]; exact Num.nil _⟩
set_option maxRecDepth 100000 in
set_option maxHeartbeats 400000 in
theorem rparse_zero (y : UInt8) (l : List UInt8) (w : World) (h : l.length ≤ 65534) :
    Calls Tryd.prog 45 #[.string ⟨(48 :: y :: l).toArray⟩] w (RetNE w 0 (.int .i64 2)) := by
  have f1 : decide ((65536 : Int) < (l.length : Int) + 1 + 1) = false := decide_eq_false (by omega)
  have f2 : decide ((1 : Int) < (l.length : Int) + 1 + 1) = true := decide_eq_true (by omega)
  go_enter Tryd.func45, Tryd.ntmps45
  go_wp2_with fail
  go_ret2
  exact ⟨_, rfl, Below.refl _ _, by rw [wd_zero]; exact Num.nil _⟩
/-- a call's number, with all numbers kept -/
def RetK (w0 wx : World) (n : Nat) (e : Ending) (w' : World) : Prop :=
  ∃ v, e = .returned v ∧ Below w0.heap.size w0 w' ∧ Num w' v (wd n) ∧ ∀ u l, Num wx u l → Num w' u l
theorem RetNum.k {w0 wx : World} {n : Nat} (h : Below w0.heap.size w0 wx) {e : Ending} {w' : World} (hr : RetNum wx (fun r => r = wd n) e w') : RetK w0 wx n e w' := by
  obtain ⟨v, l, he, hb, hn, rfl⟩ := hr
  exact ⟨v, he, h.trans (hb.mono h.size), hn, fun u l hu => hu.below hb⟩
end Go.Proofs.YtdepoikifneggaaDoor
