/-
  What the law leans on, one text behind the other (the rest).
  Conditions: each theorem's own.
-/
import Derived.Test.YthhgfhdmfhnklaaGreatDoorMV6
set_option maxRecDepth 100000
set_option maxHeartbeats 16000000
namespace Go.Proofs.YthhgfhdmfhnklaaGreatDoor
def cubeIn (yes no yes' no' : Nat) : Prop := (∀ i, yes.testBit i = true → yes'.testBit i = true) ∧ (∀ i, no.testBit i = true → no'.testBit i = true) ∧ ∀ i, yes'.testBit i = true → no'.testBit i = false
theorem ev3_fits {yes no yes' no' : Nat} (h : cubeIn yes no yes' no') (i : Nat) : fits3 (ev3 yes no i) (ev3 yes' no' i) := by
 obtain ⟨h1, h2, h3⟩ := h
 intro k
 unfold ev3 at k ⊢
 split at k
 ·rename_i e; rw [if_pos e, if_pos (h1 i e)]
 ·rename_i e
  split at k
  ·rename_i e2
   have n1 := h2 i e2
   have n2 : ¬ yes'.testBit i = true := fun y => by rw [h3 i y] at n1; cases n1
   rw [if_neg e, if_pos e2, if_neg n2, if_pos n1]
  ·exact absurd rfl k
theorem fmVal_fits {f : Fm} (h : qfo f.vars 0 f.nodes) {yes no yes' no' : Nat} (hc : cubeIn yes no yes' no') : fits3 (qco f yes no) (qco f yes' no') := by
 have e : ∀ y n j, gd (qcn f.vars.toNat y n) j ≤ 2 := fun y n j => by
  rw [qdl]; split
  ·exact ev3_le _ _ _
  ·decide
 exact (valsN_fits f.nodes 0 _ _ h (by rw [qbf, qbf]) (e _ _) (e _ _) (fun j => by
  rw [qdl, qdl]; split
  ·exact ev3_fits hc j
  ·exact fun _ => rfl)).2.2 _
theorem valsN_known {vars : Int} : ∀ (l : List Nd) (i : Nat) (vs : List Nat), qfo vars i l → (∀ j, gd vs j ≤ 2) → (∀ j, gd vs j ≠ 2) → ∀ j, gd (qck vs l) j ≠ 2
 | [], _, _, _, _, h => h
 | x :: xs, i, vs, ok, h1, h2 => by
  obtain ⟨hx, hxs⟩ := ndsOK_cons ok
  simp only [qck]
  refine valsN_known xs (i + 1) _ hxs ?_ ?_
  ·intro j; rw [gd_snoc]; split
   ·exact h1 j
   split
   ·exact ndVal_le hx _ _ _
   ·decide
  ·intro j; rw [gd_snoc]; split
   ·exact h2 j
   split
   ·exact nd_known' hx h1 (fun a _ => h2 _)
   ·decide
theorem wtL_congr : ∀ (ps : List Rat) (i : Nat) (y n y' n' : Nat), (∀ j, i ≤ j → y.testBit j = y'.testBit j ∧ n.testBit j = n'.testBit j) → wtL ps i y n = wtL ps i y' n'
 | [], _, _, _, _, _, _ => rfl
 | p :: ps, i, y, n, y', n', h => by
  simp only [wtL]
  rw [(h i (Nat.le_refl _)).1, (h i (Nat.le_refl _)).2, wtL_congr ps (i + 1) y n y' n' (fun j hj => h j (by omega))]
theorem wtL_split : ∀ (ps : List Rat) (i y n v : Nat), i ≤ v → v < i + ps.length → y.testBit v = false → n.testBit v = false →
  wtL ps i y (n ||| 1 <<< v) + wtL ps i (y ||| 1 <<< v) n = wtL ps i y n
 | [], i, y, n, v, h1, h2, _, _ => by simp at h2; omega
 | p :: ps, i, y, n, v, h1, h2, hy, hn => by
  simp only [wtL]
  by_cases e : i = v
  ·subst e
   have c1 : wtL ps (i + 1) y (n ||| 1 <<< i) = wtL ps (i + 1) y n := wtL_congr _ _ _ _ _ _ (fun j hj => ⟨rfl, by rw [qcm]; simp; omega⟩)
   have c2 : wtL ps (i + 1) (y ||| 1 <<< i) n = wtL ps (i + 1) y n := wtL_congr _ _ _ _ _ _ (fun j hj => ⟨by rw [qcm]; simp; omega, rfl⟩)
   rw [c1, c2, qcm, qcm, hy, hn]
   simp [wtAt]
   grind
  ·have ih := wtL_split ps (i + 1) y n v (by omega) (by simp at h2; omega) hy hn
   have b1 : (n ||| 1 <<< v).testBit i = n.testBit i := by rw [qcm]; simp [e]
   have b2 : (y ||| 1 <<< v).testBit i = y.testBit i := by rw [qcm]; simp [e]
   rw [b1, b2, ← ih]
   grind
theorem wt_split {ps : List Rat} {y n v : Nat} (hv : v < ps.length) (hy : y.testBit v = false) (hn : n.testBit v = false) :
  wt ps y (n ||| 1 <<< v) + wt ps (y ||| 1 <<< v) n = wt ps y n := wtL_split ps 0 y n v (Nat.zero_le _) (by omega) hy hn
theorem wtAt_range {p : Rat} (h0 : 0 ≤ p) (h1 : p ≤ 1) (a b : Bool) : 0 ≤ wtAt p a b ∧ wtAt p a b ≤ 1 := by
 unfold wtAt
 cases a <;> cases b <;> simp <;> constructor <;> grind
theorem mul_range {a b : Rat} (ha : 0 ≤ a ∧ a ≤ 1) (hb : 0 ≤ b ∧ b ≤ 1) : 0 ≤ a * b ∧ a * b ≤ 1 := by
 refine ⟨Rat.mul_nonneg ha.1 hb.1, ?_⟩
 have h1 : a * b ≤ 1 * b := Rat.mul_le_mul_of_nonneg_right ha.2 hb.1
 grind
theorem wtL_range : ∀ (ps : List Rat) (i y n : Nat), (∀ p ∈ ps, 0 ≤ p ∧ p ≤ 1) → 0 ≤ wtL ps i y n ∧ wtL ps i y n ≤ 1
 | [], _, _, _, _ => by simp only [wtL]; constructor <;> decide
 | p :: ps, i, y, n, h => by
  simp only [wtL]
  have hp := h p (List.mem_cons_self ..)
  exact mul_range (wtAt_range hp.1 hp.2 _ _) (wtL_range ps (i + 1) y n (fun q hq => h q (List.mem_cons_of_mem _ hq)))
def sumL (ps : List Rat) (t : Lf → Bool) : List Lf → Rat
 | [] => 0
 | x :: xs => (if t x then wt ps x.yes x.no else 0) + sumL ps t xs
theorem sumL_app (ps : List Rat) (t : Lf → Bool) : ∀ a b, sumL ps t (a ++ b) = sumL ps t a + sumL ps t b
 | [], b => by simp [sumL, Rat.zero_add]
 | x :: xs, b => by simp only [List.cons_append, sumL]; rw [sumL_app ps t xs b]; grind
theorem sumL_nonneg {ps : List Rat} (hp : ∀ p ∈ ps, 0 ≤ p ∧ p ≤ 1) (t : Lf → Bool) : ∀ l, 0 ≤ sumL ps t l
 | [] => by simp only [sumL]; decide
 | x :: xs => by
  simp only [sumL]
  have h1 := sumL_nonneg hp t xs
  have h2 := (wtL_range ps 0 x.yes x.no hp).1
  unfold wt
  split <;> grind
theorem sumS_zero (g : Nat → Rat) : ∀ n, (∀ s, s < n → g s = 0) → sumS g n = 0
 | 0, _ => rfl
 | n + 1, h => by simp only [sumS]; rw [sumS_zero g n (fun s hs => h s (by omega)), h n (by omega)]; grind
theorem sumS_one (g : Nat → Rat) (y : Nat) : ∀ n, y < n → (∀ s, s < n → s ≠ y → g s = 0) → sumS g n = g y
 | 0, h, _ => by omega
 | n + 1, h, k => by
  simp only [sumS]
  by_cases e : n = y
  ·subst e
   rw [sumS_zero g n (fun s hs => k s (by omega) (by omega))]; grind
  ·rw [sumS_one g y n (by omega) (fun s hs => k s (by omega)), k n (by omega) e]; grind
theorem sumS_le {g h : Nat → Rat} : ∀ n, (∀ s, s < n → g s ≤ h s) → sumS g n ≤ sumS h n
 | 0, _ => by simp only [sumS]; exact Rat.le_refl
 | n + 1, k => by
  simp only [sumS]
  have h1 := sumS_le n (fun s hs => k s (by omega))
  have h2 := k n (by omega)
  grind
theorem sumS_congr {g h : Nat → Rat} : ∀ n, (∀ s, s < n → g s = h s) → sumS g n = sumS h n
 | 0, _ => rfl
 | n + 1, k => by simp only [sumS]; rw [sumS_congr n (fun s hs => k s (by omega)), k n (by omega)]

theorem conS_iff {vars y n s : Nat} : conS vars y n s = true ↔ ∀ i, i < vars → (y.testBit i = true → s.testBit i = true) ∧ (n.testBit i = true → s.testBit i = false) := by
 unfold conS
 rw [List.all_eq_true]
 constructor
 ·intro h i hi
  have := h i (List.mem_range.2 hi)
  cases hy : y.testBit i <;> cases hs : s.testBit i <;> cases hn : n.testBit i <;> simp_all
 ·intro h i hi
  have := h i (List.mem_range.1 hi)
  cases hy : y.testBit i <;> cases hs : s.testBit i <;> cases hn : n.testBit i <;> simp_all
theorem stL_range : ∀ (ps : List Rat) (i s : Nat), (∀ p ∈ ps, 0 ≤ p ∧ p ≤ 1) → 0 ≤ stL ps i s ∧ stL ps i s ≤ 1
 | [], _, _, _ => by simp only [stL]; constructor <;> decide
 | p :: ps, i, s, h => by
  simp only [stL]
  have hp := h p (List.mem_cons_self ..)
  refine mul_range ?_ (stL_range ps (i + 1) s (fun q hq => h q (List.mem_cons_of_mem _ hq)))
  split <;> constructor <;> grind
theorem stL_full : ∀ (ps : List Rat) (i y n : Nat), (∀ j, i ≤ j → j < i + ps.length → (y.testBit j = true ∨ n.testBit j = true)) → stL ps i y = wtL ps i y n
  | [], _, _, _, _ => rfl
  | p :: ps, i, y, n, h => by
    simp only [stL, wtL]
    rw [stL_full ps (i + 1) y n (fun j h1 h2 => h j (by omega) (by simp; omega))]
    congr 1
    have := h i (Nat.le_refl _) (by simp)
    unfold wtAt
    cases hy : y.testBit i with
    | true => simp
    | false => rw [hy] at this; have hn : n.testBit i = true := by rcases this with e | e; cases e; exact e
               simp [hn]
theorem conS_split {vars y n v s : Nat} (hv : v < vars) :
  (s.testBit v = true → conS vars (y ||| 1 <<< v) n s = conS vars y n s ∧ conS vars y (n ||| 1 <<< v) s = false) ∧
  (s.testBit v = false → conS vars y (n ||| 1 <<< v) s = conS vars y n s ∧ conS vars (y ||| 1 <<< v) n s = false) := by
 refine ⟨fun hs => ⟨?_, ?_⟩, fun hs => ⟨?_, ?_⟩⟩
 ·rw [Bool.eq_iff_iff, conS_iff, conS_iff]
  constructor
  ·intro h i hi
   have := h i hi
   rw [qcm] at this
   exact ⟨fun e => this.1 (by simp [e]), this.2⟩
  ·intro h i hi
   have := h i hi
   rw [qcm]
   refine ⟨fun e => ?_, this.2⟩
   by_cases q : i = v
   ·rw [q]; exact hs
   ·exact this.1 (by simpa [q] using e)
 ·rw [← Bool.not_eq_true, conS_iff]
  intro h
  have := (h v hv).2 (by rw [qcm]; simp)
  rw [hs] at this; cases this
 ·rw [Bool.eq_iff_iff, conS_iff, conS_iff]
  constructor
  ·intro h i hi
   have := h i hi
   rw [qcm] at this
   exact ⟨this.1, fun e => this.2 (by simp [e])⟩
  ·intro h i hi
   have := h i hi
   rw [qcm]
   refine ⟨this.1, fun e => ?_⟩
   by_cases q : i = v
   ·rw [q]; exact hs
   ·exact this.2 (by simpa [q] using e)
 ·rw [← Bool.not_eq_true, conS_iff]
  intro h
  have := (h v hv).1 (by rw [qcm]; simp)
  rw [hs] at this; cases this
theorem stS_split {vars : Nat} {ps : List Rat} {t : Nat → Bool} {y n v : Nat} (hv : v < vars) :
  stS vars ps t y n = stS vars ps t y (n ||| 1 <<< v) + stS vars ps t (y ||| 1 <<< v) n := by
 unfold stS
 apply sumS_add
 intro s
 obtain ⟨h1, h2⟩ := conS_split (y := y) (n := n) (s := s) hv
 cases hs : s.testBit v with
 | true =>
  obtain ⟨e1, e2⟩ := h1 hs
  rw [e1, e2]; simp [Rat.zero_add]
 | false =>
  obtain ⟨e1, e2⟩ := h2 hs
  rw [e1, e2]; simp [Rat.add_zero]
theorem opens_find {y n : Nat} : ∀ k, qdb y n k ≠ 0 → ∃ v, v < k ∧ y.testBit v = false ∧ n.testBit v = false
 | 0, h => by simp [qdb] at h
 | k + 1, h => by
  simp only [qdb] at h
  by_cases q : y.testBit k || n.testBit k
  ·rw [if_pos q] at h
   obtain ⟨v, h1, h2⟩ := opens_find k (by omega)
   exact ⟨v, by omega, h2⟩
  ·refine ⟨k, by omega, ?_⟩
   cases hy : y.testBit k <;> cases hn : n.testBit k <;> simp_all
theorem opens_none {y n : Nat} : ∀ k, qdb y n k = 0 → ∀ v, v < k → y.testBit v = true ∨ n.testBit v = true
 | 0, _, v, hv => by omega
 | k + 1, h, v, hv => by
  simp only [qdb] at h
  by_cases e : v = k
  ·subst e
   by_cases q : y.testBit v || n.testBit v
   ·simpa using q
   ·rw [if_neg q] at h; omega
  ·exact opens_none k (by omega) v (by omega)
theorem stS_all {vars : Nat} {ps : List Rat} (hl : ps.length = vars) : ∀ (k y n : Nat), qdb y n vars = k → okC vars y n → stS vars ps (fun _ => true) y n = wt ps y n
 | 0, y, n, hk, hc => by
  have hf := opens_none vars hk
  have hy : y < 2 ^ vars := by
   apply Nat.lt_pow_two_of_testBit
   intro i hi
   cases e : y.testBit i with
   | false => rfl
   | true => have := ((hc i).1 e).2; omega
  unfold stS wt
  rw [sumS_one _ y _ hy]
  ·have hcon : conS vars y n y = true := conS_iff.2 (fun i hi => ⟨fun e => e, fun e => by
    cases q : y.testBit i with
    | false => rfl
    | true => rw [((hc i).1 q).1] at e; cases e⟩)
   simp only [hcon, Bool.true_and, if_true]
   exact stL_full ps 0 y n (fun j _ h => hf j (by omega))
  ·intro s hs hne
   have : conS vars y n s = false := by
    rw [← Bool.not_eq_true, conS_iff]
    intro h
    apply hne
    apply Nat.eq_of_testBit_eq
    intro i
    by_cases hi : i < vars
    ·rcases hf i hi with e | e
     ·rw [e]; exact (h i hi).1 e
     ·rw [(h i hi).2 e]
      cases q : y.testBit i with
      | false => rfl
      | true => rw [((hc i).1 q).1] at e; cases e
    ·have p1 : s.testBit i = false := Nat.testBit_lt_two_pow (Nat.lt_of_lt_of_le hs (Nat.pow_le_pow_right (by decide) (by omega)))
     have p2 : y.testBit i = false := Nat.testBit_lt_two_pow (Nat.lt_of_lt_of_le hy (Nat.pow_le_pow_right (by decide) (by omega)))
     rw [p1, p2]
   rw [this]; simp
 | k + 1, y, n, hk, hc => by
  obtain ⟨v, hv, hy, hn⟩ := opens_find (y := y) (n := n) vars (by omega)
  have h1 := opens_no hy hn vars
  have h2 := opens_yes hy hn vars
  rw [if_pos hv] at h1 h2
  rw [stS_split hv, stS_all hl k y (n ||| 1 <<< v) (by omega) (okC_no hc hv hy), stS_all hl k (y ||| 1 <<< v) n (by omega) (okC_yes hc hv hn)]
  exact wt_split (by omega) hy hn
def qdd (vars s : Nat) : Nat := 2 ^ vars - (s + 1)
theorem compS_bit {vars s : Nat} (h : s < 2 ^ vars) (i : Nat) : (qdd vars s).testBit i = (decide (i < vars) && !s.testBit i) := by
 unfold qdd; exact Nat.testBit_two_pow_sub_succ h i
def topS (f : Fm) (s : Nat) : Bool := decide (qco f s (qdd f.vars.toNat s) = 1)
theorem cubeIn_state {vars y n s : Nat} (hs : s < 2 ^ vars) (hc : okC vars y n) (h : conS vars y n s = true) : cubeIn y n s (qdd vars s) := by
 rw [conS_iff] at h
 refine ⟨fun i e => ?_, fun i e => ?_, fun i e => ?_⟩
 ·exact (h i ((hc i).1 e).2).1 e
 ·have hi := (hc i).2 e
  rw [compS_bit hs, (h i hi).2 e]; simp [hi]
 ·rw [compS_bit hs, e]; simp
def qek (f : Fm) (ps : List Rat) : Rat := stS f.vars.toNat ps (topS f) 0 0
theorem st_nonneg {ps : List Rat} (hp : ∀ p ∈ ps, 0 ≤ p ∧ p ≤ 1) (vars y n : Nat) (t : Nat → Bool) : 0 ≤ stS vars ps t y n ∧ stS vars ps t y n ≤ stS vars ps (fun _ => true) y n := by
 constructor
 ·have h := sumS_le (g := fun _ => 0) (h := fun s => if conS vars y n s && t s then stL ps 0 s else 0) (2 ^ vars) (fun s _ => by
   split
   ·exact (stL_range ps 0 s hp).1
   ·exact Rat.le_refl)
  rw [sumS_zero (fun _ => 0) _ (fun _ _ => rfl)] at h
  exact h
 ·unfold stS
  apply sumS_le
  intro s _
  have h := (stL_range ps 0 s hp).1
  cases conS vars y n s <;> cases t s <;> simp <;> first | exact Rat.le_refl | exact h
theorem st_decided {f : Fm} {ps : List Rat} (hd : qfo f.vars 0 f.nodes) {y n : Nat} (hc : okC f.vars.toNat y n) :
  (qco f y n = 1 → stS f.vars.toNat ps (topS f) y n = stS f.vars.toNat ps (fun _ => true) y n) ∧ (qco f y n = 0 → stS f.vars.toNat ps (topS f) y n = 0) := by
 have key : ∀ s, s < 2 ^ f.vars.toNat → conS f.vars.toNat y n s = true → qco f y n ≠ 2 → qco f s (qdd f.vars.toNat s) = qco f y n :=
  fun s hs h h2 => fmVal_fits hd (cubeIn_state hs hc h) h2
 constructor
 ·intro e
  unfold stS
  apply sumS_congr
  intro s hs
  cases h : conS f.vars.toNat y n s with
  | false => simp
  | true =>
   have := key s hs h (by rw [e]; decide)
   simp [topS, this, e]
 ·intro e
  unfold stS
  apply sumS_zero
  intro s hs
  cases h : conS f.vars.toNat y n s with
  | false => simp
  | true =>
   have := key s hs h (by rw [e]; decide)
   simp [topS, this, e]
theorem tree_encl {f : Fm} {ps : List Rat} (hv : 0 ≤ f.vars) (hd : qfo f.vars 0 f.nodes) (hl : ps.length = f.vars.toNat) (hp : ∀ p ∈ ps, 0 ≤ p ∧ p ≤ 1) :
  ∀ (t : Tr) (y n above m m' : Nat), qbh f.vars t above m = (m', 0) → okC f.vars.toNat y n → (∀ i, above.testBit i = (y.testBit i || n.testBit i)) → holdL f (qah t y n) →
   sumL ps (fun x => decide (x.reason = 1)) (qah t y n) ≤ stS f.vars.toNat ps (topS f) y n ∧
   stS f.vars.toNat ps (topS f) y n + sumL ps (fun x => decide (x.reason = 0)) (qah t y n) ≤ wt ps y n
 | .mk v ks r, y, n, above, m, m', h, hc, hab, hh => by
  have hall := stS_all (ps := ps) hl _ y n rfl hc
  have hrg := st_nonneg hp f.vars.toNat y n (topS f)
  rcases trErr_inv h with ⟨rfl, _, _⟩ | ⟨a, b, m1, rfl, h1, h2, h3, _, h4, h5⟩
  ·have e : qah (.mk v [] r) y n = [⟨y, n, r⟩] := by simp [qah]
   rw [e] at hh ⊢
   have hw := (wtL_range ps 0 y n hp).1
   have hx := hh ⟨y, n, r⟩ (by simp)
   simp only at hx
   obtain ⟨d1, d0⟩ := st_decided (ps := ps) hd hc
   have hle := fmVal_le hd y n
   simp only [sumL]
   rw [hall] at hrg
   rcases hx with hx | hx
   ·subst hx
    simp
    exact ⟨by have := hrg.1; grind, by have := hrg.2; grind⟩
   ·rcases (by omega : qco f y n = 0 ∨ qco f y n = 1 ∨ qco f y n = 2) with q | q | q
    ·rw [q] at hx; rw [d0 q]
     have : r = 0 := hx
     subst this
     simp
     exact ⟨by grind, by grind⟩
    ·rw [q] at hx; rw [d1 q, hall]
     have : r = 1 := hx
     subst this
     simp
     exact ⟨by grind, by grind⟩
    ·rw [q] at hx
     have : r = 2 := hx
     subst this
     simp
     exact ⟨by have := hrg.1; grind, by have := hrg.2; grind⟩
  ·have e : qah (.mk v [a, b] r) y n = qah a y (n ||| 1 <<< v.toNat) ++ qah b (y ||| 1 <<< v.toNat) n := by rw [qah]
   rw [e] at hh ⊢
   have hvt : v.toNat < f.vars.toNat := by omega
   have hyn := hab v.toNat
   rw [h3] at hyn
   obtain ⟨hy, hn⟩ := Bool.or_eq_false_iff.1 hyn.symm
   have ra := tree_encl hv hd hl hp a y (n ||| 1 <<< v.toNat) (above ||| 1 <<< v.toNat) (m + 1) m1 h4 (okC_no hc hvt hy) (fun i => by rw [qcm, qcm, hab i, Bool.or_assoc]) (fun x hx => hh x (List.mem_append_left _ hx))
   have rb := tree_encl hv hd hl hp b (y ||| 1 <<< v.toNat) n (above ||| 1 <<< v.toNat) m1 m' h5 (okC_yes hc hvt hn) (fun i => by rw [qcm, qcm, hab i]; cases y.testBit i <;> cases n.testBit i <;> simp) (fun x hx => hh x (List.mem_append_right _ hx))
   have hs := stS_split (vars := f.vars.toNat) (ps := ps) (t := topS f) (y := y) (n := n) hvt
   have hw := wt_split (ps := ps) (v := v.toNat) (by omega) hy hn
   rw [sumL_app, sumL_app, hs]
   exact ⟨by have := ra.1; have := rb.1; grind, by have := ra.2; have := rb.2; grind⟩
 termination_by t => SizeOf.sizeOf t
theorem tree_chance {f : Fm} {ps : List Rat} {t : Tr} {m : Nat} (hv : 0 ≤ f.vars) (hd : qfo f.vars 0 f.nodes) (hl : ps.length = f.vars.toNat) (hp : ∀ p ∈ ps, 0 ≤ p ∧ p ≤ 1)
  (h : qbh f.vars t 0 0 = (m, 0)) (hh : holdL f (qah t 0 0)) :
  sumL ps (fun x => decide (x.reason = 1)) (qah t 0 0) ≤ qek f ps ∧ qek f ps ≤ 1 - sumL ps (fun x => decide (x.reason = 0)) (qah t 0 0) := by
 obtain ⟨h1, h2⟩ := tree_encl hv hd hl hp t 0 0 0 0 m h (fun i => by simp) (fun i => by simp) hh
 have hw : ∀ (ps : List Rat) (i : Nat), wtL ps i 0 0 = 1 := by
  intro ps
  induction ps with
  | nil => intro i; rfl
  | cons p ps ih => intro i; simp only [wtL]; rw [ih]; simp [wtAt]
 unfold wt at h2
 rw [hw] at h2
 refine ⟨h1, ?_⟩
 unfold qek
 grind
theorem qer (v y n : Nat) : qah (leafT v) y n = [⟨y, n, v⟩] := by simp [leafT, qah]
theorem leafT_err (vars : Int) (v above m : Nat) (h : m + 1 ≤ 4096) : qbh vars (leafT v) above m = (m + 1, 0) := by
 unfold leafT; simp only [qbh]; rw [if_neg (by omega)]; simp
theorem grT_hold {f : Fm} : ∀ d y n, holdL f (qah (grT f d y n) y n)
 | 0, y, n => by
  simp only [grT]; rw [qer]
  intro x hx; rw [List.mem_singleton] at hx; subst hx; exact .inr rfl
 | d + 1, y, n => by
  simp only [grT]
  split
  ·rw [qer]
   intro x hx; rw [List.mem_singleton] at hx; subst hx; exact .inr rfl
  ·simp only [qah, Int.toNat_natCast]
   intro x hx
   rcases List.mem_append.1 hx with h | h
   ·exact grT_hold d y _ x h
   ·exact grT_hold d _ n x h
theorem grT_err {f : Fm} (h : qcc f = 0) : ∀ d y n above m, (∀ i, above.testBit i = (y.testBit i || n.testBit i)) → m + grN f d y n ≤ 4096 → qbh f.vars (grT f d y n) above m = (m + grN f d y n, 0)
 | 0, y, n, above, m, _, hm => by simp only [grT, grN] at hm ⊢; exact leafT_err _ _ _ _ hm
 | d + 1, y, n, above, m, hab, hm => by
  simp only [grT, grN] at hm ⊢
  by_cases q : qco f y n = 2
  ·have hq : ¬ qco f y n ≠ 2 := fun k => k q
   rw [if_neg hq] at hm ⊢
   rw [if_neg hq]
   obtain ⟨h1, h2⟩ := fmNext_ok h q
   obtain ⟨hy, hn⟩ := ev3_open h2
   obtain ⟨v, hv⟩ : ∃ v, v = qcp f y n := ⟨_, rfl⟩
   rw [← hv] at h1 hy hn hm ⊢
   have p1 := grN_pos f d y (n ||| 1 <<< v)
   have p2 := grN_pos f d (y ||| 1 <<< v) n
   have hb : above.testBit v = false := by rw [hab, hy, hn]; rfl
   have e1 := grT_err h d y (n ||| 1 <<< v) (above ||| 1 <<< v) (m + 1) (fun i => by rw [qcm, qcm, hab i, Bool.or_assoc]) (by omega)
   have e2 := grT_err h d (y ||| 1 <<< v) n (above ||| 1 <<< v) (m + 1 + grN f d y (n ||| 1 <<< v)) (fun i => by rw [qcm, qcm, hab i]; cases y.testBit i <;> cases n.testBit i <;> simp) (by omega)
   simp only [qbh, qdv, Int.toNat_natCast]
   rw [if_neg (by omega), if_neg (by simp), if_neg (by simp), if_neg (by omega), if_neg (by rw [hb]; decide), if_neg (by simp)]
   simp [e1, e2]; omega
  ·rw [if_pos q] at hm ⊢
   rw [if_pos q]
   exact leafT_err _ _ _ _ hm
theorem trSz_pos : ∀ t, 1 ≤ qei t
 | .mk v ks r => by unfold qei; split <;> omega
theorem trOK_err {vars : Int} : ∀ (t : Tr) (above m : Nat), qej vars t above → m + qei t ≤ 4096 → qbh vars t above m = (m + qei t, 0)
 | .mk v [] r, above, m, h, hm => by
  simp only [qej] at h
  simp only [qei] at hm ⊢
  subst h
  simp only [qbh]; rw [if_neg (by omega)]; simp
 | .mk v [a, b] r, above, m, h, hm => by
  simp only [qej] at h
  simp only [qei] at hm ⊢
  obtain ⟨h1, h2, h3, h4, h5, h6⟩ := h
  have pa := trSz_pos a
  have pb := trSz_pos b
  have e1 := trOK_err a _ (m + 1) h5 (by omega)
  have e2 := trOK_err b _ (m + 1 + qei a) h6 (by omega)
  simp only [qbh, qdv]
  rw [if_neg (by omega), if_neg (by simp), if_neg (by simp), if_neg (by omega), if_neg (by rw [h3]; decide), if_neg (by simp [h4])]
  simp [e1, e2]; omega
 | .mk v [a] r, above, m, h, hm => by simp only [qej] at h
 | .mk v (a :: b :: c :: l) r, above, m, h, hm => by simp only [qej] at h
 termination_by t => SizeOf.sizeOf t
def qbo (by_ : Tr) : Tr → Int → Tr × Nat
 | .mk v [a, b] _, k => (.mk v [(qbo by_ a k).1, (qbo by_ b (k - (qbo by_ a k).2)).1] 0, (qbo by_ a k).2 + (qbo by_ b (k - (qbo by_ a k).2)).2)
 | .mk _ _ r, k => if k = 0 then (by_, 1) else (.mk 0 [] r, 1)
def putLs (by_ : Tr) (l : List Lf) (k : Int) : List Lf :=
 match l with
 | [] => []
 | x :: xs => (if k = 0 then qah by_ x.yes x.no else [x]) ++ putLs by_ xs (k - 1)
theorem putLs_app (by_ : Tr) : ∀ (a b : List Lf) (k : Int), putLs by_ (a ++ b) k = putLs by_ a k ++ putLs by_ b (k - a.length)
 | [], b, k => by simp [putLs]
 | x :: xs, b, k => by
  simp only [List.cons_append, putLs, List.length_cons]
  rw [putLs_app by_ xs b, show k - 1 - (xs.length : Int) = k - ((xs.length + 1 : Nat) : Int) from by omega, List.append_assoc]
theorem trSwap_leaves (by_ : Tr) {vars : Int} : ∀ (t : Tr) (k : Int) (y n above : Nat), qej vars t above → (qbo by_ t k).2 = (qah t y n).length ∧ qah (qbo by_ t k).1 y n = putLs by_ (qah t y n) k
 | .mk v [] r, k, y, n, above, h => by
  simp only [qbo, qah]
  split
  ·rename_i e; refine ⟨rfl, ?_⟩; simp only [putLs]; rw [if_pos e]; simp
  ·rename_i e; refine ⟨rfl, ?_⟩; simp only [putLs, qah]; rw [if_neg e]; simp
 | .mk v [a, b] r, k, y, n, above, h => by
  simp only [qej] at h
  obtain ⟨h1, h2, h3, h4, h5, h6⟩ := h
  obtain ⟨a1, a2⟩ := trSwap_leaves by_ a k y (n ||| 1 <<< v.toNat) _ h5
  obtain ⟨b1, b2⟩ := trSwap_leaves by_ b (k - (qbo by_ a k).2) (y ||| 1 <<< v.toNat) n _ h6
  simp only [qbo, qah]
  refine ⟨by rw [b1, a1, List.length_append], ?_⟩
  rw [a2, b2, putLs_app, a1]
 | .mk v [a] r, k, y, n, above, h => by simp only [qej] at h
 | .mk v (a :: b :: c :: l) r, k, y, n, above, h => by simp only [qej] at h
 termination_by t => SizeOf.sizeOf t
theorem leaves_all {vars : Int} {ps : List Rat} (hl : ps.length = vars.toNat) : ∀ (t : Tr) (y n above : Nat), qej vars t above → (∀ i, above.testBit i = (y.testBit i || n.testBit i)) → sumL ps (fun _ => true) (qah t y n) = wt ps y n
 | .mk v [] r, y, n, above, h, hab => by simp [qah, sumL, Rat.add_zero]
 | .mk v [a, b] r, y, n, above, h, hab => by
  simp only [qej] at h
  obtain ⟨h1, h2, h3, h4, h5, h6⟩ := h
  have hyn := hab v.toNat
  rw [h3] at hyn
  obtain ⟨hy, hn⟩ := Bool.or_eq_false_iff.1 hyn.symm
  simp only [qah]
  rw [sumL_app, leaves_all hl a y _ _ h5 (fun i => by rw [qcm, qcm, hab i, Bool.or_assoc]), leaves_all hl b _ n _ h6 (fun i => by rw [qcm, qcm, hab i]; cases y.testBit i <;> cases n.testBit i <;> simp)]
  exact wt_split (by omega) hy hn
 | .mk v [a] r, y, n, above, h, hab => by simp only [qej] at h
 | .mk v (a :: b :: c :: l) r, y, n, above, h, hab => by simp only [qej] at h
 termination_by t => SizeOf.sizeOf t
theorem sum_closed (ps : List Rat) : ∀ (l : List Lf), (∀ x ∈ l, x.reason = 0 ∨ x.reason = 1) → sumL ps (fun x => decide (x.reason = 1)) l + sumL ps (fun x => decide (x.reason = 0)) l = sumL ps (fun _ => true) l
 | [], _ => by simp only [sumL]; grind
 | x :: xs, h => by
  have ih := sum_closed ps xs (fun z hz => h z (List.mem_cons_of_mem _ hz))
  simp only [sumL]
  rcases h x (List.mem_cons_self ..) with e | e <;> simp [e] <;> grind
theorem tree_exact {f : Fm} {ps : List Rat} {t : Tr} {m : Nat} (hv : 0 ≤ f.vars) (hd : qfo f.vars 0 f.nodes) (hl : ps.length = f.vars.toNat) (hp : ∀ p ∈ ps, 0 ≤ p ∧ p ≤ 1)
  (h : qbh f.vars t 0 0 = (m, 0)) (hh : holdL f (qah t 0 0)) (hc : ∀ x ∈ qah t 0 0, x.reason ≠ 2) :
  sumL ps (fun x => decide (x.reason = 1)) (qah t 0 0) = qek f ps ∧ 1 - sumL ps (fun x => decide (x.reason = 0)) (qah t 0 0) = qek f ps := by
 obtain ⟨h1, h2⟩ := tree_chance hv hd hl hp h hh
 have ha := leaves_all hl t 0 0 0 (qfh t 0 0 m h).1 (fun i => by simp)
 have hs := sum_closed ps (qah t 0 0) (fun x hx => by
  have k1 := hc x hx
  have k2 := fmVal_le hd x.yes x.no
  rcases hh x hx with k | k
  ·exact absurd k k1
  ·omega)
 have hw : ∀ (ps : List Rat) (i : Nat), wtL ps i 0 0 = 1 := by
  intro ps
  induction ps with
  | nil => intro i; rfl
  | cons p ps ih => intro i; simp only [wtL]; rw [ih]; simp [wtAt]
 unfold wt at ha
 rw [hw] at ha
 constructor <;> grind
theorem putLs_off (by_ : Tr) : ∀ (l : List Lf) (k : Int), k < 0 → putLs by_ l k = l
 | [], _, _ => rfl
 | x :: xs, k, h => by simp only [putLs]; rw [if_neg (by omega), putLs_off by_ xs (k - 1) (by omega)]; rfl
theorem putLs_at (by_ : Tr) (l1 : List Lf) (x : Lf) (l2 : List Lf) : putLs by_ (l1 ++ x :: l2) l1.length = l1 ++ (qah by_ x.yes x.no ++ l2) := by
 rw [putLs_app]
 have e : putLs by_ l1 l1.length = l1 := by
  have key : ∀ (l : List Lf) (k : Int), (l.length : Int) ≤ k → putLs by_ l k = l := by
   intro l
   induction l with
   | nil => intro k _; rfl
   | cons z zs ih => intro k hk; simp only [List.length_cons] at hk; simp only [putLs]; rw [if_neg (by omega), ih _ (by omega)]; rfl
  exact key l1 _ (Int.le_refl _)
 rw [e, Int.sub_self]
 simp only [putLs]
 rw [if_pos trivial, putLs_off by_ l2 _ (by omega)]
theorem trSwap_ok (by_ : Tr) {vars : Int} : ∀ (t : Tr) (k : Int) (y n above : Nat), qej vars t above → (∀ i, above.testBit i = (y.testBit i || n.testBit i)) →
  (∀ (j : Nat) x, (qah t y n)[j]? = some x → k = j → qej vars by_ (x.yes ||| x.no)) → qej vars (qbo by_ t k).1 above
 | .mk v [] r, k, y, n, above, h, hab, hx => by
  simp only [qej] at h
  simp only [qbo]
  split
  ·rename_i e
   have := hx 0 ⟨y, n, r⟩ (by simp [qah]) (by omega)
   simp only at this
   rw [show above = y ||| n from Nat.eq_of_testBit_eq (fun i => by rw [hab, Nat.testBit_or])]
   exact this
  ·simp only [qej]
 | .mk v [a, b] r, k, y, n, above, h, hab, hx => by
  simp only [qej] at h
  obtain ⟨h1, h2, h3, h4, h5, h6⟩ := h
  obtain ⟨l1, _⟩ := trSwap_leaves by_ a k y (n ||| 1 <<< v.toNat) _ h5
  simp only [qah] at hx
  have ra := trSwap_ok by_ a k y (n ||| 1 <<< v.toNat) _ h5 (fun i => by rw [qcm, qcm, hab i, Bool.or_assoc]) (fun j x hj hk => by
   refine hx j x ?_ hk
   rw [List.getElem?_append_left]
   ·exact hj
   ·rcases Nat.lt_or_ge j (qah a y (n ||| 1 <<< v.toNat)).length with q | q
    ·exact q
    ·rw [List.getElem?_eq_none q] at hj; cases hj)
  have rb := trSwap_ok by_ b (k - (qbo by_ a k).2) (y ||| 1 <<< v.toNat) n _ h6 (fun i => by rw [qcm, qcm, hab i]; cases y.testBit i <;> cases n.testBit i <;> simp) (fun j x hj hk => by
   refine hx (j + (qah a y (n ||| 1 <<< v.toNat)).length) x ?_ (by rw [l1] at hk; omega)
   rw [List.getElem?_append_right (by omega), Nat.add_sub_cancel]
   exact hj)
  simp only [qbo, qej]
  exact ⟨h1, h2, h3, trivial, ra, rb⟩
 | .mk v [a] r, k, y, n, above, h, _, _ => by simp only [qej] at h
 | .mk v (a :: b :: c :: l) r, k, y, n, above, h, _, _ => by simp only [qej] at h
 termination_by t => SizeOf.sizeOf t
def pot (vars : Nat) : List Lf → Nat
 | [] => 0
 | x :: xs => (if x.reason = 2 then 2 ^ qdb x.yes x.no vars - 1 else 0) + pot vars xs
theorem pot_app (vars : Nat) : ∀ a b, pot vars (a ++ b) = pot vars a + pot vars b
 | [], b => by simp [pot]
 | x :: xs, b => by simp only [List.cons_append, pot]; rw [pot_app vars xs b]; omega
theorem pot_split {f : Fm} (h : qcc f = 0) {y n : Nat} (h2 : qco f y n = 2) : pot f.vars.toNat (qah (grT f 1 y n) y n) < 2 ^ qdb y n f.vars.toNat - 1 ∨ qdb y n f.vars.toNat = 1 ∧ pot f.vars.toNat (qah (grT f 1 y n) y n) = 0 := by
 have hq : ¬ qco f y n ≠ 2 := fun k => k h2
 obtain ⟨h1, h3⟩ := fmNext_ok h h2
 obtain ⟨hy, hn⟩ := ev3_open h3
 have o1 := opens_no hy hn f.vars.toNat
 have o2 := opens_yes hy hn f.vars.toNat
 rw [if_pos h1] at o1 o2
 have e : qah (grT f 1 y n) y n = [⟨y, n ||| 1 <<< qcp f y n, qco f y (n ||| 1 <<< qcp f y n)⟩, ⟨y ||| 1 <<< qcp f y n, n, qco f (y ||| 1 <<< qcp f y n) n⟩] := by
  simp only [grT]; rw [if_neg hq]; simp only [qah, Int.toNat_natCast, qer]; rfl
 rw [e]
 simp only [pot]
 obtain ⟨k, hk⟩ : ∃ k, qdb y n f.vars.toNat = k + 1 := ⟨qdb y n f.vars.toNat - 1, by omega⟩
 rw [show qdb y (n ||| 1 <<< qcp f y n) f.vars.toNat = k from by omega, show qdb (y ||| 1 <<< qcp f y n) n f.vars.toNat = k from by omega, hk]
 have hp : 1 ≤ 2 ^ k := Nat.one_le_two_pow
 have hs : 2 ^ (k + 1) = 2 ^ k * 2 := Nat.pow_succ ..
 left
 split <;> split <;> omega
theorem refine_ok {f : Fm} (h : qcc f = 0) {t : Tr} {l1 l2 : List Lf} {x : Lf} (ht : qej f.vars t 0) (hh : holdL f (qah t 0 0)) (hl : qah t 0 0 = l1 ++ x :: l2) (hx : x.reason = 2) (hv : qco f x.yes x.no = 2) :
  qah (qbo (grT f 1 x.yes x.no) t l1.length).1 0 0 = l1 ++ (qah (grT f 1 x.yes x.no) x.yes x.no ++ l2) ∧
  qej f.vars (qbo (grT f 1 x.yes x.no) t l1.length).1 0 ∧ holdL f (qah (qbo (grT f 1 x.yes x.no) t l1.length).1 0 0) ∧
  pot f.vars.toNat (qah (qbo (grT f 1 x.yes x.no) t l1.length).1 0 0) < pot f.vars.toNat (qah t 0 0) := by
 have hle : qah (qbo (grT f 1 x.yes x.no) t l1.length).1 0 0 = l1 ++ (qah (grT f 1 x.yes x.no) x.yes x.no ++ l2) := by
  rw [(trSwap_leaves _ t _ 0 0 0 ht).2, hl, putLs_at]
 have hok : qej f.vars (qbo (grT f 1 x.yes x.no) t l1.length).1 0 := by
  refine trSwap_ok _ t _ 0 0 0 ht (fun i => by simp) (fun j z hz hj => ?_)
  have : z = x := by
   rw [hl, show j = l1.length from by omega, List.getElem?_append_right (Nat.le_refl _), Nat.sub_self] at hz
   simpa using hz.symm
  subst this
  have g := grT_err h 1 z.yes z.no (z.yes ||| z.no) 0 (fun i => Nat.testBit_or _ _ _) (by
   simp only [grN]; split <;> omega)
  exact (qfh _ _ _ _ g).1
 refine ⟨hle, hok, ?_, ?_⟩
 ·rw [hle]
  intro z hz
  rcases List.mem_append.1 hz with q | q
  ·exact hh z (by rw [hl]; exact List.mem_append_left _ q)
  rcases List.mem_append.1 q with q | q
  ·exact grT_hold 1 _ _ z q
  ·exact hh z (by rw [hl]; exact List.mem_append_right _ (List.mem_cons_of_mem _ q))
 ·rw [hle, hl, pot_app, pot_app, pot_app]
  have hs : pot f.vars.toNat (x :: l2) = (2 ^ qdb x.yes x.no f.vars.toNat - 1) + pot f.vars.toNat l2 := by simp only [pot]; rw [if_pos hx]
  rw [hs]
  rcases pot_split h hv with q | ⟨q1, q2⟩
  ·omega
  ·rw [q1, q2]; simp
theorem refine_sum {ps : List Rat} (hp : ∀ p ∈ ps, 0 ≤ p ∧ p ≤ 1) (r : Int) (hr : r ≠ 2) (l1 l2 m : List Lf) (x : Lf) (hx : x.reason = 2) :
  sumL ps (fun z => decide (z.reason = r)) (l1 ++ x :: l2) ≤ sumL ps (fun z => decide (z.reason = r)) (l1 ++ (m ++ l2)) := by
 rw [sumL_app, sumL_app, sumL_app]
 have h := sumL_nonneg hp (fun z => decide (z.reason = r)) m
 have e : sumL ps (fun z => decide (z.reason = r)) (x :: l2) = sumL ps (fun z => decide (z.reason = r)) l2 := by
  simp only [sumL]
  have : ¬ x.reason = r := by rw [hx]; exact fun k => hr k.symm
  simp [this, Rat.zero_add]
 rw [e]; grind
theorem tr_small {vars : Int} : ∀ (t : Tr) (y n above : Nat), qej vars t above → (∀ i, above.testBit i = (y.testBit i || n.testBit i)) →
  qei t + 1 ≤ 2 ^ (qdb y n vars.toNat + 1) ∧ pot vars.toNat (qah t y n) + 1 ≤ 2 ^ qdb y n vars.toNat
 | .mk v [] r, y, n, above, h, hab => by
  have hp : 1 ≤ 2 ^ qdb y n vars.toNat := Nat.one_le_two_pow
  have hs : 2 ^ (qdb y n vars.toNat + 1) = 2 ^ qdb y n vars.toNat * 2 := Nat.pow_succ ..
  simp only [qei, qah, pot]
  refine ⟨by omega, ?_⟩
  split <;> omega
 | .mk v [a, b] r, y, n, above, h, hab => by
  simp only [qej] at h
  obtain ⟨h1, h2, h3, h4, h5, h6⟩ := h
  have hyn := hab v.toNat
  rw [h3] at hyn
  obtain ⟨hy, hn⟩ := Bool.or_eq_false_iff.1 hyn.symm
  have hv : v.toNat < vars.toNat := by omega
  have o1 := opens_no hy hn vars.toNat
  have o2 := opens_yes hy hn vars.toNat
  rw [if_pos hv] at o1 o2
  obtain ⟨a1, a2⟩ := tr_small a y (n ||| 1 <<< v.toNat) _ h5 (fun i => by rw [qcm, qcm, hab i, Bool.or_assoc])
  obtain ⟨b1, b2⟩ := tr_small b (y ||| 1 <<< v.toNat) n _ h6 (fun i => by rw [qcm, qcm, hab i]; cases y.testBit i <;> cases n.testBit i <;> simp)
  obtain ⟨k, hk⟩ : ∃ k, qdb y n vars.toNat = k + 1 := ⟨qdb y n vars.toNat - 1, by omega⟩
  rw [show qdb y (n ||| 1 <<< v.toNat) vars.toNat = k from by omega] at a1 a2
  rw [show qdb (y ||| 1 <<< v.toNat) n vars.toNat = k from by omega] at b1 b2
  rw [hk]
  have s1 : 2 ^ (k + 1) = 2 ^ k * 2 := Nat.pow_succ ..
  have s2 : 2 ^ (k + 1 + 1) = 2 ^ (k + 1) * 2 := Nat.pow_succ ..
  simp only [qei, qah]
  rw [pot_app]
  exact ⟨by omega, by omega⟩
 | .mk v [a] r, y, n, above, h, _ => by simp only [qej] at h
 | .mk v (a :: b :: c :: l) r, y, n, above, h, _ => by simp only [qej] at h
 termination_by t => SizeOf.sizeOf t
def pickS (ps : List Rat) (x : Lf) (i : Nat) (acc : Option (Nat × Rat)) : Option (Nat × Rat) :=
 if x.reason = 2 then (match acc with
  | none => some (i, wt ps x.yes x.no)
  | some (j, m) => if m < wt ps x.yes x.no then some (i, wt ps x.yes x.no) else some (j, m)) else acc
def qfe (ps : List Rat) : List Lf → Nat → Option (Nat × Rat) → Option (Nat × Rat)
 | [], _, acc => acc
 | x :: xs, i, acc => qfe ps xs (i + 1) (pickS ps x i acc)
theorem pickS_some (ps : List Rat) (x : Lf) (i : Nat) (q : Nat × Rat) : ∃ r, pickS ps x i (some q) = some r := by
 unfold pickS
 split
 ·obtain ⟨j, m⟩ := q
  dsimp only
  split
  ·exact ⟨_, rfl⟩
  ·exact ⟨_, rfl⟩
 ·exact ⟨q, rfl⟩
theorem pickL_some (ps : List Rat) : ∀ (l : List Lf) (i : Nat) (q : Nat × Rat), ∃ r, qfe ps l i (some q) = some r
 | [], _, q => ⟨q, rfl⟩
 | x :: xs, i, q => by
  simp only [qfe]
  obtain ⟨r, hr⟩ := pickS_some ps x i q
  rw [hr]; exact pickL_some ps xs (i + 1) r
theorem pickL_none {ps : List Rat} : ∀ (l : List Lf) (i : Nat), qfe ps l i none = none → ∀ x ∈ l, x.reason ≠ 2
 | [], _, _, x, hx => by cases hx
 | y :: ys, i, h, x, hx => by
  simp only [qfe] at h
  by_cases e : y.reason = 2
  ·have : pickS ps y i none = some (i, wt ps y.yes y.no) := by unfold pickS; rw [if_pos e]
   rw [this] at h
   obtain ⟨r, hr⟩ := pickL_some ps ys (i + 1) (i, wt ps y.yes y.no)
   rw [hr] at h; cases h
  ·have : pickS ps y i none = none := by unfold pickS; rw [if_neg e]
   rw [this] at h
   rcases List.mem_cons.1 hx with q | q
   ·subst q; exact e
   ·exact pickL_none ys (i + 1) h x q
theorem pickL_ok {ps : List Rat} (all : List Lf) : ∀ (l : List Lf) (i : Nat) (acc : Option (Nat × Rat)) (r : Nat × Rat), all.drop i = l →
  (∀ q, acc = some q → ∃ x, all[q.1]? = some x ∧ x.reason = 2 ∧ q.2 = wt ps x.yes x.no) → qfe ps l i acc = some r → ∃ x, all[r.1]? = some x ∧ x.reason = 2 ∧ r.2 = wt ps x.yes x.no
 | [], i, acc, r, _, ha, h => ha r (by simpa [qfe] using h)
 | y :: ys, i, acc, r, hd, ha, h => by
  simp only [qfe] at h
  have hy : all[i]? = some y := by
   have := congrArg (fun z => z[0]?) hd
   simpa using this
  have hd' : all.drop (i + 1) = ys := by
   have := congrArg List.tail hd
   simpa using this
  refine pickL_ok all ys (i + 1) _ r hd' (fun q hq => ?_) h
  unfold pickS at hq
  by_cases e : y.reason = 2
  ·rw [if_pos e] at hq
   cases hacc : acc with
   | none =>
    rw [hacc] at hq
    have : q = (i, wt ps y.yes y.no) := by simpa using hq.symm
    subst this
    exact ⟨y, hy, e, rfl⟩
   | some p =>
    obtain ⟨j, m⟩ := p
    rw [hacc] at hq
    dsimp only at hq
    split at hq
    ·have : q = (i, wt ps y.yes y.no) := by simpa using hq.symm
     subst this
     exact ⟨y, hy, e, rfl⟩
    ·have : q = (j, m) := by simpa using hq.symm
     subst this
     exact ha _ hacc
  ·rw [if_neg e] at hq
   exact ha q hq
theorem list_at {l : List Lf} {i : Nat} {x : Lf} (h : l[i]? = some x) : ∃ l1 l2, l = l1 ++ x :: l2 ∧ l1.length = i := by
 have hi : i < l.length := by
  rcases Nat.lt_or_ge i l.length with k | k
  ·exact k
  ·rw [List.getElem?_eq_none k] at h; cases h
 refine ⟨l.take i, l.drop (i + 1), ?_, by rw [List.length_take]; omega⟩
 have e : l.drop i = x :: l.drop (i + 1) := by
  rw [List.drop_eq_getElem_cons hi]; congr 1
  rw [List.getElem?_eq_getElem hi] at h; simpa using h
 rw [← e, List.take_append_drop]
theorem sumF_eq (ps : List Rat) (r : Int) : ∀ (l : List Lf) (a : Rat), sumF ps r l a = a + sumL ps (fun x => decide (x.reason = r)) l
 | [], a => by simp only [sumF, sumL]; grind
 | x :: xs, a => by
  simp only [sumF, sumL]
  rw [sumF_eq ps r xs]
  by_cases e : x.reason = r
  ·simp [e]; grind
  ·simp [e]; grind
theorem chance_eq {f : Fm} {ps : List Rat} (hl : ps.length = f.vars.toNat) :
  qek f ps = sumS (fun s => if topS f s then wt ps s (qdd f.vars.toNat s) else 0) (2 ^ f.vars.toNat) := by
 unfold qek stS
 apply sumS_congr
 intro s hs
 have hc : conS f.vars.toNat 0 0 s = true := conS_iff.2 (fun i _ => by simp)
 have hw : stL ps 0 s = wt ps s (qdd f.vars.toNat s) := stL_full ps 0 s _ (fun j _ hj => by
  rw [compS_bit hs]
  cases s.testBit j with
  | true => exact .inl rfl
  | false => right; simp; omega)
 rw [hc, hw]; simp
def sg (q : Rat) : Int := if q < 0 then -1 else if q = 0 then 0 else 1
theorem sg_eq (p : Rat) : sg p = if nn p = 0 then 0 else if ng p = true then -1 else 1 := by
 unfold sg ng
 by_cases h : p < 0
 ·have : p ≠ 0 := by grind
  rw [if_pos h, if_neg (fun e => this (qfm.1 e)), if_pos (decide_eq_true h)]
 ·rw [if_neg h]
  by_cases h2 : p = 0
  ·rw [if_pos h2, if_pos (qfm.2 h2)]
  ·rw [if_neg h2, if_neg (fun e => h2 (qfm.1 e)), if_neg (by simp [h])]
theorem sg_sub (p q : Rat) : sg (p - q) = cq p q := by
 unfold sg cq; grind
theorem cq_ge (p q : Rat) : 0 ≤ cq p q ↔ q ≤ p := by
 unfold cq; split
 ·grind
 ·split <;> grind
theorem cq_gt (p q : Rat) : 0 < cq p q ↔ q < p := by
 unfold cq; split
 ·grind
 ·split <;> grind
def mn (p q : Rat) : Rat := if p ≤ q then p else q
theorem mn_self (p : Rat) : mn p p = p := by unfold mn; split <;> rfl
theorem mx_self (p : Rat) : mx p p = p := by unfold mx; split <;> rfl
theorem mn_of_le {p q : Rat} (h : p ≤ q) : mn p q = p := by unfold mn; rw [if_pos h]
theorem mx_of_le {p q : Rat} (h : p ≤ q) : mx p q = q := by unfold mx; split <;> grind
theorem rl_mn (p q : Rat) : rl (mn p q) ≤ max (rl p) (rl q) := by unfold mn; split <;> omega
theorem rl_mx (p q : Rat) : rl (mx p q) ≤ max (rl p) (rl q) := by unfold mx; split <;> omega

def inS (a : Rat × Rat) (x : Rat) : Prop := a.1 ≤ x ∧ x ≤ a.2
instance (a : Rat × Rat) (x : Rat) : Decidable (inS a x) := by unfold inS; exact inferInstance
def subS (a b : Rat × Rat) : Prop := inS b a.1 ∧ inS b a.2
instance (a b : Rat × Rat) : Decidable (subS a b) := by unfold subS; exact inferInstance
def around2 (p q : Rat) : Rat × Rat := (mn p q, mx p q)
theorem around2_le {p q : Rat} (h : p ≤ q) : around2 p q = (p, q) := by unfold around2; rw [mn_of_le h, mx_of_le h]
end Go.Proofs.YthhgfhdmfhnklaaGreatDoor
namespace Go.Proofs.YthhgfhdmfhnklaaGreatDoor
open Go.RowKit Go.ChangeShapes Go.WideShapes
theorem blen_one_iff (g : Nat) : blen g = 1 ↔ g = 1 := by
 constructor
 ·intro h
  have h0 : g ≠ 0 := fun e => by rw [e, blen_zero] at h; cases h
  have h1 := lt_two_blen g
  rw [h] at h1
  have : (2 : Nat) ^ 1 = 2 := rfl
  omega
 ·intro h; subst h; decide
theorem vld_tops {s : Bool} {a b : List Nat} (ha : 0 < a.length) (hb : 0 < b.length) : Vld s a b ↔ gd a (a.length - 1) ≠ 0 ∧ gd b (b.length - 1) ≠ 0 ∧ Nat.gcd (val a) (val b) = 1 := by
 have na : a ≠ [] := fun e => by rw [e] at ha; simp at ha
 have nb : b ≠ [] := fun e => by rw [e] at hb; simp at hb
 rw [vld_parts (fun h => na h.1)]
 unfold Clean
 constructor
 ·rintro ⟨⟨_, h1⟩, ⟨_, h2⟩, h3⟩
  exact ⟨h1.resolve_left na, h2.resolve_left nb, h3⟩
 ·rintro ⟨h1, h2, h3⟩
  exact ⟨⟨na, .inr h1⟩, ⟨nb, .inr h2⟩, h3⟩
theorem vld_half {s : Bool} {a b : List Nat} (h : a = [] ∧ b ≠ [] ∨ a ≠ [] ∧ b = []) : ¬ Vld s a b := by
 rintro (⟨h1, h2, _⟩ | ⟨h1, h2, _⟩)
 ·rcases h with ⟨_, h⟩ | ⟨h, _⟩
  ·exact h h2
  ·exact h h1
 ·rcases h with ⟨h, _⟩ | ⟨_, h⟩
  ·exact h1 h
  ·exact h2 h

theorem rvalid_any (v : Value) (s : Bool) (a b : List Nat) (w : World) (h : RatV w v s a b) (hla : a.length ≤ 400000) (hlb : b.length ≤ 400000) :
  Calls Tryz.prog 123 #[v] w (qea w (.bool (decide (Vld s a b)))) := by
 obtain ⟨va, vb, rfl, ha, hb⟩ := h
 obtain ⟨ao, ca, rfl, hca, hca2, _⟩ := ha.shape
 obtain ⟨bo, cb, rfl, hcb, hcb2, _⟩ := hb.shape
 have hbx : Below w.heap.size w (w.alloc (.cells #[.bool s, .slice ao a.length ca, .slice bo b.length cb] 54)) := (Below.refl _ _).alloc (Nat.le_refl _) _
 have HBX := qHd hbx
 by_cases h1 : a.length = 0
 ·obtain rfl := List.eq_nil_of_length_eq_zero h1
  by_cases h2 : b.length = 0
  ·obtain rfl := List.eq_nil_of_length_eq_zero h2
   have e : decide (Vld s [] []) = !s := by cases s <;> rfl
   rw [e]
   clear ha hb e hbx h1 h2
   go_enter Tryz.func123, Tryz.ntmps123
   go_wp2_with fail
   go_quiet (fail)
   go_wp2_with fail
   go_ret
   exact ⟨rfl, qbg HBX.out _⟩
  ·have hd : decide (Vld s [] b) = false := decide_eq_false (vld_half (.inl ⟨rfl, fun e => h2 (by rw [e]; rfl)⟩))
   rw [hd]
   have f1 : ((b.length : Int) == 0) = false := by rw [beq_eq_false_iff_ne]; omega
   clear ha hb hbx h1 h2 hd
   go_enter Tryz.func123, Tryz.ntmps123
   go_wp2_with fail
   go_quiet (fail)
   go_wp2_with fail
   go_ret
   exact ⟨rfl, qbg HBX.out _⟩
 ·have f0 : ((a.length : Int) == 0) = false := by rw [beq_eq_false_iff_ne]; omega
  by_cases h2 : b.length = 0
  ·obtain rfl := List.eq_nil_of_length_eq_zero h2
   have hd : decide (Vld s a []) = false := decide_eq_false (vld_half (.inr ⟨fun e => h1 (by rw [e]; rfl), rfl⟩))
   rw [hd]
   clear ha hb hbx h1 h2 hd
   go_enter Tryz.func123, Tryz.ntmps123
   go_wp2_with fail
   go_quiet (fail)
   go_wp2_with fail
   go_ret
   exact ⟨rfl, qbg HBX.out _⟩
  ·have f1 : ((b.length : Int) == 0) = false := by rw [beq_eq_false_iff_ne]; omega
   have hd : decide (Vld s a b) = decide (gd a (a.length - 1) ≠ 0 ∧ gd b (b.length - 1) ≠ 0 ∧ Nat.gcd (val a) (val b) = 1) := decide_eq_decide.2 (vld_tops (by omega) (by omega))
   rw [hd]
   have HA := qHd (ha.below hbx); have HB := qHd (hb.below hbx)
   obtain ⟨ba, fa, rfl, _, hca'⟩ := ha.at (by omega)
   obtain ⟨bb, fb, rfl, _, hcb'⟩ := hb.at (by omega)
   have hxl := ha.lt (a.length - 1)
   have hyl := hb.lt (b.length - 1)
   have hxc : ∀ n, ((w.alloc (.cells #[.bool s, .slice (some ⟨ba, fa, none⟩) a.length ca, .slice (some ⟨bb, fb, none⟩) b.length cb] 54)).drewN n).cell? ⟨ba, fa + (a.length - 1), none⟩ = some (.int .u32 (gd a (a.length - 1) : Nat)) := fun n => by
    obtain ⟨b', o', e', _, h'⟩ := (((ha.below hbx).below (qbg (Below.refl _ _) n))).at (by omega)
    cases e'
    exact h' _ (by omega)
   have hyc : ∀ n, ((w.alloc (.cells #[.bool s, .slice (some ⟨ba, fa, none⟩) a.length ca, .slice (some ⟨bb, fb, none⟩) b.length cb] 54)).drewN n).cell? ⟨bb, fb + (b.length - 1), none⟩ = some (.int .u32 (gd b (b.length - 1) : Nat)) := fun n => by
    obtain ⟨b', o', e', _, h'⟩ := (((hb.below hbx).below (qbg (Below.refl _ _) n))).at (by omega)
    cases e'
    exact h' _ (by omega)
   obtain ⟨x, hx⟩ : ∃ x, x = gd a (a.length - 1) := ⟨_, rfl⟩
   obtain ⟨y, hy⟩ : ∃ y, y = gd b (b.length - 1) := ⟨_, rfl⟩
   rw [← hx] at hxc hxl
   rw [← hy] at hyc hyl
   rw [← hx, ← hy]
   have HXC := qHd hxc; have HYC := qHd hyc
   have hl1 := qbp HA.out.lt
   have hg0 : x ≠ 0 → val a ≠ 0 := fun h e => by
    have := clean_eq HA.out.lt (.inr (by rw [← hx]; exact h))
    rw [e, qca] at this; rw [this] at h1; simp at h1
   have HG0 := qHd hg0
   clear ha hb hbx hd hx hy hca' hcb' hxc hyc hg0
   by_cases hx0 : x = 0
   ·subst hx0
    have hd : decide ((0 : Nat) ≠ 0 ∧ y ≠ 0 ∧ Nat.gcd (val a) (val b) = 1) = false := decide_eq_false fun h => h.1 rfl
    rw [hd]
    clear hd
    go_enter Tryz.func123, Tryz.ntmps123
    go_wp2_with fail
    go_quiet (fail)
    have hxc := HXC.out nq; have hyc := HYC.out nq
    go_wp2_with fail
    go_ret
    exact ⟨rfl, qbg HBX.out _⟩
   ·have fx : (bne (x : Int) 0) = true := by rw [bne_iff_ne]; omega
    by_cases hy0 : y = 0
    ·subst hy0
     have hd : decide (x ≠ 0 ∧ (0 : Nat) ≠ 0 ∧ Nat.gcd (val a) (val b) = 1) = false := decide_eq_false fun h => h.2.1 rfl
     rw [hd]
     clear hd
     go_enter Tryz.func123, Tryz.ntmps123
     go_wp2_with fail
     go_quiet (fail)
     have hxc := HXC.out nq; have hyc := HYC.out nq
     go_wp2_with fail
     go_ret
     exact ⟨rfl, qbg HBX.out _⟩
    ·have fy : (bne (y : Int) 0) = true := by rw [bne_iff_ne]; omega
     have hv0 := HG0.out hx0
     have hgl : (wd (Nat.gcd (val a) (val b))).length ≤ 400000 := by
      have h3 := qbk (Nat.le_of_dvd (Nat.pos_of_ne_zero hv0) (Nat.gcd_dvd_left (val a) (val b)))
      omega
     have hd : decide (x ≠ 0 ∧ y ≠ 0 ∧ Nat.gcd (val a) (val b) = 1) = decide (blen (Nat.gcd (val a) (val b)) = 1) := by
      rw [decide_eq_decide, blen_one_iff]; exact ⟨fun h => h.2.2, fun h => ⟨hx0, hy0, h⟩⟩
     rw [hd]
     have hg := fun n => rgcd_any _ _ _ _ _ (HA.out.below (qbg (Below.refl _ _) n)) (HB.out.below (qbg (Below.refl _ _) n)) (by omega) (by omega)
     obtain ⟨g, hge⟩ : ∃ g, g = Nat.gcd (val a) (val b) := ⟨_, rfl⟩
     rw [← hge] at hg hgl ⊢
     have HG := qHd hg
     clear hd hge hg hv0 hx0 hy0
     go_enter Tryz.func123, Tryz.ntmps123
     go_wp2_with fail
     go_quiet (fail)
     have hxc := HXC.out nq; have hyc := HYC.out nq
     go_wp2_with fail
     (with_reducible refine (HG.out _).mono ?_); rintro e w1 ⟨v1, l1, rfl, hb1, hn1, rfl⟩
     have hbi := rbits_any _ _ w1 hn1 (by omega)
     rw [qaz] at hbi
     obtain ⟨bl, hbl⟩ : ∃ bl, bl = blen g := ⟨_, rfl⟩
     rw [← hbl] at hbi
     have HBI := qHd hbi; have HB1 := qHd ((qbg HBX.out nq).step hb1); have HBL := qHd hbl
     clear hbi hn1 hb1 hbl hxc hyc
     by_cases hb1 : bl = 1
     ·subst hb1
      go_wp2_with fail
      (with_reducible refine HBI.out.mono ?_); rintro e w2 ⟨rfl, rfl⟩
      go_wp2_with fail
      go_ret
      exact ⟨by rw [decide_eq_true HBL.out.symm]; rfl, HB1.out⟩
     ·have hbz : ((bl : Int) == 1) = false := by rw [beq_eq_false_iff_ne]; omega
      go_wp2_with fail
      (with_reducible refine HBI.out.mono ?_); rintro e w2 ⟨rfl, rfl⟩
      go_wp2_with fail
      go_ret
      exact ⟨by rw [decide_eq_false (fun e => hb1 (HBL.out.trans e))]; first | rfl | (simp; done) | (simp [hbz]; done), HB1.out⟩
theorem num_one1 (w : World) : Num (w.alloc (.cells #[.int .u32 1] 156)) (.slice (some ⟨w.heap.size, 0, none⟩) 1 1) (wd 1) := by
 rw [wd_one (by decide) (by decide)]; exact num_one w 156 1 (by decide)
theorem qdj (v : Value) (q : Rat) (w : World) (h : qbs w v q) :
  Calls Tryz.prog 132 #[v] w (RetParts w q) := by
 obtain ⟨s, a, b, hv, rfl, hla, hlb⟩ := h
 obtain ⟨va, vb, rfl, ha, hb⟩ := hv
 obtain ⟨ao, ca, rfl, hca, hca2, _⟩ := ha.shape
 obtain ⟨bo, cb, rfl, hcb, hcb2, _⟩ := hb.shape
 have hbx : Below w.heap.size w (w.alloc (.cells #[.bool s, .slice ao a.length ca, .slice bo b.length cb] 54)) := (Below.refl _ _).alloc (Nat.le_refl _) _
 have hvl := rvalid_any _ s a b _ (⟨_, _, rfl, ha.below hbx, hb.below hbx⟩ : RatV (w.alloc (.cells #[.bool s, .slice ao a.length ca, .slice bo b.length cb] 54)) _ s a b) (by omega) (by omega)
 by_cases h0 : rq s a b = 0
 ·rw [h0]
  have hbad : decide (Vld s a b) = false ∨ decide (Vld s a b) = true ∧ a.length = 0 := by
   by_cases hv : Vld s a b
   ·right
    obtain ⟨_, e, _⟩ := vld_fields ha.lt hb.lt hv
    rw [h0, nn_zero, qca] at e
    exact ⟨decide_eq_true hv, by rw [e]; rfl⟩
   ·left; exact decide_eq_false hv
  have HBX := qHd hbx; clear hbx h0
  rcases hbad with hd | ⟨hd, hl⟩
  ·rw [hd] at hvl
   have HV := qHd hvl; clear hvl hd ha hb
   go_enter Tryz.func132, Tryz.ntmps132
   go_wp2_with fail
   (with_reducible refine HV.out.mono ?_); rintro e w1 ⟨rfl, hb1⟩
   go_wp2_with fail
   go_ret3
   exact ⟨_, _, rfl, (HBX.out.step hb1).alloc (HBX.out.step hb1).size _, by rw [nn_zero, qca]; exact Num.nil _, num_one1 _⟩
  ·rw [hd] at hvl
   have c1 := fun w1 (h : Below _ _ w1) => box_kept (w := w) (cs := #[.bool s, .slice ao a.length ca, .slice bo b.length cb]) (T := 54) (w1 := w1) h 1
   have C1 := qHd c1
   have HV := qHd hvl; have HL := qHd hl; clear hvl hd c1 ha hb hl
   go_enter Tryz.func132, Tryz.ntmps132
   go_wp2_with fail
   (with_reducible refine HV.out.mono ?_); rintro e w1 ⟨rfl, hb1⟩
   have c1 : w1.cell? ⟨w.heap.size, 1, none⟩ = some (.slice ao a.length ca) := C1.out w1 hb1
   rw [HL.out] at c1
   go_wp2_with fail
   go_ret3
   exact ⟨_, _, rfl, (HBX.out.step hb1).alloc (HBX.out.step hb1).size _, by rw [nn_zero, qca]; exact Num.nil _, num_one1 _⟩
 ·have hv : Vld s a b := Decidable.byContradiction fun h => h0 (rq_invalid h)
  obtain ⟨e1, e2, e3⟩ := vld_fields ha.lt hb.lt hv
  rw [dn_pos h0] at e3
  have hl : ((a.length : Int) == 0) = false := by
   rw [beq_eq_false_iff_ne]
   intro h
   have : a = [] := List.eq_nil_of_length_eq_zero (by omega)
   rw [e2] at this
   exact wd_ne (fun e => h0 (qfm.1 e)) this
  rw [decide_eq_true hv] at hvl
  have HE := qHd (And.intro e1 (And.intro e2 e3)); have HBX := qHd hbx; have HA := qHd (ha.below hbx); have HB := qHd (hb.below hbx); have HV := qHd hvl
  have bk := fun w1 (h : Below _ _ w1) j => box_kept (w := w) (cs := #[.bool s, .slice ao a.length ca, .slice bo b.length cb]) (T := 54) (w1 := w1) h j
  have BK := qHd bk
  clear e1 e2 e3 hbx ha hb hv hvl bk h0
  go_enter Tryz.func132, Tryz.ntmps132
  go_wp2_with fail
  (with_reducible refine HV.out.mono ?_); rintro e w1 ⟨rfl, hb1⟩
  have c0 : w1.cell? ⟨w.heap.size, 0, none⟩ = some (.bool s) := BK.out w1 hb1 0
  have c1 : w1.cell? ⟨w.heap.size, 1, none⟩ = some (.slice ao a.length ca) := BK.out w1 hb1 1
  have c2 : w1.cell? ⟨w.heap.size, 2, none⟩ = some (.slice bo b.length cb) := BK.out w1 hb1 2
  go_wp2_with fail
  go_quiet (fail)
  go_wp2_with fail
  go_ret3
  obtain ⟨e1, e2, e3⟩ := HE.out
  refine ⟨.slice ao a.length ca, .slice bo b.length cb, by rw [← e1]; rfl, qbg (HBX.out.step hb1) _, ?_, ?_⟩
  ·rw [← e2]; exact (HA.out.below hb1).below (qbg (Below.refl _ _) _)
  ·rw [← e3]; exact (HB.out.below hb1).below (qbg (Below.refl _ _) _)
section
variable {u v : Value} {m n : Nat} {w : World}
theorem raddN (h1 : Num w u (wd m)) (h2 : Num w v (wd n)) (l1 : (wd m).length ≤ 400000) (l2 : (wd n).length ≤ 400000) : Calls Tryz.prog 134 #[u, v] w (RetN w (m + n)) := by
 have h := radd_any u v _ _ w h1 h2 (by omega) (by omega)
 rw [qaz, qaz] at h; exact h.mono fun _ _ => RetNum.n
theorem rmulN (h1 : Num w u (wd m)) (h2 : Num w v (wd n)) (l1 : (wd m).length ≤ 400000) (l2 : (wd n).length ≤ 400000) : Calls Tryz.prog 133 #[u, v] w (RetN w (m * n)) := by
 have h := rmul_any u v _ _ w h1 h2 (by omega) (by omega)
 rw [qaz, qaz] at h; exact h.mono fun _ _ => RetNum.n
theorem rcmpN_ (h1 : Num w u (wd m)) (h2 : Num w v (wd n)) (l1 : (wd m).length ≤ 400000) (l2 : (wd n).length ≤ 400000) : Calls Tryz.prog 135 #[u, v] w (RetS w (.int .i64 (cmpN m n))) := by
 have h := rcmp_any u v _ _ w h1 h2 (by omega) (by omega)
 rw [qaz, qaz] at h; exact h
theorem rsubN (h1 : Num w u (wd m)) (h2 : Num w v (wd n)) (l1 : (wd m).length ≤ 400000) (l2 : (wd n).length ≤ 400000) (hle : n ≤ m) : Calls Tryz.prog 136 #[u, v] w (RetNE w (m - n) (.int .i64 0)) := by
 have h := rsub_ge u v _ _ w h1 h2 (by omega) (by omega) (by rw [qaz, qaz]; exact hle)
 rw [qaz, qaz] at h; exact h
theorem rfromN (s : Bool) (h1 : Num w u (wd m)) (h2 : Num w v (wd n)) (l1 : (wd m).length ≤ 400000) (l2 : (wd n).length ≤ 400000) : Calls Tryz.prog 107 #[.bool s, u, v] w (RetRE w (qm s m n) (.int .i64 (zc n : Nat))) := by
 have h := rfrom_any s u v _ _ w h1 h2 l1 l2
 rw [qaz, qaz] at h; exact h
end
theorem same_any (vp : Value) (p : Rat) (w : World) (hp : qbs w vp p)  :
  Calls Tryz.prog 158 #[vp] w (RetR w p) := by
 obtain ⟨sp, op, np, cp, ap, mp, dp, rfl⟩ := hp.shape
 have hlp := hp.rl
 have hb0 := (((Below.refl w.heap.size w).alloc (by first | (simp; done) | (simp; omega)) (.cells #[.bool sp, .slice op np cp, .slice ap mp dp] 54)).alloc (by first | (simp; done) | (simp; omega)) (.cells #[.bool false, .slice none 0 0, .slice none 0 0] 54))
 have hxp := nest2_0 w (.cells #[.bool sp, .slice op np cp, .slice ap mp dp] 54) (.cells #[.bool false, .slice none 0 0, .slice none 0 0] 54)
 have hxR := nest2_1 w (.cells #[.bool sp, .slice op np cp, .slice ap mp dp] 54) (.cells #[.bool false, .slice none 0 0, .slice none 0 0] 54)
 have hpp := hp.below hb0
 obtain ⟨w0, hw0⟩ : ∃ w0, w0 = ((w.alloc (.cells #[.bool sp, .slice op np cp, .slice ap mp dp] 54)).alloc (.cells #[.bool false, .slice none 0 0, .slice none 0 0] 54)) := ⟨_, rfl⟩
 rw [← hw0] at hb0 hxp hxR hpp
 have HB0 := qHd hb0; have HW0 := qHd hw0
 have BXp := qHd hxp
 have BXR := qHd hxR
 have Fp := qHd hpp
 clear hb0 hw0 hxp hxR hpp hp
 have l1 := rl_n p; have l2 := rl_d p
 go_enter Tryz.func158, Tryz.ntmps158
 have hs := qcu _ p w0 Fp.out
 have HS := qHd hs; clear hs
 go_wp2_with fail
 rw [← HW0.out]
 (with_reducible refine HS.out.mono ?_); rintro e w1 ⟨v1, u1, rfl, hb1, hn1, hm1⟩
 clear HS
 have HB1 := qHd (HB0.out.step hb1)
 have Fp := qHd (Fp.out.below hb1)
 have BXp := qHd (qaa BXp.out hb1)
 have BXR := qHd (qaa BXR.out hb1)
 have N := qHd hn1
 have D := qHd hm1
 clear hn1 hm1
 clear hb1
 have hs := formN (ng p) N.out D.out (by omega) (by omega) p.den_nz
 rw [qm_self] at hs
 have HS := qHd hs; clear hs
 go_wp2_with fail
 (with_reducible refine HS.out.mono ?_); rintro e w2 ⟨v2, rfl, hb2, hn2⟩
 clear HS
 have HB2 := qHd (HB1.out.step hb2)
 have Fp := qHd (Fp.out.below hb2)
 have N := qHd (N.out.below hb2)
 have D := qHd (D.out.below hb2)
 have BXp := qHd (qaa BXp.out hb2)
 have BXR := qHd (qaa BXR.out hb2)
 have Q := qHd hn2; clear hn2
 clear hb2
 obtain ⟨sQ, oQ, nQ, cQ, aQ, mQ, dQ, rfl⟩ := Q.out.shape
 obtain ⟨eR0, eR1, eR2⟩ := qay BXR.out
 obtain ⟨fR0, fR1, fR2⟩ := froz3 BXR.out
 go_wp2_with fail
 clear eR0 eR1 eR2 fR0 fR1 fR2
 refine qde rfl (w.heap.size + 1) _ _ _ rfl (qcf BXR.out) rfl ?_
 exact ⟨_, rfl, qbt HB2.out (by omega) _ _ _, qdx Q.out BXR.out⟩
theorem sign_any (vp : Value) (p : Rat) (w : World) (hp : qbs w vp p)  :
  Calls Tryz.prog 66 #[vp] w (qea w (.int .i64 (sg p))) := by
 obtain ⟨sp, op, np, cp, ap, mp, dp, rfl⟩ := hp.shape
 have hlp := hp.rl
 rw [sg_eq]
 have hb0 := ((Below.refl w.heap.size w).alloc (by first | (simp; done) | (simp; omega)) (.cells #[.bool sp, .slice op np cp, .slice ap mp dp] 54))
 have hxp := qfl w (.cells #[.bool sp, .slice op np cp, .slice ap mp dp] 54)
 have hpp := hp.below hb0
 obtain ⟨w0, hw0⟩ : ∃ w0, w0 = (w.alloc (.cells #[.bool sp, .slice op np cp, .slice ap mp dp] 54)) := ⟨_, rfl⟩
 rw [← hw0] at hb0 hxp hpp
 have HB0 := qHd hb0; have HW0 := qHd hw0
 have BXp := qHd hxp
 have Fp := qHd hpp
 clear hb0 hw0 hxp hpp hp
 by_cases h0 : nn p = 0
 ·rw [if_pos h0]
  have H0 := qHd h0; clear h0
  go_enter Tryz.func66, Tryz.ntmps66
  have hs := qcu _ p w0 Fp.out
  have HS := qHd hs; clear hs
  go_wp2_with fail
  rw [← HW0.out]
  (with_reducible refine HS.out.mono ?_); rintro e w1 ⟨v1, u1, rfl, hb1, hn1, hm1⟩
  clear HS
  rw [H0.out, qca] at hn1
  obtain ⟨no, nc, rfl, _, _, _⟩ := hn1.shape
  have HB1 := qHd (HB0.out.step hb1)
  have Fp := qHd (Fp.out.below hb1)
  have BXp := qHd (qaa BXp.out hb1)
  have N := qHd hn1
  have D := qHd hm1
  clear hn1 hm1
  clear hb1
  go_wp2_with fail
  go_ret
  exact ⟨rfl, HB1.out⟩
 ·rw [if_neg h0]
  have hz : (((wd (nn p)).length : Int) == 0) = false := by rw [beq_eq_false_iff_ne]; intro h; exact wd_ne h0 (List.eq_nil_of_length_eq_zero (by omega))
  obtain ⟨L, hL⟩ : ∃ L, L = (wd (nn p)).length := ⟨_, rfl⟩
  rw [← hL] at hz
  have HL := qHd hL; clear hL h0
  obtain ⟨x, hx⟩ : ∃ x, x = ng p := ⟨_, rfl⟩
  rw [← hx]
  have HX := qHd hx; clear hx
  cases x
  ·go_enter Tryz.func66, Tryz.ntmps66
   have hs := qcu _ p w0 Fp.out
   have HS := qHd hs; clear hs
   go_wp2_with fail
   rw [← HW0.out]
   (with_reducible refine HS.out.mono ?_); rintro e w1 ⟨v1, u1, rfl, hb1, hn1, hm1⟩
   clear HS
   rw [← HX.out]
   obtain ⟨no, nc, rfl, _, _, _⟩ := hn1.shape
   rw [← HL.out]
   have HB1 := qHd (HB0.out.step hb1)
   have Fp := qHd (Fp.out.below hb1)
   have BXp := qHd (qaa BXp.out hb1)
   have N := qHd hn1
   have D := qHd hm1
   clear hn1 hm1
   clear hb1
   go_wp2_with fail
   go_ret
   exact ⟨rfl, HB1.out⟩
  ·go_enter Tryz.func66, Tryz.ntmps66
   have hs := qcu _ p w0 Fp.out
   have HS := qHd hs; clear hs
   go_wp2_with fail
   rw [← HW0.out]
   (with_reducible refine HS.out.mono ?_); rintro e w1 ⟨v1, u1, rfl, hb1, hn1, hm1⟩
   clear HS
   rw [← HX.out]
   obtain ⟨no, nc, rfl, _, _, _⟩ := hn1.shape
   rw [← HL.out]
   have HB1 := qHd (HB0.out.step hb1)
   have Fp := qHd (Fp.out.below hb1)
   have BXp := qHd (qaa BXp.out hb1)
   have N := qHd hn1
   have D := qHd hm1
   clear hn1 hm1
   clear hb1
   go_wp2_with fail
   go_ret
   exact ⟨rfl, HB1.out⟩
theorem qfi (vp : Value) (p : Rat) (vq : Value) (q : Rat) (w : World) (hp : qbs w vp p) (hq : qbs w vq q) (hlp2 : rl p ≤ 40000) (hlq2 : rl q ≤ 40000)  :
  Calls Tryz.prog 32 #[vp, vq] w (qea w (.int .i64 (cq p q))) := by
 obtain ⟨sp, op, np, cp, ap, mp, dp, rfl⟩ := hp.shape
 have hlp := hp.rl
 obtain ⟨sq, oq, nq, cq, aq, mq, dq, rfl⟩ := hq.shape
 have hlq := hq.rl
 have hb0 := (((Below.refl w.heap.size w).alloc (by first | (simp; done) | (simp; omega)) (.cells #[.bool sp, .slice op np cp, .slice ap mp dp] 54)).alloc (by first | (simp; done) | (simp; omega)) (.cells #[.bool sq, .slice oq nq cq, .slice aq mq dq] 54))
 have hxp := nest2_0 w (.cells #[.bool sp, .slice op np cp, .slice ap mp dp] 54) (.cells #[.bool sq, .slice oq nq cq, .slice aq mq dq] 54)
 have hxq := nest2_1 w (.cells #[.bool sp, .slice op np cp, .slice ap mp dp] 54) (.cells #[.bool sq, .slice oq nq cq, .slice aq mq dq] 54)
 have hpp := hp.below hb0
 have hpq := hq.below hb0
 obtain ⟨w0, hw0⟩ : ∃ w0, w0 = ((w.alloc (.cells #[.bool sp, .slice op np cp, .slice ap mp dp] 54)).alloc (.cells #[.bool sq, .slice oq nq cq, .slice aq mq dq] 54)) := ⟨_, rfl⟩
 rw [← hw0] at hb0 hxp hxq hpp hpq
 have HB0 := qHd hb0; have HW0 := qHd hw0
 have BXp := qHd hxp
 have BXq := qHd hxq
 have Fp := qHd hpp
 have Fq := qHd hpq
 clear hb0 hw0 hxp hxq hpp hp hpq hq
 have hr := rl_sub p q
 have hlp2 : rl p ≤ 40000 := hlp2; have hlq2 : rl q ≤ 40000 := hlq2
 go_enter Tryz.func32, Tryz.ntmps32
 have hs := subq_any _ p _ q w0 Fp.out Fq.out
 have HS := qHd hs; clear hs
 go_wp2_with fail
 rw [← HW0.out]
 (with_reducible refine HS.out.mono ?_); rintro e w1 ⟨v1, rfl, hb1, hn1⟩
 clear HS
 have HB1 := qHd (HB0.out.step hb1)
 have Fp := qHd (Fp.out.below hb1)
 have Fq := qHd (Fq.out.below hb1)
 have BXp := qHd (qaa BXp.out hb1)
 have BXq := qHd (qaa BXq.out hb1)
 have S := qHd hn1; clear hn1
 clear hb1
 have SI := qHd (S.out.is (by omega))
 obtain ⟨sS, oS, nS, cS, aS, mS, dS, rfl⟩ := S.out.shape
 have hs := sign_any _ (p - q) w1 SI.out
 rw [sg_sub] at hs
 have HS := qHd hs; clear hs
 go_wp2_with fail
 (with_reducible refine HS.out.mono ?_); rintro e w2 ⟨rfl, hb2⟩
 clear HS
 have HB2 := qHd (HB1.out.step hb2)
 have Fp := qHd (Fp.out.below hb2)
 have Fq := qHd (Fq.out.below hb2)
 have S := qHd (S.out.below hb2)
 have SI := qHd (SI.out.below hb2)
 have BXp := qHd (qaa BXp.out hb2)
 have BXq := qHd (qaa BXq.out hb2)
 clear hb2
 go_wp2_with fail
 go_ret
 exact ⟨rfl, HB2.out⟩
theorem rl_small {n : Int} (h0 : -9223372036854775808 ≤ n) (h1 : n < 9223372036854775808) : rl (n : Rat) ≤ 2 := by
 rw [rl_int]; have := wd_small (n := n.natAbs) (by omega); omega
theorem rfromK {u v : Value} {m n : Nat} {w : World} (s : Bool) (h1 : Num w u (wd m)) (h2 : Num w v (wd n)) (l1 : (wd m).length ≤ 400000) (l2 : (wd n).length ≤ 400000) (h0 : n ≠ 0) :
  Calls Tryz.prog 107 #[.bool s, u, v] w (RetRE w (qm s m n) (.int .i64 0)) := by
 have h := rfromN s h1 h2 l1 l2
 unfold zc at h; rw [if_neg h0] at h; exact h
theorem rneg_any (vp : Value) (p : Rat) (w : World) (hp : qbs w vp p)  :
  Calls Tryz.prog 97 #[vp] w (RetR w (-p)) := by
 obtain ⟨sp, op, np, cp, ap, mp, dp, rfl⟩ := hp.shape
 have hlp := hp.rl
 have hb0 := (((Below.refl w.heap.size w).alloc (by first | (simp; done) | (simp; omega)) (.cells #[.bool sp, .slice op np cp, .slice ap mp dp] 54)).alloc (by first | (simp; done) | (simp; omega)) (.cells #[.bool false, .slice none 0 0, .slice none 0 0] 54))
 have hxp := nest2_0 w (.cells #[.bool sp, .slice op np cp, .slice ap mp dp] 54) (.cells #[.bool false, .slice none 0 0, .slice none 0 0] 54)
 have hxR := nest2_1 w (.cells #[.bool sp, .slice op np cp, .slice ap mp dp] 54) (.cells #[.bool false, .slice none 0 0, .slice none 0 0] 54)
 have hpp := hp.below hb0
 obtain ⟨w0, hw0⟩ : ∃ w0, w0 = ((w.alloc (.cells #[.bool sp, .slice op np cp, .slice ap mp dp] 54)).alloc (.cells #[.bool false, .slice none 0 0, .slice none 0 0] 54)) := ⟨_, rfl⟩
 rw [← hw0] at hb0 hxp hxR hpp
 have HB0 := qHd hb0; have HW0 := qHd hw0
 have BXp := qHd hxp
 have BXR := qHd hxR
 have Fp := qHd hpp
 clear hb0 hw0 hxp hxR hpp hp
 have l1 := rl_n p; have l2 := rl_d p
 go_enter Tryz.func97, Tryz.ntmps97
 have hs := qdj _ p w0 Fp.out
 have HS := qHd hs; clear hs
 go_wp2_with fail
 rw [← HW0.out]
 (with_reducible refine HS.out.mono ?_); rintro e w1 ⟨v1, u1, rfl, hb1, hn1, hm1⟩
 clear HS
 have HB1 := qHd (HB0.out.step hb1)
 have Fp := qHd (Fp.out.below hb1)
 have BXp := qHd (qaa BXp.out hb1)
 have BXR := qHd (qaa BXR.out hb1)
 have N := qHd hn1
 have D := qHd hm1
 clear hn1 hm1
 clear hb1
 have hs := rfromK (!ng p) N.out D.out (by omega) (by omega) p.den_nz
 rw [q_neg] at hs
 have HS := qHd hs; clear hs
 go_wp2_with fail
 (with_reducible refine HS.out.mono ?_); rintro e w2 ⟨v2, rfl, hb2, hn2⟩
 clear HS
 have HB2 := qHd (HB1.out.step hb2)
 have Fp := qHd (Fp.out.below hb2)
 have N := qHd (N.out.below hb2)
 have D := qHd (D.out.below hb2)
 have BXp := qHd (qaa BXp.out hb2)
 have BXR := qHd (qaa BXR.out hb2)
 have Q := qHd hn2; clear hn2
 clear hb2
 obtain ⟨sQ, oQ, nQ, cQ, aQ, mQ, dQ, rfl⟩ := Q.out.shape
 have hal : Below w2.heap.size w2 (w2.alloc (.cells #[.bool sQ, .slice oQ nQ cQ, .slice aQ mQ dQ] 54)) := (Below.refl _ _).alloc (Nat.le_refl _) _
 have HXA := qHd (qaa BXR.out hal); have HAL := qHd hal; clear hal
 obtain ⟨eR0, eR1, eR2⟩ := qay HXA.out
 obtain ⟨fR0, fR1, fR2⟩ := froz3 HXA.out
 go_wp2_with fail
 refine qde rfl (w.heap.size + 1) _ _ _ rfl (qcf HXA.out) rfl ?_
 exact ⟨_, rfl, qbt (HB2.out.step HAL.out) (by omega) _ _ _, qdx (Q.out.below HAL.out) HXA.out⟩
theorem radd_same (vp : Value) (p : Rat) (vq : Value) (q : Rat) (w : World) (hp : qbs w vp p) (hq : qbs w vq q) (hs : ng p = ng q) :
  Calls Tryz.prog 96 #[vp, vq] w (RetR w (p + q)) := by
 obtain ⟨sp, op, np, cp, ap, mp, dp, rfl⟩ := hp.shape
 have hlp := hp.rl
 obtain ⟨sq, oq, nq, cq, aq, mq, dq, rfl⟩ := hq.shape
 have hlq := hq.rl
 have hb0 := ((((Below.refl w.heap.size w).alloc (by first | (simp; done) | (simp; omega)) (.cells #[.bool sp, .slice op np cp, .slice ap mp dp] 54)).alloc (by first | (simp; done) | (simp; omega)) (.cells #[.bool sq, .slice oq nq cq, .slice aq mq dq] 54)).alloc (by first | (simp; done) | (simp; omega)) (.cells #[.bool false, .slice none 0 0, .slice none 0 0] 54))
 have hxp := qfw w (.cells #[.bool sp, .slice op np cp, .slice ap mp dp] 54) (.cells #[.bool sq, .slice oq nq cq, .slice aq mq dq] 54) (.cells #[.bool false, .slice none 0 0, .slice none 0 0] 54)
 have hxq := qfv w (.cells #[.bool sp, .slice op np cp, .slice ap mp dp] 54) (.cells #[.bool sq, .slice oq nq cq, .slice aq mq dq] 54) (.cells #[.bool false, .slice none 0 0, .slice none 0 0] 54)
 have hxR := qfu w (.cells #[.bool sp, .slice op np cp, .slice ap mp dp] 54) (.cells #[.bool sq, .slice oq nq cq, .slice aq mq dq] 54) (.cells #[.bool false, .slice none 0 0, .slice none 0 0] 54)
 have hpp := hp.below hb0
 have hpq := hq.below hb0
 obtain ⟨w0, hw0⟩ : ∃ w0, w0 = (((w.alloc (.cells #[.bool sp, .slice op np cp, .slice ap mp dp] 54)).alloc (.cells #[.bool sq, .slice oq nq cq, .slice aq mq dq] 54)).alloc (.cells #[.bool false, .slice none 0 0, .slice none 0 0] 54)) := ⟨_, rfl⟩
 rw [← hw0] at hb0 hxp hxq hxR hpp hpq
 have HB0 := qHd hb0; have HW0 := qHd hw0
 have BXp := qHd hxp
 have BXq := qHd hxq
 have BXR := qHd hxR
 have Fp := qHd hpp
 have Fq := qHd hpq
 clear hb0 hw0 hxp hxq hxR hpp hp hpq hq
 have l1 := rl_n p; have l2 := rl_d p; have l3 := rl_n q; have l4 := rl_d q
 have L1 : (wd (nn p * q.den)).length ≤ 200000 := by have := qbn (nn p) q.den; omega
 have L2 : (wd (nn q * p.den)).length ≤ 200000 := by have := qbn (nn q) p.den; omega
 have L3 : (wd (p.den * q.den)).length ≤ 200000 := by have := qbn p.den q.den; omega
 have heq := q_add_same p q hs
 have HEQ := qHd heq; clear heq
 have L4 : (wd (nn p * q.den + nn q * p.den)).length ≤ 200001 := by have := wd_add_len (nn p * q.den) (nn q * p.den); omega
 have f1 : (ng p == ng q) = true := by rw [beq_iff_eq]; exact hs
 obtain ⟨x, hx⟩ : ∃ x, x = ng p := ⟨_, rfl⟩; obtain ⟨y, hy⟩ : ∃ y, y = ng q := ⟨_, rfl⟩
 rw [← hx, ← hy] at f1
 have HX := qHd hx; have HY := qHd hy; clear hx hy hs
 go_enter Tryz.func96, Tryz.ntmps96
 have hs := qdj _ p w0 Fp.out
 have HS := qHd hs; clear hs
 go_wp2_with fail
 rw [← HW0.out]
 (with_reducible refine HS.out.mono ?_); rintro e w1 ⟨v1, u1, rfl, hb1, hn1, hm1⟩
 clear HS
 have HB1 := qHd (HB0.out.step hb1)
 have Fp := qHd (Fp.out.below hb1)
 have Fq := qHd (Fq.out.below hb1)
 have BXp := qHd (qaa BXp.out hb1)
 have BXq := qHd (qaa BXq.out hb1)
 have BXR := qHd (qaa BXR.out hb1)
 have N := qHd hn1
 have D := qHd hm1
 clear hn1 hm1
 clear hb1
 rw [← HX.out]
 have hs := qdj _ q w1 Fq.out
 have HS := qHd hs; clear hs
 obtain ⟨eq0, eq1, eq2⟩ := qay BXq.out
 go_wp2_with fail
 (with_reducible refine HS.out.mono ?_); rintro e w2 ⟨v2, u2, rfl, hb2, hn2, hm2⟩
 clear HS
 have HB2 := qHd (HB1.out.step hb2)
 have Fp := qHd (Fp.out.below hb2)
 have Fq := qHd (Fq.out.below hb2)
 have N := qHd (N.out.below hb2)
 have D := qHd (D.out.below hb2)
 have BXp := qHd (qaa BXp.out hb2)
 have BXq := qHd (qaa BXq.out hb2)
 have BXR := qHd (qaa BXR.out hb2)
 have M := qHd hn2
 have E := qHd hm2
 clear hn2 hm2
 clear hb2
 rw [← HY.out]
 have hs := rmulN N.out E.out (by omega) (by omega)
 have HS := qHd hs; clear hs
 go_wp2_with fail
 (with_reducible refine HS.out.mono ?_); rintro e w3 ⟨v3, rfl, hb3, hn3⟩
 clear HS
 have HB3 := qHd (HB2.out.step hb3)
 have Fp := qHd (Fp.out.below hb3)
 have Fq := qHd (Fq.out.below hb3)
 have N := qHd (N.out.below hb3)
 have D := qHd (D.out.below hb3)
 have M := qHd (M.out.below hb3)
 have E := qHd (E.out.below hb3)
 have BXp := qHd (qaa BXp.out hb3)
 have BXq := qHd (qaa BXq.out hb3)
 have BXR := qHd (qaa BXR.out hb3)
 have X := qHd hn3; clear hn3
 clear hb3
 have hs := rmulN M.out D.out (by omega) (by omega)
 have HS := qHd hs; clear hs
 go_wp2_with fail
 (with_reducible refine HS.out.mono ?_); rintro e w4 ⟨v4, rfl, hb4, hn4⟩
 clear HS
 have HB4 := qHd (HB3.out.step hb4)
 have Fp := qHd (Fp.out.below hb4)
 have Fq := qHd (Fq.out.below hb4)
 have N := qHd (N.out.below hb4)
 have D := qHd (D.out.below hb4)
 have M := qHd (M.out.below hb4)
 have E := qHd (E.out.below hb4)
 have X := qHd (X.out.below hb4)
 have BXp := qHd (qaa BXp.out hb4)
 have BXq := qHd (qaa BXq.out hb4)
 have BXR := qHd (qaa BXR.out hb4)
 have Y := qHd hn4; clear hn4
 clear hb4
 have hs := rmulN D.out E.out (by omega) (by omega)
 have HS := qHd hs; clear hs
 go_wp2_with fail
 (with_reducible refine HS.out.mono ?_); rintro e w5 ⟨v5, rfl, hb5, hn5⟩
 clear HS
 have HB5 := qHd (HB4.out.step hb5)
 have Fp := qHd (Fp.out.below hb5)
 have Fq := qHd (Fq.out.below hb5)
 have N := qHd (N.out.below hb5)
 have D := qHd (D.out.below hb5)
 have M := qHd (M.out.below hb5)
 have E := qHd (E.out.below hb5)
 have X := qHd (X.out.below hb5)
 have Y := qHd (Y.out.below hb5)
 have BXp := qHd (qaa BXp.out hb5)
 have BXq := qHd (qaa BXq.out hb5)
 have BXR := qHd (qaa BXR.out hb5)
 have DE := qHd hn5; clear hn5
 clear hb5
 have hs := raddN X.out Y.out (by omega) (by omega)
 have HS := qHd hs; clear hs
 go_wp2_with fail
 (with_reducible refine HS.out.mono ?_); rintro e w6 ⟨v6, rfl, hb6, hn6⟩
 clear HS
 have HB6 := qHd (HB5.out.step hb6)
 have Fp := qHd (Fp.out.below hb6)
 have Fq := qHd (Fq.out.below hb6)
 have N := qHd (N.out.below hb6)
 have D := qHd (D.out.below hb6)
 have M := qHd (M.out.below hb6)
 have E := qHd (E.out.below hb6)
 have X := qHd (X.out.below hb6)
 have Y := qHd (Y.out.below hb6)
 have DE := qHd (DE.out.below hb6)
 have BXp := qHd (qaa BXp.out hb6)
 have BXq := qHd (qaa BXq.out hb6)
 have BXR := qHd (qaa BXR.out hb6)
 have S := qHd hn6; clear hn6
 clear hb6
 have hs := rfromK x S.out DE.out (by omega) (by omega) (qeg p.den_nz q.den_nz)
 have HS := qHd hs; clear hs
 go_wp2_with fail
 (with_reducible refine HS.out.mono ?_); rintro e w7 ⟨v7, rfl, hb7, hn7⟩
 clear HS
 have HB7 := qHd (HB6.out.step hb7)
 have Fp := qHd (Fp.out.below hb7)
 have Fq := qHd (Fq.out.below hb7)
 have N := qHd (N.out.below hb7)
 have D := qHd (D.out.below hb7)
 have M := qHd (M.out.below hb7)
 have E := qHd (E.out.below hb7)
 have X := qHd (X.out.below hb7)
 have Y := qHd (Y.out.below hb7)
 have DE := qHd (DE.out.below hb7)
 have S := qHd (S.out.below hb7)
 have BXp := qHd (qaa BXp.out hb7)
 have BXq := qHd (qaa BXq.out hb7)
 have BXR := qHd (qaa BXR.out hb7)
 have Q := qHd hn7; clear hn7
 clear hb7
 have hq := Q.out; rw [HX.out, HEQ.out] at hq; have Q := qHd hq; clear hq
 obtain ⟨sQ, oQ, nQ, cQ, aQ, mQ, dQ, rfl⟩ := Q.out.shape
 have hal : Below w7.heap.size w7 (w7.alloc (.cells #[.bool sQ, .slice oQ nQ cQ, .slice aQ mQ dQ] 54)) := (Below.refl _ _).alloc (Nat.le_refl _) _
 have HXA := qHd (qaa BXR.out hal); have HAL := qHd hal; clear hal
 obtain ⟨eR0, eR1, eR2⟩ := qay HXA.out
 obtain ⟨fR0, fR1, fR2⟩ := froz3 HXA.out
 go_wp2_with fail
 refine qde rfl (w.heap.size + 2) _ _ _ rfl (qcf HXA.out) rfl ?_
 exact ⟨_, rfl, qbt (HB7.out.step HAL.out) (by omega) _ _ _, qdx (Q.out.below HAL.out) HXA.out⟩
theorem radd_diff (vp : Value) (p : Rat) (vq : Value) (q : Rat) (w : World) (hp : qbs w vp p) (hq : qbs w vq q) (hs : ng p ≠ ng q) (hle : nn q * p.den ≤ nn p * q.den) :
  Calls Tryz.prog 96 #[vp, vq] w (RetR w (p + q)) := by
 obtain ⟨sp, op, np, cp, ap, mp, dp, rfl⟩ := hp.shape
 have hlp := hp.rl
 obtain ⟨sq, oq, nq, cq, aq, mq, dq, rfl⟩ := hq.shape
 have hlq := hq.rl
 have hb0 := ((((Below.refl w.heap.size w).alloc (by first | (simp; done) | (simp; omega)) (.cells #[.bool sp, .slice op np cp, .slice ap mp dp] 54)).alloc (by first | (simp; done) | (simp; omega)) (.cells #[.bool sq, .slice oq nq cq, .slice aq mq dq] 54)).alloc (by first | (simp; done) | (simp; omega)) (.cells #[.bool false, .slice none 0 0, .slice none 0 0] 54))
 have hxp := qfw w (.cells #[.bool sp, .slice op np cp, .slice ap mp dp] 54) (.cells #[.bool sq, .slice oq nq cq, .slice aq mq dq] 54) (.cells #[.bool false, .slice none 0 0, .slice none 0 0] 54)
 have hxq := qfv w (.cells #[.bool sp, .slice op np cp, .slice ap mp dp] 54) (.cells #[.bool sq, .slice oq nq cq, .slice aq mq dq] 54) (.cells #[.bool false, .slice none 0 0, .slice none 0 0] 54)
 have hxR := qfu w (.cells #[.bool sp, .slice op np cp, .slice ap mp dp] 54) (.cells #[.bool sq, .slice oq nq cq, .slice aq mq dq] 54) (.cells #[.bool false, .slice none 0 0, .slice none 0 0] 54)
 have hpp := hp.below hb0
 have hpq := hq.below hb0
 obtain ⟨w0, hw0⟩ : ∃ w0, w0 = (((w.alloc (.cells #[.bool sp, .slice op np cp, .slice ap mp dp] 54)).alloc (.cells #[.bool sq, .slice oq nq cq, .slice aq mq dq] 54)).alloc (.cells #[.bool false, .slice none 0 0, .slice none 0 0] 54)) := ⟨_, rfl⟩
 rw [← hw0] at hb0 hxp hxq hxR hpp hpq
 have HB0 := qHd hb0; have HW0 := qHd hw0
 have BXp := qHd hxp
 have BXq := qHd hxq
 have BXR := qHd hxR
 have Fp := qHd hpp
 have Fq := qHd hpq
 clear hb0 hw0 hxp hxq hxR hpp hp hpq hq
 have l1 := rl_n p; have l2 := rl_d p; have l3 := rl_n q; have l4 := rl_d q
 have L1 : (wd (nn p * q.den)).length ≤ 200000 := by have := qbn (nn p) q.den; omega
 have L2 : (wd (nn q * p.den)).length ≤ 200000 := by have := qbn (nn q) p.den; omega
 have L3 : (wd (p.den * q.den)).length ≤ 200000 := by have := qbn p.den q.den; omega
 have heq := q_add_diff p q hs hle
 have HEQ := qHd heq; clear heq
 have f1 : (ng p == ng q) = false := by rw [beq_eq_false_iff_ne]; exact hs
 obtain ⟨c, hc⟩ : ∃ c, c = cmpN (nn p * q.den) (nn q * p.den) := ⟨_, rfl⟩
 have L4 : (wd (nn p * q.den - nn q * p.den)).length ≤ 200000 := by exact Nat.le_trans (qbk (Nat.sub_le _ _)) L1
 have f2 : decide (c < 0) = false := by rw [hc, decide_eq_false_iff_not]; unfold cmpN; rw [if_neg (by omega)]; split <;> decide
 have HC := qHd hc; have HLE := qHd hle; clear hc hle
 obtain ⟨x, hx⟩ : ∃ x, x = ng p := ⟨_, rfl⟩; obtain ⟨y, hy⟩ : ∃ y, y = ng q := ⟨_, rfl⟩
 rw [← hx, ← hy] at f1
 have HX := qHd hx; have HY := qHd hy; clear hx hy hs
 go_enter Tryz.func96, Tryz.ntmps96
 have hs := qdj _ p w0 Fp.out
 have HS := qHd hs; clear hs
 go_wp2_with fail
 rw [← HW0.out]
 (with_reducible refine HS.out.mono ?_); rintro e w1 ⟨v1, u1, rfl, hb1, hn1, hm1⟩
 clear HS
 have HB1 := qHd (HB0.out.step hb1)
 have Fp := qHd (Fp.out.below hb1)
 have Fq := qHd (Fq.out.below hb1)
 have BXp := qHd (qaa BXp.out hb1)
 have BXq := qHd (qaa BXq.out hb1)
 have BXR := qHd (qaa BXR.out hb1)
 have N := qHd hn1
 have D := qHd hm1
 clear hn1 hm1
 clear hb1
 rw [← HX.out]
 have hs := qdj _ q w1 Fq.out
 have HS := qHd hs; clear hs
 obtain ⟨eq0, eq1, eq2⟩ := qay BXq.out
 go_wp2_with fail
 (with_reducible refine HS.out.mono ?_); rintro e w2 ⟨v2, u2, rfl, hb2, hn2, hm2⟩
 clear HS
 have HB2 := qHd (HB1.out.step hb2)
 have Fp := qHd (Fp.out.below hb2)
 have Fq := qHd (Fq.out.below hb2)
 have N := qHd (N.out.below hb2)
 have D := qHd (D.out.below hb2)
 have BXp := qHd (qaa BXp.out hb2)
 have BXq := qHd (qaa BXq.out hb2)
 have BXR := qHd (qaa BXR.out hb2)
 have M := qHd hn2
 have E := qHd hm2
 clear hn2 hm2
 clear hb2
 rw [← HY.out]
 have hs := rmulN N.out E.out (by omega) (by omega)
 have HS := qHd hs; clear hs
 go_wp2_with fail
 (with_reducible refine HS.out.mono ?_); rintro e w3 ⟨v3, rfl, hb3, hn3⟩
 clear HS
 have HB3 := qHd (HB2.out.step hb3)
 have Fp := qHd (Fp.out.below hb3)
 have Fq := qHd (Fq.out.below hb3)
 have N := qHd (N.out.below hb3)
 have D := qHd (D.out.below hb3)
 have M := qHd (M.out.below hb3)
 have E := qHd (E.out.below hb3)
 have BXp := qHd (qaa BXp.out hb3)
 have BXq := qHd (qaa BXq.out hb3)
 have BXR := qHd (qaa BXR.out hb3)
 have X := qHd hn3; clear hn3
 clear hb3
 have hs := rmulN M.out D.out (by omega) (by omega)
 have HS := qHd hs; clear hs
 go_wp2_with fail
 (with_reducible refine HS.out.mono ?_); rintro e w4 ⟨v4, rfl, hb4, hn4⟩
 clear HS
 have HB4 := qHd (HB3.out.step hb4)
 have Fp := qHd (Fp.out.below hb4)
 have Fq := qHd (Fq.out.below hb4)
 have N := qHd (N.out.below hb4)
 have D := qHd (D.out.below hb4)
 have M := qHd (M.out.below hb4)
 have E := qHd (E.out.below hb4)
 have X := qHd (X.out.below hb4)
 have BXp := qHd (qaa BXp.out hb4)
 have BXq := qHd (qaa BXq.out hb4)
 have BXR := qHd (qaa BXR.out hb4)
 have Y := qHd hn4; clear hn4
 clear hb4
 have hs := rmulN D.out E.out (by omega) (by omega)
 have HS := qHd hs; clear hs
 go_wp2_with fail
 (with_reducible refine HS.out.mono ?_); rintro e w5 ⟨v5, rfl, hb5, hn5⟩
 clear HS
 have HB5 := qHd (HB4.out.step hb5)
 have Fp := qHd (Fp.out.below hb5)
 have Fq := qHd (Fq.out.below hb5)
 have N := qHd (N.out.below hb5)
 have D := qHd (D.out.below hb5)
 have M := qHd (M.out.below hb5)
 have E := qHd (E.out.below hb5)
 have X := qHd (X.out.below hb5)
 have Y := qHd (Y.out.below hb5)
 have BXp := qHd (qaa BXp.out hb5)
 have BXq := qHd (qaa BXq.out hb5)
 have BXR := qHd (qaa BXR.out hb5)
 have DE := qHd hn5; clear hn5
 clear hb5
 have hs := rcmpN_ X.out Y.out (by omega) (by omega)
 rw [← HC.out] at hs
 have HS := qHd hs; clear hs
 go_wp2_with fail
 (with_reducible refine HS.out.mono ?_); rintro e wx ⟨rfl, rfl⟩
 clear HS
 have hs := rsubN X.out Y.out (by omega) (by omega) HLE.out
 have HS := qHd hs; clear hs
 go_wp2_with fail
 (with_reducible refine HS.out.mono ?_); rintro e w7 ⟨v7, rfl, hb7, hn7⟩
 clear HS
 have HB7 := qHd (HB5.out.step hb7)
 have Fp := qHd (Fp.out.below hb7)
 have Fq := qHd (Fq.out.below hb7)
 have N := qHd (N.out.below hb7)
 have D := qHd (D.out.below hb7)
 have M := qHd (M.out.below hb7)
 have E := qHd (E.out.below hb7)
 have X := qHd (X.out.below hb7)
 have Y := qHd (Y.out.below hb7)
 have DE := qHd (DE.out.below hb7)
 have BXp := qHd (qaa BXp.out hb7)
 have BXq := qHd (qaa BXq.out hb7)
 have BXR := qHd (qaa BXR.out hb7)
 have S := qHd hn7; clear hn7
 clear hb7
 have hs := rfromK x S.out DE.out (by omega) (by omega) (qeg p.den_nz q.den_nz)
 have HS := qHd hs; clear hs
 go_wp2_with fail
 (with_reducible refine HS.out.mono ?_); rintro e w8 ⟨v8, rfl, hb8, hn8⟩
 clear HS
 have HB8 := qHd (HB7.out.step hb8)
 have Fp := qHd (Fp.out.below hb8)
 have Fq := qHd (Fq.out.below hb8)
 have N := qHd (N.out.below hb8)
 have D := qHd (D.out.below hb8)
 have M := qHd (M.out.below hb8)
 have E := qHd (E.out.below hb8)
 have X := qHd (X.out.below hb8)
 have Y := qHd (Y.out.below hb8)
 have DE := qHd (DE.out.below hb8)
 have S := qHd (S.out.below hb8)
 have BXp := qHd (qaa BXp.out hb8)
 have BXq := qHd (qaa BXq.out hb8)
 have BXR := qHd (qaa BXR.out hb8)
 have Q := qHd hn8; clear hn8
 clear hb8
 have hq := Q.out; rw [HX.out, HEQ.out] at hq; have Q := qHd hq; clear hq
 obtain ⟨sQ, oQ, nQ, cQ, aQ, mQ, dQ, rfl⟩ := Q.out.shape
 have hal : Below w8.heap.size w8 (w8.alloc (.cells #[.bool sQ, .slice oQ nQ cQ, .slice aQ mQ dQ] 54)) := (Below.refl _ _).alloc (Nat.le_refl _) _
 have HXA := qHd (qaa BXR.out hal); have HAL := qHd hal; clear hal
 obtain ⟨eR0, eR1, eR2⟩ := qay HXA.out
 obtain ⟨fR0, fR1, fR2⟩ := froz3 HXA.out
 go_wp2_with fail
 refine qde rfl (w.heap.size + 2) _ _ _ rfl (qcf HXA.out) rfl ?_
 exact ⟨_, rfl, qbt (HB8.out.step HAL.out) (by omega) _ _ _, qdx (Q.out.below HAL.out) HXA.out⟩
theorem radd_diff' (vp : Value) (p : Rat) (vq : Value) (q : Rat) (w : World) (hp : qbs w vp p) (hq : qbs w vq q) (hs : ng p ≠ ng q) (hle : nn p * q.den < nn q * p.den) :
  Calls Tryz.prog 96 #[vp, vq] w (RetR w (p + q)) := by
 obtain ⟨sp, op, np, cp, ap, mp, dp, rfl⟩ := hp.shape
 have hlp := hp.rl
 obtain ⟨sq, oq, nq, cq, aq, mq, dq, rfl⟩ := hq.shape
 have hlq := hq.rl
 have hb0 := ((((Below.refl w.heap.size w).alloc (by first | (simp; done) | (simp; omega)) (.cells #[.bool sp, .slice op np cp, .slice ap mp dp] 54)).alloc (by first | (simp; done) | (simp; omega)) (.cells #[.bool sq, .slice oq nq cq, .slice aq mq dq] 54)).alloc (by first | (simp; done) | (simp; omega)) (.cells #[.bool false, .slice none 0 0, .slice none 0 0] 54))
 have hxp := qfw w (.cells #[.bool sp, .slice op np cp, .slice ap mp dp] 54) (.cells #[.bool sq, .slice oq nq cq, .slice aq mq dq] 54) (.cells #[.bool false, .slice none 0 0, .slice none 0 0] 54)
 have hxq := qfv w (.cells #[.bool sp, .slice op np cp, .slice ap mp dp] 54) (.cells #[.bool sq, .slice oq nq cq, .slice aq mq dq] 54) (.cells #[.bool false, .slice none 0 0, .slice none 0 0] 54)
 have hxR := qfu w (.cells #[.bool sp, .slice op np cp, .slice ap mp dp] 54) (.cells #[.bool sq, .slice oq nq cq, .slice aq mq dq] 54) (.cells #[.bool false, .slice none 0 0, .slice none 0 0] 54)
 have hpp := hp.below hb0
 have hpq := hq.below hb0
 obtain ⟨w0, hw0⟩ : ∃ w0, w0 = (((w.alloc (.cells #[.bool sp, .slice op np cp, .slice ap mp dp] 54)).alloc (.cells #[.bool sq, .slice oq nq cq, .slice aq mq dq] 54)).alloc (.cells #[.bool false, .slice none 0 0, .slice none 0 0] 54)) := ⟨_, rfl⟩
 rw [← hw0] at hb0 hxp hxq hxR hpp hpq
 have HB0 := qHd hb0; have HW0 := qHd hw0
 have BXp := qHd hxp
 have BXq := qHd hxq
 have BXR := qHd hxR
 have Fp := qHd hpp
 have Fq := qHd hpq
 clear hb0 hw0 hxp hxq hxR hpp hp hpq hq
 have l1 := rl_n p; have l2 := rl_d p; have l3 := rl_n q; have l4 := rl_d q
 have L1 : (wd (nn p * q.den)).length ≤ 200000 := by have := qbn (nn p) q.den; omega
 have L2 : (wd (nn q * p.den)).length ≤ 200000 := by have := qbn (nn q) p.den; omega
 have L3 : (wd (p.den * q.den)).length ≤ 200000 := by have := qbn p.den q.den; omega
 have heq := q_add_diff' p q hs (Nat.le_of_lt hle)
 have HEQ := qHd heq; clear heq
 have f1 : (ng p == ng q) = false := by rw [beq_eq_false_iff_ne]; exact hs
 obtain ⟨c, hc⟩ : ∃ c, c = cmpN (nn p * q.den) (nn q * p.den) := ⟨_, rfl⟩
 have L4 : (wd (nn q * p.den - nn p * q.den)).length ≤ 200000 := by exact Nat.le_trans (qbk (Nat.sub_le _ _)) L2
 have f2 : decide (c < 0) = true := by rw [hc, decide_eq_true_eq]; unfold cmpN; rw [if_pos hle]; decide
 have HC := qHd hc; have HLE := qHd hle; clear hc hle
 obtain ⟨x, hx⟩ : ∃ x, x = ng p := ⟨_, rfl⟩; obtain ⟨y, hy⟩ : ∃ y, y = ng q := ⟨_, rfl⟩
 rw [← hx, ← hy] at f1
 have HX := qHd hx; have HY := qHd hy; clear hx hy hs
 go_enter Tryz.func96, Tryz.ntmps96
 have hs := qdj _ p w0 Fp.out
 have HS := qHd hs; clear hs
 go_wp2_with fail
 rw [← HW0.out]
 (with_reducible refine HS.out.mono ?_); rintro e w1 ⟨v1, u1, rfl, hb1, hn1, hm1⟩
 clear HS
 have HB1 := qHd (HB0.out.step hb1)
 have Fp := qHd (Fp.out.below hb1)
 have Fq := qHd (Fq.out.below hb1)
 have BXp := qHd (qaa BXp.out hb1)
 have BXq := qHd (qaa BXq.out hb1)
 have BXR := qHd (qaa BXR.out hb1)
 have N := qHd hn1
 have D := qHd hm1
 clear hn1 hm1
 clear hb1
 rw [← HX.out]
 have hs := qdj _ q w1 Fq.out
 have HS := qHd hs; clear hs
 obtain ⟨eq0, eq1, eq2⟩ := qay BXq.out
 go_wp2_with fail
 (with_reducible refine HS.out.mono ?_); rintro e w2 ⟨v2, u2, rfl, hb2, hn2, hm2⟩
 clear HS
 have HB2 := qHd (HB1.out.step hb2)
 have Fp := qHd (Fp.out.below hb2)
 have Fq := qHd (Fq.out.below hb2)
 have N := qHd (N.out.below hb2)
 have D := qHd (D.out.below hb2)
 have BXp := qHd (qaa BXp.out hb2)
 have BXq := qHd (qaa BXq.out hb2)
 have BXR := qHd (qaa BXR.out hb2)
 have M := qHd hn2
 have E := qHd hm2
 clear hn2 hm2
 clear hb2
 rw [← HY.out]
 have hs := rmulN N.out E.out (by omega) (by omega)
 have HS := qHd hs; clear hs
 go_wp2_with fail
 (with_reducible refine HS.out.mono ?_); rintro e w3 ⟨v3, rfl, hb3, hn3⟩
 clear HS
 have HB3 := qHd (HB2.out.step hb3)
 have Fp := qHd (Fp.out.below hb3)
 have Fq := qHd (Fq.out.below hb3)
 have N := qHd (N.out.below hb3)
 have D := qHd (D.out.below hb3)
 have M := qHd (M.out.below hb3)
 have E := qHd (E.out.below hb3)
 have BXp := qHd (qaa BXp.out hb3)
 have BXq := qHd (qaa BXq.out hb3)
 have BXR := qHd (qaa BXR.out hb3)
 have X := qHd hn3; clear hn3
 clear hb3
 have hs := rmulN M.out D.out (by omega) (by omega)
 have HS := qHd hs; clear hs
 go_wp2_with fail
 (with_reducible refine HS.out.mono ?_); rintro e w4 ⟨v4, rfl, hb4, hn4⟩
 clear HS
 have HB4 := qHd (HB3.out.step hb4)
 have Fp := qHd (Fp.out.below hb4)
 have Fq := qHd (Fq.out.below hb4)
 have N := qHd (N.out.below hb4)
 have D := qHd (D.out.below hb4)
 have M := qHd (M.out.below hb4)
 have E := qHd (E.out.below hb4)
 have X := qHd (X.out.below hb4)
 have BXp := qHd (qaa BXp.out hb4)
 have BXq := qHd (qaa BXq.out hb4)
 have BXR := qHd (qaa BXR.out hb4)
 have Y := qHd hn4; clear hn4
 clear hb4
 have hs := rmulN D.out E.out (by omega) (by omega)
 have HS := qHd hs; clear hs
 go_wp2_with fail
 (with_reducible refine HS.out.mono ?_); rintro e w5 ⟨v5, rfl, hb5, hn5⟩
 clear HS
 have HB5 := qHd (HB4.out.step hb5)
 have Fp := qHd (Fp.out.below hb5)
 have Fq := qHd (Fq.out.below hb5)
 have N := qHd (N.out.below hb5)
 have D := qHd (D.out.below hb5)
 have M := qHd (M.out.below hb5)
 have E := qHd (E.out.below hb5)
 have X := qHd (X.out.below hb5)
 have Y := qHd (Y.out.below hb5)
 have BXp := qHd (qaa BXp.out hb5)
 have BXq := qHd (qaa BXq.out hb5)
 have BXR := qHd (qaa BXR.out hb5)
 have DE := qHd hn5; clear hn5
 clear hb5
 have hs := rcmpN_ X.out Y.out (by omega) (by omega)
 rw [← HC.out] at hs
 have HS := qHd hs; clear hs
 go_wp2_with fail
 (with_reducible refine HS.out.mono ?_); rintro e wx ⟨rfl, rfl⟩
 clear HS
 have hs := rsubN Y.out X.out (by omega) (by omega) (Nat.le_of_lt HLE.out)
 have HS := qHd hs; clear hs
 go_wp2_with fail
 (with_reducible refine HS.out.mono ?_); rintro e w7 ⟨v7, rfl, hb7, hn7⟩
 clear HS
 have HB7 := qHd (HB5.out.step hb7)
 have Fp := qHd (Fp.out.below hb7)
 have Fq := qHd (Fq.out.below hb7)
 have N := qHd (N.out.below hb7)
 have D := qHd (D.out.below hb7)
 have M := qHd (M.out.below hb7)
 have E := qHd (E.out.below hb7)
 have X := qHd (X.out.below hb7)
 have Y := qHd (Y.out.below hb7)
 have DE := qHd (DE.out.below hb7)
 have BXp := qHd (qaa BXp.out hb7)
 have BXq := qHd (qaa BXq.out hb7)
 have BXR := qHd (qaa BXR.out hb7)
 have S := qHd hn7; clear hn7
 clear hb7
 have hs := rfromK y S.out DE.out (by omega) (by omega) (qeg p.den_nz q.den_nz)
 have HS := qHd hs; clear hs
 go_wp2_with fail
 (with_reducible refine HS.out.mono ?_); rintro e w8 ⟨v8, rfl, hb8, hn8⟩
 clear HS
 have HB8 := qHd (HB7.out.step hb8)
 have Fp := qHd (Fp.out.below hb8)
 have Fq := qHd (Fq.out.below hb8)
 have N := qHd (N.out.below hb8)
 have D := qHd (D.out.below hb8)
 have M := qHd (M.out.below hb8)
 have E := qHd (E.out.below hb8)
 have X := qHd (X.out.below hb8)
 have Y := qHd (Y.out.below hb8)
 have DE := qHd (DE.out.below hb8)
 have S := qHd (S.out.below hb8)
 have BXp := qHd (qaa BXp.out hb8)
 have BXq := qHd (qaa BXq.out hb8)
 have BXR := qHd (qaa BXR.out hb8)
 have Q := qHd hn8; clear hn8
 clear hb8
 have hq := Q.out; rw [HY.out, HEQ.out] at hq; have Q := qHd hq; clear hq
 obtain ⟨sQ, oQ, nQ, cQ, aQ, mQ, dQ, rfl⟩ := Q.out.shape
 have hal : Below w8.heap.size w8 (w8.alloc (.cells #[.bool sQ, .slice oQ nQ cQ, .slice aQ mQ dQ] 54)) := (Below.refl _ _).alloc (Nat.le_refl _) _
 have HXA := qHd (qaa BXR.out hal); have HAL := qHd hal; clear hal
 obtain ⟨eR0, eR1, eR2⟩ := qay HXA.out
 obtain ⟨fR0, fR1, fR2⟩ := froz3 HXA.out
 go_wp2_with fail
 refine qde rfl (w.heap.size + 2) _ _ _ rfl (qcf HXA.out) rfl ?_
 exact ⟨_, rfl, qbt (HB8.out.step HAL.out) (by omega) _ _ _, qdx (Q.out.below HAL.out) HXA.out⟩
theorem raddq_any (vp : Value) (p : Rat) (vq : Value) (q : Rat) (w : World) (hp : qbs w vp p) (hq : qbs w vq q) :
  Calls Tryz.prog 96 #[vp, vq] w (RetR w (p + q)) := by
 by_cases h : ng p = ng q
 ·exact radd_same vp p vq q w hp hq h
 ·rcases Nat.lt_or_ge (nn p * q.den) (nn q * p.den) with h2 | h2
  ·exact radd_diff' vp p vq q w hp hq h h2
  ·exact radd_diff vp p vq q w hp hq h h2
theorem rsubq_any (vp : Value) (p : Rat) (vq : Value) (q : Rat) (w : World) (hp : qbs w vp p) (hq : qbs w vq q)  :
  Calls Tryz.prog 57 #[vp, vq] w (RetR w (p - q)) := by
 obtain ⟨sp, op, np, cp, ap, mp, dp, rfl⟩ := hp.shape
 have hlp := hp.rl
 obtain ⟨sq, oq, nq, cq, aq, mq, dq, rfl⟩ := hq.shape
 have hlq := hq.rl
 have hb0 := ((((Below.refl w.heap.size w).alloc (by first | (simp; done) | (simp; omega)) (.cells #[.bool sp, .slice op np cp, .slice ap mp dp] 54)).alloc (by first | (simp; done) | (simp; omega)) (.cells #[.bool sq, .slice oq nq cq, .slice aq mq dq] 54)).alloc (by first | (simp; done) | (simp; omega)) (.cells #[.bool false, .slice none 0 0, .slice none 0 0] 54))
 have hxp := qfw w (.cells #[.bool sp, .slice op np cp, .slice ap mp dp] 54) (.cells #[.bool sq, .slice oq nq cq, .slice aq mq dq] 54) (.cells #[.bool false, .slice none 0 0, .slice none 0 0] 54)
 have hxq := qfv w (.cells #[.bool sp, .slice op np cp, .slice ap mp dp] 54) (.cells #[.bool sq, .slice oq nq cq, .slice aq mq dq] 54) (.cells #[.bool false, .slice none 0 0, .slice none 0 0] 54)
 have hxR := qfu w (.cells #[.bool sp, .slice op np cp, .slice ap mp dp] 54) (.cells #[.bool sq, .slice oq nq cq, .slice aq mq dq] 54) (.cells #[.bool false, .slice none 0 0, .slice none 0 0] 54)
 have hpp := hp.below hb0
 have hpq := hq.below hb0
 obtain ⟨w0, hw0⟩ : ∃ w0, w0 = (((w.alloc (.cells #[.bool sp, .slice op np cp, .slice ap mp dp] 54)).alloc (.cells #[.bool sq, .slice oq nq cq, .slice aq mq dq] 54)).alloc (.cells #[.bool false, .slice none 0 0, .slice none 0 0] 54)) := ⟨_, rfl⟩
 rw [← hw0] at hb0 hxp hxq hxR hpp hpq
 have HB0 := qHd hb0; have HW0 := qHd hw0
 have BXp := qHd hxp
 have BXq := qHd hxq
 have BXR := qHd hxR
 have Fp := qHd hpp
 have Fq := qHd hpq
 clear hb0 hw0 hxp hxq hxR hpp hp hpq hq
 have hr : rl (-q) ≤ 100000 := by rw [rl_neg]; exact hlq
 have HD := qHd ((Below.refl w0.heap.size w0).drew)
 have hng := rneg_any _ q _ (Fq.out.below HD.out)
 have HNG := qHd hng; clear hng
 have had := fun vs w1 (h1 : Below w0.heap.size w0 w1) (hs : IsR w1 vs (-q)) => raddq_any _ p vs (-q) w1 (Fp.out.below h1) (hs.is hr)
 rw [← Rat.sub_eq_add_neg] at had
 have HAD := qHd had; clear had
 have ZP := qHd (fun w1 (h1 : Below w0.heap.size w0 w1) => qay (qaa BXp.out h1)); have ZQ := qHd (fun w1 (h1 : Below w0.heap.size w0 w1) => qay (qaa BXq.out h1)); have ZR := qHd (fun w1 (h1 : Below w0.heap.size w0 w1) => qay (qaa BXR.out h1)); have ZF := qHd (fun w1 (h1 : Below w0.heap.size w0 w1) => froz3 (qaa BXR.out h1))
 go_enter Tryz.func57, Tryz.ntmps57
 go_wp2_with fail
 rw [← HW0.out]
 obtain ⟨zp0, zp1, zp2⟩ := ZP.out _ HD.out; obtain ⟨zq0, zq1, zq2⟩ := ZQ.out _ HD.out
 go_region_held3 (fun wx => wx.cell? ⟨w.heap.size, 0, none⟩ = some (.bool sp) ∧ wx.cell? ⟨w.heap.size, 1, none⟩ = some (.slice op np cp) ∧ wx.cell? ⟨w.heap.size, 2, none⟩ = some (.slice ap mp dp) ∧ wx.cell? ⟨w.heap.size + 1, 0, none⟩ = some (.bool sq) ∧ wx.cell? ⟨w.heap.size + 1, 1, none⟩ = some (.slice oq nq cq) ∧ wx.cell? ⟨w.heap.size + 1, 2, none⟩ = some (.slice aq mq dq)) (first | exact ⟨zp0, zp1, zp2, zq0, zq1, zq2⟩ | exact put6 (by omega) (by omega) ⟨zp0, zp1, zp2, zq0, zq1, zq2⟩) (first
  | (go_at_call 97; (with_reducible refine HNG.out.mono ?_); rintro e w1 ⟨v1, rfl, hb1, hn1⟩; (have HB1 := qHd (HD.out.step hb1)); (have HN1 := qHd hn1); clear hb1 hn1; (obtain ⟨zp0, zp1, zp2⟩ := ZP.out _ HB1.out); (obtain ⟨zq0, zq1, zq2⟩ := ZQ.out _ HB1.out))
  | (go_at_call 96; (with_reducible refine (HAD.out _ _ HB1.out HN1.out).mono ?_); rintro e w2 ⟨v2, rfl, hb2, hn2⟩; (have HB2 := qHd (HB1.out.step hb2)); (have HN2 := qHd hn2); clear hb2 hn2; (obtain ⟨t1, t2, t3, t4, t5, t6, t7, rfl⟩ := HN2.out.shape); (obtain ⟨zp0, zp1, zp2⟩ := ZP.out _ HB2.out); (obtain ⟨zq0, zq1, zq2⟩ := ZQ.out _ HB2.out); (obtain ⟨zr0, zr1, zr2⟩ := ZR.out _ HB2.out); (obtain ⟨zf0, zf1, zf2⟩ := ZF.out _ HB2.out)))
 all_goals
  go_wp2_with fail
  have BXR2 := qaa BXR.out HB2.out
  refine qde rfl (w.heap.size + 2) _ _ _ rfl (qcf BXR2) rfl ?_
  exact ⟨_, rfl, qbt (HB0.out.step HB2.out) (by omega) _ _ _, qdx HN2.out BXR2⟩
theorem rsign_any (vp : Value) (p : Rat) (w : World) (hp : qbs w vp p)  :
  Calls Tryz.prog 98 #[vp] w (qea w (.int .i64 (sg p))) := by
 obtain ⟨sp, op, np, cp, ap, mp, dp, rfl⟩ := hp.shape
 have hlp := hp.rl
 rw [sg_eq]
 have hb0 := ((Below.refl w.heap.size w).alloc (by first | (simp; done) | (simp; omega)) (.cells #[.bool sp, .slice op np cp, .slice ap mp dp] 54))
 have hxp := qfl w (.cells #[.bool sp, .slice op np cp, .slice ap mp dp] 54)
 have hpp := hp.below hb0
 obtain ⟨w0, hw0⟩ : ∃ w0, w0 = (w.alloc (.cells #[.bool sp, .slice op np cp, .slice ap mp dp] 54)) := ⟨_, rfl⟩
 rw [← hw0] at hb0 hxp hpp
 have HB0 := qHd hb0; have HW0 := qHd hw0
 have BXp := qHd hxp
 have Fp := qHd hpp
 clear hb0 hw0 hxp hpp hp
 by_cases h0 : nn p = 0
 ·rw [if_pos h0]
  have H0 := qHd h0; clear h0
  go_enter Tryz.func98, Tryz.ntmps98
  have hs := qdj _ p w0 Fp.out
  have HS := qHd hs; clear hs
  go_wp2_with fail
  rw [← HW0.out]
  (with_reducible refine HS.out.mono ?_); rintro e w1 ⟨v1, u1, rfl, hb1, hn1, hm1⟩
  clear HS
  rw [H0.out, qca] at hn1
  obtain ⟨no, nc, rfl, _, _, _⟩ := hn1.shape
  have HB1 := qHd (HB0.out.step hb1)
  have Fp := qHd (Fp.out.below hb1)
  have BXp := qHd (qaa BXp.out hb1)
  have N := qHd hn1
  have D := qHd hm1
  clear hn1 hm1
  clear hb1
  go_wp2_with fail
  go_ret
  exact ⟨rfl, HB1.out⟩
 ·rw [if_neg h0]
  have hz : (((wd (nn p)).length : Int) == 0) = false := by rw [beq_eq_false_iff_ne]; intro h; exact wd_ne h0 (List.eq_nil_of_length_eq_zero (by omega))
  obtain ⟨L, hL⟩ : ∃ L, L = (wd (nn p)).length := ⟨_, rfl⟩
  rw [← hL] at hz
  have HL := qHd hL; clear hL h0
  obtain ⟨x, hx⟩ : ∃ x, x = ng p := ⟨_, rfl⟩
  rw [← hx]
  have HX := qHd hx; clear hx
  cases x
  ·go_enter Tryz.func98, Tryz.ntmps98
   have hs := qdj _ p w0 Fp.out
   have HS := qHd hs; clear hs
   go_wp2_with fail
   rw [← HW0.out]
   (with_reducible refine HS.out.mono ?_); rintro e w1 ⟨v1, u1, rfl, hb1, hn1, hm1⟩
   clear HS
   rw [← HX.out]
   obtain ⟨no, nc, rfl, _, _, _⟩ := hn1.shape
   rw [← HL.out]
   have HB1 := qHd (HB0.out.step hb1)
   have Fp := qHd (Fp.out.below hb1)
   have BXp := qHd (qaa BXp.out hb1)
   have N := qHd hn1
   have D := qHd hm1
   clear hn1 hm1
   clear hb1
   go_wp2_with fail
   go_ret
   exact ⟨rfl, HB1.out⟩
  ·go_enter Tryz.func98, Tryz.ntmps98
   have hs := qdj _ p w0 Fp.out
   have HS := qHd hs; clear hs
   go_wp2_with fail
   rw [← HW0.out]
   (with_reducible refine HS.out.mono ?_); rintro e w1 ⟨v1, u1, rfl, hb1, hn1, hm1⟩
   clear HS
   rw [← HX.out]
   obtain ⟨no, nc, rfl, _, _, _⟩ := hn1.shape
   rw [← HL.out]
   have HB1 := qHd (HB0.out.step hb1)
   have Fp := qHd (Fp.out.below hb1)
   have BXp := qHd (qaa BXp.out hb1)
   have N := qHd hn1
   have D := qHd hm1
   clear hn1 hm1
   clear hb1
   go_wp2_with fail
   go_ret
   exact ⟨rfl, HB1.out⟩
theorem rcmpq_any (vp : Value) (p : Rat) (vq : Value) (q : Rat) (w : World) (hp : qbs w vp p) (hq : qbs w vq q) (hlp2 : rl p ≤ 40000) (hlq2 : rl q ≤ 40000)  :
  Calls Tryz.prog 59 #[vp, vq] w (qea w (.int .i64 (cq p q))) := by
 obtain ⟨sp, op, np, cp, ap, mp, dp, rfl⟩ := hp.shape
 have hlp := hp.rl
 obtain ⟨sq, oq, nq, cq, aq, mq, dq, rfl⟩ := hq.shape
 have hlq := hq.rl
 have hb0 := (((Below.refl w.heap.size w).alloc (by first | (simp; done) | (simp; omega)) (.cells #[.bool sp, .slice op np cp, .slice ap mp dp] 54)).alloc (by first | (simp; done) | (simp; omega)) (.cells #[.bool sq, .slice oq nq cq, .slice aq mq dq] 54))
 have hxp := nest2_0 w (.cells #[.bool sp, .slice op np cp, .slice ap mp dp] 54) (.cells #[.bool sq, .slice oq nq cq, .slice aq mq dq] 54)
 have hxq := nest2_1 w (.cells #[.bool sp, .slice op np cp, .slice ap mp dp] 54) (.cells #[.bool sq, .slice oq nq cq, .slice aq mq dq] 54)
 have hpp := hp.below hb0
 have hpq := hq.below hb0
 obtain ⟨w0, hw0⟩ : ∃ w0, w0 = ((w.alloc (.cells #[.bool sp, .slice op np cp, .slice ap mp dp] 54)).alloc (.cells #[.bool sq, .slice oq nq cq, .slice aq mq dq] 54)) := ⟨_, rfl⟩
 rw [← hw0] at hb0 hxp hxq hpp hpq
 have HB0 := qHd hb0; have HW0 := qHd hw0
 have BXp := qHd hxp
 have BXq := qHd hxq
 have Fp := qHd hpp
 have Fq := qHd hpq
 clear hb0 hw0 hxp hxq hpp hp hpq hq
 have hr := rl_sub p q
 go_enter Tryz.func59, Tryz.ntmps59
 have hs := rsubq_any _ p _ q w0 Fp.out Fq.out
 have HS := qHd hs; clear hs
 go_wp2_with fail
 rw [← HW0.out]
 (with_reducible refine HS.out.mono ?_); rintro e w1 ⟨v1, rfl, hb1, hn1⟩
 clear HS
 have HB1 := qHd (HB0.out.step hb1)
 have Fp := qHd (Fp.out.below hb1)
 have Fq := qHd (Fq.out.below hb1)
 have BXp := qHd (qaa BXp.out hb1)
 have BXq := qHd (qaa BXq.out hb1)
 have S := qHd hn1; clear hn1
 clear hb1
 have SI := qHd (S.out.is (by omega))
 obtain ⟨sS, oS, nS, cS, aS, mS, dS, rfl⟩ := S.out.shape
 have hs := rsign_any _ (p - q) w1 SI.out
 rw [sg_sub] at hs
 have HS := qHd hs; clear hs
 go_wp2_with fail
 (with_reducible refine HS.out.mono ?_); rintro e w2 ⟨rfl, hb2⟩
 clear HS
 have HB2 := qHd (HB1.out.step hb2)
 have Fp := qHd (Fp.out.below hb2)
 have Fq := qHd (Fq.out.below hb2)
 have S := qHd (S.out.below hb2)
 have SI := qHd (SI.out.below hb2)
 have BXp := qHd (qaa BXp.out hb2)
 have BXq := qHd (qaa BXq.out hb2)
 clear hb2
 go_wp2_with fail
 go_ret
 exact ⟨rfl, HB2.out⟩
theorem rofq_any (n : Int) (w : World)  (h0 : -9223372036854775808 ≤ n) (h1 : n < 9223372036854775808) :
  Calls Tryz.prog 58 #[.int .i64 n] w (RetR w (n : Rat)) := by
 have hb0 := ((Below.refl w.heap.size w).alloc (by first | (simp; done) | (simp; omega)) (.cells #[.bool false, .slice none 0 0, .slice none 0 0] 54))
 have hxR := qfl w (.cells #[.bool false, .slice none 0 0, .slice none 0 0] 54)
 obtain ⟨w0, hw0⟩ : ∃ w0, w0 = (w.alloc (.cells #[.bool false, .slice none 0 0, .slice none 0 0] 54)) := ⟨_, rfl⟩
 rw [← hw0] at hb0 hxR
 have HB0 := qHd hb0; have HW0 := qHd hw0
 have BXR := qHd hxR
 clear hb0 hw0 hxR
 have BD := qHd (And.intro h0 h1)
 have hq1 : (n : Rat) / ((1 : Int) : Rat) = (n : Rat) := by rw [show ((1 : Int) : Rat) = 1 from rfl]; grind
 have HQ1 := qHd hq1; clear hq1
 go_enter Tryz.func58, Tryz.ntmps58
 have hs := rmake_any n 1 w0 BD.out.1 BD.out.2 (by decide) (by decide)
 rw [HQ1.out, show zc (1 : Int).natAbs = 0 from rfl] at hs
 have HS := qHd hs; clear hs
 go_wp2_with fail
 rw [← HW0.out]
 (with_reducible refine HS.out.mono ?_); rintro e w1 ⟨v1, rfl, hb1, hn1⟩
 clear HS
 have HB1 := qHd (HB0.out.step hb1)
 have BXR := qHd (qaa BXR.out hb1)
 have Q := qHd hn1; clear hn1
 clear hb1
 obtain ⟨sQ, oQ, nQ, cQ, aQ, mQ, dQ, rfl⟩ := Q.out.shape
 have hal : Below w1.heap.size w1 (w1.alloc (.cells #[.bool sQ, .slice oQ nQ cQ, .slice aQ mQ dQ] 54)) := (Below.refl _ _).alloc (Nat.le_refl _) _
 have HXA := qHd (qaa BXR.out hal); have HAL := qHd hal; clear hal
 obtain ⟨eR0, eR1, eR2⟩ := qay HXA.out
 obtain ⟨fR0, fR1, fR2⟩ := froz3 HXA.out
 go_wp2_with fail
 refine qde rfl w.heap.size _ _ _ rfl (qcf HXA.out) rfl ?_
 exact ⟨_, rfl, qbt (HB1.out.step HAL.out) (by omega) _ _ _, qdx (Q.out.below HAL.out) HXA.out⟩
theorem minq_a (vp : Value) (p : Rat) (vu : Value) (u : Rat) (w : World) (hp : qbs w vp p) (hu : qbs w vu u) (hp2 : rl p ≤ 40000) (hu2 : rl u ≤ 40000) (hc : p ≤ u) :
  Calls Tryz.prog 128 #[vp, vu] w (RetR w p) := by
 obtain ⟨sp, op, np, cp, ap, mp, dp, rfl⟩ := hp.shape
 have hlp := hp.rl
 obtain ⟨su, ou, nu, cu, au, mu, du, rfl⟩ := hu.shape
 have hlu := hu.rl
 have hb0 := ((((Below.refl w.heap.size w).alloc (by first | (simp; done) | (simp; omega)) (.cells #[.bool sp, .slice op np cp, .slice ap mp dp] 54)).alloc (by first | (simp; done) | (simp; omega)) (.cells #[.bool su, .slice ou nu cu, .slice au mu du] 54)).alloc (by first | (simp; done) | (simp; omega)) (.cells #[.bool false, .slice none 0 0, .slice none 0 0] 54))
 have hxp := qfw w (.cells #[.bool sp, .slice op np cp, .slice ap mp dp] 54) (.cells #[.bool su, .slice ou nu cu, .slice au mu du] 54) (.cells #[.bool false, .slice none 0 0, .slice none 0 0] 54)
 have hxu := qfv w (.cells #[.bool sp, .slice op np cp, .slice ap mp dp] 54) (.cells #[.bool su, .slice ou nu cu, .slice au mu du] 54) (.cells #[.bool false, .slice none 0 0, .slice none 0 0] 54)
 have hxR := qfu w (.cells #[.bool sp, .slice op np cp, .slice ap mp dp] 54) (.cells #[.bool su, .slice ou nu cu, .slice au mu du] 54) (.cells #[.bool false, .slice none 0 0, .slice none 0 0] 54)
 have hpp := hp.below hb0
 have hpu := hu.below hb0
 obtain ⟨w0, hw0⟩ : ∃ w0, w0 = (((w.alloc (.cells #[.bool sp, .slice op np cp, .slice ap mp dp] 54)).alloc (.cells #[.bool su, .slice ou nu cu, .slice au mu du] 54)).alloc (.cells #[.bool false, .slice none 0 0, .slice none 0 0] 54)) := ⟨_, rfl⟩
 rw [← hw0] at hb0 hxp hxu hxR hpp hpu
 have HB0 := qHd hb0; have HW0 := qHd hw0
 have BXp := qHd hxp
 have BXu := qHd hxu
 have BXR := qHd hxR
 have Fp := qHd hpp
 have Fu := qHd hpu
 clear hb0 hw0 hxp hxu hxR hpp hp hpu hu
 have hc2 : cq p u ≤ 0 := by rw [cq_le]; exact hc
 obtain ⟨n, hn⟩ : ∃ n, n = cq p u := ⟨_, rfl⟩
 rw [← hn] at hc2
 have f1 : decide (n ≤ 0) = true := decide_eq_true hc2
 have HN := qHd hn; clear hn hc hc2
 go_enter Tryz.func128, Tryz.ntmps128
 have hs := qfi _ p _ u w0 Fp.out Fu.out hp2 hu2
 rw [← HN.out] at hs
 have HS := qHd hs; clear hs
 go_wp2_with fail
 rw [← HW0.out]
 (with_reducible refine HS.out.mono ?_); rintro e w1 ⟨rfl, hb1⟩
 clear HS
 have HB1 := qHd (HB0.out.step hb1)
 have Fp := qHd (Fp.out.below hb1)
 have Fu := qHd (Fu.out.below hb1)
 have BXp := qHd (qaa BXp.out hb1)
 have BXu := qHd (qaa BXu.out hb1)
 have BXR := qHd (qaa BXR.out hb1)
 clear hb1
 have hs := same_any _ p w1 Fp.out
 have HS := qHd hs; clear hs
 obtain ⟨ep0, ep1, ep2⟩ := qay BXp.out
 go_wp2_with fail
 clear ep0 ep1 ep2
 (with_reducible refine HS.out.mono ?_); rintro e w2 ⟨v2, rfl, hb2, hn2⟩
 clear HS
 have HB2 := qHd (HB1.out.step hb2)
 have Fp := qHd (Fp.out.below hb2)
 have Fu := qHd (Fu.out.below hb2)
 have BXp := qHd (qaa BXp.out hb2)
 have BXu := qHd (qaa BXu.out hb2)
 have BXR := qHd (qaa BXR.out hb2)
 have Q := qHd hn2; clear hn2
 clear hb2
 obtain ⟨sQ, oQ, nQ, cQ, aQ, mQ, dQ, rfl⟩ := Q.out.shape
 obtain ⟨eR0, eR1, eR2⟩ := qay BXR.out
 obtain ⟨fR0, fR1, fR2⟩ := froz3 BXR.out
 go_wp2_with fail
 clear eR0 eR1 eR2 fR0 fR1 fR2
 refine qde rfl (w.heap.size + 2) _ _ _ rfl (qcf BXR.out) rfl ?_
 exact ⟨_, rfl, qbt HB2.out (by omega) _ _ _, qdx Q.out BXR.out⟩
theorem minq_b (vp : Value) (p : Rat) (vu : Value) (u : Rat) (w : World) (hp : qbs w vp p) (hu : qbs w vu u) (hp2 : rl p ≤ 40000) (hu2 : rl u ≤ 40000) (hc : ¬ p ≤ u) :
  Calls Tryz.prog 128 #[vp, vu] w (RetR w u) := by
 obtain ⟨sp, op, np, cp, ap, mp, dp, rfl⟩ := hp.shape
 have hlp := hp.rl
 obtain ⟨su, ou, nu, cu, au, mu, du, rfl⟩ := hu.shape
 have hlu := hu.rl
 have hb0 := ((((Below.refl w.heap.size w).alloc (by first | (simp; done) | (simp; omega)) (.cells #[.bool sp, .slice op np cp, .slice ap mp dp] 54)).alloc (by first | (simp; done) | (simp; omega)) (.cells #[.bool su, .slice ou nu cu, .slice au mu du] 54)).alloc (by first | (simp; done) | (simp; omega)) (.cells #[.bool false, .slice none 0 0, .slice none 0 0] 54))
 have hxp := qfw w (.cells #[.bool sp, .slice op np cp, .slice ap mp dp] 54) (.cells #[.bool su, .slice ou nu cu, .slice au mu du] 54) (.cells #[.bool false, .slice none 0 0, .slice none 0 0] 54)
 have hxu := qfv w (.cells #[.bool sp, .slice op np cp, .slice ap mp dp] 54) (.cells #[.bool su, .slice ou nu cu, .slice au mu du] 54) (.cells #[.bool false, .slice none 0 0, .slice none 0 0] 54)
 have hxR := qfu w (.cells #[.bool sp, .slice op np cp, .slice ap mp dp] 54) (.cells #[.bool su, .slice ou nu cu, .slice au mu du] 54) (.cells #[.bool false, .slice none 0 0, .slice none 0 0] 54)
 have hpp := hp.below hb0
 have hpu := hu.below hb0
 obtain ⟨w0, hw0⟩ : ∃ w0, w0 = (((w.alloc (.cells #[.bool sp, .slice op np cp, .slice ap mp dp] 54)).alloc (.cells #[.bool su, .slice ou nu cu, .slice au mu du] 54)).alloc (.cells #[.bool false, .slice none 0 0, .slice none 0 0] 54)) := ⟨_, rfl⟩
 rw [← hw0] at hb0 hxp hxu hxR hpp hpu
 have HB0 := qHd hb0; have HW0 := qHd hw0
 have BXp := qHd hxp
 have BXu := qHd hxu
 have BXR := qHd hxR
 have Fp := qHd hpp
 have Fu := qHd hpu
 clear hb0 hw0 hxp hxu hxR hpp hp hpu hu
 have hc2 : ¬ cq p u ≤ 0 := by rw [cq_le]; exact hc
 obtain ⟨n, hn⟩ : ∃ n, n = cq p u := ⟨_, rfl⟩
 rw [← hn] at hc2
 have f1 : decide (n ≤ 0) = false := decide_eq_false hc2
 have HN := qHd hn; clear hn hc hc2
 go_enter Tryz.func128, Tryz.ntmps128
 have hs := qfi _ p _ u w0 Fp.out Fu.out hp2 hu2
 rw [← HN.out] at hs
 have HS := qHd hs; clear hs
 go_wp2_with fail
 rw [← HW0.out]
 (with_reducible refine HS.out.mono ?_); rintro e w1 ⟨rfl, hb1⟩
 clear HS
 have HB1 := qHd (HB0.out.step hb1)
 have Fp := qHd (Fp.out.below hb1)
 have Fu := qHd (Fu.out.below hb1)
 have BXp := qHd (qaa BXp.out hb1)
 have BXu := qHd (qaa BXu.out hb1)
 have BXR := qHd (qaa BXR.out hb1)
 clear hb1
 have hs := same_any _ u w1 Fu.out
 have HS := qHd hs; clear hs
 obtain ⟨eu0, eu1, eu2⟩ := qay BXu.out
 go_wp2_with fail
 clear eu0 eu1 eu2
 (with_reducible refine HS.out.mono ?_); rintro e w2 ⟨v2, rfl, hb2, hn2⟩
 clear HS
 have HB2 := qHd (HB1.out.step hb2)
 have Fp := qHd (Fp.out.below hb2)
 have Fu := qHd (Fu.out.below hb2)
 have BXp := qHd (qaa BXp.out hb2)
 have BXu := qHd (qaa BXu.out hb2)
 have BXR := qHd (qaa BXR.out hb2)
 have Q := qHd hn2; clear hn2
 clear hb2
 obtain ⟨sQ, oQ, nQ, cQ, aQ, mQ, dQ, rfl⟩ := Q.out.shape
 obtain ⟨eR0, eR1, eR2⟩ := qay BXR.out
 obtain ⟨fR0, fR1, fR2⟩ := froz3 BXR.out
 go_wp2_with fail
 clear eR0 eR1 eR2 fR0 fR1 fR2
 refine qde rfl (w.heap.size + 2) _ _ _ rfl (qcf BXR.out) rfl ?_
 exact ⟨_, rfl, qbt HB2.out (by omega) _ _ _, qdx Q.out BXR.out⟩
theorem minq_any (vp : Value) (p : Rat) (vu : Value) (u : Rat) (w : World) (hp : qbs w vp p) (hu : qbs w vu u) (hlp2 : rl p ≤ 40000) (hlu2 : rl u ≤ 40000) :
  Calls Tryz.prog 128 #[vp, vu] w (RetR w (mn p u)) := by
 unfold mn
 by_cases h : p ≤ u
 ·rw [if_pos h]; exact minq_a vp p vu u w hp hu hlp2 hlu2 h
 ·rw [if_neg h]; exact minq_b vp p vu u w hp hu hlp2 hlu2 h
theorem maxq_a (vp : Value) (p : Rat) (vu : Value) (u : Rat) (w : World) (hp : qbs w vp p) (hu : qbs w vu u) (hp2 : rl p ≤ 40000) (hu2 : rl u ≤ 40000) (hc : u ≤ p) :
  Calls Tryz.prog 129 #[vp, vu] w (RetR w p) := by
 obtain ⟨sp, op, np, cp, ap, mp, dp, rfl⟩ := hp.shape
 have hlp := hp.rl
 obtain ⟨su, ou, nu, cu, au, mu, du, rfl⟩ := hu.shape
 have hlu := hu.rl
 have hb0 := ((((Below.refl w.heap.size w).alloc (by first | (simp; done) | (simp; omega)) (.cells #[.bool sp, .slice op np cp, .slice ap mp dp] 54)).alloc (by first | (simp; done) | (simp; omega)) (.cells #[.bool su, .slice ou nu cu, .slice au mu du] 54)).alloc (by first | (simp; done) | (simp; omega)) (.cells #[.bool false, .slice none 0 0, .slice none 0 0] 54))
 have hxp := qfw w (.cells #[.bool sp, .slice op np cp, .slice ap mp dp] 54) (.cells #[.bool su, .slice ou nu cu, .slice au mu du] 54) (.cells #[.bool false, .slice none 0 0, .slice none 0 0] 54)
 have hxu := qfv w (.cells #[.bool sp, .slice op np cp, .slice ap mp dp] 54) (.cells #[.bool su, .slice ou nu cu, .slice au mu du] 54) (.cells #[.bool false, .slice none 0 0, .slice none 0 0] 54)
 have hxR := qfu w (.cells #[.bool sp, .slice op np cp, .slice ap mp dp] 54) (.cells #[.bool su, .slice ou nu cu, .slice au mu du] 54) (.cells #[.bool false, .slice none 0 0, .slice none 0 0] 54)
 have hpp := hp.below hb0
 have hpu := hu.below hb0
 obtain ⟨w0, hw0⟩ : ∃ w0, w0 = (((w.alloc (.cells #[.bool sp, .slice op np cp, .slice ap mp dp] 54)).alloc (.cells #[.bool su, .slice ou nu cu, .slice au mu du] 54)).alloc (.cells #[.bool false, .slice none 0 0, .slice none 0 0] 54)) := ⟨_, rfl⟩
 rw [← hw0] at hb0 hxp hxu hxR hpp hpu
 have HB0 := qHd hb0; have HW0 := qHd hw0
 have BXp := qHd hxp
 have BXu := qHd hxu
 have BXR := qHd hxR
 have Fp := qHd hpp
 have Fu := qHd hpu
 clear hb0 hw0 hxp hxu hxR hpp hp hpu hu
 have hc2 : 0 ≤ cq p u := by rw [cq_ge]; exact hc
 obtain ⟨n, hn⟩ : ∃ n, n = cq p u := ⟨_, rfl⟩
 rw [← hn] at hc2
 have f1 : decide (0 ≤ n) = true := decide_eq_true hc2
 have HN := qHd hn; clear hn hc hc2
 go_enter Tryz.func129, Tryz.ntmps129
 have hs := qfi _ p _ u w0 Fp.out Fu.out hp2 hu2
 rw [← HN.out] at hs
 have HS := qHd hs; clear hs
 go_wp2_with fail
 rw [← HW0.out]
 (with_reducible refine HS.out.mono ?_); rintro e w1 ⟨rfl, hb1⟩
 clear HS
 have HB1 := qHd (HB0.out.step hb1)
 have Fp := qHd (Fp.out.below hb1)
 have Fu := qHd (Fu.out.below hb1)
 have BXp := qHd (qaa BXp.out hb1)
 have BXu := qHd (qaa BXu.out hb1)
 have BXR := qHd (qaa BXR.out hb1)
 clear hb1
 have hs := same_any _ p w1 Fp.out
 have HS := qHd hs; clear hs
 obtain ⟨ep0, ep1, ep2⟩ := qay BXp.out
 go_wp2_with fail
 clear ep0 ep1 ep2
 (with_reducible refine HS.out.mono ?_); rintro e w2 ⟨v2, rfl, hb2, hn2⟩
 clear HS
 have HB2 := qHd (HB1.out.step hb2)
 have Fp := qHd (Fp.out.below hb2)
 have Fu := qHd (Fu.out.below hb2)
 have BXp := qHd (qaa BXp.out hb2)
 have BXu := qHd (qaa BXu.out hb2)
 have BXR := qHd (qaa BXR.out hb2)
 have Q := qHd hn2; clear hn2
 clear hb2
 obtain ⟨sQ, oQ, nQ, cQ, aQ, mQ, dQ, rfl⟩ := Q.out.shape
 obtain ⟨eR0, eR1, eR2⟩ := qay BXR.out
 obtain ⟨fR0, fR1, fR2⟩ := froz3 BXR.out
 go_wp2_with fail
 clear eR0 eR1 eR2 fR0 fR1 fR2
 refine qde rfl (w.heap.size + 2) _ _ _ rfl (qcf BXR.out) rfl ?_
 exact ⟨_, rfl, qbt HB2.out (by omega) _ _ _, qdx Q.out BXR.out⟩
theorem maxq_b (vp : Value) (p : Rat) (vu : Value) (u : Rat) (w : World) (hp : qbs w vp p) (hu : qbs w vu u) (hp2 : rl p ≤ 40000) (hu2 : rl u ≤ 40000) (hc : ¬ u ≤ p) :
  Calls Tryz.prog 129 #[vp, vu] w (RetR w u) := by
 obtain ⟨sp, op, np, cp, ap, mp, dp, rfl⟩ := hp.shape
 have hlp := hp.rl
 obtain ⟨su, ou, nu, cu, au, mu, du, rfl⟩ := hu.shape
 have hlu := hu.rl
 have hb0 := ((((Below.refl w.heap.size w).alloc (by first | (simp; done) | (simp; omega)) (.cells #[.bool sp, .slice op np cp, .slice ap mp dp] 54)).alloc (by first | (simp; done) | (simp; omega)) (.cells #[.bool su, .slice ou nu cu, .slice au mu du] 54)).alloc (by first | (simp; done) | (simp; omega)) (.cells #[.bool false, .slice none 0 0, .slice none 0 0] 54))
 have hxp := qfw w (.cells #[.bool sp, .slice op np cp, .slice ap mp dp] 54) (.cells #[.bool su, .slice ou nu cu, .slice au mu du] 54) (.cells #[.bool false, .slice none 0 0, .slice none 0 0] 54)
 have hxu := qfv w (.cells #[.bool sp, .slice op np cp, .slice ap mp dp] 54) (.cells #[.bool su, .slice ou nu cu, .slice au mu du] 54) (.cells #[.bool false, .slice none 0 0, .slice none 0 0] 54)
 have hxR := qfu w (.cells #[.bool sp, .slice op np cp, .slice ap mp dp] 54) (.cells #[.bool su, .slice ou nu cu, .slice au mu du] 54) (.cells #[.bool false, .slice none 0 0, .slice none 0 0] 54)
 have hpp := hp.below hb0
 have hpu := hu.below hb0
 obtain ⟨w0, hw0⟩ : ∃ w0, w0 = (((w.alloc (.cells #[.bool sp, .slice op np cp, .slice ap mp dp] 54)).alloc (.cells #[.bool su, .slice ou nu cu, .slice au mu du] 54)).alloc (.cells #[.bool false, .slice none 0 0, .slice none 0 0] 54)) := ⟨_, rfl⟩
 rw [← hw0] at hb0 hxp hxu hxR hpp hpu
 have HB0 := qHd hb0; have HW0 := qHd hw0
 have BXp := qHd hxp
 have BXu := qHd hxu
 have BXR := qHd hxR
 have Fp := qHd hpp
 have Fu := qHd hpu
 clear hb0 hw0 hxp hxu hxR hpp hp hpu hu
 have hc2 : ¬ 0 ≤ cq p u := by rw [cq_ge]; exact hc
 obtain ⟨n, hn⟩ : ∃ n, n = cq p u := ⟨_, rfl⟩
 rw [← hn] at hc2
 have f1 : decide (0 ≤ n) = false := decide_eq_false hc2
 have HN := qHd hn; clear hn hc hc2
 go_enter Tryz.func129, Tryz.ntmps129
 have hs := qfi _ p _ u w0 Fp.out Fu.out hp2 hu2
 rw [← HN.out] at hs
 have HS := qHd hs; clear hs
 go_wp2_with fail
 rw [← HW0.out]
 (with_reducible refine HS.out.mono ?_); rintro e w1 ⟨rfl, hb1⟩
 clear HS
 have HB1 := qHd (HB0.out.step hb1)
 have Fp := qHd (Fp.out.below hb1)
 have Fu := qHd (Fu.out.below hb1)
 have BXp := qHd (qaa BXp.out hb1)
 have BXu := qHd (qaa BXu.out hb1)
 have BXR := qHd (qaa BXR.out hb1)
 clear hb1
 have hs := same_any _ u w1 Fu.out
 have HS := qHd hs; clear hs
 obtain ⟨eu0, eu1, eu2⟩ := qay BXu.out
 go_wp2_with fail
 clear eu0 eu1 eu2
 (with_reducible refine HS.out.mono ?_); rintro e w2 ⟨v2, rfl, hb2, hn2⟩
 clear HS
 have HB2 := qHd (HB1.out.step hb2)
 have Fp := qHd (Fp.out.below hb2)
 have Fu := qHd (Fu.out.below hb2)
 have BXp := qHd (qaa BXp.out hb2)
 have BXu := qHd (qaa BXu.out hb2)
 have BXR := qHd (qaa BXR.out hb2)
 have Q := qHd hn2; clear hn2
 clear hb2
 obtain ⟨sQ, oQ, nQ, cQ, aQ, mQ, dQ, rfl⟩ := Q.out.shape
 obtain ⟨eR0, eR1, eR2⟩ := qay BXR.out
 obtain ⟨fR0, fR1, fR2⟩ := froz3 BXR.out
 go_wp2_with fail
 clear eR0 eR1 eR2 fR0 fR1 fR2
 refine qde rfl (w.heap.size + 2) _ _ _ rfl (qcf BXR.out) rfl ?_
 exact ⟨_, rfl, qbt HB2.out (by omega) _ _ _, qdx Q.out BXR.out⟩
theorem maxq_any (vp : Value) (p : Rat) (vu : Value) (u : Rat) (w : World) (hp : qbs w vp p) (hu : qbs w vu u) (hlp2 : rl p ≤ 40000) (hlu2 : rl u ≤ 40000) :
  Calls Tryz.prog 129 #[vp, vu] w (RetR w (mx p u)) := by
 unfold mx
 by_cases h : u ≤ p
 ·rw [if_pos h]; exact maxq_a vp p vu u w hp hu hlp2 hlu2 h
 ·rw [if_neg h]; exact maxq_b vp p vu u w hp hu hlp2 hlu2 h
theorem assert_no (w : World) : (Instr.typeAssert .nilIface 31 74 true).run Tryz.prog w = .ok (.tuple #[.int .i64 0, .bool false]) w := by kernel_rfl
theorem is_eq (c k : Nat) : (((c : Int) == (k : Int)) : Bool) = decide (c = k) := by rw [Bool.eq_iff_iff]; simp; omega
theorem is_any (c : Nat) (kk : Int) (k : Nat) (w : World) (hk : kk = k) (hk0 : k ≠ 0) : Calls Tryz.prog 29 #[errV c, .int .i64 kk] w (RetS w (.bool (decide (c = k)))) := by
 have HK := qHd hk; clear hk
 by_cases h0 : c = 0
 ·subst h0
  have ha := assert_no
  rw [qbi]
  go_enter Tryz.func29, Tryz.ntmps29
  go_wp2
  go_ret
  exact ⟨qdp (by rw [eq_comm]; simp; omega), rfl⟩
 ·have ha := assert_yes c
  rw [qbz h0]
  go_enter Tryz.func29, Tryz.ntmps29
  go_wp2
  go_ret
  exact ⟨qdp (by rw [HK.out, is_eq]), rfl⟩
theorem rprob_no (vp : Value) (p : Rat) (w : World) (hp : qbs w vp p) {sr : Bool} {ar br : List Nat} (hr : RatV w vp sr ar br) (hla : ar.length ≤ 100000) (hlb : br.length ≤ 100000) (_hpe : p = rq sr ar br) (hv : ¬ Vld sr ar br) (_hp2 : rl p ≤ 40000) :
  Calls Tryz.prog 85 #[vp] w (qea w (.bool (prB sr ar br))) := by
 obtain ⟨sp, op, np, cp, ap, mp, dp, rfl⟩ := hp.shape
 have hlp := hp.rl
 rw [prB_no hv]
 have HV := qHd (decide_eq_false hv); clear hv
 have hb0 := ((Below.refl w.heap.size w).alloc (by first | (simp; done) | (simp; omega)) (.cells #[.bool sp, .slice op np cp, .slice ap mp dp] 54))
 have hxp := qfl w (.cells #[.bool sp, .slice op np cp, .slice ap mp dp] 54)
 have hpp := hp.below hb0
 have hpraw := hr.below hb0
 obtain ⟨w0, hw0⟩ : ∃ w0, w0 = (w.alloc (.cells #[.bool sp, .slice op np cp, .slice ap mp dp] 54)) := ⟨_, rfl⟩
 rw [← hw0] at hb0 hxp hpp hpraw
 have HB0 := qHd hb0; have HW0 := qHd hw0
 have BXp := qHd hxp
 have Fp := qHd hpp
 have Fraw := qHd hpraw; clear hpraw hr
 clear hb0 hw0 hxp hpp hp
 have hr1 : rl ((1 : Int) : Rat) ≤ 2 := rl_small (by decide) (by decide)
 go_enter Tryz.func85, Tryz.ntmps85
 go_wp2_with fail
 rw [← HW0.out]
 have lwp := qaw BXp.out
 refine qao (A := ?aa0) (w := w0) 13 [] (by kernel_rfl) (Fl [KEq (.agg #[.bool sp, .slice op np cp, .slice ap mp dp]), KEq (.bool false), KEq (.bool false), KEq (undef), KEq (undef), KEq (undef), KEq (.bool false), KEq (.bool false), KEq (undef), KEq (undef), KEq (undef), KEq (undef), KEq (.bool false)]) (fun i => false) (by kernel_rfl) (fun _ _ _ _ _ h => h) (qcw (qae (kEq _) (qae (kEq _) (qae (kEq _) (qae (kEq _) (qae (kEq _) (qae (kEq _) (qae (kEq _) (qae (kEq _) (qae (kEq _) (qae (kEq _) (qae (kEq _) (qae (kEq _) (qae (kEq _) qcv)))))))))))))) ?ha0 ?st0 ?tl0
 case ha0 =>
  intro vals
  simp only [qba, qcd, if_true, Act.put, List.setIfInBounds_toArray, List.set_cons_zero, List.set_cons_succ, List.getElem?_toArray, List.getElem?_cons_zero, List.getElem?_cons_succ, Option.bind_some]
  exact rfl
 case st0 =>
  simp only [List.take_succ_cons, List.take_zero]
  refine qab rfl rfl ?_ (qab rfl rfl ?_ (qab rfl rfl ?_ (qac rfl ?_ (qac rfl ?_ (qac rfl ?_ (qab rfl rfl ?_ (qab rfl rfl ?_ (qac rfl ?_ (qac rfl ?_ (qac rfl ?_ (qac rfl ?_ (qab rfl rfl ?_ (qav)))))))))))))
  ·intro vals w1 hb hd
   obtain ⟨e0, e1, e2⟩ := qay (qaa BXp.out hb)
   refine qSv (.agg #[.bool sp, .slice op np cp, .slice ap mp dp]) (by go_simp) (qLk rfl rfl)
  ·intro vals w1 hb hd
   have d0 : KEq (.agg #[.bool sp, .slice op np cp, .slice ap mp dp]) (vals 0) w1 := hd 0 (by kernel_rfl)
   have r0 : qbs w1 (vals 0) (p) := by rw [show vals 0 = _ from d0]; exact Fp.out.below hb
   have hs := rvalid_any (vals 0) _ ar br w1 (by rw [show vals 0 = _ from d0]; exact Fraw.out.below hb) (by omega) (by omega)
   rw [HV.out] at hs
   have HS := qHd hs; clear hs
   clear d0 hd
   refine qat (by go_simp; first | done | exact ⟨⟨rfl, rfl⟩, rfl⟩) ?_
   (with_reducible refine HS.out.mono ?_); rintro e w2 ⟨rfl, hb2⟩
   exact ⟨_, rfl, qar hb2 rfl (fun h => by cases h)⟩
  ·intro vals w1 hb hd
   rw [show vals 1 = .bool false from hd 1 (by kernel_rfl)]
   refine qSv (.bool false) (by go_simp) (qLk rfl rfl)
  ·exact fun vals w1 _ hd => qau (qas rfl rfl (congrArg some (show KEq (.bool false) (vals 2) w1 from hd 2 (by kernel_rfl))) rfl) (qLk rfl rfl)
  ·exact fun vals w1 _ hd => qau (qas rfl rfl (congrArg some (show KEq (.bool false) (vals 2) w1 from hd 2 (by kernel_rfl))) rfl) (qLk rfl rfl)
  ·exact fun vals w1 _ hd => qau (qas rfl rfl (congrArg some (show KEq (.bool false) (vals 2) w1 from hd 2 (by kernel_rfl))) rfl) (qLk rfl rfl)
  ·intro vals w1 hb hd
   rw [show vals 2 = .bool false from hd 2 (by kernel_rfl)]
   refine qSv (.bool false) (by go_simp) (qLk rfl rfl)
  ·intro vals w1 hb hd
   rw [show vals 6 = .bool false from hd 6 (by kernel_rfl)]
   refine qSv (.bool false) (by go_simp) (qLk rfl rfl)
  ·exact fun vals w1 _ hd => qau (qas rfl rfl (congrArg some (show KEq (.bool false) (vals 7) w1 from hd 7 (by kernel_rfl))) rfl) (qLk rfl rfl)
  ·exact fun vals w1 _ hd => qau (qas rfl rfl (congrArg some (show KEq (.bool false) (vals 7) w1 from hd 7 (by kernel_rfl))) rfl) (qLk rfl rfl)
  ·exact fun vals w1 _ hd => qau (qas rfl rfl (congrArg some (show KEq (.bool false) (vals 7) w1 from hd 7 (by kernel_rfl))) rfl) (qLk rfl rfl)
  ·exact fun vals w1 _ hd => qau (qas rfl rfl (congrArg some (show KEq (.bool false) (vals 7) w1 from hd 7 (by kernel_rfl))) rfl) (qLk rfl rfl)
  ·intro vals w1 hb hd
   rw [show vals 7 = .bool false from hd 7 (by kernel_rfl)]
   refine qSv (.bool false) (by go_simp) (qLk rfl rfl)
 case tl0 =>
  intro vals w1 hb1 hf hdis
  simp only [List.drop_succ_cons, List.drop_zero]
  have ee12 : vals 12 = .bool false := hf 12 (by decide)
  rw [ee12]; clear ee12
  clear hf hdis
  have HB1 := qHd (HB0.out.step hb1)
  have Fp := qHd (Fp.out.below hb1)
  have Fraw := qHd (Fraw.out.below hb1)
  have BXp := qHd (qaa BXp.out hb1)
  clear hb1
  go_wp2_with fail
  go_ret
  exact ⟨by first | rfl | (simp; done), HB1.out⟩
theorem rprob_neg (vp : Value) (p : Rat) (w : World) (hp : qbs w vp p) {sr : Bool} {ar br : List Nat} (hr : RatV w vp sr ar br) (hla : ar.length ≤ 100000) (hlb : br.length ≤ 100000) (hpe : p = rq sr ar br) (hv : Vld sr ar br) (hq : p < 0) (_hp2 : rl p ≤ 40000) :
  Calls Tryz.prog 85 #[vp] w (qea w (.bool (prB sr ar br))) := by
 obtain ⟨sp, op, np, cp, ap, mp, dp, rfl⟩ := hp.shape
 have hlp := hp.rl
 rw [prB_neg (by rw [← hpe]; exact hq)]
 have HV := qHd (decide_eq_true hv)
 have hsg : sg p = -1 := by unfold sg; rw [if_pos hq]
 have HSG := qHd hsg; clear hsg hv hpe hq
 have hb0 := ((Below.refl w.heap.size w).alloc (by first | (simp; done) | (simp; omega)) (.cells #[.bool sp, .slice op np cp, .slice ap mp dp] 54))
 have hxp := qfl w (.cells #[.bool sp, .slice op np cp, .slice ap mp dp] 54)
 have hpp := hp.below hb0
 have hpraw := hr.below hb0
 obtain ⟨w0, hw0⟩ : ∃ w0, w0 = (w.alloc (.cells #[.bool sp, .slice op np cp, .slice ap mp dp] 54)) := ⟨_, rfl⟩
 rw [← hw0] at hb0 hxp hpp hpraw
 have HB0 := qHd hb0; have HW0 := qHd hw0
 have BXp := qHd hxp
 have Fp := qHd hpp
 have Fraw := qHd hpraw; clear hpraw hr
 clear hb0 hw0 hxp hpp hp
 have hr1 : rl ((1 : Int) : Rat) ≤ 2 := rl_small (by decide) (by decide)
 go_enter Tryz.func85, Tryz.ntmps85
 go_wp2_with fail
 rw [← HW0.out]
 have lwp := qaw BXp.out
 refine qao (A := ?aa0) (w := w0) 13 [] (by kernel_rfl) (Fl [KEq (.agg #[.bool sp, .slice op np cp, .slice ap mp dp]), KEq (.bool true), KEq (.bool true), KEq (.agg #[.bool sp, .slice op np cp, .slice ap mp dp]), KEq (.int .i64 (-1)), KEq (.bool false), KEq (.bool false), KEq (.bool false), KEq (undef), KEq (undef), KEq (undef), KEq (undef), KEq (.bool false)]) (fun i => false) (by kernel_rfl) (fun _ _ _ _ _ h => h) (qcw (qae (kEq _) (qae (kEq _) (qae (kEq _) (qae (kEq _) (qae (kEq _) (qae (kEq _) (qae (kEq _) (qae (kEq _) (qae (kEq _) (qae (kEq _) (qae (kEq _) (qae (kEq _) (qae (kEq _) qcv)))))))))))))) ?ha0 ?st0 ?tl0
 case ha0 =>
  intro vals
  simp only [qba, qcd, if_true, Act.put, List.setIfInBounds_toArray, List.set_cons_zero, List.set_cons_succ, List.getElem?_toArray, List.getElem?_cons_zero, List.getElem?_cons_succ, Option.bind_some]
  exact rfl
 case st0 =>
  simp only [List.take_succ_cons, List.take_zero]
  refine qab rfl rfl ?_ (qab rfl rfl ?_ (qab rfl rfl ?_ (qac rfl ?_ (qac rfl ?_ (qac rfl ?_ (qab rfl rfl ?_ (qab rfl rfl ?_ (qac rfl ?_ (qac rfl ?_ (qac rfl ?_ (qac rfl ?_ (qab rfl rfl ?_ (qav)))))))))))))
  ·intro vals w1 hb hd
   obtain ⟨e0, e1, e2⟩ := qay (qaa BXp.out hb)
   refine qSv (.agg #[.bool sp, .slice op np cp, .slice ap mp dp]) (by go_simp) (qLk rfl rfl)
  ·intro vals w1 hb hd
   have d0 : KEq (.agg #[.bool sp, .slice op np cp, .slice ap mp dp]) (vals 0) w1 := hd 0 (by kernel_rfl)
   have r0 : qbs w1 (vals 0) (p) := by rw [show vals 0 = _ from d0]; exact Fp.out.below hb
   have hs := rvalid_any (vals 0) _ ar br w1 (by rw [show vals 0 = _ from d0]; exact Fraw.out.below hb) (by omega) (by omega)
   rw [HV.out] at hs
   have HS := qHd hs; clear hs
   clear d0 hd
   refine qat (by go_simp; first | done | exact ⟨⟨rfl, rfl⟩, rfl⟩) ?_
   (with_reducible refine HS.out.mono ?_); rintro e w2 ⟨rfl, hb2⟩
   exact ⟨_, rfl, qar hb2 rfl (fun h => by cases h)⟩
  ·intro vals w1 hb hd
   rw [show vals 1 = .bool true from hd 1 (by kernel_rfl)]
   refine qSv (.bool true) (by go_simp) (qLk rfl rfl)
  ·intro vals w1 hb hd
   refine qam (qal rfl rfl (congrArg some (show KEq (.bool true) (vals 2) w1 from hd 2 (by kernel_rfl))) rfl) ?_
   obtain ⟨e0, e1, e2⟩ := qay (qaa BXp.out hb)
   refine qSv (.agg #[.bool sp, .slice op np cp, .slice ap mp dp]) (by go_simp) (qLk rfl rfl)
  ·intro vals w1 hb hd
   have d3 : KEq (.agg #[.bool sp, .slice op np cp, .slice ap mp dp]) (vals 3) w1 := hd 3 (by kernel_rfl)
   have r3 : qbs w1 (vals 3) (p) := by rw [show vals 3 = _ from d3]; exact Fp.out.below hb
   refine qam (qal rfl rfl (congrArg some (show KEq (.bool true) (vals 2) w1 from hd 2 (by kernel_rfl))) rfl) ?_
   have hs := rsign_any _ p w1 r3
   rw [HSG.out] at hs
   have HS := qHd hs; clear hs
   clear d3 hd
   refine qat (by go_simp; first | done | exact ⟨⟨rfl, rfl⟩, rfl⟩) ?_
   (with_reducible refine HS.out.mono ?_); rintro e w2 ⟨rfl, hb2⟩
   exact ⟨_, rfl, qar hb2 rfl (fun h => by cases h)⟩
  ·intro vals w1 hb hd
   refine qam (qal rfl rfl (congrArg some (show KEq (.bool true) (vals 2) w1 from hd 2 (by kernel_rfl))) rfl) ?_
   rw [show vals 4 = .int .i64 (-1) from hd 4 (by kernel_rfl)]
   refine qSv (.bool false) (by go_simp) (qLk rfl rfl)
  ·intro vals w1 hb hd
   rw [show vals 2 = .bool true from hd 2 (by kernel_rfl)]
   rw [show vals 5 = .bool false from hd 5 (by kernel_rfl)]
   refine qSv (.bool false) (by go_simp) (qLk rfl rfl)
  ·intro vals w1 hb hd
   rw [show vals 6 = .bool false from hd 6 (by kernel_rfl)]
   refine qSv (.bool false) (by go_simp) (qLk rfl rfl)
  ·exact fun vals w1 _ hd => qau (qas rfl rfl (congrArg some (show KEq (.bool false) (vals 7) w1 from hd 7 (by kernel_rfl))) rfl) (qLk rfl rfl)
  ·exact fun vals w1 _ hd => qau (qas rfl rfl (congrArg some (show KEq (.bool false) (vals 7) w1 from hd 7 (by kernel_rfl))) rfl) (qLk rfl rfl)
  ·exact fun vals w1 _ hd => qau (qas rfl rfl (congrArg some (show KEq (.bool false) (vals 7) w1 from hd 7 (by kernel_rfl))) rfl) (qLk rfl rfl)
  ·exact fun vals w1 _ hd => qau (qas rfl rfl (congrArg some (show KEq (.bool false) (vals 7) w1 from hd 7 (by kernel_rfl))) rfl) (qLk rfl rfl)
  ·intro vals w1 hb hd
   rw [show vals 7 = .bool false from hd 7 (by kernel_rfl)]
   refine qSv (.bool false) (by go_simp) (qLk rfl rfl)
 case tl0 =>
  intro vals w1 hb1 hf hdis
  simp only [List.drop_succ_cons, List.drop_zero]
  have ee12 : vals 12 = .bool false := hf 12 (by decide)
  rw [ee12]; clear ee12
  clear hf hdis
  have HB1 := qHd (HB0.out.step hb1)
  have Fp := qHd (Fp.out.below hb1)
  have Fraw := qHd (Fraw.out.below hb1)
  have BXp := qHd (qaa BXp.out hb1)
  clear hb1
  go_wp2_with fail
  go_ret
  exact ⟨by first | rfl | (simp; done), HB1.out⟩
theorem rprob_in (vp : Value) (p : Rat) (w : World) (hp : qbs w vp p) {sr : Bool} {ar br : List Nat} (hr : RatV w vp sr ar br) (hla : ar.length ≤ 100000) (hlb : br.length ≤ 100000) (hpe : p = rq sr ar br) (hv : Vld sr ar br) (hq : 0 ≤ p) (hp2 : rl p ≤ 40000) :
  Calls Tryz.prog 85 #[vp] w (qea w (.bool (prB sr ar br))) := by
 obtain ⟨sp, op, np, cp, ap, mp, dp, rfl⟩ := hp.shape
 have hlp := hp.rl
 rw [prB_of hv (by rw [← hpe]; exact hq), ← hpe]
 have HV := qHd (decide_eq_true hv)
 have hsg : 0 ≤ sg p := by unfold sg; rw [if_neg (by grind)]; split <;> decide
 obtain ⟨s, hs⟩ : ∃ s, s = sg p := ⟨_, rfl⟩; rw [← hs] at hsg
 have t1 : decide (0 ≤ s) = true := decide_eq_true hsg
 obtain ⟨c, hc⟩ : ∃ c, c = cq p 1 := ⟨_, rfl⟩
 rw [← hc]
 obtain ⟨r, hrr⟩ : ∃ r, r = decide (c ≤ 0) := ⟨_, rfl⟩
 rw [← hrr]
 have hr2 : decide (c ≤ 0) = r := hrr.symm
 have HSG := qHd hs; have HC := qHd hc; clear hs hc hrr hsg hv hpe hq
 have hb0 := ((Below.refl w.heap.size w).alloc (by first | (simp; done) | (simp; omega)) (.cells #[.bool sp, .slice op np cp, .slice ap mp dp] 54))
 have hxp := qfl w (.cells #[.bool sp, .slice op np cp, .slice ap mp dp] 54)
 have hpp := hp.below hb0
 have hpraw := hr.below hb0
 obtain ⟨w0, hw0⟩ : ∃ w0, w0 = (w.alloc (.cells #[.bool sp, .slice op np cp, .slice ap mp dp] 54)) := ⟨_, rfl⟩
 rw [← hw0] at hb0 hxp hpp hpraw
 have HB0 := qHd hb0; have HW0 := qHd hw0
 have BXp := qHd hxp
 have Fp := qHd hpp
 have Fraw := qHd hpraw; clear hpraw hr
 clear hb0 hw0 hxp hpp hp
 have hr1 : rl ((1 : Int) : Rat) ≤ 2 := rl_small (by decide) (by decide)
 go_enter Tryz.func85, Tryz.ntmps85
 go_wp2_with fail
 rw [← HW0.out]
 have lwp := qaw BXp.out
 refine qao (A := ?aa0) (w := w0) 13 [] (by kernel_rfl) (Fl [KEq (.agg #[.bool sp, .slice op np cp, .slice ap mp dp]), KEq (.bool true), KEq (.bool true), KEq (.agg #[.bool sp, .slice op np cp, .slice ap mp dp]), KEq (.int .i64 s), KEq (.bool true), KEq (.bool true), KEq (.bool true), KEq (.agg #[.bool sp, .slice op np cp, .slice ap mp dp]), KIs (((1 : Int) : Rat)), KEq (.int .i64 c), KEq (.bool r), KEq (.bool r)]) (fun i => false) (by kernel_rfl) (fun _ _ _ _ _ h => h) (qcw (qae (kEq _) (qae (kEq _) (qae (kEq _) (qae (kEq _) (qae (kEq _) (qae (kEq _) (qae (kEq _) (qae (kEq _) (qae (kEq _) (qae (kIs _) (qae (kEq _) (qae (kEq _) (qae (kEq _) qcv)))))))))))))) ?ha0 ?st0 ?tl0
 case ha0 =>
  intro vals
  simp only [qba, qcd, if_true, Act.put, List.setIfInBounds_toArray, List.set_cons_zero, List.set_cons_succ, List.getElem?_toArray, List.getElem?_cons_zero, List.getElem?_cons_succ, Option.bind_some]
  exact rfl
 case st0 =>
  simp only [List.take_succ_cons, List.take_zero]
  refine qab rfl rfl ?_ (qab rfl rfl ?_ (qab rfl rfl ?_ (qac rfl ?_ (qac rfl ?_ (qac rfl ?_ (qab rfl rfl ?_ (qab rfl rfl ?_ (qac rfl ?_ (qac rfl ?_ (qac rfl ?_ (qac rfl ?_ (qab rfl rfl ?_ (qav)))))))))))))
  ·intro vals w1 hb hd
   obtain ⟨e0, e1, e2⟩ := qay (qaa BXp.out hb)
   refine qSv (.agg #[.bool sp, .slice op np cp, .slice ap mp dp]) (by go_simp) (qLk rfl rfl)
  ·intro vals w1 hb hd
   have d0 : KEq (.agg #[.bool sp, .slice op np cp, .slice ap mp dp]) (vals 0) w1 := hd 0 (by kernel_rfl)
   have r0 : qbs w1 (vals 0) (p) := by rw [show vals 0 = _ from d0]; exact Fp.out.below hb
   have hs := rvalid_any (vals 0) _ ar br w1 (by rw [show vals 0 = _ from d0]; exact Fraw.out.below hb) (by omega) (by omega)
   rw [HV.out] at hs
   have HS := qHd hs; clear hs
   clear d0 hd
   refine qat (by go_simp; first | done | exact ⟨⟨rfl, rfl⟩, rfl⟩) ?_
   (with_reducible refine HS.out.mono ?_); rintro e w2 ⟨rfl, hb2⟩
   exact ⟨_, rfl, qar hb2 rfl (fun h => by cases h)⟩
  ·intro vals w1 hb hd
   rw [show vals 1 = .bool true from hd 1 (by kernel_rfl)]
   refine qSv (.bool true) (by go_simp) (qLk rfl rfl)
  ·intro vals w1 hb hd
   refine qam (qal rfl rfl (congrArg some (show KEq (.bool true) (vals 2) w1 from hd 2 (by kernel_rfl))) rfl) ?_
   obtain ⟨e0, e1, e2⟩ := qay (qaa BXp.out hb)
   refine qSv (.agg #[.bool sp, .slice op np cp, .slice ap mp dp]) (by go_simp) (qLk rfl rfl)
  ·intro vals w1 hb hd
   have d3 : KEq (.agg #[.bool sp, .slice op np cp, .slice ap mp dp]) (vals 3) w1 := hd 3 (by kernel_rfl)
   have r3 : qbs w1 (vals 3) (p) := by rw [show vals 3 = _ from d3]; exact Fp.out.below hb
   refine qam (qal rfl rfl (congrArg some (show KEq (.bool true) (vals 2) w1 from hd 2 (by kernel_rfl))) rfl) ?_
   have hs := rsign_any _ p w1 r3
   rw [← HSG.out] at hs
   have HS := qHd hs; clear hs
   clear d3 hd
   refine qat (by go_simp; first | done | exact ⟨⟨rfl, rfl⟩, rfl⟩) ?_
   (with_reducible refine HS.out.mono ?_); rintro e w2 ⟨rfl, hb2⟩
   exact ⟨_, rfl, qar hb2 rfl (fun h => by cases h)⟩
  ·intro vals w1 hb hd
   refine qam (qal rfl rfl (congrArg some (show KEq (.bool true) (vals 2) w1 from hd 2 (by kernel_rfl))) rfl) ?_
   rw [show vals 4 = .int .i64 s from hd 4 (by kernel_rfl)]
   refine qSv (.bool true) (by go_simp) (qLk rfl rfl)
  ·intro vals w1 hb hd
   rw [show vals 2 = .bool true from hd 2 (by kernel_rfl)]
   rw [show vals 5 = .bool true from hd 5 (by kernel_rfl)]
   refine qSv (.bool true) (by go_simp) (qLk rfl rfl)
  ·intro vals w1 hb hd
   rw [show vals 6 = .bool true from hd 6 (by kernel_rfl)]
   refine qSv (.bool true) (by go_simp) (qLk rfl rfl)
  ·intro vals w1 hb hd
   refine qam (qal rfl rfl (congrArg some (show KEq (.bool true) (vals 7) w1 from hd 7 (by kernel_rfl))) rfl) ?_
   obtain ⟨e0, e1, e2⟩ := qay (qaa BXp.out hb)
   refine qSv (.agg #[.bool sp, .slice op np cp, .slice ap mp dp]) (by go_simp) (qLk rfl rfl)
  ·intro vals w1 hb hd
   refine qam (qal rfl rfl (congrArg some (show KEq (.bool true) (vals 7) w1 from hd 7 (by kernel_rfl))) rfl) ?_
   have hs := rofq_any 1 w1 (by decide) (by decide)
   have HS := qHd hs; clear hs
   refine qat (by go_simp; first | done | exact ⟨⟨rfl, rfl⟩, rfl⟩) ?_
   (with_reducible refine HS.out.mono ?_); rintro e w2 ⟨v, rfl, hb2, hn⟩
   exact ⟨v, rfl, qar hb2 hn (fun h => by cases h)⟩
  ·intro vals w1 hb hd
   have d8 : KEq (.agg #[.bool sp, .slice op np cp, .slice ap mp dp]) (vals 8) w1 := hd 8 (by kernel_rfl)
   have r8 : qbs w1 (vals 8) (p) := by rw [show vals 8 = _ from d8]; exact Fp.out.below hb
   have d9 : KIs (((1 : Int) : Rat)) (vals 9) w1 := hd 9 (by kernel_rfl)
   have r9 : qbs w1 (vals 9) (((1 : Int) : Rat)) := IsR.is d9 (by omega)
   refine qam (qal rfl rfl (congrArg some (show KEq (.bool true) (vals 7) w1 from hd 7 (by kernel_rfl))) rfl) ?_
   have hs := rcmpq_any _ p _ 1 w1 r8 r9 hp2 (by rw [rl_one]; decide)
   rw [← HC.out] at hs
   have HS := qHd hs; clear hs
   clear d8 d9 hd
   refine qat (by go_simp; first | done | exact ⟨⟨rfl, rfl⟩, rfl⟩) ?_
   (with_reducible refine HS.out.mono ?_); rintro e w2 ⟨rfl, hb2⟩
   exact ⟨_, rfl, qar hb2 rfl (fun h => by cases h)⟩
  ·intro vals w1 hb hd
   refine qam (qal rfl rfl (congrArg some (show KEq (.bool true) (vals 7) w1 from hd 7 (by kernel_rfl))) rfl) ?_
   rw [show vals 10 = .int .i64 c from hd 10 (by kernel_rfl)]
   refine qSv (.bool r) (by go_simp) (qLk rfl rfl)
  ·intro vals w1 hb hd
   rw [show vals 7 = .bool true from hd 7 (by kernel_rfl)]
   rw [show vals 11 = .bool r from hd 11 (by kernel_rfl)]
   refine qSv (.bool r) (by go_simp) (qLk rfl rfl)
 case tl0 =>
  intro vals w1 hb1 hf hdis
  simp only [List.drop_succ_cons, List.drop_zero]
  have ee12 : vals 12 = .bool r := hf 12 (by decide)
  rw [ee12]; clear ee12
  clear hf hdis
  have HB1 := qHd (HB0.out.step hb1)
  have Fp := qHd (Fp.out.below hb1)
  have Fraw := qHd (Fraw.out.below hb1)
  have BXp := qHd (qaa BXp.out hb1)
  clear hb1
  go_wp2_with fail
  go_ret
  exact ⟨by first | rfl | (simp; done), HB1.out⟩
theorem rprob_any (v : Value) (s : Bool) (a b : List Nat) (w : World) (h : RatV w v s a b) (hla : a.length ≤ 40000) (hlb : b.length ≤ 40000) :
  Calls Tryz.prog 85 #[v] w (qea w (.bool (prB s a b))) := by
 have hi : qbs w v (rq s a b) := h.is (by omega) (by omega)
 have hl : rl (rq s a b) ≤ 40000 := rl_rq h.lt.1 h.lt.2 hla hlb (by decide)
 by_cases hv : Vld s a b
 ·by_cases hq : rq s a b < 0
  ·exact rprob_neg v _ w hi h (by omega) (by omega) rfl hv hq hl
  ·exact rprob_in v _ w hi h (by omega) (by omega) rfl hv (by grind) hl
 ·exact rprob_no v _ w hi h (by omega) (by omega) rfl hv hl
end Go.Proofs.YthhgfhdmfhnklaaGreatDoor
namespace Go.Proofs.YthhgfhdmfhnklaaGreatDoor
open Go.RowKit Go.ChangeShapes Go.WideShapes Go.Deep
section
variable {H : Type} {enc : TypeId × Value → H} {P : Program} {W : World}
theorem kidsAt_of {w : World} {b : Nat} : ∀ (ts : List Tr) (off : Nat), (∀ (j : Nat) t, ts[j]? = some t → TrAt w b (off + j * 3) t) → qeb w b off ts
 | [], _, _ => by simp only [qeb]
 | t :: ts, off, h => by
  simp only [qeb]
  refine ⟨by simpa using h 0 t rfl, kidsAt_of ts (off + 3) (fun j x hj => ?_)⟩
  have := h (j + 1) x (by simpa using hj)
  rw [show off + (j + 1) * 3 = off + 3 + j * 3 from by omega] at this
  exact this
end
end Go.Proofs.YthhgfhdmfhnklaaGreatDoor
namespace Go.Proofs.YthhgfhdmfhnklaaGreatDoor
open Go.RowKit Go.ChangeShapes Go.WideShapes
def SpIs (w : World) (v : Value) (S : Rat × Rat) : Prop :=
 ∃ s a b t c d, SpV w v s a b t c d ∧ sq s a b t c d = S ∧ a.length ≤ 40000 ∧ b.length ≤ 40000 ∧ c.length ≤ 40000 ∧ d.length ≤ 40000
theorem SpV.below {w w' : World} {v : Value} {s t : Bool} {a b c d : List Nat} (h : SpV w v s a b t c d) (hb : Below w.heap.size w w') : SpV w' v s a b t c d := by
 obtain ⟨x0, x1, x2, x3, x4, x5, e, h1, h2⟩ := h
 exact ⟨x0, x1, x2, x3, x4, x5, e, h1.below hb, h2.below hb⟩
theorem SpIs.below {w w' : World} {v : Value} {S : Rat × Rat} (h : SpIs w v S) (hb : Below w.heap.size w w') : SpIs w' v S := by
 obtain ⟨s, a, b, t, c, d, h1, h2⟩ := h
 exact ⟨s, a, b, t, c, d, h1.below hb, h2⟩
theorem sq_ok (s : Bool) (a b : List Nat) (t : Bool) (c d : List Nat) : (sq s a b t c d).1 ≤ (sq s a b t c d).2 := by
 unfold sq; split
 ·rename_i h; exact h.2.2
 ·exact Rat.le_refl
theorem SpIs.ok {w : World} {v : Value} {S : Rat × Rat} (h : SpIs w v S) : S.1 ≤ S.2 := by
 obtain ⟨s, a, b, t, c, d, h1, h2, _⟩ := h
 rw [← h2]; exact sq_ok _ _ _ _ _ _
theorem IsSp.is {w : World} {v : Value} {S : Rat × Rat} (h : IsSp w v S) (hle : S.1 ≤ S.2) (l1 : rl S.1 ≤ 40000) (l2 : rl S.2 ≤ 40000) : SpIs w v S := by
 obtain ⟨x0, x1, x2, x3, x4, x5, e, h1, h2⟩ := h
 refine ⟨_, _, _, _, _, _, ⟨x0, x1, x2, x3, x4, x5, e, h1, h2⟩, ?_, Nat.le_trans (rl_n _) l1, Nat.le_trans (dn_len _) l1, Nat.le_trans (rl_n _) l2, Nat.le_trans (dn_len _) l2⟩
 obtain ⟨v1, e1⟩ := vld_self S.1
 obtain ⟨v2, e2⟩ := vld_self S.2
 unfold sq
 rw [e1, e2, if_pos ⟨v1, v2, hle⟩]
theorem SpV.lt {w : World} {v : Value} {s t : Bool} {a b c d : List Nat} (h : SpV w v s a b t c d) : (U32 a ∧ U32 b) ∧ U32 c ∧ U32 d := by
 obtain ⟨x0, x1, x2, x3, x4, x5, e, h1, h2⟩ := h
 exact ⟨h1.lt, h2.lt⟩
theorem rl_sq {s t : Bool} {a b c d : List Nat} {L : Nat} (ha : U32 a) (hb : U32 b) (hc : U32 c) (hd : U32 d) (h1 : a.length ≤ L) (h2 : b.length ≤ L) (h3 : c.length ≤ L) (h4 : d.length ≤ L) (hL : 1 ≤ L) : rl (sq s a b t c d).1 ≤ L ∧ rl (sq s a b t c d).2 ≤ L := by
 unfold sq; split
 ·exact ⟨rl_rq ha hb h1 h2 hL, rl_rq hc hd h3 h4 hL⟩
 ·show rl 0 ≤ L ∧ rl 0 ≤ L
  rw [qeo]; exact ⟨hL, hL⟩
theorem SpIs.rl {w : World} {v : Value} {S : Rat × Rat} (h : SpIs w v S) : rl S.1 ≤ 40000 ∧ rl S.2 ≤ 40000 := by
 obtain ⟨s, a, b, t, c, d, h0, rfl, h1, h2, h3, h4⟩ := h
 obtain ⟨⟨u1, u2⟩, u3, u4⟩ := h0.lt
 exact rl_sq u1 u2 u3 u4 h1 h2 h3 h4 (by decide)
theorem isSp_zero (w : World) : IsSp w (.agg #[.bool false, .slice none 0 0, .slice none 0 0, .bool false, .slice none 0 0, .slice none 0 0]) (0, 0) :=
 ⟨_, _, _, _, _, _, rfl, qdg w, qdg w⟩
theorem SpIs.shape {w : World} {v : Value} {S : Rat × Rat} (h : SpIs w v S) : ∃ s ao n c bo m d s' ao' n' c' bo' m' d', v = .agg #[.bool s, .slice ao n c, .slice bo m d, .bool s', .slice ao' n' c', .slice bo' m' d'] := by
 obtain ⟨s, a, b, t, c, d, h1, _⟩ := h
 exact h1.shape
theorem spV_ends {w : World} {x0 x1 x2 x3 x4 x5 : Value} {s t : Bool} {a b c d : List Nat} (h : SpV w (.agg #[x0, x1, x2, x3, x4, x5]) s a b t c d) : RatV w (.agg #[x0, x1, x2]) s a b ∧ RatV w (.agg #[x3, x4, x5]) t c d := by
 obtain ⟨y0, y1, y2, y3, y4, y5, e, h1, h2⟩ := h
 have e' : x0 = y0 ∧ x1 = y1 ∧ x2 = y2 ∧ x3 = y3 ∧ x4 = y4 ∧ x5 = y5 := by simpa using e
 obtain ⟨rfl, rfl, rfl, rfl, rfl, rfl⟩ := e'
 exact ⟨h1, h2⟩
def RetSp (w : World) (S : Rat × Rat) (e : Ending) (w' : World) : Prop := ∃ v, e = .returned v ∧ Below w.heap.size w w' ∧ IsSp w' v S
/-! six cells -/
section
variable {w w' : World} {g off : Nat} {l : List Value} {cs : Array Value} {T : TypeId} {v : Value} {q : Rat} {s t : Bool} {a b c d : List Nat} {S : Rat × Rat}
theorem putL_R (hw : w' = qel w g off l) (h : qbs w v q) (hg : w.heap[g]? = some (.cells cs T)) (hc : noW cs) : qbs w' v q := by
 obtain ⟨s, a, b, h1, h2⟩ := h
 exact ⟨s, a, b, putL_V hw h1 hg hc, h2⟩
theorem putL_SV (hw : w' = qel w g off l) (h : SpV w v s a b t c d) (hg : w.heap[g]? = some (.cells cs T)) (hc : noW cs) : SpV w' v s a b t c d := by
 obtain ⟨x0, x1, x2, x3, x4, x5, e, h1, h2⟩ := h
 exact ⟨x0, x1, x2, x3, x4, x5, e, putL_V hw h1 hg hc, putL_V hw h2 hg hc⟩
theorem putL_SI (hw : w' = qel w g off l) (h : IsSp w v S) (hg : w.heap[g]? = some (.cells cs T)) (hc : noW cs) : IsSp w' v S := by
 obtain ⟨x0, x1, x2, x3, x4, x5, e, h1, h2⟩ := h
 exact ⟨x0, x1, x2, x3, x4, x5, e, qbq hw h1 hg hc, qbq hw h2 hg hc⟩
theorem putL_SS (hw : w' = qel w g off l) (h : SpIs w v S) (hg : w.heap[g]? = some (.cells cs T)) (hc : noW cs) : SpIs w' v S := by
 obtain ⟨s, a, b, t, c, d, h1, h2⟩ := h
 exact ⟨s, a, b, t, c, d, putL_SV hw h1 hg hc, h2⟩
end
theorem putL_0 {w : World} {g : Nat} {x0 x1 x2 x3 x4 x5 y0 y1 y2 : Value} {T : TypeId} (h : w.heap[g]? = some (.cells #[x0, x1, x2, x3, x4, x5] T)) : (qel w g 0 [y0, y1, y2]).heap[g]? = some (.cells #[y0, y1, y2, x3, x4, x5] T) := by
 simp [qel, World.setCell, Array.getElem?_modify, h]
theorem putL_3 {w : World} {g : Nat} {x0 x1 x2 x3 x4 x5 y0 y1 y2 : Value} {T : TypeId} (h : w.heap[g]? = some (.cells #[x0, x1, x2, x3, x4, x5] T)) : (qel w g 3 [y0, y1, y2]).heap[g]? = some (.cells #[x0, x1, x2, y0, y1, y2] T) := by
 simp [qel, World.setCell, Array.getElem?_modify, h]
def KSp (S : Rat × Rat) : Value → World → Prop := fun v w => IsSp w v S
theorem kSp (S : Rat × Rat) : MonoF (KSp S) := fun _ _ _ h hb => IsSp.below h hb
theorem ret_span {fn : Func} {R : Ending → World → Prop} {a : Act} {w : World} {p : Tmp} (h : fn.results = #[.cell p 56]) (g : Nat) (x0 x1 x2 x3 x4 x5 : Value)
  (hp : a.tmps.getD p undef = .pointer (some ⟨g, 0, none⟩)) (hg : w.heap[g]? = some (.cells #[x0, x1, x2, x3, x4, x5] 56)) (hd : a.defers = []) (hR : R (.returned (.agg #[x0, x1, x2, x3, x4, x5])) w) : bodyPost Tryz.prog fn R .ret a w :=
 bodyPost_ret (results_cell_row h a.tmps w g 56 _ _ _ hp hg Tryz.underlying56 rfl span_info) hd hR
theorem own_base {w : World} {B B' : Nat} {e : TypeId} {size n : Nat} {v : Value} {xs : List Value} (h : w.ownsRow B e size v n xs) (hB : B' ≤ B) : w.ownsRow B' e size v n xs := by
 obtain ⟨h1, h2⟩ := h
 refine ⟨h1, ?_⟩
 rcases h2 with h2 | ⟨g, cap, cur, hv, hb, r⟩
 ·exact .inl h2
 ·exact .inr ⟨g, cap, cur, hv, Nat.le_trans hB hb, r⟩
section
variable {P : Program} {w : World} {ops : Array Oper} {rest : List Oper} {a : Act} {Q : Exit → Act → World → Prop}
end
theorem own_kids {w : World} {B : Nat} {e : TypeId} {v : Value} {ks : List Tr} {xs : List Value} (h : w.ownsRow B e 3 v ks.length xs)
  (hx : ∀ (j : Nat) t, ks[j]? = some t → ∃ x0 x1 x2, xs[j * 3]? = some x0 ∧ xs[j * 3 + 1]? = some x1 ∧ xs[j * 3 + 2]? = some x2 ∧ TrV w (.agg #[x0, x1, x2]) t) : KidsV w v ks := by
 obtain ⟨ao, c, rfl, h1, h2, h3⟩ := qff h
 refine ⟨ao, c, rfl, h1, h2, h3, ?_⟩
 intro b off s hs
 subst hs
 by_cases h0 : 0 < ks.length
 ·obtain ⟨g, e1, e2, e3, e4, e5, e6⟩ := own_cells h rfl h0
  cases e1
  refine ⟨fun _ => ⟨e3, rfl⟩, kidsAt_of ks 0 (fun j t hj => ?_)⟩
  obtain ⟨x0, x1, x2, k0, k1, k2, k3⟩ := hx j t hj
  rw [Nat.zero_add]
  exact trAt_of k3 (e6 _ _ k0) (e6 _ _ k1) (e6 _ _ k2)
 ·have : ks = [] := List.eq_nil_of_length_eq_zero (by omega)
  subst this
  exact ⟨fun h => absurd h (Nat.lt_irrefl _), by simp only [qeb]⟩
theorem drop_cons_of {α : Type} {l : List α} {q : Nat} {x : α} (h : l[q]? = some x) : l.drop q = x :: l.drop (q + 1) := by
 obtain ⟨h1, h2⟩ := List.getElem?_eq_some_iff.1 h
 rw [List.drop_eq_getElem_cons h1, h2]
def shortR (r : Rv) : Bool := decide (r.a.length ≤ 3) && decide (r.b.length ≤ 3)
def briefB (L : List Rv) : Bool := decide (L.length ≤ 30) && L.all shortR
theorem brief_any (v : Value) (L : List Rv) (w : World) (hl : RvsV w v L) : Calls Tryz.prog 21 #[v] w (qea w (.bool (briefB L))) := by
 obtain ⟨al, cl, rfl, hcl, hcl2, _⟩ := hl.shape
 have HL := qHd hl; clear hl
 by_cases h30 : 30 < L.length
 ·have R := qHd (show briefB L = false by unfold briefB; simp; omega)
  go_enter Tryz.func21, Tryz.ntmps21
  go_wp2_with fail
  go_ret
  exact ⟨by rw [R.out]; rfl, Below.refl _ _⟩
 have h30' : L.length ≤ 30 := by omega
 go_enter Tryz.func21, Tryz.ntmps21
 go_wp2_with fail
 go_loopw [10] (fun i' wx => ∃ q : Nat, q ≤ L.length ∧ i' = .int .i64 q ∧ Hid (Below w.heap.size w wx) ∧ Hid (briefB L = (L.drop q).all shortR)) (fun i' _ => L.length - (intOf i').toNat)
 case atStart => exact ⟨0, Nat.zero_le _, rfl, qHd (Below.refl _ _), qHd (by unfold briefB; simp [h30'])⟩
 case round =>
  obtain ⟨q, hq, rfl, HBo, FB⟩ := hrel
  obtain ⟨wo, rfl⟩ : ∃ wo : World, wo = wr := ⟨_, rfl⟩
  by_cases hlt : q < L.length
  ·obtain ⟨x, hx⟩ : ∃ x, L[q]? = some x := ⟨L[q], List.getElem?_eq_getElem hlt⟩
   obtain ⟨bl, ol, rfl, hbl, hjk, hat⟩ := (HL.out.below HBo.out).at (by omega); clear hjk
   obtain ⟨va, vb, c0, c1, c2, n1, n2⟩ := hat q x hx
   have hmem := List.mem_of_getElem? hx
   have FD := qHd (drop_cons_of hx)
   clear hat hx
   obtain ⟨xs, xa, xb⟩ := x
   simp only at c0 c1 c2 n1 n2
   obtain ⟨ao, ca, rfl, ha1, ha2, _⟩ := n1.shape
   obtain ⟨bo, cb, rfl, hb1, hb2, _⟩ := n2.shape
   obtain ⟨w4, hw4, hb4, g4, hg4, hx4⟩ := qBx5 wo (.cells #[.bool xs, .slice ao xa.length ca, .slice bo xb.length cb] 54)
   have HB4 := qHd (HBo.out.trans (hb4.mono HBo.out.size))
   have HN := qHd (And.intro (n1.below hb4) (n2.below hb4))
   have G4 := qHd hx4
   have hltz : (q : Int) < (L.length : Int) := by omega
   clear hb4 n1 n2
   obtain ⟨z0, z1, z2⟩ := qay hx4
   rw [hw4, hg4] at z0 z1 z2
   rw [FD.out] at FB
   by_cases hA : 3 < xa.length
   ·have R := qHd (show briefB L = false by rw [FB.out]; simp [shortR]; omega)
    go_wp2_with fail
    rw [← hw4]
    go_ret
    exact ⟨by rw [R.out]; rfl, HB4.out⟩
   by_cases hB : 3 < xb.length
   ·have R := qHd (show briefB L = false by rw [FB.out]; simp [shortR]; omega)
    go_wp2_with fail
    rw [← hw4]
    go_ret
    exact ⟨by rw [R.out]; rfl, HB4.out⟩
   have NB := qHd (show briefB L = (L.drop (q + 1)).all shortR by
    rw [FB.out, List.all_cons]; simp [shortR]; omega)
   go_wp2_with fail
   rw [← hw4]
   go_roundw
   case rel => exact ⟨q + 1, by omega, by go_num, HB4, NB⟩
   case measure => simp [intOf]; omega
  ·have hq' : q = L.length := by omega
   subst hq'
   have R := qHd (show briefB L = true by rw [FB.out, List.drop_length]; rfl)
   go_wp2_with fail
   go_ret
   exact ⟨by rw [R.out]; rfl, HBo.out⟩
theorem briefB_sm {L : List Rv} (h : briefB L = true) : L.length ≤ 30 ∧ ∀ r ∈ L, r.a.length ≤ 3 ∧ r.b.length ≤ 3 := by
 unfold briefB at h
 simp only [Bool.and_eq_true, decide_eq_true_eq, List.all_eq_true, shortR] at h
 exact h
def probE (f : Fm) (L : List Rv) : Nat := if (L.length : Int) ≠ f.vars then 11 else if (L.any fun r => !prB r.s r.a r.b) = true then 3 else 0
theorem rprobs_any (vf v : Value) (f : Fm) (L : List Rv) (w : World) (hf : FmV w vf f) (hl : RvsV w v L) (hsm : ∀ r ∈ L, r.a.length ≤ 3 ∧ r.b.length ≤ 3) : Calls Tryz.prog 48 #[vf, v] w (qea w (.int .i64 (probE f L : Nat))) := by
 obtain ⟨nv, rfl, hn, hv, htp⟩ := hf
 obtain ⟨aof, cf, rfl, hcf, hcf2, _⟩ := hn.shape
 obtain ⟨al, cl, rfl, hcl, hcl2, _⟩ := hl.shape
 have HL := qHd hl; have HS := qHd hsm
 obtain ⟨W, hW, hbW, hg1⟩ := qBx3 w (.cells #[.int .i64 f.vars, .slice aof f.nodes.length cf, .int .i64 f.top] 24)
 obtain ⟨x0, x1, x2⟩ := qay hg1
 rw [hW] at x0 x1 x2
 have HBW := qHd hbW
 unfold I64 at hv
 clear hbW hg1 hn htp hl hsm
 by_cases h11 : (L.length : Int) = f.vars
 ·have P0 := qHd (show probE f L = if (L.any fun r => !prB r.s r.a r.b) = true then 3 else 0 by unfold probE; rw [if_neg (fun k => k h11)])
  go_enter Tryz.func48, Tryz.ntmps48
  go_wp2_with fail
  rw [← hW]; clear hW x0 x1 x2
  go_loopw [14] (fun i' wx => ∃ q : Nat, q ≤ L.length ∧ i' = .int .i64 q ∧ Hid (Below w.heap.size w wx) ∧ Hid ((L.any fun r => !prB r.s r.a r.b) = (L.drop q).any fun r => !prB r.s r.a r.b)) (fun i' _ => L.length - (intOf i').toNat)
  case atStart => exact ⟨0, Nat.zero_le _, rfl, HBW, qHd rfl⟩
  case round =>
   obtain ⟨q, hq, rfl, HBo, FB⟩ := hrel
   obtain ⟨wo, rfl⟩ : ∃ wo : World, wo = wr := ⟨_, rfl⟩
   by_cases hlt : q < L.length
   ·obtain ⟨x, hx⟩ : ∃ x, L[q]? = some x := ⟨L[q], List.getElem?_eq_getElem hlt⟩
    obtain ⟨bl, ol, rfl, hbl, hjk, hat⟩ := (HL.out.below HBo.out).at (by omega); clear hjk
    obtain ⟨va, vb, c0, c1, c2, n1, n2⟩ := hat q x hx
    have hmem := List.mem_of_getElem? hx
    have FD := qHd (drop_cons_of hx)
    clear hat hx
    obtain ⟨xs, xa, xb⟩ := x
    simp only at c0 c1 c2 n1 n2
    obtain ⟨ao, ca, rfl, ha1, ha2, _⟩ := n1.shape
    obtain ⟨bo, cb, rfl, hb1, hb2, _⟩ := n2.shape
    obtain ⟨w4, hw4, hb4, g4, hg4, hx4⟩ := qBx5 wo (.cells #[.bool xs, .slice ao xa.length ca, .slice bo xb.length cb] 54)
    have HB4 := qHd (HBo.out.trans (hb4.mono HBo.out.size))
    have HN := qHd (And.intro (n1.below hb4) (n2.below hb4))
    have G4 := qHd hx4
    have hltz : (q : Int) < (L.length : Int) := by omega
    clear hb4 n1 n2
    obtain ⟨z0, z1, z2⟩ := qay hx4
    rw [hw4, hg4] at z0 z1 z2
    rw [FD.out] at FB
    have HK := qHd (rprob_any (.agg #[.bool xs, .slice ao xa.length ca, .slice bo xb.length cb]) xs xa xb w4 ⟨_, _, rfl, HN.out.1, HN.out.2⟩ (by have := (HS.out _ hmem).1; simp only at this; omega) (by have := (HS.out _ hmem).2; simp only at this; omega))
    go_wp2_with (with_reducible refine qad ?_)
    rw [← hw4, ← hg4]; clear hw4 hg4 c0 c1 c2 z0 z1 z2 hx4
    refine qap.mk ?_
    (with_reducible refine HK.out.mono ?_); rintro e w5 ⟨rfl, hb5⟩
    have HB5 := qHd (HB4.out.trans (hb5.mono HB4.out.size))
    clear hb5 HK
    cases hp : prB xs xa xb
    ·have R := qHd (show probE f L = 3 by rw [P0.out, FB.out]; simp [hp])
     clear hp
     go_wp2_with fail
     go_ret
     exact ⟨by rw [R.out]; rfl, HB5.out⟩
    ·have NB := qHd (show (L.any fun r => !prB r.s r.a r.b) = (L.drop (q + 1)).any fun r => !prB r.s r.a r.b by rw [FB.out, List.any_cons]; simp [hp])
     clear hp
     go_wp2_with fail
     go_roundw
     case rel => exact ⟨q + 1, by omega, by go_num, HB5, NB⟩
     case measure => simp [intOf]; omega
   ·have hq' : q = L.length := by omega
    subst hq'
    have R := qHd (show probE f L = 0 by rw [P0.out, FB.out, List.drop_length]; rfl)
    go_wp2_with fail
    go_ret
    exact ⟨by rw [R.out]; rfl, HBo.out⟩
 ·have R := qHd (show probE f L = 11 by unfold probE; rw [if_pos h11])
  have h11' : (((L.length : Nat) : Int) != f.vars) = true := bne_iff_ne.2 h11
  go_enter Tryz.func48, Tryz.ntmps48
  go_wp2_with fail
  rw [← hW]
  go_ret
  exact ⟨by rw [R.out]; rfl, HBW.out⟩
def validB (f : Fm) (L : List Rv) : Bool := qfn f (.mk 0 [] 0) && briefB L && decide (qcc f = 0) && decide (probE f L = 0)
theorem trV_zero (w : World) : TrV w (.agg #[.int .i64 0, .slice none 0 0, .int .i64 0]) (.mk 0 [] 0) :=
 ⟨_, rfl, ⟨none, 0, rfl, Nat.le_refl _, by omega, fun _ => rfl, fun b off s h => by cases h⟩, by unfold I64; omega, by unfold I64; omega⟩
theorem valid41_any (vf v : Value) (f : Fm) (L : List Rv) (w : World) (hf : FmV w vf f) (hl : RvsV w v L) : Calls Tryz.prog 18 #[vf, v] w (qea w (.bool (validB f L))) := by
 obtain ⟨nv, rfl, hn, hv, htp⟩ := hf
 obtain ⟨ao, c, rfl, hc, hc2, _⟩ := hn.shape
 have HF := qHd (show FmV w _ f from ⟨_, rfl, hn, hv, htp⟩)
 have HL := qHd hl
 obtain ⟨W, hW, hbW, g1, hG1, hg1⟩ := qBx5 w (.cells #[.int .i64 f.vars, .slice ao f.nodes.length c, .int .i64 f.top] 24)
 have HBW := qHd hbW; have G1 := qHd hg1
 obtain ⟨x0, x1, x2⟩ := qay hg1
 rw [hW, hG1] at x0 x1 x2
 clear hbW hg1 hn hv htp hl
 have HK := qHd (light_any _ (.agg #[.int .i64 0, .slice none 0 0, .int .i64 0]) f (.mk 0 [] 0) W (HF.out.below HBW.out) (trV_zero W))
 obtain ⟨lb, hlb⟩ : ∃ lb, lb = qfn f (.mk 0 [] 0) := ⟨_, rfl⟩
 rw [← hlb] at HK
 have VB := qHd (show validB f L = (lb && briefB L && decide (qcc f = 0) && decide (probE f L = 0)) by rw [hlb]; rfl)
 clear hlb
 go_enter Tryz.func18, Tryz.ntmps18
 go_wp2_with (with_reducible refine qad ?_)
 rw [← hW, ← hG1]; clear hW hG1 x0 x1 x2
 have HB1 := HBW
 refine qap.mk ?_
 (with_reducible refine HK.out.mono ?_); rintro e w1 ⟨rfl, hb1⟩
 have HB1 := qHd (HB1.out.trans (hb1.mono HB1.out.size))
 have G1 := qHd (qaa G1.out hb1)
 clear hb1 HK
 cases lb
 ·have R := qHd (show validB f L = false by rw [VB.out]; simp)
  go_wp2_with fail
  go_ret
  exact ⟨by rw [R.out]; rfl, HB1.out⟩
 have HK := qHd (brief_any _ L w1 (HL.out.below HB1.out))
 obtain ⟨bb, hbb⟩ : ∃ bb, bb = briefB L := ⟨_, rfl⟩
 rw [← hbb] at HK
 go_wp2_with (with_reducible refine qad ?_)
 refine qap.mk ?_
 (with_reducible refine HK.out.mono ?_); rintro e w2 ⟨rfl, hb2⟩
 have HB1 := qHd (HB1.out.trans (hb2.mono HB1.out.size))
 have G1 := qHd (qaa G1.out hb2)
 clear hb2 HK
 cases bb
 ·have R := qHd (show validB f L = false by rw [VB.out, ← hbb]; simp); clear hbb
  go_wp2_with fail
  go_ret
  exact ⟨by rw [R.out]; rfl, HB1.out⟩
 have SM := qHd (briefB_sm hbb.symm).2
 have BB := qHd hbb; clear hbb
 obtain ⟨x0, x1, x2⟩ := qay G1.out
 have HK := qHd (rfcheck_any _ f w2 (HF.out.below HB1.out))
 obtain ⟨fe, hfe⟩ : ∃ fe, fe = qcc f := ⟨_, rfl⟩
 rw [← hfe] at HK
 have FE := qHd hfe; clear hfe
 go_wp2_with (with_reducible refine qad ?_)
 clear x0 x1 x2
 refine qap.mk ?_
 (with_reducible refine HK.out.mono ?_); rintro e w3 ⟨rfl, hb3⟩
 have HB1 := qHd (HB1.out.trans (hb3.mono HB1.out.size))
 have G1 := qHd (qaa G1.out hb3)
 clear hb3 HK
 by_cases h0 : fe = 0
 ·subst h0
  obtain ⟨x0, x1, x2⟩ := qay G1.out
  have HK := qHd (rprobs_any _ _ f L w3 (HF.out.below HB1.out) (HL.out.below HB1.out) SM.out)
  obtain ⟨pe, hpe⟩ : ∃ pe, pe = probE f L := ⟨_, rfl⟩
  rw [← hpe] at HK
  have PE := qHd hpe; clear hpe
  go_wp2_with (with_reducible refine qad ?_)
  clear x0 x1 x2
  refine qap.mk ?_
  (with_reducible refine HK.out.mono ?_); rintro e w4 ⟨rfl, hb4⟩
  have HB1 := qHd (HB1.out.trans (hb4.mono HB1.out.size))
  clear hb4 HK
  by_cases h1 : pe = 0
  ·have R := qHd (show validB f L = true by rw [VB.out, ← BB.out, ← FE.out, ← PE.out, h1]; rfl)
   subst h1
   go_wp2_with fail
   go_ret
   exact ⟨by rw [R.out]; rfl, HB1.out⟩
  ·have R := qHd (show validB f L = false by rw [VB.out, ← PE.out]; simp [h1])
   have h1' : (((pe : Nat) : Int) == 0) = false := by simp [h1]
   have h1'' : ¬ ((pe : Nat) : Int) = 0 := by omega
   go_wp2_with fail
   go_ret
   exact ⟨by rw [R.out]; rfl, HB1.out⟩
 ·have R := qHd (show validB f L = false by rw [VB.out, ← FE.out]; simp [h0])
  have h0'' : ¬ ((fe : Nat) : Int) = 0 := by omega
  go_wp2_with fail
  go_ret
  exact ⟨by rw [R.out]; rfl, HB1.out⟩
theorem lightB_vars {f : Fm} {t : Tr} (h : qfn f t = true) (h0 : qcc f = 0) : f.vars ≤ 8 ∧ f.nodes.length ≤ 20 := by
 unfold qfn at h
 simp only [Bool.and_eq_true, Bool.or_eq_true, decide_eq_true_eq] at h
 rcases h.2.2.2 with k | k
 ·exact absurd h0 k
 ·exact k
structure qgd (f : Fm) (L : List Rv) : Prop where
 v8 : f.vars ≤ 8
 fe : qcc f = 0
 len : (L.length : Int) = f.vars
 pr : ∀ r ∈ L, prB r.s r.a r.b = true
 sm : ∀ r ∈ L, r.a.length ≤ 3 ∧ r.b.length ≤ 3
theorem probE_ok {f : Fm} {L : List Rv} (h : probE f L = 0) : (L.length : Int) = f.vars ∧ ∀ r ∈ L, prB r.s r.a r.b = true := by
 unfold probE at h
 split at h
 ·cases h
 rename_i h1
 split at h
 ·cases h
 rename_i h2
 refine ⟨by omega, fun r hr => ?_⟩
 cases hp : prB r.s r.a r.b
 ·exfalso; apply h2; exact List.any_eq_true.2 ⟨r, hr, by simp [hp]⟩
 ·rfl
theorem validB_parts {f : Fm} {L : List Rv} (h : validB f L = true) : qgd f L := by
 unfold validB at h
 simp only [Bool.and_eq_true, decide_eq_true_eq] at h
 obtain ⟨⟨⟨h1, h2⟩, h3⟩, h4⟩ := h
 exact ⟨(lightB_vars h1 h3).1, h3, (probE_ok h4).1, (probE_ok h4).2, (briefB_sm h2).2⟩
theorem RvsV.lt {w : World} {v : Value} {L : List Rv} (h : RvsV w v L) : ∀ r ∈ L, U32 r.a ∧ U32 r.b := by
 intro r hr
 obtain ⟨j, hj, e⟩ := List.getElem_of_mem hr
 have hx : L[j]? = some r := by rw [List.getElem?_eq_getElem hj, e]
 obtain ⟨ao, c, rfl, hc, hc2, _⟩ := h.shape
 obtain ⟨b, off, rfl, hb, _, hat⟩ := h.at (by omega)
 obtain ⟨va, vb, _, _, _, n1, n2⟩ := hat j r hx
 exact ⟨n1.lt, n2.lt⟩
theorem qgd.rl3 {w : World} {v : Value} {f : Fm} {L : List Rv} (h : qgd f L) (hl : RvsV w v L) : ∀ r ∈ L, r.a.length ≤ 3 ∧ r.b.length ≤ 3 ∧ rl r.q ≤ 3 := fun r hr =>
 ⟨(h.sm r hr).1, (h.sm r hr).2, rl_rq (hl.lt r hr).1 (hl.lt r hr).2 (h.sm r hr).1 (h.sm r hr).2 (by decide)⟩
theorem sErr_of {f : Fm} {t : Tr} {L : List Rv} (h1 : cErr f t = 0) (h2 : (L.length : Int) = f.vars) (h3 : ∀ r ∈ L, prB r.s r.a r.b = true) (h4 : qbj f (qah t 0 0) 0 < 0) : sErr f t L = 0 := by
 unfold sErr
 rw [if_neg (by rw [h1]; decide), if_neg (fun k => k h2), if_neg, if_neg (by omega)]
 intro k
 obtain ⟨r, hr, hk⟩ := List.any_eq_true.1 k
 rw [h3 r hr] at hk; cases hk
theorem qgd.ps {f : Fm} {L : List Rv} (h : qgd f L) : (L.map Rv.q).length = f.vars.toNat ∧ ∀ p ∈ L.map Rv.q, 0 ≤ p ∧ p ≤ 1 := by
 refine ⟨by rw [List.length_map]; have := h.len; omega, fun p hp => ?_⟩
 obtain ⟨r, hr, rfl⟩ := List.mem_map.1 hp
 have := of_decide_eq_true (h.pr r hr)
 exact this.2
theorem bnd_eq {f : Fm} {t : Tr} {L : List Rv} (h : sErr f t L = 0) : bndV f t L = (sumL (L.map Rv.q) (fun x => decide (x.reason = 1)) (qah t 0 0), 1 - sumL (L.map Rv.q) (fun x => decide (x.reason = 0)) (qah t 0 0)) := by
 unfold bndV
 rw [if_pos h, sumF_eq, sumF_eq, Rat.zero_add, Rat.zero_add]
theorem bnd_encl {f : Fm} {t : Tr} {L : List Rv} (hs : sErr f t L = 0) : (bndV f t L).1 ≤ qek f (L.map Rv.q) ∧ qek f (L.map Rv.q) ≤ (bndV f t L).2 := by
 obtain ⟨h1, h2, h3, h4⟩ := qex hs
 obtain ⟨k1, k2, k3, k4⟩ := qds h1
 obtain ⟨p0, p1, p2, p3⟩ := qbe k1
 rw [bnd_eq hs]
 obtain ⟨m, hm⟩ : ∃ m, qbh f.vars t 0 0 = (m, 0) := ⟨(qbh f.vars t 0 0).1, Prod.ext rfl k2⟩
 have hf : qbj f (qah t 0 0) 0 = -1 := by
  rcases firstBad_ge f (qah t 0 0) 0 with k | k
  ·exact k
  ·omega
 exact tree_chance p0 p3 (by rw [List.length_map]; omega) (fun p hp => by
  obtain ⟨r, hr, rfl⟩ := List.mem_map.1 hp
  exact (of_decide_eq_true (h3 r hr)).2) hm ((qez _ _).1 hf)
theorem bnd_le {f : Fm} {t : Tr} {L : List Rv} (hs : sErr f t L = 0) : (bndV f t L).1 ≤ (bndV f t L).2 := Rat.le_trans (bnd_encl hs).1 (bnd_encl hs).2
theorem bnd_rl {f : Fm} {t : Tr} {L : List Rv} (hs : sErr f t L = 0) (hsm : ∀ r ∈ L, r.a.length ≤ 3 ∧ r.b.length ≤ 3 ∧ rl r.q ≤ 3) (hlv : (qah t 0 0).length ≤ 300) : rl (bndV f t L).1 ≤ 39000 ∧ rl (bndV f t L).2 ≤ 39000 := by
 obtain ⟨h1, h2, _, _⟩ := qex hs
 have p1 := (qbe (qds h1).1).2.1
 have a1 := rl_sum (r := 1) (by omega : L.length ≤ 24) hsm hlv
 have a0 := rl_sum (r := 0) (by omega : L.length ≤ 24) hsm hlv
 unfold bndV
 rw [if_pos hs]
 refine ⟨Nat.le_trans a1 (by decide), ?_⟩
 have := rl_sub 1 (sumF (L.map Rv.q) 0 (qah t 0 0) 0)
 rw [rl_one] at this
 show rl (1 - sumF (L.map Rv.q) 0 (qah t 0 0) 0) ≤ 39000
 omega
theorem mk_ok {f : Fm} (h : qcc f = 0) (m : Int) (d : Nat) (e : m = d) (hd : d ≤ 24) : mErr f m = 0 ∧ mTr f m = grT f d 0 0 := by
 subst e
 have h1 : mErr f (d : Int) = 0 := by unfold mErr; rw [if_neg (by rw [h]; decide), if_neg (by omega)]
 refine ⟨h1, ?_⟩
 unfold mTr; rw [if_pos h1, Int.toNat_natCast]
theorem putL_31 {w : World} {g : Nat} {x0 x1 x2 y : Value} {T : TypeId} (h : w.heap[g]? = some (.cells #[x0, x1, x2] T)) : (qel w g 1 [y]).heap[g]? = some (.cells #[x0, y, x2] T) := by
 simp [qel, World.setCell, Array.getElem?_modify, h]
theorem open_words_cell {H : Type} {enc : TypeId × Value → H} {P : Program} {W : World} {t e : TypeId} {v : Value} {x : DataW H × List MemPlace} {fuel : Nat} (ht : P.underlying t = some (.slice e)) (he : P.underlying e = some (.int .u32)) (hc : P.cellsOf e = 1)
  (hf : DataW.trod enc P W 0 (fun _ => true) true fuel t [v] = some x) : ∃ l : List Nat, Num W v l := by
 rcases open_ints ht he hc hf with ⟨hcs, hx⟩ | ⟨a, len', cap', zs, hcs, _, hl, hm, hz, hx, hcell, hwz⟩
 ·have hcs' : v = .slice none 0 0 := by simpa using hcs
  rw [hcs']; exact ⟨[], Num.nil W⟩
 ·have hcs' : v = .slice (some a) len' cap' := by simpa using hcs
  rw [hcs']
  have hz' : len' ≤ zs.length := by rw [hz]; simp; exact hl
  have hgd : ∀ j, j < len' → gd ((zs.take len').map Int.toNat) j = (zs.getD j 0).toNat := fun j hj => by
   simp [gd, List.getD_eq_getElem?_getD, hj, show j < zs.length by omega]
  have hwf : ∀ j, j < zs.length → 0 ≤ zs.getD j 0 ∧ zs.getD j 0 < 4294967296 := fun j hj => by
   have hmem : zs.getD j 0 ∈ zs := by rw [List.getD_eq_getElem?_getD, List.getElem?_eq_getElem hj]; exact List.getElem_mem hj
   have := hwz _ hmem
   simp only [Lit.wf, Bool.and_eq_true, decide_eq_true_eq] at this
   have h1 : IntKind.u32.min = 0 := by decide
   have h2 : IntKind.u32.max = 4294967296 - 1 := by decide
   rw [h1, h2] at this; omega
  have hlen : ((zs.take len').map Int.toNat).length = len' := by rw [List.length_map, List.length_take]; omega
  refine ⟨(zs.take len').map Int.toNat, some a, cap', by rw [hlen], by omega, by unfold maxLen at hm; omega, by simp, ?_, ?_⟩
  ·intro b off s hs
   obtain rfl : a = ⟨b, off, s⟩ := Option.some.inj hs
   have h0 : 0 < len' → b < W.heap.size ∧ s = none := fun h0 => by
    have := hcell 0 (by omega)
    have e0 : (⟨b, off, s⟩ : Addr).add 0 = ⟨b, off, s⟩ := by simp [Addr.add]
    rw [e0] at this
    refine ⟨World.block_lt_of_cell? W _ this, ?_⟩
    cases s with
    | none => rfl
    | some x =>
     unfold World.cell? at this
     split at this <;> simp at this
   refine ⟨fun hh => h0 (by omega), fun j hj => ?_⟩
   rw [hlen] at hj
   obtain ⟨_, rfl⟩ := h0 (by omega)
   have := hcell j (by omega)
   have e2 : (⟨b, off, none⟩ : Addr).add j = ⟨b, off + j, none⟩ := by unfold Addr.add; split <;> simp_all
   rw [e2] at this
   rw [this, hgd j hj]
   have := hwf j (by omega)
   congr 2; omega
  ·intro j
   by_cases hj : j < len'
   ·rw [hgd j hj]; have := hwf j (by omega); omega
   ·rw [gd_over _ _ (by omega)]; omega
theorem bd_u8 {n : Int} (h : (Lit.int .u8 n).wf = true) : 0 ≤ n ∧ n ≤ 255 := by
 simp only [Lit.wf, Bool.and_eq_true, decide_eq_true_eq] at h
 have h1 : IntKind.u8.min = 0 := by decide
 have h2 : IntKind.u8.max = 255 := by decide
 rw [h1, h2] at h; exact h
theorem bnd_exact {f : Fm} {t : Tr} {L : List Rv} (h : qgd f L) (hs : sErr f t L = 0) (hc : ∀ x ∈ qah t 0 0, x.reason ≠ 2) :
  sumF (L.map Rv.q) 1 (qah t 0 0) 0 = qek f (L.map Rv.q) ∧ bndV f t L = (qek f (L.map Rv.q), qek f (L.map Rv.q)) := by
 obtain ⟨h1, h2, h3, h4⟩ := qex hs
 obtain ⟨k1, k2, k3, k4⟩ := qds h1
 obtain ⟨p0, p1, p2, p3⟩ := qbe k1
 obtain ⟨m, hm⟩ : ∃ m, qbh f.vars t 0 0 = (m, 0) := ⟨(qbh f.vars t 0 0).1, Prod.ext rfl k2⟩
 have hf : qbj f (qah t 0 0) 0 = -1 := by
  rcases firstBad_ge f (qah t 0 0) 0 with k | k
  ·exact k
  ·omega
 obtain ⟨e1, e2⟩ := tree_exact p0 p3 h.ps.1 h.ps.2 hm ((qez _ _).1 hf) hc
 refine ⟨by rw [sumF_eq, Rat.zero_add, e1], ?_⟩
 rw [bnd_eq hs, e1, e2]
theorem cq_self (p : Rat) : cq p p = 0 := by unfold cq; rw [if_neg (by grind), if_pos rfl]
def bvals (l : List Nat) : List Value := l.map fun x => Value.bool (decide (x = 1))
theorem bvals_length (l : List Nat) : (bvals l).length = l.length := by simp [bvals]
theorem bvals_app (a b : List Nat) : bvals (a ++ b) = bvals a ++ bvals b := by simp [bvals]
theorem bvals_at {l : List Nat} {j : Nat} (h : j < l.length) : (bvals l)[j]? = some (.bool (decide (gd l j = 1))) := by
 simp [bvals, gd, List.getElem?_eq_getElem h]
theorem set_next {α : Type} (l : List α) (k : Nat) (x z : α) : (l ++ List.replicate (k + 1) z).set l.length x = (l ++ [x]) ++ List.replicate k z := by
 rw [List.set_append, if_neg (by omega), Nat.sub_self, List.replicate_succ, List.set_cons_zero]; simp
theorem ev3_state {V s i : Nat} (hs : s < 2 ^ V) (hi : i < V) : ev3 s (qdd V s) i = if s.testBit i then 1 else 0 := by
 unfold ev3
 rw [compS_bit hs]
 cases s.testBit i <;> simp [hi]
theorem state_known {V s : Nat} {ns : List Nd} (hs : s < 2 ^ V) (h : qfo (V : Int) 0 ns) (j k : Nat) : gd (qck (qcn V s (qdd V s)) (ns.take k)) j ≠ 2 :=
 valsN_known (ns.take k) 0 _ (ndsOK_take ns 0 k h) (fun j => by rw [qdl]; split <;> first | exact ev3_le _ _ _ | omega) (fun j => by
  rw [qdl]; split
  ·rename_i hi; rw [ev3_state hs hi]; split <;> decide
  ·decide) j
theorem cnt_three (vs : List Nat) (h : ∀ j, gd vs j ≤ 2) : ∀ args : List Int, cntV vs args 0 + cntV vs args 1 + cntV vs args 2 = args.length
 | [] => rfl
 | a :: l => by
  have ih := cnt_three vs h l
  have ha := h a.toNat
  have e : ∀ k, cntV vs (a :: l) k = (if gd vs a.toNat = k then 1 else 0) + cntV vs l k := fun k => by
   unfold cntV
   rw [List.filter_cons]
   by_cases hk : gd vs a.toNat = k <;> simp [hk]; omega
  rw [e, e, e, List.length_cons]
  have h3 : gd vs a.toNat = 0 ∨ gd vs a.toNat = 1 ∨ gd vs a.toNat = 2 := by omega
  rcases h3 with h3 | h3 | h3 <;> simp [h3] <;> omega
theorem cnt_no2 {vs : List Nat} (h : ∀ j, gd vs j ≠ 2) (args : List Int) : cntV vs args 2 = 0 := by
 unfold cntV
 rw [List.length_eq_zero_iff, List.filter_eq_nil_iff]
 intro a _; simp [h a.toNat]
theorem lev_one (a b : Bool) : decide (lev a b = 1) = a := by cases a <;> cases b <;> rfl
section
variable {P : Program} {w : World} {ops : Array Oper} {rest : List Oper} {a : Act} {Q : Exit → Act → World → Prop}
theorem wpList_makeNM {d : Option Tmp} {tt t e : TypeId} {l c : Operand} {pos : String} {af : Array Edge} (base : Nat) {z : Value} {bytes : Nat} (T : qee P t e z 1 bytes) (hzc : z.cells = #[z])
  {kl kc : IntKind} {L C : Int} (n m : Nat) (hl : a.eval l = .int kl L) (hc : a.eval c = .int kc C) (hL : L = (n : Int)) (hC : C = (m : Int)) (hnm : n ≤ m) (hm : m ≤ 1000000) (hby : bytes ≤ 1000) (hbase : base ≤ w.heap.size)
  (hK : ∀ w', w'.ownsRow base e 1 (.slice (some ⟨w.heap.size, 0, none⟩) n m) n (List.replicate n z) → w.grownBy w' none → wpList P ops Q rest (a.put d (.slice (some ⟨w.heap.size, 0, none⟩) n m)) w') :
  qap (wpList P ops Q (⟨d, .makeSlice t l c, tt, pos, af, none⟩ :: rest) a w) := by
 obtain ⟨i0, hi, hz0, hz1, hz2⟩ := T.info
 have hb : bytes * m ≤ 1000 * 1000000 := Nat.mul_le_mul hby hm
 refine wpList_plain rfl fun K hK' => ?_
 subst hL; subst hC
 have hb' : (i0.bytes : Int) * (m : Int) ≤ 281474976710656 := by
  have h : ((i0.bytes * m : Nat) : Int) ≤ 281474976710656 := by rw [hz2]; omega
  rwa [Int.natCast_mul] at h
 have hrun := run_makeSlice (P := P) (w := w) t e i0 z T.under hi hz0 kl kc n m (by omega) (by omega) (by rw [hz1, Int.toNat_natCast]; omega) hb' (by omega)
 simp only [Int.toNat_natCast] at hrun
 unfold Oper.wp
 simp [execOp, hl, hc, hrun, Result.andThen]
 refine hK' _ _ (hK _ ⟨by simp, .inr ⟨w.heap.size, m, madeCells z.cells (m * i0.size), rfl, hbase, by rw [hz1, Nat.mul_one]; exact heap_alloc_new w _, hnm, by unfold maxLen; omega, size_madeCells _ _ |>.trans (by rw [hz1]), ?_⟩⟩ (World.grownBy_alloc w _ none))
 rw [hzc, hz1, Nat.mul_one, Nat.mul_one, toList_madeCells_one, List.take_replicate, Nat.min_eq_left hnm]
theorem wpList_stO {ty tt : TypeId} {x y : Operand} {pos : String} {af : Array Edge} {B n cap g : Nat} {e : TypeId} {xs : List Value} (j : Nat) {b : Bool}
  (hown : w.ownsRow B e 1 (.slice (some ⟨g, 0, none⟩) n cap) n xs) (hj : j < n) (hx : a.eval x = .pointer (some ⟨g, j, none⟩)) (hy : a.eval y = .bool b) (hi : (P.info? ty).map (·.size) = some 1)
  (hK : ∀ w', w'.ownsRow B e 1 (.slice (some ⟨g, 0, none⟩) n cap) n (xs.set j (.bool b)) → w.grownBy w' (some g) → wpList P ops Q rest a w') :
  qap (wpList P ops Q (⟨none, .store ty x y, tt, pos, af, none⟩ :: rest) a w) := by
 refine wpList_plain rfl fun K hK' => ?_
 have hlen : xs.length = n := by have := hown.1; omega
 obtain ⟨u, hu⟩ : ∃ u, xs[j]? = some u := ⟨xs[j]'(by omega), List.getElem?_eq_getElem (by omega)⟩
 have hc : w.cell? ⟨g, j, none⟩ = some u := by
  have := World.ownsRow.cells (g := g) hown rfl j u hu
  rwa [qgc, Nat.zero_add] at this
 have hf := hown.frozenAt j
 obtain ⟨i0, hi0, hi1⟩ : ∃ i, P.info? ty = some i ∧ i.size = 1 := by
  cases h : P.info? ty with
  | none => rw [h] at hi; cases hi
  | some i => rw [h] at hi; exact ⟨i, rfl, by simpa using hi⟩
 have hs : (Go.sizeOf ty).run P w = .ok 1 w := by simp [Go.sizeOf, typeInfo, hi0, hi1]
 obtain ⟨k1, k2⟩ := hown.stored j (.bool b)
 have hk := hK' _ _ (hK _ k1 k2)
 clear hK hK'
 unfold Oper.wp
 simp only [execOp, hx, hy]
 go_simp
 try simp only [hs, Result.andThen_ok, if_true, hc, hf]
 simpa [Oper.upon, Act.put] using hk
end
end Go.Proofs.YthhgfhdmfhnklaaGreatDoor
